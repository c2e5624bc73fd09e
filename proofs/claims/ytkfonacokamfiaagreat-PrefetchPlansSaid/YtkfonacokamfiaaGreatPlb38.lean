/- Joined texts, part 38 of what the law stands on: each as its own head says. -/
import Derived.Test.YtkfonacokamfiaaGreatPlb25
import Derived.Test.YtkfonacokamfiaaGreatPlb33
import Derived.Test.YtkfonacokamfiaaGreatPlb36
import Derived.Test.YtkfonacokamfiaaGreatPlb37
import Derived.Test.YtkfonacokamfiaaGreatPlb35
import Derived.Test.YtkfonacokamfiaaGreatPlb4
/- The document's Sign and Canon. (The tail of XRef3, for a seat that has XRefB.) -/
namespace Go.Proofs.YtkfonacokamfiaaGreat
set_option linter.unusedVariables false
set_option linter.unusedSimpArgs false
open Go.RowKit
attribute [local go_sem] wext_cell wext_frozen wext_heap alloc_cell alloc_frozen alloc_heap setCell_cell objCell_cells objFrozen_cells

def signBits (a j : Nat) : Nat → Bool := fun i => if 48 ≤ i ∧ i < j then a.testBit 47 else a.testBit i
theorem sign_sum (a : Nat) (h : a ≤ 18446744073709551615) : ((sumBits (signBits a 64) 64 : Nat) : Int) = signI (a : Int) := by
  have e : sumBits (signBits a 64) 64 = if a % 281474976710656 < 140737488355328 then a % 281474976710656 else a % 281474976710656 + 18446462598732840960 := by
    have h47 : a.testBit 47 = decide (¬ a % 281474976710656 < 140737488355328) := by
      rw [Nat.testBit_eq_decide_div_mod_eq, decide_eq_decide]; omega
    have hm : ∀ i, (a % 281474976710656).testBit i = (decide (i < 48) && a.testBit i) := fun i => Nat.testBit_mod_two_pow a 48 i
    apply Nat.eq_of_testBit_eq
    intro i
    rw [sumBits_testBit]
    split
    · rename_i hlt
      rw [hm]
      unfold signBits
      by_cases h48 : i < 48
      · rw [if_neg (by omega)]; simp [h48, show i < 64 by omega]
      · by_cases h64 : i < 64
        · rw [if_pos (by omega), h47]; simp [h48, hlt]
        · simp [h48, h64]
    · rename_i hlt
      have e2 : a % 281474976710656 + 18446462598732840960 = ((2 ^ 16 - 1) <<< 48) ||| (a % 281474976710656) := by
        rw [nat_join 48 _ _ (by rw [Nat.shiftLeft_eq]) (by omega), Nat.shiftLeft_eq]; omega
      rw [e2, Nat.testBit_or, hm, Nat.testBit_shiftLeft, Nat.testBit_two_pow_sub_one]
      unfold signBits
      by_cases h48 : i < 48
      · rw [if_neg (by omega)]; simp [h48, show i < 64 by omega, show ¬ 48 ≤ i by omega]
      · by_cases h64 : i < 64
        · rw [if_pos (by omega), h47]; simp [h48, hlt, h64]; omega
        · simp [h48, h64]; omega
  rw [e]
  unfold signI
  split <;> split <;> omega

theorem refSign_c (a : Nat) (w : World) (h : a ≤ 18446744073709551615) :
    Calls Tryz.prog 65 #[.int .u64 (a : Int)] w fun e w' => e = .returned (.int .u64 (signI (a : Int))) ∧ Ext w w' := by
  have HS := Aside.mk (sign_sum a h)
  go_enter Tryz.func65, Tryz.ntmps65
  go_wp2
  go_loopw [0, 3] (fun r i wr => ∃ j S : Nat, 48 ≤ j ∧ j ≤ 64 ∧ i = .int .i64 (j : Int) ∧ r = .int .u64 (S : Int) ∧ Aside (S = sumBits (signBits a j) 64) ∧ Ext w wr) (fun _ i _ => 64 - (intOf i).toNat)
  case atStart =>
    refine ⟨48, a, by omega, by omega, rfl, rfl, ?_, Ext.refl _⟩
    refine ⟨?_⟩
    rw [sumBits_congr (g := a.testBit) (fun i _ => by unfold signBits; rw [if_neg (by omega)]), sumBits_eq (by omega)]
  case round =>
    obtain ⟨j, S, hj0, hj, rfl, rfl, HSS, hb⟩ := hrel
    have HB := Lib.hid hb
    clear hb
    have s1 : S ≤ 18446744073709551615 := by have := sumBits_lt (signBits a j) 64; rw [HSS.out]; omega
    by_cases hlt : j < 64
    · have e1 : bitB (S : Int) 47 = a.testBit 47 := by
        rw [show (47 : Int) = ((47 : Nat) : Int) from rfl, bitB_testBit, HSS.out, sumBits_testBit]; simp [signBits]
      obtain ⟨b47, hb47⟩ : ∃ b, b = a.testBit 47 := ⟨_, rfl⟩
      rw [← hb47] at e1
      have E2 : Aside (withN S j b47 = sumBits (signBits a (j + 1)) 64) := ⟨sumBits_congr fun k hk => by
        rw [HSS.out, sumBits_testBit, hb47]
        unfold signBits
        by_cases hkj : k = j
        · subst hkj; simp [hj0]
        · rw [if_neg hkj]
          by_cases h48 : 48 ≤ k ∧ k < j
          · rw [if_pos h48, if_pos (by omega)]; simp [hk]
          · rw [if_neg h48, if_neg (by omega)]; simp [hk]⟩
      clear hb47
      go_wp2_with (first | (go_at_call 59; refine (bit_c _ _ _ (by omega) (by omega) (by omega) (by omega)).mono ?_; rintro e w1 ⟨rfl, hb⟩) | (go_at_call 88; refine (refWith_c _ _ _ _ (by omega) (by omega)).mono ?_; rintro e w1 ⟨rfl, hb⟩))
      go_roundw
      case rel => exact ⟨j + 1, _, by omega, by omega, by go_num, rfl, E2, HB.out.trans (by repeat (first | exact Ext.refl _ | assumption | refine Ext.alloc ?_ _ | refine Ext.drew ?_ | refine Ext.setCell ?_ (by first | (simp; done) | (dsimp only; omega)) _ | refine Ext.trans ?_ (by assumption)))⟩
      case measure => simp [intOf]; omega
    · obtain rfl : j = 64 := by omega
      go_wp2
      go_ret
      exact ⟨by rw [← HS.out, ← HSS.out]; rfl, HB.out⟩

theorem refCanon_c (a : Int) (w : World) (h0 : 0 ≤ a) (h1 : a ≤ 18446744073709551615) :
    Calls Tryz.prog 31 #[.int .u64 a] w fun e w' => e = .returned (.bool (canonB a)) ∧ Ext w w' := by
  have HC := Lib.hid (canon_eq h0 h1)
  have hsg : ∀ w, Calls Tryz.prog 65 #[.int .u64 a] w fun e w' => e = .returned (.int .u64 (signI a)) ∧ Ext w w' := fun w => by
    have := refSign_c a.toNat w (by omega)
    rwa [Int.toNat_of_nonneg h0] at this
  have HSG := Lib.hid hsg
  clear hsg
  go_enter Tryz.func31, Tryz.ntmps31
  go_wp2_with (first | (go_at_call 65; refine (HSG.out _).mono ?_; rintro e w1 ⟨rfl, hb⟩))
  go_ret
  exact ⟨by rw [← HC.out]; rfl, hb⟩
end Go.Proofs.YtkfonacokamfiaaGreat
/- The document's page behind an address: Low, Page, Next. Own text. -/
namespace Go.Proofs.YtkfonacokamfiaaGreat
set_option linter.unusedVariables false
set_option linter.unusedSimpArgs false
open Go.RowKit
attribute [local go_sem] wext_cell wext_frozen wext_heap alloc_cell alloc_frozen alloc_heap setCell_cell objCell_cells objFrozen_cells

set_option maxHeartbeats 1000000 in
theorem rLow1_c (x : Int) (w : World) (h0 : 0 ≤ x) (h1 : x ≤ 18446744073709551615) : Calls Tryz.prog 82 #[.int .u64 x, .int .i64 1] w fun e w' => e = .returned (.int .u64 (x % 4096)) ∧ Ext w w' := by
  have hsz : ∀ w, Calls Tryz.prog 86 #[.int .i64 1] w fun e w' => e = .returned (.int .u64 4096) ∧ Ext w w' := fun w => refSize_c 1 w
  go_enter Tryz.func82, Tryz.ntmps82
  go_wp2_with (first | (go_at_call 86; refine (hsz _).mono ?_; rintro e w1 ⟨rfl, hb⟩; have ⟨hc, hf, hh, hs⟩ := hb.facts; try simp only [World.size_alloc, World.size_setCell, World.size_drew] at hs))
  go_ret
  exact ⟨rfl, (by repeat (first | exact Ext.refl _ | assumption | refine Ext.alloc ?_ _ | refine Ext.drew ?_ | refine Ext.setCell ?_ (by first | (simp; done) | (dsimp only; omega)) _ | refine Ext.trans ?_ (by assumption)))⟩
theorem rPage1_c (x : Int) (w : World) (h0 : 0 ≤ x) (h1 : x ≤ 18446744073709551615) : Calls Tryz.prog 56 #[.int .u64 x, .int .i64 1] w fun e w' => e = .returned (.int .u64 (x - x % 4096)) ∧ Ext w w' := by
  have hlow := fun w => rLow1_c x w h0 h1
  have hb : 0 ≤ x % 4096 ∧ x % 4096 ≤ x := by omega
  generalize x % 4096 = lo at *
  go_enter Tryz.func56, Tryz.ntmps56
  go_wp2_with (first | (go_at_call 82; refine (hlow _).mono ?_; rintro e w1 ⟨rfl, hb1⟩))
  go_ret
  exact ⟨rfl, (by repeat (first | exact Ext.refl _ | assumption | refine Ext.alloc ?_ _ | refine Ext.drew ?_ | refine Ext.setCell ?_ (by first | (simp; done) | (dsimp only; omega)) _ | refine Ext.trans ?_ (by assumption)))⟩
set_option maxHeartbeats 1000000 in
theorem rNext_c (a : Int) (w : World) (h0 : 0 ≤ a) (h1 : a ≤ 18446744073709551615) :
    Calls Tryz.prog 28 #[.int .u64 a] w fun e w' => e = .returned (.tuple #[.int .u64 (if nextB a then behindI a else 0), .bool (nextB a)]) ∧ Ext w w' := by
  have ⟨b0, b1, b2⟩ := behindI_le h0 h1
  have HP := Lib.hid (fun w => rPage1_c a w h0 h1)
  have HA := Lib.hid (fun w => refCanon_c a w h0 h1)
  have HB := Lib.hid (fun w => refCanon_c (behindI a) w b0 b1)
  have hbi : IntKind.u64.wrap (a - a % 4096 + 4096) = behindI a := rfl
  have hn : nextB a = (canonB a && canonB (behindI a) && decide (4096 ≤ behindI a)) := rfl
  have hp0 : 0 ≤ a - a % 4096 := by omega
  generalize nextB a = nb at *
  generalize behindI a = b at *
  generalize a - a % 4096 = pg at *
  generalize canonB a = ca at *
  generalize canonB b = cb at *
  have HN := Lib.hid hn
  clear hn
  have tok : True := trivial
  cases ca
  · have hN := HN.out
    simp only [Bool.false_and] at hN
    subst hN
    clear HB
    go_enter Tryz.func28, Tryz.ntmps28
    go_wp2_with (first | (go_at_call 56; refine (HP.out _).mono ?_; rintro e w1 ⟨rfl, hb1⟩) | (go_at_call 31; refine (HA.out _).mono ?_; rintro e w2 ⟨rfl, hb2⟩))
    go_ret2
    exact ⟨rfl, (by repeat (first | exact Ext.refl _ | assumption | refine Ext.alloc ?_ _ | refine Ext.drew ?_ | refine Ext.setCell ?_ (by first | (simp; done) | (dsimp only; omega)) _ | refine Ext.trans ?_ (by assumption)))⟩
  · cases cb
    · have hN := HN.out
      simp only [Bool.true_and, Bool.false_and] at hN
      subst hN
      go_enter Tryz.func28, Tryz.ntmps28
      go_wp2_with (first | (go_at_call 56; refine (HP.out _).mono ?_; rintro e w1 ⟨rfl, hb1⟩) | (go_at_call 31; (with_reducible refine (HA.out _).mono ?_); clear HA; rintro e w2 ⟨rfl, hb2⟩) | (go_at_call 31; (with_reducible refine (HB.out _).mono ?_); rintro e w3 ⟨rfl, hb3⟩))
      go_ret2
      exact ⟨rfl, (by repeat (first | exact Ext.refl _ | assumption | refine Ext.alloc ?_ _ | refine Ext.drew ?_ | refine Ext.setCell ?_ (by first | (simp; done) | (dsimp only; omega)) _ | refine Ext.trans ?_ (by assumption)))⟩
    · by_cases hlt : 4096 ≤ b
      · have hN := HN.out
        rw [decide_eq_true hlt] at hN
        simp only [Bool.true_and] at hN
        subst hN
        have hd : (b == 0) = false := by simp; omega
        go_enter Tryz.func28, Tryz.ntmps28
        go_wp2_with (first | (go_at_call 56; refine (HP.out _).mono ?_; rintro e w1 ⟨rfl, hb1⟩) | (go_at_call 31; (with_reducible refine (HA.out _).mono ?_); clear HA; rintro e w2 ⟨rfl, hb2⟩) | (go_at_call 31; (with_reducible refine (HB.out _).mono ?_); rintro e w3 ⟨rfl, hb3⟩))
        go_ret2
        exact ⟨rfl, (by repeat (first | exact Ext.refl _ | assumption | refine Ext.alloc ?_ _ | refine Ext.drew ?_ | refine Ext.setCell ?_ (by first | (simp; done) | (dsimp only; omega)) _ | refine Ext.trans ?_ (by assumption)))⟩
      · have hN := HN.out
        rw [decide_eq_false hlt] at hN
        simp only [Bool.and_false] at hN
        subst hN
        obtain rfl : b = 0 := by omega
        go_enter Tryz.func28, Tryz.ntmps28
        go_wp2_with (first | (go_at_call 56; refine (HP.out _).mono ?_; rintro e w1 ⟨rfl, hb1⟩) | (go_at_call 31; (with_reducible refine (HA.out _).mono ?_); clear HA; rintro e w2 ⟨rfl, hb2⟩) | (go_at_call 31; (with_reducible refine (HB.out _).mono ?_); rintro e w3 ⟨rfl, hb3⟩))
        go_ret2
        exact ⟨rfl, (by repeat (first | exact Ext.refl _ | assumption | refine Ext.alloc ?_ _ | refine Ext.drew ?_ | refine Ext.setCell ?_ (by first | (simp; done) | (dsimp only; omega)) _ | refine Ext.trans ?_ (by assumption)))⟩
end Go.Proofs.YtkfonacokamfiaaGreat
/- The document's Plan: which pages lie ahead. Own text. -/
namespace Go.Proofs.YtkfonacokamfiaaGreat
set_option linter.unusedVariables false
set_option linter.unusedSimpArgs false
open Go.RowKit
attribute [local go_sem] wext_cell wext_frozen wext_heap alloc_cell alloc_frozen alloc_heap setCell_cell objCell_cells objFrozen_cells

set_option maxRecDepth 100000 in
set_option maxHeartbeats 2000000 in
theorem rPlan_c (a many : Int) (w : World) (ha0 : 0 ≤ a) (ha1 : a ≤ 18446744073709551615) (hm0 : -9223372036854775808 ≤ many) (hm1 : many ≤ 9223372036854775807) :
    Calls Tryz.prog 11 #[.int .u64 a, .int .i64 many] w (EndPlan a (min many 8).toNat w) := by
  obtain ⟨m, hm⟩ : ∃ m, m = (min many 8).toNat := ⟨_, rfl⟩
  rw [← hm]
  have hm8 : m ≤ 8 := by omega
  have hlt1 : ∀ j : Nat, j < m → (j : Int) < many ∧ (j : Int) < 8 := fun j h => by omega
  have hge : ∀ j : Nat, j = m → (¬ (j : Int) < many) ∨ ((j : Int) < many ∧ ¬ (j : Int) < 8) := fun j h => by omega
  clear hm
  generalize hE : EndPlan a m w = E
  have HE := Lib.hid hE
  clear hE
  go_enter Tryz.func11, Tryz.ntmps11
  go_wp2
  go_loopw [0, 5, 6] (fun av l iv wr => ∃ (j : Nat) (la : Option Addr) (lc : Nat), j ≤ m ∧ av = .int .u64 (itB a j) ∧ iv = .int .i64 j ∧ l = .slice la j lc ∧ w.heap.size ≤ wr.heap.size ∧ Hid (Owns wr 23 1 (.slice la j lc) j (rowB a j) ∧ (∀ g, (Value.slice la j lc).ownBlock = some g → w.heap.size ≤ g) ∧ Ext w wr ∧ ∀ i, i < j → nextB (itB a i) = true)) (fun _ _ i _ => m - (intOf i).toNat)
  case atStart => exact ⟨0, none, 0, by omega, rfl, rfl, rfl, by omega, Lib.hid ⟨Owns.nil .., fun g e => (by cases e), Ext.refl _, fun i h => absurd h (by omega)⟩⟩
  case round =>
    obtain ⟨j, la, lc, hj, rfl, rfl, rfl, hwr, hR⟩ := hrel
    by_cases hlt : j < m
    · obtain ⟨l1, l2⟩ := hlt1 j hlt
      clear hlt1 hge
      have ⟨c0, c1⟩ := itB_le ha0 ha1 j
      have ⟨x0, x1⟩ := itB_le ha0 ha1 (j + 1)
      have HN := Lib.hid (fun w => rNext_c (itB a j) w c0 c1)
      have hxe : behindI (itB a j) = itB a (j + 1) := rfl
      have hrs := rowB_succ a j
      rw [hxe] at HN hrs
      have HRS := Lib.hid hrs
      clear hrs hxe
      cases hnb : nextB (itB a j)
      case false =>
        rw [hnb] at HN
        have HNB := Lib.hid hnb
        generalize (if false = true then itB a (j + 1) else 0) = nx at HN
        clear hnb HRS
        generalize itB a j = xj at HN ⊢
        go_wp2_with (first | (go_at_call 28; refine (HN.out _).mono ?_; rintro e w3 ⟨rfl, hb3⟩))
        (try go_ret)
        rw [← HE.out]
        exact ⟨_, j, rfl, hR.out.1.ext hb3, by omega, hR.out.2.2.2, .inr HNB.out, hR.out.2.2.1.trans hb3⟩
      case true =>
        rw [hnb] at HN
        simp only [if_true] at HN
        have HNB := Lib.hid hnb
        have HXN : Hid (itB a (j + 1) = itB a (j + 1)) := Lib.hid rfl
        obtain ⟨x, hx⟩ : ∃ x, itB a (j + 1) = x := ⟨_, rfl⟩
        rw [hx] at HN HRS x0 x1
        have HX := Lib.hid hx
        clear hnb hx HXN
        generalize itB a j = xj at HN HRS ⊢
        go_upto_region 8 with (first | (go_at_call 28; refine (HN.out _).mono ?_; rintro e U ⟨rfl, hb3⟩))
        have HA := Lib.hid ((hR.out.1.ext hb3).ext ((Ext.refl U).alloc (.cells #[.int .u64 x] 23)))
        have hzU := hb3.size
        have UE := Lib.hid hb3
        clear hb3
        go_wp2_with (first | (at_builtin; refine wpList_append_owns rfl _ _ _ _ 1 8 wordRow rfl _ rfl j _ HA.out _ 1 1 rfl [.int .u64 x] rfl (fun j u hu => by rw [add0, heap_cell (alloc_same U _) j]; simpa using hu) (by simp [Value.oneCell']) (by unfold maxLen; omega) (by omega) ?_; intro v9 w9 q1 q2 q3; replace q2 : (U.alloc (.cells #[.int .u64 x] 23)).grownBy w9 (Value.slice la j lc).ownBlock := q2; replace q3 : v9.ownBlock = (Value.slice la j lc).ownBlock ∨ v9.ownBlock = some (U.alloc (.cells #[.int .u64 x] 23)).heap.size := q3; obtain ⟨a9, c9, rfl, -, -⟩ := q1.form; simp only [Act.put, Array.set!_eq_setIfInBounds, List.setIfInBounds_toArray, List.set_cons_succ, List.set_cons_zero]))
        all_goals
          have ⟨g1, g2, g3, g4⟩ := grown_after (prev := Value.slice la j lc) (o := (.cells #[.int .u64 x] 23)) (base := w.heap.size) (by omega) (Nat.le_refl _) (hR.out.2.2.1.trans UE.out) hR.out.2.1 q2 q3
          refine ⟨⟨j + 1, a9, c9, hlt, by rw [HX.out], by go_num, rfl, g4, Lib.hid ⟨?_, g3, g1, fun i hi => ?_⟩⟩, by simp [intOf]; omega⟩
          · rw [HRS.out]; exact q1
          · by_cases e : i = j
            · rw [e]; exact HNB.out
            · exact hR.out.2.2.2 i (by omega)
    · have hjm : j = m := by omega
      have hgj := hge j hjm
      clear hge hlt1
      subst hjm
      rcases hgj with h | ⟨h, h8⟩
      all_goals
        go_wp2
        (try go_ret)
        rw [← HE.out]
        exact ⟨_, j, rfl, hR.out.1, by omega, hR.out.2.2.2, .inl rfl, hR.out.2.2.1⟩
end Go.Proofs.YtkfonacokamfiaaGreat
/- The document's memories, plainly: slots in turn, and the words they hold; when they are the program's. -/
namespace Go.Proofs.YtkfonacokamfiaaGreat
set_option linter.unusedVariables false
set_option linter.unusedSimpArgs false
open Go.RowKit
attribute [local go_sem] wext_cell wext_frozen wext_heap alloc_cell alloc_frozen alloc_heap setCell_cell objCell_cells objFrozen_cells

def wordL (a : Int) : List (Int × Int) → Int
  | [] => 0
  | x :: L => if x.1 = a then x.2 else wordL a L
def setL (a x : Int) : Bool → List (Int × Int) → List (Int × Int)
  | done, [] => if done then [] else [(a, x)]
  | done, y :: L => if y.1 = a then setL a x done L else if !done && decide (a < y.1) then (a, x) :: y :: setL a x true L else y :: setL a x done L
theorem setL_same {a x : Int} {d : Bool} {y : Int × Int} {L : List (Int × Int)} (h : y.1 = a) : setL a x d (y :: L) = setL a x d L := by
  conv => lhs; unfold setL
  rw [if_pos h]
theorem setL_in {a x : Int} {y : Int × Int} {L : List (Int × Int)} (h : y.1 ≠ a) (h2 : a < y.1) : setL a x false (y :: L) = (a, x) :: y :: setL a x true L := by
  conv => lhs; unfold setL
  rw [if_neg h, if_pos (by simp [h2])]
theorem setL_on {a x : Int} {y : Int × Int} {L : List (Int × Int)} (h : y.1 ≠ a) (h2 : ¬ a < y.1) : setL a x false (y :: L) = y :: setL a x false L := by
  conv => lhs; unfold setL
  rw [if_neg h, if_neg (by simp [h2])]
theorem setL_done {a x : Int} {y : Int × Int} {L : List (Int × Int)} (h : y.1 ≠ a) : setL a x true (y :: L) = y :: setL a x true L := by
  conv => lhs; unfold setL
  rw [if_neg h, if_neg (by simp)]
theorem word_set (a x b : Int) : ∀ (L : List (Int × Int)) (d : Bool), wordL b (setL a x d L) = if b = a then (if d then 0 else x) else wordL b L
  | [], true => by simp [setL, wordL]
  | [], false => by
    show wordL b [(a, x)] = _
    unfold wordL
    by_cases h : a = b
    · rw [if_pos h, if_pos h.symm]; rfl
    · rw [if_neg h, if_neg (fun e => h e.symm)]; rfl
  | y :: L, d => by
    by_cases h1 : y.1 = a
    · rw [setL_same h1, word_set a x b L d]
      by_cases h : b = a
      · rw [if_pos h, if_pos h]
      · rw [if_neg h, if_neg h]
        conv => rhs; unfold wordL
        rw [if_neg (by omega)]
    · cases d with
      | true =>
        rw [setL_done h1]
        conv => lhs; unfold wordL
        rw [word_set a x b L true]
        by_cases h : b = a
        · rw [if_pos h, if_pos h, if_neg (by omega)]
        · rw [if_neg h, if_neg h]
          conv => rhs; unfold wordL
      | false =>
        by_cases h2 : a < y.1
        · rw [setL_in h1 h2]
          conv => lhs; unfold wordL
          by_cases h : b = a
          · rw [if_pos h, if_pos h.symm]; rfl
          · rw [if_neg h, if_neg (fun e => h e.symm)]
            unfold wordL
            rw [word_set a x b L true, if_neg h]
        · rw [setL_on h1 h2]
          conv => lhs; unfold wordL
          rw [word_set a x b L false]
          by_cases h : b = a
          · rw [if_pos h, if_pos h, if_neg (by omega)]
          · rw [if_neg h, if_neg h]
            conv => rhs; unfold wordL
theorem set_length (a x : Int) : ∀ (L : List (Int × Int)) (d : Bool), (setL a x d L).length ≤ L.length + 1
  | [], true => by simp [setL]
  | [], false => by simp [setL]
  | y :: L, d => by
    by_cases h1 : y.1 = a
    · rw [setL_same h1]; have := set_length a x L d; simp only [List.length_cons]; omega
    · cases d with
      | true => rw [setL_done h1]; have := set_length a x L true; simp only [List.length_cons]; omega
      | false =>
        by_cases h2 : a < y.1
        · rw [setL_in h1 h2]
          have : ∀ L : List (Int × Int), (setL a x true L).length ≤ L.length := fun L => by
            induction L with
            | nil => simp [setL]
            | cons z L ih =>
              by_cases hz : z.1 = a
              · rw [setL_same hz]; simp only [List.length_cons]; omega
              · rw [setL_done hz]; simp only [List.length_cons]; omega
          have := this L
          simp only [List.length_cons]; omega
        · rw [setL_on h1 h2]; have := set_length a x L false; simp only [List.length_cons]; omega
theorem mem_set {a x : Int} {z : Int × Int} : ∀ {L : List (Int × Int)} {d : Bool}, z ∈ setL a x d L → (d = false ∧ z = (a, x)) ∨ (z ∈ L ∧ z.1 ≠ a)
  | [], true, h => by simp [setL] at h
  | [], false, h => by simp [setL] at h; exact .inl ⟨rfl, h⟩
  | y :: L, d, h => by
    by_cases h1 : y.1 = a
    · rw [setL_same h1] at h
      rcases mem_set h with k | ⟨k1, k2⟩
      · exact .inl k
      · exact .inr ⟨List.mem_cons_of_mem _ k1, k2⟩
    · cases d with
      | true =>
        rw [setL_done h1] at h
        rcases List.mem_cons.1 h with rfl | h
        · exact .inr ⟨List.mem_cons_self .., h1⟩
        · rcases mem_set h with ⟨k, _⟩ | ⟨k1, k2⟩
          · cases k
          · exact .inr ⟨List.mem_cons_of_mem _ k1, k2⟩
      | false =>
        by_cases h2 : a < y.1
        · rw [setL_in h1 h2] at h
          rcases List.mem_cons.1 h with rfl | h
          · exact .inl ⟨rfl, rfl⟩
          rcases List.mem_cons.1 h with rfl | h
          · exact .inr ⟨List.mem_cons_self .., h1⟩
          · rcases mem_set h with ⟨k, _⟩ | ⟨k1, k2⟩
            · cases k
            · exact .inr ⟨List.mem_cons_of_mem _ k1, k2⟩
        · rw [setL_on h1 h2] at h
          rcases List.mem_cons.1 h with rfl | h
          · exact .inr ⟨List.mem_cons_self .., h1⟩
          · rcases mem_set h with ⟨_, k⟩ | ⟨k1, k2⟩
            · exact .inl ⟨rfl, k⟩
            · exact .inr ⟨List.mem_cons_of_mem _ k1, k2⟩
theorem nodup_set (a x : Int) : ∀ (L : List (Int × Int)) (d : Bool), (L.map (·.1)).Nodup → ((setL a x d L).map (·.1)).Nodup
  | [], true, _ => by simp [setL]
  | [], false, _ => by simp [setL]
  | y :: L, d, h => by
    simp only [List.map_cons, List.nodup_cons] at h
    have hne : ∀ (d : Bool), y.1 ≠ a → y.1 ∉ (setL a x d L).map (·.1) := fun d h1 hm => by
      obtain ⟨z, hz, e⟩ := List.mem_map.1 hm
      rcases mem_set hz with ⟨_, k⟩ | ⟨k1, k2⟩
      · rw [k] at e; exact h1 e.symm
      · exact h.1 (List.mem_map.2 ⟨z, k1, e⟩)
    by_cases h1 : y.1 = a
    · rw [setL_same h1]; exact nodup_set a x L d h.2
    · cases d with
      | true => rw [setL_done h1]; simp only [List.map_cons, List.nodup_cons]; exact ⟨hne true h1, nodup_set a x L true h.2⟩
      | false =>
        by_cases h2 : a < y.1
        · rw [setL_in h1 h2]
          simp only [List.map_cons, List.nodup_cons, List.mem_cons, not_or]
          refine ⟨⟨fun e => h1 e.symm, fun hm => ?_⟩, hne true h1, nodup_set a x L true h.2⟩
          obtain ⟨z, hz, e⟩ := List.mem_map.1 hm
          rcases mem_set hz with ⟨k, _⟩ | ⟨_, k2⟩
          · cases k
          · exact k2 e
        · rw [setL_on h1 h2]; simp only [List.map_cons, List.nodup_cons]; exact ⟨hne false h1, nodup_set a x L false h.2⟩
theorem word_mem {z : Int × Int} : ∀ {L : List (Int × Int)}, (L.map (·.1)).Nodup → z ∈ L → wordL z.1 L = z.2
  | [], _, h => by cases h
  | y :: L, hn, h => by
    simp only [List.map_cons, List.nodup_cons] at hn
    unfold wordL
    rcases List.mem_cons.1 h with rfl | h
    · rw [if_pos rfl]
    · rw [if_neg (fun e => hn.1 (List.mem_map.2 ⟨z, h, e.symm⟩))]
      exact word_mem hn.2 h

/-- The document's slots are the program's words. -/
structure RefOk (B : Int) (S : List (Int × Int)) (M : Int → Int) : Prop where
  nodup : (S.map (·.1)).Nodup
  good : ∀ z ∈ S, 0 ≤ z.1 ∧ errM B z.1 = 0
  wide : ∀ s, 0 ≤ M s ∧ M s ≤ 18446744073709551615
  agree : ∀ a, 0 ≤ a → errM B a = 0 → wordL a S = M (a / 8)
theorem RefOk.nil (B : Int) : RefOk B [] (fun _ => 0) := ⟨by simp, fun z h => (by cases h), fun _ => ⟨Int.le_refl _, by show (0 : Int) ≤ _; omega⟩, fun _ _ _ => rfl⟩
theorem RefOk.set {B : Int} {S : List (Int × Int)} {M : Int → Int} (h : RefOk B S M) {a x : Int} (h0 : 0 ≤ a) (he : errM B a = 0) (hx0 : 0 ≤ x) (hx1 : x ≤ 18446744073709551615) : RefOk B (setL a x false S) (setM M (a / 8) x) := by
  refine ⟨nodup_set a x S false h.nodup, fun z hz => ?_, setM_range h.wide hx0 hx1, fun b hb0 hb => ?_⟩
  · rcases mem_set hz with ⟨_, rfl⟩ | ⟨k, _⟩
    · exact ⟨h0, he⟩
    · exact h.good z k
  · rw [word_set]
    have h1 := (errM_zero he).2
    have h2 := (errM_zero hb).2
    unfold setM
    by_cases e : b = a
    · subst e; rw [if_pos rfl, if_pos rfl]; rfl
    · rw [if_neg e, if_neg (by omega)]
      exact h.agree b hb0 hb
theorem RefOk.entry {B : Int} {S : List (Int × Int)} {M : Int → Int} (h : RefOk B S M) {z : Int × Int} (hz : z ∈ S) : 0 ≤ z.1 ∧ errM B z.1 = 0 ∧ M (z.1 / 8) = z.2 :=
  ⟨(h.good z hz).1, (h.good z hz).2, by rw [← h.agree z.1 (h.good z hz).1 (h.good z hz).2]; exact word_mem h.nodup hz⟩
theorem RefOk.word_le {B : Int} {S : List (Int × Int)} {M : Int → Int} (h : RefOk B S M) {z : Int × Int} (hz : z ∈ S) : (0 ≤ z.1 ∧ z.1 ≤ 4194303) ∧ 0 ≤ z.2 ∧ z.2 ≤ 18446744073709551615 := by
  obtain ⟨h1, h2, h3⟩ := h.entry hz
  exact ⟨⟨h1, errM_le h2⟩, h3 ▸ h.wide _⟩
end Go.Proofs.YtkfonacokamfiaaGreat
