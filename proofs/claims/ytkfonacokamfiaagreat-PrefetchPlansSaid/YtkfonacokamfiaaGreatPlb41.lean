/- Joined texts, part 41 of what the law stands on: each as its own head says. -/
import Derived.Test.YtkfonacokamfiaaGreatPlb25
import Derived.Test.YtkfonacokamfiaaGreatPlb40
import Derived.Test.YtkfonacokamfiaaGreatPlb27
import Derived.Test.YtkfonacokamfiaaGreatPlb5
import Derived.Test.YtkfonacokamfiaaGreatPlb6
/- The document's tables, tops and bare words; are its paths the same? -/
namespace Go.Proofs.YtkfonacokamfiaaGreat
set_option linter.unusedVariables false
set_option linter.unusedSimpArgs false
open Go.RowKit
attribute [local go_sem] wext_cell wext_frozen wext_heap alloc_cell alloc_frozen alloc_heap setCell_cell objCell_cells objFrozen_cells
attribute [local go_sem high] rt_eql rt_neq st_eql st_neq

theorem ref1Get_c (x lo n : Int) (w : World) (hx : 0 ≤ x) (hx1 : x ≤ 18446744073709551615) (h0 : 0 ≤ lo) (h1 : 1 ≤ n) (h2 : lo ≤ 63) (h3 : n ≤ 64 - lo) (h4 : n ≤ 63) :
    Calls Tryz.prog 87 #[.int .u64 x, .int .i64 lo, .int .i64 n] w fun e w' => e = .returned (.int .u64 (x / pow2 lo % pow2 n)) ∧ Ext w w' := by
  have hI := Lib.hid (fun w => refIs_c lo n w h0 h1 (by omega) h3)
  have hp := pow2_pos lo
  have hp2 := pow2_pos n
  have hq0 : 0 ≤ x / pow2 lo := Int.ediv_nonneg hx (by omega)
  have hq1 : x / pow2 lo ≤ 18446744073709551615 := by have := Int.ediv_le_self (pow2 lo) hx; omega
  have hle := pow2_le n h4
  have n64 : (n == 64) = false := by rw [beq_eq_false_iff_ne]; omega
  have HPl := Lib.hid (fun w => power_c lo w h0 h2)
  have HPn := Lib.hid (fun w => power_c n w (by omega) h4)
  have tok1 : True := trivial
  go_enter Tryz.func87, Tryz.ntmps87
  go_wp2_with (first | (go_at_call 116; refine (hI.out _).mono ?_; rintro e w1 ⟨rfl, hb1⟩) | (go_at_call 84; have _t := tok1; clear _t; refine (HPl.out _).mono ?_; rintro e w2 ⟨rfl, hb2⟩; clear tok1) | (go_at_call 84; refine (HPn.out _).mono ?_; rintro e w3 ⟨rfl, hb3⟩))
  all_goals
    go_ret
    exact ⟨rfl, (by repeat (first | exact Ext.refl _ | assumption | refine Ext.alloc ?_ _ | refine Ext.drew ?_ | refine Ext.setCell ?_ (by first | (simp; done) | (dsimp only; omega)) _ | refine Ext.trans ?_ (by assumption)))⟩
theorem refTable_c (x : Int) (w : World) (h0 : 0 ≤ x) (h1 : x ≤ 18446744073709551615) : Calls Tryz.prog 64 #[.int .u64 x] w fun e w' => e = .returned (.int .u64 (tabI x)) ∧ Ext w w' := by
  have hg : ∀ w, Calls Tryz.prog 87 #[.int .u64 x, .int .i64 12, .int .i64 40] w fun e w' => e = .returned (.int .u64 (x / 4096 % 1099511627776)) ∧ Ext w w' := fun w => ref1Get_c x 12 40 w h0 h1 (by omega) (by omega) (by omega) (by omega) (by omega)
  have ht := tab_d x
  have HT := Lib.hid ht
  clear ht
  go_enter Tryz.func64, Tryz.ntmps64
  go_wp2_with (first | (go_at_call 87; refine (hg _).mono ?_; rintro e w1 ⟨rfl, hb1⟩))
  go_ret
  exact ⟨by rw [HT.out]; rfl, (by repeat (first | exact Ext.refl _ | assumption | refine Ext.alloc ?_ _ | refine Ext.drew ?_ | refine Ext.setCell ?_ (by first | (simp; done) | (dsimp only; omega)) _ | refine Ext.trans ?_ (by assumption)))⟩
theorem refTop_c (root : Int) (w : World) (h0 : 0 ≤ root) (h1 : root ≤ 18446744073709551615) :
    Calls Tryz.prog 30 #[.int .u64 root] w fun e w' => e = .returned (.agg #[.int .i64 4, .int .u64 (tabI root), .bool true, .bool true, .bool true]) ∧ Ext w w' := by
  have HT := Lib.hid (fun w => refTable_c root w h0 h1)
  generalize tabI root = tb at HT
  go_enter Tryz.func30, Tryz.ntmps30
  go_wp2_with (first | (go_at_call 64; refine (HT.out _).mono ?_; rintro e w1 ⟨rfl, hb1⟩; have ⟨hc, hf, hh, hs⟩ := hb1.facts; try simp only [World.size_alloc, World.size_setCell, World.size_drew] at hs))
  have B1 := (hb1.block w.heap.size (by simp)).trans (alloc_same ..)
  have E2 : Ext w w1 := Ext.trans (by repeat (first | exact Ext.refl _ | assumption | refine Ext.alloc ?_ _ | refine Ext.drew ?_ | refine Ext.setCell ?_ (by first | (simp; done) | (dsimp only; omega)) _ | refine Ext.trans ?_ (by assumption))) hb1
  refine post_gen (fun U => U.heap[w.heap.size]? = some (.cells #[.int .i64 4, .int .u64 tb, .bool true, .bool true, .bool true] 107 (0, 0)) ∧ Ext w U) ⟨setCell_heap_same (setCell_heap_same (setCell_heap_same (setCell_heap_same (setCell_heap_same B1)))), Ext.setCell (Ext.setCell (Ext.setCell (Ext.setCell (Ext.setCell E2 (by simp) _) (by simp) _) (by simp) _) (by simp) _) (by simp) _⟩ ?_
  clear hc hf hh hs hb1 B1 E2
  rintro U ⟨m5, e5⟩
  have v0 := (heap_cell m5 0).trans rfl
  have v1 := (heap_cell m5 1).trans rfl
  have v2 := (heap_cell m5 2).trans rfl
  have v3 := (heap_cell m5 3).trans rfl
  have v4 := (heap_cell m5 4).trans rfl
  clear m5
  refine bodyPost_ret (by simp [results, Tryz.results30, go_sem, ↓IntWalk.iteOmega, *]; try rfl) rfl ⟨rfl, e5⟩

def bareN (n : Nat) : Nat := withN (withN n 5 false) 6 false
theorem withN_test (n i k : Nat) (b : Bool) : (withN n i b).testBit k = (decide (k < 64) && if k = i then b else n.testBit k) := by unfold withN; rw [sumBits_testBit]
theorem bareN_test (n k : Nat) : (bareN n).testBit k = (decide (k < 64) && !(decide (k = 5) || decide (k = 6)) && n.testBit k) := by
  unfold bareN
  rw [withN_test]
  by_cases h6 : k = 6
  · simp [h6]
  · rw [if_neg h6, withN_test]
    by_cases h5 : k = 5
    · simp [h5]
    · simp [h5, h6]
theorem bareN_le (n : Nat) : bareN n ≤ 18446744073709551615 := by
  unfold bareN withN
  have := sumBits_lt (fun k => if k = 6 then false else (sumBits (fun k => if k = 5 then false else n.testBit k) 64).testBit k) 64
  omega
theorem bareN_eqv {n m : Nat} (hn : n ≤ 18446744073709551615) (hm : m ≤ 18446744073709551615) : bareN n = bareN m ↔ eqv (n : Int) (m : Int) := by
  constructor
  · intro h
    have ht : ∀ k, k ≠ 5 → k ≠ 6 → n.testBit k = m.testBit k := fun k h5 h6 => by
      by_cases hk : k < 64
      · have := congrArg (Nat.testBit · k) h
        simp only [bareN_test] at this
        simpa [h5, h6, hk] using this
      · have e : ∀ z : Nat, z ≤ 18446744073709551615 → z.testBit k = false := fun z hz => Nat.testBit_lt_two_pow (Nat.lt_of_lt_of_le (by omega : z < 2 ^ 64) (Nat.pow_le_pow_right (by omega) (by omega)))
        rw [e n hn, e m hm]
    have h1 : n / 128 = m / 128 := by
      apply Nat.eq_of_testBit_eq
      intro i
      rw [show (128 : Nat) = 2 ^ 7 from rfl, Nat.testBit_div_two_pow, Nat.testBit_div_two_pow]
      exact ht _ (by omega) (by omega)
    have h2 : n % 32 = m % 32 := by
      apply Nat.eq_of_testBit_eq
      intro i
      rw [show (32 : Nat) = 2 ^ 5 from rfl, Nat.testBit_mod_two_pow, Nat.testBit_mod_two_pow]
      by_cases hi : i < 5
      · rw [ht i (by omega) (by omega)]
      · simp [hi]
    unfold eqv; omega
  · intro h
    apply Nat.eq_of_testBit_eq
    intro k
    rw [bareN_test, bareN_test]
    by_cases h56 : k = 5 ∨ k = 6
    · rcases h56 with rfl | rfl <;> simp
    · rw [eqv_test h k (by omega)]
def bareI (x : Int) : Int := (bareN x.toNat : Int)
theorem bareI_ne {x y : Int} (h0 : 0 ≤ x) (h1 : x ≤ 18446744073709551615) (k0 : 0 ≤ y) (k1 : y ≤ 18446744073709551615) : (bareI x != bareI y) = !(orD x == orD y) := by
  have e : bareI x = bareI y ↔ orD x = orD y := by
    unfold bareI
    rw [Int.ofNat_inj, bareN_eqv (by omega) (by omega), eqv_or, Int.toNat_of_nonneg h0, Int.toNat_of_nonneg k0]
  by_cases hx : orD x = orD y
  · have h9 := e.2 hx
    rw [h9, hx]; simp
  · have : bareI x ≠ bareI y := fun h => hx (e.1 h)
    rw [(bne_iff_ne).2 this, (beq_eq_false_iff_ne).2 hx]; rfl
end Go.Proofs.YtkfonacokamfiaaGreat
/- The document's entries: slots, leaves, reserved bits, frames. -/
namespace Go.Proofs.YtkfonacokamfiaaGreat
set_option linter.unusedVariables false
set_option linter.unusedSimpArgs false
open Go.RowKit
attribute [local go_sem] wext_cell wext_frozen wext_heap alloc_cell alloc_frozen alloc_heap setCell_cell objCell_cells objFrozen_cells

theorem rIndex_c (a l : Int) (w : World) (h0 : 0 ≤ a) (h1 : a ≤ 18446744073709551615) (hl0 : 1 ≤ l) (hl1 : l ≤ 4) :
    Calls Tryz.prog 83 #[.int .u64 a, .int .i64 l] w fun e w' => e = .returned (.int .i64 (idxI a l)) ∧ Ext w w' := by
  have key : ∀ (p : Int) (n : Int), 0 ≤ n → n ≤ 63 → pow2 n = p → ∀ w, Calls Tryz.prog 84 #[.int .i64 n] w fun e w' => e = .returned (.int .u64 p) ∧ Ext w w' := fun p n h1 h2 e w => by rw [← e]; exact power_c n w h1 h2
  rcases (show l = 1 ∨ l = 2 ∨ l = 3 ∨ l = 4 by omega) with rfl | rfl | rfl | rfl
  · have HP := Lib.hid (key 4096 12 (by omega) (by omega) (by decide))
    clear key
    go_enter Tryz.func83, Tryz.ntmps83
    go_wp2_with (first | (go_at_call 84; refine (HP.out _).mono ?_; rintro e w1 ⟨rfl, hb1⟩))
    go_ret
    exact ⟨rfl, hb1⟩
  · have HP := Lib.hid (key 2097152 21 (by omega) (by omega) (by decide))
    clear key
    go_enter Tryz.func83, Tryz.ntmps83
    go_wp2_with (first | (go_at_call 84; refine (HP.out _).mono ?_; rintro e w1 ⟨rfl, hb1⟩))
    go_ret
    exact ⟨rfl, hb1⟩
  · have HP := Lib.hid (key 1073741824 30 (by omega) (by omega) (by decide))
    clear key
    go_enter Tryz.func83, Tryz.ntmps83
    go_wp2_with (first | (go_at_call 84; refine (HP.out _).mono ?_; rintro e w1 ⟨rfl, hb1⟩))
    go_ret
    exact ⟨rfl, hb1⟩
  · have HP := Lib.hid (key 549755813888 39 (by omega) (by omega) (by decide))
    clear key
    go_enter Tryz.func83, Tryz.ntmps83
    go_wp2_with (first | (go_at_call 84; refine (HP.out _).mono ?_; rintro e w1 ⟨rfl, hb1⟩))
    go_ret
    exact ⟨rfl, hb1⟩
theorem rSlot_c (t a l : Int) (w : World) (t0 : 0 ≤ t) (t1 : t ≤ 18446744073709551615) (h0 : 0 ≤ a) (h1 : a ≤ 18446744073709551615) (hl0 : 1 ≤ l) (hl1 : l ≤ 4) :
    Calls Tryz.prog 57 #[.int .u64 t, .int .u64 a, .int .i64 l] w fun e w' => e = .returned (.int .u64 (slotI t a l)) ∧ Ext w w' := by
  have HT := Lib.hid (fun w => refTable_c t w t0 t1)
  have HI := Lib.hid (fun w => rIndex_c a l w h0 h1 hl0 hl1)
  have hi := idxI_le a l
  have ht := tabI_le t0
  have ht2 : tabI t ≤ 18446744073709551615 - 5000 := by unfold tabI; omega
  have hs : Hid (slotI t a l = tabI t + 8 * idxI a l) := Lib.hid rfl
  generalize slotI t a l = s at hs ⊢
  generalize tabI t = tb at HT ht ht2 hs
  generalize idxI a l = ix at HI hi hs
  obtain ⟨hi0, hi1⟩ := hi
  go_enter Tryz.func57, Tryz.ntmps57
  go_wp2_with (first | (go_at_call 64; refine (HT.out _).mono ?_; rintro e w1 ⟨rfl, hb1⟩) | (go_at_call 83; refine (HI.out _).mono ?_; rintro e w2 ⟨rfl, hb2⟩))
  go_ret
  exact ⟨by rw [hs.out]; rfl, hb1.trans hb2⟩
theorem rLeaf_c (x l : Int) (w : World) (h0 : 0 ≤ x) (h1 : x ≤ 18446744073709551615) (hl0 : 1 ≤ l) (hl1 : l ≤ 4) :
    Calls Tryz.prog 62 #[.int .u64 x, .int .i64 l] w fun e w' => e = .returned (.bool (leafI x l)) ∧ Ext w w' := by
  have hb7 : ∀ w, Calls Tryz.prog 59 #[.int .u64 x, .int .i64 7] w fun e w' => e = .returned (.bool (bitB x 7)) ∧ Ext w w' := fun w => bit_c x 7 w h0 h1 (by omega) (by omega)
  have H7 := Lib.hid hb7
  have hd : Hid (leafI x l = (l == 1 || ((l == 2 || l == 3) && bitB x 7))) := Lib.hid rfl
  generalize leafI x l = r at hd ⊢
  generalize bitB x 7 = q at H7 hd
  clear hb7
  rcases (show l = 1 ∨ l = 2 ∨ l = 3 ∨ l = 4 by omega) with rfl | rfl | rfl | rfl
  all_goals
    go_enter Tryz.func62, Tryz.ntmps62
    go_wp2_with (first | (go_at_call 59; refine (H7.out _).mono ?_; rintro e w1 ⟨rfl, hb1⟩))
    go_ret
    exact ⟨by rw [hd.out]; simp, (by repeat (first | exact Ext.refl _ | assumption | refine Ext.alloc ?_ _ | refine Ext.drew ?_ | refine Ext.setCell ?_ (by first | (simp; done) | (dsimp only; omega)) _ | refine Ext.trans ?_ (by assumption)))⟩
theorem rSize3_c (l : Int) (w : World) (hl0 : 1 ≤ l) (hl1 : l ≤ 3) : Calls Tryz.prog 86 #[.int .i64 l] w fun e w' => e = .returned (.int .u64 (sizeE l)) ∧ Ext w w' := by
  rcases (show l = 1 ∨ l = 2 ∨ l = 3 by omega) with rfl | rfl | rfl
  all_goals
    go_enter Tryz.func86, Tryz.ntmps86
    go_wp2
    all_goals
      go_ret
      exact ⟨rfl, (by repeat (first | exact Ext.refl _ | assumption | refine Ext.alloc ?_ _ | refine Ext.drew ?_ | refine Ext.setCell ?_ (by first | (simp; done) | (dsimp only; omega)) _ | refine Ext.trans ?_ (by assumption)))⟩
theorem rFrame_c (x l : Int) (w : World) (h0 : 0 ≤ x) (h1 : x ≤ 18446744073709551615) (hl0 : 1 ≤ l) (hl1 : l ≤ 4) :
    Calls Tryz.prog 63 #[.int .u64 x, .int .i64 l] w fun e w' => e = .returned (.int .u64 (frameI x l)) ∧ Ext w w' := by
  have HL := Lib.hid (fun w => rLeaf_c x l w h0 h1 hl0 hl1)
  have HT := Lib.hid (fun w => refTable_c x w h0 h1)
  have ht := tabI_le h0
  have ht2 : tabI x ≤ 18446744073709551615 := by unfold tabI; omega
  have hd : Hid (frameI x l = if leafI x l then tabI x - tabI x % sizeE l else tabI x) := Lib.hid rfl
  have hl3 : leafI x l = true → l ≤ 3 := fun h => by
    rcases (show l = 1 ∨ l = 2 ∨ l = 3 ∨ l = 4 by omega) with rfl | rfl | rfl | rfl
    · omega
    · omega
    · omega
    · simp [leafI] at h
  generalize frameI x l = r at hd ⊢
  generalize tabI x = tb at HT ht ht2 hd
  cases hlf : leafI x l
  · rw [hlf] at HL hd
    clear hl3
    go_enter Tryz.func63, Tryz.ntmps63
    go_wp2_with (first | (go_at_call 62; refine (HL.out _).mono ?_; rintro e w1 ⟨rfl, hb1⟩) | (go_at_call 64; refine (HT.out _).mono ?_; rintro e w2 ⟨rfl, hb2⟩))
    go_ret
    exact ⟨by rw [hd.out]; rfl, hb1.trans hb2⟩
  · have hl4 := hl3 hlf
    have HS := Lib.hid (fun w => rSize3_c l w hl0 hl4)
    have hsz : 1 ≤ sizeE l ∧ sizeE l ≤ 1073741824 := by unfold sizeE; split; omega; split; omega; split <;> omega
    rw [hlf] at HL hd
    clear hl3 hlf
    generalize sizeE l = sz at HS hsz hd
    obtain ⟨hs0, hs1⟩ := hsz
    have hm0 := Int.emod_nonneg tb (b := sz) (by omega)
    have hm1 := Int.emod_lt_of_pos tb (b := sz) (by omega)
    have hm2 : tb % sz ≤ tb := by
      by_cases h : tb < sz
      · rw [Int.emod_eq_of_lt (by omega) h]; exact Int.le_refl _
      · omega
    go_enter Tryz.func63, Tryz.ntmps63
    go_wp2_with (first | (go_at_call 62; refine (HL.out _).mono ?_; rintro e w1 ⟨rfl, hb1⟩) | (go_at_call 64; refine (HT.out _).mono ?_; rintro e w2 ⟨rfl, hb2⟩) | (go_at_call 86; refine (HS.out _).mono ?_; rintro e w3 ⟨rfl, hb3⟩))
    go_ret
    exact ⟨by rw [hd.out]; rfl, (by repeat (first | exact Ext.refl _ | assumption | refine Ext.alloc ?_ _ | refine Ext.drew ?_ | refine Ext.setCell ?_ (by first | (simp; done) | (dsimp only; omega)) _ | refine Ext.trans ?_ (by assumption)))⟩
end Go.Proofs.YtkfonacokamfiaaGreat
/- The document's reserved bits; rights. -/
namespace Go.Proofs.YtkfonacokamfiaaGreat
set_option linter.unusedVariables false
set_option linter.unusedSimpArgs false
open Go.RowKit
attribute [local go_sem] wext_cell wext_frozen wext_heap alloc_cell alloc_frozen alloc_heap setCell_cell objCell_cells objFrozen_cells

set_option maxHeartbeats 1600000 in
theorem rAnd_c (a b c : Bool) (x : Int) (w : World) (hx : 0 ≤ x) (hx1 : x ≤ 18446744073709551615) :
    Calls Tryz.prog 61 #[.agg #[.bool a, .bool b, .bool c], .int .u64 x] w fun e w' =>
      e = .returned (.agg #[.bool (a && bitB x 1), .bool (b && bitB x 2), .bool (c && !bitB x 63)]) ∧ Ext w w' := by
  cases a <;> cases b <;> cases c
  all_goals
    go_enter Tryz.func61, Tryz.ntmps61
    go_upto_region 1 with (fail)
    refine region_ext_tail 20 (by kernel_rfl) (by kernel_rfl) ?_; simp only [List.take_succ_cons, List.take_zero, List.drop_succ_cons, List.drop_zero]; (repeat (go_big_quiet_step ((go_at_call 59; exact calls_wext (bit_c _ _ _ hx hx1 (by omega) (by omega)))))); refine wpQuiet_nil ?_; intro w1 hb; have ⟨hc, hf, hh, hs⟩ := hb.facts; try simp only [World.size_alloc, World.size_setCell, World.size_drew] at hs
    go_wp2
    refine bodyPost_ret (by simp [results, Tryz.results61, go_sem, *]; rfl) rfl ⟨by simp, (by repeat (first | exact Ext.refl _ | assumption | refine Ext.alloc ?_ _ | refine Ext.drew ?_ | refine Ext.setCell ?_ (by first | (simp; done) | (dsimp only; omega)) _ | refine Ext.trans ?_ (by assumption)))⟩

theorem gI_step (x i : Int) (k : Nat) (h0 : 0 ≤ x) (hi : 0 ≤ i) : (gI x i ((k : Int) + 1) != 0) = (bitB x i || gI x (i + 1) k != 0) := by
  unfold gI bitB
  obtain ⟨n, rfl⟩ : ∃ n : Nat, i = n := ⟨i.toNat, by omega⟩
  have e1 : pow2 ((n : Int) + 1) = pow2 n * 2 := by unfold pow2; rw [show ((n : Int) + 1).toNat = n + 1 by omega, show ((n : Int)).toNat = n by omega, Nat.pow_succ]; omega
  have e2 : pow2 ((k : Int) + 1) = 2 * pow2 k := by unfold pow2; rw [show ((k : Int) + 1).toNat = k + 1 by omega, show ((k : Int)).toNat = k by omega, Nat.pow_succ]; omega
  rw [e1, e2, ← Int.ediv_ediv_of_nonneg (by have := pow2_pos (n : Int); omega)]
  have hy : 0 ≤ x / pow2 n := Int.ediv_nonneg h0 (by have := pow2_pos (n : Int); omega)
  generalize x / pow2 n = y at hy
  have hp := pow2_pos (k : Int)
  generalize pow2 (k : Int) = p at hp
  have e3 : y % (2 * p) = y % 2 + 2 * (y / 2 % p) := by
    have h1 := Int.emod_add_mul_ediv y (2 * p)
    have h2 := Int.emod_add_mul_ediv (y / 2) p
    have h3 : y / (2 * p) = y / 2 / p := (Int.ediv_ediv_of_nonneg (by omega)).symm
    rw [h3, Int.mul_assoc] at h1
    omega
  have h4 := Int.emod_nonneg (y / 2) (b := p) (by omega)
  rw [e3]
  by_cases h5 : y % 2 = 1
  · simp [h5]; omega
  · have : y % 2 = 0 := by omega
    rw [this]
    by_cases h6 : y / 2 % p = 0
    · simp [h6]
    · have k1 : (2 * (y / 2 % p) != 0) = true := by rw [bne_iff_ne]; omega
      have k2 : (y / 2 % p != 0) = true := by rw [bne_iff_ne]; exact h6
      rw [k2]; simp; omega
theorem gI_zero (x i : Int) : (gI x i 0 != 0) = false := by unfold gI; rw [show pow2 0 = 1 from rfl, Int.emod_one]; rfl

def someB (x f t : Int) : Bool := gI x f (t + 1 - f) != 0
set_option maxHeartbeats 1000000 in
theorem rSome_c (x f t : Int) (w : World) (h0 : 0 ≤ x) (h1 : x ≤ 18446744073709551615) (hf : 0 ≤ f) (hft : f ≤ t + 1) (ht : t ≤ 62) :
    Calls Tryz.prog 85 #[.int .u64 x, .int .i64 f, .int .i64 t] w fun e w' => e = .returned (.bool (someB x f t)) ∧ Ext w w' := by
  have HB := Lib.hid (fun i w (hi0 : (0 : Int) ≤ i) (hi1 : i ≤ 63) => bit_c x i w h0 h1 hi0 hi1)
  have hst : ∀ i, 0 ≤ i → i ≤ t → someB x i t = (bitB x i || someB x (i + 1) t) := fun i hi hit => by
    unfold someB
    have := gI_step x i (t - i).toNat h0 hi
    rw [show (((t - i).toNat : Nat) : Int) + 1 = t + 1 - i by omega, show (((t - i).toNat : Nat) : Int) = t + 1 - (i + 1) by omega] at this
    exact this
  have HS := Lib.hid hst
  have HZ : Hid (someB x (t + 1) t = false) := Lib.hid (by unfold someB; rw [show t + 1 - (t + 1) = 0 by omega]; exact gI_zero x _)
  generalize hq : bitB x = q at HB HS
  generalize someB x = s at HS HZ ⊢
  clear hst hq
  go_enter Tryz.func85, Tryz.ntmps85
  go_wp2
  go_loopw [7] (fun i wr => ∃ j : Int, f ≤ j ∧ j ≤ t + 1 ∧ i = .int .i64 j ∧ Hid (Ext w wr ∧ s f t = s j t)) (fun i _ => (t + 1 - intOf i).toNat)
  case atStart => exact ⟨f, by omega, by omega, rfl, Lib.hid ⟨Ext.refl _, rfl⟩⟩
  case round =>
    obtain ⟨j, hj, hjt, rfl, hR⟩ := hrel
    by_cases hlt : j ≤ t
    · have HBj := Lib.hid (fun w => HB.out j w (by omega) (by omega))
      have hs := HS.out j (by omega) hlt
      have h2 := hR.out.2
      rw [hs] at h2
      have HR2 := Lib.hid h2
      clear hs h2
      cases hqj : q j
      · rw [hqj] at HR2 HBj
        go_wp2_with (first | (go_at_call 59; refine (HBj.out _).mono ?_; rintro e w1 ⟨rfl, hb1⟩))
        refine ⟨⟨j + 1, by omega, by omega, by go_num, Lib.hid ⟨hR.out.1.trans (by repeat (first | exact Ext.refl _ | assumption | refine Ext.alloc ?_ _ | refine Ext.drew ?_ | refine Ext.setCell ?_ (by first | (simp; done) | (dsimp only; omega)) _ | refine Ext.trans ?_ (by assumption))), by rw [HR2.out]; simp⟩⟩, by simp [intOf]; omega⟩
      · rw [hqj] at HR2 HBj
        go_wp2_with (first | (go_at_call 59; refine (HBj.out _).mono ?_; rintro e w1 ⟨rfl, hb1⟩))
        all_goals
          (try go_ret)
          exact ⟨by rw [HR2.out]; simp, hR.out.1.trans (by repeat (first | exact Ext.refl _ | assumption | refine Ext.alloc ?_ _ | refine Ext.drew ?_ | refine Ext.setCell ?_ (by first | (simp; done) | (dsimp only; omega)) _ | refine Ext.trans ?_ (by assumption)))⟩
    · have e : j = t + 1 := by omega
      have HR2 : Hid (s f t = false) := Lib.hid (by rw [hR.out.2, e]; exact HZ.out)
      clear e
      go_wp2
      all_goals
        (try go_ret)
        exact ⟨by rw [HR2.out]; rfl, hR.out.1.trans (by repeat (first | exact Ext.refl _ | assumption | refine Ext.alloc ?_ _ | refine Ext.drew ?_ | refine Ext.setCell ?_ (by first | (simp; done) | (dsimp only; omega)) _ | refine Ext.trans ?_ (by assumption)))⟩
def resK (l : Int) (nxe : Bool) (sB s8 s17 q7 q63 : Bool) : Bool := sB || (q63 && !nxe) || (l == 4 && q7) || (l == 2 && q7 && s8) || (l == 3 && q7 && s17)
theorem resK_is (x l B : Int) (nxe : Bool) : resI x l B nxe = resK l nxe (someB x B 51) (someB x 13 20) (someB x 13 29) (bitB x 7) (bitB x 63) := by
  unfold someB resK
  rw [show (51 : Int) + 1 - B = 52 - B by omega]
  rfl
set_option maxHeartbeats 4000000 in
set_option maxRecDepth 20000 in
theorem rReserved_c (x l B : Int) (nxe : Bool) (w : World) (hl0 : 1 ≤ l) (hl1 : l ≤ 4) (h0 : 0 ≤ x) (h1 : x ≤ 18446744073709551615) (hB0 : 14 ≤ B) (hB1 : B ≤ 22) :
    Calls Tryz.prog 60 #[.int .u64 x, .int .i64 l, .int .i64 B, .bool nxe] w fun e w' => e = .returned (.bool (resI x l B nxe)) ∧ Ext w w' := by
  have HB := Lib.hid (fun i w (hi0 : (0 : Int) ≤ i) (hi1 : i ≤ 63) => bit_c x i w h0 h1 hi0 hi1)
  have HS := Lib.hid (fun f t w (k0 : (0 : Int) ≤ f) (k1 : f ≤ t + 1) (k2 : t ≤ 62) => rSome_c x f t w h0 h1 k0 k1 k2)
  have HL := Lib.hid (fun l w (k0 : (1 : Int) ≤ l) (k1 : l ≤ 4) => rLeaf_c x l w h0 h1 k0 k1)
  have hlf : ∀ l, leafI x l = (l == 1 || ((l == 2 || l == 3) && bitB x 7)) := fun l => rfl
  have HL2 : Hid (∀ l w, 2 ≤ l → l ≤ 3 → Calls Tryz.prog 62 #[.int .u64 x, .int .i64 l] w fun e w' => e = .returned (.bool (bitB x 7)) ∧ Ext w w') := Lib.hid (fun l w k0 k1 => by
    have := HL.out l w (by omega) (by omega)
    rw [hlf] at this
    have e : (l == 1 || ((l == 2 || l == 3) && bitB x 7)) = bitB x 7 := by
      rcases (show l = 2 ∨ l = 3 by omega) with rfl | rfl <;> simp
    rw [e] at this
    exact this)
  rw [resK_is]
  generalize bitB x = q at HB HL2 ⊢
  generalize someB x = s at HS ⊢
  clear hlf HL
  obtain ⟨q7, h7⟩ : ∃ b, q 7 = b := ⟨_, rfl⟩
  obtain ⟨q63, h63⟩ : ∃ b, q 63 = b := ⟨_, rfl⟩
  obtain ⟨sB, hsB⟩ : ∃ b, s B 51 = b := ⟨_, rfl⟩
  obtain ⟨s8, hs8⟩ : ∃ b, s 13 20 = b := ⟨_, rfl⟩
  obtain ⟨s17, hs17⟩ : ∃ b, s 13 29 = b := ⟨_, rfl⟩
  rcases (show l = 1 ∨ l = 2 ∨ l = 3 ∨ l = 4 by omega) with rfl | rfl | rfl | rfl
  all_goals
    clear hl0 hl1
    go_enter Tryz.func60, Tryz.ntmps60
    go_wp2_with (first | (go_at_call 85; refine (HS.out _ _ _ (by omega) (by omega) (by omega)).mono ?_; rintro e w1 ⟨rfl, hb⟩) | (go_at_call 59; refine (HB.out _ _ (by omega) (by omega)).mono ?_; rintro e w1 ⟨rfl, hb⟩) | (go_at_call 62; refine (HL2.out _ _ (by omega) (by omega)).mono ?_; rintro e w1 ⟨rfl, hb⟩))
    all_goals
      go_ret
      exact ⟨by unfold resK; simp_all, (by repeat (first | exact Ext.refl _ | assumption | refine Ext.alloc ?_ _ | refine Ext.drew ?_ | refine Ext.setCell ?_ (by first | (simp; done) | (dsimp only; omega)) _ | refine Ext.trans ?_ (by assumption)))⟩
end Go.Proofs.YtkfonacokamfiaaGreat
/- A law's real: a path as the document has it. -/
namespace Go.Proofs.YtkfonacokamfiaaGreat
set_option linter.unusedVariables false
set_option linter.unusedSimpArgs false
open Go.RowKit
attribute [local go_sem] wext_cell wext_frozen wext_heap alloc_cell alloc_frozen alloc_heap setCell_cell objCell_cells objFrozen_cells

theorem rowS_oneC (L : List Stp) : ∀ u ∈ rowS L, u.oneCell' = true := by
  intro u hu
  obtain ⟨k, _, hk⟩ := List.mem_flatMap.1 hu
  simp [Stp.cells] at hk
  rcases hk with rfl | rfl | rfl <;> rfl
theorem StepsAt.ofT {U : World} {e : TypeId} {sa : Option Addr} {sc : Nat} {L : List Stp} (h : Owns U e 3 (.slice sa L.length sc) L.length (rowS L)) : StepsAt U sa L := fun i hi => by
  obtain ⟨g, hg⟩ : ∃ g, sa = some ⟨g, 0, none⟩ := by
    rcases h.2 with ⟨h1, h0⟩ | ⟨g, _, _, he, _⟩
    · omega
    · exact ⟨g, by injection he⟩
  subst hg
  have H := fun j hj u hu => h.cells (g := g) rfl (i * 3 + j) u ((rowS_at L i hi j hj).trans hu)
  exact ⟨g, 0, rfl, h.lt g rfl, by rw [Nat.zero_add]; exact H 0 (by omega) _ rfl, by rw [Nat.zero_add]; exact H 1 (by omega) _ rfl, by rw [Nat.zero_add]; exact H 2 (by omega) _ rfl⟩
theorem refStepRow : RowT Tryz.prog 100 109 3 24 := RowT.of (z := .agg #[.int .i64 0, .int .u64 0, .int .u64 0]) Tryz.underlying100 (by kernel_rfl) rfl
theorem rowS_take (L : List Stp) (j : Nat) (h : j < L.length) : rowS (L.take (j + 1)) = rowS (L.take j) ++ (stpAt L j).cells := by
  have e : L.take (j + 1) = L.take j ++ [stpAt L j] := by rw [List.take_add_one, List.getElem?_eq_getElem h]; simp [stpAt, List.getD, h]
  rw [e]; simp [rowS]

/-- A path of the document's as a value. -/
def EndReal (L : List Stp) (why : Int) (r : Rt) (lv fr : Int) (w : World) (e : Ending) (w' : World) : Prop :=
  ∃ ra rc, e = .returned (.agg #[.slice ra L.length rc, .int .i64 why, .bool r.1, .bool r.2.1, .bool r.2.2, .int .i64 lv, .int .u64 fr]) ∧ Owns w' 109 3 (.slice ra L.length rc) L.length (rowS L) ∧ Ext w w'
end Go.Proofs.YtkfonacokamfiaaGreat
