/- Contracts of the document's fields and addresses (dormerref01.Set, With; dormerref03.Sign, Canon), bit by bit. -/
import Derived.Test.YtjlgfkhkjfiadaaDoorVa
namespace Go.Proofs.YtjlgfkhkjfiadaaDoor
set_option linter.unusedVariables false
set_option linter.unusedSimpArgs false
open Go.RowKit
attribute [local go_sem] wext_cell wext_frozen wext_heap alloc_cell alloc_frozen alloc_heap setCell_cell objCell_cells objFrozen_cells

/-- the number of so many bits -/
def sumBits (f : Nat → Bool) : Nat → Nat
  | 0 => 0
  | j + 1 => sumBits f j + (if f j then 2 ^ j else 0)
theorem sumBits_lt (f : Nat → Bool) : ∀ n, sumBits f n < 2 ^ n
  | 0 => by simp [sumBits]
  | j + 1 => by
    have := sumBits_lt f j
    unfold sumBits
    rw [Nat.pow_succ]
    split <;> omega
theorem sumBits_testBit (f : Nat → Bool) : ∀ n i, (sumBits f n).testBit i = (decide (i < n) && f i)
  | 0, i => by simp [sumBits]
  | j + 1, i => by
    have hlt := sumBits_lt f j
    unfold sumBits
    cases hf : f j with
    | false =>
      simp only [Bool.false_eq_true, if_false, Nat.add_zero]
      rw [sumBits_testBit f j i]
      by_cases h : i = j
      · subst h; simp [hf]
      · rw [show decide (i < j + 1) = decide (i < j) by rw [decide_eq_decide]; omega]
    | true =>
      simp only [if_true]
      have e : sumBits f j + 2 ^ j = 2 ^ j ||| sumBits f j := by
        rw [nat_join j (2 ^ j) (sumBits f j) (Nat.mod_self _) hlt]; omega
      rw [e, Nat.testBit_or, sumBits_testBit f j i, Nat.testBit_two_pow]
      by_cases h : j = i
      · subst h; simp [hf]
      · rw [show decide (i < j + 1) = decide (i < j) by rw [decide_eq_decide]; omega]
        simp [h]
theorem sumBits_eq {x n : Nat} (h : x < 2 ^ n) : sumBits x.testBit n = x := by
  apply Nat.eq_of_testBit_eq
  intro i
  rw [sumBits_testBit]
  by_cases hi : i < n
  · simp [hi]
  · rw [Nat.testBit_lt_two_pow (Nat.lt_of_lt_of_le h (Nat.pow_le_pow_right (by omega) (by omega)))]; simp
theorem sumBits_congr {f g : Nat → Bool} {n : Nat} (h : ∀ i, i < n → f i = g i) : sumBits f n = sumBits g n := by
  apply Nat.eq_of_testBit_eq
  intro i
  rw [sumBits_testBit, sumBits_testBit]
  by_cases hi : i < n
  · rw [h i hi]
  · simp [hi]
theorem bitB_testBit (x i : Nat) : bitB (x : Int) (i : Int) = x.testBit i := by
  rw [Nat.testBit_eq_decide_div_mod_eq]
  unfold bitB pow2
  rw [Int.toNat_natCast, Bool.eq_iff_iff]
  simp only [beq_iff_eq, decide_eq_true_eq]
  have e : ((x : Int) / ((2 ^ i : Nat) : Int) % 2) = ((x / 2 ^ i % 2 : Nat) : Int) := by simp
  rw [e]
  omega

/-- a word with a field set -/
def setBits (x lo n v : Nat) : Nat → Bool := fun i => if lo ≤ i ∧ i < lo + n then v.testBit (i - lo) else x.testBit i

theorem refIs_c (lo n : Int) (w : World) (h0 : 0 ≤ lo) (h1 : 1 ≤ n) (h2 : lo ≤ 64) (h3 : n ≤ 64 - lo) :
    Calls Tryd.prog 67 #[.int .i64 lo, .int .i64 n] w fun e w' => e = .returned (.bool true) ∧ Ext w w' := by
  go_enter Tryd.func67, Tryd.ntmps67
  go_wp2
  go_ret
  exact ⟨rfl, Ext.refl _⟩

set_option maxHeartbeats 1600000 in
theorem refSet_c (x lo n v : Nat) (w : World) (hx : x ≤ 18446744073709551615) (hv : v ≤ 18446744073709551615) (hn : 1 ≤ n) (hln : lo + n ≤ 64) :
    Calls Tryd.prog 60 #[.int .u64 (x : Int), .int .i64 (lo : Int), .int .i64 (n : Int), .int .u64 (v : Int)] w fun e w' => e = .returned (.int .u64 ((sumBits (setBits x lo n v) 64 : Nat) : Int)) ∧ Ext w w' := by
  go_enter Tryd.func60, Tryd.ntmps60
  go_wp2_with (first | (go_at_call 67; refine (refIs_c _ _ _ (by omega) (by omega) (by omega) (by omega)).mono ?_; rintro e w1 ⟨rfl, hb⟩; have ⟨hc, hf, hh, hs⟩ := hb.facts; try simp only [World.size_alloc, World.size_setCell, World.size_drew] at hs))
  go_loopw [9, 10, 11] (fun o i _ wr => ∃ j : Nat, j ≤ 64 ∧ i = .int .i64 (j : Int) ∧ o = .int .u64 ((sumBits (setBits x lo n v) j : Nat) : Int) ∧ Ext w wr) (fun _ i _ _ => 64 - (intOf i).toNat)
  case atStart => exact ⟨0, by omega, rfl, rfl, hb⟩
  case round =>
    obtain ⟨j, hj, rfl, rfl, hb⟩ := hrel
    have HB := Lib.hid hb
    clear hb hc hf hh
    by_cases hlt : j < 64
    · have s1 := sumBits_lt (setBits x lo n v) (j + 1)
      have s2 : (2 : Nat) ^ (j + 1) ≤ 2 ^ 64 := Nat.pow_le_pow_right (by omega) (by omega)
      have s3 : sumBits (setBits x lo n v) j ≤ sumBits (setBits x lo n v) (j + 1) := by simp only [sumBits]; omega
      have s4 : setBits x lo n v j = true → (pow2 (j : Int) : Int) + (sumBits (setBits x lo n v) j : Nat) = (sumBits (setBits x lo n v) (j + 1) : Nat) := fun h => by
        simp only [sumBits, h, if_true, pow2, Int.toNat_natCast]; omega
      have s5 : setBits x lo n v j = false → sumBits (setBits x lo n v) j = sumBits (setBits x lo n v) (j + 1) := fun h => by
        simp only [sumBits, h, Bool.false_eq_true, if_false, Nat.add_zero]
      have s6 := pow2_pos (j : Int)
      have s7 : sumBits (setBits x lo n v) (j + 1) ≤ 18446744073709551615 := by omega
      clear s1 s2
      have S4 := Lib.hid s4
      have S5 := Lib.hid s5
      clear s4 s5
      have s8 : setBits x lo n v j = true → (sumBits (setBits x lo n v) j : Nat) + (pow2 (j : Int) : Int) ≤ 18446744073709551615 := fun h => by
        have := S4.out h; omega
      by_cases hin : lo ≤ j ∧ j < lo + n
      · obtain ⟨i1, i2⟩ := hin
        have e1 : bitB (v : Int) ((j : Int) - lo) = setBits x lo n v j := by
          rw [show ((j : Int) - lo) = ((j - lo : Nat) : Int) by omega, bitB_testBit]; simp [setBits, i1, i2]
        cases hbit : setBits x lo n v j
        all_goals
          rw [hbit] at e1
          try have s9 := s8 hbit
          clear s8
          go_wp2_with (first | (go_at_call 53; refine (bit_c _ _ _ (by omega) (by omega) (by omega) (by omega)).mono ?_; rintro e w1 ⟨rfl, hb⟩) | (go_at_call 61; refine (power_c _ _ (by omega) (by omega)).mono ?_; rintro e w1 ⟨rfl, hb⟩))
          go_roundw
          case rel => exact ⟨j + 1, by omega, by go_num, by first | rw [S5.out hbit] | rw [← S4.out hbit, Int.add_comm], HB.out.trans (by repeat (first | exact Ext.refl _ | assumption | refine Ext.alloc ?_ _ | refine Ext.drew ?_ | refine Ext.setCell ?_ (by first | (simp; done) | (dsimp only; omega)) _ | refine Ext.trans ?_ (by assumption)))⟩
          case measure => simp [intOf]; omega
      · have e1 : bitB (x : Int) (j : Int) = setBits x lo n v j := by
          rw [bitB_testBit]; simp only [setBits]; rw [if_neg hin]
        have hin2 : j < lo ∨ lo + n ≤ j := by omega
        clear hin
        rcases hin2 with hin2 | hin2
        all_goals
        cases hbit : setBits x lo n v j
        all_goals
          rw [hbit] at e1
          try have s9 := s8 hbit
          clear s8
          go_wp2_with (first | (go_at_call 53; refine (bit_c _ _ _ (by omega) (by omega) (by omega) (by omega)).mono ?_; rintro e w1 ⟨rfl, hb⟩) | (go_at_call 61; refine (power_c _ _ (by omega) (by omega)).mono ?_; rintro e w1 ⟨rfl, hb⟩))
          go_roundw
          case rel => exact ⟨j + 1, by omega, by go_num, by first | rw [S5.out hbit] | rw [← S4.out hbit, Int.add_comm], HB.out.trans (by repeat (first | exact Ext.refl _ | assumption | refine Ext.alloc ?_ _ | refine Ext.drew ?_ | refine Ext.setCell ?_ (by first | (simp; done) | (dsimp only; omega)) _ | refine Ext.trans ?_ (by assumption)))⟩
          case measure => simp [intOf]; omega
    · obtain rfl : j = 64 := by omega
      go_wp2
      go_ret
      exact ⟨rfl, HB.out⟩

/-- a word with a bit set -/
def withN (x i : Nat) (b : Bool) : Nat := sumBits (fun k => if k = i then b else x.testBit k) 64
theorem refWith_c (x i : Nat) (b : Bool) (w : World) (hx : x ≤ 18446744073709551615) (hi : i < 64) :
    Calls Tryd.prog 52 #[.int .u64 (x : Int), .int .i64 (i : Int), .bool b] w fun e w' => e = .returned (.int .u64 ((withN x i b : Nat) : Int)) ∧ Ext w w' := by
  unfold withN
  cases b
  case false =>
    have hset := fun w => refSet_c x i 1 0 w hx (by omega) (by omega) (by omega)
    have HSET := Lib.hid hset
    clear hset
    go_enter Tryd.func52, Tryd.ntmps52
    go_wp2_with (first | (go_at_call 60; refine (HSET.out _).mono ?_; rintro e w1 ⟨rfl, hb⟩))
    go_ret
    refine ⟨?_, hb⟩
    show Ending.returned (Value.int .u64 _) = _
    rw [sumBits_congr (g := fun k => if k = i then false else x.testBit k) (fun k hk => by
      unfold setBits
      by_cases h : k = i
      · subst h; simp
      · rw [if_neg (by omega), if_neg h])]
  case true =>
    have hset := fun w => refSet_c x i 1 1 w hx (by omega) (by omega) (by omega)
    have HSET := Lib.hid hset
    clear hset
    go_enter Tryd.func52, Tryd.ntmps52
    go_wp2_with (first | (go_at_call 60; refine (HSET.out _).mono ?_; rintro e w1 ⟨rfl, hb⟩))
    go_ret
    refine ⟨?_, hb⟩
    show Ending.returned (Value.int .u64 _) = _
    rw [sumBits_congr (g := fun k => if k = i then true else x.testBit k) (fun k hk => by
      unfold setBits
      by_cases h : k = i
      · subst h; simp
      · rw [if_neg (by omega), if_neg h])]

def signBits (a j : Nat) : Nat → Bool := fun i => if 48 ≤ i ∧ i < j then a.testBit 47 else a.testBit i
theorem sign_sum (a : Nat) (h : a ≤ 18446744073709551615) : ((sumBits (signBits a 64) 64 : Nat) : Int) = signI (a : Int) := by
  have e : sumBits (signBits a 64) 64 = if a % 281474976710656 < 140737488355328 then a % 281474976710656 else a % 281474976710656 + 18446462598732840960 := by
    have h47 : a.testBit 47 = decide (¬ a % 281474976710656 < 140737488355328) := by
      rw [Nat.testBit_eq_decide_div_mod_eq, decide_eq_decide]; omega
    have hm : ∀ i, (a % 281474976710656).testBit i = (decide (i < 48) && a.testBit i) := fun i => Nat.testBit_mod_two_pow a 48 i
    apply Nat.eq_of_testBit_eq
    intro i
    rw [sumBits_testBit]
    split
    · rename_i hlt
      rw [hm]
      unfold signBits
      by_cases h48 : i < 48
      · rw [if_neg (by omega)]; simp [h48, show i < 64 by omega]
      · by_cases h64 : i < 64
        · rw [if_pos (by omega), h47]; simp [h48, hlt]
        · simp [h48, h64]
    · rename_i hlt
      have e2 : a % 281474976710656 + 18446462598732840960 = ((2 ^ 16 - 1) <<< 48) ||| (a % 281474976710656) := by
        rw [nat_join 48 _ _ (by rw [Nat.shiftLeft_eq]) (by omega), Nat.shiftLeft_eq]; omega
      rw [e2, Nat.testBit_or, hm, Nat.testBit_shiftLeft, Nat.testBit_two_pow_sub_one]
      unfold signBits
      by_cases h48 : i < 48
      · rw [if_neg (by omega)]; simp [h48, show i < 64 by omega, show ¬ 48 ≤ i by omega]
      · by_cases h64 : i < 64
        · rw [if_pos (by omega), h47]; simp [h48, hlt, h64]; omega
        · simp [h48, h64]; omega
  rw [e]
  unfold signI
  split <;> split <;> omega

theorem refSign_c (a : Nat) (w : World) (h : a ≤ 18446744073709551615) :
    Calls Tryd.prog 45 #[.int .u64 (a : Int)] w fun e w' => e = .returned (.int .u64 (signI (a : Int))) ∧ Ext w w' := by
  have HS := Aside.mk (sign_sum a h)
  go_enter Tryd.func45, Tryd.ntmps45
  go_wp2
  go_loopw [0, 3] (fun r i wr => ∃ j S : Nat, 48 ≤ j ∧ j ≤ 64 ∧ i = .int .i64 (j : Int) ∧ r = .int .u64 (S : Int) ∧ Aside (S = sumBits (signBits a j) 64) ∧ Ext w wr) (fun _ i _ => 64 - (intOf i).toNat)
  case atStart =>
    refine ⟨48, a, by omega, by omega, rfl, rfl, ?_, Ext.refl _⟩
    refine ⟨?_⟩
    rw [sumBits_congr (g := a.testBit) (fun i _ => by unfold signBits; rw [if_neg (by omega)]), sumBits_eq (by omega)]
  case round =>
    obtain ⟨j, S, hj0, hj, rfl, rfl, HSS, hb⟩ := hrel
    have HB := Lib.hid hb
    clear hb
    have s1 : S ≤ 18446744073709551615 := by have := sumBits_lt (signBits a j) 64; rw [HSS.out]; omega
    by_cases hlt : j < 64
    · have e1 : bitB (S : Int) 47 = a.testBit 47 := by
        rw [show (47 : Int) = ((47 : Nat) : Int) from rfl, bitB_testBit, HSS.out, sumBits_testBit]; simp [signBits]
      obtain ⟨b47, hb47⟩ : ∃ b, b = a.testBit 47 := ⟨_, rfl⟩
      rw [← hb47] at e1
      have E2 : Aside (withN S j b47 = sumBits (signBits a (j + 1)) 64) := ⟨sumBits_congr fun k hk => by
        rw [HSS.out, sumBits_testBit, hb47]
        unfold signBits
        by_cases hkj : k = j
        · subst hkj; simp [hj0]
        · rw [if_neg hkj]
          by_cases h48 : 48 ≤ k ∧ k < j
          · rw [if_pos h48, if_pos (by omega)]; simp [hk]
          · rw [if_neg h48, if_neg (by omega)]; simp [hk]⟩
      clear hb47
      go_wp2_with (first | (go_at_call 53; refine (bit_c _ _ _ (by omega) (by omega) (by omega) (by omega)).mono ?_; rintro e w1 ⟨rfl, hb⟩) | (go_at_call 52; refine (refWith_c _ _ _ _ (by omega) (by omega)).mono ?_; rintro e w1 ⟨rfl, hb⟩))
      go_roundw
      case rel => exact ⟨j + 1, _, by omega, by omega, by go_num, rfl, E2, HB.out.trans (by repeat (first | exact Ext.refl _ | assumption | refine Ext.alloc ?_ _ | refine Ext.drew ?_ | refine Ext.setCell ?_ (by first | (simp; done) | (dsimp only; omega)) _ | refine Ext.trans ?_ (by assumption)))⟩
      case measure => simp [intOf]; omega
    · obtain rfl : j = 64 := by omega
      go_wp2
      go_ret
      exact ⟨by rw [← HS.out, ← HSS.out]; rfl, HB.out⟩

theorem refCanon_c (a : Int) (w : World) (h0 : 0 ≤ a) (h1 : a ≤ 18446744073709551615) :
    Calls Tryd.prog 34 #[.int .u64 a] w fun e w' => e = .returned (.bool (canonB a)) ∧ Ext w w' := by
  have HC := Lib.hid (canon_eq h0 h1)
  have hsg : ∀ w, Calls Tryd.prog 45 #[.int .u64 a] w fun e w' => e = .returned (.int .u64 (signI a)) ∧ Ext w w' := fun w => by
    have := refSign_c a.toNat w (by omega)
    rwa [Int.toNat_of_nonneg h0] at this
  have HSG := Lib.hid hsg
  clear hsg
  go_enter Tryd.func34, Tryd.ntmps34
  go_wp2_with (first | (go_at_call 45; refine (HSG.out _).mono ?_; rintro e w1 ⟨rfl, hb⟩))
  go_ret
  exact ⟨by rw [← HC.out]; rfl, hb⟩
end Go.Proofs.YtjlgfkhkjfiadaaDoor
