/- Joined texts, part 22 of what the law stands on: each as its own head says. -/
import Derived.Test.YtkfonacokamfiaaGreatGoz4
import Derived.Test.YtkfonacokamfiaaGreatGoz14
/- Contracts of the document's fields (dormerref01.Set, With), bit by bit. -/
namespace Go.Proofs.YtkfonacokamfiaaGreat
set_option linter.unusedVariables false
set_option linter.unusedSimpArgs false
open Go.RowKit
attribute [local go_sem] wext_cell wext_frozen wext_heap alloc_cell alloc_frozen alloc_heap setCell_cell objCell_cells objFrozen_cells
def sumBits (f : Nat → Bool) : Nat → Nat
 | 0 => 0
 | j + 1 => sumBits f j + (if f j then 2 ^ j else 0)
theorem sumBits_lt (f : Nat → Bool) : ∀ n, sumBits f n < 2 ^ n
 | 0 => by simp [sumBits]
 | j + 1 => by
  have := sumBits_lt f j
  unfold sumBits
  rw [Nat.pow_succ]
  split <;> omega
theorem sumBits_testBit (f : Nat → Bool) : ∀ n i, (sumBits f n).testBit i = (decide (i < n) && f i)
 | 0, i => by simp [sumBits]
 | j + 1, i => by
  have hlt := sumBits_lt f j
  unfold sumBits
  cases hf : f j with
  | false =>
   simp only [Bool.false_eq_true, if_false, Nat.add_zero]
   rw [sumBits_testBit f j i]
   by_cases h : i = j
   ·subst h; simp [hf]
   ·rw [show decide (i < j + 1) = decide (i < j) by rw [decide_eq_decide]; omega]
  | true =>
   simp only [if_true]
   have e : sumBits f j + 2 ^ j = 2 ^ j ||| sumBits f j := by
    rw [nat_join j (2 ^ j) (sumBits f j) (Nat.mod_self _) hlt]; omega
   rw [e, Nat.testBit_or, sumBits_testBit f j i, Nat.testBit_two_pow]
   by_cases h : j = i
   ·subst h; simp [hf]
   ·rw [show decide (i < j + 1) = decide (i < j) by rw [decide_eq_decide]; omega]
    simp [h]
theorem sumBits_eq {x n : Nat} (h : x < 2 ^ n) : sumBits x.testBit n = x := by
 apply Nat.eq_of_testBit_eq
 intro i
 rw [sumBits_testBit]
 by_cases hi : i < n
 ·simp [hi]
 ·rw [Nat.testBit_lt_two_pow (Nat.lt_of_lt_of_le h (Nat.pow_le_pow_right (by omega) (by omega)))]; simp
theorem sumBits_congr {f g : Nat → Bool} {n : Nat} (h : ∀ i, i < n → f i = g i) : sumBits f n = sumBits g n := by
 apply Nat.eq_of_testBit_eq
 intro i
 rw [sumBits_testBit, sumBits_testBit]
 by_cases hi : i < n
 ·rw [h i hi]
 ·simp [hi]
theorem bitB_testBit (x i : Nat) : bitB (x : Int) (i : Int) = x.testBit i := by
 rw [Nat.testBit_eq_decide_div_mod_eq]
 unfold bitB pow2
 rw [Int.toNat_natCast, Bool.eq_iff_iff]
 simp only [beq_iff_eq, decide_eq_true_eq]
 have e : ((x : Int) / ((2 ^ i : Nat) : Int) % 2) = ((x / 2 ^ i % 2 : Nat) : Int) := by simp
 rw [e]
 omega
def setBits (x lo n v : Nat) : Nat → Bool := fun i => if lo ≤ i ∧ i < lo + n then v.testBit (i - lo) else x.testBit i
theorem refIs_c (lo n : Int) (w : World) (h0 : 0 ≤ lo) (h1 : 1 ≤ n) (h2 : lo ≤ 64) (h3 : n ≤ 64 - lo) :
  Calls Tryz.prog 116 #[.int .i64 lo, .int .i64 n] w fun e w' => e = .returned (.bool true) ∧ Ext w w' := by
 go_enter Tryz.func116, Tryz.ntmps116
 go_wp2
 go_ret
 exact ⟨rfl, Ext.refl _⟩
set_option maxHeartbeats 1600000 in
theorem refSet_c (x lo n v : Nat) (w : World) (hx : x ≤ 18446744073709551615) (hv : v ≤ 18446744073709551615) (hn : 1 ≤ n) (hln : lo + n ≤ 64) :
  Calls Tryz.prog 117 #[.int .u64 (x : Int), .int .i64 (lo : Int), .int .i64 (n : Int), .int .u64 (v : Int)] w fun e w' => e = .returned (.int .u64 ((sumBits (setBits x lo n v) 64 : Nat) : Int)) ∧ Ext w w' := by
 go_enter Tryz.func117, Tryz.ntmps117
 go_wp2_with (first | (go_at_call 116; refine (refIs_c _ _ _ (by omega) (by omega) (by omega) (by omega)).mono ?_; rintro e w1 ⟨rfl, hb⟩; have ⟨hc, hf, hh, hs⟩ := hb.facts; try simp only [World.size_alloc, World.size_setCell, World.size_drew] at hs))
 go_loopw [9, 10, 11] (fun o i _ wr => ∃ j : Nat, j ≤ 64 ∧ i = .int .i64 (j : Int) ∧ o = .int .u64 ((sumBits (setBits x lo n v) j : Nat) : Int) ∧ Ext w wr) (fun _ i _ _ => 64 - (intOf i).toNat)
 case atStart => exact ⟨0, by omega, rfl, rfl, hb⟩
 case round =>
  obtain ⟨j, hj, rfl, rfl, hb⟩ := hrel
  have HB := Lib.hid hb
  clear hb hc hf hh
  by_cases hlt : j < 64
  ·have s1 := sumBits_lt (setBits x lo n v) (j + 1)
   have s2 : (2 : Nat) ^ (j + 1) ≤ 2 ^ 64 := Nat.pow_le_pow_right (by omega) (by omega)
   have s3 : sumBits (setBits x lo n v) j ≤ sumBits (setBits x lo n v) (j + 1) := by simp only [sumBits]; omega
   have s4 : setBits x lo n v j = true → (pow2 (j : Int) : Int) + (sumBits (setBits x lo n v) j : Nat) = (sumBits (setBits x lo n v) (j + 1) : Nat) := fun h => by
    simp only [sumBits, h, if_true, pow2, Int.toNat_natCast]; omega
   have s5 : setBits x lo n v j = false → sumBits (setBits x lo n v) j = sumBits (setBits x lo n v) (j + 1) := fun h => by
    simp only [sumBits, h, Bool.false_eq_true, if_false, Nat.add_zero]
   have s6 := pow2_pos (j : Int)
   have s7 : sumBits (setBits x lo n v) (j + 1) ≤ 18446744073709551615 := by omega
   clear s1 s2
   have S4 := Lib.hid s4
   have S5 := Lib.hid s5
   clear s4 s5
   have s8 : setBits x lo n v j = true → (sumBits (setBits x lo n v) j : Nat) + (pow2 (j : Int) : Int) ≤ 18446744073709551615 := fun h => by
    have := S4.out h; omega
   by_cases hin : lo ≤ j ∧ j < lo + n
   ·obtain ⟨i1, i2⟩ := hin
    have e1 : bitB (v : Int) ((j : Int) - lo) = setBits x lo n v j := by
     rw [show ((j : Int) - lo) = ((j - lo : Nat) : Int) by omega, bitB_testBit]; simp [setBits, i1, i2]
    cases hbit : setBits x lo n v j
    all_goals
     rw [hbit] at e1
     try have s9 := s8 hbit
     clear s8
     go_wp2_with (first | (go_at_call 59; refine (bit_c _ _ _ (by omega) (by omega) (by omega) (by omega)).mono ?_; rintro e w1 ⟨rfl, hb⟩) | (go_at_call 84; refine (power_c _ _ (by omega) (by omega)).mono ?_; rintro e w1 ⟨rfl, hb⟩))
     go_roundw
     case rel => exact ⟨j + 1, by omega, by go_num, by first | rw [S5.out hbit] | rw [← S4.out hbit, Int.add_comm], HB.out.trans (by repeat (first | exact Ext.refl _ | assumption | refine Ext.alloc ?_ _ | refine Ext.drew ?_ | refine Ext.setCell ?_ (by first | (simp; done) | (dsimp only; omega)) _ | refine Ext.trans ?_ (by assumption)))⟩
     case measure => simp [intOf]; omega
   ·have e1 : bitB (x : Int) (j : Int) = setBits x lo n v j := by
     rw [bitB_testBit]; simp only [setBits]; rw [if_neg hin]
    have hin2 : j < lo ∨ lo + n ≤ j := by omega
    clear hin
    rcases hin2 with hin2 | hin2
    all_goals
    cases hbit : setBits x lo n v j
    all_goals
     rw [hbit] at e1
     try have s9 := s8 hbit
     clear s8
     go_wp2_with (first | (go_at_call 59; refine (bit_c _ _ _ (by omega) (by omega) (by omega) (by omega)).mono ?_; rintro e w1 ⟨rfl, hb⟩) | (go_at_call 84; refine (power_c _ _ (by omega) (by omega)).mono ?_; rintro e w1 ⟨rfl, hb⟩))
     go_roundw
     case rel => exact ⟨j + 1, by omega, by go_num, by first | rw [S5.out hbit] | rw [← S4.out hbit, Int.add_comm], HB.out.trans (by repeat (first | exact Ext.refl _ | assumption | refine Ext.alloc ?_ _ | refine Ext.drew ?_ | refine Ext.setCell ?_ (by first | (simp; done) | (dsimp only; omega)) _ | refine Ext.trans ?_ (by assumption)))⟩
     case measure => simp [intOf]; omega
  ·obtain rfl : j = 64 := by omega
   go_wp2
   go_ret
   exact ⟨rfl, HB.out⟩
def withN (x i : Nat) (b : Bool) : Nat := sumBits (fun k => if k = i then b else x.testBit k) 64
theorem refWith_c (x i : Nat) (b : Bool) (w : World) (hx : x ≤ 18446744073709551615) (hi : i < 64) :
  Calls Tryz.prog 88 #[.int .u64 (x : Int), .int .i64 (i : Int), .bool b] w fun e w' => e = .returned (.int .u64 ((withN x i b : Nat) : Int)) ∧ Ext w w' := by
 unfold withN
 cases b
 case false =>
  have hset := fun w => refSet_c x i 1 0 w hx (by omega) (by omega) (by omega)
  have HSET := Lib.hid hset
  clear hset
  go_enter Tryz.func88, Tryz.ntmps88
  go_wp2_with (first | (go_at_call 117; refine (HSET.out _).mono ?_; rintro e w1 ⟨rfl, hb⟩))
  go_ret
  refine ⟨?_, hb⟩
  show Ending.returned (Value.int .u64 _) = _
  rw [sumBits_congr (g := fun k => if k = i then false else x.testBit k) (fun k hk => by
   unfold setBits
   by_cases h : k = i
   ·subst h; simp
   ·rw [if_neg (by omega), if_neg h])]
 case true =>
  have hset := fun w => refSet_c x i 1 1 w hx (by omega) (by omega) (by omega)
  have HSET := Lib.hid hset
  clear hset
  go_enter Tryz.func88, Tryz.ntmps88
  go_wp2_with (first | (go_at_call 117; refine (HSET.out _).mono ?_; rintro e w1 ⟨rfl, hb⟩))
  go_ret
  refine ⟨?_, hb⟩
  show Ending.returned (Value.int .u64 _) = _
  rw [sumBits_congr (g := fun k => if k = i then true else x.testBit k) (fun k hk => by
   unfold setBits
   by_cases h : k = i
   ·subst h; simp
   ·rw [if_neg (by omega), if_neg h])]
end Go.Proofs.YtkfonacokamfiaaGreat
/- Addresses' keys and places, of both sides; sizes. -/
namespace Go.Proofs.YtkfonacokamfiaaGreat
set_option linter.unusedVariables false
set_option linter.unusedSimpArgs false
open Go.RowKit
attribute [local go_sem] wext_cell wext_frozen wext_heap alloc_cell alloc_frozen alloc_heap setCell_cell objCell_cells objFrozen_cells
def sizeI (l : Int) : Int := if l = 1 then 4096 else if l = 2 then 2097152 else if l = 3 then 1073741824 else 0
theorem vaShift_bad (l : Int) (w : World) (h : l < 1 ∨ 5 ≤ l) :
  Calls Tryz.prog 112 #[.int .i64 l] w fun e w' => e = .returned (.tuple #[.int .i64 0, .bool false]) ∧ Ext w w' := by
 rcases h with h | h
 all_goals
  go_enter Tryz.func112, Tryz.ntmps112
  go_wp2
  all_goals
   go_ret2
   exact ⟨rfl, (by repeat (first | exact Ext.refl _ | assumption | refine Ext.alloc ?_ _ | refine Ext.drew ?_ | refine Ext.setCell ?_ (by first | (simp; done) | (dsimp only; omega)) _ | refine Ext.trans ?_ (by assumption)))⟩
theorem vaShift_c (l : Int) (w : World) (h0 : 1 ≤ l) (h1 : l ≤ 4) :
  Calls Tryz.prog 112 #[.int .i64 l] w fun e w' => e = .returned (.tuple #[.int .i64 (9 * l + 3), .bool true]) ∧ Ext w w' := by
 have : l = 1 ∨ l = 2 ∨ l = 3 ∨ l = 4 := by omega
 rcases this with rfl | rfl | rfl | rfl
 all_goals
  go_enter Tryz.func112, Tryz.ntmps112
  go_wp2
  go_ret2
  exact ⟨rfl, (by repeat (first | exact Ext.refl _ | assumption | refine Ext.alloc ?_ _ | refine Ext.drew ?_ | refine Ext.setCell ?_ (by first | (simp; done) | (dsimp only; omega)) _ | refine Ext.trans ?_ (by assumption)))⟩
theorem vaSize_c (l : Int) (w : World) :
  Calls Tryz.prog 118 #[.int .i64 l] w fun e w' => e = .returned (.int .u64 (sizeI l)) ∧ Ext w w' := by
 have : (l < 1 ∨ 5 ≤ l) ∨ l = 1 ∨ l = 2 ∨ l = 3 ∨ l = 4 := by omega
 rcases this with h | rfl | rfl | rfl | rfl
 case inl =>
  go_enter Tryz.func118, Tryz.ntmps118
  go_wp2_with (first | (go_at_call 112; refine (vaShift_bad _ _ h).mono ?_; rintro e w1 ⟨rfl, hb⟩; have ⟨hc, hf, hh, hs⟩ := hb.facts; try simp only [World.size_alloc, World.size_setCell, World.size_drew] at hs))
  go_ret
  exact ⟨by unfold sizeI; rw [if_neg (by omega), if_neg (by omega), if_neg (by omega)]; rfl, hb⟩
 all_goals
  go_enter Tryz.func118, Tryz.ntmps118
  go_wp2_with (first | (go_at_call 112; refine (vaShift_c _ _ (by omega) (by omega)).mono ?_; rintro e w1 ⟨rfl, hb⟩; have ⟨hc, hf, hh, hs⟩ := hb.facts; try simp only [World.size_alloc, World.size_setCell, World.size_drew] at hs))
  go_ret
  exact ⟨rfl, hb⟩
theorem low_mask {a : Int} (i : Nat) (hi : i < 64) (h0 : 0 ≤ a) (h1 : a ≤ 18446744073709551615) : bits BinOp.and IntKind.u64 a ((2 ^ i - 1 : Nat) : Int) = a % ((2 ^ i : Nat) : Int) := by
 have hp : 2 ^ i - 1 < 18446744073709551616 := by
  have : (2 : Nat) ^ i ≤ 2 ^ 63 := Nat.pow_le_pow_right (by omega) (by omega)
  omega
 have e : a = (a.toNat : Int) := (Int.toNat_of_nonneg h0).symm
 rw [e, u64_and_nat _ _ (by omega) hp, Nat.and_two_pow_sub_one_eq_mod]
 rfl
theorem none129 (w : World) : Calls Tryz.prog 113 #[.int .i64 12, .int .i64 9] w fun e w' => e = .returned (.bool false) ∧ Ext w w' := by
 go_enter Tryz.func113, Tryz.ntmps113
 go_wp2
 all_goals
  go_ret
  exact ⟨rfl, (by repeat (first | exact Ext.refl _ | assumption | refine Ext.alloc ?_ _ | refine Ext.drew ?_ | refine Ext.setCell ?_ (by first | (simp; done) | (dsimp only; omega)) _ | refine Ext.trans ?_ (by assumption)))⟩
theorem ones9 (w : World) : Calls Tryz.prog 114 #[.int .i64 9] w fun e w' => e = .returned (.int .u64 511) ∧ Ext w w' := by
 go_enter Tryz.func114, Tryz.ntmps114
 go_wp2
 all_goals
  go_ret
  exact ⟨rfl, (by repeat (first | exact Ext.refl _ | assumption | refine Ext.alloc ?_ _ | refine Ext.drew ?_ | refine Ext.setCell ?_ (by first | (simp; done) | (dsimp only; omega)) _ | refine Ext.trans ?_ (by assumption)))⟩
theorem get129 (a : Int) (w : World) (h0 : 0 ≤ a) (h1 : a ≤ 18446744073709551615) : Calls Tryz.prog 79 #[.int .u64 a, .int .i64 12, .int .i64 9] w fun e w' => e = .returned (.int .u64 (a / 4096 % 512)) ∧ Ext w w' := by
 have hm : bits BinOp.and IntKind.u64 (a / 4096) 511 = a / 4096 % 512 := low_mask (a := a / 4096) 9 (by omega) (by omega) (by omega)
 go_enter Tryz.func79, Tryz.ntmps79
 go_wp2_with (first | (go_at_call 113; refine (none129 _).mono ?_; rintro e w1 ⟨rfl, hb⟩; have ⟨hc, hf, hh, hs⟩ := hb.facts; try simp only [World.size_alloc, World.size_setCell, World.size_drew] at hs) | (go_at_call 114; refine (ones9 _).mono ?_; rintro e w1 ⟨rfl, hb⟩; have ⟨hc, hf, hh, hs⟩ := hb.facts; try simp only [World.size_alloc, World.size_setCell, World.size_drew] at hs))
 go_ret
 exact ⟨by rw [← hm]; rfl, (by repeat (first | exact Ext.refl _ | assumption | refine Ext.alloc ?_ _ | refine Ext.drew ?_ | refine Ext.setCell ?_ (by first | (simp; done) | (dsimp only; omega)) _ | refine Ext.trans ?_ (by assumption)))⟩
theorem vaIndex1_c (a : Int) (w : World) (h0 : 0 ≤ a) (h1 : a ≤ 18446744073709551615) : Calls Tryz.prog 78 #[.int .u64 a, .int .i64 1] w fun e w' => e = .returned (.int .i64 (a / 4096 % 512)) ∧ Ext w w' := by
 have hs : ∀ w, Calls Tryz.prog 112 #[.int .i64 1] w fun e w' => e = .returned (.tuple #[.int .i64 12, .bool true]) ∧ Ext w w' := fun w => vaShift_c 1 w (by omega) (by omega)
 go_enter Tryz.func78, Tryz.ntmps78
 go_wp2_with (first | (go_at_call 112; refine (hs _).mono ?_; rintro e w1 ⟨rfl, hb⟩; have ⟨hc, hf, hh, hs⟩ := hb.facts; try simp only [World.size_alloc, World.size_setCell, World.size_drew] at hs) | (go_at_call 79; refine (get129 a _ h0 h1).mono ?_; rintro e w1 ⟨rfl, hb⟩; have ⟨hc, hf, hh, hs⟩ := hb.facts; try simp only [World.size_alloc, World.size_setCell, World.size_drew] at hs))
 go_ret
 exact ⟨rfl, (by repeat (first | exact Ext.refl _ | assumption | refine Ext.alloc ?_ _ | refine Ext.drew ?_ | refine Ext.setCell ?_ (by first | (simp; done) | (dsimp only; omega)) _ | refine Ext.trans ?_ (by assumption)))⟩
def placeI (a : Int) : Int := a / 4096 % 8
theorem placeI_lt (a : Int) (h0 : 0 ≤ a) : 0 ≤ placeI a ∧ placeI a ≤ 7 := by unfold placeI; omega
theorem tlbPlace_c (a : Int) (w : World) (h0 : 0 ≤ a) (h1 : a ≤ 18446744073709551615) : Calls Tryz.prog 93 #[.int .u64 a] w fun e w' => e = .returned (.int .i64 (placeI a)) ∧ Ext w w' := by
 have hp : (a / 4096 % 512) % 8 = placeI a := by unfold placeI; omega
 go_enter Tryz.func93, Tryz.ntmps93
 go_wp2_with (first | (go_at_call 78; refine (vaIndex1_c a _ h0 h1).mono ?_; rintro e w1 ⟨rfl, hb⟩; have ⟨hc, hf, hh, hs⟩ := hb.facts; try simp only [World.size_alloc, World.size_setCell, World.size_drew] at hs))
 go_ret
 exact ⟨by rw [← hp]; rfl, (by repeat (first | exact Ext.refl _ | assumption | refine Ext.alloc ?_ _ | refine Ext.drew ?_ | refine Ext.setCell ?_ (by first | (simp; done) | (dsimp only; omega)) _ | refine Ext.trans ?_ (by assumption)))⟩
def szT (l : Int) : Int := if l = 1 then 32768 else if l = 2 then 2097152 else 1073741824
def kT (p l a : Int) : Key := ⟨p, l, a / szT l⟩
theorem tlbKey_c (p l a : Int) (w : World) (hl : l = 1 ∨ l = 2 ∨ l = 3) (h0 : 0 ≤ a) (h1 : a ≤ 18446744073709551615) : Calls Tryz.prog 91 #[.int .i64 p, .int .i64 l, .int .u64 a] w fun e w' => e = .returned (kT p l a).val ∧ Ext w w' := by
 have s1 : ∀ w, Calls Tryz.prog 118 #[.int .i64 1] w fun e w' => e = .returned (.int .u64 4096) ∧ Ext w w' := fun w => vaSize_c 1 w
 have s2 : ∀ w, Calls Tryz.prog 118 #[.int .i64 2] w fun e w' => e = .returned (.int .u64 2097152) ∧ Ext w w' := fun w => vaSize_c 2 w
 have s3 : ∀ w, Calls Tryz.prog 118 #[.int .i64 3] w fun e w' => e = .returned (.int .u64 1073741824) ∧ Ext w w' := fun w => vaSize_c 3 w
 unfold kT szT Key.val
 rcases hl with rfl | rfl | rfl
 ·simp only [reduceIte]
  go_enter Tryz.func91, Tryz.ntmps91
  go_wp2_with (first | (go_at_call 118; refine (s1 _).mono ?_; rintro e w1 ⟨rfl, hb⟩; have ⟨hc, hf, hh, hs⟩ := hb.facts; try simp only [World.size_alloc, World.size_setCell, World.size_drew] at hs))
  refine bodyPost_ret (by simp [results, Tryz.results91, go_sem, ↓IntWalk.iteOmega, *]; try rfl) rfl ⟨rfl, (by repeat (first | exact Ext.refl _ | assumption | refine Ext.alloc ?_ _ | refine Ext.drew ?_ | refine Ext.setCell ?_ (by first | (simp; done) | (dsimp only; omega)) _ | refine Ext.trans ?_ (by assumption)))⟩
 ·simp only [Int.reduceEq, reduceIte]
  go_enter Tryz.func91, Tryz.ntmps91
  go_wp2_with (first | (go_at_call 118; refine (s2 _).mono ?_; rintro e w1 ⟨rfl, hb⟩; have ⟨hc, hf, hh, hs⟩ := hb.facts; try simp only [World.size_alloc, World.size_setCell, World.size_drew] at hs))
  refine bodyPost_ret (by simp [results, Tryz.results91, go_sem, ↓IntWalk.iteOmega, *]; try rfl) rfl ⟨rfl, (by repeat (first | exact Ext.refl _ | assumption | refine Ext.alloc ?_ _ | refine Ext.drew ?_ | refine Ext.setCell ?_ (by first | (simp; done) | (dsimp only; omega)) _ | refine Ext.trans ?_ (by assumption)))⟩
 ·simp only [Int.reduceEq, reduceIte]
  go_enter Tryz.func91, Tryz.ntmps91
  go_wp2_with (first | (go_at_call 118; refine (s3 _).mono ?_; rintro e w1 ⟨rfl, hb⟩; have ⟨hc, hf, hh, hs⟩ := hb.facts; try simp only [World.size_alloc, World.size_setCell, World.size_drew] at hs))
  refine bodyPost_ret (by simp [results, Tryz.results91, go_sem, ↓IntWalk.iteOmega, *]; try rfl) rfl ⟨rfl, (by repeat (first | exact Ext.refl _ | assumption | refine Ext.alloc ?_ _ | refine Ext.drew ?_ | refine Ext.setCell ?_ (by first | (simp; done) | (dsimp only; omega)) _ | refine Ext.trans ?_ (by assumption)))⟩
theorem refSize_c (l : Int) (w : World) : Calls Tryz.prog 86 #[.int .i64 l] w fun e w' => e = .returned (.int .u64 (sizeI l)) ∧ Ext w w' := by
 have : (l ≠ 1 ∧ l ≠ 2 ∧ l ≠ 3) ∨ l = 1 ∨ l = 2 ∨ l = 3 := by omega
 rcases this with ⟨h1, h2, h3⟩ | rfl | rfl | rfl
 ·have e1 : (l == 1) = false := by simpa using h1
  have e2 : (l == 2) = false := by simpa using h2
  have e3 : (l == 3) = false := by simpa using h3
  rw [show sizeI l = 0 by unfold sizeI; rw [if_neg h1, if_neg h2, if_neg h3]]
  go_enter Tryz.func86, Tryz.ntmps86
  go_wp2
  all_goals
   go_ret
   exact ⟨rfl, (by repeat (first | exact Ext.refl _ | assumption | refine Ext.alloc ?_ _ | refine Ext.drew ?_ | refine Ext.setCell ?_ (by first | (simp; done) | (dsimp only; omega)) _ | refine Ext.trans ?_ (by assumption)))⟩
 all_goals
  go_enter Tryz.func86, Tryz.ntmps86
  go_wp2
  all_goals
   go_ret
   exact ⟨rfl, (by repeat (first | exact Ext.refl _ | assumption | refine Ext.alloc ?_ _ | refine Ext.drew ?_ | refine Ext.setCell ?_ (by first | (simp; done) | (dsimp only; omega)) _ | refine Ext.trans ?_ (by assumption)))⟩
theorem refKeyT_c (p l a : Int) (w : World) (hl : l = 1 ∨ l = 2 ∨ l = 3) (h0 : 0 ≤ a) (h1 : a ≤ 18446744073709551615) : Calls Tryz.prog 102 #[.int .i64 p, .int .i64 l, .int .u64 a] w fun e w' => e = .returned (kT p l a).val ∧ Ext w w' := by
 have s1 : ∀ w, Calls Tryz.prog 86 #[.int .i64 1] w fun e w' => e = .returned (.int .u64 4096) ∧ Ext w w' := fun w => refSize_c 1 w
 have s2 : ∀ w, Calls Tryz.prog 86 #[.int .i64 2] w fun e w' => e = .returned (.int .u64 2097152) ∧ Ext w w' := fun w => refSize_c 2 w
 have s3 : ∀ w, Calls Tryz.prog 86 #[.int .i64 3] w fun e w' => e = .returned (.int .u64 1073741824) ∧ Ext w w' := fun w => refSize_c 3 w
 unfold kT szT Key.val
 rcases hl with rfl | rfl | rfl
 ·simp only [reduceIte]
  go_enter Tryz.func102, Tryz.ntmps102
  go_wp2_with (first | (go_at_call 86; refine (s1 _).mono ?_; rintro e w1 ⟨rfl, hb⟩; have ⟨hc, hf, hh, hs⟩ := hb.facts; try simp only [World.size_alloc, World.size_setCell, World.size_drew] at hs))
  refine bodyPost_ret (by simp [results, Tryz.results102, go_sem, ↓IntWalk.iteOmega, *]; try rfl) rfl ⟨rfl, (by repeat (first | exact Ext.refl _ | assumption | refine Ext.alloc ?_ _ | refine Ext.drew ?_ | refine Ext.setCell ?_ (by first | (simp; done) | (dsimp only; omega)) _ | refine Ext.trans ?_ (by assumption)))⟩
 ·simp only [Int.reduceEq, reduceIte]
  go_enter Tryz.func102, Tryz.ntmps102
  go_wp2_with (first | (go_at_call 86; refine (s2 _).mono ?_; rintro e w1 ⟨rfl, hb⟩; have ⟨hc, hf, hh, hs⟩ := hb.facts; try simp only [World.size_alloc, World.size_setCell, World.size_drew] at hs))
  refine bodyPost_ret (by simp [results, Tryz.results102, go_sem, ↓IntWalk.iteOmega, *]; try rfl) rfl ⟨rfl, (by repeat (first | exact Ext.refl _ | assumption | refine Ext.alloc ?_ _ | refine Ext.drew ?_ | refine Ext.setCell ?_ (by first | (simp; done) | (dsimp only; omega)) _ | refine Ext.trans ?_ (by assumption)))⟩
 ·simp only [Int.reduceEq, reduceIte]
  go_enter Tryz.func102, Tryz.ntmps102
  go_wp2_with (first | (go_at_call 86; refine (s3 _).mono ?_; rintro e w1 ⟨rfl, hb⟩; have ⟨hc, hf, hh, hs⟩ := hb.facts; try simp only [World.size_alloc, World.size_setCell, World.size_drew] at hs))
  refine bodyPost_ret (by simp [results, Tryz.results102, go_sem, ↓IntWalk.iteOmega, *]; try rfl) rfl ⟨rfl, (by repeat (first | exact Ext.refl _ | assumption | refine Ext.alloc ?_ _ | refine Ext.drew ?_ | refine Ext.setCell ?_ (by first | (simp; done) | (dsimp only; omega)) _ | refine Ext.trans ?_ (by assumption)))⟩
end Go.Proofs.YtkfonacokamfiaaGreat
/- Lines of groups, of both sides: has a page, without a page. -/
namespace Go.Proofs.YtkfonacokamfiaaGreat
set_option linter.unusedVariables false
set_option linter.unusedSimpArgs false
open Go.RowKit
attribute [local go_sem] wext_cell wext_frozen wext_heap alloc_cell alloc_frozen alloc_heap setCell_cell objCell_cells objFrozen_cells
def clrB (m i : Int) : Int := if bitB m i = true then m - pow2 i else m
theorem fin_and8 : ∀ (i : Fin 8) (m : Fin 256), (bits BinOp.and IntKind.u8 ((m : Nat) : Int) (pow2 ((i : Nat) : Int)) == 0) = !bitB ((m : Nat) : Int) ((i : Nat) : Int) := by decide +kernel
theorem fin_not8 : ∀ (i : Fin 8) (m : Fin 256), bits BinOp.andNot IntKind.u8 ((m : Nat) : Int) (pow2 ((i : Nat) : Int)) = clrB ((m : Nat) : Int) ((i : Nat) : Int) := by decide +kernel
theorem fin_with8 : ∀ (i : Fin 8) (m : Fin 256), ((withN (m : Nat) (i : Nat) false : Nat) : Int) = clrB ((m : Nat) : Int) ((i : Nat) : Int) := by decide +kernel
theorem fin_clr8 : ∀ (i : Fin 8) (m : Fin 256), 0 ≤ clrB ((m : Nat) : Int) ((i : Nat) : Int) ∧ clrB ((m : Nat) : Int) ((i : Nat) : Int) ≤ 255 := by decide +kernel
theorem toFin {m : Int} {n : Nat} (h0 : 0 ≤ m) (h1 : m < n) : ∃ k : Fin n, ((k : Nat) : Int) = m := ⟨⟨m.toNat, by omega⟩, by simp; omega⟩
theorem and8 {m i : Int} (hm0 : 0 ≤ m) (hm1 : m ≤ 255) (hi0 : 0 ≤ i) (hi1 : i ≤ 7) : (bits BinOp.and IntKind.u8 m (pow2 i) == 0) = !bitB m i := by
 obtain ⟨a, rfl⟩ := toFin (n := 256) hm0 (by omega)
 obtain ⟨b, rfl⟩ := toFin (n := 8) hi0 (by omega)
 exact fin_and8 b a
theorem not8 {m i : Int} (hm0 : 0 ≤ m) (hm1 : m ≤ 255) (hi0 : 0 ≤ i) (hi1 : i ≤ 7) : bits BinOp.andNot IntKind.u8 m (pow2 i) = clrB m i := by
 obtain ⟨a, rfl⟩ := toFin (n := 256) hm0 (by omega)
 obtain ⟨b, rfl⟩ := toFin (n := 8) hi0 (by omega)
 exact fin_not8 b a
theorem with8 {m i : Int} (hm0 : 0 ≤ m) (hm1 : m ≤ 255) (hi0 : 0 ≤ i) (hi1 : i ≤ 7) : ((withN m.toNat i.toNat false : Nat) : Int) = clrB m i := by
 obtain ⟨a, rfl⟩ := toFin (n := 256) hm0 (by omega)
 obtain ⟨b, rfl⟩ := toFin (n := 8) hi0 (by omega)
 exact fin_with8 b a
theorem clr8 {m i : Int} (hm0 : 0 ≤ m) (hm1 : m ≤ 255) (hi0 : 0 ≤ i) (hi1 : i ≤ 7) : 0 ≤ clrB m i ∧ clrB m i ≤ 255 := by
 obtain ⟨a, rfl⟩ := toFin (n := 256) hm0 (by omega)
 obtain ⟨b, rfl⟩ := toFin (n := 8) hi0 (by omega)
 exact fin_clr8 b a
def hasF (x : Line) (i : Int) : Int := if bitB x.m i = true then IntKind.u64.wrap (x.f + 4096 * i) else 0
def Line.ok (x : Line) : Prop := 0 ≤ x.m ∧ x.m ≤ 255
def outL (x : Line) (i : Int) : Line := if clrB x.m i = 0 then noLine else ⟨x.f, x.a, x.b, x.c, x.d, clrB x.m i⟩
theorem outL_ok {x : Line} {i : Int} (h : x.ok) (hi0 : 0 ≤ i) (hi1 : i ≤ 7) : (outL x i).ok := by
 unfold outL
 split
 ·exact ⟨by simp [noLine], by simp [noLine]⟩
 ·exact clr8 h.1 h.2 hi0 hi1
theorem gbit_c (i : Int) (w : World) (hi0 : 0 ≤ i) (hi1 : i ≤ 7) : Calls Tryz.prog 119 #[.int .i64 i] w fun e w' => e = .returned (.int .u8 (pow2 i)) ∧ Ext w w' := by
 rcases (show i = 0 ∨ i = 1 ∨ i = 2 ∨ i = 3 ∨ i = 4 ∨ i = 5 ∨ i = 6 ∨ i = 7 by omega) with rfl | rfl | rfl | rfl | rfl | rfl | rfl | rfl
 all_goals
  go_enter Tryz.func119, Tryz.ntmps119
  go_wp2
  all_goals
   go_ret
   exact ⟨rfl, (by repeat (first | exact Ext.refl _ | assumption | refine Ext.alloc ?_ _ | refine Ext.drew ?_ | refine Ext.setCell ?_ (by first | (simp; done) | (dsimp only; omega)) _ | refine Ext.trans ?_ (by assumption)))⟩
set_option maxHeartbeats 1000000 in
theorem has_c (x : Line) (i : Int) (w : World) (hx : x.ok) (hi0 : 0 ≤ i) (hi1 : i ≤ 7) :
  Calls Tryz.prog 92 #[x.val, .int .i64 i] w fun e w' => e = .returned (.tuple #[.int .u64 (hasF x i), .bool (bitB x.m i)]) ∧ Ext w w' := by
 have h8 := and8 hx.1 hx.2 hi0 hi1
 unfold hasF
 obtain ⟨xf, xa, xb, xc, xd, xm⟩ := x
 unfold Line.val
 dsimp only at h8 ⊢
 have hg := fun w => gbit_c i w hi0 hi1
 generalize pow2 i = pi at h8 hg
 cases hq : bitB xm i
 all_goals
  rw [hq] at h8
  go_enter Tryz.func92, Tryz.ntmps92
  go_upto_region 1 with (fail)
  refine region_ext (by kernel_rfl) (by kernel_rfl) ?_; (repeat (go_big_quiet_step ((go_at_call 119; exact calls_wext (hg _))))); refine wpQuiet_nil ?_; intro w1 hb; have ⟨hc, hf, hh, hs⟩ := hb.facts; try simp only [World.size_alloc, World.size_setCell, World.size_drew] at hs
  go_wp2
  all_goals
   go_ret2
   exact ⟨rfl, (by repeat (first | exact Ext.refl _ | assumption | refine Ext.alloc ?_ _ | refine Ext.drew ?_ | refine Ext.setCell ?_ (by first | (simp; done) | (dsimp only; omega)) _ | refine Ext.trans ?_ (by assumption)))⟩
theorem refIndex1_c (a : Int) (w : World) (h0 : 0 ≤ a) (h1 : a ≤ 18446744073709551615) : Calls Tryz.prog 83 #[.int .u64 a, .int .i64 1] w fun e w' => e = .returned (.int .i64 (a / 4096 % 512)) ∧ Ext w w' := by
 have hp : ∀ w, Calls Tryz.prog 84 #[.int .i64 12] w fun e w' => e = .returned (.int .u64 4096) ∧ Ext w w' := fun w => power_c 12 w (by omega) (by omega)
 go_enter Tryz.func83, Tryz.ntmps83
 go_wp2_with (first | (go_at_call 84; refine (hp _).mono ?_; rintro e w1 ⟨rfl, hb⟩; have ⟨hc, hf, hh, hs⟩ := hb.facts; try simp only [World.size_alloc, World.size_setCell, World.size_drew] at hs))
 go_ret
 exact ⟨rfl, (by repeat (first | exact Ext.refl _ | assumption | refine Ext.alloc ?_ _ | refine Ext.drew ?_ | refine Ext.setCell ?_ (by first | (simp; done) | (dsimp only; omega)) _ | refine Ext.trans ?_ (by assumption)))⟩
theorem refPlace_c (a : Int) (w : World) (h0 : 0 ≤ a) (h1 : a ≤ 18446744073709551615) : Calls Tryz.prog 104 #[.int .u64 a] w fun e w' => e = .returned (.int .i64 (placeI a)) ∧ Ext w w' := by
 have hp : (a / 4096 % 512) % 8 = placeI a := by unfold placeI; omega
 go_enter Tryz.func104, Tryz.ntmps104
 go_wp2_with (first | (go_at_call 83; refine (refIndex1_c a _ h0 h1).mono ?_; rintro e w1 ⟨rfl, hb⟩; have ⟨hc, hf, hh, hs⟩ := hb.facts; try simp only [World.size_alloc, World.size_setCell, World.size_drew] at hs))
 go_ret
 exact ⟨by rw [← hp]; rfl, (by repeat (first | exact Ext.refl _ | assumption | refine Ext.alloc ?_ _ | refine Ext.drew ?_ | refine Ext.setCell ?_ (by first | (simp; done) | (dsimp only; omega)) _ | refine Ext.trans ?_ (by assumption)))⟩
set_option maxHeartbeats 1000000 in
theorem refHas_c (x : Line) (i : Int) (w : World) (hx : x.ok) (hi0 : 0 ≤ i) (hi1 : i ≤ 7) :
  Calls Tryz.prog 103 #[x.val, .int .i64 i] w fun e w' => e = .returned (.tuple #[.int .u64 (hasF x i), .bool (bitB x.m i)]) ∧ Ext w w' := by
 unfold hasF
 obtain ⟨xf, xa, xb, xc, xd, xm⟩ := x
 obtain ⟨hx0, hx1⟩ := hx
 dsimp only at hx0 hx1 ⊢
 unfold Line.val
 have hg := fun w => bit_c xm i w (by omega) (by omega) (by omega) (by omega)
 cases hq : bitB xm i
 all_goals
  rw [hq] at hg
  go_enter Tryz.func103, Tryz.ntmps103
  go_wp2_with (first | (go_at_call 59; refine (hg _).mono ?_; rintro e w1 ⟨rfl, hb⟩; have ⟨hc, hf, hh, hs⟩ := hb.facts; try simp only [World.size_alloc, World.size_setCell, World.size_drew] at hs))
  all_goals
   go_ret2
   exact ⟨rfl, (by repeat (first | exact Ext.refl _ | assumption | refine Ext.alloc ?_ _ | refine Ext.drew ?_ | refine Ext.setCell ?_ (by first | (simp; done) | (dsimp only; omega)) _ | refine Ext.trans ?_ (by assumption)))⟩
end Go.Proofs.YtkfonacokamfiaaGreat
