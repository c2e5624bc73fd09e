/- Joined texts, part 4 of what the law stands on: each as its own head says. -/
import Derived.Test.YtkfonacokamfiaaGreatGoz1
import Derived.OpenShut
import Derived.Laws.BitsAllLaws
import Derived.Test.YtkfonacokamfiaaGreatGoz3
/- Contracts of the document's powers and bits. -/
namespace Go.Proofs.YtkfonacokamfiaaGreat
set_option linter.unusedVariables false
set_option linter.unusedSimpArgs false
open Go.RowKit
attribute [local go_sem] wext_cell wext_frozen wext_heap alloc_cell alloc_frozen alloc_heap setCell_cell objCell_cells objFrozen_cells
def pow2 (n : Int) : Int := ((2 ^ n.toNat : Nat) : Int)
theorem pow2_pos (n : Int) : 1 ≤ pow2 n := by
 unfold pow2; have : 0 < 2 ^ n.toNat := Nat.pow_pos (by omega); omega
theorem pow2_le (n : Int) (h : n ≤ 63) : pow2 n ≤ 9223372036854775808 := by
 unfold pow2; have : 2 ^ n.toNat ≤ 2 ^ 63 := Nat.pow_le_pow_right (by omega) (by omega); omega
theorem pow2_zero : pow2 0 = 1 := rfl
theorem pow2_succ (j : Nat) (h : j < 63) : IntKind.u64.wrap (2 * pow2 j) = pow2 ((j : Int) + 1) := by
 have h1 := pow2_le ((j : Int) + 1) (by omega)
 have h2 : pow2 ((j : Int) + 1) = 2 * pow2 j := by
  unfold pow2
  rw [show ((j : Int) + 1).toNat = j + 1 by omega, show (j : Int).toNat = j by omega, Nat.pow_succ]
  omega
 have h3 := pow2_pos j
 rw [h2, IntKind.wrap_u64]
 omega
set_option maxHeartbeats 800000 in
theorem power_c (n : Int) (w : World) (h0 : 0 ≤ n) (h1 : n ≤ 63) :
  Calls Tryz.prog 84 #[.int .i64 n] w fun e w' => e = .returned (.int .u64 (pow2 n)) ∧ Ext w w' := by
 go_enter Tryz.func84, Tryz.ntmps84
 go_wp2
 go_loop [3, 4] (fun x i => ∃ j : Nat, (j : Int) ≤ n ∧ i = .int .i64 j ∧ x = .int .u64 (pow2 j)) (fun _ i => (n - intOf i).toNat)
 case atStart => exact ⟨0, by omega, rfl, rfl⟩
 case round =>
  obtain ⟨j, hj, rfl, rfl⟩ := hrel
  by_cases hlt : (j : Int) < n
  ·go_wp2
   go_round
   case rel => exact ⟨j + 1, by omega, by go_num, by rw [pow2_succ _ (by omega)]; rfl⟩
   case measure => simp [intOf]; omega
  ·have : n = j := by omega
   have HN := Lib.hid this
   clear this
   go_wp2
   go_ret
   exact ⟨by rw [HN.out]; rfl, Ext.refl _⟩
def bitB (x i : Int) : Bool := x / pow2 i % 2 == 1
set_option maxHeartbeats 800000 in
theorem bit_c (x i : Int) (w : World) (hx : 0 ≤ x) (hx1 : x ≤ 18446744073709551615) (h0 : 0 ≤ i) (h1 : i ≤ 63) :
  Calls Tryz.prog 59 #[.int .u64 x, .int .i64 i] w fun e w' => e = .returned (.bool (bitB x i)) ∧ Ext w w' := by
 have hp := pow2_pos i
 have hq0 : 0 ≤ x / pow2 i := Int.ediv_nonneg hx (by omega)
 have hq1 : x / pow2 i ≤ 18446744073709551615 := by have := Int.ediv_le_self (pow2 i) hx; omega
 go_enter Tryz.func59, Tryz.ntmps59
 go_wp2_with (go_at_call 84; refine (power_c _ _ h0 h1).mono ?_; rintro e w1 ⟨rfl, hb⟩; have ⟨hc, hf, hh, hs⟩ := hb.facts; try simp only [World.size_alloc, World.size_setCell, World.size_drew] at hs)
 go_ret
 exact ⟨rfl, hb⟩
end Go.Proofs.YtkfonacokamfiaaGreat
/- Bits of a word, by division. Own text. -/
namespace Go.Proofs.YtkfonacokamfiaaGreat
open Go.RowKit
theorem bits_bit (n i : Nat) (hn : n < 18446744073709551616) (hi : i < 64) : bits BinOp.and IntKind.u64 (n : Int) ((2 ^ i : Nat) : Int) = ((n / 2 ^ i % 2 * 2 ^ i : Nat) : Int) := by
 have hp : 2 ^ i < 18446744073709551616 := by
  have : (2 : Nat) ^ i ≤ 2 ^ 63 := Nat.pow_le_pow_right (by omega) (by omega)
  omega
 rw [u64_and_nat n (2 ^ i) hn hp, nat_bit]
theorem bit_ne (n i : Nat) (hn : n < 18446744073709551616) (hi : i < 64) : (bits BinOp.and IntKind.u64 (n : Int) ((2 ^ i : Nat) : Int) != 0) = bitB n i := by
 rw [bits_bit n i hn hi]
 unfold bitB pow2
 rw [Int.toNat_natCast]
 have h2 : 0 < 2 ^ i := Nat.pow_pos (by omega)
 have e : ((n : Int) / ((2 ^ i : Nat) : Int) % 2) = ((n / 2 ^ i % 2 : Nat) : Int) := by simp
 rw [e]
 have h3 : n / 2 ^ i % 2 = 0 ∨ n / 2 ^ i % 2 = 1 := by omega
 rcases h3 with h | h
 ·rw [h]; simp
 ·rw [h]
  have : ¬ (((1 * 2 ^ i : Nat) : Int) = 0) := by omega
  rw [Bool.eq_iff_iff]
  simp only [bne_iff_ne, ne_eq, this, not_false_eq_true, beq_iff_eq, true_iff]
  rfl
theorem u64_of_wf {x : Int} (h : (Lit.int .u64 x).wf = true) : 0 ≤ x ∧ x ≤ 18446744073709551615 := by
 exact bounds_u64 h
end Go.Proofs.YtkfonacokamfiaaGreat
/- Entries: fields, tables, slots, leaves, reserved bits, frames; rights. -/
namespace Go.Proofs.YtkfonacokamfiaaGreat
set_option linter.unusedVariables false
set_option linter.unusedSimpArgs false
open Go.RowKit
attribute [local go_sem] wext_cell wext_frozen wext_heap alloc_cell alloc_frozen alloc_heap setCell_cell objCell_cells objFrozen_cells
theorem maskE {a : Int} (i : Nat) (hi : i < 64) (h0 : 0 ≤ a) (h1 : a ≤ 18446744073709551615) : bits BinOp.and IntKind.u64 a ((2 ^ i - 1 : Nat) : Int) = a % ((2 ^ i : Nat) : Int) := by
 have hp : 2 ^ i - 1 < 18446744073709551616 := by
  have : (2 : Nat) ^ i ≤ 2 ^ 63 := Nat.pow_le_pow_right (by omega) (by omega)
  omega
 have e : a = (a.toNat : Int) := (Int.toNat_of_nonneg h0).symm
 rw [e, u64_and_nat _ _ (by omega) hp, Nat.and_two_pow_sub_one_eq_mod]
 rfl
theorem bitE {a : Int} (i : Nat) (hi : i < 64) (h0 : 0 ≤ a) (h1 : a ≤ 18446744073709551615) : (bits BinOp.and IntKind.u64 a ((2 ^ i : Nat) : Int) != 0) = bitB a i := by
 have e : a = (a.toNat : Int) := (Int.toNat_of_nonneg h0).symm
 rw [e]
 exact bit_ne _ i (by omega) hi
theorem two_pow (n : Int) : (2 : Int) ^ n.toNat = pow2 n := by unfold pow2; simp
theorem fieldNone_c (lo n : Int) (w : World) (h0 : 0 ≤ lo) (h1 : 1 ≤ n) (h2 : lo ≤ 63) (h3 : n ≤ 64 - lo) :
  Calls Tryz.prog 113 #[.int .i64 lo, .int .i64 n] w fun e w' => e = .returned (.bool false) ∧ Ext w w' := by
 go_enter Tryz.func113, Tryz.ntmps113
 go_wp2
 all_goals
  go_ret
  exact ⟨rfl, (by repeat (first | exact Ext.refl _ | assumption | refine Ext.alloc ?_ _ | refine Ext.drew ?_ | refine Ext.setCell ?_ (by first | (simp; done) | (dsimp only; omega)) _ | refine Ext.trans ?_ (by assumption)))⟩
theorem ones_c (n : Int) (w : World) (h0 : 1 ≤ n) (h1 : n ≤ 63) :
  Calls Tryz.prog 114 #[.int .i64 n] w fun e w' => e = .returned (.int .u64 (pow2 n - 1)) ∧ Ext w w' := by
 go_enter Tryz.func114, Tryz.ntmps114
 go_wp2
 all_goals
  go_ret
  refine ⟨?_, (by repeat (first | exact Ext.refl _ | assumption | refine Ext.alloc ?_ _ | refine Ext.drew ?_ | refine Ext.setCell ?_ (by first | (simp; done) | (dsimp only; omega)) _ | refine Ext.trans ?_ (by assumption)))⟩
  have hw : IntKind.u64.wrap (IntKind.u64.wrap ((2 : Int) ^ n.toNat) - 1) = pow2 n - 1 := by
   have := pow2_pos n
   have := pow2_le n h1
   rw [two_pow, IntKind.wrap_u64, IntKind.wrap_u64]; omega
  rw [← hw]; rfl
theorem fieldGet_c (x lo n : Int) (w : World) (hx : 0 ≤ x) (hx1 : x ≤ 18446744073709551615) (h0 : 0 ≤ lo) (h1 : 1 ≤ n) (h2 : lo ≤ 63) (h3 : n ≤ 64 - lo) (h4 : n ≤ 63) :
  Calls Tryz.prog 79 #[.int .u64 x, .int .i64 lo, .int .i64 n] w fun e w' => e = .returned (.int .u64 (x / pow2 lo % pow2 n)) ∧ Ext w w' := by
 have hm : bits BinOp.and IntKind.u64 (x / pow2 lo) (pow2 n - 1) = x / pow2 lo % pow2 n := by
  have hq0 : 0 ≤ x / pow2 lo := Int.ediv_nonneg hx (by have := pow2_pos lo; omega)
  have hq1 : x / pow2 lo ≤ 18446744073709551615 := by have := Int.ediv_le_self (pow2 lo) hx; omega
  have := maskE (a := x / pow2 lo) n.toNat (by omega) hq0 hq1
  have e : pow2 n - 1 = ((2 ^ n.toNat - 1 : Nat) : Int) := by
   unfold pow2; have : 0 < 2 ^ n.toNat := Nat.pow_pos (by omega); omega
  rw [e, this]; rfl
 have HM := Lib.hid hm
 clear hm
 go_enter Tryz.func79, Tryz.ntmps79
 go_wp2_with (first | (go_at_call 113; refine (fieldNone_c _ _ _ h0 h1 h2 h3).mono ?_; rintro e w1 ⟨rfl, hb⟩; have ⟨hc, hf, hh, hs⟩ := hb.facts; try simp only [World.size_alloc, World.size_setCell, World.size_drew] at hs) | (go_at_call 114; refine (ones_c _ _ h1 h4).mono ?_; rintro e w1 ⟨rfl, hb⟩; have ⟨hc, hf, hh, hs⟩ := hb.facts; try simp only [World.size_alloc, World.size_setCell, World.size_drew] at hs))
 go_ret
 refine ⟨?_, (by repeat (first | exact Ext.refl _ | assumption | refine Ext.alloc ?_ _ | refine Ext.drew ?_ | refine Ext.setCell ?_ (by first | (simp; done) | (dsimp only; omega)) _ | refine Ext.trans ?_ (by assumption)))⟩
 rw [← HM.out, ← two_pow lo]; rfl
end Go.Proofs.YtkfonacokamfiaaGreat
/- Entries: tables, slots, leaves, reserved bits, frames; rights. -/
namespace Go.Proofs.YtkfonacokamfiaaGreat
set_option linter.unusedVariables false
set_option linter.unusedSimpArgs false
open Go.RowKit
attribute [local go_sem] wext_cell wext_frozen wext_heap alloc_cell alloc_frozen alloc_heap setCell_cell objCell_cells objFrozen_cells
def tabI (x : Int) : Int := x % 4503599627370496 - x % 4096
theorem tabI_le {x : Int} (h : 0 ≤ x) : 0 ≤ tabI x ∧ tabI x ≤ 4503599627366400 ∧ tabI x % 4096 = 0 ∧ tabI x ≤ x := by unfold tabI; omega
theorem tab_and {x : Int} (h0 : 0 ≤ x) (h1 : x ≤ 18446744073709551615) : bits BinOp.and IntKind.u64 x 4503599627366400 = tabI x := by
 have e : x = (x.toNat : Int) := (Int.toNat_of_nonneg h0).symm
 have hn : ∀ n : Nat, n &&& 4503599627366400 = n % 4503599627370496 - n % 4096 := fun n => by
  have e1 : (4503599627366400 : Nat) = (2 ^ 40 - 1) <<< 12 := by decide
  have e2 : n % 4503599627370496 - n % 4096 = (n >>> 12 &&& (2 ^ 40 - 1)) <<< 12 := by
   rw [Nat.and_two_pow_sub_one_eq_mod, Nat.shiftLeft_eq, Nat.shiftRight_eq_div_pow]
   omega
  rw [e2, e1]
  apply Nat.eq_of_testBit_eq
  intro i
  simp only [Nat.testBit_and, Nat.testBit_shiftLeft, Nat.testBit_shiftRight]
  by_cases hi : 12 ≤ i
  ·simp [hi, show 12 + (i - 12) = i by omega]
  ·simp [hi]
 rw [e, show (4503599627366400 : Int) = ((4503599627366400 : Nat) : Int) from rfl, u64_and_nat _ _ (by omega) (by omega), hn]
 unfold tabI
 omega
def idxI (a l : Int) : Int := if l = 1 then a / 4096 % 512 else if l = 2 then a / 2097152 % 512 else if l = 3 then a / 1073741824 % 512 else a / 549755813888 % 512
theorem idxI_le (a l : Int) : 0 ≤ idxI a l ∧ idxI a l ≤ 511 := by unfold idxI; split; omega; split; omega; split <;> omega
def slotI (t a l : Int) : Int := tabI t + 8 * idxI a l
theorem slotI_le {t a l : Int} (h : 0 ≤ t) : 0 ≤ slotI t a l ∧ slotI t a l ≤ 4503599627370488 ∧ slotI t a l % 8 = 0 := by
 have := idxI_le a l; have := tabI_le h; unfold slotI; omega
def leafI (x l : Int) : Bool := l == 1 || ((l == 2 || l == 3) && bitB x 7)
def sizeE (l : Int) : Int := if l = 1 then 4096 else if l = 2 then 2097152 else if l = 3 then 1073741824 else 1
def resI (x l B : Int) (nxe : Bool) : Bool := x / pow2 B % pow2 (52 - B) != 0 || (bitB x 63 && !nxe) || (l == 4 && bitB x 7) || (l == 2 && bitB x 7 && x / 8192 % 256 != 0) || (l == 3 && bitB x 7 && x / 8192 % 131072 != 0)
def frameI (x l : Int) : Int := if leafI x l then tabI x - tabI x % sizeE l else tabI x
theorem mask_c (w : World) : Calls Tryz.prog 81 #[.int .i64 12, .int .i64 40] w fun e w' => e = .returned (.int .u64 4503599627366400) ∧ Ext w w' := by
 have h1 : ∀ w, Calls Tryz.prog 114 #[.int .i64 40] w fun e w' => e = .returned (.int .u64 1099511627775) ∧ Ext w w' := fun w => ones_c 40 w (by omega) (by omega)
 go_enter Tryz.func81, Tryz.ntmps81
 go_wp2_with (first | (go_at_call 113; refine (fieldNone_c _ _ _ (by omega) (by omega) (by omega) (by omega)).mono ?_; rintro e w1 ⟨rfl, hb⟩; have ⟨hc, hf, hh, hs⟩ := hb.facts; try simp only [World.size_alloc, World.size_setCell, World.size_drew] at hs) | (go_at_call 114; refine (h1 _).mono ?_; rintro e w1 ⟨rfl, hb⟩; have ⟨hc, hf, hh, hs⟩ := hb.facts; try simp only [World.size_alloc, World.size_setCell, World.size_drew] at hs))
 go_ret
 exact ⟨rfl, (by repeat (first | exact Ext.refl _ | assumption | refine Ext.alloc ?_ _ | refine Ext.drew ?_ | refine Ext.setCell ?_ (by first | (simp; done) | (dsimp only; omega)) _ | refine Ext.trans ?_ (by assumption)))⟩
theorem entTable_c (x : Int) (w : World) (h0 : 0 ≤ x) (h1 : x ≤ 18446744073709551615) : Calls Tryz.prog 51 #[.int .u64 x] w fun e w' => e = .returned (.int .u64 (tabI x)) ∧ Ext w w' := by
 have ht := tab_and h0 h1
 go_enter Tryz.func51, Tryz.ntmps51
 go_wp2_with (first | (go_at_call 81; refine (mask_c _).mono ?_; rintro e w1 ⟨rfl, hb⟩; have ⟨hc, hf, hh, hs⟩ := hb.facts; try simp only [World.size_alloc, World.size_setCell, World.size_drew] at hs))
 go_ret
 exact ⟨by rw [← ht]; rfl, (by repeat (first | exact Ext.refl _ | assumption | refine Ext.alloc ?_ _ | refine Ext.drew ?_ | refine Ext.setCell ?_ (by first | (simp; done) | (dsimp only; omega)) _ | refine Ext.trans ?_ (by assumption)))⟩
theorem vaShiftE_c (l : Int) (w : World) (h0 : 1 ≤ l) (h1 : l ≤ 4) :
  Calls Tryz.prog 112 #[.int .i64 l] w fun e w' => e = .returned (.tuple #[.int .i64 (9 * l + 3), .bool true]) ∧ Ext w w' := by
 have : l = 1 ∨ l = 2 ∨ l = 3 ∨ l = 4 := by omega
 rcases this with rfl | rfl | rfl | rfl
 all_goals
  go_enter Tryz.func112, Tryz.ntmps112
  go_wp2
  go_ret2
  exact ⟨rfl, (by repeat (first | exact Ext.refl _ | assumption | refine Ext.alloc ?_ _ | refine Ext.drew ?_ | refine Ext.setCell ?_ (by first | (simp; done) | (dsimp only; omega)) _ | refine Ext.trans ?_ (by assumption)))⟩
theorem vaIndexE_c (a l : Int) (w : World) (hl0 : 1 ≤ l) (hl1 : l ≤ 4) (h0 : 0 ≤ a) (h1 : a ≤ 18446744073709551615) : Calls Tryz.prog 78 #[.int .u64 a, .int .i64 l] w fun e w' => e = .returned (.int .i64 (idxI a l)) ∧ Ext w w' := by
 have hs : ∀ w, Calls Tryz.prog 112 #[.int .i64 l] w fun e w' => e = .returned (.tuple #[.int .i64 (9 * l + 3), .bool true]) ∧ Ext w w' := fun w => vaShiftE_c l w hl0 hl1
 have hg : ∀ w, Calls Tryz.prog 79 #[.int .u64 a, .int .i64 (9 * l + 3), .int .i64 9] w fun e w' => e = .returned (.int .u64 (idxI a l)) ∧ Ext w w' := fun w => by
  have := fieldGet_c a (9 * l + 3) 9 w h0 h1 (by omega) (by omega) (by omega) (by omega) (by omega)
  have hl : l = 1 ∨ l = 2 ∨ l = 3 ∨ l = 4 := by omega
  rcases hl with rfl | rfl | rfl | rfl <;> exact this
 have hi := idxI_le a l
 generalize idxI a l = i at hg hi
 obtain ⟨hi0, hi1⟩ := hi
 go_enter Tryz.func78, Tryz.ntmps78
 go_wp2_with (first | (go_at_call 112; refine (hs _).mono ?_; rintro e w1 ⟨rfl, hb⟩; have ⟨hc, hf, hh, hs⟩ := hb.facts; try simp only [World.size_alloc, World.size_setCell, World.size_drew] at hs) | (go_at_call 79; refine (hg _).mono ?_; rintro e w1 ⟨rfl, hb⟩; have ⟨hc, hf, hh, hs⟩ := hb.facts; try simp only [World.size_alloc, World.size_setCell, World.size_drew] at hs))
 go_ret
 exact ⟨rfl, (by repeat (first | exact Ext.refl _ | assumption | refine Ext.alloc ?_ _ | refine Ext.drew ?_ | refine Ext.setCell ?_ (by first | (simp; done) | (dsimp only; omega)) _ | refine Ext.trans ?_ (by assumption)))⟩
theorem entSlot_c (t a l : Int) (w : World) (ht0 : 0 ≤ t) (ht1 : t ≤ 18446744073709551615) (hl0 : 1 ≤ l) (hl1 : l ≤ 4) (h0 : 0 ≤ a) (h1 : a ≤ 18446744073709551615) :
  Calls Tryz.prog 44 #[.int .u64 t, .int .u64 a, .int .i64 l] w fun e w' => e = .returned (.int .u64 (slotI t a l)) ∧ Ext w w' := by
 have hi := fun w => vaIndexE_c a l w hl0 hl1 h0 h1
 have hil := idxI_le a l
 unfold slotI
 generalize idxI a l = i at hi hil
 have ht := fun w => entTable_c t w ht0 ht1
 have htl := tabI_le ht0
 generalize tabI t = b at ht htl
 obtain ⟨hi0, hi1⟩ := hil
 obtain ⟨hb0, hb1, -, -⟩ := htl
 go_enter Tryz.func44, Tryz.ntmps44
 go_wp2_with (first | (go_at_call 51; refine (ht _).mono ?_; rintro e w1 ⟨rfl, hb⟩; have ⟨hc, hf, hh, hs⟩ := hb.facts; try simp only [World.size_alloc, World.size_setCell, World.size_drew] at hs) | (go_at_call 78; refine (hi _).mono ?_; rintro e w1 ⟨rfl, hb⟩; have ⟨hc, hf, hh, hs⟩ := hb.facts; try simp only [World.size_alloc, World.size_setCell, World.size_drew] at hs))
 go_ret
 exact ⟨rfl, (by repeat (first | exact Ext.refl _ | assumption | refine Ext.alloc ?_ _ | refine Ext.drew ?_ | refine Ext.setCell ?_ (by first | (simp; done) | (dsimp only; omega)) _ | refine Ext.trans ?_ (by assumption)))⟩
theorem entLeaf_c (x l : Int) (w : World) (h0 : 0 ≤ x) (h1 : x ≤ 18446744073709551615) :
  Calls Tryz.prog 49 #[.int .u64 x, .int .i64 l] w fun e w' => e = .returned (.bool (leafI x l)) ∧ Ext w w' := by
 have hb : (bits BinOp.and IntKind.u64 x 128 != 0) = bitB x 7 := bitE 7 (by omega) h0 h1
 have : l = 1 ∨ l = 2 ∨ l = 3 ∨ ((l == 1) = false ∧ (l == 2) = false ∧ (l == 3) = false) := by simp only [beq_eq_false_iff_ne]; omega
 unfold leafI
 rcases this with rfl | rfl | rfl | ⟨e1, e2, e3⟩
 case inr.inr.inr =>
  rw [e1, e2, e3]
  go_enter Tryz.func49, Tryz.ntmps49
  go_wp2
  go_ret
  exact ⟨rfl, (by repeat (first | exact Ext.refl _ | assumption | refine Ext.alloc ?_ _ | refine Ext.drew ?_ | refine Ext.setCell ?_ (by first | (simp; done) | (dsimp only; omega)) _ | refine Ext.trans ?_ (by assumption)))⟩
 all_goals
  go_enter Tryz.func49, Tryz.ntmps49
  go_wp2
  go_ret
  exact ⟨by simp [hb], (by repeat (first | exact Ext.refl _ | assumption | refine Ext.alloc ?_ _ | refine Ext.drew ?_ | refine Ext.setCell ?_ (by first | (simp; done) | (dsimp only; omega)) _ | refine Ext.trans ?_ (by assumption)))⟩
end Go.Proofs.YtkfonacokamfiaaGreat
/- A walk, plainly: its steps, why it ends, rights, level, frame. -/
namespace Go.Proofs.YtkfonacokamfiaaGreat
set_option linter.unusedVariables false
set_option linter.unusedSimpArgs false
open Go.RowKit
attribute [local go_sem] wext_cell wext_frozen wext_heap alloc_cell alloc_frozen alloc_heap setCell_cell objCell_cells objFrozen_cells
abbrev Rt := Bool × Bool × Bool
abbrev Stp := Int × Int × Int
def noRt : Rt := (false, false, false)
def allRt : Rt := (true, true, true)
def andR (r : Rt) (x : Int) : Rt := (r.1 && bitB x 1, r.2.1 && bitB x 2, r.2.2 && !bitB x 63)
def Stp.cells (s : Stp) : List Value := [.int .i64 s.1, .int .u64 s.2.1, .int .u64 s.2.2]
def rowS (L : List Stp) : List Value := L.flatMap Stp.cells
theorem rowS_length (L : List Stp) : (rowS L).length = L.length * 3 := by
 induction L with
 | nil => rfl
 | cons s L ih => simp only [rowS, List.flatMap_cons, List.length_append, List.length_cons, Stp.cells, List.length_nil] at *; omega
theorem rowS_append (L L2 : List Stp) : rowS (L ++ L2) = rowS L ++ rowS L2 := by simp [rowS]
abbrev WRes := Int × Rt × Int × Int
def walkF (M : Int → Int) (B : Int) (nxe : Bool) (a : Int) : Nat → Int → Rt → List Stp × WRes
 | 0, _, _ => ([], 2, noRt, 0, 0)
 | n + 1, t, r =>
  if errM B (slotI t a ((n : Int) + 1)) = 0 then
   if bitB (M (slotI t a ((n : Int) + 1) / 8)) 0 then
    if resI (M (slotI t a ((n : Int) + 1) / 8)) ((n : Int) + 1) B nxe then ([((n : Int) + 1, slotI t a ((n : Int) + 1), M (slotI t a ((n : Int) + 1) / 8))], 2, noRt, 0, 0)
    else if leafI (M (slotI t a ((n : Int) + 1) / 8)) ((n : Int) + 1) then
     ([((n : Int) + 1, slotI t a ((n : Int) + 1), M (slotI t a ((n : Int) + 1) / 8))], 0, andR r (M (slotI t a ((n : Int) + 1) / 8)), (n : Int) + 1, frameI (M (slotI t a ((n : Int) + 1) / 8)) ((n : Int) + 1))
    else
     ((((n : Int) + 1, slotI t a ((n : Int) + 1), M (slotI t a ((n : Int) + 1) / 8)) : Stp) :: (walkF M B nxe a n (tabI (M (slotI t a ((n : Int) + 1) / 8))) (andR r (M (slotI t a ((n : Int) + 1) / 8)))).1,
      (walkF M B nxe a n (tabI (M (slotI t a ((n : Int) + 1) / 8))) (andR r (M (slotI t a ((n : Int) + 1) / 8)))).2)
   else ([((n : Int) + 1, slotI t a ((n : Int) + 1), M (slotI t a ((n : Int) + 1) / 8))], 1, noRt, 0, 0)
  else ([], 2, noRt, 0, 0)
theorem walkF_bad {M : Int → Int} {B : Int} {nxe : Bool} {a : Int} {n : Nat} {t : Int} {r : Rt} (h : errM B (slotI t a ((n : Int) + 1)) ≠ 0) : walkF M B nxe a (n + 1) t r = ([], 2, noRt, 0, 0) := by
 show (if _ then _ else _) = _
 rw [if_neg h]
theorem walkF_absent {M : Int → Int} {B : Int} {nxe : Bool} {a : Int} {n : Nat} {t : Int} {r : Rt} {s x : Int} (hs : slotI t a ((n : Int) + 1) = s) (hx : M (s / 8) = x) (h : errM B s = 0) (hp : bitB x 0 = false) :
  walkF M B nxe a (n + 1) t r = ([((n : Int) + 1, s, x)], 1, noRt, 0, 0) := by
 subst hs hx
 unfold walkF
 rw [if_pos h, if_neg (by rw [hp]; decide)]
theorem walkF_res {M : Int → Int} {B : Int} {nxe : Bool} {a : Int} {n : Nat} {t : Int} {r : Rt} {s x : Int} (hs : slotI t a ((n : Int) + 1) = s) (hx : M (s / 8) = x) (h : errM B s = 0) (hp : bitB x 0 = true) (hr : resI x ((n : Int) + 1) B nxe = true) :
  walkF M B nxe a (n + 1) t r = ([((n : Int) + 1, s, x)], 2, noRt, 0, 0) := by
 subst hs hx
 unfold walkF
 rw [if_pos h, if_pos hp, if_pos hr]
theorem walkF_leaf {M : Int → Int} {B : Int} {nxe : Bool} {a : Int} {n : Nat} {t : Int} {r : Rt} {s x : Int} (hs : slotI t a ((n : Int) + 1) = s) (hx : M (s / 8) = x) (h : errM B s = 0) (hp : bitB x 0 = true) (hr : resI x ((n : Int) + 1) B nxe = false) (hl : leafI x ((n : Int) + 1) = true) :
  walkF M B nxe a (n + 1) t r = ([((n : Int) + 1, s, x)], 0, andR r x, (n : Int) + 1, frameI x ((n : Int) + 1)) := by
 subst hs hx
 unfold walkF
 rw [if_pos h, if_pos hp, if_neg (by rw [hr]; decide), if_pos hl]
theorem walkF_on {M : Int → Int} {B : Int} {nxe : Bool} {a : Int} {n : Nat} {t : Int} {r : Rt} {s x : Int} (hs : slotI t a ((n : Int) + 1) = s) (hx : M (s / 8) = x) (h : errM B s = 0) (hp : bitB x 0 = true) (hr : resI x ((n : Int) + 1) B nxe = false) (hl : leafI x ((n : Int) + 1) = false) :
  walkF M B nxe a (n + 1) t r = (((n : Int) + 1, s, x) :: (walkF M B nxe a n (tabI x) (andR r x)).1, (walkF M B nxe a n (tabI x) (andR r x)).2) := by
 subst hs hx
 conv => lhs; unfold walkF
 rw [if_pos h, if_pos hp, if_neg (by rw [hr]; decide), if_neg (by rw [hl]; decide)]
theorem stepRow : RowT Tryz.prog 82 94 3 24 := RowT.of (z := .agg #[.int .i64 0, .int .u64 0, .int .u64 0]) Tryz.underlying82 (by kernel_rfl) rfl
def Fr (w : World) (p q o : Nat) (lv t : Int) (r : Rt) (sv : Value) : Prop :=
 w.heap[p]? = some (.cells #[.int .i64 lv, .int .u64 t, .bool r.1, .bool r.2.1, .bool r.2.2] 90 (0, 0)) ∧
 w.heap[q]? = some (.cells #[.slice none 0 0, .int .i64 0, .bool false, .bool false, .bool false, .int .i64 0, .int .u64 0] 86 (0, 0)) ∧
 w.heap[o]? = some (.cells #[sv, .int .i64 2, .bool false, .bool false, .bool false, .int .i64 0, .int .u64 0] 86 (0, 0))
theorem Fr.keep {w w' : World} {p q o : Nat} {lv t : Int} {r : Rt} {sv : Value} (h : Fr w p q o lv t r sv) (k1 : w'.heap[p]? = w.heap[p]?) (k2 : w'.heap[q]? = w.heap[q]?) (k3 : w'.heap[o]? = w.heap[o]?) : Fr w' p q o lv t r sv :=
 ⟨k1.trans h.1, k2.trans h.2.1, k3.trans h.2.2⟩
theorem Fr.lt {w : World} {p q o : Nat} {lv t : Int} {r : Rt} {sv : Value} (h : Fr w p q o lv t r sv) : p < w.heap.size ∧ q < w.heap.size ∧ o < w.heap.size := ⟨heap_lt h.1, heap_lt h.2.1, heap_lt h.2.2⟩
theorem Fr.ext {w w' : World} {p q o : Nat} {lv t : Int} {r : Rt} {sv : Value} (h : Fr w p q o lv t r sv) (k : Ext w w') : Fr w' p q o lv t r sv := by
 have ⟨a, b, c⟩ := h.lt
 exact h.keep (k.block _ a) (k.block _ b) (k.block _ c)
theorem MemAt.apart {w : World} {mb : Nat} {F : List Nat} {B : Int} {M : Int → Int} {T : List Int} (h : MemAt w mb F B M T) {b : Nat} {c : Array Value} {e : TypeId} (hb : w.heap[b]? = some (.cells c e (0, 0)))
  (h1 : e ≠ 124) (h2 : e ≠ 23) (h3 : e ≠ 139) : b ∉ F := by
 obtain ⟨pb, tv, es, clock, PL, p1, p2, p3, p4, p5, p6, p7, p8, p9, rfl, p10⟩ := h
 intro hm
 simp only [List.mem_cons, List.mem_append, Option.mem_toList, List.mem_map] at hm
 rcases hm with rfl | rfl | hm | ⟨y, hy, rfl⟩
 ·rw [hb] at p1; simp only [Option.some.injEq, Obj.cells.injEq] at p1; exact h1 p1.2.1
 ·rw [hb] at p2; cases p2
 ·obtain ⟨c', hc⟩ := p9.heap b hm
  rw [hb] at hc; simp only [Option.some.injEq, Obj.cells.injEq] at hc; exact h2 hc.2.1
 ·obtain ⟨c', hc, -⟩ := p6 y hy
  rw [hb] at hc; simp only [Option.some.injEq, Obj.cells.injEq] at hc; exact h3 hc.2.1
def EndWalk (mb : Nat) (F : List Nat) (B : Int) (M : Int → Int) (T : List Int) (q : List Stp × WRes) (w : World) (e : Ending) (w' : World) : Prop :=
 ∃ v, e = .returned (.agg #[v, .int .i64 q.2.1, .bool q.2.2.1.1, .bool q.2.2.1.2.1, .bool q.2.2.1.2.2, .int .i64 q.2.2.2.1, .int .u64 q.2.2.2.2]) ∧ Owns w' 94 3 v q.1.length (rowS q.1) ∧
  EndMem mb F w B M (T ++ q.1.map (·.2.1)) w' ∧ ∀ g, v.ownBlock = some g → w.heap.size ≤ g
theorem store7_heap {w : World} {b : Nat} {c0 c1 c2 c3 c4 c5 c6 v0 v1 v2 v3 v4 v5 v6 : Value} {e : TypeId} {f : Nat × Nat} (h : w.heap[b]? = some (.cells #[c0, c1, c2, c3, c4, c5, c6] e f)) :
  (((((((w.setCell ⟨b, 0, none⟩ v0).setCell ⟨b, 1, none⟩ v1).setCell ⟨b, 2, none⟩ v2).setCell ⟨b, 3, none⟩ v3).setCell ⟨b, 4, none⟩ v4).setCell ⟨b, 5, none⟩ v5).setCell ⟨b, 6, none⟩ v6).heap[b]? = some (.cells #[v0, v1, v2, v3, v4, v5, v6] e f) := by
 have h0 : (w.setCell ⟨b, 0, none⟩ v0).heap[b]? = some (.cells #[v0, c1, c2, c3, c4, c5, c6] e f) := setCell_heap_same h
 have h1 : ((w.setCell ⟨b, 0, none⟩ v0).setCell ⟨b, 1, none⟩ v1).heap[b]? = some (.cells #[v0, v1, c2, c3, c4, c5, c6] e f) := setCell_heap_same h0
 have h2 : (((w.setCell ⟨b, 0, none⟩ v0).setCell ⟨b, 1, none⟩ v1).setCell ⟨b, 2, none⟩ v2).heap[b]? = some (.cells #[v0, v1, v2, c3, c4, c5, c6] e f) := setCell_heap_same h1
 have h3 : ((((w.setCell ⟨b, 0, none⟩ v0).setCell ⟨b, 1, none⟩ v1).setCell ⟨b, 2, none⟩ v2).setCell ⟨b, 3, none⟩ v3).heap[b]? = some (.cells #[v0, v1, v2, v3, c4, c5, c6] e f) := setCell_heap_same h2
 have h4 : (((((w.setCell ⟨b, 0, none⟩ v0).setCell ⟨b, 1, none⟩ v1).setCell ⟨b, 2, none⟩ v2).setCell ⟨b, 3, none⟩ v3).setCell ⟨b, 4, none⟩ v4).heap[b]? = some (.cells #[v0, v1, v2, v3, v4, c5, c6] e f) := setCell_heap_same h3
 have h5 : ((((((w.setCell ⟨b, 0, none⟩ v0).setCell ⟨b, 1, none⟩ v1).setCell ⟨b, 2, none⟩ v2).setCell ⟨b, 3, none⟩ v3).setCell ⟨b, 4, none⟩ v4).setCell ⟨b, 5, none⟩ v5).heap[b]? = some (.cells #[v0, v1, v2, v3, v4, v5, c6] e f) := setCell_heap_same h4
 have h6 : (((((((w.setCell ⟨b, 0, none⟩ v0).setCell ⟨b, 1, none⟩ v1).setCell ⟨b, 2, none⟩ v2).setCell ⟨b, 3, none⟩ v3).setCell ⟨b, 4, none⟩ v4).setCell ⟨b, 5, none⟩ v5).setCell ⟨b, 6, none⟩ v6).heap[b]? = some (.cells #[v0, v1, v2, v3, v4, v5, v6] e f) := setCell_heap_same h5
 exact h6
theorem store7_other {w : World} {b b' : Nat} {v0 v1 v2 v3 v4 v5 v6 : Value} (h : b ≠ b') :
  (((((((w.setCell ⟨b, 0, none⟩ v0).setCell ⟨b, 1, none⟩ v1).setCell ⟨b, 2, none⟩ v2).setCell ⟨b, 3, none⟩ v3).setCell ⟨b, 4, none⟩ v4).setCell ⟨b, 5, none⟩ v5).setCell ⟨b, 6, none⟩ v6).heap[b']? = w.heap[b']? := by
 exact (setCell_heap _ b 6 b' v6 h).trans (store6_other h)
theorem ext7 {a w : World} {b : Nat} {v0 v1 v2 v3 v4 v5 v6 : Value} (h : Ext a w) (hb : a.heap.size ≤ b) :
  Ext a (((((((w.setCell ⟨b, 0, none⟩ v0).setCell ⟨b, 1, none⟩ v1).setCell ⟨b, 2, none⟩ v2).setCell ⟨b, 3, none⟩ v3).setCell ⟨b, 4, none⟩ v4).setCell ⟨b, 5, none⟩ v5).setCell ⟨b, 6, none⟩ v6) :=
 Ext.setCell (Ext.setCell (Ext.setCell (Ext.setCell (Ext.setCell (Ext.setCell (Ext.setCell h hb _) hb _) hb _) hb _) hb _) hb _) hb _
theorem keeps7 {a w : World} {G : List Nat} {b : Nat} {v0 v1 v2 v3 v4 v5 v6 : Value} (h : Keeps G a w) (hb : a.heap.size ≤ b) :
  Keeps G a (((((((w.setCell ⟨b, 0, none⟩ v0).setCell ⟨b, 1, none⟩ v1).setCell ⟨b, 2, none⟩ v2).setCell ⟨b, 3, none⟩ v3).setCell ⟨b, 4, none⟩ v4).setCell ⟨b, 5, none⟩ v5).setCell ⟨b, 6, none⟩ v6) :=
 Keeps.setCell (Keeps.setCell (Keeps.setCell (Keeps.setCell (Keeps.setCell (Keeps.setCell (Keeps.setCell h (.inr hb) _) (.inr hb) _) (.inr hb) _) (.inr hb) _) (.inr hb) _) (.inr hb) _) (.inr hb) _
theorem Fr.facts {w : World} {p q o : Nat} {lv t : Int} {r : Rt} {sv : Value} (h : Fr w p q o lv t r sv) :
  (w.cell? ⟨p, 0, none⟩ = some (.int .i64 lv) ∧ w.cell? ⟨p, 1, none⟩ = some (.int .u64 t) ∧ w.cell? ⟨p, 2, none⟩ = some (.bool r.1) ∧ w.cell? ⟨p, 3, none⟩ = some (.bool r.2.1) ∧ w.cell? ⟨p, 4, none⟩ = some (.bool r.2.2) ∧ ∀ i, w.frozen? ⟨p, i, none⟩ = false) ∧
  (w.cell? ⟨q, 0, none⟩ = some (.slice none 0 0) ∧ w.cell? ⟨q, 1, none⟩ = some (.int .i64 0) ∧ w.cell? ⟨q, 2, none⟩ = some (.bool false) ∧ w.cell? ⟨q, 3, none⟩ = some (.bool false) ∧ w.cell? ⟨q, 4, none⟩ = some (.bool false) ∧ w.cell? ⟨q, 5, none⟩ = some (.int .i64 0) ∧ w.cell? ⟨q, 6, none⟩ = some (.int .u64 0) ∧ ∀ i, w.frozen? ⟨q, i, none⟩ = false) ∧
  (w.cell? ⟨o, 0, none⟩ = some sv ∧ w.cell? ⟨o, 1, none⟩ = some (.int .i64 2) ∧ w.cell? ⟨o, 2, none⟩ = some (.bool false) ∧ w.cell? ⟨o, 3, none⟩ = some (.bool false) ∧ w.cell? ⟨o, 4, none⟩ = some (.bool false) ∧ w.cell? ⟨o, 5, none⟩ = some (.int .i64 0) ∧ w.cell? ⟨o, 6, none⟩ = some (.int .u64 0) ∧ ∀ i, w.frozen? ⟨o, i, none⟩ = false) := by
 obtain ⟨h1, h2, h3⟩ := h
 exact ⟨⟨(heap_cell h1 0).trans rfl, (heap_cell h1 1).trans rfl, (heap_cell h1 2).trans rfl, (heap_cell h1 3).trans rfl, (heap_cell h1 4).trans rfl, fun i => by rw [frozen_heap, h1]; simp [objFrozen]⟩,
  ⟨(heap_cell h2 0).trans rfl, (heap_cell h2 1).trans rfl, (heap_cell h2 2).trans rfl, (heap_cell h2 3).trans rfl, (heap_cell h2 4).trans rfl, (heap_cell h2 5).trans rfl, (heap_cell h2 6).trans rfl, fun i => by rw [frozen_heap, h2]; simp [objFrozen]⟩,
  ⟨(heap_cell h3 0).trans rfl, (heap_cell h3 1).trans rfl, (heap_cell h3 2).trans rfl, (heap_cell h3 3).trans rfl, (heap_cell h3 4).trans rfl, (heap_cell h3 5).trans rfl, (heap_cell h3 6).trans rfl, fun i => by rw [frozen_heap, h3]; simp [objFrozen]⟩⟩
end Go.Proofs.YtkfonacokamfiaaGreat
