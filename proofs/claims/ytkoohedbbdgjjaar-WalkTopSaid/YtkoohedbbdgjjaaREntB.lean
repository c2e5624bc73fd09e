/- Entries: tables, slots, leaves, reserved bits, frames; rights. -/
import Derived.Test.YtkoohedbbdgjjaaREntA
namespace Go.Proofs.YtkoohedbbdgjjaaR
set_option linter.unusedVariables false
set_option linter.unusedSimpArgs false
open Go.RowKit
attribute [local go_sem] wext_cell wext_frozen wext_heap alloc_cell alloc_frozen alloc_heap setCell_cell objCell_cells objFrozen_cells

def tabI (x : Int) : Int := x % 4503599627370496 - x % 4096
theorem tabI_le {x : Int} (h : 0 ≤ x) : 0 ≤ tabI x ∧ tabI x ≤ 4503599627366400 ∧ tabI x % 4096 = 0 ∧ tabI x ≤ x := by unfold tabI; omega
theorem tab_and {x : Int} (h0 : 0 ≤ x) (h1 : x ≤ 18446744073709551615) : bits BinOp.and IntKind.u64 x 4503599627366400 = tabI x := by
  have e : x = (x.toNat : Int) := (Int.toNat_of_nonneg h0).symm
  have hn : ∀ n : Nat, n &&& 4503599627366400 = n % 4503599627370496 - n % 4096 := fun n => by
    have e1 : (4503599627366400 : Nat) = (2 ^ 40 - 1) <<< 12 := by decide
    have e2 : n % 4503599627370496 - n % 4096 = (n >>> 12 &&& (2 ^ 40 - 1)) <<< 12 := by
      rw [Nat.and_two_pow_sub_one_eq_mod, Nat.shiftLeft_eq, Nat.shiftRight_eq_div_pow]
      omega
    rw [e2, e1]
    apply Nat.eq_of_testBit_eq
    intro i
    simp only [Nat.testBit_and, Nat.testBit_shiftLeft, Nat.testBit_shiftRight]
    by_cases hi : 12 ≤ i
    · simp [hi, show 12 + (i - 12) = i by omega]
    · simp [hi]
  rw [e, show (4503599627366400 : Int) = ((4503599627366400 : Nat) : Int) from rfl, u64_and_nat _ _ (by omega) (by omega), hn]
  unfold tabI
  omega
def idxI (a l : Int) : Int := if l = 1 then a / 4096 % 512 else if l = 2 then a / 2097152 % 512 else if l = 3 then a / 1073741824 % 512 else a / 549755813888 % 512
theorem idxI_le (a l : Int) : 0 ≤ idxI a l ∧ idxI a l ≤ 511 := by unfold idxI; split; omega; split; omega; split <;> omega
def slotI (t a l : Int) : Int := tabI t + 8 * idxI a l
theorem slotI_le {t a l : Int} (h : 0 ≤ t) : 0 ≤ slotI t a l ∧ slotI t a l ≤ 4503599627370488 ∧ slotI t a l % 8 = 0 := by
  have := idxI_le a l; have := tabI_le h; unfold slotI; omega
def leafI (x l : Int) : Bool := l == 1 || ((l == 2 || l == 3) && bitB x 7)
def sizeE (l : Int) : Int := if l = 1 then 4096 else if l = 2 then 2097152 else if l = 3 then 1073741824 else 1
def resI (x l B : Int) (nxe : Bool) : Bool := x / pow2 B % pow2 (52 - B) != 0 || (bitB x 63 && !nxe) || (l == 4 && bitB x 7) || (l == 2 && bitB x 7 && x / 8192 % 256 != 0) || (l == 3 && bitB x 7 && x / 8192 % 131072 != 0)
def frameI (x l : Int) : Int := if leafI x l then tabI x - tabI x % sizeE l else tabI x

theorem mask_c (w : World) : Calls Try.prog 119 #[.int .i64 12, .int .i64 40] w fun e w' => e = .returned (.int .u64 4503599627366400) ∧ Ext w w' := by
  have h1 : ∀ w, Calls Try.prog 144 #[.int .i64 40] w fun e w' => e = .returned (.int .u64 1099511627775) ∧ Ext w w' := fun w => ones_c 40 w (by omega) (by omega)
  go_enter Try.func119, Try.ntmps119
  go_wp2_with (first | (go_at_call 143; refine (fieldNone_c _ _ _ (by omega) (by omega) (by omega) (by omega)).mono ?_; rintro e w1 ⟨rfl, hb⟩; have ⟨hc, hf, hh, hs⟩ := hb.facts; try simp only [World.size_alloc, World.size_setCell, World.size_drew] at hs) | (go_at_call 144; refine (h1 _).mono ?_; rintro e w1 ⟨rfl, hb⟩; have ⟨hc, hf, hh, hs⟩ := hb.facts; try simp only [World.size_alloc, World.size_setCell, World.size_drew] at hs))
  go_ret
  exact ⟨rfl, (by repeat (first | exact Ext.refl _ | assumption | refine Ext.alloc ?_ _ | refine Ext.drew ?_ | refine Ext.setCell ?_ (by first | (simp; done) | (dsimp only; omega)) _ | refine Ext.trans ?_ (by assumption)))⟩
theorem entTable_c (x : Int) (w : World) (h0 : 0 ≤ x) (h1 : x ≤ 18446744073709551615) : Calls Try.prog 75 #[.int .u64 x] w fun e w' => e = .returned (.int .u64 (tabI x)) ∧ Ext w w' := by
  have ht := tab_and h0 h1
  go_enter Try.func75, Try.ntmps75
  go_wp2_with (first | (go_at_call 119; refine (mask_c _).mono ?_; rintro e w1 ⟨rfl, hb⟩; have ⟨hc, hf, hh, hs⟩ := hb.facts; try simp only [World.size_alloc, World.size_setCell, World.size_drew] at hs))
  go_ret
  exact ⟨by rw [← ht]; rfl, (by repeat (first | exact Ext.refl _ | assumption | refine Ext.alloc ?_ _ | refine Ext.drew ?_ | refine Ext.setCell ?_ (by first | (simp; done) | (dsimp only; omega)) _ | refine Ext.trans ?_ (by assumption)))⟩
theorem vaShiftE_c (l : Int) (w : World) (h0 : 1 ≤ l) (h1 : l ≤ 4) :
    Calls Try.prog 142 #[.int .i64 l] w fun e w' => e = .returned (.tuple #[.int .i64 (9 * l + 3), .bool true]) ∧ Ext w w' := by
  have : l = 1 ∨ l = 2 ∨ l = 3 ∨ l = 4 := by omega
  rcases this with rfl | rfl | rfl | rfl
  all_goals
    go_enter Try.func142, Try.ntmps142
    go_wp2
    go_ret2
    exact ⟨rfl, (by repeat (first | exact Ext.refl _ | assumption | refine Ext.alloc ?_ _ | refine Ext.drew ?_ | refine Ext.setCell ?_ (by first | (simp; done) | (dsimp only; omega)) _ | refine Ext.trans ?_ (by assumption)))⟩
theorem vaIndexE_c (a l : Int) (w : World) (hl0 : 1 ≤ l) (hl1 : l ≤ 4) (h0 : 0 ≤ a) (h1 : a ≤ 18446744073709551615) : Calls Try.prog 117 #[.int .u64 a, .int .i64 l] w fun e w' => e = .returned (.int .i64 (idxI a l)) ∧ Ext w w' := by
  have hs : ∀ w, Calls Try.prog 142 #[.int .i64 l] w fun e w' => e = .returned (.tuple #[.int .i64 (9 * l + 3), .bool true]) ∧ Ext w w' := fun w => vaShiftE_c l w hl0 hl1
  have hg : ∀ w, Calls Try.prog 118 #[.int .u64 a, .int .i64 (9 * l + 3), .int .i64 9] w fun e w' => e = .returned (.int .u64 (idxI a l)) ∧ Ext w w' := fun w => by
    have := fieldGet_c a (9 * l + 3) 9 w h0 h1 (by omega) (by omega) (by omega) (by omega) (by omega)
    have hl : l = 1 ∨ l = 2 ∨ l = 3 ∨ l = 4 := by omega
    rcases hl with rfl | rfl | rfl | rfl <;> exact this
  have hi := idxI_le a l
  generalize idxI a l = i at hg hi
  obtain ⟨hi0, hi1⟩ := hi
  go_enter Try.func117, Try.ntmps117
  go_wp2_with (first | (go_at_call 142; refine (hs _).mono ?_; rintro e w1 ⟨rfl, hb⟩; have ⟨hc, hf, hh, hs⟩ := hb.facts; try simp only [World.size_alloc, World.size_setCell, World.size_drew] at hs) | (go_at_call 118; refine (hg _).mono ?_; rintro e w1 ⟨rfl, hb⟩; have ⟨hc, hf, hh, hs⟩ := hb.facts; try simp only [World.size_alloc, World.size_setCell, World.size_drew] at hs))
  go_ret
  exact ⟨rfl, (by repeat (first | exact Ext.refl _ | assumption | refine Ext.alloc ?_ _ | refine Ext.drew ?_ | refine Ext.setCell ?_ (by first | (simp; done) | (dsimp only; omega)) _ | refine Ext.trans ?_ (by assumption)))⟩
theorem entSlot_c (t a l : Int) (w : World) (ht0 : 0 ≤ t) (ht1 : t ≤ 18446744073709551615) (hl0 : 1 ≤ l) (hl1 : l ≤ 4) (h0 : 0 ≤ a) (h1 : a ≤ 18446744073709551615) :
    Calls Try.prog 69 #[.int .u64 t, .int .u64 a, .int .i64 l] w fun e w' => e = .returned (.int .u64 (slotI t a l)) ∧ Ext w w' := by
  have hi := fun w => vaIndexE_c a l w hl0 hl1 h0 h1
  have hil := idxI_le a l
  unfold slotI
  generalize idxI a l = i at hi hil
  have ht := fun w => entTable_c t w ht0 ht1
  have htl := tabI_le ht0
  generalize tabI t = b at ht htl
  obtain ⟨hi0, hi1⟩ := hil
  obtain ⟨hb0, hb1, -, -⟩ := htl
  go_enter Try.func69, Try.ntmps69
  go_wp2_with (first | (go_at_call 75; refine (ht _).mono ?_; rintro e w1 ⟨rfl, hb⟩; have ⟨hc, hf, hh, hs⟩ := hb.facts; try simp only [World.size_alloc, World.size_setCell, World.size_drew] at hs) | (go_at_call 117; refine (hi _).mono ?_; rintro e w1 ⟨rfl, hb⟩; have ⟨hc, hf, hh, hs⟩ := hb.facts; try simp only [World.size_alloc, World.size_setCell, World.size_drew] at hs))
  go_ret
  exact ⟨rfl, (by repeat (first | exact Ext.refl _ | assumption | refine Ext.alloc ?_ _ | refine Ext.drew ?_ | refine Ext.setCell ?_ (by first | (simp; done) | (dsimp only; omega)) _ | refine Ext.trans ?_ (by assumption)))⟩
theorem entLeaf_c (x l : Int) (w : World) (h0 : 0 ≤ x) (h1 : x ≤ 18446744073709551615) :
    Calls Try.prog 73 #[.int .u64 x, .int .i64 l] w fun e w' => e = .returned (.bool (leafI x l)) ∧ Ext w w' := by
  have hb : (bits BinOp.and IntKind.u64 x 128 != 0) = bitB x 7 := bitE 7 (by omega) h0 h1
  have : l = 1 ∨ l = 2 ∨ l = 3 ∨ ((l == 1) = false ∧ (l == 2) = false ∧ (l == 3) = false) := by simp only [beq_eq_false_iff_ne]; omega
  unfold leafI
  rcases this with rfl | rfl | rfl | ⟨e1, e2, e3⟩
  case inr.inr.inr =>
    rw [e1, e2, e3]
    go_enter Try.func73, Try.ntmps73
    go_wp2
    go_ret
    exact ⟨rfl, (by repeat (first | exact Ext.refl _ | assumption | refine Ext.alloc ?_ _ | refine Ext.drew ?_ | refine Ext.setCell ?_ (by first | (simp; done) | (dsimp only; omega)) _ | refine Ext.trans ?_ (by assumption)))⟩
  all_goals
    go_enter Try.func73, Try.ntmps73
    go_wp2
    go_ret
    exact ⟨by simp [hb], (by repeat (first | exact Ext.refl _ | assumption | refine Ext.alloc ?_ _ | refine Ext.drew ?_ | refine Ext.setCell ?_ (by first | (simp; done) | (dsimp only; omega)) _ | refine Ext.trans ?_ (by assumption)))⟩
end Go.Proofs.YtkoohedbbdgjjaaR
