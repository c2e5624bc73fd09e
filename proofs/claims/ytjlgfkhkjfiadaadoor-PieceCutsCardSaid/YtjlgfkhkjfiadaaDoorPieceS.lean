/- Contracts of piece.Pick, piece.Slots, and the document's. -/
import Derived.Test.YtjlgfkhkjfiadaaDoorBits
namespace Go.Proofs.YtjlgfkhkjfiadaaDoor
set_option linter.unusedVariables false
set_option linter.unusedSimpArgs false
open Go.RowKit
attribute [local go_sem] wext_cell wext_frozen wext_heap alloc_cell alloc_frozen alloc_heap setCell_cell objCell_cells objFrozen_cells

theorem pick_out (a : Option Addr) (len cap : Nat) (i : Int) (w : World) (hl : len ≤ maxLen) (h : i < 0 ∨ (len : Int) ≤ i) :
    Calls Tryd.prog 21 #[.slice a len cap, .int .i64 i] w fun e w' => e = .returned (.int .i64 0) ∧ Ext w w' := by
  unfold maxLen at hl
  rcases h with h | h
  all_goals
    go_enter Tryd.func21, Tryd.ntmps21
    go_wp2
    all_goals
      go_ret
      exact ⟨rfl, (by repeat (first | exact Ext.refl _ | assumption | refine Ext.alloc ?_ _ | refine Ext.drew ?_ | refine Ext.setCell ?_ (by first | (simp; done) | (dsimp only; omega)) _ | refine Ext.trans ?_ (by assumption)))⟩
theorem pick_in (b off len cap : Nat) (i x : Int) (w : World) (hl : len ≤ maxLen) (h0 : 0 ≤ i) (h1 : i < (len : Int)) (hx : w.cell? ⟨b, off + i.toNat, none⟩ = some (.int .i64 x)) :
    Calls Tryd.prog 21 #[.slice (some ⟨b, off, none⟩) len cap, .int .i64 i] w fun e w' => e = .returned (.int .i64 x) ∧ Ext w w' := by
  unfold maxLen at hl
  go_enter Tryd.func21, Tryd.ntmps21
  go_wp2
  all_goals
    go_ret
    exact ⟨rfl, (by repeat (first | exact Ext.refl _ | assumption | refine Ext.alloc ?_ _ | refine Ext.drew ?_ | refine Ext.setCell ?_ (by first | (simp; done) | (dsimp only; omega)) _ | refine Ext.trans ?_ (by assumption)))⟩
/-- whether bytes have slots -/
def slotB (a n : Int) : Bool := decide (1 ≤ n) && decide (n ≤ 8) && decide (a + n ≤ 18446744073709551616)
/-- whether they lie in one -/
def oneB (a n : Int) : Bool := decide (a % 8 + n ≤ 8)
def EndSlots0 (w : World) (e : Ending) (w' : World) : Prop := e = .returned (.slice none 0 0) ∧ Ext w w'
def EndSlots1 (x : Int) (w : World) (e : Ending) (w' : World) : Prop :=
  ∃ g cap, e = .returned (.slice (some ⟨g, 0, none⟩) 1 cap) ∧ w.heap.size ≤ g ∧ g < w'.heap.size ∧ w'.cell? ⟨g, 0, none⟩ = some (.int .u64 x) ∧ Ext w w'
def EndSlots2 (x y : Int) (w : World) (e : Ending) (w' : World) : Prop :=
  ∃ g cap, e = .returned (.slice (some ⟨g, 0, none⟩) 2 cap) ∧ w.heap.size ≤ g ∧ g < w'.heap.size ∧ w'.cell? ⟨g, 0, none⟩ = some (.int .u64 x) ∧ w'.cell? ⟨g, 1, none⟩ = some (.int .u64 y) ∧ Ext w w'
theorem slotB_false {a n : Int} (h : slotB a n = false) : n < 1 ∨ 8 < n ∨ (1 ≤ n ∧ n ≤ 8 ∧ 18446744073709551616 < a + n) := by
  simp [slotB] at h; omega
theorem slotB_true {a n : Int} (h : slotB a n = true) : 1 ≤ n ∧ n ≤ 8 ∧ a + n ≤ 18446744073709551616 := by
  simp [slotB] at h; omega
theorem andNot7 {a : Int} (h0 : 0 ≤ a) (h1 : a ≤ 18446744073709551615) : bits BinOp.andNot IntKind.u64 a 7 = a - a % 8 := by
  have e : a = (a.toNat : Int) := (Int.toNat_of_nonneg h0).symm
  have e7 : (7 : Int) = ((7 : Nat) : Int) := rfl
  rw [e, e7, u64_andNot_nat _ _ (by omega) (by omega)]
  have : a.toNat &&& (18446744073709551615 - 7) = a.toNat - a.toNat % 8 := by
    have e1 : a.toNat - a.toNat % 8 = (a.toNat >>> 3) <<< 3 := by rw [Nat.shiftLeft_eq, Nat.shiftRight_eq_div_pow]; omega
    have e2 : 18446744073709551615 - 7 = (2 ^ 61 - 1) <<< 3 := by rw [Nat.shiftLeft_eq]
    rw [e1, e2]
    apply Nat.eq_of_testBit_eq
    intro i
    rw [Nat.testBit_and, Nat.testBit_shiftLeft, Nat.testBit_shiftLeft, Nat.testBit_shiftRight, Nat.testBit_two_pow_sub_one]
    by_cases h3 : 3 ≤ i
    · by_cases h64 : i < 64
      · simp [h3, show i - 3 < 61 by omega, show 3 + (i - 3) = i by omega]
      · have : a.toNat.testBit i = false := Nat.testBit_lt_two_pow (Nat.lt_of_lt_of_le (show a.toNat < 2 ^ 64 by omega) (Nat.pow_le_pow_right (by omega) (by omega)))
        simp [this, show 3 + (i - 3) = i by omega]
    · simp [h3]
  rw [this]
  omega

theorem slots_bad (a n : Int) (w : World) (h0 : 0 ≤ a) (h1 : a ≤ 18446744073709551615) (hn0 : -9223372036854775808 ≤ n) (hn1 : n ≤ 9223372036854775807) (h : slotB a n = false) :
    Calls Tryd.prog 31 #[.int .u64 a, .int .i64 n] w (EndSlots0 w) := by
  have h2 := slotB_false h
  clear h
  rcases h2 with h | h | ⟨g1, g2, g3⟩
  case inr.inr =>
    have hl : ∃ L, IntKind.u64.wrap (IntKind.u64.wrap (a + n) - 1) = L ∧ L < a := ⟨_, rfl, by simp only [IntKind.wrap_u64]; omega⟩
    obtain ⟨L, hL, hla⟩ := hl
    go_enter Tryd.func31, Tryd.ntmps31
    go_wp2
    go_ret
    exact ⟨rfl, Ext.refl _⟩
  all_goals
    go_enter Tryd.func31, Tryd.ntmps31
    go_wp2
    all_goals
      go_ret
      exact ⟨rfl, Ext.refl _⟩

theorem slots_one (a n : Int) (w : World) (h0 : 0 ≤ a) (h : slotB a n = true) (h2 : oneB a n = true) :
    Calls Tryd.prog 31 #[.int .u64 a, .int .i64 n] w (EndSlots1 (a - a % 8) w) := by
  obtain ⟨g1, g2, g3⟩ := slotB_true h
  simp only [oneB, decide_eq_true_eq] at h2
  clear h
  have hl : ∃ L, IntKind.u64.wrap (IntKind.u64.wrap (a + n) - 1) = L ∧ L = a + n - 1 := ⟨_, rfl, by simp only [IntKind.wrap_u64]; omega⟩
  obtain ⟨L, hL, hla⟩ := hl
  have g4 : a ≤ L := by omega
  have b1 := andNot7 (a := a) h0 (by omega)
  have b2 := andNot7 (a := L) (by omega) (by omega)
  rw [show L - L % 8 = a - a % 8 by omega] at b2
  clear hla
  go_enter Tryd.func31, Tryd.ntmps31
  go_wp2
  go_ret
  exact ⟨_, _, rfl, Nat.le_refl _, by simp, by simp, (by repeat (first | exact Ext.refl _ | assumption | refine Ext.alloc ?_ _ | refine Ext.drew ?_ | refine Ext.setCell ?_ (by first | (simp; done) | (dsimp only; omega)) _ | refine Ext.trans ?_ (by assumption)))⟩

theorem slots_two (a n : Int) (w : World) (h0 : 0 ≤ a) (h : slotB a n = true) (h2 : oneB a n = false) :
    Calls Tryd.prog 31 #[.int .u64 a, .int .i64 n] w (EndSlots2 (a - a % 8) (a - a % 8 + 8) w) := by
  obtain ⟨g1, g2, g3⟩ := slotB_true h
  simp only [oneB, decide_eq_false_iff_not] at h2
  clear h
  have b1 := andNot7 (a := a) h0 (by omega)
  have b2 := andNot7 (a := a + n - 1) (by omega) (by omega)
  rw [show (a + n - 1) - (a + n - 1) % 8 = a - a % 8 + 8 by omega] at b2
  have g5 : (a - a % 8 + 8 != a - a % 8) = true := by rw [bne_iff_ne]; omega
  go_enter Tryd.func31, Tryd.ntmps31
  go_wp2
  go_ret
  refine ⟨_, _, rfl, (by omega), (by simp), ?_, ?_, (by repeat (first | exact Ext.refl _ | assumption | refine Ext.alloc ?_ _ | refine Ext.drew ?_ | refine Ext.setCell ?_ (by first | (simp; done) | (dsimp only; omega)) _ | refine Ext.trans ?_ (by assumption)))⟩
  · simp [alloc_cell, objCell_cells, World.cell?_drew]
    rw [Array.getElem?_append_left (by simp)]; rfl
  · simp [alloc_cell, objCell_cells, World.cell?_drew]
    rw [Array.getElem?_append_left (by simp)]; rfl

/-! the document's -/
end Go.Proofs.YtjlgfkhkjfiadaaDoor
