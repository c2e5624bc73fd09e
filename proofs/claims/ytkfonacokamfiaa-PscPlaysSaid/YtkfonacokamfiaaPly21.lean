/- Joined texts, part 21 of what the law stands on: each as its own head says. -/
import Derived.Test.YtkfonacokamfiaaPly19
import Derived.Test.YtkfonacokamfiaaPly20
/- Mark: a path's slots' flags. -/
namespace Go.Proofs.Ytkfonacokamfiaa
set_option linter.unusedVariables false
set_option linter.unusedSimpArgs false
open Go.RowKit
attribute [local go_sem] wext_cell wext_frozen wext_heap alloc_cell alloc_frozen alloc_heap setCell_cell objCell_cells objFrozen_cells

/-- Three cells of a step in a slice of steps. -/
def StepsAt (U : World) (sa : Option Addr) (L : List Stp) : Prop :=
  ∀ i, i < L.length → ∃ g o, sa = some ⟨g, o, none⟩ ∧ g < U.heap.size ∧ U.cell? ⟨g, o + i * 3, none⟩ = some (.int .i64 (stpAt L i).1) ∧ U.cell? ⟨g, o + i * 3 + 1, none⟩ = some (.int .u64 (stpAt L i).2.1) ∧ U.cell? ⟨g, o + i * 3 + 2, none⟩ = some (.int .u64 (stpAt L i).2.2)
theorem StepsAt.ext {U V : World} {sa : Option Addr} {L : List Stp} (h : StepsAt U sa L) (k : Ext U V) : StepsAt V sa L := fun i hi => by
  obtain ⟨g, o, h1, h2, h3, h4, h5⟩ := h i hi
  exact ⟨g, o, h1, Nat.lt_of_lt_of_le h2 k.size, k.someCell h3, k.someCell h4, k.someCell h5⟩
theorem StepsAt.of {U : World} {sa : Option Addr} {sc : Nat} {L : List Stp} (h : Owns U 105 3 (.slice sa L.length sc) L.length (rowS L)) : StepsAt U sa L := fun i hi => by
  obtain ⟨g, h1, h2, h3, h4, h5⟩ := h.step hi rfl
  exact ⟨g, 0, h1, h2, by rw [Nat.zero_add]; exact h3, by rw [Nat.zero_add]; exact h4, by rw [Nat.zero_add]; exact h5⟩
theorem markL_drop (B : Int) (df : Bool) (L : List Stp) (j : Nat) (h : j < L.length) (M : Int → Int) : markL B df (L.drop j) M = markL B df (L.drop (j + 1)) (markS B M (stpAt L j).2.1 (df && decide (j + 1 = L.length))) := by
  have e : L.drop j = stpAt L j :: L.drop (j + 1) := by
    rw [List.drop_eq_getElem_cons h]
    congr 1
    simp [stpAt, List.getD, h]
  rw [e]
  show markL B df _ (markS B M _ (df && (L.drop (j + 1)).isEmpty)) = _
  have : (L.drop (j + 1)).isEmpty = decide (j + 1 = L.length) := by
    rw [Bool.eq_iff_iff, List.isEmpty_iff, List.drop_eq_nil_iff, decide_eq_true_eq]; omega
  rw [this]
def EndMark (P : Nat → Prop) (mb : Nat) (B : Int) (M : Int → Int) (T : List Int) (U : World) (e : Ending) (V : World) : Prop := e = .returned (.tuple #[]) ∧ MemP P V mb B M T ∧ SepP P U V

end Go.Proofs.Ytkfonacokamfiaa
