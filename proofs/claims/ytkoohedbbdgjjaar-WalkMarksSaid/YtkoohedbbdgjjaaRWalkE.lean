/- A walk's words are the memory's; its slots are slots. -/
import Derived.Test.YtkoohedbbdgjjaaRWalkC
namespace Go.Proofs.YtkoohedbbdgjjaaR
set_option linter.unusedVariables false
set_option linter.unusedSimpArgs false
open Go.RowKit
attribute [local go_sem] wext_cell wext_frozen wext_heap alloc_cell alloc_frozen alloc_heap setCell_cell objCell_cells objFrozen_cells

theorem walk_word {M : Int → Int} {B : Int} {nxe : Bool} {a : Int} : ∀ (n : Nat) (t : Int) (r : Rt), ∀ s ∈ (walkF M B nxe a n t r).1, s.2.2 = M (s.2.1 / 8) ∧ errM B s.2.1 = 0
  | 0, t, r, s, h => by simp [walkF] at h
  | n + 1, t, r, y, h => by
    obtain ⟨s, hs⟩ : ∃ s, slotI t a ((n : Int) + 1) = s := ⟨_, rfl⟩
    obtain ⟨x, hx⟩ : ∃ x, M (s / 8) = x := ⟨_, rfl⟩
    by_cases hne : errM B s ≠ 0
    · rw [walkF_bad (by rw [hs]; exact hne)] at h; simp at h
    have he : errM B s = 0 := by omega
    have one : y = ((n : Int) + 1, s, x) → y.2.2 = M (y.2.1 / 8) ∧ errM B y.2.1 = 0 := fun e => by subst e; exact ⟨hx.symm, he⟩
    cases hp : bitB x 0 with
    | false => rw [walkF_absent hs hx he hp] at h; exact one (by simpa using h)
    | true =>
      cases hr : resI x ((n : Int) + 1) B nxe with
      | true => rw [walkF_res hs hx he hp hr] at h; exact one (by simpa using h)
      | false =>
        cases hl : leafI x ((n : Int) + 1) with
        | true => rw [walkF_leaf hs hx he hp hr hl] at h; exact one (by simpa using h)
        | false =>
          rw [walkF_on hs hx he hp hr hl] at h
          rcases List.mem_cons.1 h with h | h
          · exact one h
          · exact walk_word n _ _ y h
theorem walk_at {M : Int → Int} {B : Int} {nxe : Bool} {a : Int} {n : Nat} {t : Int} {r : Rt} (hM : ∀ s, 0 ≤ M s ∧ M s ≤ 18446744073709551615) {i : Nat} {s : Stp} (h : (walkF M B nxe a n t r).1[i]? = some s) :
    s.2.2 = M (s.2.1 / 8) ∧ errM B s.2.1 = 0 ∧ 0 ≤ s.2.2 ∧ s.2.2 ≤ 18446744073709551615 := by
  have := walk_word n t r s (List.mem_of_getElem? h)
  exact ⟨this.1, this.2, by rw [this.1]; exact (hM _).1, by rw [this.1]; exact (hM _).2⟩
end Go.Proofs.YtkoohedbbdgjjaaR
