/- WalkMarks: marked, the slots of a path have A, the last one, if it is found, and dirty, D; no other slot, and no other bit, is changed; marked twice is as once: for all words and addresses. -/
import Derived.Test.YtkoohedbbdgjjaaRWalkMarks
namespace Go.Proofs.YtkoohedbbdgjjaaR
set_option linter.unusedVariables false
set_option linter.unusedSimpArgs false
open Go.RowKit
attribute [local go_sem] wext_cell wext_frozen wext_heap alloc_cell alloc_frozen alloc_heap setCell_cell objCell_cells objFrozen_cells
open Go.Proofs

theorem walkMarks_walk (W : World) (args : List Value) (h : ArgsAre W [.slice putD, .int .u32, .bool] args) :
    Calls Try.prog 8 args.toArray W fun e w' => e = .returned (.bool true) ∧ Ext W w' := by
  obtain ⟨v, _, rfl, hv, _, _, rfl, ⟨a, h2, ha⟩, _, _, rfl, ⟨d, h3⟩, rfl⟩ := h
  simp only [List.cons.injEq, and_true] at h2 h3
  subst h2 h3
  obtain ⟨ds, hds⟩ := puts_of hv
  have ⟨i0, i1⟩ := bounds_u32 ha
  exact walkMarks_c v ds a d W hds i0 i1

theorem walkMarksDscs : okParams Try.prog [.slice putD, .int .u32, .bool] Try.f8.params.toList = true := by kernel_rfl
set_option maxRecDepth 100000 in
theorem walkMarks_lifted (os : Os) (started : os.Started) (H : Type) (enc : TypeId × Value → H) :
    ReturnsInHanded {} Try.checked os 8 .any (Rows.walkMarksSpec.pre6 enc Try.prog Try.f8 Rows.walkMarksRow.domain false) (Rows.walkMarksSpec.post enc Try.prog Try.f8 false true false false) :=
  law_lift (C := Try.checked) [.slice putD, .int .u32, .bool] (by kernel_rfl) started (by kernel_rfl) Try.func8
    (ChangeSpec.witness6 (enc := enc) (C := Try.checked) false ⟨#[], #[.slice none 0 0, .int .u32 0, .bool false], []⟩ 8 (by kernel_rfl) (by kernel_rfl) (by kernel_rfl) (by kernel_rfl))
    (by kernel_rfl) walkMarksDscs rfl Try.underlying4 rfl (fun ds h => by
      first
        | (obtain ⟨a, rfl⟩ := len1 h; rfl)
        | (obtain ⟨a, b, rfl⟩ := len2 h; rfl)
        | (obtain ⟨a, b, c, rfl⟩ := len3 h; rfl)
        | (obtain ⟨a, b, c, d, rfl⟩ := len4 h; rfl)) walkMarks_walk
theorem walkMarks_holds : Rows.WalkMarksSaid :=
  OpenClaim.holds_of_wide 8 Try.f8 rfl rfl rfl rfl rfl rfl rfl ⟨rfl, rfl, rfl, rfl, rfl⟩ rfl rfl rfl rfl rfl (by kernel_rfl) Try.func8 (by kernel_rfl)
    (of_decide_eq_true (by kernel_rfl)) (by unfold Func.isWrapper; first | (rw [if_pos (by decide +kernel)]; kernel_rfl) | (rw [if_neg (by decide +kernel)]; exact ⟨rfl, rfl⟩))
    (fun os started H enc _ => walkMarks_lifted os started H enc)
#print axioms walkMarks_holds
end Go.Proofs.YtkoohedbbdgjjaaR
