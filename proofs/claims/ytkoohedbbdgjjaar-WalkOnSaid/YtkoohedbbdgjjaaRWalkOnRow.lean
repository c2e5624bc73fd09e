/- WalkOn: from the place to which a step leads a walk goes on as the whole one does; its rights are those so far, and those of the steps behind: for all words and addresses. -/
import Derived.Test.YtkoohedbbdgjjaaRWalkOn
namespace Go.Proofs.YtkoohedbbdgjjaaR
set_option linter.unusedVariables false
set_option linter.unusedSimpArgs false
open Go.RowKit
attribute [local go_sem] wext_cell wext_frozen wext_heap alloc_cell alloc_frozen alloc_heap setCell_cell objCell_cells objFrozen_cells
open Go.Proofs

theorem walkOn_walk (W : World) (args : List Value) (h : ArgsAre W [.slice putD, .int .u32, .int .u8] args) :
    Calls Try.prog 3 args.toArray W fun e w' => e = .returned (.bool true) ∧ Ext W w' := by
  obtain ⟨v, _, rfl, hv, _, _, rfl, ⟨a, h2, ha⟩, _, _, rfl, ⟨n, h3, hn⟩, rfl⟩ := h
  simp only [List.cons.injEq, and_true] at h2 h3
  subst h2 h3
  obtain ⟨ds, hds⟩ := puts_of hv
  have ⟨i0, i1⟩ := bounds_u32 ha
  have ⟨j0, j1⟩ := bounds_u8 hn
  exact walkOn_c v ds a n W hds i0 i1 j0 j1

theorem walkOnDscs : okParams Try.prog [.slice putD, .int .u32, .int .u8] Try.f3.params.toList = true := by kernel_rfl
set_option maxRecDepth 100000 in
theorem walkOn_lifted (os : Os) (started : os.Started) (H : Type) (enc : TypeId × Value → H) :
    ReturnsInHanded {} Try.checked os 3 .any (Rows.walkOnSpec.pre6 enc Try.prog Try.f3 Rows.walkOnRow.domain false) (Rows.walkOnSpec.post enc Try.prog Try.f3 false true false false) :=
  law_lift (C := Try.checked) [.slice putD, .int .u32, .int .u8] (by kernel_rfl) started (by kernel_rfl) Try.func3
    (ChangeSpec.witness6 (enc := enc) (C := Try.checked) false ⟨#[], #[.slice none 0 0, .int .u32 0, .int .u8 0], []⟩ 8 (by kernel_rfl) (by kernel_rfl) (by kernel_rfl) (by kernel_rfl))
    (by kernel_rfl) walkOnDscs rfl Try.underlying4 rfl (fun ds h => by
      first
        | (obtain ⟨a, rfl⟩ := len1 h; rfl)
        | (obtain ⟨a, b, rfl⟩ := len2 h; rfl)
        | (obtain ⟨a, b, c, rfl⟩ := len3 h; rfl)
        | (obtain ⟨a, b, c, d, rfl⟩ := len4 h; rfl)) walkOn_walk
theorem walkOn_holds : Rows.WalkOnSaid :=
  OpenClaim.holds_of_wide 3 Try.f3 rfl rfl rfl rfl rfl rfl rfl ⟨rfl, rfl, rfl, rfl, rfl⟩ rfl rfl rfl rfl rfl (by kernel_rfl) Try.func3 (by kernel_rfl)
    (of_decide_eq_true (by kernel_rfl)) (by unfold Func.isWrapper; first | (rw [if_pos (by decide +kernel)]; kernel_rfl) | (rw [if_neg (by decide +kernel)]; exact ⟨rfl, rfl⟩))
    (fun os started H enc _ => walkOn_lifted os started H enc)
#print axioms walkOn_holds
end Go.Proofs.YtkoohedbbdgjjaaR
