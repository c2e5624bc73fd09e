/- PscFills: behind a walk from the top, with room, it goes on where the walk's last step was; all addresses below that table do: for all words and addresses. -/
import Derived.Test.YtfaekfdngkpkdaaHPscFills
import Derived.Test.YtfaekfdngkpkdaaPsk4
namespace Go.Proofs.Ytfaekfdngkpkdaa
set_option linter.unusedVariables false
set_option linter.unusedSimpArgs false
open Go.RowKit
attribute [local go_sem] wext_cell wext_frozen wext_heap alloc_cell alloc_frozen alloc_heap setCell_cell objCell_cells objFrozen_cells
open Go.Proofs

theorem pscFills_walk (W : World) (args : List Value) (h : ArgsAre W [.slice putD, .int .u32, .int .u32] args) :
    Calls Try.prog 5 args.toArray W fun e w' => e = .returned (.bool true) ∧ Ext W w' := by
  obtain ⟨v, _, rfl, hv, _, _, rfl, ⟨n, h3, hn⟩, _, _, rfl, ⟨n2, h4, hn2⟩, rfl⟩ := h
  simp only [List.cons.injEq, and_true] at h3 h4
  subst h3 h4
  obtain ⟨ds, hds⟩ := puts_of hv
  have ⟨i0, i1⟩ := bounds_u32 hn
  have ⟨j0, j1⟩ := bounds_u32 hn2
  exact pscFills_c v ds n n2 W hds i0 i1 j0 j1

theorem pscFillsDscs : okParams Try.prog [.slice putD, .int .u32, .int .u32] Try.f5.params.toList = true := by kernel_rfl
set_option maxRecDepth 100000 in
theorem pscFills_lifted (os : Os) (started : os.Started) (H : Type) (enc : TypeId × Value → H) :
    ReturnsInHanded {} Try.checked os 5 .any (Rows.pscFillsSpec.pre6 enc Try.prog Try.f5 Rows.pscFillsRow.domain false) (Rows.pscFillsSpec.post enc Try.prog Try.f5 false true false false) :=
  law_lift (C := Try.checked) [.slice putD, .int .u32, .int .u32] (by kernel_rfl) started (by kernel_rfl) Try.func5
    (ChangeSpec.witness6 (enc := enc) (C := Try.checked) false ⟨#[], #[.slice none 0 0, .int .u32 0, .int .u32 0], []⟩ 8 (by kernel_rfl) (by kernel_rfl) (by kernel_rfl) (by kernel_rfl))
    (by kernel_rfl) pscFillsDscs rfl Try.underlying4 rfl (fun ds h => by
      first
        | (obtain ⟨a, rfl⟩ := len1 h; rfl)
        | (obtain ⟨a, b, rfl⟩ := len2 h; rfl)
        | (obtain ⟨a, b, c, rfl⟩ := len3 h; rfl)
        | (obtain ⟨a, b, c, d, rfl⟩ := len4 h; rfl)) pscFills_walk
theorem pscFills_holds : Rows.PscFillsSaid :=
  OpenClaim.holds_of_wide 5 Try.f5 rfl rfl rfl rfl rfl rfl rfl ⟨rfl, rfl, rfl, rfl, rfl⟩ rfl rfl rfl rfl rfl (by kernel_rfl) Try.func5 (by kernel_rfl)
    (of_decide_eq_true (by kernel_rfl)) (by unfold Func.isWrapper; first | (rw [if_pos (by decide +kernel)]; kernel_rfl) | (rw [if_neg (by decide +kernel)]; exact ⟨rfl, rfl⟩))
    (fun os started H enc _ => pscFills_lifted os started H enc)
#print axioms pscFills_holds
end Go.Proofs.Ytfaekfdngkpkdaa
