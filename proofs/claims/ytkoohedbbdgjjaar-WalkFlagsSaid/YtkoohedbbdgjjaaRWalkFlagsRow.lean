/- WalkFlags: a walk hangs on no A and no D: with these turned in any slots it is the same but for them; marked, too: for all words, addresses and turns. -/
import Derived.Test.YtkoohedbbdgjjaaRWalkFlags
namespace Go.Proofs.YtkoohedbbdgjjaaR
set_option linter.unusedVariables false
set_option linter.unusedSimpArgs false
open Go.RowKit
attribute [local go_sem] wext_cell wext_frozen wext_heap alloc_cell alloc_frozen alloc_heap setCell_cell objCell_cells objFrozen_cells
open Go.Proofs

theorem walkFlags_walk (W : World) (args : List Value) (h : ArgsAre W [.slice putD, .int .u32, .slice turnD] args) :
    Calls Try.prog 7 args.toArray W fun e w' => e = .returned (.bool true) ∧ Ext W w' := by
  obtain ⟨v, _, rfl, hv, _, _, rfl, ⟨a, h2, ha⟩, tv, _, rfl, htv, rfl⟩ := h
  simp only [List.cons.injEq, and_true] at h2
  subst h2
  obtain ⟨ds, hds⟩ := puts_of hv
  obtain ⟨ts, hts⟩ := turns_of htv
  have ⟨i0, i1⟩ := bounds_u32 ha
  exact walkFlags_c v tv ds ts a W hds hts i0 i1

theorem walkFlagsDscs : okParams Try.prog [.slice putD, .int .u32, .slice turnD] Try.f7.params.toList = true := by kernel_rfl
set_option maxRecDepth 100000 in
theorem walkFlags_lifted (os : Os) (started : os.Started) (H : Type) (enc : TypeId × Value → H) :
    ReturnsInHanded {} Try.checked os 7 .any (Rows.walkFlagsSpec.pre6 enc Try.prog Try.f7 Rows.walkFlagsRow.domain false) (Rows.walkFlagsSpec.post enc Try.prog Try.f7 false true false false) :=
  law_lift (C := Try.checked) [.slice putD, .int .u32, .slice turnD] (by kernel_rfl) started (by kernel_rfl) Try.func7
    (ChangeSpec.witness6 (enc := enc) (C := Try.checked) false ⟨#[], #[.slice none 0 0, .int .u32 0, .slice none 0 0], []⟩ 8 (by kernel_rfl) (by kernel_rfl) (by kernel_rfl) (by kernel_rfl))
    (by kernel_rfl) walkFlagsDscs rfl Try.underlying4 rfl (fun ds h => by
      first
        | (obtain ⟨a, rfl⟩ := len1 h; rfl)
        | (obtain ⟨a, b, rfl⟩ := len2 h; rfl)
        | (obtain ⟨a, b, c, rfl⟩ := len3 h; rfl)
        | (obtain ⟨a, b, c, d, rfl⟩ := len4 h; rfl)) walkFlags_walk
theorem walkFlags_holds : Rows.WalkFlagsSaid :=
  OpenClaim.holds_of_wide 7 Try.f7 rfl rfl rfl rfl rfl rfl rfl ⟨rfl, rfl, rfl, rfl, rfl⟩ rfl rfl rfl rfl rfl (by kernel_rfl) Try.func7 (by kernel_rfl)
    (of_decide_eq_true (by kernel_rfl)) (by unfold Func.isWrapper; first | (rw [if_pos (by decide +kernel)]; kernel_rfl) | (rw [if_neg (by decide +kernel)]; exact ⟨rfl, rfl⟩))
    (fun os started H enc _ => walkFlags_lifted os started H enc)
#print axioms walkFlags_holds
end Go.Proofs.YtkoohedbbdgjjaaR
