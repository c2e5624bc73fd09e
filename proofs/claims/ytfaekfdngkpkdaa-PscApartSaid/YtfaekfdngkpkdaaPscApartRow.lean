/- PscApart: what one PCID's walks filled isn't found for another one, nor at an address of another place of the level 4, if no walk was there: for all words and addresses. -/
import Derived.Test.YtfaekfdngkpkdaaPscApart
import Derived.Test.YtfaekfdngkpkdaaPsk4
namespace Go.Proofs.Ytfaekfdngkpkdaa
set_option linter.unusedVariables false
set_option linter.unusedSimpArgs false
open Go.RowKit
attribute [local go_sem] wext_cell wext_frozen wext_heap alloc_cell alloc_frozen alloc_heap setCell_cell objCell_cells objFrozen_cells
open Go.Proofs

theorem pscApart_walk (W : World) (args : List Value) (h : ArgsAre W [.slice putD, .slice (.int .u32), .int .u32] args) :
    Calls Try.prog 6 args.toArray W fun e w' => e = .returned (.bool true) ∧ Ext W w' := by
  obtain ⟨v, _, rfl, hv, v2, _, rfl, hv2, _, _, rfl, ⟨n, h3, hn⟩, rfl⟩ := h
  simp only [List.cons.injEq, and_true] at h3
  subst h3
  obtain ⟨ds, hds⟩ := puts_of hv
  obtain ⟨ns, hns⟩ := u32s_of hv2
  have ⟨i0, i1⟩ := bounds_u32 hn
  exact pscApart_c v ds v2 ns n W hds hns i0 i1

theorem pscApartDscs : okParams Try.prog [.slice putD, .slice (.int .u32), .int .u32] Try.f6.params.toList = true := by kernel_rfl
set_option maxRecDepth 100000 in
theorem pscApart_lifted (os : Os) (started : os.Started) (H : Type) (enc : TypeId × Value → H) :
    ReturnsInHanded {} Try.checked os 6 .any (Rows.pscApartSpec.pre6 enc Try.prog Try.f6 Rows.pscApartRow.domain false) (Rows.pscApartSpec.post enc Try.prog Try.f6 false true false false) :=
  law_lift (C := Try.checked) [.slice putD, .slice (.int .u32), .int .u32] (by kernel_rfl) started (by kernel_rfl) Try.func6
    (ChangeSpec.witness6 (enc := enc) (C := Try.checked) false ⟨#[], #[.slice none 0 0, .slice none 0 0, .int .u32 0], []⟩ 8 (by kernel_rfl) (by kernel_rfl) (by kernel_rfl) (by kernel_rfl))
    (by kernel_rfl) pscApartDscs rfl Try.underlying4 rfl (fun ds h => by
      first
        | (obtain ⟨a, rfl⟩ := len1 h; rfl)
        | (obtain ⟨a, b, rfl⟩ := len2 h; rfl)
        | (obtain ⟨a, b, c, rfl⟩ := len3 h; rfl)
        | (obtain ⟨a, b, c, d, rfl⟩ := len4 h; rfl)) pscApart_walk
theorem pscApart_holds : Rows.PscApartSaid :=
  OpenClaim.holds_of_wide 6 Try.f6 rfl rfl rfl rfl rfl rfl rfl ⟨rfl, rfl, rfl, rfl, rfl⟩ rfl rfl rfl rfl rfl (by kernel_rfl) Try.func6 (by kernel_rfl)
    (of_decide_eq_true (by kernel_rfl)) (by unfold Func.isWrapper; first | (rw [if_pos (by decide +kernel)]; kernel_rfl) | (rw [if_neg (by decide +kernel)]; exact ⟨rfl, rfl⟩))
    (fun os started H enc _ => pscApart_lifted os started H enc)
#print axioms pscApart_holds
end Go.Proofs.Ytfaekfdngkpkdaa
