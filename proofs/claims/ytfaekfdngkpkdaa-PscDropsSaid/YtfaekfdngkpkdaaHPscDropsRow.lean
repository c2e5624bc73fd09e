/- PscDrops: dropped, a page has no table over it, of that PCID; nor has anything of a PCID that is dropped; others keep theirs: for all words and addresses. -/
import Derived.Test.YtfaekfdngkpkdaaHPscDropsW
import Derived.Test.YtfaekfdngkpkdaaPsk4
namespace Go.Proofs.Ytfaekfdngkpkdaa
set_option linter.unusedVariables false
set_option linter.unusedSimpArgs false
open Go.RowKit
attribute [local go_sem] wext_cell wext_frozen wext_heap alloc_cell alloc_frozen alloc_heap setCell_cell objCell_cells objFrozen_cells
open Go.Proofs

theorem pscDrops_walk (W : World) (args : List Value) (h : ArgsAre W [.slice putD, .slice (.int .u32), .row [.int .u32, .int .u32]] args) :
    Calls Try.prog 7 args.toArray W fun e w' => e = .returned (.bool true) ∧ Ext W w' := by
  obtain ⟨v, _, rfl, hv, v2, _, rfl, hv2, _, _, rfl, ⟨cs, rfl, hl, hI⟩, rfl⟩ := h
  simp [Dsc.sizes, Dsc.size] at hl
  match cs, hl with
  | [x, y], _ =>
    simp only [Dsc.Is, Dsc.IsAll, Dsc.size, Dsc.sizes, List.take_succ_cons, List.take_zero, List.drop_succ_cons, List.drop_zero, List.cons.injEq, and_true] at hI
    obtain ⟨⟨n0, rfl, w0⟩, ⟨n1, rfl, w1⟩⟩ := hI
    obtain ⟨ds, hds⟩ := puts_of hv
    obtain ⟨ns, hns⟩ := u32s_of hv2
    have ⟨i0, i1⟩ := bounds_u32 w0
    have ⟨j0, j1⟩ := bounds_u32 w1
    exact pscDrops_c v ds v2 ns n0 n1 W hds hns i0 i1 j0 j1

theorem pscDropsDscs : okParams Try.prog [.slice putD, .slice (.int .u32), .row [.int .u32, .int .u32] ] Try.f7.params.toList = true := by kernel_rfl
set_option maxRecDepth 100000 in
theorem pscDrops_lifted (os : Os) (started : os.Started) (H : Type) (enc : TypeId × Value → H) :
    ReturnsInHanded {} Try.checked os 7 .any (Rows.pscDropsSpec.pre6 enc Try.prog Try.f7 Rows.pscDropsRow.domain false) (Rows.pscDropsSpec.post enc Try.prog Try.f7 false true false false) :=
  law_lift (C := Try.checked) [.slice putD, .slice (.int .u32), .row [.int .u32, .int .u32] ] (by kernel_rfl) started (by kernel_rfl) Try.func7
    (ChangeSpec.witness6 (enc := enc) (C := Try.checked) false ⟨#[], #[.slice none 0 0, .slice none 0 0, .agg #[.int .u32 0, .int .u32 0] ], []⟩ 8 (by kernel_rfl) (by kernel_rfl) (by kernel_rfl) (by kernel_rfl))
    (by kernel_rfl) pscDropsDscs rfl Try.underlying4 rfl (fun ds h => by
      first
        | (obtain ⟨a, rfl⟩ := len1 h; rfl)
        | (obtain ⟨a, b, rfl⟩ := len2 h; rfl)
        | (obtain ⟨a, b, c, rfl⟩ := len3 h; rfl)
        | (obtain ⟨a, b, c, d, rfl⟩ := len4 h; rfl)) pscDrops_walk
theorem pscDrops_holds : Rows.PscDropsSaid :=
  OpenClaim.holds_of_wide 7 Try.f7 rfl rfl rfl rfl rfl rfl rfl ⟨rfl, rfl, rfl, rfl, rfl⟩ rfl rfl rfl rfl rfl (by kernel_rfl) Try.func7 (by kernel_rfl)
    (of_decide_eq_true (by kernel_rfl)) (by unfold Func.isWrapper; first | (rw [if_pos (by decide +kernel)]; kernel_rfl) | (rw [if_neg (by decide +kernel)]; exact ⟨rfl, rfl⟩))
    (fun os started H enc _ => pscDrops_lifted os started H enc)
#print axioms pscDrops_holds
end Go.Proofs.Ytfaekfdngkpkdaa
