/- PscRoom: there are never more of a level than there is room for; without room there are none; a Psc that is nil has nothing: for all words and addresses. -/
import Derived.Test.YtfaekfdngkpkdaaHPscRoom
import Derived.Test.YtfaekfdngkpkdaaPsk4
namespace Go.Proofs.Ytfaekfdngkpkdaa
set_option linter.unusedVariables false
set_option linter.unusedSimpArgs false
open Go.RowKit
attribute [local go_sem] wext_cell wext_frozen wext_heap alloc_cell alloc_frozen alloc_heap setCell_cell objCell_cells objFrozen_cells
open Go.Proofs

theorem pscRoom_walk (W : World) (args : List Value) (h : ArgsAre W [.slice putD, .slice (.int .u32), .int .u8] args) :
    Calls Try.prog 9 args.toArray W fun e w' => e = .returned (.bool true) ∧ Ext W w' := by
  obtain ⟨v, _, rfl, hv, v2, _, rfl, hv2, _, _, rfl, ⟨n, h3, hn⟩, rfl⟩ := h
  simp only [List.cons.injEq, and_true] at h3
  subst h3
  obtain ⟨ds, hds⟩ := puts_of hv
  obtain ⟨ns, hns⟩ := u32s_of hv2
  have ⟨i0, i1⟩ := bounds_u8 hn
  exact pscRoom_c v ds v2 ns n W hds hns i0 i1

theorem pscRoomDscs : okParams Try.prog [.slice putD, .slice (.int .u32), .int .u8] Try.f9.params.toList = true := by kernel_rfl
set_option maxRecDepth 100000 in
theorem pscRoom_lifted (os : Os) (started : os.Started) (H : Type) (enc : TypeId × Value → H) :
    ReturnsInHanded {} Try.checked os 9 .any (Rows.pscRoomSpec.pre6 enc Try.prog Try.f9 Rows.pscRoomRow.domain false) (Rows.pscRoomSpec.post enc Try.prog Try.f9 false true false false) :=
  law_lift (C := Try.checked) [.slice putD, .slice (.int .u32), .int .u8] (by kernel_rfl) started (by kernel_rfl) Try.func9
    (ChangeSpec.witness6 (enc := enc) (C := Try.checked) false ⟨#[], #[.slice none 0 0, .slice none 0 0, .int .u8 0], []⟩ 8 (by kernel_rfl) (by kernel_rfl) (by kernel_rfl) (by kernel_rfl))
    (by kernel_rfl) pscRoomDscs rfl Try.underlying4 rfl (fun ds h => by
      first
        | (obtain ⟨a, rfl⟩ := len1 h; rfl)
        | (obtain ⟨a, b, rfl⟩ := len2 h; rfl)
        | (obtain ⟨a, b, c, rfl⟩ := len3 h; rfl)
        | (obtain ⟨a, b, c, d, rfl⟩ := len4 h; rfl)) pscRoom_walk
theorem pscRoom_holds : Rows.PscRoomSaid :=
  OpenClaim.holds_of_wide 9 Try.f9 rfl rfl rfl rfl rfl rfl rfl ⟨rfl, rfl, rfl, rfl, rfl⟩ rfl rfl rfl rfl rfl (by kernel_rfl) Try.func9 (by kernel_rfl)
    (of_decide_eq_true (by kernel_rfl)) (by unfold Func.isWrapper; first | (rw [if_pos (by decide +kernel)]; kernel_rfl) | (rw [if_neg (by decide +kernel)]; exact ⟨rfl, rfl⟩))
    (fun os started H enc _ => pscRoom_lifted os started H enc)
#print axioms pscRoom_holds
end Go.Proofs.Ytfaekfdngkpkdaa
