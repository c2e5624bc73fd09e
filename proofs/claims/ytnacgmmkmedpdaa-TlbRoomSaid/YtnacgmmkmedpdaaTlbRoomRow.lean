/- TlbRoom: there are never more lines than there is room for; picked, one line less is there: for all deeds, every room and every pick. -/
import Derived.Test.YtnacgmmkmedpdaaTlbRoom
namespace Go.Proofs.Ytnacgmmkmedpdaa
set_option linter.unusedVariables false
set_option linter.unusedSimpArgs false
open Go.RowKit
attribute [local go_sem] wext_cell wext_frozen wext_heap alloc_cell alloc_frozen alloc_heap setCell_cell objCell_cells objFrozen_cells
open Go.Proofs

theorem tlbRoom_walk (W : World) (args : List Value) (h : ArgsAre W [.slice tdeedD, .int .u8, .int .i64] args) :
    Calls Try.prog 14 args.toArray W fun e w' => e = .returned (.bool true) ∧ Ext W w' := by
  obtain ⟨v, _, rfl, hv, _, _, rfl, ⟨a, h2, ha⟩, _, _, rfl, ⟨n, h3, hn⟩, rfl⟩ := h
  simp only [List.cons.injEq, and_true] at h2 h3
  subst h2 h3
  obtain ⟨ds, hds⟩ := tdeeds_of hv
  have ⟨i0, i1⟩ := bounds_u8 ha
  have ⟨j0, j1⟩ := bounds_i64 hn
  exact tlbRoom_c v ds a n W i0 i1 j0 j1 hds

theorem tlbRoomDscs : okParams Try.prog [.slice tdeedD, .int .u8, .int .i64] Try.f14.params.toList = true := by kernel_rfl
set_option maxRecDepth 100000 in
theorem tlbRoom_lifted (os : Os) (started : os.Started) (H : Type) (enc : TypeId × Value → H) :
    ReturnsInHanded {} Try.checked os 14 .any (Rows.tlbRoomSpec.pre6 enc Try.prog Try.f14 Rows.tlbRoomRow.domain false) (Rows.tlbRoomSpec.post enc Try.prog Try.f14 false true false false) :=
  law_lift (C := Try.checked) [.slice tdeedD, .int .u8, .int .i64] (by kernel_rfl) started (by kernel_rfl) Try.func14
    (ChangeSpec.witness6 (enc := enc) (C := Try.checked) false ⟨#[], #[.slice none 0 0, .int .u8 0, .int .i64 0], []⟩ 8 (by kernel_rfl) (by kernel_rfl) (by kernel_rfl) (by kernel_rfl))
    (by kernel_rfl) tlbRoomDscs rfl Try.underlying4 rfl (fun ds h => by
      first
        | (obtain ⟨a, rfl⟩ := len1 h; rfl)
        | (obtain ⟨a, b, rfl⟩ := len2 h; rfl)
        | (obtain ⟨a, b, c, rfl⟩ := len3 h; rfl)
        | (obtain ⟨a, b, c, d, rfl⟩ := len4 h; rfl)) tlbRoom_walk
theorem tlbRoom_holds : Rows.TlbRoomSaid :=
  OpenClaim.holds_of_wide 14 Try.f14 rfl rfl rfl rfl rfl rfl rfl ⟨rfl, rfl, rfl, rfl, rfl⟩ rfl rfl rfl rfl rfl (by kernel_rfl) Try.func14 (by kernel_rfl)
    (of_decide_eq_true (by kernel_rfl)) (by unfold Func.isWrapper; first | (rw [if_pos (by decide +kernel)]; kernel_rfl) | (rw [if_neg (by decide +kernel)]; exact ⟨rfl, rfl⟩))
    (fun os started H enc _ => tlbRoom_lifted os started H enc)
#print axioms tlbRoom_holds
end Go.Proofs.Ytnacgmmkmedpdaa
