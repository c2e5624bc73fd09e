/- TlbSmall: a run that is put is found for each page that it has, at that page's frame; for others of its group nothing of the level 1 is found: for all deeds and every deed. -/
import Derived.Test.YtnacgmmkmedpdaaTlbSmall
namespace Go.Proofs.Ytnacgmmkmedpdaa
set_option linter.unusedVariables false
set_option linter.unusedSimpArgs false
open Go.RowKit
attribute [local go_sem] wext_cell wext_frozen wext_heap alloc_cell alloc_frozen alloc_heap setCell_cell objCell_cells objFrozen_cells
open Go.Proofs

theorem tlbSmall_walk (W : World) (args : List Value) (h : ArgsAre W [.slice tdeedD, tdeedD] args) :
    Calls Try.prog 10 args.toArray W fun e w' => e = .returned (.bool true) ∧ Ext W w' := by
  obtain ⟨v, _, rfl, hv, _, _, rfl, ⟨cs, rfl, hl, h1⟩, rfl⟩ := h
  obtain ⟨ds, hds⟩ := tdeeds_of hv
  obtain ⟨d, hd, rfl⟩ := tdeed_is (by simpa [tdeedD, line13D, hitD, Dsc.size, Dsc.sizes] using hl) h1
  exact tlbSmall_c v ds d W hds hd

theorem tlbSmallDscs : okParams Try.prog [.slice tdeedD, tdeedD] Try.f10.params.toList = true := by kernel_rfl
set_option maxRecDepth 100000 in
theorem tlbSmall_lifted (os : Os) (started : os.Started) (H : Type) (enc : TypeId × Value → H) :
    ReturnsInHanded {} Try.checked os 10 .any (Rows.tlbSmallSpec.pre6 enc Try.prog Try.f10 Rows.tlbSmallRow.domain false) (Rows.tlbSmallSpec.post enc Try.prog Try.f10 false true false false) :=
  law_lift (C := Try.checked) [.slice tdeedD, tdeedD] (by kernel_rfl) started (by kernel_rfl) Try.func10
    (ChangeSpec.witness6 (enc := enc) (C := Try.checked) false ⟨#[], #[.slice none 0 0, .agg #[.int .i64 0, .int .i64 0, .int .i64 0, .int .u64 0, .int .u64 0, .bool false, .bool false, .bool false, .bool false, .int .u8 0, .int .u64 0, .int .i64 0, .bool false, .bool false, .bool false, .bool false] ], []⟩ 8 (by kernel_rfl) (by kernel_rfl) (by kernel_rfl) (by kernel_rfl))
    (by kernel_rfl) tlbSmallDscs rfl Try.underlying4 rfl (fun ds h => by
      first
        | (obtain ⟨a, rfl⟩ := len1 h; rfl)
        | (obtain ⟨a, b, rfl⟩ := len2 h; rfl)
        | (obtain ⟨a, b, c, rfl⟩ := len3 h; rfl)
        | (obtain ⟨a, b, c, d, rfl⟩ := len4 h; rfl)) tlbSmall_walk
theorem tlbSmall_holds : Rows.TlbSmallSaid :=
  OpenClaim.holds_of_wide 10 Try.f10 rfl rfl rfl rfl rfl rfl rfl ⟨rfl, rfl, rfl, rfl, rfl⟩ rfl rfl rfl rfl rfl (by kernel_rfl) Try.func10 (by kernel_rfl)
    (of_decide_eq_true (by kernel_rfl)) (by unfold Func.isWrapper; first | (rw [if_pos (by decide +kernel)]; kernel_rfl) | (rw [if_neg (by decide +kernel)]; exact ⟨rfl, rfl⟩))
    (fun os started H enc _ => tlbSmall_lifted os started H enc)
#print axioms tlbSmall_holds
end Go.Proofs.Ytnacgmmkmedpdaa
