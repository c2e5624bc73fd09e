/- TlbDrops: dropped, a page isn't found; all other pages are, as they were, but for those of a great one over it; of another PCID all are: for all deeds, every deed and every address. -/
import Derived.Test.YtnacgmmkmedpdaaTlbDrops
namespace Go.Proofs.Ytnacgmmkmedpdaa
set_option linter.unusedVariables false
set_option linter.unusedSimpArgs false
open Go.RowKit
attribute [local go_sem] wext_cell wext_frozen wext_heap alloc_cell alloc_frozen alloc_heap setCell_cell objCell_cells objFrozen_cells
open Go.Proofs

theorem tlbDrops_walk (W : World) (args : List Value) (h : ArgsAre W [.slice tdeedD, tdeedD, .int .u64] args) :
    Calls Try.prog 12 args.toArray W fun e w' => e = .returned (.bool true) ∧ Ext W w' := by
  obtain ⟨v, _, rfl, hv, _, _, rfl, ⟨cs, rfl, hl, h1⟩, _, _, rfl, ⟨n, h3, hn⟩, rfl⟩ := h
  simp only [List.cons.injEq, and_true] at h3
  subst h3
  obtain ⟨ds, hds⟩ := tdeeds_of hv
  obtain ⟨d, hd, hp, rfl⟩ := tdeed_is2 (by simpa [tdeedD, line13D, hitD, Dsc.size, Dsc.sizes] using hl) h1
  have ⟨j0, j1⟩ := bounds_u64 hn
  exact tlbDrops_c v ds d n j0 j1 W hds hd hp

theorem tlbDropsDscs : okParams Try.prog [.slice tdeedD, tdeedD, .int .u64] Try.f12.params.toList = true := by kernel_rfl
set_option maxRecDepth 100000 in
theorem tlbDrops_lifted (os : Os) (started : os.Started) (H : Type) (enc : TypeId × Value → H) :
    ReturnsInHanded {} Try.checked os 12 .any (Rows.tlbDropsSpec.pre6 enc Try.prog Try.f12 Rows.tlbDropsRow.domain false) (Rows.tlbDropsSpec.post enc Try.prog Try.f12 false true false false) :=
  law_lift (C := Try.checked) [.slice tdeedD, tdeedD, .int .u64] (by kernel_rfl) started (by kernel_rfl) Try.func12
    (ChangeSpec.witness6 (enc := enc) (C := Try.checked) false ⟨#[], #[.slice none 0 0, .agg #[.int .i64 0, .int .i64 0, .int .i64 0, .int .u64 0, .int .u64 0, .bool false, .bool false, .bool false, .bool false, .int .u8 0, .int .u64 0, .int .i64 0, .bool false, .bool false, .bool false, .bool false], .int .u64 0], []⟩ 8 (by kernel_rfl) (by kernel_rfl) (by kernel_rfl) (by kernel_rfl))
    (by kernel_rfl) tlbDropsDscs rfl Try.underlying4 rfl (fun ds h => by
      first
        | (obtain ⟨a, rfl⟩ := len1 h; rfl)
        | (obtain ⟨a, b, rfl⟩ := len2 h; rfl)
        | (obtain ⟨a, b, c, rfl⟩ := len3 h; rfl)
        | (obtain ⟨a, b, c, d, rfl⟩ := len4 h; rfl)) tlbDrops_walk
theorem tlbDrops_holds : Rows.TlbDropsSaid :=
  OpenClaim.holds_of_wide 12 Try.f12 rfl rfl rfl rfl rfl rfl rfl ⟨rfl, rfl, rfl, rfl, rfl⟩ rfl rfl rfl rfl rfl (by kernel_rfl) Try.func12 (by kernel_rfl)
    (of_decide_eq_true (by kernel_rfl)) (by unfold Func.isWrapper; first | (rw [if_pos (by decide +kernel)]; kernel_rfl) | (rw [if_neg (by decide +kernel)]; exact ⟨rfl, rfl⟩))
    (fun os started H enc _ => tlbDrops_lifted os started H enc)
#print axioms tlbDrops_holds
end Go.Proofs.Ytnacgmmkmedpdaa
