/- TlbOf: all of a PCID are gone by that, and no others; cleared, all are; a Tlb that is nil has nothing: for all deeds, every deed and every address. -/
import Derived.Test.YtnacgmmkmedpdaaTlbOf
namespace Go.Proofs.Ytnacgmmkmedpdaa
set_option linter.unusedVariables false
set_option linter.unusedSimpArgs false
open Go.RowKit
attribute [local go_sem] wext_cell wext_frozen wext_heap alloc_cell alloc_frozen alloc_heap setCell_cell objCell_cells objFrozen_cells
open Go.Proofs

theorem tlbOf_walk (W : World) (args : List Value) (h : ArgsAre W [.slice tdeedD, tdeedD, .int .u64] args) :
    Calls Try.prog 13 args.toArray W fun e w' => e = .returned (.bool true) ∧ Ext W w' := by
  obtain ⟨v, _, rfl, hv, _, _, rfl, ⟨cs, rfl, hl, h1⟩, _, _, rfl, ⟨n, h3, hn⟩, rfl⟩ := h
  simp only [List.cons.injEq, and_true] at h3
  subst h3
  obtain ⟨ds, hds⟩ := tdeeds_of hv
  obtain ⟨d, hd, hp, rfl⟩ := tdeed_is2 (by simpa [tdeedD, line13D, hitD, Dsc.size, Dsc.sizes] using hl) h1
  have ⟨j0, j1⟩ := bounds_u64 hn
  exact tlbOf_c v ds d n j0 j1 W hds hd hp

theorem tlbOfDscs : okParams Try.prog [.slice tdeedD, tdeedD, .int .u64] Try.f13.params.toList = true := by kernel_rfl
set_option maxRecDepth 100000 in
theorem tlbOf_lifted (os : Os) (started : os.Started) (H : Type) (enc : TypeId × Value → H) :
    ReturnsInHanded {} Try.checked os 13 .any (Rows.tlbOfSpec.pre6 enc Try.prog Try.f13 Rows.tlbOfRow.domain false) (Rows.tlbOfSpec.post enc Try.prog Try.f13 false true false false) :=
  law_lift (C := Try.checked) [.slice tdeedD, tdeedD, .int .u64] (by kernel_rfl) started (by kernel_rfl) Try.func13
    (ChangeSpec.witness6 (enc := enc) (C := Try.checked) false ⟨#[], #[.slice none 0 0, .agg #[.int .i64 0, .int .i64 0, .int .i64 0, .int .u64 0, .int .u64 0, .bool false, .bool false, .bool false, .bool false, .int .u8 0, .int .u64 0, .int .i64 0, .bool false, .bool false, .bool false, .bool false], .int .u64 0], []⟩ 8 (by kernel_rfl) (by kernel_rfl) (by kernel_rfl) (by kernel_rfl))
    (by kernel_rfl) tlbOfDscs rfl Try.underlying4 rfl (fun ds h => by
      first
        | (obtain ⟨a, rfl⟩ := len1 h; rfl)
        | (obtain ⟨a, b, rfl⟩ := len2 h; rfl)
        | (obtain ⟨a, b, c, rfl⟩ := len3 h; rfl)
        | (obtain ⟨a, b, c, d, rfl⟩ := len4 h; rfl)) tlbOf_walk
theorem tlbOf_holds : Rows.TlbOfSaid :=
  OpenClaim.holds_of_wide 13 Try.f13 rfl rfl rfl rfl rfl rfl rfl ⟨rfl, rfl, rfl, rfl, rfl⟩ rfl rfl rfl rfl rfl (by kernel_rfl) Try.func13 (by kernel_rfl)
    (of_decide_eq_true (by kernel_rfl)) (by unfold Func.isWrapper; first | (rw [if_pos (by decide +kernel)]; kernel_rfl) | (rw [if_neg (by decide +kernel)]; exact ⟨rfl, rfl⟩))
    (fun os started H enc _ => tlbOf_lifted os started H enc)
#print axioms tlbOf_holds
end Go.Proofs.Ytnacgmmkmedpdaa
