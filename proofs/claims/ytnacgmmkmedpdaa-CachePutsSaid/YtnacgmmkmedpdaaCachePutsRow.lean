/- CachePuts: what is put is got as it was; of the others one is gone at most, and just if there was no room, and no line of that key: for every room, all deeds and every deed. -/
import Derived.Test.YtnacgmmkmedpdaaCachePuts
namespace Go.Proofs.Ytnacgmmkmedpdaa
set_option linter.unusedVariables false
set_option linter.unusedSimpArgs false
open Go.RowKit
attribute [local go_sem] wext_cell wext_frozen wext_heap alloc_cell alloc_frozen alloc_heap setCell_cell objCell_cells objFrozen_cells
open Go.Proofs

theorem cachePuts_walk (W : World) (args : List Value) (h : ArgsAre W [.int .u8, .slice deedD, deedD] args) :
    Calls Try.prog 7 args.toArray W fun e w' => e = .returned (.bool true) ∧ Ext W w' := by
  obtain ⟨_, _, rfl, ⟨a, h2, ha⟩, v, _, rfl, hv, _, _, rfl, ⟨cs, rfl, hl, h1⟩, rfl⟩ := h
  simp only [List.cons.injEq, and_true] at h2
  subst h2
  obtain ⟨ds, hds⟩ := deeds_of hv
  obtain ⟨d, hd, rfl⟩ := deed_is (by simpa [deedD, keyD, lineD, Dsc.size, Dsc.sizes] using hl) h1
  have ⟨i0, i1⟩ := bounds_u8 ha
  exact cachePuts_c a v ds d W i0 i1 hds hd

theorem cachePutsDscs : okParams Try.prog [.int .u8, .slice deedD, deedD] Try.f7.params.toList = true := by kernel_rfl
set_option maxRecDepth 100000 in
theorem cachePuts_lifted (os : Os) (started : os.Started) (H : Type) (enc : TypeId × Value → H) :
    ReturnsInHanded {} Try.checked os 7 .any (Rows.cachePutsSpec.pre6 enc Try.prog Try.f7 Rows.cachePutsRow.domain false) (Rows.cachePutsSpec.post enc Try.prog Try.f7 false true false false) :=
  law_lift (C := Try.checked) [.int .u8, .slice deedD, deedD] (by kernel_rfl) started (by kernel_rfl) Try.func7
    (ChangeSpec.witness6 (enc := enc) (C := Try.checked) false ⟨#[], #[.int .u8 0, .slice none 0 0, .agg #[.int .i64 0, .int .i64 0, .int .i64 0, .int .i64 0, .int .u64 0, .int .u64 0, .bool false, .bool false, .bool false, .bool false, .int .u8 0] ], []⟩ 8 (by kernel_rfl) (by kernel_rfl) (by kernel_rfl) (by kernel_rfl))
    (by kernel_rfl) cachePutsDscs rfl Try.underlying4 rfl (fun ds h => by
      first
        | (obtain ⟨a, rfl⟩ := len1 h; rfl)
        | (obtain ⟨a, b, rfl⟩ := len2 h; rfl)
        | (obtain ⟨a, b, c, rfl⟩ := len3 h; rfl)
        | (obtain ⟨a, b, c, d, rfl⟩ := len4 h; rfl)) cachePuts_walk
theorem cachePuts_holds : Rows.CachePutsSaid :=
  OpenClaim.holds_of_wide 7 Try.f7 rfl rfl rfl rfl rfl rfl rfl ⟨rfl, rfl, rfl, rfl, rfl⟩ rfl rfl rfl rfl rfl (by kernel_rfl) Try.func7 (by kernel_rfl)
    (of_decide_eq_true (by kernel_rfl)) (by unfold Func.isWrapper; first | (rw [if_pos (by decide +kernel)]; kernel_rfl) | (rw [if_neg (by decide +kernel)]; exact ⟨rfl, rfl⟩))
    (fun os started H enc _ => cachePuts_lifted os started H enc)
#print axioms cachePuts_holds
end Go.Proofs.Ytnacgmmkmedpdaa
