/- TlbPlays: whatever is put, dropped, and picked: what any look finds, and how many lines there are: for every room and all deeds. -/
import Derived.Test.YtnacgmmkmedpdaaTlbPlays
namespace Go.Proofs.Ytnacgmmkmedpdaa
set_option linter.unusedVariables false
set_option linter.unusedSimpArgs false
open Go.RowKit
attribute [local go_sem] wext_cell wext_frozen wext_heap alloc_cell alloc_frozen alloc_heap setCell_cell objCell_cells objFrozen_cells
open Go.Proofs

theorem tlbPlays_walk (W : World) (args : List Value) (h : ArgsAre W [.int .i64, .slice tdeedD] args) :
    Calls Try.prog 9 args.toArray W fun e w' => e = .returned (.bool true) ∧ Ext W w' := by
  obtain ⟨_, _, rfl, ⟨a, h2, ha⟩, v, _, rfl, hv, rfl⟩ := h
  simp only [List.cons.injEq, and_true] at h2
  subst h2
  obtain ⟨ds, hds⟩ := tdeeds_of hv
  have ⟨i0, i1⟩ := bounds_i64 ha
  exact tlbPlays_c v ds a W i0 i1 hds

theorem tlbPlaysDscs : okParams Try.prog [.int .i64, .slice tdeedD] Try.f9.params.toList = true := by kernel_rfl
set_option maxRecDepth 100000 in
theorem tlbPlays_lifted (os : Os) (started : os.Started) (H : Type) (enc : TypeId × Value → H) :
    ReturnsInHanded {} Try.checked os 9 .any (Rows.tlbPlaysSpec.pre6 enc Try.prog Try.f9 Rows.tlbPlaysRow.domain false) (Rows.tlbPlaysSpec.post enc Try.prog Try.f9 false true false false) :=
  law_lift (C := Try.checked) [.int .i64, .slice tdeedD] (by kernel_rfl) started (by kernel_rfl) Try.func9
    (ChangeSpec.witness6 (enc := enc) (C := Try.checked) false ⟨#[], #[.int .i64 0, .slice none 0 0], []⟩ 8 (by kernel_rfl) (by kernel_rfl) (by kernel_rfl) (by kernel_rfl))
    (by kernel_rfl) tlbPlaysDscs rfl Try.underlying4 rfl (fun ds h => by
      first
        | (obtain ⟨a, rfl⟩ := len1 h; rfl)
        | (obtain ⟨a, b, rfl⟩ := len2 h; rfl)
        | (obtain ⟨a, b, c, rfl⟩ := len3 h; rfl)
        | (obtain ⟨a, b, c, d, rfl⟩ := len4 h; rfl)) tlbPlays_walk
theorem tlbPlays_holds : Rows.TlbPlaysSaid :=
  OpenClaim.holds_of_wide 9 Try.f9 rfl rfl rfl rfl rfl rfl rfl ⟨rfl, rfl, rfl, rfl, rfl⟩ rfl rfl rfl rfl rfl (by kernel_rfl) Try.func9 (by kernel_rfl)
    (of_decide_eq_true (by kernel_rfl)) (by unfold Func.isWrapper; first | (rw [if_pos (by decide +kernel)]; kernel_rfl) | (rw [if_neg (by decide +kernel)]; exact ⟨rfl, rfl⟩))
    (fun os started H enc _ => tlbPlays_lifted os started H enc)
#print axioms tlbPlays_holds
end Go.Proofs.Ytnacgmmkmedpdaa
