/- PrefetchPlan: a plan has the pages behind an address, one behind the other, each canonical; no more than were wanted, and eight; fewer just at an end. -/
import Derived.Test.YtakkjpdolkokfaaPln47
import Derived.Test.YtakkjpdolkokfaaPln28
namespace Go.Proofs.Ytakkjpdolkokfaa
set_option linter.unusedVariables false
set_option linter.unusedSimpArgs false
open Go.RowKit
attribute [local go_sem] wext_cell wext_frozen wext_heap alloc_cell alloc_frozen alloc_heap setCell_cell objCell_cells objFrozen_cells
open Go.Proofs

theorem prefetchPlan_walk (W : World) (args : List Value) (h : ArgsAre W [.int .u64, .int .u8] args) :
    Calls Try.prog 4 args.toArray W fun e w' => e = .returned (.bool true) ∧ Ext W w' := by
  obtain ⟨_, _, rfl, ⟨a, h1, ha⟩, _, _, rfl, ⟨n, h2, hn⟩, rfl⟩ := h
  simp only [List.cons.injEq, and_true] at h1 h2
  subst h1 h2
  have ⟨i0, i1⟩ := bounds_u64 ha
  have ⟨j0, j1⟩ := bounds_u8 hn
  exact prefetchPlan_c a n W i0 i1 j0 j1

theorem prefetchPlanDscs : okParams Try.prog [.int .u64, .int .u8] Try.f4.params.toList = true := by kernel_rfl
set_option maxRecDepth 100000 in
theorem prefetchPlan_lifted (os : Os) (started : os.Started) (H : Type) (enc : TypeId × Value → H) :
    ReturnsInHanded {} Try.checked os 4 .any (Rows.prefetchPlanSpec.pre6 enc Try.prog Try.f4 Rows.prefetchPlanRow.domain false) (Rows.prefetchPlanSpec.post enc Try.prog Try.f4 false true false false) :=
  law_lift (C := Try.checked) [.int .u64, .int .u8] (by kernel_rfl) started (by kernel_rfl) Try.func4
    (ChangeSpec.witness6 (enc := enc) (C := Try.checked) false ⟨#[], #[.int .u64 0, .int .u8 0], []⟩ 8 (by kernel_rfl) (by kernel_rfl) (by kernel_rfl) (by kernel_rfl))
    (by kernel_rfl) prefetchPlanDscs rfl Try.underlying4 rfl (fun ds h => by
      first
        | (obtain ⟨a, rfl⟩ := len1 h; rfl)
        | (obtain ⟨a, b, rfl⟩ := len2 h; rfl)
        | (obtain ⟨a, b, c, rfl⟩ := len3 h; rfl)
        | (obtain ⟨a, b, c, d, rfl⟩ := len4 h; rfl)) prefetchPlan_walk
theorem prefetchPlan_holds : Rows.PrefetchPlanSaid :=
  OpenClaim.holds_of_wide 4 Try.f4 rfl rfl rfl rfl rfl rfl rfl ⟨rfl, rfl, rfl, rfl, rfl⟩ rfl rfl rfl rfl rfl (by kernel_rfl) Try.func4 (by kernel_rfl)
    (of_decide_eq_true (by kernel_rfl)) (by unfold Func.isWrapper; first | (rw [if_pos (by decide +kernel)]; kernel_rfl) | (rw [if_neg (by decide +kernel)]; exact ⟨rfl, rfl⟩))
    (fun os started H enc _ => prefetchPlan_lifted os started H enc)
#print axioms prefetchPlan_holds
end Go.Proofs.Ytakkjpdolkokfaa
