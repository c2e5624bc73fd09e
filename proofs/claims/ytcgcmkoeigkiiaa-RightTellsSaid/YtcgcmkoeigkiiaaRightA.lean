/- The document's examples of the right functions hold. -/
import Derived.Test.YtcgcmkoeigkiiaaRightS
namespace Go.Proofs.Ytcgcmkoeigkiiaa
set_option linter.unusedVariables false
set_option linter.unusedSimpArgs false
open Go.RowKit
attribute [local go_sem] wext_cell wext_frozen wext_heap alloc_cell alloc_frozen alloc_heap setCell_cell objCell_cells objFrozen_cells

set_option maxHeartbeats 1600000 in
theorem awake6_c (w : World) : Calls Try.prog 13 #[] w fun e w' => e = .returned (.bool true) ∧ Ext w w' := by
  have e1 : bw 4 = false := by show _ = _; kernel_rfl
  have e2 : bu 4 = true := by show _ = _; kernel_rfl
  have e3 : bx 4 = true := by show _ = _; kernel_rfl
  have hcode : ∀ w, Calls Try.prog 14 #[.agg #[.int .i64 2, .bool true, .bool false], .agg #[.bool false, .bool false, .bool false, .bool false], .bool true, .bool false] w fun e w' => e = .returned (.int .i64 7) ∧ Ext w w' :=
    fun w => (code_c 2 true false false false false false true false w).mono fun e w' h => ⟨h.1, h.2⟩
  go_enter Try.func13, Try.ntmps13
  go_wp2_with (first | (go_at_call 20; refine (rightAnd_c _ _ _ _ _).mono ?_; rintro e w1 ⟨rfl, hb⟩; have ⟨hc, hf, hh, hs⟩ := hb.facts; try simp only [World.size_alloc, World.size_setCell, World.size_drew] at hs) | (go_at_call 18; refine (rightAll_c _).mono ?_; rintro e w1 ⟨rfl, hb⟩; have ⟨hc, hf, hh, hs⟩ := hb.facts; try simp only [World.size_alloc, World.size_setCell, World.size_drew] at hs) | (go_at_call 17; refine (may_c _ _ _ _ _ _ _ _ _ _ _).mono ?_; rintro e w1 ⟨rfl, hb⟩; have ⟨hc, hf, hh, hs⟩ := hb.facts; try simp only [World.size_alloc, World.size_setCell, World.size_drew] at hs; simp only [mayB, userB]) | (go_at_call 14; refine (hcode _).mono ?_; rintro e w1 ⟨rfl, hb⟩; have ⟨hc, hf, hh, hs⟩ := hb.facts; try simp only [World.size_alloc, World.size_setCell, World.size_drew] at hs))
  go_ret
  exact ⟨rfl, (by repeat (first | exact Ext.refl _ | assumption | refine Ext.alloc ?_ _ | refine Ext.drew ?_ | refine Ext.setCell ?_ (by simp) _ | refine Ext.trans ?_ (by assumption)))⟩

end Go.Proofs.Ytcgcmkoeigkiiaa
