/- The document's example of piece holds. -/
import Derived.Test.YtjlgfkhkjfiadaaDoorPiece
import Derived.Test.YtjlgfkhkjfiadaaDoorPieceS
namespace Go.Proofs.YtjlgfkhkjfiadaaDoor
set_option linter.unusedVariables false
set_option linter.unusedSimpArgs false
open Go.RowKit
attribute [local go_sem] wext_cell wext_frozen wext_heap alloc_cell alloc_frozen alloc_heap setCell_cell objCell_cells objFrozen_cells

set_option maxHeartbeats 1600000 in
theorem awake17_c (w : World) : Calls Tryd.prog 18 #[] w fun e w' => e = .returned (.bool true) ∧ Ext w w' := by
  have hcut : ∀ w, Calls Tryd.prog 19 #[.int .u64 4094, .int .i64 4] w (EndCut2 4094 2 4096 2 w) := fun w => cut_two 4094 4 w (by omega) (by show _ = _; kernel_rfl) (by omega)
  have hsl : ∀ w, Calls Tryd.prog 31 #[.int .u64 7, .int .i64 2] w (EndSlots2 0 8 w) := fun w => slots_two 7 2 w (by omega) (by show _ = _; kernel_rfl) (by show _ = _; kernel_rfl)
  have HCUT := Lib.hid hcut
  have HSL := Lib.hid hsl
  clear hcut hsl
  go_enter Tryd.func18, Tryd.ntmps18
  go_wp2_with (first | (go_at_call 19; refine (HCUT.out _).mono ?_; rintro e w1 ⟨g, rfl, g1, g2, c0, c1, c2, c3, hb⟩; have ⟨hc, hf, hh, hs⟩ := hb.facts) | (go_at_call 31; refine (HSL.out _).mono ?_; rintro e w2 ⟨k, cap, rfl, k1, k2, d0, d1, hb2⟩; have ⟨hc, hf, hh, hs⟩ := hb2.facts) | (go_at_call 21; refine (pick_in _ _ _ _ _ 5 _ (by decide) (by omega) (by omega) (by simp)).mono ?_; rintro e w3 ⟨rfl, hb3⟩))
  go_ret
  exact ⟨rfl, (by repeat (first | exact Ext.refl _ | assumption | refine Ext.alloc ?_ _ | refine Ext.drew ?_ | refine Ext.setCell ?_ (by first | (simp; done) | (dsimp only; omega)) _ | refine Ext.trans ?_ (by assumption)))⟩
end Go.Proofs.YtjlgfkhkjfiadaaDoor
