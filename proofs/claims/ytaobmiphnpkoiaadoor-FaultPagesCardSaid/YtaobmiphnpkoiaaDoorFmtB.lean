/- internal/strconv.FormatUint to the base 16. -/
import Derived.Test.YtaobmiphnpkoiaaDoorHexR
namespace Go.Proofs.YtaobmiphnpkoiaaDoor
set_option linter.unusedVariables false
set_option linter.unusedSimpArgs false
open Go.RowKit
attribute [local go_sem] wext_cell wext_frozen wext_heap alloc_cell alloc_frozen alloc_heap setCell_cell objCell_cells objFrozen_cells

def TzAt (w : World) : Prop := w.cell? ⟨3, 15, none⟩ = some (.int .u8 4)
theorem TzAt.ext {w w' : World} (h : TzAt w) (k : Ext w w') : TzAt w' := k.someCell h

set_option maxRecDepth 100000 in
theorem pow2_c (w : World) : Calls Tryd.prog 38 #[.int .i64 16] w fun e w' => e = .returned (.bool true) ∧ Ext w w' := by
  go_enter Tryd.func38, Tryd.ntmps38
  go_wp2
  (try go_ret)
  exact ⟨rfl, (by repeat (first | exact Ext.refl _ | assumption | refine Ext.alloc ?_ _ | refine Ext.drew ?_ | refine Ext.setCell ?_ (by first | (simp; done) | (dsimp only; omega)) _ | refine Ext.trans ?_ (by assumption)))⟩
theorem tzA : bits .and .u64 16 (IntKind.u64.wrap (-16)) = 16 := by decide +kernel
theorem tzB : IntKind.u64.wrap (16 * 285870213051353865) / 288230376151711744 = 15 := by decide +kernel
set_option maxRecDepth 100000 in
theorem tz64_c (w : World) (h : TzAt w) : Calls Tryd.prog 41 #[.int .u64 16] w fun e w' => e = .returned (.int .i64 4) ∧ Ext w w' := by
  unfold TzAt at h
  have tA := tzA
  have tB := tzB
  go_enter Tryd.func41, Tryd.ntmps41
  go_wp2
  (try go_ret)
  exact ⟨rfl, (by repeat (first | exact Ext.refl _ | assumption | refine Ext.alloc ?_ _ | refine Ext.drew ?_ | refine Ext.setCell ?_ (by first | (simp; done) | (dsimp only; omega)) _ | refine Ext.trans ?_ (by assumption)))⟩
set_option maxRecDepth 100000 in
theorem tz_c (w : World) (h : TzAt w) : Calls Tryd.prog 39 #[.int .u64 16] w fun e w' => e = .returned (.int .i64 4) ∧ Ext w w' := by
  have H := Lib.hid (fun (w1 : World) (k : Ext w w1) => tz64_c w1 (h.ext k))
  clear h
  go_enter Tryd.func39, Tryd.ntmps39
  go_wp2_with (first | (go_at_call 41; refine (H.out _ (by repeat (first | exact Ext.refl _ | assumption | refine Ext.alloc ?_ _ | refine Ext.drew ?_ | refine Ext.setCell ?_ (by first | (simp; done) | (dsimp only; omega)) _ | refine Ext.trans ?_ (by assumption)))).mono ?_; rintro e w1 ⟨rfl, hb1⟩))
  (try go_ret)
  exact ⟨rfl, (by repeat (first | exact Ext.refl _ | assumption | refine Ext.alloc ?_ _ | refine Ext.drew ?_ | refine Ext.setCell ?_ (by first | (simp; done) | (dsimp only; omega)) _ | refine Ext.trans ?_ (by assumption)))⟩
end Go.Proofs.YtaobmiphnpkoiaaDoor
