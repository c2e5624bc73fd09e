/- strconv.FormatUint to the base 16. -/
import Derived.Test.YtaobmiphnpkoiaaDoorFmtC
namespace Go.Proofs.YtaobmiphnpkoiaaDoor
set_option linter.unusedVariables false
set_option linter.unusedSimpArgs false
open Go.RowKit
attribute [local go_sem] wext_cell wext_frozen wext_heap alloc_cell alloc_frozen alloc_heap setCell_cell objCell_cells objFrozen_cells

set_option maxRecDepth 100000 in
theorem fmtI_c (n : Nat) (w : World) (hn : n < 18446744073709551616) (h : TzAt w) : Calls Tryd.prog 25 #[.int .u64 n, .int .i64 16] w fun e w' => e = .returned (.string (hexS 16 n)) ∧ Ext w w' := by
  have H := Lib.hid (fun (w1 : World) (k : Ext w w1) => fmt_c n w1 hn (h.ext k))
  generalize hexS 16 n = S at H ⊢
  clear h hn
  go_enter Tryd.func25, Tryd.ntmps25
  go_wp2_with (first | (go_at_call 33; refine (H.out _ (by repeat (first | exact Ext.refl _ | assumption | refine Ext.alloc ?_ _ | refine Ext.drew ?_ | refine Ext.setCell ?_ (by first | (simp; done) | (dsimp only; omega)) _ | refine Ext.trans ?_ (by assumption)))).mono ?_; rintro e w1 ⟨rfl, hb1⟩))
  (try go_ret)
  exact ⟨rfl, (by repeat (first | exact Ext.refl _ | assumption | refine Ext.alloc ?_ _ | refine Ext.drew ?_ | refine Ext.setCell ?_ (by first | (simp; done) | (dsimp only; omega)) _ | refine Ext.trans ?_ (by assumption)))⟩
set_option maxRecDepth 100000 in
theorem fmtU_c (n : Nat) (w : World) (hn : n < 18446744073709551616) (h : TzAt w) : Calls Tryd.prog 17 #[.int .u64 n, .int .i64 16] w fun e w' => e = .returned (.string (hexS 16 n)) ∧ Ext w w' := by
  have H := Lib.hid (fun (w1 : World) (k : Ext w w1) => fmtI_c n w1 hn (h.ext k))
  generalize hexS 16 n = S at H ⊢
  clear h hn
  go_enter Tryd.func17, Tryd.ntmps17
  go_wp2_with (first | (go_at_call 25; refine (H.out _ (by repeat (first | exact Ext.refl _ | assumption | refine Ext.alloc ?_ _ | refine Ext.drew ?_ | refine Ext.setCell ?_ (by first | (simp; done) | (dsimp only; omega)) _ | refine Ext.trans ?_ (by assumption)))).mono ?_; rintro e w1 ⟨rfl, hb1⟩))
  (try go_ret)
  exact ⟨rfl, (by repeat (first | exact Ext.refl _ | assumption | refine Ext.alloc ?_ _ | refine Ext.drew ?_ | refine Ext.setCell ?_ (by first | (simp; done) | (dsimp only; omega)) _ | refine Ext.trans ?_ (by assumption)))⟩
end Go.Proofs.YtaobmiphnpkoiaaDoor
