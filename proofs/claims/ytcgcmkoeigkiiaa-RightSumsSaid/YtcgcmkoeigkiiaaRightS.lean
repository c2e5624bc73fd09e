/- Contracts of the document's right functions. -/
import Derived.Test.YtcgcmkoeigkiiaaRightR
namespace Go.Proofs.Ytcgcmkoeigkiiaa
set_option linter.unusedVariables false
set_option linter.unusedSimpArgs false
open Go.RowKit
attribute [local go_sem] wext_cell wext_frozen wext_heap alloc_cell alloc_frozen alloc_heap setCell_cell objCell_cells objFrozen_cells

set_option maxHeartbeats 1600000 in
theorem refAnd_c (a b c : Bool) (x : Int) (w : World) (hx : 0 ≤ x) (hx1 : x ≤ 18446744073709551615) :
    Calls Try.prog 21 #[.agg #[.bool a, .bool b, .bool c], .int .u64 x] w fun e w' =>
      e = .returned (.agg #[.bool (a && bitB x 1), .bool (b && bitB x 2), .bool (c && !bitB x 63)]) ∧ Ext w w' := by
  cases a <;> cases b <;> cases c
  all_goals
    go_enter Try.func21, Try.ntmps21
    go_upto_region 1 with (fail)
    refine region_ext_tail 20 (by kernel_rfl) (by kernel_rfl) ?_; simp only [List.take_succ_cons, List.take_zero, List.drop_succ_cons, List.drop_zero]; (repeat (go_big_quiet_step ((go_at_call 33; exact calls_wext (bit_c _ _ _ hx hx1 (by omega) (by omega)))))); refine wpQuiet_nil ?_; intro w1 hb; have ⟨hc, hf, hh, hs⟩ := hb.facts; try simp only [World.size_alloc, World.size_setCell, World.size_drew] at hs
    go_wp2
    refine bodyPost_ret (by simp [results, Try.results21, go_sem, *]; rfl) rfl ⟨by simp, (by repeat (first | exact Ext.refl _ | assumption | refine Ext.alloc ?_ _ | refine Ext.drew ?_ | refine Ext.setCell ?_ (by simp) _ | refine Ext.trans ?_ (by assumption)))⟩

end Go.Proofs.Ytcgcmkoeigkiiaa
