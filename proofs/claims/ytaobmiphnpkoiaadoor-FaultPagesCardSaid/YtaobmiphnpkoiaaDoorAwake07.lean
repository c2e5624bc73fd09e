/- Layer 7's example. -/
import Derived.Test.YtaobmiphnpkoiaaDoorErrC
namespace Go.Proofs.YtaobmiphnpkoiaaDoor
set_option linter.unusedVariables false
set_option linter.unusedSimpArgs false
open Go.RowKit
attribute [local go_sem] wext_cell wext_frozen wext_heap alloc_cell alloc_frozen alloc_heap setCell_cell objCell_cells objFrozen_cells

structure ErH (w : World) (E : Er) (v : Value) : Prop where
  out : ErIs w E v
theorem ErH.mv {w w' : World} {E : Er} {v : Value} (h : ErH w E v) (k : Ext w w') : ErIs w' E v := h.out.ext k
theorem ErH.mvH {w w' : World} {E : Er} {v : Value} (h : ErH w E v) (k : Ext w w') : ErH w' E v := ⟨h.out.ext k⟩
theorem EndErr.form {E : Er} {w w' : World} {e : Ending} (h : EndErr E w e w') : ∃ t x, e = .returned (.iface t x) ∧ ErH w' E (.iface t x) ∧ Ext w w' := by
  obtain ⟨v, rfl, h1, h2⟩ := h
  obtain ⟨t, x, rfl⟩ := h1.form
  exact ⟨t, x, rfl, ⟨h1⟩, h2⟩
set_option maxRecDepth 100000 in
set_option maxHeartbeats 3200000 in
theorem awake07_c (w : World) (hg : Glob w) : Calls Tryd.prog 4 #[] w fun e w' => e = .returned (.bool true) ∧ Ext w w' := by
  have HG := Lib.hid hg
  clear hg
  have K4 := Lib.hid (fun (y : ByteArray) (v : Value) (w : World) (h : ErH w (.ahead y (.page 4096 2)) v) (g : Glob w) => kind_c 4 _ v w h.out g rfl)
  have K5 := Lib.hid (fun (y : ByteArray) (v : Value) (w : World) (h : ErH w (.ahead y (.no 5)) v) (g : Glob w) => kind_c 5 _ v w h.out g rfl)
  go_enter Tryd.func4, Tryd.ntmps4
  go_wp2_with (first | (go_at_call 6; refine (at_c _ _ _).mono ?_; rintro e w1 hE; obtain ⟨t, x, rfl, hv1, hb1⟩ := hE.form; clear hE) | (go_at_call 11; refine (wrap_c _ _ _ _ (by apply ErH.mv; assumption; exact (by repeat (first | exact Ext.refl _ | assumption | refine Ext.alloc ?_ _ | refine Ext.drew ?_ | refine Ext.setCell ?_ (by first | (simp; done) | (dsimp only; omega)) _ | refine Ext.trans ?_ (by assumption))))).mono ?_; rintro e w2 hE; obtain ⟨t2, x2, rfl, hv2, hb2⟩ := hE.form; clear hE) | (go_at_call 13; refine (gp_c _ _).mono ?_; rintro e w3 hE; obtain ⟨t3, x3, rfl, hv3, hb3⟩ := hE.form; clear hE) | (go_at_call 5; refine (faultOf_pg 4096 2 _ _ _ (by apply ErH.mv; assumption; exact (by repeat (first | exact Ext.refl _ | assumption | refine Ext.alloc ?_ _ | refine Ext.drew ?_ | refine Ext.setCell ?_ (by first | (simp; done) | (dsimp only; omega)) _ | refine Ext.trans ?_ (by assumption)))) (HG.out.ext (by repeat (first | exact Ext.refl _ | assumption | refine Ext.alloc ?_ _ | refine Ext.drew ?_ | refine Ext.setCell ?_ (by first | (simp; done) | (dsimp only; omega)) _ | refine Ext.trans ?_ (by assumption)))) (by rfl) (by rfl)).mono ?_; rintro e w4 ⟨rfl, hb4⟩) | (go_at_call 12; with_reducible refine (kindNil_c _).mono ?_; rintro e w5 ⟨rfl, hb5⟩) | (go_at_call 12; with_reducible refine (K4.out _ _ _ (by apply ErH.mvH; assumption; exact (by repeat (first | exact Ext.refl _ | assumption | refine Ext.alloc ?_ _ | refine Ext.drew ?_ | refine Ext.setCell ?_ (by first | (simp; done) | (dsimp only; omega)) _ | refine Ext.trans ?_ (by assumption)))) (HG.out.ext (by repeat (first | exact Ext.refl _ | assumption | refine Ext.alloc ?_ _ | refine Ext.drew ?_ | refine Ext.setCell ?_ (by first | (simp; done) | (dsimp only; omega)) _ | refine Ext.trans ?_ (by assumption))))).mono ?_; rintro e w6 ⟨rfl, hb6⟩) | (go_at_call 12; with_reducible refine (K5.out _ _ _ (by apply ErH.mvH; assumption; exact (by repeat (first | exact Ext.refl _ | assumption | refine Ext.alloc ?_ _ | refine Ext.drew ?_ | refine Ext.setCell ?_ (by first | (simp; done) | (dsimp only; omega)) _ | refine Ext.trans ?_ (by assumption)))) (HG.out.ext (by repeat (first | exact Ext.refl _ | assumption | refine Ext.alloc ?_ _ | refine Ext.drew ?_ | refine Ext.setCell ?_ (by first | (simp; done) | (dsimp only; omega)) _ | refine Ext.trans ?_ (by assumption))))).mono ?_; rintro e w7 ⟨rfl, hb7⟩) | (go_at_call 7; refine (errIs_c 4 true _ _ _ (by apply ErH.mv; assumption; exact (by repeat (first | exact Ext.refl _ | assumption | refine Ext.alloc ?_ _ | refine Ext.drew ?_ | refine Ext.setCell ?_ (by first | (simp; done) | (dsimp only; omega)) _ | refine Ext.trans ?_ (by assumption)))) (by rfl)).mono ?_; rintro e w8 ⟨rfl, rfl⟩))
  go_ret
  exact ⟨rfl, (by repeat (first | exact Ext.refl _ | assumption | refine Ext.alloc ?_ _ | refine Ext.drew ?_ | refine Ext.setCell ?_ (by first | (simp; done) | (dsimp only; omega)) _ | refine Ext.trans ?_ (by assumption)))⟩
end Go.Proofs.YtaobmiphnpkoiaaDoor
