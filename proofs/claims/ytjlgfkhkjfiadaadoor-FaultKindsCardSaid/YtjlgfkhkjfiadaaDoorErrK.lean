/- errors.As at two that are joined. Printed from XErrB. -/
import Derived.Test.YtjlgfkhkjfiadaaDoorErrJ
namespace Go.Proofs.YtjlgfkhkjfiadaaDoor
open Go.Extern.Stop Go.Stop Go.Extern
set_option linter.unusedVariables false
set_option linter.unusedSimpArgs false
open Go.RowKit
attribute [local go_sem] wext_cell wext_frozen wext_heap alloc_cell alloc_frozen alloc_heap setCell_cell objCell_cells objFrozen_cells

set_option maxHeartbeats 4000000 in
set_option maxRecDepth 20000 in
theorem asNone_pg_c (E : Er) (v : Value) (tb vb : Nat) (w : World) (hE : E.pg = none) (hv : ErIs w E v) (hb : w.cell? ⟨vb, 0, none⟩ = some (.pointer (some ⟨tb, 0, none⟩))) (ht : w.cell? ⟨tb, 0, none⟩ = some (.pointer none)) (hf : w.frozen? ⟨tb, 0, none⟩ = false) :
    Calls Tryd.prog 42 #[v, .iface 64 (.pointer (some ⟨tb, 0, none⟩)), .agg #[.pointer (some ⟨4, 64, none⟩), .pointer (some ⟨vb, 0, none⟩), .int .u64 150], .iface 95 (.agg #[.pointer (some ⟨4, 59, none⟩)])] w fun e w' => e = .returned (.bool false) ∧ Ext w w' := by
  have hvb : vb < w.heap.size := cell_lt hb
  have htb : tb < w.heap.size := cell_lt ht
  have hf1 : ∃ r, E.pg = r := ⟨_, rfl⟩
  obtain ⟨r, hr⟩ := hf1
  have hrn : r = none := hr.symm.trans hE
  subst hrn
  have hr0 := Aside.mk hr
  clear hE
  have HV := Lib.hid (hv.ext ((Ext.refl w).alloc (.cells #[.pointer (some ⟨4, 64, none⟩), .pointer (some ⟨vb, 0, none⟩), .int .u64 150] 87)))
  clear hv hr
  generalize hW : w.alloc (.cells #[.pointer (some ⟨4, 64, none⟩), .pointer (some ⟨vb, 0, none⟩), .int .u64 150] 87) = W at HV
  have hWs1 : W.heap.size ≤ w.heap.size + 1 := by rw [← hW]; simp
  have hWs2 : w.heap.size + 1 ≤ W.heap.size := by rw [← hW]; simp
  have hb1 : W.cell? ⟨vb, 0, none⟩ = some (.pointer (some ⟨tb, 0, none⟩)) := by rw [← hW]; exact ((Ext.refl w).alloc _).someCell hb
  have ht1 : W.cell? ⟨tb, 0, none⟩ = some (.pointer none) := by rw [← hW]; exact ((Ext.refl w).alloc _).someCell ht
  have hf2 : W.frozen? ⟨tb, 0, none⟩ = false := by rw [← hW, ((Ext.refl w).alloc _).frozen _ _ htb]; exact hf
  have hl1 : W.cell? ⟨w.heap.size, 0, none⟩ = some (.pointer (some ⟨4, 64, none⟩)) := by rw [← hW]; simp
  have hl2 : W.cell? ⟨w.heap.size, 1, none⟩ = some (.pointer (some ⟨vb, 0, none⟩)) := by rw [← hW]; simp
  have hl3 : W.cell? ⟨w.heap.size, 2, none⟩ = some (.int .u64 150) := by rw [← hW]; simp
  have el := er_elemV_pg ⟨vb, 0, none⟩ ⟨tb, 0, none⟩ W hb1
  have xTypeOf := @run_callFunc_extern Tryd.prog 29 _ ReflectliteType.typeOf Tryd.func29 (by kernel_rfl) (by kernel_rfl) (by kernel_rfl) (by kernel_rfl)
  have xAssignable := @run_callFunc_extern Tryd.prog 97 _ (ReflectliteType.relation "AssignableTo" ReflectliteType.assignableTo) Tryd.func97 (by kernel_rfl) (by kernel_rfl) (by kernel_rfl) (by kernel_rfl)
  have xElem := @run_callFunc_extern Tryd.prog 49 _ (ReflectliteValue.method (ReflectliteValue.valueError "reflectlite.Value.Elem" 0) ReflectliteValue.elem) Tryd.func49 (by kernel_rfl) (by kernel_rfl) (by kernel_rfl) (by kernel_rfl)
  have xValueOf := @run_callFunc_extern Tryd.prog 39 _ (fun args => ReflectliteValue.unpack (args.getD 0 (.tuple #[]))) Tryd.func39 (by kernel_rfl) (by kernel_rfl) (by kernel_rfl) (by kernel_rfl)
  have xSet := @run_callFunc_extern Tryd.prog 50 _ ReflectliteValue.set Tryd.func50 (by kernel_rfl) (by kernel_rfl) (by kernel_rfl) (by kernel_rfl)
  have to0 := er_typeOf_no
  have to1 := er_typeOf_pg
  have to2 := er_typeOf_ah
  have to3 := er_typeOf_es
  have mA := er_mAssignableTo
  have ag0 := er_asg_no_pg
  have ag1 := er_asg_pg_pg
  have ag2 := er_asg_ah_pg
  have ag3 := er_asg_es_pg
  have vo := er_valueOf_pg
  have ni0 := er_no_as_no
  have ni1 := er_no_as_pg
  have ni2 := er_no_as_ah
  have ni3 := er_no_as_es
  have nu0 := er_no_un_no
  have nu1 := er_has_un_pg
  have nu2 := er_has_un_ah
  have nu3 := er_no_un_es
  have ns0 := er_no_us_no
  have ns3 := er_no_us_es
  have mu1 := er_unwrap_pg
  have mu2 := er_unwrap_ah
  have HX := Aside.mk hW
  clear hb ht hf
  go_enter Tryd.func42, Tryd.ntmps42
  go_wp2
  (try rw [HX.out])
  clear hW
  go_loopg [0] (E.deep + 1) (fun k x wr => ∃ E', k = Er.deep E' + 1 ∧ Hid (ErIs W E' x) ∧ Aside (E'.pg = none) ∧ wr = W)
  case atStart => exact ⟨E, rfl, HV, hr0, rfl⟩
  case round =>
    obtain ⟨E', hk, hx, hn, rfl⟩ := hrel
    cases E' with
    | no n =>
      have hx' := hx.out
      unfold ErIs at hx'
      subst hx'
      clear hn
      go_wp2
      (try go_ret)
      exact ⟨rfl, by rw [← HX.out]; exact (Ext.refl w).alloc _⟩
    | page x c => exact absurd hn.out (by simp [Er.pg])
    | ahead y e =>
      obtain ⟨b, u, rfl, c0, c1, c2⟩ := hx.out
      have C2 := Lib.hid c2
      obtain ⟨t, z, rfl⟩ := c2.form
      clear c2
      go_wp2_with (go_at_call 89; refine (aheadUnwrap_c _ _ _ c1).mono ?_; rintro e w1 ⟨rfl, rfl⟩)
      go_roundg (e.deep + 1)
      case measure => simp [Er.deep] at hk; omega
      case rel => exact ⟨e, rfl, C2, Aside.mk hn.out, rfl⟩
    | new =>
      obtain ⟨b, rfl⟩ := hx.out
      clear hn
      go_wp2
      (try go_ret)
      exact ⟨rfl, by rw [← HX.out]; exact (Ext.refl w).alloc _⟩

/-! ### errors.as at two that are joined -/
theorem JoE.parts {E1 E2 : Er} {w : World} {v : Value} (h : JoE E1 E2 w v) : ∃ b g c t1 x1 t2 x2, v = .iface 79 (.pointer (some ⟨b, 0, none⟩)) ∧ w.cell? ⟨b, 0, none⟩ = some (.slice (some ⟨g, 0, none⟩) 2 c) ∧
    w.cell? ⟨g, 0, none⟩ = some (.iface t1 x1) ∧ w.cell? ⟨g, 1, none⟩ = some (.iface t2 x2) ∧ ErIs w E1 (.iface t1 x1) ∧ ErIs w E2 (.iface t2 x2) := by
  obtain ⟨v1, v2, hJ, h1, h2⟩ := h.out
  obtain ⟨b, g, c, rfl, c0, c1, c2⟩ := hJ.out
  obtain ⟨t1, x1, rfl⟩ := h1.form
  obtain ⟨t2, x2, rfl⟩ := h2.form
  exact ⟨b, g, c, t1, x1, t2, x2, rfl, c0, c1, c2, h1, h2⟩

set_option maxHeartbeats 4000000 in
set_option maxRecDepth 20000 in
/-- No page in the first one, one in the second. -/
theorem asJo_pg_c (E1 E2 : Er) (x c : Int) (v : Value) (tb vb : Nat) (w : World) (hE1 : E1.pg = none) (hE2 : E2.pg = some (x, c)) (hv : JoE E1 E2 w v) (hb : w.cell? ⟨vb, 0, none⟩ = some (.pointer (some ⟨tb, 0, none⟩))) (ht : w.cell? ⟨tb, 0, none⟩ = some (.pointer none)) (hf : w.frozen? ⟨tb, 0, none⟩ = false) :
    Calls Tryd.prog 42 #[v, .iface 64 (.pointer (some ⟨tb, 0, none⟩)), .agg #[.pointer (some ⟨4, 64, none⟩), .pointer (some ⟨vb, 0, none⟩), .int .u64 150], .iface 95 (.agg #[.pointer (some ⟨4, 59, none⟩)])] w (EndAs_pg (some (x, c)) tb w) := by
  have htb : tb < w.heap.size := cell_lt ht
  obtain ⟨b, g, cc, t1, x1, t2, x2, rfl, c0, c1, c2, h1, h2⟩ := hv.parts
  have HA1 := Lib.hid (fun w' (k : Ext w w') => asNone_pg_c E1 (.iface t1 x1) tb vb w' hE1 (h1.ext k) (k.someCell hb) (k.someCell ht) ((k.frozen _ _ htb).trans hf))
  have HA2 := Lib.hid (fun w' (k : Ext w w') => (as_pg_c E2 (.iface t2 x2) tb vb w' (h2.ext k) (k.someCell hb) (k.someCell ht) ((k.frozen _ _ htb).trans hf)))
  rw [hE2] at HA2
  have to0 := er_typeOf_jo
  have mA := er_mAssignableTo
  have ag0 := er_asg_jo_pg
  have ni0 := er_no_as_jo
  have nu0 := er_no_un_jo
  have hu := er_has_us_jo
  have mu := er_unwrap_jo
  have xTypeOf := @run_callFunc_extern Tryd.prog 29 _ ReflectliteType.typeOf Tryd.func29 (by kernel_rfl) (by kernel_rfl) (by kernel_rfl) (by kernel_rfl)
  have xAssignable := @run_callFunc_extern Tryd.prog 97 _ (ReflectliteType.relation "AssignableTo" ReflectliteType.assignableTo) Tryd.func97 (by kernel_rfl) (by kernel_rfl) (by kernel_rfl) (by kernel_rfl)
  have ne1 : ∀ (a : Value) (w : World) t, (binOp .eql 26 (.iface t a) .nilIface).run Tryd.prog w = .ok (.bool false) w := fun a w t => run_eql_iface_nil_left (P := Tryd.prog) w t a Tryd.underlying26
  clear hv h1 h2 hE1 hE2 hb ht hf
  generalize hEnd : EndAs_pg (some (x, c)) tb w = EE
  have HEND := Aside.mk hEnd
  clear hEnd
  have hgl : g < w.heap.size := cell_lt c1
  have hbl : b < w.heap.size := cell_lt c0
  go_enter Tryd.func42, Tryd.ntmps42
  go_wp2
  refine wp_loop_rounds 1 ?_
  rw [rounds_succ]
  go_wp2_with (first | (go_at_call 92; refine (joUnwrap_c _ _ _ (by first | exact c0 | (rw [alloc_cell, if_pos hbl]; exact c0))).mono ?_; rintro e w1 ⟨rfl, rfl⟩))
  refine wp_loop_rounds 3 ?_
  rw [rounds_succ]
  go_wp2_with (first | (go_at_call 42; (with_reducible refine (HA1.out _ (by repeat (first | exact Ext.refl _ | assumption | refine Ext.alloc ?_ _ | refine Ext.drew ?_ | refine Ext.setCell ?_ (by first | (simp; done) | (dsimp only; omega)) _ | refine Ext.trans ?_ (by assumption)))).mono ?_); rintro e w2 ⟨rfl, hb2⟩; have ⟨hc, hf, hh, hs⟩ := hb2.facts; try simp only [World.size_alloc, World.size_setCell, World.size_drew] at hs))
  rw [rounds_succ]
  go_wp2_with (first | (go_at_call 42; (with_reducible refine (HA2.out _ (Ext.trans (by repeat (first | exact Ext.refl _ | assumption | refine Ext.alloc ?_ _ | refine Ext.drew ?_ | refine Ext.setCell ?_ (by first | (simp; done) | (dsimp only; omega)) _ | refine Ext.trans ?_ (by assumption))) hb2)).mono ?_); rintro e w3 ⟨rfl, hk3, hq3⟩; have HK3 := Lib.hid hk3; have HQ3 := Lib.hid hq3; clear hk3 hq3; simp only [Option.isSome]))
  (try go_ret)
  rw [← HEND.out]
  exact EndAs_pg.mk _ rfl ((Keeps.of_ext (Ext.trans (by repeat (first | exact Ext.refl _ | assumption | refine Ext.alloc ?_ _ | refine Ext.drew ?_ | refine Ext.setCell ?_ (by first | (simp; done) | (dsimp only; omega)) _ | refine Ext.trans ?_ (by assumption))) hb2)).trans HK3.out (fun _ h => .inl h)) HQ3.out

set_option maxHeartbeats 4000000 in
set_option maxRecDepth 20000 in
/-- A number in the first one. -/
theorem asJo_no_c (E1 E2 : Er) (n : Int) (v : Value) (tb vb : Nat) (w : World) (hE1 : E1.num = some n) (hv : JoE E1 E2 w v) (hb : w.cell? ⟨vb, 0, none⟩ = some (.pointer (some ⟨tb, 0, none⟩))) (ht : w.cell? ⟨tb, 0, none⟩ = some (.int .i64 0)) (hf : w.frozen? ⟨tb, 0, none⟩ = false) :
    Calls Tryd.prog 42 #[v, .iface 65 (.pointer (some ⟨tb, 0, none⟩)), .agg #[.pointer (some ⟨4, 65, none⟩), .pointer (some ⟨vb, 0, none⟩), .int .u64 150], .iface 95 (.agg #[.pointer (some ⟨4, 33, none⟩)])] w (EndAs_no (some n) tb w) := by
  have htb : tb < w.heap.size := cell_lt ht
  obtain ⟨b, g, cc, t1, x1, t2, x2, rfl, c0, c1, c2, h1, h2⟩ := hv.parts
  have HA1 := Lib.hid (fun w' (k : Ext w w') => as_no_c E1 (.iface t1 x1) tb vb w' (h1.ext k) (k.someCell hb) (k.someCell ht) ((k.frozen _ _ htb).trans hf))
  rw [hE1] at HA1
  have to0 := er_typeOf_jo
  have mA := er_mAssignableTo
  have ag0 := er_asg_jo_no
  have ni0 := er_no_as_jo
  have nu0 := er_no_un_jo
  have hu := er_has_us_jo
  have mu := er_unwrap_jo
  have xTypeOf := @run_callFunc_extern Tryd.prog 29 _ ReflectliteType.typeOf Tryd.func29 (by kernel_rfl) (by kernel_rfl) (by kernel_rfl) (by kernel_rfl)
  have xAssignable := @run_callFunc_extern Tryd.prog 97 _ (ReflectliteType.relation "AssignableTo" ReflectliteType.assignableTo) Tryd.func97 (by kernel_rfl) (by kernel_rfl) (by kernel_rfl) (by kernel_rfl)
  have ne1 : ∀ (a : Value) (w : World) t, (binOp .eql 26 (.iface t a) .nilIface).run Tryd.prog w = .ok (.bool false) w := fun a w t => run_eql_iface_nil_left (P := Tryd.prog) w t a Tryd.underlying26
  clear hv h1 h2 hE1 hb ht hf
  generalize hEnd : EndAs_no (some n) tb w = EE
  have HEND := Aside.mk hEnd
  clear hEnd
  have hgl : g < w.heap.size := cell_lt c1
  have hbl : b < w.heap.size := cell_lt c0
  go_enter Tryd.func42, Tryd.ntmps42
  go_wp2
  refine wp_loop_rounds 1 ?_
  rw [rounds_succ]
  go_wp2_with (first | (go_at_call 92; refine (joUnwrap_c _ _ _ (by first | exact c0 | (rw [alloc_cell, if_pos hbl]; exact c0))).mono ?_; rintro e w1 ⟨rfl, rfl⟩))
  refine wp_loop_rounds 3 ?_
  rw [rounds_succ]
  go_wp2_with (first | (go_at_call 42; (with_reducible refine (HA1.out _ (by repeat (first | exact Ext.refl _ | assumption | refine Ext.alloc ?_ _ | refine Ext.drew ?_ | refine Ext.setCell ?_ (by first | (simp; done) | (dsimp only; omega)) _ | refine Ext.trans ?_ (by assumption)))).mono ?_); rintro e w3 ⟨rfl, hk3, hq3⟩; have HK3 := Lib.hid hk3; have HQ3 := Lib.hid hq3; clear hk3 hq3; simp only [Option.isSome]))
  (try go_ret)
  rw [← HEND.out]
  exact EndAs_no.mk _ rfl ((Keeps.of_ext (by repeat (first | exact Ext.refl _ | assumption | refine Ext.alloc ?_ _ | refine Ext.drew ?_ | refine Ext.setCell ?_ (by first | (simp; done) | (dsimp only; omega)) _ | refine Ext.trans ?_ (by assumption)))).trans HK3.out (fun _ h => .inl h)) HQ3.out
end Go.Proofs.YtjlgfkhkjfiadaaDoor
