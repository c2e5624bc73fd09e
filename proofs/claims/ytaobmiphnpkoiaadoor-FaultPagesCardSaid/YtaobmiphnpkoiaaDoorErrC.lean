/- errors.Is, errors.As, and package fault, by contracts. Printed by mkerrc.py. -/
import Derived.Test.YtaobmiphnpkoiaaDoorErrB
namespace Go.Proofs.YtaobmiphnpkoiaaDoor
open Go.Extern.Stop Go.Stop Go.Extern
set_option linter.unusedVariables false
set_option linter.unusedSimpArgs false
open Go.RowKit
attribute [local go_sem] wext_cell wext_frozen wext_heap alloc_cell alloc_frozen alloc_heap setCell_cell objCell_cells objFrozen_cells

theorem keeps_cell {F : List Nat} {a b : World} (h : Keeps F a b) {x o : Nat} (hx : x ∉ F) (hl : x < a.heap.size) : b.cell? ⟨x, o, none⟩ = a.cell? ⟨x, o, none⟩ := by
  rw [cell_heap, cell_heap, h.block x hl hx]
theorem keeps_frozen {F : List Nat} {a b : World} (h : Keeps F a b) {x o : Nat} (hx : x ∉ F) (hl : x < a.heap.size) : b.frozen? ⟨x, o, none⟩ = a.frozen? ⟨x, o, none⟩ := by
  rw [frozen_heap, frozen_heap, h.block x hl hx]

/-! ### errors.Is -/
theorem er_comparable (w : World) : (callFunc 67 #[.agg #[.pointer (some ⟨4, 33, none⟩)]]).run Tryd.prog w = .ok (Next.value (.bool true)) w := by
  rw [@run_callFunc_extern Tryd.prog 67 _ (ReflectliteType.method fun t => do Rtype.noPackHeld "Comparable" t; pure (.bool (← typeInfo t).comparable)) Tryd.func67 (by kernel_rfl) (by kernel_rfl) (by kernel_rfl) (by kernel_rfl)]
  kernel_rfl
theorem errIs_c (m : Int) (q : Bool) (E : Er) (v : Value) (w : World) (hv : ErIs w E v) (hq : (E.num == some m) = q) :
    Calls Tryd.prog 7 #[v, .iface 33 (.int .i64 m)] w fun e w' => e = .returned (.bool q) ∧ w' = w := by
  have HI := Lib.hid (erIs_c m E v w hv)
  obtain ⟨t, x, rfl⟩ := hv.form
  rw [← hq]
  clear hv hq
  have xTypeOf := @run_callFunc_extern Tryd.prog 15 _ ReflectliteType.typeOf Tryd.func15 (by kernel_rfl) (by kernel_rfl) (by kernel_rfl) (by kernel_rfl)
  have cC := er_comparable
  have to0 := er_typeOf_no
  have mC := er_mComparable
  go_enter Tryd.func7, Tryd.ntmps7
  go_wp2_with (go_at_call 16; refine HI.out.mono ?_; rintro e w1 ⟨rfl, rfl⟩)
  go_ret
  exact ⟨rfl, rfl⟩
theorem errIsNil_c (m : Int) (w : World) : Calls Tryd.prog 7 #[.nilIface, .iface 33 (.int .i64 m)] w fun e w' => e = .returned (.bool false) ∧ w' = w := by
  have hn := run_eql_iface_nil_left (P := Tryd.prog) w 33 (.int .i64 m) Tryd.underlying29
  go_enter Tryd.func7, Tryd.ntmps7
  go_wp2
  go_ret
  exact ⟨rfl, rfl⟩


set_option maxHeartbeats 4000000 in
set_option maxRecDepth 20000 in
theorem errAs_no_c (r : Option Int) (E : Er) (v : Value) (tb : Nat) (w : World) (hv : ErIs w E v) (hr : E.num = r) (hg : Glob w) (ht : w.cell? ⟨tb, 0, none⟩ = some (.int .i64 0)) (hf : w.frozen? ⟨tb, 0, none⟩ = false) :
    Calls Tryd.prog 14 #[v, .iface 52 (.pointer (some ⟨tb, 0, none⟩))] w (EndAs_no r tb w) := by
  have htb : tb < w.heap.size := cell_lt ht
  have hx2 : Ext w ((w.alloc (.cells #[.pointer (some ⟨tb, 0, none⟩)] 52)).alloc (.cells #[.pointer (some ⟨4, 52, none⟩), .pointer (some ⟨w.heap.size, 0, none⟩), .int .u64 150] 56)) := ((Ext.refl w).alloc _).alloc _
  have HAS := Lib.hid (as_no_c E v tb w.heap.size ((w.alloc (.cells #[.pointer (some ⟨tb, 0, none⟩)] 52)).alloc (.cells #[.pointer (some ⟨4, 52, none⟩), .pointer (some ⟨w.heap.size, 0, none⟩), .int .u64 150] 56)) (hv.ext hx2) (((Ext.refl (w.alloc (.cells #[.pointer (some ⟨tb, 0, none⟩)] 52))).alloc _).someCell (by simp)) (hx2.someCell ht) (by rw [hx2.frozen _ _ htb]; exact hf))
  rw [hr] at HAS
  obtain ⟨t, x, rfl⟩ := hv.form
  have hg2 := hx2.someCell hg
  have nil8 := er_isNil_no ⟨w.heap.size, 0, none⟩ ⟨tb, 0, none⟩ ((w.alloc (.cells #[.pointer (some ⟨tb, 0, none⟩)] 52)).alloc (.cells #[.pointer (some ⟨4, 52, none⟩), .pointer (some ⟨w.heap.size, 0, none⟩), .int .u64 150] 56)) (((Ext.refl (w.alloc (.cells #[.pointer (some ⟨tb, 0, none⟩)] 52))).alloc _).someCell (by simp))
  unfold Glob at hg
  have xValueOf := @run_callFunc_extern Tryd.prog 21 _ (fun args => ReflectliteValue.unpack (args.getD 0 (.tuple #[]))) Tryd.func21 (by kernel_rfl) (by kernel_rfl) (by kernel_rfl) (by kernel_rfl)
  have xType := @run_callFunc_extern Tryd.prog 22 _ (ReflectliteValue.methodAny (ReflectliteValue.valueError "reflectlite.Value.Type" 0) (fun t _ _ _ => ReflectliteType.toType t)) Tryd.func22 (by kernel_rfl) (by kernel_rfl) (by kernel_rfl) (by kernel_rfl)
  have xKind := @run_callFunc_extern Tryd.prog 56 _ (ReflectliteType.abiMethod fun t => do pure (.int .u8 (← Rtype.kind t))) Tryd.func56 (by kernel_rfl) (by kernel_rfl) (by kernel_rfl) (by kernel_rfl)
  have xIsNil := @run_callFunc_extern Tryd.prog 23 _ (ReflectliteValue.method (ReflectliteValue.valueError "reflectlite.Value.IsNil" 0) ReflectliteValue.isNil) Tryd.func23 (by kernel_rfl) (by kernel_rfl) (by kernel_rfl) (by kernel_rfl)
  have xTElem := @run_callFunc_extern Tryd.prog 68 _ (ReflectliteType.method ReflectliteType.elem) Tryd.func68 (by kernel_rfl) (by kernel_rfl) (by kernel_rfl) (by kernel_rfl)
  have xImplements := @run_callFunc_extern Tryd.prog 69 _ (ReflectliteType.relation "Implements" ReflectliteType.implements_) Tryd.func69 (by kernel_rfl) (by kernel_rfl) (by kernel_rfl) (by kernel_rfl)
  have vP := er_valueOfP_no
  have tP := er_typeP_no
  have mK := er_mKind
  have mE := er_mElem
  have mI := er_mImplements
  have kP := er_kindP_no
  have kE := er_kindE_no
  have eT := er_elemT_no
  have iT := er_impl_no
  have HX := Lib.hid hx2
  clear hv hr hx2
  generalize hEnd : EndAs_no r tb w = EE
  have HEND := Aside.mk hEnd
  clear hEnd
  go_enter Tryd.func14, Tryd.ntmps14
  go_wp2_with (go_at_call 24; refine HAS.out.mono ?_; rintro e w1 ⟨rfl, hk, hq⟩; have HK := Lib.hid hk; have HQ := Lib.hid hq; clear hk hq)
  (try go_ret)
  rw [← HEND.out]
  exact ⟨rfl, (Keeps.of_ext HX.out).trans HK.out (fun _ h => .inl h), HQ.out⟩

set_option maxHeartbeats 4000000 in
set_option maxRecDepth 20000 in
theorem errAs_pg_c (r : Option (Int × Int)) (E : Er) (v : Value) (tb : Nat) (w : World) (hv : ErIs w E v) (hr : E.pg = r) (hg : Glob w) (ht : w.cell? ⟨tb, 0, none⟩ = some (.pointer none)) (hf : w.frozen? ⟨tb, 0, none⟩ = false) :
    Calls Tryd.prog 14 #[v, .iface 42 (.pointer (some ⟨tb, 0, none⟩))] w (EndAs_pg r tb w) := by
  have htb : tb < w.heap.size := cell_lt ht
  have hx2 : Ext w ((w.alloc (.cells #[.pointer (some ⟨tb, 0, none⟩)] 42)).alloc (.cells #[.pointer (some ⟨4, 42, none⟩), .pointer (some ⟨w.heap.size, 0, none⟩), .int .u64 150] 56)) := ((Ext.refl w).alloc _).alloc _
  have HAS := Lib.hid (as_pg_c E v tb w.heap.size ((w.alloc (.cells #[.pointer (some ⟨tb, 0, none⟩)] 42)).alloc (.cells #[.pointer (some ⟨4, 42, none⟩), .pointer (some ⟨w.heap.size, 0, none⟩), .int .u64 150] 56)) (hv.ext hx2) (((Ext.refl (w.alloc (.cells #[.pointer (some ⟨tb, 0, none⟩)] 42))).alloc _).someCell (by simp)) (hx2.someCell ht) (by rw [hx2.frozen _ _ htb]; exact hf))
  rw [hr] at HAS
  obtain ⟨t, x, rfl⟩ := hv.form
  have hg2 := hx2.someCell hg
  have nil8 := er_isNil_pg ⟨w.heap.size, 0, none⟩ ⟨tb, 0, none⟩ ((w.alloc (.cells #[.pointer (some ⟨tb, 0, none⟩)] 42)).alloc (.cells #[.pointer (some ⟨4, 42, none⟩), .pointer (some ⟨w.heap.size, 0, none⟩), .int .u64 150] 56)) (((Ext.refl (w.alloc (.cells #[.pointer (some ⟨tb, 0, none⟩)] 42))).alloc _).someCell (by simp))
  unfold Glob at hg
  have xValueOf := @run_callFunc_extern Tryd.prog 21 _ (fun args => ReflectliteValue.unpack (args.getD 0 (.tuple #[]))) Tryd.func21 (by kernel_rfl) (by kernel_rfl) (by kernel_rfl) (by kernel_rfl)
  have xType := @run_callFunc_extern Tryd.prog 22 _ (ReflectliteValue.methodAny (ReflectliteValue.valueError "reflectlite.Value.Type" 0) (fun t _ _ _ => ReflectliteType.toType t)) Tryd.func22 (by kernel_rfl) (by kernel_rfl) (by kernel_rfl) (by kernel_rfl)
  have xKind := @run_callFunc_extern Tryd.prog 56 _ (ReflectliteType.abiMethod fun t => do pure (.int .u8 (← Rtype.kind t))) Tryd.func56 (by kernel_rfl) (by kernel_rfl) (by kernel_rfl) (by kernel_rfl)
  have xIsNil := @run_callFunc_extern Tryd.prog 23 _ (ReflectliteValue.method (ReflectliteValue.valueError "reflectlite.Value.IsNil" 0) ReflectliteValue.isNil) Tryd.func23 (by kernel_rfl) (by kernel_rfl) (by kernel_rfl) (by kernel_rfl)
  have xTElem := @run_callFunc_extern Tryd.prog 68 _ (ReflectliteType.method ReflectliteType.elem) Tryd.func68 (by kernel_rfl) (by kernel_rfl) (by kernel_rfl) (by kernel_rfl)
  have xImplements := @run_callFunc_extern Tryd.prog 69 _ (ReflectliteType.relation "Implements" ReflectliteType.implements_) Tryd.func69 (by kernel_rfl) (by kernel_rfl) (by kernel_rfl) (by kernel_rfl)
  have vP := er_valueOfP_pg
  have tP := er_typeP_pg
  have mK := er_mKind
  have mE := er_mElem
  have mI := er_mImplements
  have kP := er_kindP_pg
  have kE := er_kindE_pg
  have eT := er_elemT_pg
  have iT := er_impl_pg
  have HX := Lib.hid hx2
  clear hv hr hx2
  generalize hEnd : EndAs_pg r tb w = EE
  have HEND := Aside.mk hEnd
  clear hEnd
  go_enter Tryd.func14, Tryd.ntmps14
  go_wp2_with (go_at_call 24; refine HAS.out.mono ?_; rintro e w1 ⟨rfl, hk, hq⟩; have HK := Lib.hid hk; have HQ := Lib.hid hq; clear hk hq)
  (try go_ret)
  rw [← HEND.out]
  exact ⟨rfl, (Keeps.of_ext HX.out).trans HK.out (fun _ h => .inl h), HQ.out⟩

/-! ### package fault -/
def EndErr (E : Er) (w : World) (e : Ending) (w' : World) : Prop := ∃ v, e = .returned v ∧ ErIs w' E v ∧ Ext w w'
theorem at_c (x c : Int) (w : World) : Calls Tryd.prog 6 #[.int .u64 x, .int .i64 c] w (EndErr (.page x c) w) := by
  generalize hEnd : EndErr (.page x c) w = EE
  have HEND := Aside.mk hEnd
  clear hEnd
  go_enter Tryd.func6, Tryd.ntmps6
  go_wp2
  (try go_ret)
  rw [← HEND.out]
  exact ⟨_, rfl, ⟨w.heap.size, rfl, by simp, by simp⟩, (Ext.refl w).alloc _⟩
theorem wrap_c (y : ByteArray) (E : Er) (v : Value) (w : World) (hv : ErIs w E v) : Calls Tryd.prog 11 #[.string y, v] w (EndErr (.ahead y E) w) := by
  have HV := Lib.hid hv
  obtain ⟨t, x, rfl⟩ := hv.form
  clear hv
  generalize hEnd : EndErr (.ahead y E) w = EE
  have HEND := Aside.mk hEnd
  clear hEnd
  go_enter Tryd.func11, Tryd.ntmps11
  go_wp2
  (try go_ret)
  rw [← HEND.out]
  exact ⟨_, rfl, ⟨w.heap.size, _, rfl, by simp, by simp, HV.out.ext ((Ext.refl w).alloc _)⟩, (Ext.refl w).alloc _⟩
theorem wrapNil_c (y : ByteArray) (w : World) : Calls Tryd.prog 11 #[.string y, .nilIface] w fun e w' => e = .returned .nilIface ∧ w' = w := by
  go_enter Tryd.func11, Tryd.ntmps11
  go_wp2
  go_ret
  exact ⟨rfl, rfl⟩
theorem gp_c (y : ByteArray) (w : World) : Calls Tryd.prog 13 #[.string y] w (EndErr (.ahead y (.no 5)) w) := by
  have HW := Lib.hid (fun w => wrap_c y (.no 5) (.iface 33 (.int .i64 5)) w rfl)
  go_enter Tryd.func13, Tryd.ntmps13
  go_wp2_with (go_at_call 11; refine (HW.out _).mono ?_; rintro e w1 ⟨v, rfl, h1, h2⟩; have H1 := Lib.hid h1; have H2 := Lib.hid h2; clear h1 h2)
  go_ret
  exact ⟨_, rfl, H1.out, H2.out⟩
theorem kindNil_c (w : World) : Calls Tryd.prog 12 #[.nilIface] w fun e w' => e = .returned (.int .i64 0) ∧ Ext w w' := by
  go_enter Tryd.func12, Tryd.ntmps12
  go_wp2
  go_ret
  exact ⟨rfl, (by repeat (first | exact Ext.refl _ | assumption | refine Ext.alloc ?_ _ | refine Ext.drew ?_ | refine Ext.setCell ?_ (by first | (simp; done) | (dsimp only; omega)) _ | refine Ext.trans ?_ (by assumption)))⟩
theorem kind_c (k : Int) (E : Er) (v : Value) (w : World) (hv : ErIs w E v) (hg : Glob w) (hk : E.num.getD 1 = k) :
    Calls Tryd.prog 12 #[v] w fun e w' => e = .returned (.int .i64 k) ∧ Ext w w' := by
  have hx : Ext w (w.alloc (.cells #[.int .i64 0] 33)) := (Ext.refl w).alloc _
  obtain ⟨r, hr⟩ : ∃ r, E.num = r := ⟨_, rfl⟩
  have HAS := Lib.hid (errAs_no_c r E v w.heap.size (w.alloc (.cells #[.int .i64 0] 33)) (hv.ext hx) hr (hg.ext hx) (by simp) (by simp))
  obtain ⟨t, x, rfl⟩ := hv.form
  rw [hr] at hk
  clear hv hr hg
  have HX := Lib.hid hx
  clear hx
  cases r with
  | none =>
    simp at hk
    subst hk
    go_enter Tryd.func12, Tryd.ntmps12
    go_wp2_with (go_at_call 14; refine HAS.out.mono ?_; rintro e w1 ⟨rfl, hk, hq⟩; have HK := Lib.hid hk; clear hk hq; simp only [Option.isSome])
    go_ret
    exact ⟨rfl, Keeps.to_ext HX.out HK.out (by simp)⟩
  | some n =>
    simp at hk
    subst hk
    go_enter Tryd.func12, Tryd.ntmps12
    go_wp2_with (go_at_call 14; refine HAS.out.mono ?_; rintro e w1 ⟨rfl, hk, hq⟩; have HK := Lib.hid hk; have hc := hq _ rfl; clear hk hq; simp only [Option.isSome])
    go_ret
    exact ⟨rfl, Keeps.to_ext HX.out HK.out (by simp)⟩


set_option maxHeartbeats 1000000 in
/-- No page fault's number in the chain. -/
theorem faultOf_no (E : Er) (v : Value) (w : World) (hv : ErIs w E v) (hn : (E.num == some 4) = false) :
    Calls Tryd.prog 5 #[v] w fun e w' => e = .returned (.tuple #[.agg #[.int .u64 0, .int .i64 0], .bool false]) ∧ Ext w w' := by
  have HI := Lib.hid (fun w' (k : Ext w w') => errIs_c 4 false E v w' (hv.ext k) hn)
  obtain ⟨t, x, rfl⟩ := hv.form
  clear hv hn
  go_enter Tryd.func5, Tryd.ntmps5
  go_wp2_with (go_at_call 7; refine (HI.out _ (by repeat (first | exact Ext.refl _ | assumption | refine Ext.alloc ?_ _ | refine Ext.drew ?_ | refine Ext.setCell ?_ (by first | (simp; done) | (dsimp only; omega)) _ | refine Ext.trans ?_ (by assumption)))).mono ?_; rintro e w1 ⟨rfl, rfl⟩)
  refine bodyPost_ret (by simp [results, Tryd.results5, go_sem, ↓IntWalk.iteOmega, *]; try rfl) rfl ⟨rfl, (by repeat (first | exact Ext.refl _ | assumption | refine Ext.alloc ?_ _ | refine Ext.drew ?_ | refine Ext.setCell ?_ (by first | (simp; done) | (dsimp only; omega)) _ | refine Ext.trans ?_ (by assumption)))⟩
set_option maxHeartbeats 1000000 in
theorem faultOf_nil (w : World) :
    Calls Tryd.prog 5 #[.nilIface] w fun e w' => e = .returned (.tuple #[.agg #[.int .u64 0, .int .i64 0], .bool false]) ∧ Ext w w' := by
  go_enter Tryd.func5, Tryd.ntmps5
  go_wp2_with (go_at_call 7; refine (errIsNil_c 4 _).mono ?_; rintro e w1 ⟨rfl, rfl⟩)
  refine bodyPost_ret (by simp [results, Tryd.results5, go_sem, ↓IntWalk.iteOmega, *]; try rfl) rfl ⟨rfl, (by repeat (first | exact Ext.refl _ | assumption | refine Ext.alloc ?_ _ | refine Ext.drew ?_ | refine Ext.setCell ?_ (by first | (simp; done) | (dsimp only; omega)) _ | refine Ext.trans ?_ (by assumption)))⟩
set_option maxHeartbeats 2000000 in
set_option maxRecDepth 20000 in
theorem faultOf_pg (x c : Int) (E : Er) (v : Value) (w : World) (hv : ErIs w E v) (hg : Glob w) (hp : E.pg = some (x, c)) (hn : (E.num == some 4) = true) :
    Calls Tryd.prog 5 #[v] w fun e w' => e = .returned (.tuple #[.agg #[.int .u64 x, .int .i64 c], .bool true]) ∧ Ext w w' := by
  have HI := Lib.hid (fun w' (k : Ext w w') => errIs_c 4 true E v w' (hv.ext k) hn)
  have HAS := Lib.hid (fun tb w' (k : Ext w w') => errAs_pg_c (some (x, c)) E v tb w' (hv.ext k) hp (hg.ext k))
  obtain ⟨t, z, rfl⟩ := hv.form
  clear hv hn hp hg
  go_enter Tryd.func5, Tryd.ntmps5
  go_wp2_with (first | (go_at_call 7; refine (HI.out _ (by repeat (first | exact Ext.refl _ | assumption | refine Ext.alloc ?_ _ | refine Ext.drew ?_ | refine Ext.setCell ?_ (by first | (simp; done) | (dsimp only; omega)) _ | refine Ext.trans ?_ (by assumption)))).mono ?_; rintro e w1 ⟨rfl, rfl⟩) | (go_at_call 14; refine (HAS.out _ _ (by repeat (first | exact Ext.refl _ | assumption | refine Ext.alloc ?_ _ | refine Ext.drew ?_ | refine Ext.setCell ?_ (by first | (simp; done) | (dsimp only; omega)) _ | refine Ext.trans ?_ (by assumption))) (by simp [alloc_cell, objCell_cells]) (by simp [alloc_frozen, objFrozen_cells])).mono ?_; rintro e w2 ⟨rfl, hk, hq⟩; obtain ⟨b, c0, c1, c3, c4⟩ := hq _ rfl; have e0 : w2.cell? ⟨w.heap.size, 0, none⟩ = some (.int .u64 0) := (keeps_cell hk (by simp) (by simp only [World.size_alloc]; omega)).trans (by simp [alloc_cell, objCell_cells]); have e1 : w2.cell? ⟨w.heap.size, 1, none⟩ = some (.int .i64 0) := (keeps_cell hk (by simp) (by simp only [World.size_alloc]; omega)).trans (by simp [alloc_cell, objCell_cells]); have f0 : w2.frozen? ⟨w.heap.size, 0, none⟩ = false := (keeps_frozen hk (by simp) (by simp only [World.size_alloc]; omega)).trans (by simp [alloc_frozen, objFrozen_cells]); have f1 : w2.frozen? ⟨w.heap.size, 1, none⟩ = false := (keeps_frozen hk (by simp) (by simp only [World.size_alloc]; omega)).trans (by simp [alloc_frozen, objFrozen_cells]); have HK := Lib.hid hk; clear hk hq; simp only [Option.isSome]))
  refine bodyPost_ret (by simp [results, Tryd.results5, go_sem, ↓IntWalk.iteOmega, *]; try rfl) rfl ⟨by simp, ?_⟩
  have hx2 : Ext w w2 := Keeps.to_ext ((Ext.refl w).alloc _ |>.alloc _) HK.out (by simp)
  exact (by repeat (first | exact Ext.refl _ | assumption | refine Ext.alloc ?_ _ | refine Ext.drew ?_ | refine Ext.setCell ?_ (by first | (simp; done) | (dsimp only; omega)) _ | refine Ext.trans ?_ (by assumption)))
end Go.Proofs.YtaobmiphnpkoiaaDoor
