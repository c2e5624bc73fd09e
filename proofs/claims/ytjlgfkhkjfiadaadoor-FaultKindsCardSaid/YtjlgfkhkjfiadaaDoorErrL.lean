/- errors.As, fault.Of, fault.Kind at two that are joined. Printed from XErrC. -/
import Derived.Test.YtjlgfkhkjfiadaaDoorErrK
namespace Go.Proofs.YtjlgfkhkjfiadaaDoor
open Go.Extern.Stop Go.Stop Go.Extern
set_option linter.unusedVariables false
set_option linter.unusedSimpArgs false
open Go.RowKit
attribute [local go_sem] wext_cell wext_frozen wext_heap alloc_cell alloc_frozen alloc_heap setCell_cell objCell_cells objFrozen_cells

set_option maxHeartbeats 4000000 in
set_option maxRecDepth 20000 in
theorem errAsJo_no_c (n : Int) (E E2 : Er) (v : Value) (tb : Nat) (w : World) (hv : JoE E E2 w v) (hr : E.num = some n) (hg : Glob w) (ht : w.cell? ⟨tb, 0, none⟩ = some (.int .i64 0)) (hf : w.frozen? ⟨tb, 0, none⟩ = false) :
    Calls Tryd.prog 28 #[v, .iface 65 (.pointer (some ⟨tb, 0, none⟩))] w (EndAs_no (some n) tb w) := by
  have htb : tb < w.heap.size := cell_lt ht
  have hx2 : Ext w ((w.alloc (.cells #[.pointer (some ⟨tb, 0, none⟩)] 65)).alloc (.cells #[.pointer (some ⟨4, 65, none⟩), .pointer (some ⟨w.heap.size, 0, none⟩), .int .u64 150] 87)) := ((Ext.refl w).alloc _).alloc _
  have HAS := Lib.hid (asJo_no_c E E2 n v tb w.heap.size ((w.alloc (.cells #[.pointer (some ⟨tb, 0, none⟩)] 65)).alloc (.cells #[.pointer (some ⟨4, 65, none⟩), .pointer (some ⟨w.heap.size, 0, none⟩), .int .u64 150] 87)) hr (hv.ext hx2) (((Ext.refl (w.alloc (.cells #[.pointer (some ⟨tb, 0, none⟩)] 65))).alloc _).someCell (by simp)) (hx2.someCell ht) (by rw [hx2.frozen _ _ htb]; exact hf))
  obtain ⟨b, g, cc, t1, x1, t2, x2, rfl, -, -, -, -, -⟩ := hv.parts
  have hg2 := hx2.someCell hg
  have nil8 := er_isNil_no ⟨w.heap.size, 0, none⟩ ⟨tb, 0, none⟩ ((w.alloc (.cells #[.pointer (some ⟨tb, 0, none⟩)] 65)).alloc (.cells #[.pointer (some ⟨4, 65, none⟩), .pointer (some ⟨w.heap.size, 0, none⟩), .int .u64 150] 87)) (((Ext.refl (w.alloc (.cells #[.pointer (some ⟨tb, 0, none⟩)] 65))).alloc _).someCell (by simp))
  unfold Glob at hg
  have xValueOf := @run_callFunc_extern Tryd.prog 39 _ (fun args => ReflectliteValue.unpack (args.getD 0 (.tuple #[]))) Tryd.func39 (by kernel_rfl) (by kernel_rfl) (by kernel_rfl) (by kernel_rfl)
  have xType := @run_callFunc_extern Tryd.prog 40 _ (ReflectliteValue.methodAny (ReflectliteValue.valueError "reflectlite.Value.Type" 0) (fun t _ _ _ => ReflectliteType.toType t)) Tryd.func40 (by kernel_rfl) (by kernel_rfl) (by kernel_rfl) (by kernel_rfl)
  have xKind := @run_callFunc_extern Tryd.prog 84 _ (ReflectliteType.abiMethod fun t => do pure (.int .u8 (← Rtype.kind t))) Tryd.func84 (by kernel_rfl) (by kernel_rfl) (by kernel_rfl) (by kernel_rfl)
  have xIsNil := @run_callFunc_extern Tryd.prog 41 _ (ReflectliteValue.method (ReflectliteValue.valueError "reflectlite.Value.IsNil" 0) ReflectliteValue.isNil) Tryd.func41 (by kernel_rfl) (by kernel_rfl) (by kernel_rfl) (by kernel_rfl)
  have xTElem := @run_callFunc_extern Tryd.prog 99 _ (ReflectliteType.method ReflectliteType.elem) Tryd.func99 (by kernel_rfl) (by kernel_rfl) (by kernel_rfl) (by kernel_rfl)
  have xImplements := @run_callFunc_extern Tryd.prog 100 _ (ReflectliteType.relation "Implements" ReflectliteType.implements_) Tryd.func100 (by kernel_rfl) (by kernel_rfl) (by kernel_rfl) (by kernel_rfl)
  have vP := er_valueOfP_no
  have tP := er_typeP_no
  have mK := er_mKind
  have mE := er_mElem
  have mI := er_mImplements
  have kP := er_kindP_no
  have kE := er_kindE_no
  have eT := er_elemT_no
  have iT := er_impl_no
  have HX := Lib.hid hx2
  clear hv hr hx2
  generalize hEnd : EndAs_no (some n) tb w = EE
  have HEND := Aside.mk hEnd
  clear hEnd
  go_enter Tryd.func28, Tryd.ntmps28
  go_wp2_with (go_at_call 42; refine HAS.out.mono ?_; rintro e w1 ⟨rfl, hk, hq⟩; have HK := Lib.hid hk; have HQ := Lib.hid hq; clear hk hq)
  (try go_ret)
  rw [← HEND.out]
  exact ⟨rfl, (Keeps.of_ext HX.out).trans HK.out (fun _ h => .inl h), HQ.out⟩

set_option maxHeartbeats 4000000 in
set_option maxRecDepth 20000 in
theorem errAsJo_pg_c (x c : Int) (E E2 : Er) (v : Value) (tb : Nat) (w : World) (hv : JoE E E2 w v) (hr1 : E.pg = none) (hr : E2.pg = some (x, c)) (hg : Glob w) (ht : w.cell? ⟨tb, 0, none⟩ = some (.pointer none)) (hf : w.frozen? ⟨tb, 0, none⟩ = false) :
    Calls Tryd.prog 28 #[v, .iface 64 (.pointer (some ⟨tb, 0, none⟩))] w (EndAs_pg (some (x, c)) tb w) := by
  have htb : tb < w.heap.size := cell_lt ht
  have hx2 : Ext w ((w.alloc (.cells #[.pointer (some ⟨tb, 0, none⟩)] 64)).alloc (.cells #[.pointer (some ⟨4, 64, none⟩), .pointer (some ⟨w.heap.size, 0, none⟩), .int .u64 150] 87)) := ((Ext.refl w).alloc _).alloc _
  have HAS := Lib.hid (asJo_pg_c E E2 x c v tb w.heap.size ((w.alloc (.cells #[.pointer (some ⟨tb, 0, none⟩)] 64)).alloc (.cells #[.pointer (some ⟨4, 64, none⟩), .pointer (some ⟨w.heap.size, 0, none⟩), .int .u64 150] 87)) hr1 hr (hv.ext hx2) (((Ext.refl (w.alloc (.cells #[.pointer (some ⟨tb, 0, none⟩)] 64))).alloc _).someCell (by simp)) (hx2.someCell ht) (by rw [hx2.frozen _ _ htb]; exact hf))
  obtain ⟨b, g, cc, t1, x1, t2, x2, rfl, -, -, -, -, -⟩ := hv.parts
  have hg2 := hx2.someCell hg
  have nil8 := er_isNil_pg ⟨w.heap.size, 0, none⟩ ⟨tb, 0, none⟩ ((w.alloc (.cells #[.pointer (some ⟨tb, 0, none⟩)] 64)).alloc (.cells #[.pointer (some ⟨4, 64, none⟩), .pointer (some ⟨w.heap.size, 0, none⟩), .int .u64 150] 87)) (((Ext.refl (w.alloc (.cells #[.pointer (some ⟨tb, 0, none⟩)] 64))).alloc _).someCell (by simp))
  unfold Glob at hg
  have xValueOf := @run_callFunc_extern Tryd.prog 39 _ (fun args => ReflectliteValue.unpack (args.getD 0 (.tuple #[]))) Tryd.func39 (by kernel_rfl) (by kernel_rfl) (by kernel_rfl) (by kernel_rfl)
  have xType := @run_callFunc_extern Tryd.prog 40 _ (ReflectliteValue.methodAny (ReflectliteValue.valueError "reflectlite.Value.Type" 0) (fun t _ _ _ => ReflectliteType.toType t)) Tryd.func40 (by kernel_rfl) (by kernel_rfl) (by kernel_rfl) (by kernel_rfl)
  have xKind := @run_callFunc_extern Tryd.prog 84 _ (ReflectliteType.abiMethod fun t => do pure (.int .u8 (← Rtype.kind t))) Tryd.func84 (by kernel_rfl) (by kernel_rfl) (by kernel_rfl) (by kernel_rfl)
  have xIsNil := @run_callFunc_extern Tryd.prog 41 _ (ReflectliteValue.method (ReflectliteValue.valueError "reflectlite.Value.IsNil" 0) ReflectliteValue.isNil) Tryd.func41 (by kernel_rfl) (by kernel_rfl) (by kernel_rfl) (by kernel_rfl)
  have xTElem := @run_callFunc_extern Tryd.prog 99 _ (ReflectliteType.method ReflectliteType.elem) Tryd.func99 (by kernel_rfl) (by kernel_rfl) (by kernel_rfl) (by kernel_rfl)
  have xImplements := @run_callFunc_extern Tryd.prog 100 _ (ReflectliteType.relation "Implements" ReflectliteType.implements_) Tryd.func100 (by kernel_rfl) (by kernel_rfl) (by kernel_rfl) (by kernel_rfl)
  have vP := er_valueOfP_pg
  have tP := er_typeP_pg
  have mK := er_mKind
  have mE := er_mElem
  have mI := er_mImplements
  have kP := er_kindP_pg
  have kE := er_kindE_pg
  have eT := er_elemT_pg
  have iT := er_impl_pg
  have HX := Lib.hid hx2
  clear hv hr hr1 hx2
  generalize hEnd : EndAs_pg (some (x, c)) tb w = EE
  have HEND := Aside.mk hEnd
  clear hEnd
  go_enter Tryd.func28, Tryd.ntmps28
  go_wp2_with (go_at_call 42; refine HAS.out.mono ?_; rintro e w1 ⟨rfl, hk, hq⟩; have HK := Lib.hid hk; have HQ := Lib.hid hq; clear hk hq)
  (try go_ret)
  rw [← HEND.out]
  exact ⟨rfl, (Keeps.of_ext HX.out).trans HK.out (fun _ h => .inl h), HQ.out⟩

theorem kindJo_c (n : Int) (E E2 : Er) (v : Value) (w : World) (hv : JoE E E2 w v) (hg : Glob w) (hk : E.num = some n) :
    Calls Tryd.prog 15 #[v] w fun e w' => e = .returned (.int .i64 n) ∧ Ext w w' := by
  have hx : Ext w (w.alloc (.cells #[.int .i64 0] 33)) := (Ext.refl w).alloc _
  have HAS := Lib.hid (errAsJo_no_c n E E2 v w.heap.size (w.alloc (.cells #[.int .i64 0] 33)) (hv.ext hx) hk (hg.ext hx) (by simp) (by simp))
  obtain ⟨b, g, cc, t1, x1, t2, x2, rfl, -, -, -, -, -⟩ := hv.parts
  clear hv hk hg
  have HX := Lib.hid hx
  clear hx
  go_enter Tryd.func15, Tryd.ntmps15
  go_wp2_with (go_at_call 28; refine HAS.out.mono ?_; rintro e w1 ⟨rfl, hk, hq⟩; have HK := Lib.hid hk; have hc := hq _ rfl; clear hk hq; simp only [Option.isSome])
  go_ret
  exact ⟨rfl, Keeps.to_ext HX.out HK.out (by simp)⟩

set_option maxHeartbeats 2000000 in
set_option maxRecDepth 20000 in
theorem faultOfJo_pg (x c : Int) (E E2 : Er) (v : Value) (w : World) (hv : JoE E E2 w v) (hg : Glob w) (hp1 : E.pg = none) (hp : E2.pg = some (x, c)) (hn : (E.num == some 4 || E2.num == some 4) = true) :
    Calls Tryd.prog 14 #[v] w fun e w' => e = .returned (.tuple #[.agg #[.int .u64 x, .int .i64 c], .bool true]) ∧ Ext w w' := by
  have HI := Lib.hid (fun w' (k : Ext w w') => errIsJo_c 4 true E E2 v w' (hv.ext k) hn)
  have HAS := Lib.hid (fun tb w' (k : Ext w w') => errAsJo_pg_c x c E E2 v tb w' (hv.ext k) hp1 hp (hg.ext k))
  obtain ⟨b0, g, cc, t1, x1, t2, x2, rfl, -, -, -, -, -⟩ := hv.parts
  clear hv hn hp hp1 hg
  go_enter Tryd.func14, Tryd.ntmps14
  go_wp2_with (first | (go_at_call 16; refine (HI.out _ (by repeat (first | exact Ext.refl _ | assumption | refine Ext.alloc ?_ _ | refine Ext.drew ?_ | refine Ext.setCell ?_ (by first | (simp; done) | (dsimp only; omega)) _ | refine Ext.trans ?_ (by assumption)))).mono ?_; rintro e w1 ⟨rfl, rfl⟩) | (go_at_call 28; refine (HAS.out _ _ (by repeat (first | exact Ext.refl _ | assumption | refine Ext.alloc ?_ _ | refine Ext.drew ?_ | refine Ext.setCell ?_ (by first | (simp; done) | (dsimp only; omega)) _ | refine Ext.trans ?_ (by assumption))) (by simp [alloc_cell, objCell_cells]) (by simp [alloc_frozen, objFrozen_cells])).mono ?_; rintro e w2 ⟨rfl, hk, hq⟩; obtain ⟨b, c0, c1, c3, c4⟩ := hq _ rfl; have e0 : w2.cell? ⟨w.heap.size, 0, none⟩ = some (.int .u64 0) := (keeps_cell hk (by simp) (by simp only [World.size_alloc]; omega)).trans (by simp [alloc_cell, objCell_cells]); have e1 : w2.cell? ⟨w.heap.size, 1, none⟩ = some (.int .i64 0) := (keeps_cell hk (by simp) (by simp only [World.size_alloc]; omega)).trans (by simp [alloc_cell, objCell_cells]); have f0 : w2.frozen? ⟨w.heap.size, 0, none⟩ = false := (keeps_frozen hk (by simp) (by simp only [World.size_alloc]; omega)).trans (by simp [alloc_frozen, objFrozen_cells]); have f1 : w2.frozen? ⟨w.heap.size, 1, none⟩ = false := (keeps_frozen hk (by simp) (by simp only [World.size_alloc]; omega)).trans (by simp [alloc_frozen, objFrozen_cells]); have HK := Lib.hid hk; clear hk hq; simp only [Option.isSome]))
  refine bodyPost_ret (by simp [results, Tryd.results14, go_sem, ↓IntWalk.iteOmega, *]; try rfl) rfl ⟨by simp, ?_⟩
  have hx2 : Ext w w2 := Keeps.to_ext ((Ext.refl w).alloc _ |>.alloc _) HK.out (by simp)
  exact (by repeat (first | exact Ext.refl _ | assumption | refine Ext.alloc ?_ _ | refine Ext.drew ?_ | refine Ext.setCell ?_ (by first | (simp; done) | (dsimp only; omega)) _ | refine Ext.trans ?_ (by assumption)))
end Go.Proofs.YtjlgfkhkjfiadaaDoor
