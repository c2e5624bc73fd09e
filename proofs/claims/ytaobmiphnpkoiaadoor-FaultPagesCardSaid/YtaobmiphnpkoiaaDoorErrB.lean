/- Chains of errors, and errors.Is, errors.As over them. Printed by mkerrb.py. -/
import Derived.Test.YtaobmiphnpkoiaaDoorErrA
import Derived.Test.YtaobmiphnpkoiaaDoorOwn
namespace Go.Proofs.YtaobmiphnpkoiaaDoor
open Go.Extern.Stop Go.Stop Go.Extern
set_option linter.unusedVariables false
set_option linter.unusedSimpArgs false
open Go.RowKit
attribute [local go_sem] wext_cell wext_frozen wext_heap alloc_cell alloc_frozen alloc_heap setCell_cell objCell_cells objFrozen_cells

/-- An error's form: a number, a page fault, words ahead of another one, or a new one. -/
inductive Er where
  | no (n : Int)
  | page (x c : Int)
  | ahead (y : ByteArray) (e : Er)
  | new
def ErIs (w : World) : Er → Value → Prop
  | .no n, v => v = .iface 33 (.int .i64 n)
  | .page x c, v => ∃ b, v = .iface 40 (.pointer (some ⟨b, 0, none⟩)) ∧ w.cell? ⟨b, 0, none⟩ = some (.int .u64 x) ∧ w.cell? ⟨b, 1, none⟩ = some (.int .i64 c)
  | .ahead y e, v => ∃ b u, v = .iface 49 (.pointer (some ⟨b, 0, none⟩)) ∧ w.cell? ⟨b, 0, none⟩ = some (.string y) ∧ w.cell? ⟨b, 1, none⟩ = some u ∧ ErIs w e u
  | .new, v =>
    v ≠ v
def Er.deep : Er → Nat
  | .ahead _ e => e.deep + 1
  | .page _ _ => 1
  | _ => 0
/-- The first number in a chain. -/
def Er.num : Er → Option Int
  | .no n => some n
  | .page _ _ => some 4
  | .ahead _ e => e.num
  | .new => none
/-- The first page fault. -/
def Er.pg : Er → Option (Int × Int)
  | .page x c => some (x, c)
  | .ahead _ e => e.pg
  | _ => none

theorem ErIs.ext {w w' : World} (k : Ext w w') : ∀ {E : Er} {v : Value}, ErIs w E v → ErIs w' E v
  | .no _, _, h => h
  | .page _ _, _, ⟨b, h1, h2, h3⟩ => ⟨b, h1, k.someCell h2, k.someCell h3⟩
  | .ahead _ _, _, ⟨b, u, h1, h2, h3, h4⟩ => ⟨b, u, h1, k.someCell h2, k.someCell h3, ErIs.ext k h4⟩
  | .new, _, h => h
theorem ErIs.form {w : World} {E : Er} {v : Value} (h : ErIs w E v) : ∃ t x, v = .iface t x := by
  cases E
  · exact ⟨_, _, h⟩
  · obtain ⟨b, h1, -⟩ := h; exact ⟨_, _, h1⟩
  · obtain ⟨b, u, h1, -⟩ := h; exact ⟨_, _, h1⟩
  · exact absurd rfl h

/-- '==' between two errors that are numbers of api.Errno. -/
theorem er_eql_in (d : Nat) (a b : Int) (w : World) : (Op.equalIn (d + 2) 29 (.iface 33 (.int .i64 a)) (.iface 33 (.int .i64 b))).run Tryd.prog w = .ok (a == b) w := by
  obtain ⟨i, hi, hc⟩ := Option.map_eq_some_iff.1 (show (Tryd.prog.info? 33).map (·.comparable) = some true by kernel_rfl)
  simp [Op.equalIn, run_underlying Tryd.underlying29, run_underlying Tryd.underlying33, typeInfo, hi, hc]
theorem er_eql (a b : Int) (w : World) : (binOp .eql 29 (.iface 33 (.int .i64 a)) (.iface 33 (.int .i64 b))).run Tryd.prog w = .ok (.bool (a == b)) w := by
  simp only [binOp]
  simp [Op.equal, Op.maxDepth, er_eql_in 9998 a b w]

/-! ### Unwrap -/
theorem pageUnwrap_c (b : Nat) (w : World) : Calls Tryd.prog 8 #[.pointer (some ⟨b, 0, none⟩)] w fun e w' => e = .returned (.iface 33 (.int .i64 4)) ∧ w' = w := by
  go_enter Tryd.func8, Tryd.ntmps8
  go_wp2
  go_ret
  exact ⟨rfl, rfl⟩
theorem aheadUnwrap_c (b : Nat) (u : Value) (w : World) (h : w.cell? ⟨b, 1, none⟩ = some u) : Calls Tryd.prog 61 #[.pointer (some ⟨b, 0, none⟩)] w fun e w' => e = .returned u ∧ w' = w := by
  go_enter Tryd.func61, Tryd.ntmps61
  go_wp2
  go_ret
  exact ⟨rfl, rfl⟩

/-! ### errors.is -/
set_option maxHeartbeats 4000000 in
set_option maxRecDepth 20000 in
theorem erIs_c (m : Int) (E : Er) (v : Value) (w : World) (hv : ErIs w E v) :
    Calls Tryd.prog 16 #[v, .iface 33 (.int .i64 m), .bool true] w fun e w' => e = .returned (.bool (E.num == some m)) ∧ w' = w := by
  have hf : ∃ r, E.num = r := ⟨_, rfl⟩
  obtain ⟨r, hr⟩ := hf
  have hr0 := Aside.mk hr
  have HV := Lib.hid hv
  have eq1 := er_eql
  have ni0 := er_no_is_no
  have ni1 := er_no_is_pg
  have ni2 := er_no_is_ah
  have nu0 := er_no_un_no
  have nu1 := er_has_un_pg
  have nu2 := er_has_un_ah
  have ns0 := er_no_us_no
  have mu1 := er_unwrap_pg
  have mu2 := er_unwrap_ah
  have t1 : ∀ (a b : Value) (w : World), (binOp .eql 29 (.iface 40 a) (.iface 33 b)).run Tryd.prog w = .ok (.bool false) w := fun a b w => run_eql_iface_types (P := Tryd.prog) _ _ a b Tryd.underlying29 (by decide) w
  have t2 : ∀ (a b : Value) (w : World), (binOp .eql 29 (.iface 49 a) (.iface 33 b)).run Tryd.prog w = .ok (.bool false) w := fun a b w => run_eql_iface_types (P := Tryd.prog) _ _ a b Tryd.underlying29 (by decide) w
  clear hr hv
  generalize hq : (E.num == some m) = q
  have HQ : Aside ((r == some m) = q) := by (rw [← hr0.out]; exact Aside.mk hq)
  clear hq
  go_enter Tryd.func16, Tryd.ntmps16
  go_wp2
  go_loopg [0] (E.deep + 1) (fun k x wr => ∃ E', k = Er.deep E' + 1 ∧ Hid (ErIs w E' x) ∧ Aside (E'.num = r) ∧ wr = w)
  case atStart => exact ⟨E, rfl, HV, hr0, rfl⟩
  case round =>
    obtain ⟨E', hk, hx, hn, rfl⟩ := hrel
    cases E' with
    | no n =>
      have hx' := hx.out
      unfold ErIs at hx'
      subst hx'
      cases hnm : (n == m)
      all_goals
        have hqq : q = (n == m) := by rw [← HQ.out, ← hn.out]; simp [Er.num]
        rw [hnm] at hqq
        subst hqq
        clear HQ hn
        go_wp2
        go_ret
        exact ⟨rfl, rfl⟩
    | page x c =>
      obtain ⟨b, rfl, c0, c1⟩ := hx.out
      have hn' := Aside.mk hn.out
      go_wp2_with (go_at_call 8; refine (pageUnwrap_c _ _).mono ?_; rintro e w1 ⟨rfl, rfl⟩)
      go_roundg 1
      case measure => simp [Er.deep] at hk; omega
      case rel => exact ⟨.no 4, rfl, Lib.hid rfl, Aside.mk hn'.out, rfl⟩
    | ahead y e =>
      obtain ⟨b, u, rfl, c0, c1, c2⟩ := hx.out
      have C2 := Lib.hid c2
      obtain ⟨t, z, rfl⟩ := c2.form
      clear c2 
      go_wp2_with (go_at_call 61; refine (aheadUnwrap_c _ _ _ c1).mono ?_; rintro e w1 ⟨rfl, rfl⟩)
      go_roundg (e.deep + 1)
      case measure => simp [Er.deep] at hk; omega
      case rel => exact ⟨e, rfl, C2, Aside.mk hn.out, rfl⟩
    | new =>
      exact absurd rfl hx.out

theorem cell_lt {w : World} {b o : Nat} {u : Value} (h : w.cell? ⟨b, o, none⟩ = some u) : b < w.heap.size := by
  rcases Nat.lt_or_ge b w.heap.size with k | k
  · exact k
  · simp [World.cell?, Array.getElem?_eq_none k] at h
theorem set_cell {w : World} {b o : Nat} {u x : Value} (h : w.cell? ⟨b, o, none⟩ = some u) : (w.setCell ⟨b, o, none⟩ x).cell? ⟨b, o, none⟩ = some x := by
  rw [setCell_cell]; simp [h]
theorem set_other {w : World} {b b' o o' : Nat} (x : Value) (h : b ≠ b') : (w.setCell ⟨b, o, none⟩ x).cell? ⟨b', o', none⟩ = w.cell? ⟨b', o', none⟩ := by
  rw [setCell_cell]; simp [h]

/-! ### errors.as, errors.As -/
/-- The variable errors.errorType holds what it is laid with. -/
def Glob (w : World) : Prop := w.cell? ⟨0, 0, none⟩ = some (.iface 64 (.agg #[.pointer (some ⟨4, 29, none⟩)]))
theorem Glob.ext {w w' : World} (h : Glob w) (k : Ext w w') : Glob w' := k.someCell h
def EndAs_no (r : Option Int) (tb : Nat) (W : World) (e : Ending) (w' : World) : Prop :=
  e = .returned (.bool r.isSome) ∧ Keeps [tb] W w' ∧ ∀ n, r = some n → w'.cell? ⟨tb, 0, none⟩ = some (.int .i64 n)
def EndAs_pg (r : Option (Int × Int)) (tb : Nat) (W : World) (e : Ending) (w' : World) : Prop :=
  e = .returned (.bool r.isSome) ∧ Keeps [tb] W w' ∧ ∀ q, r = some q → ∃ b, w'.cell? ⟨tb, 0, none⟩ = some (.pointer (some ⟨b, 0, none⟩)) ∧ b ≠ tb ∧ w'.cell? ⟨b, 0, none⟩ = some (.int .u64 q.1) ∧ w'.cell? ⟨b, 1, none⟩ = some (.int .i64 q.2)
theorem EndAs_no.mk {r : Option Int} {tb : Nat} {W w' : World} (ok : Bool) (h : ok = r.isSome) (k : Keeps [tb] W w') (g : ∀ n, r = some n → w'.cell? ⟨tb, 0, none⟩ = some (.int .i64 n)) : EndAs_no r tb W (.returned (.bool ok)) w' := ⟨by rw [h], k, g⟩
theorem EndAs_pg.mk {r : Option (Int × Int)} {tb : Nat} {W w' : World} (ok : Bool) (h : ok = r.isSome) (k : Keeps [tb] W w') (g : ∀ q, r = some q → ∃ b, w'.cell? ⟨tb, 0, none⟩ = some (.pointer (some ⟨b, 0, none⟩)) ∧ b ≠ tb ∧ w'.cell? ⟨b, 0, none⟩ = some (.int .u64 q.1) ∧ w'.cell? ⟨b, 1, none⟩ = some (.int .i64 q.2)) : EndAs_pg r tb W (.returned (.bool ok)) w' := ⟨by rw [h], k, g⟩
theorem keeps_put {w : World} {tb : Nat} {o1 o2 : Obj} (u : Value) : Keeps [tb] w (((w.alloc o1).alloc o2).setCell ⟨tb, 0, none⟩ u) :=
  Keeps.setCell (Keeps.of_ext (((Ext.refl w).alloc o1).alloc o2)) (.inl (by simp)) u

set_option maxHeartbeats 4000000 in
set_option maxRecDepth 20000 in
theorem as_no_c (E : Er) (v : Value) (tb vb : Nat) (w : World) (hv : ErIs w E v) (hb : w.cell? ⟨vb, 0, none⟩ = some (.pointer (some ⟨tb, 0, none⟩))) (ht : w.cell? ⟨tb, 0, none⟩ = some (.int .i64 0)) (hf : w.frozen? ⟨tb, 0, none⟩ = false) :
    Calls Tryd.prog 24 #[v, .iface 52 (.pointer (some ⟨tb, 0, none⟩)), .agg #[.pointer (some ⟨4, 52, none⟩), .pointer (some ⟨vb, 0, none⟩), .int .u64 150], .iface 64 (.agg #[.pointer (some ⟨4, 33, none⟩)])] w (EndAs_no E.num tb w) := by
  have hvb : vb < w.heap.size := cell_lt hb
  have htb : tb < w.heap.size := cell_lt ht
  have hf1 : ∃ r, E.num = r := ⟨_, rfl⟩
  obtain ⟨r, hr⟩ := hf1
  rw [hr]
  have hr0 := Aside.mk hr
  have HV := Lib.hid (hv.ext ((Ext.refl w).alloc (.cells #[.pointer (some ⟨4, 52, none⟩), .pointer (some ⟨vb, 0, none⟩), .int .u64 150] 56)))
  clear hv hr
  generalize hEnd : EndAs_no r tb w = EE
  have HEND := Aside.mk hEnd
  clear hEnd
  generalize hW : w.alloc (.cells #[.pointer (some ⟨4, 52, none⟩), .pointer (some ⟨vb, 0, none⟩), .int .u64 150] 56) = W at HV
  have hWs1 : W.heap.size ≤ w.heap.size + 1 := by rw [← hW]; simp
  have hWs2 : w.heap.size + 1 ≤ W.heap.size := by rw [← hW]; simp
  have hb1 : W.cell? ⟨vb, 0, none⟩ = some (.pointer (some ⟨tb, 0, none⟩)) := by rw [← hW]; exact ((Ext.refl w).alloc _).someCell hb
  have ht1 : W.cell? ⟨tb, 0, none⟩ = some (.int .i64 0) := by rw [← hW]; exact ((Ext.refl w).alloc _).someCell ht
  have hf2 : W.frozen? ⟨tb, 0, none⟩ = false := by rw [← hW, ((Ext.refl w).alloc _).frozen _ _ htb]; exact hf
  have hl1 : W.cell? ⟨w.heap.size, 0, none⟩ = some (.pointer (some ⟨4, 52, none⟩)) := by rw [← hW]; simp
  have hl2 : W.cell? ⟨w.heap.size, 1, none⟩ = some (.pointer (some ⟨vb, 0, none⟩)) := by rw [← hW]; simp
  have hl3 : W.cell? ⟨w.heap.size, 2, none⟩ = some (.int .u64 150) := by rw [← hW]; simp
  have el := er_elemV_no ⟨vb, 0, none⟩ ⟨tb, 0, none⟩ W hb1
  have xTypeOf := @run_callFunc_extern Tryd.prog 15 _ ReflectliteType.typeOf Tryd.func15 (by kernel_rfl) (by kernel_rfl) (by kernel_rfl) (by kernel_rfl)
  have xAssignable := @run_callFunc_extern Tryd.prog 66 _ (ReflectliteType.relation "AssignableTo" ReflectliteType.assignableTo) Tryd.func66 (by kernel_rfl) (by kernel_rfl) (by kernel_rfl) (by kernel_rfl)
  have xElem := @run_callFunc_extern Tryd.prog 28 _ (ReflectliteValue.method (ReflectliteValue.valueError "reflectlite.Value.Elem" 0) ReflectliteValue.elem) Tryd.func28 (by kernel_rfl) (by kernel_rfl) (by kernel_rfl) (by kernel_rfl)
  have xValueOf := @run_callFunc_extern Tryd.prog 21 _ (fun args => ReflectliteValue.unpack (args.getD 0 (.tuple #[]))) Tryd.func21 (by kernel_rfl) (by kernel_rfl) (by kernel_rfl) (by kernel_rfl)
  have xSet := @run_callFunc_extern Tryd.prog 29 _ ReflectliteValue.set Tryd.func29 (by kernel_rfl) (by kernel_rfl) (by kernel_rfl) (by kernel_rfl)
  have to0 := er_typeOf_no
  have to1 := er_typeOf_pg
  have to2 := er_typeOf_ah
  have mA := er_mAssignableTo
  have ag0 := er_asg_no_no
  have ag1 := er_asg_pg_no
  have ag2 := er_asg_ah_no
  have vo := er_valueOf_no
  have ni0 := er_no_as_no
  have ni1 := er_no_as_pg
  have ni2 := er_no_as_ah
  have nu0 := er_no_un_no
  have nu1 := er_has_un_pg
  have nu2 := er_has_un_ah
  have ns0 := er_no_us_no
  have mu1 := er_unwrap_pg
  have mu2 := er_unwrap_ah
  have HX := Aside.mk hW
  clear hb ht hf
  go_enter Tryd.func24, Tryd.ntmps24
  go_wp2
  (try rw [HX.out])
  clear hW
  go_loopg [0] (E.deep + 1) (fun k x wr => ∃ E', k = Er.deep E' + 1 ∧ Hid (ErIs W E' x) ∧ Aside (E'.num = r) ∧ wr = W)
  case atStart => exact ⟨E, rfl, HV, hr0, rfl⟩
  case round =>
    obtain ⟨E', hk, hx, hn, rfl⟩ := hrel
    cases E' with
    | no n =>
      have hx' := hx.out
      unfold ErIs at hx'
      subst hx'
      have hrr : r = some n := by rw [← hn.out]; rfl
      subst hrr
      clear hn
      have st := er_set_no ⟨tb, 0, none⟩ ⟨wr.heap.size, 0, none⟩ n _ (wr.alloc (.cells #[.int .i64 n] 33)) (by simp) (((Ext.refl wr).alloc _).someCell ht1) (by rw [((Ext.refl wr).alloc _).frozen _ _ (by omega)]; exact hf2)
      go_wp2
      (try go_ret)
      rw [← HEND.out, ← HX.out]
      refine EndAs_no.mk _ rfl (keeps_put _) ?_
      intro n' h
      cases h
      rw [HX.out]
      exact set_cell (((Ext.refl wr).alloc _).someCell ht1)
    | page x c =>
      obtain ⟨b, rfl, c0, c1⟩ := hx.out
      have hn' := Aside.mk hn.out
      go_wp2_with (go_at_call 8; refine (pageUnwrap_c _ _).mono ?_; rintro e w1 ⟨rfl, rfl⟩)
      go_roundg 1
      case measure => simp [Er.deep] at hk; omega
      case rel => exact ⟨.no 4, rfl, Lib.hid rfl, Aside.mk hn'.out, rfl⟩
    | ahead y e =>
      obtain ⟨b, u, rfl, c0, c1, c2⟩ := hx.out
      have C2 := Lib.hid c2
      obtain ⟨t, z, rfl⟩ := c2.form
      clear c2
      go_wp2_with (go_at_call 61; refine (aheadUnwrap_c _ _ _ c1).mono ?_; rintro e w1 ⟨rfl, rfl⟩)
      go_roundg (e.deep + 1)
      case measure => simp [Er.deep] at hk; omega
      case rel => exact ⟨e, rfl, C2, Aside.mk hn.out, rfl⟩
    | new =>
      exact absurd rfl hx.out

set_option maxHeartbeats 4000000 in
set_option maxRecDepth 20000 in
theorem as_pg_c (E : Er) (v : Value) (tb vb : Nat) (w : World) (hv : ErIs w E v) (hb : w.cell? ⟨vb, 0, none⟩ = some (.pointer (some ⟨tb, 0, none⟩))) (ht : w.cell? ⟨tb, 0, none⟩ = some (.pointer none)) (hf : w.frozen? ⟨tb, 0, none⟩ = false) :
    Calls Tryd.prog 24 #[v, .iface 42 (.pointer (some ⟨tb, 0, none⟩)), .agg #[.pointer (some ⟨4, 42, none⟩), .pointer (some ⟨vb, 0, none⟩), .int .u64 150], .iface 64 (.agg #[.pointer (some ⟨4, 40, none⟩)])] w (EndAs_pg E.pg tb w) := by
  have hvb : vb < w.heap.size := cell_lt hb
  have htb : tb < w.heap.size := cell_lt ht
  have hf1 : ∃ r, E.pg = r := ⟨_, rfl⟩
  obtain ⟨r, hr⟩ := hf1
  rw [hr]
  have hr0 := Aside.mk hr
  have HV := Lib.hid (hv.ext ((Ext.refl w).alloc (.cells #[.pointer (some ⟨4, 42, none⟩), .pointer (some ⟨vb, 0, none⟩), .int .u64 150] 56)))
  clear hv hr
  generalize hEnd : EndAs_pg r tb w = EE
  have HEND := Aside.mk hEnd
  clear hEnd
  generalize hW : w.alloc (.cells #[.pointer (some ⟨4, 42, none⟩), .pointer (some ⟨vb, 0, none⟩), .int .u64 150] 56) = W at HV
  have hWs1 : W.heap.size ≤ w.heap.size + 1 := by rw [← hW]; simp
  have hWs2 : w.heap.size + 1 ≤ W.heap.size := by rw [← hW]; simp
  have hb1 : W.cell? ⟨vb, 0, none⟩ = some (.pointer (some ⟨tb, 0, none⟩)) := by rw [← hW]; exact ((Ext.refl w).alloc _).someCell hb
  have ht1 : W.cell? ⟨tb, 0, none⟩ = some (.pointer none) := by rw [← hW]; exact ((Ext.refl w).alloc _).someCell ht
  have hf2 : W.frozen? ⟨tb, 0, none⟩ = false := by rw [← hW, ((Ext.refl w).alloc _).frozen _ _ htb]; exact hf
  have hl1 : W.cell? ⟨w.heap.size, 0, none⟩ = some (.pointer (some ⟨4, 42, none⟩)) := by rw [← hW]; simp
  have hl2 : W.cell? ⟨w.heap.size, 1, none⟩ = some (.pointer (some ⟨vb, 0, none⟩)) := by rw [← hW]; simp
  have hl3 : W.cell? ⟨w.heap.size, 2, none⟩ = some (.int .u64 150) := by rw [← hW]; simp
  have el := er_elemV_pg ⟨vb, 0, none⟩ ⟨tb, 0, none⟩ W hb1
  have xTypeOf := @run_callFunc_extern Tryd.prog 15 _ ReflectliteType.typeOf Tryd.func15 (by kernel_rfl) (by kernel_rfl) (by kernel_rfl) (by kernel_rfl)
  have xAssignable := @run_callFunc_extern Tryd.prog 66 _ (ReflectliteType.relation "AssignableTo" ReflectliteType.assignableTo) Tryd.func66 (by kernel_rfl) (by kernel_rfl) (by kernel_rfl) (by kernel_rfl)
  have xElem := @run_callFunc_extern Tryd.prog 28 _ (ReflectliteValue.method (ReflectliteValue.valueError "reflectlite.Value.Elem" 0) ReflectliteValue.elem) Tryd.func28 (by kernel_rfl) (by kernel_rfl) (by kernel_rfl) (by kernel_rfl)
  have xValueOf := @run_callFunc_extern Tryd.prog 21 _ (fun args => ReflectliteValue.unpack (args.getD 0 (.tuple #[]))) Tryd.func21 (by kernel_rfl) (by kernel_rfl) (by kernel_rfl) (by kernel_rfl)
  have xSet := @run_callFunc_extern Tryd.prog 29 _ ReflectliteValue.set Tryd.func29 (by kernel_rfl) (by kernel_rfl) (by kernel_rfl) (by kernel_rfl)
  have to0 := er_typeOf_no
  have to1 := er_typeOf_pg
  have to2 := er_typeOf_ah
  have mA := er_mAssignableTo
  have ag0 := er_asg_no_pg
  have ag1 := er_asg_pg_pg
  have ag2 := er_asg_ah_pg
  have vo := er_valueOf_pg
  have ni0 := er_no_as_no
  have ni1 := er_no_as_pg
  have ni2 := er_no_as_ah
  have nu0 := er_no_un_no
  have nu1 := er_has_un_pg
  have nu2 := er_has_un_ah
  have ns0 := er_no_us_no
  have mu1 := er_unwrap_pg
  have mu2 := er_unwrap_ah
  have HX := Aside.mk hW
  clear hb ht hf
  go_enter Tryd.func24, Tryd.ntmps24
  go_wp2
  (try rw [HX.out])
  clear hW
  go_loopg [0] (E.deep + 1) (fun k x wr => ∃ E', k = Er.deep E' + 1 ∧ Hid (ErIs W E' x) ∧ Aside (E'.pg = r) ∧ wr = W)
  case atStart => exact ⟨E, rfl, HV, hr0, rfl⟩
  case round =>
    obtain ⟨E', hk, hx, hn, rfl⟩ := hrel
    cases E' with
    | no n =>
      have hx' := hx.out
      unfold ErIs at hx'
      subst hx'
      have hrr : r = none := by rw [← hn.out]; rfl
      subst hrr
      clear hn
      go_wp2
      (try go_ret)
      rw [← HEND.out]
      exact EndAs_pg.mk _ rfl (Keeps.of_ext (by rw [← HX.out]; exact (Ext.refl w).alloc _)) (fun n h => by cases h)
    | page x c =>
      obtain ⟨b, rfl, c0, c1⟩ := hx.out
      have hrr : r = some (x, c) := by rw [← hn.out]; rfl
      subst hrr
      clear hn
      have hbt : b ≠ tb := by rintro rfl; rw [ht1] at c0; cases c0
      have hbl : b < w.heap.size := by
        have := cell_lt c0
        rcases Nat.lt_or_ge b w.heap.size with h | h
        · exact h
        · exfalso
          obtain rfl : b = w.heap.size := by omega
          rw [hl1] at c0; cases c0
      have st := er_set_pg ⟨tb, 0, none⟩ ⟨wr.heap.size, 0, none⟩ ⟨b, 0, none⟩ _ (wr.alloc (.cells #[.pointer (some ⟨b, 0, none⟩)] 40)) (by simp) (((Ext.refl wr).alloc _).someCell ht1) (by rw [((Ext.refl wr).alloc _).frozen _ _ (by omega)]; exact hf2)
      have C0 := Lib.hid c0
      have C1 := Lib.hid c1
      clear c0 c1
      go_wp2
      (try go_ret)
      rw [← HEND.out, ← HX.out]
      refine EndAs_pg.mk _ rfl (keeps_put _) ?_
      intro q h
      cases h
      rw [HX.out]
      refine ⟨b, set_cell (((Ext.refl wr).alloc _).someCell ht1), hbt, ?_, ?_⟩
      · rw [set_other _ (Ne.symm hbt)]; exact ((Ext.refl wr).alloc _).someCell C0.out
      · rw [set_other _ (Ne.symm hbt)]; exact ((Ext.refl wr).alloc _).someCell C1.out
    | ahead y e =>
      obtain ⟨b, u, rfl, c0, c1, c2⟩ := hx.out
      have C2 := Lib.hid c2
      obtain ⟨t, z, rfl⟩ := c2.form
      clear c2
      go_wp2_with (go_at_call 61; refine (aheadUnwrap_c _ _ _ c1).mono ?_; rintro e w1 ⟨rfl, rfl⟩)
      go_roundg (e.deep + 1)
      case measure => simp [Er.deep] at hk; omega
      case rel => exact ⟨e, rfl, C2, Aside.mk hn.out, rfl⟩
    | new =>
      exact absurd rfl hx.out

end Go.Proofs.YtaobmiphnpkoiaaDoor
