/- Closed facts: the assertions of package errors, and the model's entries of internal/reflectlite at this program's error types. Printed by mkerr.py. -/
import Derived.Test.YtaobmiphnpkoiaaDoorBase
import Derived.LaidEql
import Derived.Stop.Asserts
import Derived.RowKitTokens
namespace Go.Proofs.YtaobmiphnpkoiaaDoor
open Go.RowKit Go.Extern.Stop Go.Stop Go.Extern
set_option linter.unusedVariables false

/-! ### the entries that read or write memory: each unfolding a lemma of its own -/
theorem er_rlm (z : Sem Value) (f : TypeId → Addr → Nat → Nat → Sem Value) (v : Value) :
    ReflectliteValue.method z f #[v] = (do match ← ReflectliteValue.parts v with | none => z | some (t, a, fl) => f t a fl (fl % 32)) := rfl
theorem er_rls (v x : Value) : ReflectliteValue.set #[v, x] = (do
    let (some (dst, a, fl), some (src, b, _)) := (← ReflectliteValue.parts v, ← ReflectliteValue.parts x)
      | unsupported (.noEntry "extern/(internal/reflectlite.Value).Set.zeroValue")
    if fl / ReflectliteValue.flagAddr % 2 == 0 then unsupported (.noEntry "extern/(internal/reflectlite.Value).Set.unaddressable")
    let val ← loadVar src b
    if ← Rtype.directlyAssignable dst src then storeVar dst a val
    else if ← Rtype.implements dst src then
      if (← Rtype.kind src) == 20 then
        match val with
        | .nilIface => unsupported (.noEntry "extern/reflectlite: a nil value of one interface type handed on as a value of another")
        | _ => storeVar dst a val
      else storeVar dst a (.iface src val)
    else panicString ("reflectlite.Set: value of type " ++ (← Rtype.spelt src) ++ " is not assignable to type " ++ (← Rtype.spelt dst))
    pure (.tuple #[])) := rfl

theorem er_typeOf_pg (v : Value) (w : World) : (ReflectliteType.typeOf #[.iface 40 v]).run Tryd.prog w = .ok (.iface 64 (.agg #[.pointer (some ⟨4, 40, none⟩)])) w := by kernel_rfl
theorem er_asg_pg_pg (w : World) : (ReflectliteType.relation "AssignableTo" ReflectliteType.assignableTo #[.agg #[.pointer (some ⟨4, 40, none⟩)], .iface 64 (.agg #[.pointer (some ⟨4, 40, none⟩)])]).run Tryd.prog w = .ok (.bool true) w := by kernel_rfl
theorem er_asg_pg_no (w : World) : (ReflectliteType.relation "AssignableTo" ReflectliteType.assignableTo #[.agg #[.pointer (some ⟨4, 40, none⟩)], .iface 64 (.agg #[.pointer (some ⟨4, 33, none⟩)])]).run Tryd.prog w = .ok (.bool false) w := by kernel_rfl
theorem er_no_as_pg (v : Value) (xT : TypeId) (w : World) : (Instr.typeAssert (.iface 40 v) xT 76 true).run Tryd.prog w = .ok (.tuple #[.nilIface, .bool false]) w := run_typeAssert_lacksB Tryd.underlying76 (by kernel_rfl) (by kernel_rfl) v xT w
theorem er_no_is_pg (v : Value) (xT : TypeId) (w : World) : (Instr.typeAssert (.iface 40 v) xT 66 true).run Tryd.prog w = .ok (.tuple #[.nilIface, .bool false]) w := run_typeAssert_lacksB Tryd.underlying66 (by kernel_rfl) (by kernel_rfl) v xT w
theorem er_has_un_pg (v : Value) (xT : TypeId) (w : World) : (Instr.typeAssert (.iface 40 v) xT 69 true).run Tryd.prog w = .ok (.tuple #[.iface 40 v, .bool true]) w := run_typeAssert_hasB Tryd.underlying69 (by kernel_rfl) v xT w
theorem er_no_us_pg (v : Value) (xT : TypeId) (w : World) : (Instr.typeAssert (.iface 40 v) xT 70 true).run Tryd.prog w = .ok (.tuple #[.nilIface, .bool false]) w := run_typeAssert_lacksB Tryd.underlying70 (by kernel_rfl) (by kernel_rfl) v xT w
theorem er_typeOf_ah (v : Value) (w : World) : (ReflectliteType.typeOf #[.iface 49 v]).run Tryd.prog w = .ok (.iface 64 (.agg #[.pointer (some ⟨4, 49, none⟩)])) w := by kernel_rfl
theorem er_asg_ah_pg (w : World) : (ReflectliteType.relation "AssignableTo" ReflectliteType.assignableTo #[.agg #[.pointer (some ⟨4, 49, none⟩)], .iface 64 (.agg #[.pointer (some ⟨4, 40, none⟩)])]).run Tryd.prog w = .ok (.bool false) w := by kernel_rfl
theorem er_asg_ah_no (w : World) : (ReflectliteType.relation "AssignableTo" ReflectliteType.assignableTo #[.agg #[.pointer (some ⟨4, 49, none⟩)], .iface 64 (.agg #[.pointer (some ⟨4, 33, none⟩)])]).run Tryd.prog w = .ok (.bool false) w := by kernel_rfl
theorem er_no_as_ah (v : Value) (xT : TypeId) (w : World) : (Instr.typeAssert (.iface 49 v) xT 76 true).run Tryd.prog w = .ok (.tuple #[.nilIface, .bool false]) w := run_typeAssert_lacksB Tryd.underlying76 (by kernel_rfl) (by kernel_rfl) v xT w
theorem er_no_is_ah (v : Value) (xT : TypeId) (w : World) : (Instr.typeAssert (.iface 49 v) xT 66 true).run Tryd.prog w = .ok (.tuple #[.nilIface, .bool false]) w := run_typeAssert_lacksB Tryd.underlying66 (by kernel_rfl) (by kernel_rfl) v xT w
theorem er_has_un_ah (v : Value) (xT : TypeId) (w : World) : (Instr.typeAssert (.iface 49 v) xT 69 true).run Tryd.prog w = .ok (.tuple #[.iface 49 v, .bool true]) w := run_typeAssert_hasB Tryd.underlying69 (by kernel_rfl) v xT w
theorem er_no_us_ah (v : Value) (xT : TypeId) (w : World) : (Instr.typeAssert (.iface 49 v) xT 70 true).run Tryd.prog w = .ok (.tuple #[.nilIface, .bool false]) w := run_typeAssert_lacksB Tryd.underlying70 (by kernel_rfl) (by kernel_rfl) v xT w
theorem er_typeOf_no (v : Value) (w : World) : (ReflectliteType.typeOf #[.iface 33 v]).run Tryd.prog w = .ok (.iface 64 (.agg #[.pointer (some ⟨4, 33, none⟩)])) w := by kernel_rfl
theorem er_asg_no_pg (w : World) : (ReflectliteType.relation "AssignableTo" ReflectliteType.assignableTo #[.agg #[.pointer (some ⟨4, 33, none⟩)], .iface 64 (.agg #[.pointer (some ⟨4, 40, none⟩)])]).run Tryd.prog w = .ok (.bool false) w := by kernel_rfl
theorem er_asg_no_no (w : World) : (ReflectliteType.relation "AssignableTo" ReflectliteType.assignableTo #[.agg #[.pointer (some ⟨4, 33, none⟩)], .iface 64 (.agg #[.pointer (some ⟨4, 33, none⟩)])]).run Tryd.prog w = .ok (.bool true) w := by kernel_rfl
theorem er_no_as_no (v : Value) (xT : TypeId) (w : World) : (Instr.typeAssert (.iface 33 v) xT 76 true).run Tryd.prog w = .ok (.tuple #[.nilIface, .bool false]) w := run_typeAssert_lacksB Tryd.underlying76 (by kernel_rfl) (by kernel_rfl) v xT w
theorem er_no_is_no (v : Value) (xT : TypeId) (w : World) : (Instr.typeAssert (.iface 33 v) xT 66 true).run Tryd.prog w = .ok (.tuple #[.nilIface, .bool false]) w := run_typeAssert_lacksB Tryd.underlying66 (by kernel_rfl) (by kernel_rfl) v xT w
theorem er_no_un_no (v : Value) (xT : TypeId) (w : World) : (Instr.typeAssert (.iface 33 v) xT 69 true).run Tryd.prog w = .ok (.tuple #[.nilIface, .bool false]) w := run_typeAssert_lacksB Tryd.underlying69 (by kernel_rfl) (by kernel_rfl) v xT w
theorem er_no_us_no (v : Value) (xT : TypeId) (w : World) : (Instr.typeAssert (.iface 33 v) xT 70 true).run Tryd.prog w = .ok (.tuple #[.nilIface, .bool false]) w := run_typeAssert_lacksB Tryd.underlying70 (by kernel_rfl) (by kernel_rfl) v xT w
theorem er_unwrap_pg (v : Value) (w : World) : (Go.method 224 40 v "Unwrap").run Tryd.prog w = .ok (8, v) w := by kernel_rfl
theorem er_unwrap_ah (v : Value) (w : World) : (Go.method 224 49 v "Unwrap").run Tryd.prog w = .ok (61, v) w := by kernel_rfl
theorem er_isComparable (w : World) : ((ReflectliteType.method fun t => (fun a => Value.bool a.comparable) <$> typeInfo t) #[.agg #[.pointer (some ⟨4, 33, none⟩)]]).run Tryd.prog w = .ok (.bool true) w := by kernel_rfl
theorem er_mComparable (h : Value) (w : World) : (Go.method 224 64 (.agg #[h]) "Comparable").run Tryd.prog w = .ok (67, .agg #[h]) w := by kernel_rfl
theorem er_mElem (h : Value) (w : World) : (Go.method 224 64 (.agg #[h]) "Elem").run Tryd.prog w = .ok (68, .agg #[h]) w := by kernel_rfl
theorem er_mImplements (h : Value) (w : World) : (Go.method 224 64 (.agg #[h]) "Implements").run Tryd.prog w = .ok (69, .agg #[h]) w := by kernel_rfl
theorem er_mAssignableTo (h : Value) (w : World) : (Go.method 224 64 (.agg #[h]) "AssignableTo").run Tryd.prog w = .ok (66, .agg #[h]) w := by kernel_rfl
theorem er_mKind (h : Value) (w : World) : (Go.method 224 64 (.agg #[h]) "Kind").run Tryd.prog w = .ok (56, h) w := by kernel_rfl

/-! ### the target that points to 40 -/
theorem er_valueOfP_pg (t : Addr) (w : World) : (ReflectliteValue.unpack (.iface 42 (.pointer (some t)))).run Tryd.prog w
    = .ok (.agg #[.pointer (some ⟨4, 42, none⟩), .pointer (some ⟨w.heap.size, 0, none⟩), .int .u64 150]) (w.alloc (.cells #[.pointer (some t)] 42)) := by kernel_rfl
theorem er_typeP_pg (a : Addr) (w : World) : (ReflectliteValue.methodAny (ReflectliteValue.valueError "reflectlite.Value.Type" 0) (fun t _ _ _ => ReflectliteType.toType t) #[.agg #[.pointer (some ⟨4, 42, none⟩), .pointer (some a), .int .u64 150]]).run Tryd.prog w = .ok (.iface 64 (.agg #[.pointer (some ⟨4, 42, none⟩)])) w := by kernel_rfl
theorem er_kindP_pg (w : World) : ((ReflectliteType.abiMethod fun t => (fun a : Nat => Value.int IntKind.u8 (a : Int)) <$> Rtype.kind t) #[.pointer (some ⟨4, 42, none⟩)]).run Tryd.prog w = .ok (.int .u8 22) w := by kernel_rfl
theorem er_kindE_pg (w : World) : ((ReflectliteType.abiMethod fun t => (fun a : Nat => Value.int IntKind.u8 (a : Int)) <$> Rtype.kind t) #[.pointer (some ⟨4, 40, none⟩)]).run Tryd.prog w = .ok (.int .u8 22) w := by kernel_rfl
theorem er_partsP_pg (a : Addr) (w : World) : (ReflectliteValue.parts (.agg #[.pointer (some ⟨4, 42, none⟩), .pointer (some a), .int .u64 150])).run Tryd.prog w = .ok (some (42, a, 150)) w := by kernel_rfl
theorem er_isNil_pg (a p : Addr) (W : World) (ha : W.cell? a = some (.pointer (some p))) :
    (ReflectliteValue.method (ReflectliteValue.valueError "reflectlite.Value.IsNil" 0) ReflectliteValue.isNil #[.agg #[.pointer (some ⟨4, 42, none⟩), .pointer (some a), .int .u64 150]]).run Tryd.prog W = .ok (.bool false) W := by
  rw [er_rlm]
  simp only [Sem.run_bind, er_partsP_pg, Result.andThen]
  simp [ReflectliteValue.isNil, loadVar, isAgg, underlying, Tryd.underlying42, ha, Result.andThen]
theorem er_elemT_pg (w : World) : (ReflectliteType.method ReflectliteType.elem #[.agg #[.pointer (some ⟨4, 42, none⟩)]]).run Tryd.prog w = .ok (.iface 64 (.agg #[.pointer (some ⟨4, 40, none⟩)])) w := by kernel_rfl
theorem er_impl_pg (w : World) : (ReflectliteType.relation "Implements" ReflectliteType.implements_ #[.agg #[.pointer (some ⟨4, 40, none⟩)], .iface 64 (.agg #[.pointer (some ⟨4, 29, none⟩)])]).run Tryd.prog w = .ok (.bool true) w := by kernel_rfl
theorem er_valueOf_pg (e : Addr) (w : World) : (ReflectliteValue.unpack (.iface 40 (.pointer (some e)))).run Tryd.prog w
    = .ok (.agg #[.pointer (some ⟨4, 40, none⟩), .pointer (some ⟨w.heap.size, 0, none⟩), .int .u64 150]) (w.alloc (.cells #[(.pointer (some e))] 40)) := by kernel_rfl
theorem er_elemOf_pg (w : World) : (Rtype.elem? 42).run Tryd.prog w = .ok (some 40) w := by kernel_rfl
theorem er_mk_pg (p : Addr) (w : World) : (ReflectliteValue.mk 40 p ReflectliteValue.flagAddr).run Tryd.prog w = .ok (.agg #[.pointer (some ⟨4, 40, none⟩), .pointer (some p), .int .u64 406]) w := by kernel_rfl
theorem er_elemV_pg (a p : Addr) (W : World) (ha : W.cell? a = some (.pointer (some p))) :
    (ReflectliteValue.method (ReflectliteValue.valueError "reflectlite.Value.Elem" 0) ReflectliteValue.elem #[.agg #[.pointer (some ⟨4, 42, none⟩), .pointer (some a), .int .u64 150]]).run Tryd.prog W
      = .ok (.agg #[.pointer (some ⟨4, 40, none⟩), .pointer (some p), .int .u64 406]) W := by
  rw [er_rlm]
  simp only [Sem.run_bind, er_partsP_pg, Result.andThen]
  simp [ReflectliteValue.elem, loadVar, isAgg, underlying, Tryd.underlying42, ha, Result.andThen, er_elemOf_pg, er_mk_pg]
theorem er_partsA_pg (a : Addr) (w : World) : (ReflectliteValue.parts (.agg #[.pointer (some ⟨4, 40, none⟩), .pointer (some a), .int .u64 406])).run Tryd.prog w = .ok (some (40, a, 406)) w := by kernel_rfl
theorem er_partsE_pg (a : Addr) (w : World) : (ReflectliteValue.parts (.agg #[.pointer (some ⟨4, 40, none⟩), .pointer (some a), .int .u64 150])).run Tryd.prog w = .ok (some (40, a, 150)) w := by kernel_rfl
theorem er_direct_pg (w : World) : (Rtype.directlyAssignable 40 40).run Tryd.prog w = .ok true w := by kernel_rfl
theorem er_set_pg (ta b : Addr) (e : Addr) (old : Value) (W : World) (hb : W.cell? b = some (.pointer (some e))) (ht : W.cell? ta = some old) (hf : W.frozen? ta = false) :
    (ReflectliteValue.set #[.agg #[.pointer (some ⟨4, 40, none⟩), .pointer (some ta), .int .u64 406], .agg #[.pointer (some ⟨4, 40, none⟩), .pointer (some b), .int .u64 150]]).run Tryd.prog W
      = .ok (.tuple #[]) (W.setCell ta (.pointer (some e))) := by
  rw [er_rls]
  simp only [Sem.run_bind, er_partsA_pg, er_partsE_pg, Result.andThen]
  simp [ReflectliteValue.flagAddr, loadVar, isAgg, underlying, Tryd.underlying40, hb, Result.andThen, er_direct_pg, storeVar, Value.cells, storeCells, Addr.add]
  rw [run_store Tryd.prog W ta _ _ (by rfl)]
  simp [ht, hf]

/-! ### the target that points to 33 -/
theorem er_valueOfP_no (t : Addr) (w : World) : (ReflectliteValue.unpack (.iface 52 (.pointer (some t)))).run Tryd.prog w
    = .ok (.agg #[.pointer (some ⟨4, 52, none⟩), .pointer (some ⟨w.heap.size, 0, none⟩), .int .u64 150]) (w.alloc (.cells #[.pointer (some t)] 52)) := by kernel_rfl
theorem er_typeP_no (a : Addr) (w : World) : (ReflectliteValue.methodAny (ReflectliteValue.valueError "reflectlite.Value.Type" 0) (fun t _ _ _ => ReflectliteType.toType t) #[.agg #[.pointer (some ⟨4, 52, none⟩), .pointer (some a), .int .u64 150]]).run Tryd.prog w = .ok (.iface 64 (.agg #[.pointer (some ⟨4, 52, none⟩)])) w := by kernel_rfl
theorem er_kindP_no (w : World) : ((ReflectliteType.abiMethod fun t => (fun a : Nat => Value.int IntKind.u8 (a : Int)) <$> Rtype.kind t) #[.pointer (some ⟨4, 52, none⟩)]).run Tryd.prog w = .ok (.int .u8 22) w := by kernel_rfl
theorem er_kindE_no (w : World) : ((ReflectliteType.abiMethod fun t => (fun a : Nat => Value.int IntKind.u8 (a : Int)) <$> Rtype.kind t) #[.pointer (some ⟨4, 33, none⟩)]).run Tryd.prog w = .ok (.int .u8 2) w := by kernel_rfl
theorem er_partsP_no (a : Addr) (w : World) : (ReflectliteValue.parts (.agg #[.pointer (some ⟨4, 52, none⟩), .pointer (some a), .int .u64 150])).run Tryd.prog w = .ok (some (52, a, 150)) w := by kernel_rfl
theorem er_isNil_no (a p : Addr) (W : World) (ha : W.cell? a = some (.pointer (some p))) :
    (ReflectliteValue.method (ReflectliteValue.valueError "reflectlite.Value.IsNil" 0) ReflectliteValue.isNil #[.agg #[.pointer (some ⟨4, 52, none⟩), .pointer (some a), .int .u64 150]]).run Tryd.prog W = .ok (.bool false) W := by
  rw [er_rlm]
  simp only [Sem.run_bind, er_partsP_no, Result.andThen]
  simp [ReflectliteValue.isNil, loadVar, isAgg, underlying, Tryd.underlying52, ha, Result.andThen]
theorem er_elemT_no (w : World) : (ReflectliteType.method ReflectliteType.elem #[.agg #[.pointer (some ⟨4, 52, none⟩)]]).run Tryd.prog w = .ok (.iface 64 (.agg #[.pointer (some ⟨4, 33, none⟩)])) w := by kernel_rfl
theorem er_impl_no (w : World) : (ReflectliteType.relation "Implements" ReflectliteType.implements_ #[.agg #[.pointer (some ⟨4, 33, none⟩)], .iface 64 (.agg #[.pointer (some ⟨4, 29, none⟩)])]).run Tryd.prog w = .ok (.bool true) w := by kernel_rfl
theorem er_valueOf_no (e : Int) (w : World) : (ReflectliteValue.unpack (.iface 33 (.int .i64 e))).run Tryd.prog w
    = .ok (.agg #[.pointer (some ⟨4, 33, none⟩), .pointer (some ⟨w.heap.size, 0, none⟩), .int .u64 130]) (w.alloc (.cells #[(.int .i64 e)] 33)) := by kernel_rfl
theorem er_elemOf_no (w : World) : (Rtype.elem? 52).run Tryd.prog w = .ok (some 33) w := by kernel_rfl
theorem er_mk_no (p : Addr) (w : World) : (ReflectliteValue.mk 33 p ReflectliteValue.flagAddr).run Tryd.prog w = .ok (.agg #[.pointer (some ⟨4, 33, none⟩), .pointer (some p), .int .u64 386]) w := by kernel_rfl
theorem er_elemV_no (a p : Addr) (W : World) (ha : W.cell? a = some (.pointer (some p))) :
    (ReflectliteValue.method (ReflectliteValue.valueError "reflectlite.Value.Elem" 0) ReflectliteValue.elem #[.agg #[.pointer (some ⟨4, 52, none⟩), .pointer (some a), .int .u64 150]]).run Tryd.prog W
      = .ok (.agg #[.pointer (some ⟨4, 33, none⟩), .pointer (some p), .int .u64 386]) W := by
  rw [er_rlm]
  simp only [Sem.run_bind, er_partsP_no, Result.andThen]
  simp [ReflectliteValue.elem, loadVar, isAgg, underlying, Tryd.underlying52, ha, Result.andThen, er_elemOf_no, er_mk_no]
theorem er_partsA_no (a : Addr) (w : World) : (ReflectliteValue.parts (.agg #[.pointer (some ⟨4, 33, none⟩), .pointer (some a), .int .u64 386])).run Tryd.prog w = .ok (some (33, a, 386)) w := by kernel_rfl
theorem er_partsE_no (a : Addr) (w : World) : (ReflectliteValue.parts (.agg #[.pointer (some ⟨4, 33, none⟩), .pointer (some a), .int .u64 130])).run Tryd.prog w = .ok (some (33, a, 130)) w := by kernel_rfl
theorem er_direct_no (w : World) : (Rtype.directlyAssignable 33 33).run Tryd.prog w = .ok true w := by kernel_rfl
theorem er_set_no (ta b : Addr) (e : Int) (old : Value) (W : World) (hb : W.cell? b = some (.int .i64 e)) (ht : W.cell? ta = some old) (hf : W.frozen? ta = false) :
    (ReflectliteValue.set #[.agg #[.pointer (some ⟨4, 33, none⟩), .pointer (some ta), .int .u64 386], .agg #[.pointer (some ⟨4, 33, none⟩), .pointer (some b), .int .u64 130]]).run Tryd.prog W
      = .ok (.tuple #[]) (W.setCell ta (.int .i64 e)) := by
  rw [er_rls]
  simp only [Sem.run_bind, er_partsA_no, er_partsE_no, Result.andThen]
  simp [ReflectliteValue.flagAddr, loadVar, isAgg, underlying, Tryd.underlying33, hb, Result.andThen, er_direct_no, storeVar, Value.cells, storeCells, Addr.add]
  rw [run_store Tryd.prog W ta _ _ (by rfl)]
  simp [ht, hf]
end Go.Proofs.YtaobmiphnpkoiaaDoor