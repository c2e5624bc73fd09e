/- FaultFound: whatever is wrapped around a fault, it is found, with its address and code. -/
import Derived.Test.YtaobmiphnpkoiaaDoorFaultGP
namespace Go.Proofs.YtaobmiphnpkoiaaDoor
set_option linter.unusedVariables false
set_option linter.unusedSimpArgs false
open Go.RowKit
attribute [local go_sem] wext_cell wext_frozen wext_heap alloc_cell alloc_frozen alloc_heap setCell_cell objCell_cells objFrozen_cells

structure PgH (a c : Int) (w : World) (v : Value) : Prop where
  out : ∃ E, ErIs w E v ∧ E.num = some 4 ∧ E.pg = some (a, c)
theorem PgH.mv {a c : Int} {w w' : World} {v : Value} (h : PgH a c w v) (k : Ext w w') : PgH a c w' v := by
  obtain ⟨E, h1, h2⟩ := h.out
  exact ⟨E, h1.ext k, h2⟩
theorem PgH.no {a c : Int} {w : World} {v : Value} (h : PgH a c w v) : NoH 4 w v := by
  obtain ⟨E, h1, h2, h3⟩ := h.out
  exact ⟨E, h1, h2⟩
def EndPg (a c : Int) (w : World) (e : Ending) (w' : World) : Prop := ∃ t x, e = .returned (.iface t x) ∧ PgH a c w' (.iface t x) ∧ Ext w w'
theorem wrapPg_c (a c : Int) (y : ByteArray) (v : Value) (w : World) (h : PgH a c w v) : Calls Tryd.prog 11 #[.string y, v] w (EndPg a c w) := by
  obtain ⟨E, h1, h2⟩ := h.out
  exact (wrap_c y E v w h1).mono fun e w' hE => by
    obtain ⟨t, x, rfl, hv, hb⟩ := hE.form
    exact ⟨t, x, rfl, ⟨_, hv.out, h2⟩, hb⟩
theorem atPg_c (a c : Int) (w : World) : Calls Tryd.prog 6 #[.int .u64 a, .int .i64 c] w (EndPg a c w) :=
  (at_c a c w).mono fun e w' hE => by
    obtain ⟨t, x, rfl, hv, hb⟩ := hE.form
    exact ⟨t, x, rfl, ⟨_, hv.out, rfl, rfl⟩, hb⟩
theorem ofPg_c (a c : Int) (v : Value) (w : World) (h : PgH a c w v) (hg : Glob w) : Calls Tryd.prog 5 #[v] w fun e w' => e = .returned (.tuple #[.agg #[.int .u64 a, .int .i64 c], .bool true]) ∧ Ext w w' := by
  obtain ⟨E, h1, h2, h3⟩ := h.out
  exact faultOf_pg a c E v w h1 hg h3 (by rw [h2]; rfl)
end Go.Proofs.YtaobmiphnpkoiaaDoor
