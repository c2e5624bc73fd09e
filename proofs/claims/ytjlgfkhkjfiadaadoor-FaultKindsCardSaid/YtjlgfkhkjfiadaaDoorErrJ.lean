/- errors.New, errors.Join of two. -/
import Derived.Test.YtjlgfkhkjfiadaaDoorAwake07
import Derived.Laws.MakeOwn
namespace Go.Proofs.YtjlgfkhkjfiadaaDoor
open Go.Extern.Stop Go.Stop Go.Extern
set_option linter.unusedVariables false
set_option linter.unusedSimpArgs false
open Go.RowKit
attribute [local go_sem] wext_cell wext_frozen wext_heap alloc_cell alloc_frozen alloc_heap setCell_cell objCell_cells objFrozen_cells

theorem errNew_c (y : ByteArray) (w : World) : Calls Tryd.prog 22 #[.string y] w (EndErr .new w) := by
  generalize hEnd : EndErr .new w = EE
  have HEND := Aside.mk hEnd
  clear hEnd
  go_enter Tryd.func22, Tryd.ntmps22
  go_wp2
  (try go_ret)
  rw [← HEND.out]
  exact ⟨_, rfl, ⟨w.heap.size, rfl⟩, (by repeat (first | exact Ext.refl _ | assumption | refine Ext.alloc ?_ _ | refine Ext.drew ?_ | refine Ext.setCell ?_ (by first | (simp; done) | (dsimp only; omega)) _ | refine Ext.trans ?_ (by assumption)))⟩
theorem errRow : RowT Tryd.prog 78 26 1 16 := RowT.of (z := .nilIface) Tryd.underlying78 (by kernel_rfl) rfl

/-- Two joined errors. -/
structure JoH (v1 v2 : Value) (w : World) (v : Value) : Prop where
  out : ∃ b g c, v = .iface 79 (.pointer (some ⟨b, 0, none⟩)) ∧ w.cell? ⟨b, 0, none⟩ = some (.slice (some ⟨g, 0, none⟩) 2 c) ∧ w.cell? ⟨g, 0, none⟩ = some v1 ∧ w.cell? ⟨g, 1, none⟩ = some v2
theorem JoH.ext {v1 v2 : Value} {w w' : World} {v : Value} (h : JoH v1 v2 w v) (k : Ext w w') : JoH v1 v2 w' v := by
  obtain ⟨b, g, c, h1, h2, h3, h4⟩ := h.out
  exact ⟨b, g, c, h1, k.someCell h2, k.someCell h3, k.someCell h4⟩
def EndJo (v1 v2 : Value) (w : World) (e : Ending) (w' : World) : Prop := ∃ t x, e = .returned (.iface t x) ∧ JoH v1 v2 w' (.iface t x) ∧ Ext w w'

theorem errMake (w : World) : (Instr.makeSlice 78 (.int .i64 0) (.int .i64 2)).run Tryd.prog w = .ok (.slice (some ⟨w.heap.size, 0, none⟩) 0 2) (w.alloc (.cells #[.nilIface, .nilIface] 26)) := by
  have hi : (Tryd.prog.info? 26).map (fun i => (i.zero, i.size, i.bytes)) = some (some .nilIface, 1, 16) := by kernel_rfl
  cases h : Tryd.prog.info? 26 with
  | none => rw [h] at hi; cases hi
  | some i =>
    rw [h] at hi
    simp only [Option.map_some, Option.some.injEq, Prod.mk.injEq] at hi
    have := run_make (P := Tryd.prog) w 78 26 i .nilIface Tryd.underlying78 h hi.1 .i64 .i64 0 2 (by omega) (by omega) (by rw [hi.2.2]; omega) (by omega)
    rw [hi.2.1] at this
    have hm : madeCells Value.nilIface.cells 2 = #[.nilIface, .nilIface] := by kernel_rfl
    rw [this, show Int.toNat 2 * 1 = 2 from rfl, hm]
    rfl
theorem Owns.neT {w : World} {e e' : TypeId} {k n : Nat} {v : Value} {xs : List Value} (h : Owns w e k v n xs) {b : Nat} {c : Array Value} (hb : w.heap[b]? = some (.cells c e' (0, 0))) (he : e ≠ e') : some b ≠ v.ownBlock := fun hg => by
  obtain ⟨c', hc'⟩ := h.heap b hg.symm
  rw [hb] at hc'; simp only [Option.some.injEq, Obj.cells.injEq] at hc'
  exact he hc'.2.1.symm
set_option maxRecDepth 100000 in
set_option maxHeartbeats 3200000 in
theorem errJoin_c (g : Nat) (t1 t2 : TypeId) (x1 x2 : Value) (w : World) (h1 : w.cell? ⟨g, 0, none⟩ = some (.iface t1 x1)) (h2 : w.cell? ⟨g, 1, none⟩ = some (.iface t2 x2)) :
    Calls Tryd.prog 23 #[.slice (some ⟨g, 0, none⟩) 2 2] w (EndJo (.iface t1 x1) (.iface t2 x2) w) := by
  have hgl : g < w.heap.size := cell_lt h1
  have hmk := errMake
  generalize hEnd : EndJo (.iface t1 x1) (.iface t2 x2) w = EE
  have HEND := Aside.mk hEnd
  clear hEnd
  go_enter Tryd.func23, Tryd.ntmps23
  go_wp2
  refine wp_loop_rounds 3 ?_
  rw [rounds_succ]
  go_wp2
  rw [rounds_succ]
  go_wp2
  rw [rounds_succ]
  go_wp2
  refine wp_gen ?_; intro V hV
  have vE : Ext w V := by rw [hV]; exact (by repeat (first | exact Ext.refl _ | assumption | refine Ext.alloc ?_ _ | refine Ext.drew ?_ | refine Ext.setCell ?_ (by first | (simp; done) | (dsimp only; omega)) _ | refine Ext.trans ?_ (by assumption)))
  have vg : V.heap[w.heap.size]? = some (.cells #[.nilIface, .nilIface] 26 (0, 0)) := by rw [hV]; exact (alloc_other _ _ (by simp)).trans (alloc_same ..)
  have vj : V.heap[w.heap.size + 1]? = some (.cells #[.slice (some ⟨w.heap.size, 0, none⟩) 0 2] 81 (0, 0)) := by rw [hV]; exact alloc_same1 ..
  have hO : Owns V 26 1 (.slice (some ⟨w.heap.size, 0, none⟩) 0 2) 0 [] := ⟨rfl, .inr ⟨_, 2, _, rfl, vg, by omega, by unfold maxLen; omega, by simp, by simp⟩⟩
  obtain ⟨gb, hgb⟩ : ∃ gb, w.heap.size = gb := ⟨_, rfl⟩
  obtain ⟨jb, hjb⟩ : ∃ jb, w.heap.size + 1 = jb := ⟨_, rfl⟩
  have hwg : w.heap.size ≤ gb := by omega
  have hwj : w.heap.size ≤ jb := by omega
  have hgj : jb ≠ gb := by omega
  rw [hjb] at vj ⊢
  rw [hgb] at vg vj hO ⊢
  have VE := Lib.hid vE
  have vl := heap_lt vj
  have vgl := heap_lt vg
  have y0 : V.cell? ⟨jb, 0, none⟩ = some (.slice (some ⟨gb, 0, none⟩) 0 2) := (heap_cell vj 0).trans rfl
  have yf := frozen_of vj
  have z0 : V.cell? ⟨gb, 0, none⟩ = some .nilIface := (heap_cell vg 0).trans rfl
  have z1 : V.cell? ⟨gb, 1, none⟩ = some .nilIface := (heap_cell vg 1).trans rfl
  have zf := frozen_of vg
  have c0 : V.cell? ⟨g, 0, none⟩ = some (.iface t1 x1) := vE.someCell h1
  have c1 : V.cell? ⟨g, 1, none⟩ = some (.iface t2 x2) := vE.someCell h2
  have hvs := vE.size
  have hg1 : g ≠ gb := by omega
  have hg2 : g ≠ jb := by omega
  have hgl2 : g < V.heap.size := by omega
  have hgbg : gb ≠ g := by omega
  have hjbg : jb ≠ g := by omega
  have hgj2 : gb ≠ jb := by omega
  clear hV vE vg vj hO hgb hjb h1 h2 hmk
  refine wp_loop_rounds 3 ?_
  rw [rounds_succ]
  go_wp2
  rw [rounds_succ]
  go_wp2
  rw [rounds_succ]
  go_wp2
  (try go_ret)
  rw [← HEND.out]
  refine ⟨_, _, rfl, ⟨⟨jb, gb, 2, rfl, ?_, ?_, ?_⟩⟩, ?_⟩
  · simp [alloc_cell, setCell_cell, hgj, hgj2, vl, vgl, y0, z0, z1] <;> (intro h; omega)
  · simp [alloc_cell, setCell_cell, hgj, hgj2, vl, vgl, y0, z0, z1] <;> (intro h; omega)
  · simp [alloc_cell, setCell_cell, hgj, hgj2, vl, vgl, y0, z0, z1] <;> (intro h; omega)
  · exact ((Ext.setCell (Ext.setCell (Ext.setCell (Ext.setCell VE.out hwg _) hwj _) hwg _) hwj _).alloc _).alloc _
/-! ### errors.Is, errors.As at two that are joined -/
theorem joUnwrap_c (b : Nat) (v : Value) (w : World) (h : w.cell? ⟨b, 0, none⟩ = some v) : Calls Tryd.prog 92 #[.pointer (some ⟨b, 0, none⟩)] w fun e w' => e = .returned v ∧ w' = w := by
  go_enter Tryd.func92, Tryd.ntmps92
  go_wp2
  go_ret
  exact ⟨rfl, rfl⟩
/-- Two errors, joined. -/
structure JoE (E1 E2 : Er) (w : World) (v : Value) : Prop where
  out : ∃ v1 v2, JoH v1 v2 w v ∧ ErIs w E1 v1 ∧ ErIs w E2 v2
theorem JoE.ext {E1 E2 : Er} {w w' : World} {v : Value} (h : JoE E1 E2 w v) (k : Ext w w') : JoE E1 E2 w' v := by
  obtain ⟨v1, v2, h1, h2, h3⟩ := h.out
  exact ⟨v1, v2, h1.ext k, h2.ext k, h3.ext k⟩

set_option maxHeartbeats 4000000 in
set_option maxRecDepth 20000 in
theorem erIsJo_c (m : Int) (E1 E2 : Er) (v : Value) (w : World) (hv : JoE E1 E2 w v) :
    Calls Tryd.prog 30 #[v, .iface 33 (.int .i64 m), .bool true] w fun e w' => e = .returned (.bool (E1.num == some m || E2.num == some m)) ∧ w' = w := by
  obtain ⟨v1, v2, hJ, he1, he2⟩ := hv.out
  obtain ⟨b, g, c, rfl, c0, c1, c2⟩ := hJ.out
  have HI1 := Lib.hid (erIs_c m E1 v1 w he1)
  have HI2 := Lib.hid (erIs_c m E2 v2 w he2)
  obtain ⟨t1, x1, rfl⟩ := he1.form
  obtain ⟨t2, x2, rfl⟩ := he2.form
  generalize (E1.num == some m) = q1 at *
  generalize (E2.num == some m) = q2 at *
  have ni := er_no_is_jo
  have nu := er_no_un_jo
  have hu := er_has_us_jo
  have mu := er_unwrap_jo
  have t3 : ∀ (a b : Value) (w : World), (binOp .eql 26 (.iface 79 a) (.iface 33 b)).run Tryd.prog w = .ok (.bool false) w := fun a b w => run_eql_iface_types (P := Tryd.prog) _ _ a b Tryd.underlying26 (by decide) w
  clear hv hJ he1 he2
  have tok : True := trivial
  cases q1
  · cases q2
    all_goals
      go_enter Tryd.func30, Tryd.ntmps30
      go_wp2
      refine wp_loop_rounds 1 ?_
      rw [rounds_succ]
      go_wp2_with (first | (go_at_call 92; refine (joUnwrap_c _ _ _ c0).mono ?_; rintro e w1 ⟨rfl, rfl⟩))
      refine wp_loop_rounds 3 ?_
      rw [rounds_succ]
      go_wp2_with (first | (go_at_call 30; with_reducible refine HI1.out.mono ?_; rintro e w2 ⟨rfl, rfl⟩))
      rw [rounds_succ]
      go_wp2_with (first | (go_at_call 30; with_reducible refine HI2.out.mono ?_; rintro e w3 ⟨rfl, rfl⟩))
      (try (rw [rounds_succ]; go_wp2))
      go_ret
      exact ⟨rfl, rfl⟩
  · go_enter Tryd.func30, Tryd.ntmps30
    go_wp2
    refine wp_loop_rounds 1 ?_
    rw [rounds_succ]
    go_wp2_with (first | (go_at_call 92; refine (joUnwrap_c _ _ _ c0).mono ?_; rintro e w1 ⟨rfl, rfl⟩))
    refine wp_loop_rounds 3 ?_
    rw [rounds_succ]
    go_wp2_with (first | (go_at_call 30; with_reducible refine HI1.out.mono ?_; rintro e w2 ⟨rfl, rfl⟩))
    go_ret
    exact ⟨rfl, rfl⟩
theorem errIsJo_c (m : Int) (q : Bool) (E1 E2 : Er) (v : Value) (w : World) (hv : JoE E1 E2 w v) (hq : (E1.num == some m || E2.num == some m) = q) :
    Calls Tryd.prog 16 #[v, .iface 33 (.int .i64 m)] w fun e w' => e = .returned (.bool q) ∧ w' = w := by
  have HI := Lib.hid (erIsJo_c m E1 E2 v w hv)
  obtain ⟨v1, v2, hJ, -, -⟩ := hv.out
  obtain ⟨b, g, c, rfl, -, -, -⟩ := hJ.out
  rw [← hq]
  clear hv hq hJ
  have xTypeOf := @run_callFunc_extern Tryd.prog 29 _ ReflectliteType.typeOf Tryd.func29 (by kernel_rfl) (by kernel_rfl) (by kernel_rfl) (by kernel_rfl)
  have cC := er_comparable
  have to0 := er_typeOf_no
  have mC := er_mComparable
  go_enter Tryd.func16, Tryd.ntmps16
  go_wp2_with (go_at_call 30; refine HI.out.mono ?_; rintro e w1 ⟨rfl, rfl⟩)
  go_ret
  exact ⟨rfl, rfl⟩
end Go.Proofs.YtjlgfkhkjfiadaaDoor
