/- The walk laws' helpers: the example's memory; awake. -/
import Derived.Test.YtkoohedbbdgjjaaRSep
import Derived.Test.YtkoohedbbdgjjaaRBuilt08
namespace Go.Proofs.YtkoohedbbdgjjaaR
set_option linter.unusedVariables false
set_option linter.unusedSimpArgs false
open Go.RowKit
attribute [local go_sem] wext_cell wext_frozen wext_heap alloc_cell alloc_frozen alloc_heap setCell_cell objCell_cells objFrozen_cells

theorem built_m (v : Value) (ds : List PutD) (w : World) (h : ListAt w v 4 PutD.cells PutD.ok ds) :
    Calls Try.prog 19 #[v] w fun e w' => ∃ mb, e = .returned (.pointer (some ⟨mb, 0, none⟩)) ∧ MemIn w.heap.size w' mb 16 (builtM (ds.take 100)) [] ∧ Ext w w' :=
  (built_c v ds w h).mono fun e w' h => by
    obtain ⟨mb, F, q1, q2, q3, q4, q5⟩ := h
    exact ⟨mb, q1, ⟨F, q2, q4⟩, q3⟩
def tinyL : List PutD := [⟨0, 1, 7, 0⟩, ⟨8, 2, 7, 0⟩, ⟨16, 3, 7, 0⟩, ⟨24, 4, 7, 0⟩]
theorem tiny_at {W : World} {g : Nat} {e : TypeId} (h : W.heap[g]? = some (.cells #[.int .u16 0, .int .u16 1, .int .u8 7, .int .u64 0, .int .u16 8, .int .u16 2, .int .u8 7, .int .u64 0, .int .u16 16, .int .u16 3, .int .u8 7, .int .u64 0, .int .u16 24, .int .u16 4, .int .u8 7, .int .u64 0] e (0, 0))) :
    ListAt W (.slice (some ⟨g, 0, none⟩) 4 4) 4 PutD.cells PutD.ok tinyL := by
  refine ⟨some ⟨g, 0, none⟩, 4, rfl, by simp [tinyL], by simp [maxLen], fun i hi => ?_, fun i hi => ⟨g, 0, rfl, heap_lt h, fun j u hu => ?_⟩⟩
  · have : i = 0 ∨ i = 1 ∨ i = 2 ∨ i = 3 := by simp [tinyL] at hi; omega
    rcases this with rfl | rfl | rfl | rfl <;> (simp only [tinyL, List.getD_cons_zero, List.getD_cons_succ, PutD.ok]; omega)
  · have hj : j < 4 := by have := (List.getElem?_eq_some_iff.1 hu).1; simpa [PutD.cells] using this
    have hi' : i = 0 ∨ i = 1 ∨ i = 2 ∨ i = 3 := by simp [tinyL] at hi; omega
    have hj' : j = 0 ∨ j = 1 ∨ j = 2 ∨ j = 3 := by omega
    rw [heap_cell h]
    rcases hi' with rfl | rfl | rfl | rfl <;> rcases hj' with rfl | rfl | rfl | rfl <;> exact hu
theorem tiny_c (w : World) : Calls Try.prog 68 #[] w fun e w' => ∃ v, e = .returned v ∧ ListAt w' v 4 PutD.cells PutD.ok tinyL ∧ Ext w w' := by
  generalize hE : (fun (e : Ending) (w' : World) => ∃ v, e = .returned v ∧ ListAt w' v 4 PutD.cells PutD.ok tinyL ∧ Ext w w') = E
  have HE := Lib.hid hE
  clear hE
  go_enter Try.func68, Try.ntmps68
  go_wp2
  all_goals
    (try go_ret)
    rw [← HE.out]
    exact ⟨_, rfl, tiny_at (alloc_same ..), (by repeat (first | exact Ext.refl _ | assumption | refine Ext.alloc ?_ _ | refine Ext.drew ?_ | refine Ext.setCell ?_ (by first | (simp; done) | (dsimp only; omega)) _ | refine Ext.trans ?_ (by assumption)))⟩
theorem ex8_1 : walkF (fun _ => 0) 16 true 0 4 4096 allRt = ([((4 : Int), (4096 : Int), (0 : Int))], 1, noRt, 0, 0) := by decide +kernel
theorem ex8_2 : (walkF (builtM (tinyL.take 100)) 16 true 0 4 0 allRt).1.length = 4 ∧ (walkF (builtM (tinyL.take 100)) 16 true 0 4 0 allRt).2 = (0, allRt, 1, 16384) := by decide +kernel
set_option maxHeartbeats 1000000 in
set_option maxRecDepth 20000 in
theorem awake08_c (w : World) : Calls Try.prog 18 #[] w fun e w' => e = .returned (.bool true) ∧ Ext w w' := by
  have HN := Lib.hid (fun w => new_m 16 w ⟨by omega, by omega⟩)
  have t1 : ∀ w, Calls Try.prog 22 #[.int .u64 4096] w fun e w' => e = .returned (.agg #[.int .i64 4, .int .u64 4096, .bool true, .bool true, .bool true]) ∧ Ext w w' := fun w => wTop_c 4096 w (by omega) (by omega)
  have t2 : ∀ w, Calls Try.prog 22 #[.int .u64 0] w fun e w' => e = .returned (.agg #[.int .i64 4, .int .u64 0, .bool true, .bool true, .bool true]) ∧ Ext w w' := fun w => wTop_c 0 w (by omega) (by omega)
  have T1 := Lib.hid t1
  have T2 := Lib.hid t2
  clear t1 t2
  go_enter Try.func18, Try.ntmps18
  go_upto_region 4 with (first | (go_at_call 67; refine (HN.out _).mono ?_; rintro e w1 ⟨mb, rfl, hM, hE⟩))
  have M1 := Lib.hid hM
  have E1 := Lib.hid hE
  clear hM hE
  go_upto_region 5 with (first | (go_at_call 22; refine (T1.out _).mono ?_; rintro e w2 ⟨rfl, hb2⟩) | (go_at_call 21; refine (from_m w.heap.size mb 16 (fun _ => 0) [] 4 4096 allRt 0 true _ (M1.out.ext (by repeat (first | exact Ext.refl _ | assumption | refine Ext.alloc ?_ _ | refine Ext.drew ?_ | refine Ext.setCell ?_ (by first | (simp; done) | (dsimp only; omega)) _ | refine Ext.trans ?_ (by assumption)))) (E1.out.trans (by repeat (first | exact Ext.refl _ | assumption | refine Ext.alloc ?_ _ | refine Ext.drew ?_ | refine Ext.setCell ?_ (by first | (simp; done) | (dsimp only; omega)) _ | refine Ext.trans ?_ (by assumption)))).size (by omega) (by omega) (by omega) (by omega) (by omega) (by simp)).mono ?_; rw [ex8_1]; rintro e w3 ⟨sa, sc, rfl, hS, hM3, hP3⟩))
  refine wp_gen ?_; intro U hU
  have hP := Ext.trans (E1.out.trans (Ext.trans (by repeat (first | exact Ext.refl _ | assumption | refine Ext.alloc ?_ _ | refine Ext.drew ?_ | refine Ext.setCell ?_ (by first | (simp; done) | (dsimp only; omega)) _ | refine Ext.trans ?_ (by assumption))) hb2)) (Ext.refl _)
  have hEW : Ext w U := by rw [hU]; exact (Sep.to_ext ((Sep.of_ext (hP) (Nat.le_refl _)).trans hP3)).alloc _
  have hMU : MemIn w.heap.size U mb 16 (fun _ => 0) [4096] := by rw [hU]; exact hM3.ext ((Ext.refl _).alloc _)
  have hPU : PathAt U w3.heap.size sa sc ([((4 : Int), (4096 : Int), (0 : Int))], 1, noRt, 0, 0) := by rw [hU]; exact ⟨alloc_same .., hS.ext ((Ext.refl _).alloc _)⟩
  obtain ⟨pb, hpb⟩ : ∃ pb, w3.heap.size = pb := ⟨_, rfl⟩
  rw [hpb] at hPU ⊢
  have EU := Lib.hid hEW
  have MU := Lib.hid hMU
  have PU := Lib.hid hPU
  clear hU hP hEW hMU hPU hpb hS hM3 hP3 hb2
  go_upto_region 6 with (first | (go_at_call 68; refine (tiny_c _).mono ?_; rintro e w4 ⟨tv, rfl, hTl, hb4⟩) | (go_at_call 19; refine (built_m tv tinyL _ hTl).mono ?_; rintro e w5 ⟨kb, rfl, hK, hb5⟩))
  have K5 := Lib.hid hK
  have E5 : Hid (Ext U w5) := Lib.hid (Ext.trans (by repeat (first | exact Ext.refl _ | assumption | refine Ext.alloc ?_ _ | refine Ext.drew ?_ | refine Ext.setCell ?_ (by first | (simp; done) | (dsimp only; omega)) _ | refine Ext.trans ?_ (by assumption))) hb5)
  have hz4 : Hid (U.heap.size ≤ w4.heap.size) := Lib.hid (Ext.size (Ext.trans (by repeat (first | exact Ext.refl _ | assumption | refine Ext.alloc ?_ _ | refine Ext.drew ?_ | refine Ext.setCell ?_ (by first | (simp; done) | (dsimp only; omega)) _ | refine Ext.trans ?_ (by assumption))) hb4))
  clear hK hb5 hb4 hTl
  go_upto_region 7 with (first | (go_at_call 22; refine (T2.out _).mono ?_; rintro e w6 ⟨rfl, hb6⟩) | (go_at_call 21; refine (from_m U.heap.size kb 16 (builtM (tinyL.take 100)) [] 4 0 allRt 0 true _ ((K5.out.mono hz4.out).ext (by repeat (first | exact Ext.refl _ | assumption | refine Ext.alloc ?_ _ | refine Ext.drew ?_ | refine Ext.setCell ?_ (by first | (simp; done) | (dsimp only; omega)) _ | refine Ext.trans ?_ (by assumption)))) (Nat.le_trans E5.out.size (Ext.size (Ext.trans (by repeat (first | exact Ext.refl _ | assumption | refine Ext.alloc ?_ _ | refine Ext.drew ?_ | refine Ext.setCell ?_ (by first | (simp; done) | (dsimp only; omega)) _ | refine Ext.trans ?_ (by assumption))) hb6))) (by omega) (by omega) (by omega) (by omega) (by omega) (by simp)).mono ?_; rintro e w7 ⟨sa7, sc7, rfl, hS7, hM7, hP7⟩))
  refine wp_gen ?_; intro U2 hU2
  have hs6 : Ext w5 w6 := Ext.trans (by repeat (first | exact Ext.refl _ | assumption | refine Ext.alloc ?_ _ | refine Ext.drew ?_ | refine Ext.setCell ?_ (by first | (simp; done) | (dsimp only; omega)) _ | refine Ext.trans ?_ (by assumption))) hb6
  have hSep : Sep U.heap.size U U2 := by rw [hU2]; exact ((Sep.of_ext (E5.out.trans hs6) (Nat.le_refl _)).trans hP7).ext ((Ext.refl _).alloc _) (Nat.le_refl _)
  obtain ⟨q7, hq7⟩ : ∃ q7, walkF (builtM (tinyL.take 100)) 16 true 0 4 0 allRt = q7 := ⟨_, rfl⟩
  rw [hq7] at hS7
  have hQ : PathAt U2 w7.heap.size sa7 sc7 q7 := by rw [hU2, hq7]; exact ⟨alloc_same .., hS7.ext ((Ext.refl _).alloc _)⟩
  have hP := PU.out.sep hSep
  have hM2 := MU.out.sep hSep (Nat.le_refl _)
  have hE2 : Ext w U2 := EU.out.trans hSep.to_ext
  have ⟨hl4, hr4⟩ := ex8_2
  rw [hq7] at hl4 hr4
  obtain ⟨ql, qr⟩ := q7
  dsimp only at hl4 hr4
  subst hr4
  obtain ⟨⟨c0, c1, -⟩, hpl⟩ := hP.facts
  obtain ⟨⟨k0, k1, -, -, -, k5, k6⟩, hql⟩ := hQ.facts
  obtain ⟨g, rfl, hg, -, s1, -⟩ := hP.2.step (i := 0) (by simp) rfl
  have HM2 := Lib.hid hM2
  have HE2 := Lib.hid hE2
  rw [hl4] at k0
  dsimp only at c1 k1 k5 k6
  clear hU2 hs6 hSep hQ hP hM2 hE2 hS7 hM7 hP7 hb6 hq7
  go_wp2_with (first | (go_at_call 25; refine (trace_m w.heap.size mb 16 _ [4096] _ (HM2.out.ext (by repeat (first | exact Ext.refl _ | assumption | refine Ext.alloc ?_ _ | refine Ext.drew ?_ | refine Ext.setCell ?_ (by first | (simp; done) | (dsimp only; omega)) _ | refine Ext.trans ?_ (by assumption)))) (by simp)).mono ?_; rintro e w8 ⟨v8, rfl, hS8, hE8, -⟩; obtain ⟨a8, c8, rfl, -, -⟩ := hS8.form; have ⟨hc, hf, hh, hs⟩ := hE8.facts))
  go_ret
  exact ⟨rfl, HE2.out.trans (by repeat (first | exact Ext.refl _ | assumption | refine Ext.alloc ?_ _ | refine Ext.drew ?_ | refine Ext.setCell ?_ (by first | (simp; done) | (dsimp only; omega)) _ | refine Ext.trans ?_ (by assumption)))⟩
end Go.Proofs.YtkoohedbbdgjjaaR
