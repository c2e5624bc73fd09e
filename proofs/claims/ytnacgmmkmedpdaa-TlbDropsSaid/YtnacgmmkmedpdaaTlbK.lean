/- The tlb laws' run: translations behind deeds. -/
import Derived.Test.YtnacgmmkmedpdaaTlbJ
namespace Go.Proofs.Ytnacgmmkmedpdaa
set_option linter.unusedVariables false
set_option linter.unusedSimpArgs false
open Go.RowKit
attribute [local go_sem] wext_cell wext_frozen wext_heap alloc_cell alloc_frozen alloc_heap setCell_cell objCell_cells objFrozen_cells

theorem foldT_ok (r : Nat) (ds : List TDeed) (h : ∀ i, i < ds.length → (tAt ds i).ok) : ∀ j, j ≤ ds.length → LOk (foldT r (ds.take j))
  | 0, _ => fun y hy => by simp [foldT] at hy
  | j + 1, hj => by
    rw [foldT_take r ds j hj]
    exact (foldT_ok r ds h j (by omega)).step (h j hj)
def EndRunT (w : World) (ds : List TDeed) (e : Ending) (w' : World) : Prop :=
  ∃ tb cb F, e = .returned (.pointer (some ⟨tb, 0, none⟩)) ∧ TAt w' tb cb F (foldT 5 (ds.take 100)) 5 ∧ Ext w w' ∧ ∀ x ∈ F, w.heap.size ≤ x
theorem foldT_ok100 (r : Nat) (ds : List TDeed) (h : ∀ i, i < ds.length → (tAt ds i).ok) : LOk (foldT r (ds.take 100)) := by
  by_cases hl : 100 ≤ ds.length
  · exact foldT_ok r ds h 100 hl
  · have := foldT_ok r ds h ds.length (Nat.le_refl _)
    rwa [List.take_of_length_le (Nat.le_refl _), ← List.take_of_length_le (l := ds) (i := 100) (by omega)] at this

theorem tdo5 (tb cb : Nat) (F : List Nat) (L : List (Key × Line)) (v : Value) (d : TDeed) (w : World) (hc : TAt w tb cb F L 5) (ho : RefAt w v L) (hd : d.ok) (hL : LOk L) :
    Calls Try.prog 39 #[.pointer (some ⟨tb, 0, none⟩), .agg #[v, .int .i64 5], d.val] w fun e w' =>
      ∃ v', e = .returned (.agg #[v', .int .i64 5]) ∧ RefAt w' v' (stepT d 5 L) ∧ ∃ F', TAt w' tb cb F' (stepT d 5 L) 5 ∧ Keeps F w w' ∧ ∀ x ∈ F', x ∈ F ∨ w.heap.size ≤ x := tdo_c tb cb F L 5 v d w hc ho hd hL

set_option maxHeartbeats 2000000 in
set_option maxRecDepth 20000 in
theorem run13_c (v : Value) (ds : List TDeed) (w : World) (hds : TDeedsAt w v ds) :
    Calls Try.prog 44 #[v] w (EndRunT w ds) := by
  have HD := Lib.hid hds
  obtain ⟨a, cap, rfl, hn, hm, hok, -⟩ := hds
  unfold maxLen at hm
  have HK := Lib.hid hok
  have HLK := Lib.hid (fun j hj => foldT_ok 5 ds hok j hj)
  have hnew : ∀ w, Calls Try.prog 38 #[.int .i64 5] w fun e w' => ∃ tb cb F, e = .returned (.pointer (some ⟨tb, 0, none⟩)) ∧ TAt w' tb cb F [] 5 ∧ Ext w w' ∧ w.heap.size ≤ tb ∧ ∀ x ∈ F, w.heap.size ≤ x := fun w => tnew_c 5 w (by omega) (by omega)
  have hnew1 : ∀ w, Calls Try.prog 23 #[.int .i64 5] w fun e w' => e = .returned (.agg #[.slice none 0 0, .int .i64 5]) ∧ Ext w w' := fun w => refNew_c 5 w (by omega) (by omega)
  generalize hEnd : EndRunT w ds = E
  unfold EndRunT at hEnd
  have HEND := Aside.mk hEnd
  clear hEnd hok
  have HN := Lib.hid hnew
  have HN1 := Lib.hid hnew1
  clear hnew hnew1
  go_enter Try.func44, Try.ntmps44
  go_upto_region 2 with (first | (go_at_call 38; refine (HN.out _).mono ?_; rintro e w1 ⟨tb, cb, F, rfl, hC, hE, -, hF⟩))
  have HC := Lib.hid hC
  have HE := Lib.hid hE
  have HF := Lib.hid hF
  clear hC hE hF
  go_upto_region 3 with (first | (go_at_call 23; refine (HN1.out _).mono ?_; rintro e w2 ⟨rfl, hb2⟩))
  go_wp2
  refine wp_gen ?_; intro W hW
  have EW : Ext w W := by rw [hW]; exact (HE.out.trans hb2).alloc _
  have E1W : Ext w1 W := by rw [hW]; exact hb2.alloc _
  have x0 : W.heap[w2.heap.size]? = some (.cells #[.slice none 0 0, .int .i64 5] 28 (0, 0)) := by rw [hW]; exact alloc_same ..
  have hxs : w.heap.size ≤ w2.heap.size := (HE.out.trans hb2).size
  have hxl := heap_lt x0
  generalize w2.heap.size = xb at x0 hxs hxl ⊢
  have X0 := Lib.hid x0
  have HEW := Lib.hid EW
  have HCW := Lib.hid (HC.out.ext E1W)
  clear hW EW E1W x0 hb2
  go_loopw [5] (fun i wr => ∃ (j : Nat) (F' : List Nat) (a2 : Option Addr) (c2 : Nat), j ≤ ds.length ∧ j ≤ 100 ∧ i = .int .i64 j ∧ Hid (TAt wr tb cb F' (foldT 5 (ds.take j)) 5 ∧ (∀ x ∈ F', w.heap.size ≤ x) ∧ Ext w wr ∧
    wr.heap[xb]? = some (.cells #[.slice a2 (foldT 5 (ds.take j)).length c2, .int .i64 5] 28 (0, 0)) ∧ RefAt wr (.slice a2 (foldT 5 (ds.take j)).length c2) (foldT 5 (ds.take j)))) (fun i _ => ds.length - (intOf i).toNat)
  case atStart => exact ⟨0, F, none, 0, by omega, by omega, rfl, Lib.hid ⟨HCW.out, HF.out, HEW.out, X0.out, ⟨by simpa [rowP, foldT] using Owns.nil _ _ _, by simp [foldT]⟩⟩⟩
  case round =>
    obtain ⟨j, F', a2, c2, hj, hj2, rfl, hR⟩ := hrel
    by_cases hlt : j < ds.length
    · by_cases h120 : j < 100
      · skip
        obtain ⟨a', cap', he, -, -, -, hcl⟩ := HD.out
        obtain ⟨g, o, e1, e2, e3⟩ := hcl j hlt
        have he' : a = a' := by injection he
        have hstep := foldT_take 5 ds j hlt
        have hdok := HK.out j hlt
        have hLok := HLK.out j hj
        generalize tAt ds j = d at e3 hstep hdok
        subst he'
        subst e1
        have hsw := hR.out.2.2.1.size
        have e3w : ∀ i u, d.cells[i]? = some u → wr.cell? ⟨g, o + j * 16 + i, none⟩ = some u := fun i u hu => hR.out.2.2.1.someCell (e3 i u hu)
        have d0 : wr.cell? ⟨g, o + j * 16, none⟩ = some (.int .i64 d.kind) := e3w 0 _ rfl
        have d1 := e3w 1 _ rfl
        have d2 := e3w 2 _ rfl
        have d3 := e3w 3 _ rfl
        have d4 := e3w 4 _ rfl
        have d5 := e3w 5 _ rfl
        have d6 := e3w 6 _ rfl
        have d7 := e3w 7 _ rfl
        have d8 := e3w 8 _ rfl
        have d9 := e3w 9 _ rfl
        have d10 := e3w 10 _ rfl
        have d11 := e3w 11 _ rfl
        have d12 := e3w 12 _ rfl
        have d13 := e3w 13 _ rfl
        have d14 := e3w 14 _ rfl
        have d15 := e3w 15 _ rfl
        have hgr : g < wr.heap.size := by omega
        have m0 := hR.out.2.2.2.1
        have y0 := (heap_cell m0 0).trans rfl
        have y1 := (heap_cell m0 1).trans rfl
        have hxr := heap_lt m0
        have HS := Aside.mk hstep
        have M0 := Lib.hid m0
        clear m0 he hcl e3 e3w hstep
        go_upto_region 6 with (fail)
        refine region_mix [.q [0, 1, 2, 3, 4, 5], .l 6 2, .l 7 2] (by kernel_rfl) (by kernel_rfl) ?_
        (try refine ⟨fun h => absurd h (by simp), ?_⟩); (repeat (unfold wpPlan; simp only [pickL, List.map_cons, List.map_nil, List.getD_cons_succ, List.getD_cons_zero]; (repeat go_big_quiet_step (fail)); refine wpQuiet_nil ?_)); unfold wpPlan; intro w4 hb4; (try simp only [pickL, List.map_cons, List.map_nil, List.getD_cons_succ, List.getD_cons_zero])
        go_wp2_with (first | (go_at_call 39; refine (tdo5 tb cb F' (foldT 5 (ds.take j)) _ d _ (hR.out.1.ext hb4) (hR.out.2.2.2.2.ext hb4) hdok hLok).mono ?_; rintro e w5 ⟨v5, rfl, hv5, F5, hC5, hK5, hF5⟩; obtain ⟨a5, c5, rfl, -, -⟩ := hv5.1.form))
        have s4 := hb4.size
        have X5 := Lib.hid ((hK5.block xb (by omega) ((hR.out.1.ext hb4).2.apart ((hb4.block _ hxr).trans M0.out) (by decide) (by decide))).trans ((hb4.block _ hxr).trans M0.out))
        have E5 : Ext w w5 := Keeps.to_ext (hR.out.2.2.1.trans hb4) hK5 hR.out.2.1
        have HC5 := Lib.hid hC5
        have HV5 := Lib.hid hv5
        have HE5 := Lib.hid E5
        have HF5 : Hid (∀ x ∈ F5, w.heap.size ≤ x) := Lib.hid fun x hx => (hF5 x hx).elim (hR.out.2.1 x) fun h => by omega
        clear hb4 hC5 hK5 hF5 hv5 E5 d0 d1 d2 d3 d4 d5 d6 d7 d8 d9 d10 d11 d12 d13 d14 d15 y0 y1
        (try refine ⟨fun h => absurd h (by simp), ?_⟩); (repeat (unfold wpPlan; simp only [pickL, List.map_cons, List.map_nil, List.getD_cons_succ, List.getD_cons_zero]; (repeat go_big_quiet_step (fail)); refine wpQuiet_nil ?_)); unfold wpPlan; intro w6 hb6; (try simp only [pickL, List.map_cons, List.map_nil, List.getD_cons_succ, List.getD_cons_zero])
        have x6 := (hb6.block xb (heap_lt X5.out)).trans X5.out
        have g0 := (heap_cell x6 0).trans rfl
        have g1 := (heap_cell x6 1).trans rfl
        have g2 := frozen_of x6
        have X6 := Lib.hid x6
        have HC6 := Lib.hid (HC5.out.ext hb6)
        have HV6 := Lib.hid (HV5.out.ext hb6)
        have HE6 := Lib.hid (HE5.out.trans hb6)
        clear hb6 x6
        go_wp2
        (try refine ⟨fun h => absurd h (by simp), ?_⟩); (repeat (unfold wpPlan; simp only [pickL, List.map_cons, List.map_nil, List.getD_cons_succ, List.getD_cons_zero]; (repeat go_big_quiet_step (fail)); refine wpQuiet_nil ?_)); unfold wpPlan; intro V hb7; (try simp only [pickL, List.map_cons, List.map_nil, List.getD_cons_succ, List.getD_cons_zero])
        have CV : Hid (TAt V tb cb F5 (foldT 5 (ds.take (j + 1))) 5) := Lib.hid (by rw [HS.out]; exact (HC6.out.store2 X6.out).ext hb7)
        have RV : Hid (RefAt V (.slice a5 (foldT 5 (ds.take (j + 1))).length c5) (foldT 5 (ds.take (j + 1)))) := Lib.hid (by rw [HS.out]; exact (HV6.out.store2 X6.out).ext hb7)
        have XV : Hid (V.heap[xb]? = some (.cells #[.slice a5 (foldT 5 (ds.take (j + 1))).length c5, .int .i64 5] 28 (0, 0))) := Lib.hid (by rw [HS.out]; exact (hb7.block xb (by simp; exact heap_lt X6.out)).trans (store2_heap X6.out))
        have EV : Hid (Ext w V) := Lib.hid ((Ext.setCell (Ext.setCell HE6.out (by simp; omega) _) (by simp; omega) _).trans hb7)
        have hLok' := HLK.out (j + 1) hlt
        have ⟨hV1, hV2⟩ := CV.out.2.room
        clear hb7 g0 g1 g2 X5 X6 HC5 HC6 HV5 HV6 HE5 HE6 M0
        go_wp2
        exact ⟨⟨j + 1, F5, a5, c5, by omega, by omega, by go_num, Lib.hid ⟨CV.out, HF5.out, EV.out, XV.out, RV.out⟩⟩, by simp [intOf]; omega⟩
      · have hds : ds.take j = ds.take 100 := by rw [show j = 100 by omega]
        go_wp2
        rw [← HEND.out]
        exact ⟨tb, cb, F', rfl, by rw [← hds]; exact hR.out.1.ext (by repeat (first | exact Ext.refl _ | assumption | refine Ext.alloc ?_ _ | refine Ext.drew ?_ | refine Ext.setCell ?_ (by first | (simp; done) | (dsimp only; omega)) _ | refine Ext.trans ?_ (by assumption))), hR.out.2.2.1.trans (by repeat (first | exact Ext.refl _ | assumption | refine Ext.alloc ?_ _ | refine Ext.drew ?_ | refine Ext.setCell ?_ (by first | (simp; done) | (dsimp only; omega)) _ | refine Ext.trans ?_ (by assumption))), hR.out.2.1⟩
    · have hds : ds.take j = ds.take 100 := by rw [List.take_of_length_le (by omega), List.take_of_length_le (by omega)]
      go_wp2
      rw [← HEND.out]
      exact ⟨tb, cb, F', rfl, by rw [← hds]; exact hR.out.1.ext (by repeat (first | exact Ext.refl _ | assumption | refine Ext.alloc ?_ _ | refine Ext.drew ?_ | refine Ext.setCell ?_ (by first | (simp; done) | (dsimp only; omega)) _ | refine Ext.trans ?_ (by assumption))), hR.out.2.2.1.trans (by repeat (first | exact Ext.refl _ | assumption | refine Ext.alloc ?_ _ | refine Ext.drew ?_ | refine Ext.setCell ?_ (by first | (simp; done) | (dsimp only; omega)) _ | refine Ext.trans ?_ (by assumption))), hR.out.2.1⟩
end Go.Proofs.Ytnacgmmkmedpdaa
