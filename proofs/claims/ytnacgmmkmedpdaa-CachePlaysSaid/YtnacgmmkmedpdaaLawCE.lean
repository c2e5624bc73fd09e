/- The cache laws' run: a cache behind deeds. -/
import Derived.Test.YtnacgmmkmedpdaaLawCD
namespace Go.Proofs.Ytnacgmmkmedpdaa
set_option linter.unusedVariables false
set_option linter.unusedSimpArgs false
open Go.RowKit
attribute [local go_sem] wext_cell wext_frozen wext_heap alloc_cell alloc_frozen alloc_heap setCell_cell objCell_cells objFrozen_cells

def dAt (ds : List Deed) (i : Nat) : Deed := ds.getD i default
/-- A slice of deeds. -/
def DeedsAt (w : World) (v : Value) (ds : List Deed) : Prop :=
  ∃ a cap, v = .slice a ds.length cap ∧ ds.length ≤ cap ∧ cap ≤ maxLen ∧ (∀ i, i < ds.length → (dAt ds i).ok) ∧
    ∀ i, i < ds.length → ∃ g o, a = some ⟨g, o, none⟩ ∧ g < w.heap.size ∧ ∀ j u, (dAt ds i).cells[j]? = some u → w.cell? ⟨g, o + i * 11 + j, none⟩ = some u
theorem DeedsAt.ext {w w' : World} {v : Value} {ds : List Deed} (h : DeedsAt w v ds) (k : Ext w w') : DeedsAt w' v ds := by
  obtain ⟨a, cap, h1, h2, h3, h4, h5⟩ := h
  refine ⟨a, cap, h1, h2, h3, h4, fun i hi => ?_⟩
  obtain ⟨g, o, e1, e2, e3⟩ := h5 i hi
  exact ⟨g, o, e1, Nat.lt_of_lt_of_le e2 k.size, fun j u hu => k.someCell (e3 j u hu)⟩

def foldD (r : Nat) (ds : List Deed) : List (Key × Line) := ds.foldl (fun L d => stepL d r L) []
theorem foldD_take (r : Nat) (ds : List Deed) (j : Nat) (h : j < ds.length) : foldD r (ds.take (j + 1)) = stepL (dAt ds j) r (foldD r (ds.take j)) := by
  have e : ds.take (j + 1) = ds.take j ++ [dAt ds j] := by rw [List.take_add_one, List.getElem?_eq_getElem h]; simp [dAt, List.getD, h]
  rw [e, foldD, List.foldl_append]; rfl
theorem putC_length {k : Key} {x : Line} {pick : Int} {r : Nat} {L : List (Key × Line)} (h : L.length ≤ r) : (putC k x pick r L).length ≤ r := by
  unfold putC
  split
  · exact h
  · rename_i h0
    split
    · rename_i h1
      rw [← keysOf_length, keysOf_putL h1, keysOf_length]; exact h
    · rw [List.length_append]
      split
      · simp; omega
      · rw [evictL_length (by omega)]; simp; omega
theorem stepL_length {d : Deed} {r : Nat} {L : List (Key × Line)} (h : L.length ≤ r) : (stepL d r L).length ≤ r := by
  unfold stepL
  split
  · exact putC_length h
  split
  · unfold delL; split
    · exact Nat.le_trans (List.length_eraseIdx_le ..) h
    · exact h
  split
  · exact Nat.le_trans (filtL_length _ _) h
  split
  · simp
  split
  · exact Nat.le_trans (evictL_sub.length_le) h
  · exact h
theorem foldD_length (r : Nat) : ∀ (ds : List Deed) (L : List (Key × Line)), L.length ≤ r → (ds.foldl (fun L d => stepL d r L) L).length ≤ r
  | [], _, h => h
  | d :: ds, L, h => foldD_length r ds _ (stepL_length h)

theorem CAt.store2 {w : World} {cb b : Nat} {F : List Nat} {L : List (Key × Line)} {r : Nat} {c0 c1 v0 v1 : Value} (h : CAt w cb F L r) (hb : w.heap[b]? = some (.cells #[c0, c1] 28 (0, 0))) :
    CAt ((w.setCell ⟨b, 0, none⟩ v0).setCell ⟨b, 1, none⟩ v1) cb F L r :=
  h.keeps (G := [b]) (((Keeps.refl _ _).setCell (.inl (by simp)) _).setCell (.inl (by simp)) _) fun x hx => by
    simp only [List.mem_singleton]
    rintro rfl
    exact h.apart hb (by decide) (by decide) hx
theorem store2_other {w : World} {b b' : Nat} {v0 v1 : Value} (h : b ≠ b') : ((w.setCell ⟨b, 0, none⟩ v0).setCell ⟨b, 1, none⟩ v1).heap[b']? = w.heap[b']? := by
  rw [setCell_heap _ _ _ _ _ h, setCell_heap _ _ _ _ _ h]

/-- What run leaves. -/
def EndRun (w : World) (room : Int) (ds : List Deed) (e : Ending) (w' : World) : Prop :=
  ∃ cb F, e = .returned (.pointer (some ⟨cb, 0, none⟩)) ∧ CAt w' cb F (foldD (1 + (room % 8).toNat) (ds.take 120)) (1 + (room % 8).toNat) ∧ Ext w w' ∧ ∀ x ∈ F, w.heap.size ≤ x

set_option maxHeartbeats 2000000 in
set_option maxRecDepth 20000 in
theorem run_c (room : Int) (v : Value) (ds : List Deed) (w : World) (h0 : 0 ≤ room) (h1 : room ≤ 255) (hds : DeedsAt w v ds) :
    Calls Try.prog 26 #[.int .u8 room, v] w (EndRun w room ds) := by
  have HD := Lib.hid hds
  obtain ⟨a, cap, rfl, hn, hm, hok, -⟩ := hds
  unfold maxLen at hm
  have HK := Lib.hid hok
  have hrr : clampR (1 + room % 8) = 1 + (room % 8).toNat := by unfold clampR; rw [if_neg (by omega), if_neg (by omega)]; omega
  have hnew := fun w => new_c (1 + room % 8) w (by omega) (by omega)
  have hr8 : 1 + (room % 8).toNat ≤ 8 := by omega
  unfold EndNew at hnew
  rw [hrr] at hnew
  have HN := Lib.hid hnew
  generalize hEnd : EndRun w room ds = E
  unfold EndRun at hEnd
  generalize 1 + (room % 8).toNat = r at *
  have HEND := Aside.mk hEnd
  clear hEnd hok hrr hnew
  have hnew1 : ∀ w, Calls Try.prog 23 #[.int .i64 1] w fun e w' => e = .returned (.agg #[.slice none 0 0, .int .i64 1]) ∧ Ext w w' := fun w => refNew_c 1 w (by omega) (by omega)
  go_enter Try.func26, Try.ntmps26
  go_upto_region 2 with (first | (go_at_call 22; refine (HN.out _).mono ?_; rintro e w1 ⟨cb, F, rfl, hC, hE, hF⟩))
  have HC := Lib.hid hC
  have HE := Lib.hid hE
  have HF := Lib.hid hF
  clear hC hE hF
  go_upto_region 3 with (first | (go_at_call 23; refine (hnew1 _).mono ?_; rintro e w2 ⟨rfl, hb2⟩))
  go_wp2
  refine wp_gen ?_; intro W hW
  have EW : Ext w W := by rw [hW]; exact (HE.out.trans hb2).alloc _
  have E1W : Ext w1 W := by rw [hW]; exact hb2.alloc _
  have x0 : W.heap[w2.heap.size]? = some (.cells #[.slice none 0 0, .int .i64 1] 28 (0, 0)) := by rw [hW]; exact alloc_same ..
  have hxs : w.heap.size ≤ w2.heap.size := (HE.out.trans hb2).size
  have hxl := heap_lt x0
  generalize w2.heap.size = xb at x0 hxs hxl ⊢
  have X0 := Lib.hid x0
  have HEW := Lib.hid EW
  have HCW := Lib.hid (HC.out.ext E1W)
  clear hW EW E1W x0 hb2
  go_loopw [7] (fun i wr => ∃ (j : Nat) (F' : List Nat) (L2 : List (Key × Line)) (a2 : Option Addr) (c2 : Nat), j ≤ ds.length ∧ j ≤ 120 ∧ i = .int .i64 j ∧ Hid (CAt wr cb F' (foldD r (ds.take j)) r ∧ (∀ x ∈ F', w.heap.size ≤ x) ∧ Ext w wr ∧
    wr.heap[xb]? = some (.cells #[.slice a2 L2.length c2, .int .i64 1] 28 (0, 0)) ∧ RefAt wr (.slice a2 L2.length c2) L2 ∧ L2.length ≤ 1)) (fun i _ => ds.length - (intOf i).toNat)
  case atStart => exact ⟨0, F, [], none, 0, by omega, by omega, rfl, Lib.hid ⟨HCW.out, HF.out, HEW.out, X0.out, ⟨by simpa [rowP] using Owns.nil _ _ _, by simp⟩, by simp⟩⟩
  case round =>
    obtain ⟨j, F', L2, a2, c2, hj, hj2, rfl, hR⟩ := hrel
    by_cases hlt : j < ds.length
    · by_cases h120 : j < 120
      · obtain ⟨a', cap', he, -, -, -, hcl⟩ := HD.out
        obtain ⟨g, o, e1, e2, e3⟩ := hcl j hlt
        have he' : a = a' := by injection he
        have hstep := foldD_take r ds j hlt
        have hdok := HK.out j hlt
        generalize dAt ds j = d at e3 hstep hdok
        subst he'
        subst e1
        have hsw := hR.out.2.2.1.size
        have e3w : ∀ i u, d.cells[i]? = some u → wr.cell? ⟨g, o + j * 11 + i, none⟩ = some u := fun i u hu => hR.out.2.2.1.someCell (e3 i u hu)
        have d0 : wr.cell? ⟨g, o + j * 11, none⟩ = some (.int .i64 d.kind) := e3w 0 _ rfl
        have d1 := e3w 1 _ rfl
        have d2 := e3w 2 _ rfl
        have d3 := e3w 3 _ rfl
        have d4 := e3w 4 _ rfl
        have d5 := e3w 5 _ rfl
        have d6 := e3w 6 _ rfl
        have d7 := e3w 7 _ rfl
        have d8 := e3w 8 _ rfl
        have d9 := e3w 9 _ rfl
        have d10 := e3w 10 _ rfl
        have hgr : g < wr.heap.size := by omega
        have m0 := hR.out.2.2.2.1
        have y0 := (heap_cell m0 0).trans rfl
        have y1 := (heap_cell m0 1).trans rfl
        have hxr := heap_lt m0
        have HS := Aside.mk hstep
        have hb0 := frozen_of m0
        have M0 := Lib.hid m0
        clear m0 he hcl e3 e3w hstep
        go_upto_region 6 with (fail)
        refine region_mixA 10 (.cells #[.slice none 0 0, .int .i64 0] 28 (0, 0)) [.q [0, 1, 2, 3, 4, 5], .l 6 6, .b [7, 8, 9], .l 10 4, .l 11 2, .q [12]] (by kernel_rfl) (by kernel_rfl) (alloc_runA rfl (by kernel_rfl : _ = some (some (Value.agg (#[.slice none 0 0, .int .i64 0])))) rfl) ?_
        (repeat (unfold wpPlanA; simp only [pickL, List.map_cons, List.map_nil, List.getD_cons_succ, List.getD_cons_zero]; (repeat go_big_quiet_step (fail)); refine wpQuiet_nil ?_)); unfold wpPlanA; intro w4 hb4; (try simp only [pickL, List.map_cons, List.map_nil, List.getD_cons_succ, List.getD_cons_zero])
        go_wp2_with (first | (go_at_call 24; refine (do_c cb F' _ r L2 1 _ d _ (hR.out.1.ext hb4) (hR.out.2.2.2.2.1.ext hb4) hdok hR.out.2.2.2.2.2 (by omega)).mono ?_; rintro e w5 ⟨v5, rfl, hv5, F5, hC5, hK5, hF5⟩; obtain ⟨a5, c5, rfl, -, -⟩ := hv5.1.form))
        have s4 := hb4.size
        have s5 := hK5.size
        refine ⟨⟨by omega, fun h => absurd h (by omega), fun _ b hb hbo => (hK5.block b (heap_lt hbo) ((hR.out.1.ext hb4).apart hbo (by decide) (by decide))).trans hbo⟩, ?_⟩
        have X5 := Lib.hid ((hK5.block xb (by omega) ((hR.out.1.ext hb4).apart ((hb4.block _ hxr).trans M0.out) (by decide) (by decide))).trans ((hb4.block _ hxr).trans M0.out))
        have E5 : Ext w w5 := Keeps.to_ext (hR.out.2.2.1.trans hb4) hK5 hR.out.2.1
        have HC5 := Lib.hid hC5
        have HV5 := Lib.hid hv5
        have HE5 := Lib.hid E5
        have HF5 : Hid (∀ x ∈ F5, w.heap.size ≤ x) := Lib.hid fun x hx => (hF5 x hx).elim (hR.out.2.1 x) fun h => by omega
        clear hb4 hC5 hK5 hF5 hv5 E5 d0 d1 d2 d3 d4 d5 d6 d7 d8 d9 d10 y0 y1 hb0
        (repeat (unfold wpPlanA; simp only [pickL, List.map_cons, List.map_nil, List.getD_cons_succ, List.getD_cons_zero]; (repeat go_big_quiet_step (fail)); refine wpQuiet_nil ?_)); unfold wpPlanA; intro b w6 hb6 hb6B hb6O; simp only [List.getD_cons_succ, List.getD_cons_zero, ptrTo]; simp only [Act.put, Array.set!_eq_setIfInBounds, List.setIfInBounds_toArray, List.set_cons_succ, List.set_cons_zero]
        have O6 := Lib.hid hb6O
        have hl6 := heap_lt hb6O
        have HB6 := Lib.hid hb6
        have s6 := hb6.size
        clear hb6 hb6O
        (repeat (unfold wpPlanA; simp only [pickL, List.map_cons, List.map_nil, List.getD_cons_succ, List.getD_cons_zero]; (repeat go_big_quiet_step (fail)); refine wpQuiet_nil ?_)); unfold wpPlanA; intro w7 hb7; (try simp only [pickL, List.map_cons, List.map_nil, List.getD_cons_succ, List.getD_cons_zero])
        have s7 := hb7.size
        have b7 := (hb7.block b hl6).trans O6.out
        have g0 := (heap_cell b7 0).trans rfl
        have g1 := (heap_cell b7 1).trans rfl
        have g2 := frozen_of b7
        have B7 := Lib.hid b7
        have HB7 := Lib.hid (HB6.out.trans hb7)
        clear b7 hb7
        go_wp2
        refine ⟨⟨by simp; omega, fun h => absurd h (by omega), fun h => absurd h (by omega)⟩, ?_⟩
        (repeat (unfold wpPlanA; simp only [pickL, List.map_cons, List.map_nil, List.getD_cons_succ, List.getD_cons_zero]; (repeat go_big_quiet_step (fail)); refine wpQuiet_nil ?_)); unfold wpPlanA; intro w8 hb8; (try simp only [pickL, List.map_cons, List.map_nil, List.getD_cons_succ, List.getD_cons_zero])
        have s8 := hb8.size
        simp only [World.size_setCell] at s8
        have b8 := (hb8.block b (by simp; omega)).trans (store2_heap B7.out)
        have i0 := (heap_cell b8 0).trans rfl
        have i1 := (heap_cell b8 1).trans rfl
        have x8 := (hb8.block xb (by simp; omega)).trans ((store2_other (by omega)).trans ((HB7.out.block xb (by omega)).trans X5.out))
        have i2 := (heap_cell x8 0).trans rfl
        have i3 := (heap_cell x8 1).trans rfl
        have i4 := frozen_of x8
        have X8 := Lib.hid x8
        have C8 := Lib.hid (((HC5.out.ext HB7.out).store2 B7.out).ext hb8)
        have V8 := Lib.hid (((HV5.out.ext HB7.out).store2 B7.out).ext hb8)
        have E8 : Hid (Ext w w8) := Lib.hid ((Ext.setCell (Ext.setCell (HE5.out.trans HB7.out) (by simp; omega) _) (by simp; omega) _).trans hb8)
        clear b8 x8 hb8 g0 g1 g2
        go_wp2
        refine ⟨⟨j + 1, F5, stepL d 1 L2, a5, c5, by omega, by omega, by go_num, Lib.hid ⟨by rw [HS.out]; exact C8.out.store2 X8.out, HF5.out, ?_, store2_heap X8.out, V8.out.store2 X8.out, stepL_length hR.out.2.2.2.2.2⟩⟩, by simp [intOf]; omega⟩
        exact Ext.setCell (Ext.setCell E8.out (by simp; omega) _) (by simp; omega) _
      · have hds : ds.take j = ds.take 120 := by rw [show j = 120 by omega]
        go_wp2
        rw [← HEND.out]
        exact ⟨cb, F', rfl, by rw [← hds]; exact hR.out.1.ext (by repeat (first | exact Ext.refl _ | assumption | refine Ext.alloc ?_ _ | refine Ext.drew ?_ | refine Ext.setCell ?_ (by first | (simp; done) | (dsimp only; omega)) _ | refine Ext.trans ?_ (by assumption))), hR.out.2.2.1.trans (by repeat (first | exact Ext.refl _ | assumption | refine Ext.alloc ?_ _ | refine Ext.drew ?_ | refine Ext.setCell ?_ (by first | (simp; done) | (dsimp only; omega)) _ | refine Ext.trans ?_ (by assumption))), hR.out.2.1⟩
    · have hds : ds.take j = ds.take 120 := by rw [List.take_of_length_le (by omega), List.take_of_length_le (by omega)]
      go_wp2
      rw [← HEND.out]
      exact ⟨cb, F', rfl, by rw [← hds]; exact hR.out.1.ext (by repeat (first | exact Ext.refl _ | assumption | refine Ext.alloc ?_ _ | refine Ext.drew ?_ | refine Ext.setCell ?_ (by first | (simp; done) | (dsimp only; omega)) _ | refine Ext.trans ?_ (by assumption))), hR.out.2.2.1.trans (by repeat (first | exact Ext.refl _ | assumption | refine Ext.alloc ?_ _ | refine Ext.drew ?_ | refine Ext.setCell ?_ (by first | (simp; done) | (dsimp only; omega)) _ | refine Ext.trans ?_ (by assumption))), hR.out.2.1⟩
end Go.Proofs.Ytnacgmmkmedpdaa
