/- TlbRoom: there are never more lines than there is room for; picked, one line less is there: for all deeds, every room and every pick. -/
import Derived.Test.YtnacgmmkmedpdaaTlbK
namespace Go.Proofs.Ytnacgmmkmedpdaa
set_option linter.unusedVariables false
set_option linter.unusedSimpArgs false
open Go.RowKit
attribute [local go_sem] wext_cell wext_frozen wext_heap alloc_cell alloc_frozen alloc_heap setCell_cell objCell_cells objFrozen_cells

set_option maxHeartbeats 4000000 in
set_option maxRecDepth 20000 in
theorem tlbRoom_c (v : Value) (ds : List TDeed) (room pick : Int) (w : World) (h0 : 0 ≤ room) (h1 : room ≤ 255) (hp0 : -9223372036854775808 ≤ pick) (hp1 : pick ≤ 9223372036854775807) (hds : TDeedsAt w v ds) :
    Calls Try.prog 14 #[v, .int .u8 room, .int .i64 pick] w fun e w' => e = .returned (.bool true) ∧ Ext w w' := by
  have HD := Lib.hid hds
  obtain ⟨a, cap, rfl, hn, hm, hok, -⟩ := hds
  unfold maxLen at hm
  have HK := Lib.hid hok
  have hnew := fun w => tnew_c (room % 5) w (by omega) (by omega)
  have hnew1 := fun w => refNew_c (room % 5) w (by omega) (by omega)
  unfold EndTNew at hnew
  have hr64 := clampR_le (room % 5)
  have hra : (clampR (room % 5) : Int) ≤ room % 5 := by unfold clampR; rw [if_neg (by omega)]; split <;> omega
  generalize clampR (room % 5) = r at *
  have HLK := Lib.hid (fun j hj => foldT_ok r ds hok j hj)
  have HN := Lib.hid hnew
  have HN1 := Lib.hid hnew1
  clear hok hnew hnew1
  go_enter Try.func14, Try.ntmps14
  go_upto_region 4 with (first | (go_at_call 37; refine (awake13_c _).mono ?_; rintro e w0 ⟨rfl, hb0⟩) | (go_at_call 38; refine (HN.out _).mono ?_; rintro e w1 ⟨tb, cb, F, rfl, hC, hE, -, hF⟩))
  have HC := Lib.hid hC
  have HE := Lib.hid (hb0.trans hE)
  have hFw : ∀ x ∈ F, w.heap.size ≤ x := fun x hx => by have := hF x hx; have := hb0.size; omega
  have HF := Lib.hid hFw
  clear hC hE hF hFw hb0
  go_upto_region 7 with (first | (go_at_call 23; refine (HN1.out _).mono ?_; rintro e w2 ⟨rfl, hb2⟩))
  go_wp2
  refine wp_gen ?_; intro W hW
  have EW : Ext w W := by rw [hW]; exact (HE.out.trans (Ext.trans (by repeat (first | exact Ext.refl _ | assumption | refine Ext.alloc ?_ _ | refine Ext.drew ?_ | refine Ext.setCell ?_ (by first | (simp; done) | (dsimp only; omega)) _ | refine Ext.trans ?_ (by assumption))) hb2)).alloc _
  have E1W : Ext w1 W := by rw [hW]; exact (Ext.trans (by repeat (first | exact Ext.refl _ | assumption | refine Ext.alloc ?_ _ | refine Ext.drew ?_ | refine Ext.setCell ?_ (by first | (simp; done) | (dsimp only; omega)) _ | refine Ext.trans ?_ (by assumption))) hb2).alloc _
  have x0 : W.heap[w2.heap.size]? = some (.cells #[.slice none 0 0, .int .i64 r] 28 (0, 0)) := by rw [hW]; exact alloc_same ..
  have hxs : w.heap.size ≤ w2.heap.size := (HE.out.trans (Ext.trans (by repeat (first | exact Ext.refl _ | assumption | refine Ext.alloc ?_ _ | refine Ext.drew ?_ | refine Ext.setCell ?_ (by first | (simp; done) | (dsimp only; omega)) _ | refine Ext.trans ?_ (by assumption))) hb2)).size
  have hxl := heap_lt x0
  generalize w2.heap.size = xb at x0 hxs hxl ⊢
  have X0 := Lib.hid x0
  have HEW := Lib.hid EW
  have HCW := Lib.hid (HC.out.ext E1W)
  clear hW EW E1W x0 hb2
  go_loopw [11] (fun i wr => ∃ (j : Nat) (F' : List Nat) (a2 : Option Addr) (c2 : Nat), j ≤ ds.length ∧ j ≤ 100 ∧ i = .int .i64 j ∧ Hid (TAt wr tb cb F' (foldT r (ds.take j)) r ∧ (∀ x ∈ F', w.heap.size ≤ x) ∧ Ext w wr ∧
    wr.heap[xb]? = some (.cells #[.slice a2 (foldT r (ds.take j)).length c2, .int .i64 r] 28 (0, 0)) ∧ RefAt wr (.slice a2 (foldT r (ds.take j)).length c2) (foldT r (ds.take j)))) (fun i _ => ds.length - (intOf i).toNat)
  case atStart => exact ⟨0, F, none, 0, by omega, by omega, rfl, Lib.hid ⟨HCW.out, HF.out, HEW.out, X0.out, ⟨by simpa [rowP, foldT] using Owns.nil _ _ _, by simp [foldT]⟩⟩⟩
  case round =>
    obtain ⟨j, F', a2, c2, hj, hj2, rfl, hR⟩ := hrel
    by_cases hlt : j < ds.length
    · by_cases h120 : j < 100
      · skip
        obtain ⟨a', cap', he, -, -, -, hcl⟩ := HD.out
        obtain ⟨g, o, e1, e2, e3⟩ := hcl j hlt
        have he' : a = a' := by injection he
        have hstep := foldT_take r ds j hlt
        have hdok := HK.out j hlt
        have hLok := HLK.out j hj
        generalize tAt ds j = d at e3 hstep hdok
        subst he'
        subst e1
        have hsw := hR.out.2.2.1.size
        have e3w : ∀ i u, d.cells[i]? = some u → wr.cell? ⟨g, o + j * 16 + i, none⟩ = some u := fun i u hu => hR.out.2.2.1.someCell (e3 i u hu)
        have d0 : wr.cell? ⟨g, o + j * 16, none⟩ = some (.int .i64 d.kind) := e3w 0 _ rfl
        have d1 := e3w 1 _ rfl
        have d2 := e3w 2 _ rfl
        have d3 := e3w 3 _ rfl
        have d4 := e3w 4 _ rfl
        have d5 := e3w 5 _ rfl
        have d6 := e3w 6 _ rfl
        have d7 := e3w 7 _ rfl
        have d8 := e3w 8 _ rfl
        have d9 := e3w 9 _ rfl
        have d10 := e3w 10 _ rfl
        have d11 := e3w 11 _ rfl
        have d12 := e3w 12 _ rfl
        have d13 := e3w 13 _ rfl
        have d14 := e3w 14 _ rfl
        have d15 := e3w 15 _ rfl
        have hgr : g < wr.heap.size := by omega
        have m0 := hR.out.2.2.2.1
        have y0 := (heap_cell m0 0).trans rfl
        have y1 := (heap_cell m0 1).trans rfl
        have hxr := heap_lt m0
        have HS := Aside.mk hstep
        have M0 := Lib.hid m0
        clear m0 he hcl e3 e3w hstep
        go_upto_region 10 with (fail)
        refine region_mix [.q [0, 1, 2, 3, 4, 5], .l 6 2, .l 7 2] (by kernel_rfl) (by kernel_rfl) ?_
        (try refine ⟨fun h => absurd h (by simp), ?_⟩); (repeat (unfold wpPlan; simp only [pickL, List.map_cons, List.map_nil, List.getD_cons_succ, List.getD_cons_zero]; (repeat go_big_quiet_step (fail)); refine wpQuiet_nil ?_)); unfold wpPlan; intro w4 hb4; (try simp only [pickL, List.map_cons, List.map_nil, List.getD_cons_succ, List.getD_cons_zero])
        go_wp2_with (first | (go_at_call 39; refine (tdo_c tb cb F' (foldT r (ds.take j)) r _ d _ (hR.out.1.ext hb4) (hR.out.2.2.2.2.ext hb4) hdok hLok).mono ?_; rintro e w5 ⟨v5, rfl, hv5, F5, hC5, hK5, hF5⟩; obtain ⟨a5, c5, rfl, -, -⟩ := hv5.1.form))
        have s4 := hb4.size
        have X5 := Lib.hid ((hK5.block xb (by omega) ((hR.out.1.ext hb4).2.apart ((hb4.block _ hxr).trans M0.out) (by decide) (by decide))).trans ((hb4.block _ hxr).trans M0.out))
        have E5 : Ext w w5 := Keeps.to_ext (hR.out.2.2.1.trans hb4) hK5 hR.out.2.1
        have HC5 := Lib.hid hC5
        have HV5 := Lib.hid hv5
        have HE5 := Lib.hid E5
        have HF5 : Hid (∀ x ∈ F5, w.heap.size ≤ x) := Lib.hid fun x hx => (hF5 x hx).elim (hR.out.2.1 x) fun h => by omega
        clear hb4 hC5 hK5 hF5 hv5 E5 d0 d1 d2 d3 d4 d5 d6 d7 d8 d9 d10 d11 d12 d13 d14 d15 y0 y1
        (try refine ⟨fun h => absurd h (by simp), ?_⟩); (repeat (unfold wpPlan; simp only [pickL, List.map_cons, List.map_nil, List.getD_cons_succ, List.getD_cons_zero]; (repeat go_big_quiet_step (fail)); refine wpQuiet_nil ?_)); unfold wpPlan; intro w6 hb6; (try simp only [pickL, List.map_cons, List.map_nil, List.getD_cons_succ, List.getD_cons_zero])
        have x6 := (hb6.block xb (heap_lt X5.out)).trans X5.out
        have g0 := (heap_cell x6 0).trans rfl
        have g1 := (heap_cell x6 1).trans rfl
        have g2 := frozen_of x6
        have X6 := Lib.hid x6
        have HC6 := Lib.hid (HC5.out.ext hb6)
        have HV6 := Lib.hid (HV5.out.ext hb6)
        have HE6 := Lib.hid (HE5.out.trans hb6)
        clear hb6 x6
        go_wp2
        (try refine ⟨fun h => absurd h (by simp), ?_⟩); (repeat (unfold wpPlan; simp only [pickL, List.map_cons, List.map_nil, List.getD_cons_succ, List.getD_cons_zero]; (repeat go_big_quiet_step (fail)); refine wpQuiet_nil ?_)); unfold wpPlan; intro V hb7; (try simp only [pickL, List.map_cons, List.map_nil, List.getD_cons_succ, List.getD_cons_zero])
        have CV : Hid (TAt V tb cb F5 (foldT r (ds.take (j + 1))) r) := Lib.hid (by rw [HS.out]; exact (HC6.out.store2 X6.out).ext hb7)
        have RV : Hid (RefAt V (.slice a5 (foldT r (ds.take (j + 1))).length c5) (foldT r (ds.take (j + 1)))) := Lib.hid (by rw [HS.out]; exact (HV6.out.store2 X6.out).ext hb7)
        have XV : Hid (V.heap[xb]? = some (.cells #[.slice a5 (foldT r (ds.take (j + 1))).length c5, .int .i64 r] 28 (0, 0))) := Lib.hid (by rw [HS.out]; exact (hb7.block xb (by simp; exact heap_lt X6.out)).trans (store2_heap X6.out))
        have EV : Hid (Ext w V) := Lib.hid ((Ext.setCell (Ext.setCell HE6.out (by simp; omega) _) (by simp; omega) _).trans hb7)
        have hLok' := HLK.out (j + 1) hlt
        have ⟨hV1, hV2⟩ := CV.out.2.room
        clear hb7 g0 g1 g2 X5 X6 HC5 HC6 HV5 HV6 HE5 HE6 M0
        generalize hLe : foldT r (ds.take (j + 1)) = L' at *
        have HLE := Aside.mk hLe
        clear hLe
        go_upto_region 12 with (first | (go_at_call 43; refine (len_c tb cb F5 L' r _ (CV.out.ext (by repeat (first | exact Ext.refl _ | assumption | refine Ext.alloc ?_ _ | refine Ext.drew ?_ | refine Ext.setCell ?_ (by first | (simp; done) | (dsimp only; omega)) _ | refine Ext.trans ?_ (by assumption))))).mono ?_; rintro e w9 ⟨rfl, hb9⟩))
        have CQ := CV.out.ext hb9
        have RQ := RV.out.ext hb9
        have XQ := (hb9.block _ (heap_lt XV.out)).trans XV.out
        have EQ := EV.out.trans hb9
        go_wp2
        refine ⟨⟨j + 1, F5, a5, c5, by omega, by omega, by go_num, Lib.hid (by rw [HLE.out]; exact ⟨CQ, HF5.out, EQ, XQ, RQ⟩)⟩, by simp [intOf]; omega⟩
      · have CR := Lib.hid hR.out.1
        have FR := Lib.hid hR.out.2.1
        have ER := Lib.hid hR.out.2.2.1
        generalize foldT r (ds.take j) = L at CR
        have ⟨hl1, hl2⟩ := CR.out.2.room
        have hev : ((evictL pick L).length = 0 ∧ L.length = 0) ∨ (0 < L.length ∧ (evictL pick L).length = L.length - 1) := by
          by_cases hz : L.length = 0
          · exact .inl ⟨by unfold evictL; rw [if_pos hz]; exact hz, hz⟩
          · exact .inr ⟨by omega, evictL_length (by omega)⟩
        go_upto_region 14 with (first | (go_at_call 43; refine (len_c tb cb F' L r _ (CR.out.ext (by repeat (first | exact Ext.refl _ | assumption | refine Ext.alloc ?_ _ | refine Ext.drew ?_ | refine Ext.setCell ?_ (by first | (simp; done) | (dsimp only; omega)) _ | refine Ext.trans ?_ (by assumption))))).mono ?_; rintro e w9 ⟨rfl, hb9⟩))
        have hE9 : Ext wr w9 := Ext.trans (by repeat (first | exact Ext.refl _ | assumption | refine Ext.alloc ?_ _ | refine Ext.drew ?_ | refine Ext.setCell ?_ (by first | (simp; done) | (dsimp only; omega)) _ | refine Ext.trans ?_ (by assumption))) hb9
        have C9 := Lib.hid (CR.out.ext hE9)
        have E9 := Lib.hid (ER.out.trans hE9)
        clear hb9 hE9
        go_upto_region 15 with (first | (go_at_call 53; refine (tEvict_c tb cb F' L r pick _ (C9.out.ext (by repeat (first | exact Ext.refl _ | assumption | refine Ext.alloc ?_ _ | refine Ext.drew ?_ | refine Ext.setCell ?_ (by first | (simp; done) | (dsimp only; omega)) _ | refine Ext.trans ?_ (by assumption)))) hp0 hp1).mono ?_; rintro e wa ⟨rfl, Fa, q1, q2, q3⟩))
        have CA := Lib.hid q1
        have EA := Lib.hid (Keeps.to_ext E9.out q2 FR.out)
        clear q1 q2 q3
        generalize evictL pick L = LE at *
        rcases hev with ⟨he, hz⟩ | ⟨hz, he⟩
        · have hz2 : (L.length : Int) - 1 < 0 := by omega
          go_wp2_with (first | (go_at_call 43; refine (len_c tb cb Fa LE r _ (CA.out.ext (by repeat (first | exact Ext.refl _ | assumption | refine Ext.alloc ?_ _ | refine Ext.drew ?_ | refine Ext.setCell ?_ (by first | (simp; done) | (dsimp only; omega)) _ | refine Ext.trans ?_ (by assumption))))).mono ?_; rintro e wb ⟨rfl, hbb⟩))
          go_ret
          exact ⟨by simp [he, hz], EA.out.trans (by repeat (first | exact Ext.refl _ | assumption | refine Ext.alloc ?_ _ | refine Ext.drew ?_ | refine Ext.setCell ?_ (by first | (simp; done) | (dsimp only; omega)) _ | refine Ext.trans ?_ (by assumption)))⟩
        · go_wp2_with (first | (go_at_call 43; refine (len_c tb cb Fa LE r _ (CA.out.ext (by repeat (first | exact Ext.refl _ | assumption | refine Ext.alloc ?_ _ | refine Ext.drew ?_ | refine Ext.setCell ?_ (by first | (simp; done) | (dsimp only; omega)) _ | refine Ext.trans ?_ (by assumption))))).mono ?_; rintro e wb ⟨rfl, hbb⟩))
          go_ret
          have e9 : (((L.length - 1 : Nat) : Int) == (L.length : Int) - 1) = true := by simp; omega
          exact ⟨congrArg (fun b => Ending.returned (.bool b)) e9, EA.out.trans (by repeat (first | exact Ext.refl _ | assumption | refine Ext.alloc ?_ _ | refine Ext.drew ?_ | refine Ext.setCell ?_ (by first | (simp; done) | (dsimp only; omega)) _ | refine Ext.trans ?_ (by assumption)))⟩
    · have CR := Lib.hid hR.out.1
      have FR := Lib.hid hR.out.2.1
      have ER := Lib.hid hR.out.2.2.1
      generalize foldT r (ds.take j) = L at CR
      have ⟨hl1, hl2⟩ := CR.out.2.room
      have hev : ((evictL pick L).length = 0 ∧ L.length = 0) ∨ (0 < L.length ∧ (evictL pick L).length = L.length - 1) := by
        by_cases hz : L.length = 0
        · exact .inl ⟨by unfold evictL; rw [if_pos hz]; exact hz, hz⟩
        · exact .inr ⟨by omega, evictL_length (by omega)⟩
      go_upto_region 14 with (first | (go_at_call 43; refine (len_c tb cb F' L r _ (CR.out.ext (by repeat (first | exact Ext.refl _ | assumption | refine Ext.alloc ?_ _ | refine Ext.drew ?_ | refine Ext.setCell ?_ (by first | (simp; done) | (dsimp only; omega)) _ | refine Ext.trans ?_ (by assumption))))).mono ?_; rintro e w9 ⟨rfl, hb9⟩))
      have hE9 : Ext wr w9 := Ext.trans (by repeat (first | exact Ext.refl _ | assumption | refine Ext.alloc ?_ _ | refine Ext.drew ?_ | refine Ext.setCell ?_ (by first | (simp; done) | (dsimp only; omega)) _ | refine Ext.trans ?_ (by assumption))) hb9
      have C9 := Lib.hid (CR.out.ext hE9)
      have E9 := Lib.hid (ER.out.trans hE9)
      clear hb9 hE9
      go_upto_region 15 with (first | (go_at_call 53; refine (tEvict_c tb cb F' L r pick _ (C9.out.ext (by repeat (first | exact Ext.refl _ | assumption | refine Ext.alloc ?_ _ | refine Ext.drew ?_ | refine Ext.setCell ?_ (by first | (simp; done) | (dsimp only; omega)) _ | refine Ext.trans ?_ (by assumption)))) hp0 hp1).mono ?_; rintro e wa ⟨rfl, Fa, q1, q2, q3⟩))
      have CA := Lib.hid q1
      have EA := Lib.hid (Keeps.to_ext E9.out q2 FR.out)
      clear q1 q2 q3
      generalize evictL pick L = LE at *
      rcases hev with ⟨he, hz⟩ | ⟨hz, he⟩
      · have hz2 : (L.length : Int) - 1 < 0 := by omega
        go_wp2_with (first | (go_at_call 43; refine (len_c tb cb Fa LE r _ (CA.out.ext (by repeat (first | exact Ext.refl _ | assumption | refine Ext.alloc ?_ _ | refine Ext.drew ?_ | refine Ext.setCell ?_ (by first | (simp; done) | (dsimp only; omega)) _ | refine Ext.trans ?_ (by assumption))))).mono ?_; rintro e wb ⟨rfl, hbb⟩))
        go_ret
        exact ⟨by simp [he, hz], EA.out.trans (by repeat (first | exact Ext.refl _ | assumption | refine Ext.alloc ?_ _ | refine Ext.drew ?_ | refine Ext.setCell ?_ (by first | (simp; done) | (dsimp only; omega)) _ | refine Ext.trans ?_ (by assumption)))⟩
      · go_wp2_with (first | (go_at_call 43; refine (len_c tb cb Fa LE r _ (CA.out.ext (by repeat (first | exact Ext.refl _ | assumption | refine Ext.alloc ?_ _ | refine Ext.drew ?_ | refine Ext.setCell ?_ (by first | (simp; done) | (dsimp only; omega)) _ | refine Ext.trans ?_ (by assumption))))).mono ?_; rintro e wb ⟨rfl, hbb⟩))
        go_ret
        have e9 : (((L.length - 1 : Nat) : Int) == (L.length : Int) - 1) = true := by simp; omega
        exact ⟨congrArg (fun b => Ending.returned (.bool b)) e9, EA.out.trans (by repeat (first | exact Ext.refl _ | assumption | refine Ext.alloc ?_ _ | refine Ext.drew ?_ | refine Ext.setCell ?_ (by first | (simp; done) | (dsimp only; omega)) _ | refine Ext.trans ?_ (by assumption)))⟩
end Go.Proofs.Ytnacgmmkmedpdaa
