/- CacheRoom: there are never more lines than there is room for; each key has one: for every room and all deeds. -/
import Derived.Test.YtnacgmmkmedpdaaLawCF
namespace Go.Proofs.Ytnacgmmkmedpdaa
set_option linter.unusedVariables false
set_option linter.unusedSimpArgs false
open Go.RowKit
attribute [local go_sem] wext_cell wext_frozen wext_heap alloc_cell alloc_frozen alloc_heap setCell_cell objCell_cells objFrozen_cells
open Go.Proofs
attribute [local go_sem high] key_eql

set_option maxHeartbeats 4000000 in
set_option maxRecDepth 20000 in
theorem cacheRoom_c (room : Int) (v : Value) (ds : List Deed) (w : World) (h0 : 0 ≤ room) (h1 : room ≤ 255) (hds : DeedsAt w v ds) :
    Calls Try.prog 3 #[.int .u8 room, v] w fun e w' => e = .returned (.bool true) ∧ Ext w w' := by
  have HD := Lib.hid hds
  obtain ⟨a, cap, rfl, hn, hm, hok, -⟩ := hds
  unfold maxLen at hm
  have HK := Lib.hid hok
  have hnew := fun w => new_c room w (by omega) (by omega)
  have hnew1 := fun w => refNew_c room w (by omega) (by omega)
  unfold EndNew at hnew
  have hr64 := clampR_le room
  have hrr : (clampR room : Int) ≤ room := by unfold clampR; rw [if_neg (by omega)]; split <;> omega
  generalize clampR room = r at *
  have HN := Lib.hid hnew
  have HN1 := Lib.hid hnew1
  clear hok hnew hnew1
  go_enter Try.func3, Try.ntmps3
  go_upto_region 3 with (first | (go_at_call 21; refine (awake10_c _).mono ?_; rintro e w0 ⟨rfl, hb0⟩) | (go_at_call 22; refine (HN.out _).mono ?_; rintro e w1 ⟨cb, F, rfl, hC, hE, hF⟩))
  have HC := Lib.hid hC
  have HE := Lib.hid (hb0.trans hE)
  have hFw : ∀ x ∈ F, w.heap.size ≤ x := fun x hx => by have := hF x hx; have := hb0.size; omega
  have HF := Lib.hid hFw
  clear hC hE hF hFw hb0
  go_upto_region 6 with (first | (go_at_call 23; refine (HN1.out _).mono ?_; rintro e w2 ⟨rfl, hb2⟩))
  go_wp2
  refine wp_gen ?_; intro W hW
  have EW : Ext w W := by rw [hW]; exact (HE.out.trans (Ext.trans (by repeat (first | exact Ext.refl _ | assumption | refine Ext.alloc ?_ _ | refine Ext.drew ?_ | refine Ext.setCell ?_ (by first | (simp; done) | (dsimp only; omega)) _ | refine Ext.trans ?_ (by assumption))) hb2)).alloc _
  have E1W : Ext w1 W := by rw [hW]; exact (Ext.trans (by repeat (first | exact Ext.refl _ | assumption | refine Ext.alloc ?_ _ | refine Ext.drew ?_ | refine Ext.setCell ?_ (by first | (simp; done) | (dsimp only; omega)) _ | refine Ext.trans ?_ (by assumption))) hb2).alloc _
  have x0 : W.heap[w2.heap.size]? = some (.cells #[.slice none 0 0, .int .i64 r] 28 (0, 0)) := by rw [hW]; exact alloc_same ..
  have hxs : w.heap.size ≤ w2.heap.size := (HE.out.trans (Ext.trans (by repeat (first | exact Ext.refl _ | assumption | refine Ext.alloc ?_ _ | refine Ext.drew ?_ | refine Ext.setCell ?_ (by first | (simp; done) | (dsimp only; omega)) _ | refine Ext.trans ?_ (by assumption))) hb2)).size
  have hxl := heap_lt x0
  generalize w2.heap.size = xb at x0 hxs hxl ⊢
  have X0 := Lib.hid x0
  have HEW := Lib.hid EW
  have HCW := Lib.hid (HC.out.ext E1W)
  clear hW EW E1W x0 hb2
  go_loopw [8] (fun i wr => ∃ (j : Nat) (F' : List Nat) (a2 : Option Addr) (c2 : Nat), j ≤ ds.length ∧ j ≤ 120 ∧ i = .int .i64 j ∧ Hid (CAt wr cb F' (foldD r (ds.take j)) r ∧ (∀ x ∈ F', w.heap.size ≤ x) ∧ Ext w wr ∧
    wr.heap[xb]? = some (.cells #[.slice a2 (foldD r (ds.take j)).length c2, .int .i64 r] 28 (0, 0)) ∧ RefAt wr (.slice a2 (foldD r (ds.take j)).length c2) (foldD r (ds.take j)))) (fun i _ => ds.length - (intOf i).toNat)
  case atStart => exact ⟨0, F, none, 0, by omega, by omega, rfl, Lib.hid ⟨HCW.out, HF.out, HEW.out, X0.out, ⟨by simpa [rowP, foldD] using Owns.nil _ _ _, by simp [foldD]⟩⟩⟩
  case round =>
    obtain ⟨j, F', a2, c2, hj, hj2, rfl, hR⟩ := hrel
    by_cases hlt : j < ds.length
    · by_cases h120 : j < 120
      · skip
        obtain ⟨a', cap', he, -, -, -, hcl⟩ := HD.out
        obtain ⟨g, o, e1, e2, e3⟩ := hcl j hlt
        have he' : a = a' := by injection he
        have hstep := foldD_take r ds j hlt
        have hdok := HK.out j hlt
        have hsame := sameL_same (dAt ds j) (foldD r (ds.take j))
        have hLl := hR.out.1.room
        generalize dAt ds j = d at e3 hstep hdok hsame
        subst he'
        subst e1
        have hsw := hR.out.2.2.1.size
        have e3w : ∀ i u, d.cells[i]? = some u → wr.cell? ⟨g, o + j * 11 + i, none⟩ = some u := fun i u hu => hR.out.2.2.1.someCell (e3 i u hu)
        have d0 : wr.cell? ⟨g, o + j * 11, none⟩ = some (.int .i64 d.kind) := e3w 0 _ rfl
        have d1 := e3w 1 _ rfl
        have d2 := e3w 2 _ rfl
        have d3 := e3w 3 _ rfl
        have d4 := e3w 4 _ rfl
        have d5 := e3w 5 _ rfl
        have d6 := e3w 6 _ rfl
        have d7 := e3w 7 _ rfl
        have d8 := e3w 8 _ rfl
        have d9 := e3w 9 _ rfl
        have d10 := e3w 10 _ rfl
        have hgr : g < wr.heap.size := by omega
        have m0 := hR.out.2.2.2.1
        have y0 := (heap_cell m0 0).trans rfl
        have y1 := (heap_cell m0 1).trans rfl
        have hxr := heap_lt m0
        have HS := Aside.mk hstep
        have hb0 := frozen_of m0
        have M0 := Lib.hid m0
        have HSM := Aside.mk hsame
        clear m0 he hcl e3 e3w hstep hsame
        go_upto_region 9 with (fail)
        refine region_mixA 10 (.cells #[.slice none 0 0, .int .i64 0] 28 (0, 0)) [.q [0, 1, 2, 3, 4, 5], .l 6 6, .b [7, 8, 9], .l 10 4, .l 11 2, .q [12]] (by kernel_rfl) (by kernel_rfl) (alloc_runA rfl (by kernel_rfl : _ = some (some (Value.agg (#[.slice none 0 0, .int .i64 0])))) rfl) ?_
        (repeat (unfold wpPlanA; simp only [pickL, List.map_cons, List.map_nil, List.getD_cons_succ, List.getD_cons_zero]; (repeat go_big_quiet_step (fail)); refine wpQuiet_nil ?_)); unfold wpPlanA; intro w4 hb4; (try simp only [pickL, List.map_cons, List.map_nil, List.getD_cons_succ, List.getD_cons_zero])
        go_wp2_with (first | (go_at_call 24; refine (do_c cb F' _ r (foldD r (ds.take j)) r _ d _ (hR.out.1.ext hb4) (hR.out.2.2.2.2.ext hb4) hdok hLl.1 hLl.2).mono ?_; rintro e w5 ⟨v5, rfl, hv5, F5, hC5, hK5, hF5⟩; obtain ⟨a5, c5, rfl, -, -⟩ := hv5.1.form; rw [HSM.out]))
        have s4 := hb4.size
        have s5 := hK5.size
        refine ⟨⟨by omega, fun h => absurd h (by omega), fun _ b hb hbo => (hK5.block b (heap_lt hbo) ((hR.out.1.ext hb4).apart hbo (by decide) (by decide))).trans hbo⟩, ?_⟩
        have X5 := Lib.hid ((hK5.block xb (by omega) ((hR.out.1.ext hb4).apart ((hb4.block _ hxr).trans M0.out) (by decide) (by decide))).trans ((hb4.block _ hxr).trans M0.out))
        have E5 : Ext w w5 := Keeps.to_ext (hR.out.2.2.1.trans hb4) hK5 hR.out.2.1
        have HC5 := Lib.hid hC5
        have HV5 := Lib.hid hv5
        have HE5 := Lib.hid E5
        have HF5 : Hid (∀ x ∈ F5, w.heap.size ≤ x) := Lib.hid fun x hx => (hF5 x hx).elim (hR.out.2.1 x) fun h => by omega
        clear hb4 hC5 hK5 hF5 hv5 E5 d0 d1 d2 d3 d4 d5 d6 d7 d8 d9 d10 y0 y1 hb0
        (repeat (unfold wpPlanA; simp only [pickL, List.map_cons, List.map_nil, List.getD_cons_succ, List.getD_cons_zero]; (repeat go_big_quiet_step (fail)); refine wpQuiet_nil ?_)); unfold wpPlanA; intro b w6 hb6 hb6B hb6O; simp only [List.getD_cons_succ, List.getD_cons_zero, ptrTo]; simp only [Act.put, Array.set!_eq_setIfInBounds, List.setIfInBounds_toArray, List.set_cons_succ, List.set_cons_zero]
        have O6 := Lib.hid hb6O
        have hl6 := heap_lt hb6O
        have HB6 := Lib.hid hb6
        have s6 := hb6.size
        clear hb6 hb6O
        (repeat (unfold wpPlanA; simp only [pickL, List.map_cons, List.map_nil, List.getD_cons_succ, List.getD_cons_zero]; (repeat go_big_quiet_step (fail)); refine wpQuiet_nil ?_)); unfold wpPlanA; intro w7 hb7; (try simp only [pickL, List.map_cons, List.map_nil, List.getD_cons_succ, List.getD_cons_zero])
        have s7 := hb7.size
        have b7 := (hb7.block b hl6).trans O6.out
        have g0 := (heap_cell b7 0).trans rfl
        have g1 := (heap_cell b7 1).trans rfl
        have g2 := frozen_of b7
        have B7 := Lib.hid b7
        have HB7 := Lib.hid (HB6.out.trans hb7)
        clear b7 hb7
        go_wp2
        refine ⟨⟨by simp; omega, fun h => absurd h (by omega), fun h => absurd h (by omega)⟩, ?_⟩
        (repeat (unfold wpPlanA; simp only [pickL, List.map_cons, List.map_nil, List.getD_cons_succ, List.getD_cons_zero]; (repeat go_big_quiet_step (fail)); refine wpQuiet_nil ?_)); unfold wpPlanA; intro w8 hb8; (try simp only [pickL, List.map_cons, List.map_nil, List.getD_cons_succ, List.getD_cons_zero])
        have s8 := hb8.size
        simp only [World.size_setCell] at s8
        have b8 := (hb8.block b (by simp; omega)).trans (store2_heap B7.out)
        have i0 := (heap_cell b8 0).trans rfl
        have i1 := (heap_cell b8 1).trans rfl
        have x8 := (hb8.block xb (by simp; omega)).trans ((store2_other (by omega)).trans ((HB7.out.block xb (by omega)).trans X5.out))
        have i2 := (heap_cell x8 0).trans rfl
        have i3 := (heap_cell x8 1).trans rfl
        have i4 := frozen_of x8
        have X8 := Lib.hid x8
        have C8 := Lib.hid (((HC5.out.ext HB7.out).store2 B7.out).ext hb8)
        have V8 := Lib.hid (((HV5.out.ext HB7.out).store2 B7.out).ext hb8)
        have E8 : Hid (Ext w w8) := Lib.hid ((Ext.setCell (Ext.setCell (HE5.out.trans HB7.out) (by simp; omega) _) (by simp; omega) _).trans hb8)
        clear b8 x8 hb8 g0 g1 g2 X5 HC5 HV5 HE5 O6 HB6 HB7 B7 M0
        rw [← HS.out] at C8 V8
        go_upto_region 11 with (fail)
        refine wp_gen ?_; intro V hV
        rw [← HS.out] at hV
        have CV : Hid (CAt V cb F5 (foldD r (ds.take (j + 1))) r) := Lib.hid (by rw [hV]; exact C8.out.store2 X8.out)
        have RV : Hid (RefAt V (.slice a5 (foldD r (ds.take (j + 1))).length c5) (foldD r (ds.take (j + 1)))) := Lib.hid (by rw [hV]; exact V8.out.store2 X8.out)
        have XV : Hid (V.heap[xb]? = some (.cells #[.slice a5 (foldD r (ds.take (j + 1))).length c5, .int .i64 r] 28 (0, 0))) := Lib.hid (by rw [hV]; exact store2_heap X8.out)
        have EV : Hid (Ext w V) := Lib.hid (by rw [hV]; exact Ext.setCell (Ext.setCell E8.out (by simp; omega) _) (by simp; omega) _)
        have kV := keysOf_length (foldD r (ds.take (j + 1)))
        have ⟨hV1, hV2⟩ := CV.out.room
        rw [← HS.out]
        clear hV X8 C8 V8 E8 i0 i1 i2 i3 i4
        have hnd := Lib.hid CV.out.nodup
        generalize hLe : foldD r (ds.take (j + 1)) = L' at *
        have HLE := Aside.mk hLe
        clear hLe
        have hxV := heap_lt XV.out
        go_upto_region 12 with (first | (go_at_call 25; refine (keys_c cb F5 L' r _ (CV.out.ext (by repeat (first | exact Ext.refl _ | assumption | refine Ext.alloc ?_ _ | refine Ext.drew ?_ | refine Ext.setCell ?_ (by first | (simp; done) | (dsimp only; omega)) _ | refine Ext.trans ?_ (by assumption))))).mono ?_; rintro e w9 ⟨v9, rfl, hv9, hE9, -⟩; obtain ⟨a9, c9, rfl, hn9, hm9⟩ := hv9.form))
        unfold maxLen at hm9
        rw [kV] at hn9 hv9
        have HV9 := Lib.hid hv9
        have HE9 := Lib.hid (EV.out.trans hE9)
        have C9 := Lib.hid (CV.out.ext hE9)
        have R9 := Lib.hid (RV.out.ext hE9)
        have X9 := Lib.hid ((hE9.block _ hxV).trans XV.out)
        have hz9 := heap_lt X9.out
        clear hv9 hE9 CV RV XV EV
        go_upto_region 14 with (fail)
        go_wp2
        go_loopw [12] (fun hh wq => ∃ h : Nat, h ≤ L'.length ∧ hh = .int .i64 h ∧ Hid (Ext w9 wq)) (fun hh _ => L'.length - (intOf hh).toNat)
        case atStart => exact ⟨0, by omega, rfl, Lib.hid (Ext.refl _)⟩
        case round =>
          obtain ⟨h, hh, rfl, hQ⟩ := hrel
          by_cases hlt2 : h < L'.length
          · obtain ⟨gk, rfl⟩ : ∃ g, a9 = some ⟨g, 0, none⟩ := by
              rcases HV9.out.2 with ⟨_, h0⟩ | ⟨g, _, _, he, _⟩
              · omega
              · exact ⟨g, by injection he⟩
            go_upto_region 17 with (fail)
            go_wp2
            go_loopw [13] (fun hh wq => ∃ q : Nat, q ≤ h ∧ hh = .int .i64 q ∧ Hid (Ext w9 wq)) (fun hh _ => h - (intOf hh).toNat)
            case atStart => exact ⟨0, by omega, rfl, hQ⟩
            case round =>
              obtain ⟨q, hq, rfl, hQ2⟩ := hrel
              by_cases hlt3 : q < h
              · have K9 := HV9.out.ext hQ2.out
                obtain ⟨z0, z1, z2⟩ := rowK_get (keysOf L') h (by omega)
                obtain ⟨s0, s1, s2⟩ := rowK_get (keysOf L') q (by omega)
                have y0 := K9.cells (g := gk) rfl _ _ z0
                have y1 := K9.cells (g := gk) rfl _ _ z1
                have y2 := K9.cells (g := gk) rfl _ _ z2
                have t0 := K9.cells (g := gk) rfl _ _ s0
                have t1 := K9.cells (g := gk) rfl _ _ s1
                have t2 := K9.cells (g := gk) rfl _ _ s2
                have hgk := K9.lt gk rfl
                have hne : keyB (kAt (keysOf L') q) (kAt (keysOf L') h) = false := by
                  have h1 : kAt (keysOf L') q ≠ kAt (keysOf L') h := fun e => by
                    have hl1 : q < (keysOf L').length := by omega
                    have hl2 : h < (keysOf L').length := by omega
                    have e1 : kAt (keysOf L') q = (keysOf L')[q] := by simp [kAt, List.getD, hl1]
                    have e2 : kAt (keysOf L') h = (keysOf L')[h] := by simp [kAt, List.getD, hl2]
                    rw [e1, e2] at e
                    exact (List.pairwise_iff_getElem.1 hnd.out q h hl1 hl2 hlt3) e
                  simpa [keyB] using h1
                generalize kAt (keysOf L') h = k1 at *
                generalize kAt (keysOf L') q = k2 at *
                obtain ⟨p1, l1, u1⟩ := k1
                obtain ⟨p2, l2, u2⟩ := k2
                dsimp only at y0 y1 y2 t0 t1 t2
                clear z0 z1 z2 s0 s1 s2 K9
                go_upto_region 20 with (fail)
                refine region_ext (by kernel_rfl) (by kernel_rfl) ?_; (repeat (go_big_quiet_step (fail))); refine wpQuiet_nil ?_; intro w1 hb; have ⟨hc, hf, hh, hs⟩ := hb.facts; try simp only [World.size_alloc, World.size_setCell, World.size_drew] at hs
                have HU2 := Lib.hid (hQ2.out.trans hb)
                clear hb hc hf hh hs
                go_wp2
                refine ⟨⟨q + 1, by omega, by go_num, Lib.hid HU2.out⟩, by simp [intOf]; omega⟩
              · go_wp2
                refine ⟨⟨h + 1, by omega, by go_num, hQ2⟩, by simp [intOf]; omega⟩
          · have EQ := HE9.out.trans hQ.out
            have XQ := (hQ.out.block _ hz9).trans X9.out
            have CQ := C9.out.ext hQ.out
            have RQ := R9.out.ext hQ.out
            go_wp2
            refine ⟨⟨j + 1, F5, a5, c5, by omega, by omega, by go_num, Lib.hid (by rw [HLE.out]; exact ⟨CQ, HF5.out, EQ, XQ, RQ⟩)⟩, by simp [intOf]; omega⟩
      · go_wp2
        go_ret
        exact ⟨rfl, hR.out.2.2.1.trans (by repeat (first | exact Ext.refl _ | assumption | refine Ext.alloc ?_ _ | refine Ext.drew ?_ | refine Ext.setCell ?_ (by first | (simp; done) | (dsimp only; omega)) _ | refine Ext.trans ?_ (by assumption)))⟩
    · go_wp2
      go_ret
      exact ⟨rfl, hR.out.2.2.1.trans (by repeat (first | exact Ext.refl _ | assumption | refine Ext.alloc ?_ _ | refine Ext.drew ?_ | refine Ext.setCell ?_ (by first | (simp; done) | (dsimp only; omega)) _ | refine Ext.trans ?_ (by assumption)))⟩
end Go.Proofs.Ytnacgmmkmedpdaa
