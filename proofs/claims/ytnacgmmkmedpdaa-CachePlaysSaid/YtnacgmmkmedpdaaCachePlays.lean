/- CachePlays: whatever is put, got, dropped, and picked: the answers, and all keys, in turn: for every room and all deeds. -/
import Derived.Test.YtnacgmmkmedpdaaLawCF
namespace Go.Proofs.Ytnacgmmkmedpdaa
set_option linter.unusedVariables false
set_option linter.unusedSimpArgs false
open Go.RowKit
attribute [local go_sem] wext_cell wext_frozen wext_heap alloc_cell alloc_frozen alloc_heap setCell_cell objCell_cells objFrozen_cells
open Go.Proofs

theorem refKey_neq (p l t p' l' t' : Int) (w : World) : (binOp .neq 52 (.agg #[.int .i64 p, .int .i64 l, .int .u64 t]) (.agg #[.int .i64 p', .int .i64 l', .int .u64 t'])).run Try.prog w = .ok (.bool (!keyB ⟨p, l, t⟩ ⟨p', l', t'⟩)) w := by
  have := refKey_equal ⟨p, l, t⟩ ⟨p', l', t'⟩ w
  rw [run_neq_struct]
  show ((Op.equal _ _ _).run _ _).andThen _ = _
  simp only [Key.val] at this
  rw [this]; rfl
theorem refLine_neq (p : Int) (l t a b : Bool) (c : Int) (p' : Int) (l' t' a' b' : Bool) (c' : Int) (w : World) : (binOp .neq 56 (.agg #[.int .u64 p, .bool l, .bool t, .bool a, .bool b, .int .u8 c]) (.agg #[.int .u64 p', .bool l', .bool t', .bool a', .bool b', .int .u8 c'])).run Try.prog w =
    .ok (.bool (!lineB ⟨p, l, t, a, b, c⟩ ⟨p', l', t', a', b', c'⟩)) w := by
  have := refLine_equal ⟨p, l, t, a, b, c⟩ ⟨p', l', t', a', b', c'⟩ w
  rw [run_neq_struct]
  show ((Op.equal _ _ _).run _ _).andThen _ = _
  simp only [Line.val] at this
  rw [this]; rfl
attribute [local go_sem high] refKey_neq refLine_neq
theorem real_c2 (p l t : Int) (w : World) : Calls Try.prog 33 #[.agg #[.int .i64 p, .int .i64 l, .int .u64 t]] w fun e w' => e = .returned (.agg #[.int .i64 p, .int .i64 l, .int .u64 t]) ∧ Ext w w' := real_c ⟨p, l, t⟩ w
theorem lined_c2 (f : Int) (a b c d : Bool) (m : Int) (w : World) : Calls Try.prog 34 #[.agg #[.int .u64 f, .bool a, .bool b, .bool c, .bool d, .int .u8 m]] w fun e w' => e = .returned (.agg #[.int .u64 f, .bool a, .bool b, .bool c, .bool d, .int .u8 m]) ∧ Ext w w' := lined_c ⟨f, a, b, c, d, m⟩ w

set_option maxHeartbeats 4000000 in
set_option maxRecDepth 20000 in
theorem cachePlays_c (room : Int) (v : Value) (ds : List Deed) (w : World) (h0 : -9223372036854775808 ≤ room) (h1 : room ≤ 9223372036854775807) (hds : DeedsAt w v ds) :
    Calls Try.prog 6 #[.int .i64 room, v] w fun e w' => e = .returned (.bool true) ∧ Ext w w' := by
  have HD := Lib.hid hds
  obtain ⟨a, cap, rfl, hn, hm, hok, -⟩ := hds
  unfold maxLen at hm
  have HK := Lib.hid hok
  have hnew := fun w => new_c room w h0 h1
  have hnew1 := fun w => refNew_c room w h0 h1
  unfold EndNew at hnew
  have hr64 := clampR_le room
  generalize clampR room = r at *
  have HN := Lib.hid hnew
  have HN1 := Lib.hid hnew1
  clear hok hnew hnew1
  go_enter Try.func6, Try.ntmps6
  go_upto_region 3 with (first | (go_at_call 21; refine (awake10_c _).mono ?_; rintro e w0 ⟨rfl, hb0⟩) | (go_at_call 22; refine (HN.out _).mono ?_; rintro e w1 ⟨cb, F, rfl, hC, hE, hF⟩))
  have HC := Lib.hid hC
  have HE := Lib.hid (hb0.trans hE)
  have hFw : ∀ x ∈ F, w.heap.size ≤ x := fun x hx => by have := hF x hx; have := hb0.size; omega
  have HF := Lib.hid hFw
  clear hC hE hF hFw hb0
  go_upto_region 6 with (first | (go_at_call 23; refine (HN1.out _).mono ?_; rintro e w2 ⟨rfl, hb2⟩))
  go_wp2
  refine wp_gen ?_; intro W hW
  have EW : Ext w W := by rw [hW]; exact (HE.out.trans (Ext.trans (by repeat (first | exact Ext.refl _ | assumption | refine Ext.alloc ?_ _ | refine Ext.drew ?_ | refine Ext.setCell ?_ (by first | (simp; done) | (dsimp only; omega)) _ | refine Ext.trans ?_ (by assumption))) hb2)).alloc _
  have E1W : Ext w1 W := by rw [hW]; exact (Ext.trans (by repeat (first | exact Ext.refl _ | assumption | refine Ext.alloc ?_ _ | refine Ext.drew ?_ | refine Ext.setCell ?_ (by first | (simp; done) | (dsimp only; omega)) _ | refine Ext.trans ?_ (by assumption))) hb2).alloc _
  have x0 : W.heap[w2.heap.size]? = some (.cells #[.slice none 0 0, .int .i64 r] 28 (0, 0)) := by rw [hW]; exact alloc_same ..
  have hxs : w.heap.size ≤ w2.heap.size := (HE.out.trans (Ext.trans (by repeat (first | exact Ext.refl _ | assumption | refine Ext.alloc ?_ _ | refine Ext.drew ?_ | refine Ext.setCell ?_ (by first | (simp; done) | (dsimp only; omega)) _ | refine Ext.trans ?_ (by assumption))) hb2)).size
  have hxl := heap_lt x0
  generalize w2.heap.size = xb at x0 hxs hxl ⊢
  have X0 := Lib.hid x0
  have HEW := Lib.hid EW
  have HCW := Lib.hid (HC.out.ext E1W)
  clear hW EW E1W x0 hb2
  go_loopw [8] (fun i wr => ∃ (j : Nat) (F' : List Nat) (a2 : Option Addr) (c2 : Nat), j ≤ ds.length ∧ j ≤ 120 ∧ i = .int .i64 j ∧ Hid (CAt wr cb F' (foldD r (ds.take j)) r ∧ (∀ x ∈ F', w.heap.size ≤ x) ∧ Ext w wr ∧
    wr.heap[xb]? = some (.cells #[.slice a2 (foldD r (ds.take j)).length c2, .int .i64 r] 28 (0, 0)) ∧ RefAt wr (.slice a2 (foldD r (ds.take j)).length c2) (foldD r (ds.take j)))) (fun i _ => ds.length - (intOf i).toNat)
  case atStart => exact ⟨0, F, none, 0, by omega, by omega, rfl, Lib.hid ⟨HCW.out, HF.out, HEW.out, X0.out, ⟨by simpa [rowP, foldD] using Owns.nil _ _ _, by simp [foldD]⟩⟩⟩
  case round =>
    obtain ⟨j, F', a2, c2, hj, hj2, rfl, hR⟩ := hrel
    by_cases hlt : j < ds.length
    · by_cases h120 : j < 120
      · skip
        obtain ⟨a', cap', he, -, -, -, hcl⟩ := HD.out
        obtain ⟨g, o, e1, e2, e3⟩ := hcl j hlt
        have he' : a = a' := by injection he
        have hstep := foldD_take r ds j hlt
        have hdok := HK.out j hlt
        have hsame := sameL_same (dAt ds j) (foldD r (ds.take j))
        have hLl := hR.out.1.room
        generalize dAt ds j = d at e3 hstep hdok hsame
        subst he'
        subst e1
        have hsw := hR.out.2.2.1.size
        have e3w : ∀ i u, d.cells[i]? = some u → wr.cell? ⟨g, o + j * 11 + i, none⟩ = some u := fun i u hu => hR.out.2.2.1.someCell (e3 i u hu)
        have d0 : wr.cell? ⟨g, o + j * 11, none⟩ = some (.int .i64 d.kind) := e3w 0 _ rfl
        have d1 := e3w 1 _ rfl
        have d2 := e3w 2 _ rfl
        have d3 := e3w 3 _ rfl
        have d4 := e3w 4 _ rfl
        have d5 := e3w 5 _ rfl
        have d6 := e3w 6 _ rfl
        have d7 := e3w 7 _ rfl
        have d8 := e3w 8 _ rfl
        have d9 := e3w 9 _ rfl
        have d10 := e3w 10 _ rfl
        have hgr : g < wr.heap.size := by omega
        have m0 := hR.out.2.2.2.1
        have y0 := (heap_cell m0 0).trans rfl
        have y1 := (heap_cell m0 1).trans rfl
        have hxr := heap_lt m0
        have HS := Aside.mk hstep
        have hb0 := frozen_of m0
        have M0 := Lib.hid m0
        have HSM := Aside.mk hsame
        clear m0 he hcl e3 e3w hstep hsame
        go_upto_region 9 with (fail)
        refine region_mixA 10 (.cells #[.slice none 0 0, .int .i64 0] 28 (0, 0)) [.q [0, 1, 2, 3, 4, 5], .l 6 6, .b [7, 8, 9], .l 10 4, .l 11 2, .q [12]] (by kernel_rfl) (by kernel_rfl) (alloc_runA rfl (by kernel_rfl : _ = some (some (Value.agg (#[.slice none 0 0, .int .i64 0])))) rfl) ?_
        (repeat (unfold wpPlanA; simp only [pickL, List.map_cons, List.map_nil, List.getD_cons_succ, List.getD_cons_zero]; (repeat go_big_quiet_step (fail)); refine wpQuiet_nil ?_)); unfold wpPlanA; intro w4 hb4; (try simp only [pickL, List.map_cons, List.map_nil, List.getD_cons_succ, List.getD_cons_zero])
        go_wp2_with (first | (go_at_call 24; refine (do_c cb F' _ r (foldD r (ds.take j)) r _ d _ (hR.out.1.ext hb4) (hR.out.2.2.2.2.ext hb4) hdok hLl.1 hLl.2).mono ?_; rintro e w5 ⟨v5, rfl, hv5, F5, hC5, hK5, hF5⟩; obtain ⟨a5, c5, rfl, -, -⟩ := hv5.1.form; rw [HSM.out]))
        have s4 := hb4.size
        have s5 := hK5.size
        refine ⟨⟨by omega, fun h => absurd h (by omega), fun _ b hb hbo => (hK5.block b (heap_lt hbo) ((hR.out.1.ext hb4).apart hbo (by decide) (by decide))).trans hbo⟩, ?_⟩
        have X5 := Lib.hid ((hK5.block xb (by omega) ((hR.out.1.ext hb4).apart ((hb4.block _ hxr).trans M0.out) (by decide) (by decide))).trans ((hb4.block _ hxr).trans M0.out))
        have E5 : Ext w w5 := Keeps.to_ext (hR.out.2.2.1.trans hb4) hK5 hR.out.2.1
        have HC5 := Lib.hid hC5
        have HV5 := Lib.hid hv5
        have HE5 := Lib.hid E5
        have HF5 : Hid (∀ x ∈ F5, w.heap.size ≤ x) := Lib.hid fun x hx => (hF5 x hx).elim (hR.out.2.1 x) fun h => by omega
        clear hb4 hC5 hK5 hF5 hv5 E5 d0 d1 d2 d3 d4 d5 d6 d7 d8 d9 d10 y0 y1 hb0
        (repeat (unfold wpPlanA; simp only [pickL, List.map_cons, List.map_nil, List.getD_cons_succ, List.getD_cons_zero]; (repeat go_big_quiet_step (fail)); refine wpQuiet_nil ?_)); unfold wpPlanA; intro b w6 hb6 hb6B hb6O; simp only [List.getD_cons_succ, List.getD_cons_zero, ptrTo]; simp only [Act.put, Array.set!_eq_setIfInBounds, List.setIfInBounds_toArray, List.set_cons_succ, List.set_cons_zero]
        have O6 := Lib.hid hb6O
        have hl6 := heap_lt hb6O
        have HB6 := Lib.hid hb6
        have s6 := hb6.size
        clear hb6 hb6O
        (repeat (unfold wpPlanA; simp only [pickL, List.map_cons, List.map_nil, List.getD_cons_succ, List.getD_cons_zero]; (repeat go_big_quiet_step (fail)); refine wpQuiet_nil ?_)); unfold wpPlanA; intro w7 hb7; (try simp only [pickL, List.map_cons, List.map_nil, List.getD_cons_succ, List.getD_cons_zero])
        have s7 := hb7.size
        have b7 := (hb7.block b hl6).trans O6.out
        have g0 := (heap_cell b7 0).trans rfl
        have g1 := (heap_cell b7 1).trans rfl
        have g2 := frozen_of b7
        have B7 := Lib.hid b7
        have HB7 := Lib.hid (HB6.out.trans hb7)
        clear b7 hb7
        go_wp2
        refine ⟨⟨by simp; omega, fun h => absurd h (by omega), fun h => absurd h (by omega)⟩, ?_⟩
        (repeat (unfold wpPlanA; simp only [pickL, List.map_cons, List.map_nil, List.getD_cons_succ, List.getD_cons_zero]; (repeat go_big_quiet_step (fail)); refine wpQuiet_nil ?_)); unfold wpPlanA; intro w8 hb8; (try simp only [pickL, List.map_cons, List.map_nil, List.getD_cons_succ, List.getD_cons_zero])
        have s8 := hb8.size
        simp only [World.size_setCell] at s8
        have b8 := (hb8.block b (by simp; omega)).trans (store2_heap B7.out)
        have i0 := (heap_cell b8 0).trans rfl
        have i1 := (heap_cell b8 1).trans rfl
        have x8 := (hb8.block xb (by simp; omega)).trans ((store2_other (by omega)).trans ((HB7.out.block xb (by omega)).trans X5.out))
        have i2 := (heap_cell x8 0).trans rfl
        have i3 := (heap_cell x8 1).trans rfl
        have i4 := frozen_of x8
        have X8 := Lib.hid x8
        have C8 := Lib.hid (((HC5.out.ext HB7.out).store2 B7.out).ext hb8)
        have V8 := Lib.hid (((HV5.out.ext HB7.out).store2 B7.out).ext hb8)
        have E8 : Hid (Ext w w8) := Lib.hid ((Ext.setCell (Ext.setCell (HE5.out.trans HB7.out) (by simp; omega) _) (by simp; omega) _).trans hb8)
        clear b8 x8 hb8 g0 g1 g2 X5 HC5 HV5 HE5 O6 HB6 HB7 B7 M0
        rw [← HS.out] at C8 V8
        go_upto_region 11 with (fail)
        refine wp_gen ?_; intro V hV
        rw [← HS.out] at hV
        have CV : Hid (CAt V cb F5 (foldD r (ds.take (j + 1))) r) := Lib.hid (by rw [hV]; exact C8.out.store2 X8.out)
        have RV : Hid (RefAt V (.slice a5 (foldD r (ds.take (j + 1))).length c5) (foldD r (ds.take (j + 1)))) := Lib.hid (by rw [hV]; exact V8.out.store2 X8.out)
        have XV : Hid (V.heap[xb]? = some (.cells #[.slice a5 (foldD r (ds.take (j + 1))).length c5, .int .i64 r] 28 (0, 0))) := Lib.hid (by rw [hV]; exact store2_heap X8.out)
        have EV : Hid (Ext w V) := Lib.hid (by rw [hV]; exact Ext.setCell (Ext.setCell E8.out (by simp; omega) _) (by simp; omega) _)
        have kV := keysOf_length (foldD r (ds.take (j + 1)))
        have ⟨hV1, hV2⟩ := CV.out.room
        rw [← HS.out]
        clear hV X8 C8 V8 E8 i0 i1 i2 i3 i4
        have hnd := Lib.hid CV.out.nodup
        generalize hLe : foldD r (ds.take (j + 1)) = L' at *
        have HLE := Aside.mk hLe
        clear hLe
        have hxV := heap_lt XV.out
        go_upto_region 12 with (first | (go_at_call 25; refine (keys_c cb F5 L' r _ (CV.out.ext (by repeat (first | exact Ext.refl _ | assumption | refine Ext.alloc ?_ _ | refine Ext.drew ?_ | refine Ext.setCell ?_ (by first | (simp; done) | (dsimp only; omega)) _ | refine Ext.trans ?_ (by assumption))))).mono ?_; rintro e w9 ⟨v9, rfl, hv9, hE9, -⟩; obtain ⟨a9, c9, rfl, hn9, hm9⟩ := hv9.form))
        unfold maxLen at hm9
        rw [kV] at hn9 hv9
        obtain ⟨_, cv, hfm, hn5, hm5⟩ := RV.out.1.form
        obtain ⟨-, rfl⟩ : _ ∧ c5 = cv := by simpa using hfm
        unfold maxLen at hm5
        clear hfm
        have HV9 := Lib.hid hv9
        have HE9 := Lib.hid (EV.out.trans hE9)
        have C9 := Lib.hid (CV.out.ext hE9)
        have R9 := Lib.hid (RV.out.ext hE9)
        have X9 := Lib.hid ((hE9.block _ hxV).trans XV.out)
        have hz9 := heap_lt X9.out
        have y0 := (heap_cell X9.out 0).trans rfl
        have y1 := (heap_cell X9.out 1).trans rfl
        clear hv9 hE9 CV RV XV EV
        go_upto_region 14 with (fail)
        go_wp2
        go_loopw [12] (fun hh wq => ∃ h : Nat, h ≤ L'.length ∧ hh = .int .i64 h ∧ Hid (Ext w9 wq)) (fun hh _ => L'.length - (intOf hh).toNat)
        case atStart => exact ⟨0, by omega, rfl, Lib.hid (Ext.refl _)⟩
        case round =>
          obtain ⟨h, hh, rfl, hQ⟩ := hrel
          have hsq := hQ.out.size
          by_cases hlt2 : h < L'.length
          · obtain ⟨gk, rfl⟩ : ∃ g, a9 = some ⟨g, 0, none⟩ := by
              rcases HV9.out.2 with ⟨_, h0⟩ | ⟨g, _, _, he, _⟩
              · omega
              · exact ⟨g, by injection he⟩
            obtain ⟨gp, rfl⟩ : ∃ g, a5 = some ⟨g, 0, none⟩ := by
              rcases R9.out.1.2 with ⟨_, h0⟩ | ⟨g, _, _, he, _⟩
              · omega
              · exact ⟨g, by injection he⟩
            obtain ⟨z0, z1, z2⟩ := rowK_get (keysOf L') h (by omega)
            have K9 := HV9.out.ext hQ.out
            have y0' := K9.cells (g := gk) rfl _ _ z0
            have y1' := K9.cells (g := gk) rfl _ _ z1
            have y2' := K9.cells (g := gk) rfl _ _ z2
            have hgk := K9.lt gk rfl
            have RQ := R9.out.ext hQ.out
            have hgp := RQ.1.lt gp rfl
            have h9 := nineAt RQ.1 hlt2
            have hget := fun w1 hx => get_c cb F5 L' r (kAt (keysOf L') h) w1 (C9.out.ext (hQ.out.trans hx))
            have hpk : kAt (keysOf L') h = (pAt L' h).1 := by simp [kAt, keysOf, pAt, List.getD, hlt2]
            have hpl : getLine (pAt L' h).1 L' = (pAt L' h).2 ∧ hasK (pAt L' h).1 L' = true := by
              have := nodup_look (k := (pAt L' h).1) (x := (pAt L' h).2) hnd.out (i := h) (by simp [pAt, List.getD, hlt2]) 0
              unfold getLine hasK
              rw [this]; simp
            rw [hpk] at hget y0' y1' y2'
            rw [hpl.1, hpl.2] at hget
            generalize pAt L' h = pp at hget y0' y1' y2' h9
            obtain ⟨⟨kp, kl, kt⟩, ⟨yf, ya, yb, yc, yd, ym⟩⟩ := pp
            unfold Key.val Line.val at hget
            dsimp only at hget y0' y1' y2'
            obtain ⟨t0, t1, t2, t3, t4, t5, t6, t7, t8⟩ := h9
            dsimp only at t0 t1 t2 t3 t4 t5 t6 t7 t8
            have HGet := Lib.hid hget
            clear hget z0 z1 z2 K9 RQ hpk hpl y0 y1
            go_upto_region 18 with (first | (go_at_call 29; refine (HGet.out _ (by repeat (first | exact Ext.refl _ | assumption | refine Ext.alloc ?_ _ | refine Ext.drew ?_ | refine Ext.setCell ?_ (by first | (simp; done) | (dsimp only; omega)) _ | refine Ext.trans ?_ (by assumption)))).mono ?_; rintro e wa ⟨rfl, hba⟩))
            refine wp_gen ?_; intro U hU
            have EU : Ext wr U := by rw [hU]; exact (Ext.trans (by repeat (first | exact Ext.refl _ | assumption | refine Ext.alloc ?_ _ | refine Ext.drew ?_ | refine Ext.setCell ?_ (by first | (simp; done) | (dsimp only; omega)) _ | refine Ext.trans ?_ (by assumption))) hba).alloc _
            have n8 : U.heap[wa.heap.size]? = some (.cells #[.int .u64 yf, .bool ya, .bool yb, .bool yc, .bool yd, .int .u8 ym] 38 (0, 0)) := by rw [hU]; exact alloc_same ..
            have hu8 := heap_lt n8
            have f0 := (heap_cell n8 0).trans rfl
            have f1 := (heap_cell n8 1).trans rfl
            have f2 := (heap_cell n8 2).trans rfl
            have f3 := (heap_cell n8 3).trans rfl
            have f4 := (heap_cell n8 4).trans rfl
            have f5 := (heap_cell n8 5).trans rfl
            have xU := ((hQ.out.trans EU).block _ hz9).trans X9.out
            have y0 : U.cell? ⟨xb, 0, none⟩ = some (.slice (some ⟨gp, 0, none⟩) L'.length c5) := (heap_cell xU 0).trans rfl
            have y1 : U.cell? ⟨xb, 1, none⟩ = some (.int .i64 r) := (heap_cell xU 1).trans rfl
            have hxU := heap_lt xU
            have y0' := EU.someCell y0'
            have y1' := EU.someCell y1'
            have y2' := EU.someCell y2'
            have t0 := EU.someCell t0
            have t1 := EU.someCell t1
            have t2 := EU.someCell t2
            have t3 := EU.someCell t3
            have t4 := EU.someCell t4
            have t5 := EU.someCell t5
            have t6 := EU.someCell t6
            have t7 := EU.someCell t7
            have t8 := EU.someCell t8
            have hsU := EU.size
            have hgk' : gk < U.heap.size := by omega
            have hgp' : gp < U.heap.size := by omega
            have hkB : keyB ⟨kp, kl, kt⟩ ⟨kp, kl, kt⟩ = true := by simp [keyB]
            have hlB : lineB ⟨yf, ya, yb, yc, yd, ym⟩ ⟨yf, ya, yb, yc, yd, ym⟩ = true := by simp [lineB]
            have HU := Lib.hid (hQ.out.trans EU)
            clear hU n8 xU hba EU
            refine region_ext (by kernel_rfl) (by kernel_rfl) ?_; (repeat (go_big_quiet_step (first | (go_at_call 33; exact calls_wext (real_c2 kp kl kt _)) | (go_at_call 34; exact calls_wext (lined_c2 yf ya yb yc yd ym _))))); refine wpQuiet_nil ?_; intro w1 hb; have ⟨hc, hf, hh, hs⟩ := hb.facts; try simp only [World.size_alloc, World.size_setCell, World.size_drew] at hs
            have HU2 := Lib.hid (HU.out.trans hb)
            clear hb hc hf hh hs
            go_wp2
            refine ⟨⟨h + 1, by omega, by go_num, Lib.hid HU2.out⟩, by simp [intOf]; omega⟩
          · have EQ := HE9.out.trans hQ.out
            have XQ := (hQ.out.block _ hz9).trans X9.out
            have CQ := C9.out.ext hQ.out
            have RQ := R9.out.ext hQ.out
            go_wp2
            refine ⟨⟨j + 1, F5, a5, c5, by omega, by omega, by go_num, Lib.hid (by rw [HLE.out]; exact ⟨CQ, HF5.out, EQ, XQ, RQ⟩)⟩, by simp [intOf]; omega⟩
      · skip
        have y1 := (heap_cell hR.out.2.2.2.1 1).trans rfl
        have hxr := heap_lt hR.out.2.2.2.1
        go_upto_region 20 with (fail)
        refine region_ext (by kernel_rfl) (by kernel_rfl) ?_; (repeat (go_big_quiet_step ((go_at_call 35; exact calls_wext (room_c cb F' _ r _ (hR.out.1.ext (wext_ext _ _))))))); refine wpQuiet_nil ?_; intro w1 hb; have ⟨hc, hf, hh, hs⟩ := hb.facts; try simp only [World.size_alloc, World.size_setCell, World.size_drew] at hs
        go_wp2
        go_ret
        exact ⟨rfl, hR.out.2.2.1.trans hb⟩
    · have y1 := (heap_cell hR.out.2.2.2.1 1).trans rfl
      have hxr := heap_lt hR.out.2.2.2.1
      go_upto_region 20 with (fail)
      refine region_ext (by kernel_rfl) (by kernel_rfl) ?_; (repeat (go_big_quiet_step ((go_at_call 35; exact calls_wext (room_c cb F' _ r _ (hR.out.1.ext (wext_ext _ _))))))); refine wpQuiet_nil ?_; intro w1 hb; have ⟨hc, hf, hh, hs⟩ := hb.facts; try simp only [World.size_alloc, World.size_setCell, World.size_drew] at hs
      go_wp2
      go_ret
      exact ⟨rfl, hR.out.2.2.1.trans hb⟩
end Go.Proofs.Ytnacgmmkmedpdaa
