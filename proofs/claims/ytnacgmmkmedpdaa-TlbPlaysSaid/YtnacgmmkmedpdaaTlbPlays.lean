/- TlbPlays: whatever is put, dropped, and picked: what any look finds, and how many lines there are: for every room and all deeds. -/
import Derived.Test.YtnacgmmkmedpdaaTlbK
namespace Go.Proofs.Ytnacgmmkmedpdaa
set_option linter.unusedVariables false
set_option linter.unusedSimpArgs false
open Go.RowKit
attribute [local go_sem] wext_cell wext_frozen wext_heap alloc_cell alloc_frozen alloc_heap setCell_cell objCell_cells objFrozen_cells

theorem rhit_equal (x y : Hit) (w : World) : (Op.equal 76 x.val y.val).run Try.prog w = .ok (decide (x = y)) w := by
  show (Op.equalIn 10000 _ _ _).run _ _ = _
  obtain ⟨p, l, t, a, b, c⟩ := x
  obtain ⟨p', l', t', a', b', c'⟩ := y
  simp [Hit.val, go_sem]
  by_cases h1 : p = p' <;> by_cases h2 : l = l' <;> by_cases h3 : t = t' <;> by_cases h4 : a = a' <;> by_cases h5 : b = b' <;> by_cases h6 : c = c' <;> simp [*]
theorem rhit_neq (p l : Int) (t a b c : Bool) (p' l' : Int) (t' a' b' c' : Bool) (w : World) : (binOp .neq 76 (.agg #[.int .u64 p, .int .i64 l, .bool t, .bool a, .bool b, .bool c]) (.agg #[.int .u64 p', .int .i64 l', .bool t', .bool a', .bool b', .bool c'])).run Try.prog w =
    .ok (.bool (!hitB ⟨p, l, t, a, b, c⟩ ⟨p', l', t', a', b', c'⟩)) w := by
  have := rhit_equal ⟨p, l, t, a, b, c⟩ ⟨p', l', t', a', b', c'⟩ w
  rw [run_neq_struct]
  show ((Op.equal _ _ _).run _ _).andThen _ = _
  simp only [Hit.val] at this
  rw [this]; rfl
attribute [local go_sem high] rhit_neq
theorem hit13_c2 (f l : Int) (a b c d : Bool) (w : World) : Calls Try.prog 42 #[.agg #[.int .u64 f, .int .i64 l, .bool a, .bool b, .bool c, .bool d]] w fun e w' => e = .returned (.agg #[.int .u64 f, .int .i64 l, .bool a, .bool b, .bool c, .bool d]) ∧ Ext w w' := hit13_c ⟨f, l, a, b, c, d⟩ w

set_option maxHeartbeats 4000000 in
set_option maxRecDepth 20000 in
theorem tlbPlays_c (v : Value) (ds : List TDeed) (room : Int) (w : World) (h0 : -9223372036854775808 ≤ room) (h1 : room ≤ 9223372036854775807) (hds : TDeedsAt w v ds) :
    Calls Try.prog 9 #[.int .i64 room, v] w fun e w' => e = .returned (.bool true) ∧ Ext w w' := by
  have HD := Lib.hid hds
  obtain ⟨a, cap, rfl, hn, hm, hok, -⟩ := hds
  unfold maxLen at hm
  have HK := Lib.hid hok
  have hnew := fun w => tnew_c room w h0 h1
  have hnew1 := fun w => refNew_c room w h0 h1
  unfold EndTNew at hnew
  have hr64 := clampR_le room
  generalize clampR room = r at *
  have HLK := Lib.hid (fun j hj => foldT_ok r ds hok j hj)
  have HN := Lib.hid hnew
  have HN1 := Lib.hid hnew1
  clear hok hnew hnew1
  go_enter Try.func9, Try.ntmps9
  go_upto_region 3 with (first | (go_at_call 37; refine (awake13_c _).mono ?_; rintro e w0 ⟨rfl, hb0⟩) | (go_at_call 38; refine (HN.out _).mono ?_; rintro e w1 ⟨tb, cb, F, rfl, hC, hE, -, hF⟩))
  have HC := Lib.hid hC
  have HE := Lib.hid (hb0.trans hE)
  have hFw : ∀ x ∈ F, w.heap.size ≤ x := fun x hx => by have := hF x hx; have := hb0.size; omega
  have HF := Lib.hid hFw
  clear hC hE hF hFw hb0
  go_upto_region 6 with (first | (go_at_call 23; refine (HN1.out _).mono ?_; rintro e w2 ⟨rfl, hb2⟩))
  go_wp2
  refine wp_gen ?_; intro W hW
  have EW : Ext w W := by rw [hW]; exact (HE.out.trans (Ext.trans (by repeat (first | exact Ext.refl _ | assumption | refine Ext.alloc ?_ _ | refine Ext.drew ?_ | refine Ext.setCell ?_ (by first | (simp; done) | (dsimp only; omega)) _ | refine Ext.trans ?_ (by assumption))) hb2)).alloc _
  have E1W : Ext w1 W := by rw [hW]; exact (Ext.trans (by repeat (first | exact Ext.refl _ | assumption | refine Ext.alloc ?_ _ | refine Ext.drew ?_ | refine Ext.setCell ?_ (by first | (simp; done) | (dsimp only; omega)) _ | refine Ext.trans ?_ (by assumption))) hb2).alloc _
  have x0 : W.heap[w2.heap.size]? = some (.cells #[.slice none 0 0, .int .i64 r] 28 (0, 0)) := by rw [hW]; exact alloc_same ..
  have hxs : w.heap.size ≤ w2.heap.size := (HE.out.trans (Ext.trans (by repeat (first | exact Ext.refl _ | assumption | refine Ext.alloc ?_ _ | refine Ext.drew ?_ | refine Ext.setCell ?_ (by first | (simp; done) | (dsimp only; omega)) _ | refine Ext.trans ?_ (by assumption))) hb2)).size
  have hxl := heap_lt x0
  generalize w2.heap.size = xb at x0 hxs hxl ⊢
  have X0 := Lib.hid x0
  have HEW := Lib.hid EW
  have HCW := Lib.hid (HC.out.ext E1W)
  clear hW EW E1W x0 hb2
  go_loopw [8] (fun i wr => ∃ (j : Nat) (F' : List Nat) (a2 : Option Addr) (c2 : Nat), j ≤ ds.length ∧ j ≤ 100 ∧ i = .int .i64 j ∧ Hid (TAt wr tb cb F' (foldT r (ds.take j)) r ∧ (∀ x ∈ F', w.heap.size ≤ x) ∧ Ext w wr ∧
    wr.heap[xb]? = some (.cells #[.slice a2 (foldT r (ds.take j)).length c2, .int .i64 r] 28 (0, 0)) ∧ RefAt wr (.slice a2 (foldT r (ds.take j)).length c2) (foldT r (ds.take j)))) (fun i _ => ds.length - (intOf i).toNat)
  case atStart => exact ⟨0, F, none, 0, by omega, by omega, rfl, Lib.hid ⟨HCW.out, HF.out, HEW.out, X0.out, ⟨by simpa [rowP, foldT] using Owns.nil _ _ _, by simp [foldT]⟩⟩⟩
  case round =>
    obtain ⟨j, F', a2, c2, hj, hj2, rfl, hR⟩ := hrel
    by_cases hlt : j < ds.length
    · by_cases h120 : j < 100
      · skip
        obtain ⟨a', cap', he, -, -, -, hcl⟩ := HD.out
        obtain ⟨g, o, e1, e2, e3⟩ := hcl j hlt
        have he' : a = a' := by injection he
        have hstep := foldT_take r ds j hlt
        have hdok := HK.out j hlt
        have hLok := HLK.out j hj
        generalize tAt ds j = d at e3 hstep hdok
        subst he'
        subst e1
        have hsw := hR.out.2.2.1.size
        have e3w : ∀ i u, d.cells[i]? = some u → wr.cell? ⟨g, o + j * 16 + i, none⟩ = some u := fun i u hu => hR.out.2.2.1.someCell (e3 i u hu)
        have d0 : wr.cell? ⟨g, o + j * 16, none⟩ = some (.int .i64 d.kind) := e3w 0 _ rfl
        have d1 := e3w 1 _ rfl
        have d2 := e3w 2 _ rfl
        have d3 := e3w 3 _ rfl
        have d4 := e3w 4 _ rfl
        have d5 := e3w 5 _ rfl
        have d6 := e3w 6 _ rfl
        have d7 := e3w 7 _ rfl
        have d8 := e3w 8 _ rfl
        have d9 := e3w 9 _ rfl
        have d10 := e3w 10 _ rfl
        have d11 := e3w 11 _ rfl
        have d12 := e3w 12 _ rfl
        have d13 := e3w 13 _ rfl
        have d14 := e3w 14 _ rfl
        have d15 := e3w 15 _ rfl
        have hgr : g < wr.heap.size := by omega
        have m0 := hR.out.2.2.2.1
        have y0 := (heap_cell m0 0).trans rfl
        have y1 := (heap_cell m0 1).trans rfl
        have hxr := heap_lt m0
        have HS := Aside.mk hstep
        have M0 := Lib.hid m0
        clear m0 he hcl e3 e3w hstep
        go_upto_region 9 with (fail)
        refine region_mix [.q [0, 1, 2, 3, 4, 5], .l 6 2, .l 7 2] (by kernel_rfl) (by kernel_rfl) ?_
        (try refine ⟨fun h => absurd h (by simp), ?_⟩); (repeat (unfold wpPlan; simp only [pickL, List.map_cons, List.map_nil, List.getD_cons_succ, List.getD_cons_zero]; (repeat go_big_quiet_step (fail)); refine wpQuiet_nil ?_)); unfold wpPlan; intro w4 hb4; (try simp only [pickL, List.map_cons, List.map_nil, List.getD_cons_succ, List.getD_cons_zero])
        go_wp2_with (first | (go_at_call 39; refine (tdo_c tb cb F' (foldT r (ds.take j)) r _ d _ (hR.out.1.ext hb4) (hR.out.2.2.2.2.ext hb4) hdok hLok).mono ?_; rintro e w5 ⟨v5, rfl, hv5, F5, hC5, hK5, hF5⟩; obtain ⟨a5, c5, rfl, -, -⟩ := hv5.1.form))
        have s4 := hb4.size
        have X5 := Lib.hid ((hK5.block xb (by omega) ((hR.out.1.ext hb4).2.apart ((hb4.block _ hxr).trans M0.out) (by decide) (by decide))).trans ((hb4.block _ hxr).trans M0.out))
        have E5 : Ext w w5 := Keeps.to_ext (hR.out.2.2.1.trans hb4) hK5 hR.out.2.1
        have HC5 := Lib.hid hC5
        have HV5 := Lib.hid hv5
        have HE5 := Lib.hid E5
        have HF5 : Hid (∀ x ∈ F5, w.heap.size ≤ x) := Lib.hid fun x hx => (hF5 x hx).elim (hR.out.2.1 x) fun h => by omega
        clear hb4 hC5 hK5 hF5 hv5 E5 d0 d1 d2 d3 d4 d5 d6 d7 d8 d9 d10 d11 d12 d13 d14 d15 y0 y1
        (try refine ⟨fun h => absurd h (by simp), ?_⟩); (repeat (unfold wpPlan; simp only [pickL, List.map_cons, List.map_nil, List.getD_cons_succ, List.getD_cons_zero]; (repeat go_big_quiet_step (fail)); refine wpQuiet_nil ?_)); unfold wpPlan; intro w6 hb6; (try simp only [pickL, List.map_cons, List.map_nil, List.getD_cons_succ, List.getD_cons_zero])
        have x6 := (hb6.block xb (heap_lt X5.out)).trans X5.out
        have g0 := (heap_cell x6 0).trans rfl
        have g1 := (heap_cell x6 1).trans rfl
        have g2 := frozen_of x6
        have X6 := Lib.hid x6
        have HC6 := Lib.hid (HC5.out.ext hb6)
        have HV6 := Lib.hid (HV5.out.ext hb6)
        have HE6 := Lib.hid (HE5.out.trans hb6)
        clear hb6 x6
        go_wp2
        (try refine ⟨fun h => absurd h (by simp), ?_⟩); (repeat (unfold wpPlan; simp only [pickL, List.map_cons, List.map_nil, List.getD_cons_succ, List.getD_cons_zero]; (repeat go_big_quiet_step (fail)); refine wpQuiet_nil ?_)); unfold wpPlan; intro V hb7; (try simp only [pickL, List.map_cons, List.map_nil, List.getD_cons_succ, List.getD_cons_zero])
        have CV : Hid (TAt V tb cb F5 (foldT r (ds.take (j + 1))) r) := Lib.hid (by rw [HS.out]; exact (HC6.out.store2 X6.out).ext hb7)
        have RV : Hid (RefAt V (.slice a5 (foldT r (ds.take (j + 1))).length c5) (foldT r (ds.take (j + 1)))) := Lib.hid (by rw [HS.out]; exact (HV6.out.store2 X6.out).ext hb7)
        have XV : Hid (V.heap[xb]? = some (.cells #[.slice a5 (foldT r (ds.take (j + 1))).length c5, .int .i64 r] 28 (0, 0))) := Lib.hid (by rw [HS.out]; exact (hb7.block xb (by simp; exact heap_lt X6.out)).trans (store2_heap X6.out))
        have EV : Hid (Ext w V) := Lib.hid ((Ext.setCell (Ext.setCell HE6.out (by simp; omega) _) (by simp; omega) _).trans hb7)
        have hLok' := HLK.out (j + 1) hlt
        have ⟨hV1, hV2⟩ := CV.out.2.room
        clear hb7 g0 g1 g2 X5 X6 HC5 HC6 HV5 HV6 HE5 HE6 M0
        generalize hLe : foldT r (ds.take (j + 1)) = L' at *
        have HLE := Aside.mk hLe
        clear hLe
        have hjd : j + 1 ≤ ds.length := hlt
        go_upto_region 10 with (fail)
        go_wp2
        obtain ⟨w9, hw9⟩ : ∃ w9, w9 = V := ⟨V, rfl⟩
        rw [← hw9] at CV RV XV EV ⊢
        clear hw9
        go_loopw [9] (fun kk wr => ∃ q : Nat, q ≤ j + 1 ∧ kk = .int .i64 q ∧ Hid (Ext w9 wr)) (fun kk _ => j + 1 - (intOf kk).toNat)
        case atStart => exact ⟨0, by omega, rfl, Lib.hid (Ext.refl _)⟩
        case round =>
          obtain ⟨q, hq, rfl, HQwr⟩ := hrel
          have hsq := HQwr.out.size
          by_cases hlt2 : q < j + 1
          · obtain ⟨a', cap', he, -, -, -, hcl⟩ := HD.out
            obtain ⟨g', o', e1, e2, e3⟩ := hcl q (by omega)
            obtain ⟨rfl, rfl⟩ : g' = g ∧ o' = o := by
              have he' : some (⟨g, o, none⟩ : Addr) = a' := by injection he
              rw [← he'] at e1
              simp at e1
              exact ⟨e1.1.symm, e1.2.symm⟩
            have hqok := HK.out q (by omega)
            generalize tAt ds q = dq at e3 hqok
            obtain ⟨-, ⟨ha0, ha1⟩, -⟩ := hqok
            have EW := EV.out.trans HQwr.out
            have sw9 := EV.out.size
            have e3w : ∀ i u, dq.cells[i]? = some u → wr.cell? ⟨g', o' + q * 16 + i, none⟩ = some u := fun i u hu => EW.someCell (e3 i u hu)
            have d1 := e3w 1 _ rfl
            have d3 := e3w 3 _ rfl
            have hgr2 : g' < wr.heap.size := by have := EW.size; omega
            have hlook := fun w1 (hx : Ext w9 w1) => look_c tb cb F5 L' r dq.p dq.a w1 (CV.out.ext hx) hLok' ha0 ha1
            have hrlook := fun w1 (hx : Ext w9 w1) => refLook_c L' _ r dq.p dq.a w1 (RV.out.ext hx) hLok' ha0 ha1
            unfold lookV at hlook hrlook
            generalize lookR dq.p dq.a L' = R at hlook hrlook
            obtain ⟨⟨qf, ql, qa, qb, qc, qd⟩, his⟩ := R
            unfold Hit.val at hlook hrlook
            dsimp only at hlook hrlook
            have HLK1 := Lib.hid hlook
            have HLK2 := Lib.hid hrlook
            have HE3 := Lib.hid e3
            clear hlook hrlook e3 e3w he hcl EW
            go_upto_region 13 with (fail)
            refine region_mixA 15 (.cells #[.int .u64 0, .int .i64 0, .bool false, .bool false, .bool false, .bool false] 70 (0, 0)) [.q [0, 1, 2, 3, 4, 5, 6, 7, 8, 9, 10], .l 11 5, .b [12, 13, 14], .l 15 4, .l 16 2, .q [17]] (by kernel_rfl) (by kernel_rfl) (alloc_runA rfl (by kernel_rfl : _ = some (some (Value.agg (#[.int .u64 0, .int .i64 0, .bool false, .bool false, .bool false, .bool false])))) rfl) ?_
            (repeat (unfold wpPlanA; simp only [pickL, List.map_cons, List.map_nil, List.getD_cons_succ, List.getD_cons_zero]; (repeat go_big_quiet_step (fail)); refine wpQuiet_nil ?_)); unfold wpPlanA; intro p1 hp1; (try simp only [pickL, List.map_cons, List.map_nil, List.getD_cons_succ, List.getD_cons_zero])
            go_wp2_with (first | (go_at_call 40; refine (HLK1.out _ (HQwr.out.trans hp1)).mono ?_; rintro e p2 ⟨rfl, hp2⟩))
            have s1 := hp1.size
            have s2 := hp2.size
            refine ⟨⟨by omega, fun _ => hp2, fun h => absurd h (by omega)⟩, ?_⟩
            have HP2 := Lib.hid (hp1.trans hp2)
            clear hp1 hp2
            (repeat (unfold wpPlanA; simp only [pickL, List.map_cons, List.map_nil, List.getD_cons_succ, List.getD_cons_zero]; (repeat go_big_quiet_step (fail)); refine wpQuiet_nil ?_)); unfold wpPlanA; intro Ub p6 hp6 hp6B hp6O; simp only [List.getD_cons_succ, List.getD_cons_zero, ptrTo]; simp only [Act.put, Array.set!_eq_setIfInBounds, List.setIfInBounds_toArray, List.set_cons_succ, List.set_cons_zero]
            have HP6 := Lib.hid (HP2.out.trans hp6)
            have O6 := Lib.hid hp6O
            have hlb := heap_lt hp6O
            have s6 := hp6.size
            clear hp6 hp6O
            (repeat (unfold wpPlanA; simp only [pickL, List.map_cons, List.map_nil, List.getD_cons_succ, List.getD_cons_zero]; (repeat go_big_quiet_step (fail)); refine wpQuiet_nil ?_)); unfold wpPlanA; intro p7 hp7; (try simp only [pickL, List.map_cons, List.map_nil, List.getD_cons_succ, List.getD_cons_zero])
            have b7 := (hp7.block Ub hlb).trans O6.out
            have g0 := (heap_cell b7 0).trans rfl
            have g1 := (heap_cell b7 1).trans rfl
            have g2 := (heap_cell b7 2).trans rfl
            have g3 := (heap_cell b7 3).trans rfl
            have g4 := (heap_cell b7 4).trans rfl
            have g5 := (heap_cell b7 5).trans rfl
            have g6 := frozen_of b7
            have B7 := Lib.hid b7
            have HP7 := Lib.hid (HP6.out.trans hp7)
            have s7 := HP7.out.size
            have s67 := hp7.size
            clear b7 hp7
            go_wp2
            refine ⟨⟨by simp; omega, fun h => absurd h (by omega), fun h => absurd h (by omega)⟩, ?_⟩
            (repeat (unfold wpPlanA; simp only [pickL, List.map_cons, List.map_nil, List.getD_cons_succ, List.getD_cons_zero]; (repeat go_big_quiet_step (fail)); refine wpQuiet_nil ?_)); unfold wpPlanA; intro U hp9; (try simp only [pickL, List.map_cons, List.map_nil, List.getD_cons_succ, List.getD_cons_zero])
            have s9 := hp9.size
            simp only [World.size_setCell] at s9
            have HQU : Hid (Ext w9 U) := Lib.hid (HQwr.out.trans ((ext6 HP7.out hp6B).trans hp9))
            have HNU : Hid (U.heap[Ub]? = some (.cells #[.int .u64 qf, .int .i64 ql, .bool qa, .bool qb, .bool qc, .bool qd] 70 (0, 0))) := Lib.hid ((hp9.block Ub (by simp; omega)).trans (store6_heap B7.out))
            have hlU := heap_lt HNU.out
            have HRU : Hid (Ext wr U) := Lib.hid ((ext6 HP7.out hp6B).trans hp9)
            clear hp9 g0 g1 g2 g3 g4 g5 g6 s1 s2 s6 s7 s67 s9 HP2 HP6 HP7 O6 B7 hlb
            have hsU := HQU.out.size
            have EU := EV.out.trans HQU.out
            have d1' : U.cell? ⟨g', o' + q * 16 + 1, none⟩ = some (.int .i64 dq.p) := EU.someCell (HE3.out 1 _ rfl)
            have d3' : U.cell? ⟨g', o' + q * 16 + 3, none⟩ = some (.int .u64 dq.a) := EU.someCell (HE3.out 3 _ rfl)
            have hgU : g' < U.heap.size := by omega
            have xU := (HQU.out.block _ (heap_lt XV.out)).trans XV.out
            have y0 : U.cell? ⟨xb, 0, none⟩ = some (.slice a5 L'.length c5) := (heap_cell xU 0).trans rfl
            have y1 : U.cell? ⟨xb, 1, none⟩ = some (.int .i64 r) := (heap_cell xU 1).trans rfl
            have hxU := heap_lt xU
            clear d1 d3 xU EU
            go_upto_region 14 with (fail)
            refine region_mixA 15 (.cells #[.int .u64 0, .int .i64 0, .bool false, .bool false, .bool false, .bool false] 76 (0, 0)) [.q [0, 1, 2, 3, 4, 5, 6, 7, 8, 9, 10], .l 11 5, .b [12, 13, 14], .l 15 4, .l 16 2, .q [17]] (by kernel_rfl) (by kernel_rfl) (alloc_runA rfl (by kernel_rfl : _ = some (some (Value.agg (#[.int .u64 0, .int .i64 0, .bool false, .bool false, .bool false, .bool false])))) rfl) ?_
            (repeat (unfold wpPlanA; simp only [pickL, List.map_cons, List.map_nil, List.getD_cons_succ, List.getD_cons_zero]; (repeat go_big_quiet_step (fail)); refine wpQuiet_nil ?_)); unfold wpPlanA; intro p1 hp1; (try simp only [pickL, List.map_cons, List.map_nil, List.getD_cons_succ, List.getD_cons_zero])
            go_wp2_with (first | (go_at_call 41; refine (HLK2.out _ (HQU.out.trans hp1)).mono ?_; rintro e p2 ⟨rfl, hp2⟩))
            have s1 := hp1.size
            have s2 := hp2.size
            refine ⟨⟨by omega, fun _ => hp2, fun h => absurd h (by omega)⟩, ?_⟩
            have HP2 := Lib.hid (hp1.trans hp2)
            clear hp1 hp2
            (repeat (unfold wpPlanA; simp only [pickL, List.map_cons, List.map_nil, List.getD_cons_succ, List.getD_cons_zero]; (repeat go_big_quiet_step (fail)); refine wpQuiet_nil ?_)); unfold wpPlanA; intro Xb p6 hp6 hp6B hp6O; simp only [List.getD_cons_succ, List.getD_cons_zero, ptrTo]; simp only [Act.put, Array.set!_eq_setIfInBounds, List.setIfInBounds_toArray, List.set_cons_succ, List.set_cons_zero]
            have HP6 := Lib.hid (HP2.out.trans hp6)
            have O6 := Lib.hid hp6O
            have hlb := heap_lt hp6O
            have s6 := hp6.size
            clear hp6 hp6O
            (repeat (unfold wpPlanA; simp only [pickL, List.map_cons, List.map_nil, List.getD_cons_succ, List.getD_cons_zero]; (repeat go_big_quiet_step (fail)); refine wpQuiet_nil ?_)); unfold wpPlanA; intro p7 hp7; (try simp only [pickL, List.map_cons, List.map_nil, List.getD_cons_succ, List.getD_cons_zero])
            have b7 := (hp7.block Xb hlb).trans O6.out
            have g0 := (heap_cell b7 0).trans rfl
            have g1 := (heap_cell b7 1).trans rfl
            have g2 := (heap_cell b7 2).trans rfl
            have g3 := (heap_cell b7 3).trans rfl
            have g4 := (heap_cell b7 4).trans rfl
            have g5 := (heap_cell b7 5).trans rfl
            have g6 := frozen_of b7
            have B7 := Lib.hid b7
            have HP7 := Lib.hid (HP6.out.trans hp7)
            have s7 := HP7.out.size
            have s67 := hp7.size
            clear b7 hp7
            go_wp2
            refine ⟨⟨by simp; omega, fun h => absurd h (by omega), fun h => absurd h (by omega)⟩, ?_⟩
            (repeat (unfold wpPlanA; simp only [pickL, List.map_cons, List.map_nil, List.getD_cons_succ, List.getD_cons_zero]; (repeat go_big_quiet_step (fail)); refine wpQuiet_nil ?_)); unfold wpPlanA; intro X hp9; (try simp only [pickL, List.map_cons, List.map_nil, List.getD_cons_succ, List.getD_cons_zero])
            have s9 := hp9.size
            simp only [World.size_setCell] at s9
            have HQX : Hid (Ext w9 X) := Lib.hid (HQU.out.trans ((ext6 HP7.out hp6B).trans hp9))
            have HNX : Hid (X.heap[Xb]? = some (.cells #[.int .u64 qf, .int .i64 ql, .bool qa, .bool qb, .bool qc, .bool qd] 76 (0, 0))) := Lib.hid ((hp9.block Xb (by simp; omega)).trans (store6_heap B7.out))
            have hlX := heap_lt HNX.out
            have HRX : Hid (Ext U X) := Lib.hid ((ext6 HP7.out hp6B).trans hp9)
            clear hp9 g0 g1 g2 g3 g4 g5 g6 s1 s2 s6 s7 s67 s9 HP2 HP6 HP7 O6 B7 hlb
            have HNU2 := Lib.hid ((HRX.out.block Ub hlU).trans HNU.out)
            clear y0 y1 d1' d3'
            have hUX : Ub < X.heap.size := heap_lt HNU2.out
            have x0 := (heap_cell HNU2.out 0).trans rfl
            have x1 := (heap_cell HNU2.out 1).trans rfl
            have x2 := (heap_cell HNU2.out 2).trans rfl
            have x3 := (heap_cell HNU2.out 3).trans rfl
            have x4 := (heap_cell HNU2.out 4).trans rfl
            have x5 := (heap_cell HNU2.out 5).trans rfl
            have z0 := (heap_cell HNX.out 0).trans rfl
            have z1 := (heap_cell HNX.out 1).trans rfl
            have z2 := (heap_cell HNX.out 2).trans rfl
            have z3 := (heap_cell HNX.out 3).trans rfl
            have z4 := (heap_cell HNX.out 4).trans rfl
            have z5 := (heap_cell HNX.out 5).trans rfl
            have hBB : hitB ⟨qf, ql, qa, qb, qc, qd⟩ ⟨qf, ql, qa, qb, qc, qd⟩ = true := by simp [hitB]
            go_upto_region 15 with (fail)
            refine region_ext (by kernel_rfl) (by kernel_rfl) ?_; (repeat (go_big_quiet_step ((go_at_call 42; exact calls_wext (hit13_c2 qf ql qa qb qc qd _))))); refine wpQuiet_nil ?_; intro w1 hb; have ⟨hc, hf, hh, hs⟩ := hb.facts; try simp only [World.size_alloc, World.size_setCell, World.size_drew] at hs
            have HQ9 := Lib.hid (HQX.out.trans hb)
            clear hb hc hf hh hs
            go_wp2
            exact ⟨⟨q + 1, by omega, by go_num, Lib.hid HQ9.out⟩, by simp [intOf]; omega⟩
          · have hxw := (HQwr.out.block _ (heap_lt XV.out)).trans XV.out
            have y0 : wr.cell? ⟨xb, 0, none⟩ = some (.slice a5 L'.length c5) := (heap_cell hxw 0).trans rfl
            have hxl' := heap_lt hxw
            have HXW := Lib.hid hxw
            clear hxw
            go_upto_region 17 with (fail)
            refine region_ext (by kernel_rfl) (by kernel_rfl) ?_; (repeat (go_big_quiet_step ((go_at_call 43; exact calls_wext (len_c tb cb F5 L' r _ (CV.out.ext (HQwr.out.trans (wext_ext _ _)))))))); refine wpQuiet_nil ?_; intro w1 hb; have ⟨hc, hf, hh, hs⟩ := hb.facts; try simp only [World.size_alloc, World.size_setCell, World.size_drew] at hs
            have CQ := CV.out.ext (HQwr.out.trans hb)
            have RQ := RV.out.ext (HQwr.out.trans hb)
            have XQ := (hb.block _ hxl').trans HXW.out
            have EQ := EV.out.trans (HQwr.out.trans hb)
            clear hb hc hf hh hs
            go_wp2
            exact ⟨⟨j + 1, F5, a5, c5, by omega, by omega, by go_num, Lib.hid (by rw [HLE.out]; exact ⟨CQ, HF5.out, EQ, XQ, RQ⟩)⟩, by simp [intOf]; omega⟩
      · go_wp2
        go_ret
        exact ⟨rfl, hR.out.2.2.1.trans (by repeat (first | exact Ext.refl _ | assumption | refine Ext.alloc ?_ _ | refine Ext.drew ?_ | refine Ext.setCell ?_ (by first | (simp; done) | (dsimp only; omega)) _ | refine Ext.trans ?_ (by assumption)))⟩
    · go_wp2
      go_ret
      exact ⟨rfl, hR.out.2.2.1.trans (by repeat (first | exact Ext.refl _ | assumption | refine Ext.alloc ?_ _ | refine Ext.drew ?_ | refine Ext.setCell ?_ (by first | (simp; done) | (dsimp only; omega)) _ | refine Ext.trans ?_ (by assumption)))⟩
end Go.Proofs.Ytnacgmmkmedpdaa
