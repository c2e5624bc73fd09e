/- Joined texts, part 46 of what the law stands on: each as its own head says. -/
import Derived.Test.YtkfonacokamfiaaGreatGoz45
import Derived.Test.YtkfonacokamfiaaGreatGoz41
import Derived.Test.YtkfonacokamfiaaGreatGoz43
import Derived.Test.YtkfonacokamfiaaGreatGoz30
/- The document's translations: Look. -/
namespace Go.Proofs.YtkfonacokamfiaaGreat
set_option linter.unusedVariables false
set_option linter.unusedSimpArgs false
open Go.RowKit
attribute [local go_sem] wext_cell wext_frozen wext_heap alloc_cell alloc_frozen alloc_heap setCell_cell objCell_cells objFrozen_cells
set_option maxHeartbeats 4000000 in
theorem refLook_c (L : List (Key × Line)) (v : Value) (r : Nat) (p a : Int) (w : World) (ho : RefAt w v L) (hL : LOk L) (h0 : 0 ≤ a) (h1 : a ≤ 18446744073709551615) :
  Calls Tryz.prog 71 #[.agg #[v, .int .i64 r], .int .i64 p, .int .u64 a] w fun e w' => e = .returned (lookV p a L) ∧ Ext w w' := by
 have HO := Lib.hid ho
 obtain ⟨va', cap, rfl, hn, hm⟩ := ho.1.form
 unfold maxLen at hm
 have hk1 := fun w => refKeyT_c p 1 a w (.inl rfl) h0 h1
 have hk2 := fun w => refKeyT_c p 2 a w (.inr (.inl rfl)) h0 h1
 have hk3 := fun w => refKeyT_c p 3 a w (.inr (.inr rfl)) h0 h1
 have hpl := fun w => refPlace_c a w h0 h1
 obtain ⟨hpl0, hpl1⟩ := placeI_lt a h0
 have hhas := fun w => refHas_c (getLine (kT p 1 a) L) (placeI a) w (getLine_ok hL) hpl0 hpl1
 have hg1 := fun w ho => refGet_c L (kT p 1 a) (.slice va' L.length cap) r w ho
 have hg2 := fun w ho => refGet_c L (kT p 2 a) (.slice va' L.length cap) r w ho
 have hg3 := fun w ho => refGet_c L (kT p 3 a) (.slice va' L.length cap) r w ho
 generalize hres : lookV p a L = R
 unfold lookV lookR at hres
 generalize kT p 1 a = k1 at *
 generalize kT p 2 a = k2 at *
 generalize kT p 3 a = k3 at *
 generalize placeI a = pl at *
 generalize hasF (getLine k1 L) pl = f1 at *
 generalize bitB (getLine k1 L).m pl = b1 at *
 generalize getLine k1 L = y1 at *
 generalize hasK k1 L = s1 at *
 generalize getLine k2 L = y2 at *
 generalize hasK k2 L = s2 at *
 generalize getLine k3 L = y3 at *
 generalize hasK k3 L = s3 at *
 obtain ⟨yf, ya, yb, yc, yd, ym⟩ := y1
 obtain ⟨uf, ua, ub, uc, ud, um⟩ := y2
 obtain ⟨vf, va, vb, vc, vd, vm⟩ := y3
 unfold Line.val at *
 dsimp only at *
 have HK1 := Lib.hid hk1
 have HK2 := Lib.hid hk2
 have HK3 := Lib.hid hk3
 have HPL := Lib.hid hpl
 have HH := Lib.hid hhas
 have HRES := Aside.mk hres
 go_enter Tryz.func71, Tryz.ntmps71
 go_wp2
 refine wp_gen ?_; intro W hW
 have W0 : Hid (W.heap[w.heap.size]? = some (.cells #[.slice va' L.length cap, .int .i64 r] 52 (0, 0))) := Lib.hid (by rw [hW]; exact (alloc_other _ _ (by simp)).trans (alloc_same ..))
 have W1 : Hid (W.heap[w.heap.size + 1]? = some (.cells #[.int .u64 0, .int .i64 0, .bool false, .bool false, .bool false, .bool false] 161 (0, 0))) := Lib.hid (by rw [hW]; exact alloc_same1 ..)
 have WE : Hid (Ext w W) := Lib.hid (by rw [hW]; exact (by repeat (first | exact Ext.refl _ | assumption | refine Ext.alloc ?_ _ | refine Ext.drew ?_ | refine Ext.setCell ?_ (by first | (simp; done) | (dsimp only; omega)) _ | refine Ext.trans ?_ (by assumption))))
 have HG1 := Lib.hid (fun w1 (hx : Ext W w1) => hg1 w1 (HO.out.ext (WE.out.trans hx)))
 have HG2 := Lib.hid (fun w1 (hx : Ext W w1) => hg2 w1 (HO.out.ext (WE.out.trans hx)))
 have HG3 := Lib.hid (fun w1 (hx : Ext W w1) => hg3 w1 (HO.out.ext (WE.out.trans hx)))
 have hlW := heap_lt W1.out
 clear hk1 hk2 hk3 hpl hg1 hg2 hg3 hhas hres ho hL hW
 go_loopw [8] (fun lv wr => ∃ j : Nat, j ≤ 3 ∧ lv = .int .i64 ((j : Int) + 1) ∧ Hid (Ext W wr ∧ (0 < j → (s1 && b1) = false) ∧ (1 < j → s2 = false) ∧ (2 < j → s3 = false))) (fun lv _ => 4 - (intOf lv).toNat)
 case atStart => exact ⟨0, by omega, rfl, Lib.hid ⟨Ext.refl _, fun h => absurd h (by omega), fun h => absurd h (by omega), fun h => absurd h (by omega)⟩⟩
 case round =>
  obtain ⟨j, hj, rfl, hR⟩ := hrel
  have hsr := hR.out.1.size
  have x0 := (heap_cell ((hR.out.1.block _ (heap_lt W0.out)).trans W0.out) 0).trans rfl
  have x1 := (heap_cell ((hR.out.1.block _ (heap_lt W0.out)).trans W0.out) 1).trans rfl
  rcases (show j = 0 ∨ j = 1 ∨ j = 2 ∨ j = 3 by omega) with rfl | rfl | rfl | rfl
  ·skip
   go_upto_region 4 with (fail)
   refine region_mixA 9 (.cells #[.int .u64 0, .bool false, .bool false, .bool false, .bool false, .int .u8 0] 205 (0, 0)) [.q [0, 1, 2, 3], .l 4 5, .l 5 5, .b [6, 7, 8], .l 9 4, .l 10 2, .q [11]] (by kernel_rfl) (by kernel_rfl) (alloc_runA rfl (by kernel_rfl : _ = some (some (Value.agg (#[.int .u64 0, .bool false, .bool false, .bool false, .bool false, .int .u8 0])))) rfl) ?_
   (repeat (unfold wpPlanA; simp only [pickL, List.map_cons, List.map_nil, List.getD_cons_succ, List.getD_cons_zero]; (repeat go_big_quiet_step (fail)); refine wpQuiet_nil ?_)); unfold wpPlanA; intro p1 hp1; (try simp only [pickL, List.map_cons, List.map_nil, List.getD_cons_succ, List.getD_cons_zero])
   go_wp2_with (first | (go_at_call 102; refine (HK1.out _).mono ?_; rintro e p2 ⟨rfl, hp2⟩))
   have s1' := hp1.size
   have s2' := hp2.size
   refine ⟨⟨by omega, fun _ => hp2, fun h => absurd h (by omega)⟩, ?_⟩
   have HP2 := Lib.hid (hp1.trans hp2)
   clear hp1 hp2
   (repeat (unfold wpPlanA; simp only [pickL, List.map_cons, List.map_nil, List.getD_cons_succ, List.getD_cons_zero]; (repeat go_big_quiet_step (fail)); refine wpQuiet_nil ?_)); unfold wpPlanA; intro p3 hp3; (try simp only [pickL, List.map_cons, List.map_nil, List.getD_cons_succ, List.getD_cons_zero])
   go_wp2_with (first | (go_at_call 101; refine (HG1.out _ (hR.out.1.trans (HP2.out.trans hp3))).mono ?_; rintro e p4 ⟨rfl, hp4⟩))
   have s3' := hp3.size
   have s4' := hp4.size
   refine ⟨⟨by omega, fun _ => hp4, fun h => absurd h (by omega)⟩, ?_⟩
   have HP4 := Lib.hid (HP2.out.trans (hp3.trans hp4))
   clear hp3 hp4
   (repeat (unfold wpPlanA; simp only [pickL, List.map_cons, List.map_nil, List.getD_cons_succ, List.getD_cons_zero]; (repeat go_big_quiet_step (fail)); refine wpQuiet_nil ?_)); unfold wpPlanA; intro b p6 hp6 hp6B hp6O; simp only [List.getD_cons_succ, List.getD_cons_zero, ptrTo]; simp only [Act.put, Array.set!_eq_setIfInBounds, List.setIfInBounds_toArray, List.set_cons_succ, List.set_cons_zero]
   have HP6 := Lib.hid (HP4.out.trans hp6)
   have O6 := Lib.hid hp6O
   have hlb := heap_lt hp6O
   have s6' := hp6.size
   clear hp6 hp6O
   (repeat (unfold wpPlanA; simp only [pickL, List.map_cons, List.map_nil, List.getD_cons_succ, List.getD_cons_zero]; (repeat go_big_quiet_step (fail)); refine wpQuiet_nil ?_)); unfold wpPlanA; intro p7 hp7; (try simp only [pickL, List.map_cons, List.map_nil, List.getD_cons_succ, List.getD_cons_zero])
   have b7 := (hp7.block b hlb).trans O6.out
   have g0 := (heap_cell b7 0).trans rfl
   have g1 := (heap_cell b7 1).trans rfl
   have g2 := (heap_cell b7 2).trans rfl
   have g3 := (heap_cell b7 3).trans rfl
   have g4 := (heap_cell b7 4).trans rfl
   have g5 := (heap_cell b7 5).trans rfl
   have g6 := frozen_of b7
   have B7 := Lib.hid b7
   have HP7 := Lib.hid (HP6.out.trans hp7)
   have s7' := HP7.out.size
   have s67 := hp7.size
   clear b7 hp7
   go_wp2
   refine ⟨⟨by simp; omega, fun h => absurd h (by omega), fun h => absurd h (by omega)⟩, ?_⟩
   (repeat (unfold wpPlanA; simp only [pickL, List.map_cons, List.map_nil, List.getD_cons_succ, List.getD_cons_zero]; (repeat go_big_quiet_step (fail)); refine wpQuiet_nil ?_)); unfold wpPlanA; intro p9 hp9; (try simp only [pickL, List.map_cons, List.map_nil, List.getD_cons_succ, List.getD_cons_zero])
   have s9 := hp9.size
   simp only [World.size_setCell] at s9
   have E9 : Ext W p9 := hR.out.1.trans ((ext6 HP7.out hp6B).trans hp9)
   have b9 := (hp9.block b (by simp; omega)).trans (store6_heap B7.out)
   have hlb9 := heap_lt b9
   have HB9 := Lib.hid b9
   have i0 := (heap_cell b9 0).trans rfl
   have i1 := (heap_cell b9 1).trans rfl
   have i2 := (heap_cell b9 2).trans rfl
   have i3 := (heap_cell b9 3).trans rfl
   have i4 := (heap_cell b9 4).trans rfl
   have i5 := (heap_cell b9 5).trans rfl
   have HE9 := Lib.hid E9
   clear hp9 E9 b9 g0 g1 g2 g3 g4 g5 g6 x0 x1
   go_upto_region 6 with (fail)
   refine wp_gen ?_; intro V hV
   have EV : Ext p9 V := by rw [hV]; exact (by repeat (first | exact Ext.refl _ | assumption | refine Ext.alloc ?_ _ | refine Ext.drew ?_ | refine Ext.setCell ?_ (by first | (simp; done) | (dsimp only; omega)) _ | refine Ext.trans ?_ (by assumption)))
   have n8 : V.heap[p9.heap.size]? = some (.cells #[.int .u64 yf, .int .i64 1, .bool ya, .bool yb, .bool yc, .bool yd] 161 (0, 0)) := by rw [hV]; exact alloc_same ..
   have hs9 := HE9.out.size
   have hl8 := heap_lt n8
   have hb9 : b < p9.heap.size := hlb9
   generalize hp9s : p9.heap.size = b8 at *
   have N8 := Lib.hid n8
   have LV := Lib.hid ((EV.block b (by omega)).trans HB9.out)
   have HEV := Lib.hid (HE9.out.trans EV)
   have hsV := EV.size
   clear hV n8 EV hp9s i0 i1 i2 i3 i4 i5
   have i0 := (heap_cell LV.out 0).trans rfl
   have i1 := (heap_cell LV.out 1).trans rfl
   have i2 := (heap_cell LV.out 2).trans rfl
   have i3 := (heap_cell LV.out 3).trans rfl
   have i4 := (heap_cell LV.out 4).trans rfl
   have i5 := (heap_cell LV.out 5).trans rfl
   go_upto_region 7 with (fail)
   refine region_ext (by kernel_rfl) (by kernel_rfl) ?_; (repeat (go_big_quiet_step (first | (go_at_call 104; exact calls_wext (HPL.out _)) | (go_at_call 103; exact calls_wext (HH.out _))))); refine wpQuiet_nil ?_; intro w1 hb; have ⟨hc, hf, hh, hs⟩ := hb.facts; try simp only [World.size_alloc, World.size_setCell, World.size_drew] at hs
   have N8' := Lib.hid ((hb.block _ hl8).trans N8.out)
   have EQ' : Hid (Ext W w1) := Lib.hid (HEV.out.trans hb)
   have hsq := hb.size
   clear hb hc hf hh hs i0 i1 i2 i3 i4 i5
   have n0 := (heap_cell N8'.out 0).trans rfl
   have nf := frozen_of N8'.out
   go_upto_region 9 with (fail)
   refine wp_gen ?_; intro Y hY
   have YH : Hid (Y.heap[b8]? = some (.cells #[.int .u64 f1, .int .i64 1, .bool ya, .bool yb, .bool yc, .bool yd] 161 (0, 0))) := Lib.hid (by rw [hY]; exact setCell_heap_same N8'.out)
   have EY : Hid (Ext W Y) := Lib.hid (by rw [hY]; exact EQ'.out.setCell (by omega) _)
   clear hY n0 nf N8' EQ'
   have RQ := Lib.hid ((EY.out.block _ (heap_lt W1.out)).trans W1.out)
   have EQ := Lib.hid (WE.out.trans EY.out)
   have hsY := EY.out.size
   have hlY := heap_lt YH.out
   cases hsb : (s1 && b1)
   ·cases s1
    ·go_wp2
     refine ⟨⟨1, by omega, by go_num, Lib.hid ⟨EY.out, fun _ => by simp, fun h => absurd h (by omega), fun h => absurd h (by omega)⟩⟩, by simp [intOf]⟩
    ·have hb1 : b1 = false := by simpa using hsb
     subst hb1
     go_wp2
     refine ⟨⟨1, by omega, by go_num, Lib.hid ⟨EY.out, fun _ => by simp, fun h => absurd h (by omega), fun h => absurd h (by omega)⟩⟩, by simp [intOf]⟩
   ·have hs1 : s1 = true := by revert hsb; cases s1 <;> simp
    have hb1 : b1 = true := by revert hsb; cases b1 <;> simp
    subst hs1 hb1
    have i0 := (heap_cell YH.out 0).trans rfl
    have i1 := (heap_cell YH.out 1).trans rfl
    have i2 := (heap_cell YH.out 2).trans rfl
    have i3 := (heap_cell YH.out 3).trans rfl
    have i4 := (heap_cell YH.out 4).trans rfl
    have i5 := (heap_cell YH.out 5).trans rfl
    have q0 := (heap_cell RQ.out 0).trans rfl
    have q1 := (heap_cell RQ.out 1).trans rfl
    have q2 := (heap_cell RQ.out 2).trans rfl
    have q3 := (heap_cell RQ.out 3).trans rfl
    have q4 := (heap_cell RQ.out 4).trans rfl
    have q5 := (heap_cell RQ.out 5).trans rfl
    have qf := frozen_of RQ.out
    go_wp2
    refine post_gen (fun U => U.heap[w.heap.size + 1]? = some (.cells #[.int .u64 f1, .int .i64 1, .bool ya, .bool yb, .bool yc, .bool yd] 161 (0, 0)) ∧ Ext w U) ⟨?_, ?_⟩ ?_
    ·exact store6_heap RQ.out
    ·exact ext6 EQ.out (by omega)
    rintro U ⟨m5, E5⟩
    have v0 := (heap_cell m5 0).trans rfl
    have v1 := (heap_cell m5 1).trans rfl
    have v2 := (heap_cell m5 2).trans rfl
    have v3 := (heap_cell m5 3).trans rfl
    have v4 := (heap_cell m5 4).trans rfl
    have v5 := (heap_cell m5 5).trans rfl
    clear m5 q0 q1 q2 q3 q4 q5 qf i0 i1 i2 i3 i4 i5
    rw [← HRES.out]
    refine bodyPost_ret (by simp [results, Tryz.results71, go_sem, ↓IntWalk.iteOmega, *]; try rfl) rfl ⟨by simp [resR, Hit.val], E5⟩
  ·have hS := hR.out.2.1 (by omega)
   go_upto_region 4 with (fail)
   refine region_mixA 9 (.cells #[.int .u64 0, .bool false, .bool false, .bool false, .bool false, .int .u8 0] 205 (0, 0)) [.q [0, 1, 2, 3], .l 4 5, .l 5 5, .b [6, 7, 8], .l 9 4, .l 10 2, .q [11]] (by kernel_rfl) (by kernel_rfl) (alloc_runA rfl (by kernel_rfl : _ = some (some (Value.agg (#[.int .u64 0, .bool false, .bool false, .bool false, .bool false, .int .u8 0])))) rfl) ?_
   (repeat (unfold wpPlanA; simp only [pickL, List.map_cons, List.map_nil, List.getD_cons_succ, List.getD_cons_zero]; (repeat go_big_quiet_step (fail)); refine wpQuiet_nil ?_)); unfold wpPlanA; intro p1 hp1; (try simp only [pickL, List.map_cons, List.map_nil, List.getD_cons_succ, List.getD_cons_zero])
   go_wp2_with (first | (go_at_call 102; refine (HK2.out _).mono ?_; rintro e p2 ⟨rfl, hp2⟩))
   have s1' := hp1.size
   have s2' := hp2.size
   refine ⟨⟨by omega, fun _ => hp2, fun h => absurd h (by omega)⟩, ?_⟩
   have HP2 := Lib.hid (hp1.trans hp2)
   clear hp1 hp2
   (repeat (unfold wpPlanA; simp only [pickL, List.map_cons, List.map_nil, List.getD_cons_succ, List.getD_cons_zero]; (repeat go_big_quiet_step (fail)); refine wpQuiet_nil ?_)); unfold wpPlanA; intro p3 hp3; (try simp only [pickL, List.map_cons, List.map_nil, List.getD_cons_succ, List.getD_cons_zero])
   go_wp2_with (first | (go_at_call 101; refine (HG2.out _ (hR.out.1.trans (HP2.out.trans hp3))).mono ?_; rintro e p4 ⟨rfl, hp4⟩))
   have s3' := hp3.size
   have s4' := hp4.size
   refine ⟨⟨by omega, fun _ => hp4, fun h => absurd h (by omega)⟩, ?_⟩
   have HP4 := Lib.hid (HP2.out.trans (hp3.trans hp4))
   clear hp3 hp4
   (repeat (unfold wpPlanA; simp only [pickL, List.map_cons, List.map_nil, List.getD_cons_succ, List.getD_cons_zero]; (repeat go_big_quiet_step (fail)); refine wpQuiet_nil ?_)); unfold wpPlanA; intro b p6 hp6 hp6B hp6O; simp only [List.getD_cons_succ, List.getD_cons_zero, ptrTo]; simp only [Act.put, Array.set!_eq_setIfInBounds, List.setIfInBounds_toArray, List.set_cons_succ, List.set_cons_zero]
   have HP6 := Lib.hid (HP4.out.trans hp6)
   have O6 := Lib.hid hp6O
   have hlb := heap_lt hp6O
   have s6' := hp6.size
   clear hp6 hp6O
   (repeat (unfold wpPlanA; simp only [pickL, List.map_cons, List.map_nil, List.getD_cons_succ, List.getD_cons_zero]; (repeat go_big_quiet_step (fail)); refine wpQuiet_nil ?_)); unfold wpPlanA; intro p7 hp7; (try simp only [pickL, List.map_cons, List.map_nil, List.getD_cons_succ, List.getD_cons_zero])
   have b7 := (hp7.block b hlb).trans O6.out
   have g0 := (heap_cell b7 0).trans rfl
   have g1 := (heap_cell b7 1).trans rfl
   have g2 := (heap_cell b7 2).trans rfl
   have g3 := (heap_cell b7 3).trans rfl
   have g4 := (heap_cell b7 4).trans rfl
   have g5 := (heap_cell b7 5).trans rfl
   have g6 := frozen_of b7
   have B7 := Lib.hid b7
   have HP7 := Lib.hid (HP6.out.trans hp7)
   have s7' := HP7.out.size
   have s67 := hp7.size
   clear b7 hp7
   go_wp2
   refine ⟨⟨by simp; omega, fun h => absurd h (by omega), fun h => absurd h (by omega)⟩, ?_⟩
   (repeat (unfold wpPlanA; simp only [pickL, List.map_cons, List.map_nil, List.getD_cons_succ, List.getD_cons_zero]; (repeat go_big_quiet_step (fail)); refine wpQuiet_nil ?_)); unfold wpPlanA; intro p9 hp9; (try simp only [pickL, List.map_cons, List.map_nil, List.getD_cons_succ, List.getD_cons_zero])
   have s9 := hp9.size
   simp only [World.size_setCell] at s9
   have E9 : Ext W p9 := hR.out.1.trans ((ext6 HP7.out hp6B).trans hp9)
   have b9 := (hp9.block b (by simp; omega)).trans (store6_heap B7.out)
   have hlb9 := heap_lt b9
   have HB9 := Lib.hid b9
   have i0 := (heap_cell b9 0).trans rfl
   have i1 := (heap_cell b9 1).trans rfl
   have i2 := (heap_cell b9 2).trans rfl
   have i3 := (heap_cell b9 3).trans rfl
   have i4 := (heap_cell b9 4).trans rfl
   have i5 := (heap_cell b9 5).trans rfl
   have HE9 := Lib.hid E9
   clear hp9 E9 b9 g0 g1 g2 g3 g4 g5 g6 x0 x1
   go_upto_region 6 with (fail)
   refine wp_gen ?_; intro V hV
   have EV : Ext p9 V := by rw [hV]; exact (by repeat (first | exact Ext.refl _ | assumption | refine Ext.alloc ?_ _ | refine Ext.drew ?_ | refine Ext.setCell ?_ (by first | (simp; done) | (dsimp only; omega)) _ | refine Ext.trans ?_ (by assumption)))
   have n8 : V.heap[p9.heap.size]? = some (.cells #[.int .u64 uf, .int .i64 2, .bool ua, .bool ub, .bool uc, .bool ud] 161 (0, 0)) := by rw [hV]; exact alloc_same ..
   have hs9 := HE9.out.size
   have hl8 := heap_lt n8
   have hb9 : b < p9.heap.size := hlb9
   generalize hp9s : p9.heap.size = b8 at *
   have N8 := Lib.hid n8
   have LV := Lib.hid ((EV.block b (by omega)).trans HB9.out)
   have HEV := Lib.hid (HE9.out.trans EV)
   have hsV := EV.size
   clear hV n8 EV hp9s i0 i1 i2 i3 i4 i5
   have RQ := Lib.hid ((HEV.out.block _ (heap_lt W1.out)).trans W1.out)
   have EQ := Lib.hid (WE.out.trans HEV.out)
   cases s2
   ·go_wp2
    refine ⟨⟨2, by omega, by go_num, Lib.hid ⟨HEV.out, fun _ => hS, fun _ => by simp, fun h => absurd h (by omega)⟩⟩, by simp [intOf]⟩
   ·have hsz1 := HEV.out.size
    have i0 := (heap_cell N8.out 0).trans rfl
    have i1 := (heap_cell N8.out 1).trans rfl
    have i2 := (heap_cell N8.out 2).trans rfl
    have i3 := (heap_cell N8.out 3).trans rfl
    have i4 := (heap_cell N8.out 4).trans rfl
    have i5 := (heap_cell N8.out 5).trans rfl
    have q0 := (heap_cell RQ.out 0).trans rfl
    have q1 := (heap_cell RQ.out 1).trans rfl
    have q2 := (heap_cell RQ.out 2).trans rfl
    have q3 := (heap_cell RQ.out 3).trans rfl
    have q4 := (heap_cell RQ.out 4).trans rfl
    have q5 := (heap_cell RQ.out 5).trans rfl
    have qf := frozen_of RQ.out
    go_wp2
    refine post_gen (fun U => U.heap[w.heap.size + 1]? = some (.cells #[.int .u64 uf, .int .i64 2, .bool ua, .bool ub, .bool uc, .bool ud] 161 (0, 0)) ∧ Ext w U) ⟨?_, ?_⟩ ?_
    ·exact store6_heap RQ.out
    ·exact ext6 EQ.out (by omega)
    rintro U ⟨m5, E5⟩
    have v0 := (heap_cell m5 0).trans rfl
    have v1 := (heap_cell m5 1).trans rfl
    have v2 := (heap_cell m5 2).trans rfl
    have v3 := (heap_cell m5 3).trans rfl
    have v4 := (heap_cell m5 4).trans rfl
    have v5 := (heap_cell m5 5).trans rfl
    clear m5 q0 q1 q2 q3 q4 q5 qf i0 i1 i2 i3 i4 i5
    rw [← HRES.out]
    refine bodyPost_ret (by simp [results, Tryz.results71, go_sem, ↓IntWalk.iteOmega, *]; try rfl) rfl ⟨by simp [resR, Hit.val, hS], E5⟩
  ·have hS := hR.out.2.1 (by omega)
   have hs2 := hR.out.2.2.1 (by omega)
   go_upto_region 4 with (fail)
   refine region_mixA 9 (.cells #[.int .u64 0, .bool false, .bool false, .bool false, .bool false, .int .u8 0] 205 (0, 0)) [.q [0, 1, 2, 3], .l 4 5, .l 5 5, .b [6, 7, 8], .l 9 4, .l 10 2, .q [11]] (by kernel_rfl) (by kernel_rfl) (alloc_runA rfl (by kernel_rfl : _ = some (some (Value.agg (#[.int .u64 0, .bool false, .bool false, .bool false, .bool false, .int .u8 0])))) rfl) ?_
   (repeat (unfold wpPlanA; simp only [pickL, List.map_cons, List.map_nil, List.getD_cons_succ, List.getD_cons_zero]; (repeat go_big_quiet_step (fail)); refine wpQuiet_nil ?_)); unfold wpPlanA; intro p1 hp1; (try simp only [pickL, List.map_cons, List.map_nil, List.getD_cons_succ, List.getD_cons_zero])
   go_wp2_with (first | (go_at_call 102; refine (HK3.out _).mono ?_; rintro e p2 ⟨rfl, hp2⟩))
   have s1' := hp1.size
   have s2' := hp2.size
   refine ⟨⟨by omega, fun _ => hp2, fun h => absurd h (by omega)⟩, ?_⟩
   have HP2 := Lib.hid (hp1.trans hp2)
   clear hp1 hp2
   (repeat (unfold wpPlanA; simp only [pickL, List.map_cons, List.map_nil, List.getD_cons_succ, List.getD_cons_zero]; (repeat go_big_quiet_step (fail)); refine wpQuiet_nil ?_)); unfold wpPlanA; intro p3 hp3; (try simp only [pickL, List.map_cons, List.map_nil, List.getD_cons_succ, List.getD_cons_zero])
   go_wp2_with (first | (go_at_call 101; refine (HG3.out _ (hR.out.1.trans (HP2.out.trans hp3))).mono ?_; rintro e p4 ⟨rfl, hp4⟩))
   have s3' := hp3.size
   have s4' := hp4.size
   refine ⟨⟨by omega, fun _ => hp4, fun h => absurd h (by omega)⟩, ?_⟩
   have HP4 := Lib.hid (HP2.out.trans (hp3.trans hp4))
   clear hp3 hp4
   (repeat (unfold wpPlanA; simp only [pickL, List.map_cons, List.map_nil, List.getD_cons_succ, List.getD_cons_zero]; (repeat go_big_quiet_step (fail)); refine wpQuiet_nil ?_)); unfold wpPlanA; intro b p6 hp6 hp6B hp6O; simp only [List.getD_cons_succ, List.getD_cons_zero, ptrTo]; simp only [Act.put, Array.set!_eq_setIfInBounds, List.setIfInBounds_toArray, List.set_cons_succ, List.set_cons_zero]
   have HP6 := Lib.hid (HP4.out.trans hp6)
   have O6 := Lib.hid hp6O
   have hlb := heap_lt hp6O
   have s6' := hp6.size
   clear hp6 hp6O
   (repeat (unfold wpPlanA; simp only [pickL, List.map_cons, List.map_nil, List.getD_cons_succ, List.getD_cons_zero]; (repeat go_big_quiet_step (fail)); refine wpQuiet_nil ?_)); unfold wpPlanA; intro p7 hp7; (try simp only [pickL, List.map_cons, List.map_nil, List.getD_cons_succ, List.getD_cons_zero])
   have b7 := (hp7.block b hlb).trans O6.out
   have g0 := (heap_cell b7 0).trans rfl
   have g1 := (heap_cell b7 1).trans rfl
   have g2 := (heap_cell b7 2).trans rfl
   have g3 := (heap_cell b7 3).trans rfl
   have g4 := (heap_cell b7 4).trans rfl
   have g5 := (heap_cell b7 5).trans rfl
   have g6 := frozen_of b7
   have B7 := Lib.hid b7
   have HP7 := Lib.hid (HP6.out.trans hp7)
   have s7' := HP7.out.size
   have s67 := hp7.size
   clear b7 hp7
   go_wp2
   refine ⟨⟨by simp; omega, fun h => absurd h (by omega), fun h => absurd h (by omega)⟩, ?_⟩
   (repeat (unfold wpPlanA; simp only [pickL, List.map_cons, List.map_nil, List.getD_cons_succ, List.getD_cons_zero]; (repeat go_big_quiet_step (fail)); refine wpQuiet_nil ?_)); unfold wpPlanA; intro p9 hp9; (try simp only [pickL, List.map_cons, List.map_nil, List.getD_cons_succ, List.getD_cons_zero])
   have s9 := hp9.size
   simp only [World.size_setCell] at s9
   have E9 : Ext W p9 := hR.out.1.trans ((ext6 HP7.out hp6B).trans hp9)
   have b9 := (hp9.block b (by simp; omega)).trans (store6_heap B7.out)
   have hlb9 := heap_lt b9
   have HB9 := Lib.hid b9
   have i0 := (heap_cell b9 0).trans rfl
   have i1 := (heap_cell b9 1).trans rfl
   have i2 := (heap_cell b9 2).trans rfl
   have i3 := (heap_cell b9 3).trans rfl
   have i4 := (heap_cell b9 4).trans rfl
   have i5 := (heap_cell b9 5).trans rfl
   have HE9 := Lib.hid E9
   clear hp9 E9 b9 g0 g1 g2 g3 g4 g5 g6 x0 x1
   go_upto_region 6 with (fail)
   refine wp_gen ?_; intro V hV
   have EV : Ext p9 V := by rw [hV]; exact (by repeat (first | exact Ext.refl _ | assumption | refine Ext.alloc ?_ _ | refine Ext.drew ?_ | refine Ext.setCell ?_ (by first | (simp; done) | (dsimp only; omega)) _ | refine Ext.trans ?_ (by assumption)))
   have n8 : V.heap[p9.heap.size]? = some (.cells #[.int .u64 vf, .int .i64 3, .bool va, .bool vb, .bool vc, .bool vd] 161 (0, 0)) := by rw [hV]; exact alloc_same ..
   have hs9 := HE9.out.size
   have hl8 := heap_lt n8
   have hb9 : b < p9.heap.size := hlb9
   generalize hp9s : p9.heap.size = b8 at *
   have N8 := Lib.hid n8
   have LV := Lib.hid ((EV.block b (by omega)).trans HB9.out)
   have HEV := Lib.hid (HE9.out.trans EV)
   have hsV := EV.size
   clear hV n8 EV hp9s i0 i1 i2 i3 i4 i5
   have RQ := Lib.hid ((HEV.out.block _ (heap_lt W1.out)).trans W1.out)
   have EQ := Lib.hid (WE.out.trans HEV.out)
   cases s3
   ·go_wp2
    refine ⟨⟨3, by omega, by go_num, Lib.hid ⟨HEV.out, fun _ => hS, fun _ => hs2, fun _ => by simp⟩⟩, by simp [intOf]⟩
   ·have hsz1 := HEV.out.size
    have i0 := (heap_cell N8.out 0).trans rfl
    have i1 := (heap_cell N8.out 1).trans rfl
    have i2 := (heap_cell N8.out 2).trans rfl
    have i3 := (heap_cell N8.out 3).trans rfl
    have i4 := (heap_cell N8.out 4).trans rfl
    have i5 := (heap_cell N8.out 5).trans rfl
    have q0 := (heap_cell RQ.out 0).trans rfl
    have q1 := (heap_cell RQ.out 1).trans rfl
    have q2 := (heap_cell RQ.out 2).trans rfl
    have q3 := (heap_cell RQ.out 3).trans rfl
    have q4 := (heap_cell RQ.out 4).trans rfl
    have q5 := (heap_cell RQ.out 5).trans rfl
    have qf := frozen_of RQ.out
    go_wp2
    refine post_gen (fun U => U.heap[w.heap.size + 1]? = some (.cells #[.int .u64 vf, .int .i64 3, .bool va, .bool vb, .bool vc, .bool vd] 161 (0, 0)) ∧ Ext w U) ⟨?_, ?_⟩ ?_
    ·exact store6_heap RQ.out
    ·exact ext6 EQ.out (by omega)
    rintro U ⟨m5, E5⟩
    have v0 := (heap_cell m5 0).trans rfl
    have v1 := (heap_cell m5 1).trans rfl
    have v2 := (heap_cell m5 2).trans rfl
    have v3 := (heap_cell m5 3).trans rfl
    have v4 := (heap_cell m5 4).trans rfl
    have v5 := (heap_cell m5 5).trans rfl
    clear m5 q0 q1 q2 q3 q4 q5 qf i0 i1 i2 i3 i4 i5
    rw [← HRES.out]
    refine bodyPost_ret (by simp [results, Tryz.results71, go_sem, ↓IntWalk.iteOmega, *]; try rfl) rfl ⟨by simp [resR, Hit.val, hS, hs2], E5⟩
  ·have hS := hR.out.2.1 (by omega)
   have hs2 := hR.out.2.2.1 (by omega)
   have hs3 := hR.out.2.2.2 (by omega)
   have RQ := Lib.hid ((hR.out.1.block _ (heap_lt W1.out)).trans W1.out)
   have EQ := Lib.hid (WE.out.trans hR.out.1)
   have q0 := (heap_cell RQ.out 0).trans rfl
   have q1 := (heap_cell RQ.out 1).trans rfl
   have q2 := (heap_cell RQ.out 2).trans rfl
   have q3 := (heap_cell RQ.out 3).trans rfl
   have q4 := (heap_cell RQ.out 4).trans rfl
   have q5 := (heap_cell RQ.out 5).trans rfl
   have qf := frozen_of RQ.out
   go_wp2
   refine post_gen (fun U => U.heap[w.heap.size + 1]? = some (.cells #[.int .u64 0, .int .i64 0, .bool false, .bool false, .bool false, .bool false] 161 (0, 0)) ∧ Ext w U) ⟨?_, ?_⟩ ?_
   ·exact store6_heap RQ.out
   ·exact ext6 EQ.out (by omega)
   rintro U ⟨m5, E5⟩
   have v0 := (heap_cell m5 0).trans rfl
   have v1 := (heap_cell m5 1).trans rfl
   have v2 := (heap_cell m5 2).trans rfl
   have v3 := (heap_cell m5 3).trans rfl
   have v4 := (heap_cell m5 4).trans rfl
   have v5 := (heap_cell m5 5).trans rfl
   clear m5 q0 q1 q2 q3 q4 q5 qf x0 x1
   rw [← HRES.out]
   refine bodyPost_ret (by simp [results, Tryz.results71, go_sem, ↓IntWalk.iteOmega, *]; try rfl) rfl ⟨by simp [resR, Hit.val, hS, hs2, hs3], E5⟩
end Go.Proofs.YtkfonacokamfiaaGreat
/- The document's quick translation: its state; New, deepest. Own text. -/
namespace Go.Proofs.YtkfonacokamfiaaGreat
set_option linter.unusedVariables false
set_option linter.unusedSimpArgs false
open Go.RowKit
attribute [local go_sem] wext_cell wext_frozen wext_heap alloc_cell alloc_frozen alloc_heap setCell_cell objCell_cells objFrozen_cells
structure SPh where
 sa : Option Addr
 sc : Nat
 ta : Option Addr
 tc : Nat
 la : Option Addr
 lc : Nat
 pa : Int → Option Addr
 pc : Int → Nat
def stC (h : SPh) (n k l n4 n3 n2 : Nat) (r q : Nat) : Array Value := #[.int .i64 16, .slice h.sa n h.sc, .slice h.ta k h.tc, .slice h.la l h.lc, .int .i64 r, .slice (h.pa 4) n4 (h.pc 4), .int .i64 q, .slice (h.pa 3) n3 (h.pc 3), .int .i64 q, .slice (h.pa 2) n2 (h.pc 2), .int .i64 q]
structure StAt (w : World) (h : SPh) (S : List (Int × Int)) (M : Int → Int) (T : List Int) (L : Lines) (r : Nat) (C : Int → Lines) (q : Nat) : Prop where
 slots : SAt w h.sa h.sc S
 trace : TrAt w h.ta h.tc T
 lines : RefAt w (.slice h.la L.length h.lc) L
 psc : RpAt w h.pa h.pc C
 ok : RefOk 16 S M
 room : L.length ≤ r ∧ r ≤ 64
 rooms : (∀ l, 2 ≤ l → l ≤ 4 → (C l).length ≤ q) ∧ q ≤ 64
theorem StAt.ext {w w' : World} {h : SPh} {S : List (Int × Int)} {M : Int → Int} {T : List Int} {L : Lines} {r : Nat} {C : Int → Lines} {q : Nat} (H : StAt w h S M T L r C q) (k : Ext w w') : StAt w' h S M T L r C q :=
 ⟨SAt.ext H.slots k, TrAt.ext H.trace k, H.lines.ext k, H.psc.ext k, H.ok, H.room, H.rooms⟩
def stV (h : SPh) (S : List (Int × Int)) (T : List Int) (L : Lines) (r : Nat) (C : Int → Lines) (q : Nat) : Array Value := stC h S.length T.length L.length (C 4).length (C 3).length (C 2).length r q
def whoV (u : Who) : Value := .agg #[.int .i64 u.p, .int .i64 u.k0, .int .i64 u.k1, .int .i64 u.k2, .int .i64 u.k3]
def useV (u : Who) (kd : Int) (us ac wp sp sm : Bool) : Value := .agg #[.int .u64 u.root, .int .i64 kd, .bool us, .bool ac, .bool wp, .bool u.nxe, .bool sp, .bool sm]
theorem FreshT.refl (w : World) (t : Option Addr) : FreshT w t t := fun _ h => .inl h
theorem FreshT.trans {w w' : World} {t0 t1 t2 : Option Addr} (h : FreshT w t0 t1) (k : w.heap.size ≤ w'.heap.size) (h2 : FreshT w' t1 t2) : FreshT w t0 t2 := fun a ha => (h2 a ha).elim (h a) fun h => .inr (Nat.le_trans k h)
set_option maxHeartbeats 1000000 in
theorem rOptNew_c (small tables : Int) (w : World) (h0 : -9223372036854775808 ≤ small) (h1 : small ≤ 9223372036854775807) (t0 : -9223372036854775808 ≤ tables) (t1 : tables ≤ 9223372036854775807) :
  Calls Tryz.prog 14 #[.int .i64 small, .int .i64 tables] w fun e w' => ∃ pa pc, e = .returned (.agg #[.slice none 0 0, .int .i64 (clampR small), .slice (pa 4) 0 (pc 4), .int .i64 (clampR tables), .slice (pa 3) 0 (pc 3), .int .i64 (clampR tables), .slice (pa 2) 0 (pc 2), .int .i64 (clampR tables)]) ∧ RpAt w' pa pc (fun _ => []) ∧ Ext w w' := by
 have HN := Lib.hid (fun w => refNew_c small w h0 h1)
 have HP := Lib.hid (fun w => rpNew_c tables w t0 t1)
 generalize clampR small = r at *
 generalize clampR tables = q at *
 generalize hE : (fun (e : Ending) (w' : World) => ∃ pa pc, e = .returned (.agg #[.slice none 0 0, .int .i64 r, .slice (pa 4) 0 (pc 4), .int .i64 q, .slice (pa 3) 0 (pc 3), .int .i64 q, .slice (pa 2) 0 (pc 2), .int .i64 q]) ∧ RpAt w' pa pc (fun _ => []) ∧ Ext w w') = E
 have HE := Lib.hid hE
 clear hE
 go_enter Tryz.func14, Tryz.ntmps14
 go_upto_region 1 with (fail)
 refine wp_gen ?_; intro V hV
 have hVE : Ext w V := by rw [hV]; exact (by repeat (first | exact Ext.refl _ | assumption | refine Ext.alloc ?_ _ | refine Ext.drew ?_ | refine Ext.setCell ?_ (by first | (simp; done) | (dsimp only; omega)) _ | refine Ext.trans ?_ (by assumption)))
 have hV0 : V.heap[w.heap.size]? = some (.cells #[.slice none 0 0, .int .i64 0, .slice none 0 0, .int .i64 0, .slice none 0 0, .int .i64 0, .slice none 0 0, .int .i64 0] 57 (0, 0)) := by rw [hV]; exact alloc_same ..
 obtain ⟨vb, hvb⟩ : ∃ vb, w.heap.size = vb := ⟨_, rfl⟩
 rw [hvb] at hV0 ⊢
 have hwv : w.heap.size ≤ vb := by omega
 have VE := Lib.hid hVE
 have V0 := Lib.hid hV0
 clear hV hVE hV0 hvb
 go_wp2_with (first | (go_at_call 33; refine (HN.out _).mono ?_; rintro e w1 ⟨rfl, hb1⟩) | (go_at_call 34; refine (HP.out _).mono ?_; rintro e w2 ⟨pa, pc, rfl, hR, hb2⟩; have E2 := Lib.hid (hb1.trans hb2); have HR := Lib.hid hR; have B2 := (E2.out.block _ (heap_lt V0.out)).trans V0.out; have y0 := (heap_cell B2 0).trans rfl; have y1 := (heap_cell B2 1).trans rfl; have y2 := (heap_cell B2 2).trans rfl; have y3 := (heap_cell B2 3).trans rfl; have y4 := (heap_cell B2 4).trans rfl; have y5 := (heap_cell B2 5).trans rfl; have y6 := (heap_cell B2 6).trans rfl; have y7 := (heap_cell B2 7).trans rfl; have yf := frozen_of B2; have yl := heap_lt B2; have HB2 := Lib.hid B2; clear B2 hR hb1 hb2))
 all_goals
  refine post_gen (fun X => X.heap[vb]? = some (.cells #[.slice none 0 0, .int .i64 r, .slice (pa 4) 0 (pc 4), .int .i64 q, .slice (pa 3) 0 (pc 3), .int .i64 q, .slice (pa 2) 0 (pc 2), .int .i64 q] 57 (0, 0)) ∧ RpAt X pa pc (fun _ => []) ∧ Ext w X) ⟨?_, ?_, ?_⟩ ?_
  ·exact setCell_heap_same (setCell_heap_same (setCell_heap_same (setCell_heap_same (setCell_heap_same (setCell_heap_same (setCell_heap_same (setCell_heap_same HB2.out)))))))
  ·exact fun l l0 l1 => ⟨(HR.out l l0 l1).1.keep fun g hg => by
    obtain ⟨c, hc⟩ := (HR.out l l0 l1).1.heap g hg
    have hne : vb ≠ g := fun e => by
     rw [← e, HB2.out] at hc
     simp only [Option.some.injEq, Obj.cells.injEq] at hc
     exact absurd hc.2.1 (by decide)
    rw [setCell_heap _ _ _ _ _ hne, setCell_heap _ _ _ _ _ hne, setCell_heap _ _ _ _ _ hne, setCell_heap _ _ _ _ _ hne, setCell_heap _ _ _ _ _ hne, setCell_heap _ _ _ _ _ hne, setCell_heap _ _ _ _ _ hne, setCell_heap _ _ _ _ _ hne], (HR.out l l0 l1).2⟩
  ·exact Ext.setCell (Ext.setCell (ext6p (VE.out.trans E2.out) hwv) hwv _) hwv _
  rintro X ⟨m5, r5, e5⟩
  have v0 := (heap_cell m5 0).trans rfl
  have v1 := (heap_cell m5 1).trans rfl
  have v2 := (heap_cell m5 2).trans rfl
  have v3 := (heap_cell m5 3).trans rfl
  have v4 := (heap_cell m5 4).trans rfl
  have v5 := (heap_cell m5 5).trans rfl
  have v6 := (heap_cell m5 6).trans rfl
  have v7 := (heap_cell m5 7).trans rfl
  have R5 := Lib.hid r5
  have E5 := Lib.hid e5
  clear m5 r5 e5 y0 y1 y2 y3 y4 y5 y6 y7 yf
  refine bodyPost_ret (by simp [results, Tryz.results14, go_sem, ↓IntWalk.iteOmega, *]; try rfl) rfl (by rw [← HE.out]; exact ⟨pa, pc, rfl, R5.out, E5.out⟩)
def REndJob (h : SPh) (S : List (Int × Int)) (T : List Int) (L : Lines) (r : Nat) (C : Int → Lines) (q : Nat) (s : Int × Int × Rt) (z : List Stp × WRes) (w : World) (e : Ending) (w' : World) : Prop :=
 ∃ ta tc za zc, e = .returned (.tuple #[.agg (stC { h with ta := ta, tc := tc } S.length (T ++ z.1.map (·.2.1)).length L.length (C 4).length (C 3).length (C 2).length r q),
   .agg #[.slice za z.1.length zc, .int .i64 z.2.1, .bool z.2.2.1.1, .bool z.2.2.1.2.1, .bool z.2.2.1.2.2, .int .i64 z.2.2.2.1, .int .u64 z.2.2.2.2], .agg #[.int .i64 s.1, .int .u64 s.2.1, .bool s.2.2.1, .bool s.2.2.2.1, .bool s.2.2.2.2]]) ∧
  TrAt w' ta tc (T ++ z.1.map (·.2.1)) ∧ Owns w' 109 3 (.slice za z.1.length zc) z.1.length (rowS z.1) ∧ Ext w w' ∧ FreshT w h.ta ta
end Go.Proofs.YtkfonacokamfiaaGreat
