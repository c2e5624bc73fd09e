/- WalkTop: where a walk begins, any root's; whether any two paths are the same. -/
import Derived.Test.YtkoohedbbdgjjaaRLaw8A
import Derived.Test.YtkoohedbbdgjjaaRReal8
import Derived.Test.YtkoohedbbdgjjaaRRefF
import Derived.Test.YtkoohedbbdgjjaaRList
import Derived.Test.YtkoohedbbdgjjaaRSized
import Derived.Test.YtkoohedbbdgjjaaRMixG
namespace Go.Proofs.YtkoohedbbdgjjaaR
set_option linter.unusedVariables false
set_option linter.unusedSimpArgs false
open Go.RowKit
attribute [local go_sem] wext_cell wext_frozen wext_heap alloc_cell alloc_frozen alloc_heap setCell_cell objCell_cells objFrozen_cells
attribute [local go_sem high] rt_eql rt_neq st_eql st_neq rrt_eql rrt_neq

set_option maxHeartbeats 4000000 in
set_option maxRecDepth 100000 in
theorem walkTop_c (root : Int) (h0 : 0 ≤ root) (h1 : root ≤ 18446744073709551615) (L1 L2 : List Stp) (w1 w2 : Int) (a1 b1 c1 a2 b2 c2 : Bool) (l1 l2 f1 f2 : Int) (sa1 sa2 : Option Addr) (sc1 sc2 : Nat) (W : World) (hS1 : StepsAt W sa1 L1) (hS2 : StepsAt W sa2 L2) (hL1 : L1.length ≤ 5864062014634) (hL2 : L2.length ≤ 5864062014634)
    (hw1 : ∀ i, i < L1.length → 0 ≤ (stpAt L1 i).2.2 ∧ (stpAt L1 i).2.2 ≤ 18446744073709551615) (hw2 : ∀ i, i < L2.length → 0 ≤ (stpAt L2 i).2.2 ∧ (stpAt L2 i).2.2 ≤ 18446744073709551615) :
    Calls Try.prog 6 #[.int .u64 root, .agg #[.slice sa1 L1.length sc1, .int .i64 w1, .bool a1, .bool b1, .bool c1, .int .i64 l1, .int .u64 f1], .agg #[.slice sa2 L2.length sc2, .int .i64 w2, .bool a2, .bool b2, .bool c2, .int .i64 l2, .int .u64 f2]] W
      fun e V => e = .returned (.bool true) ∧ Ext W V := by
  have HT := Lib.hid (fun w => wTop_c root w h0 h1)
  have HR := Lib.hid (fun w => refTop_c root w h0 h1)
  have HPQ := Lib.hid (fun U k1 k2 => same_c L1 L2 w1 w2 a1 b1 c1 a2 b2 c2 l1 l2 f1 f2 sa1 sa2 sc1 sc2 U k1 k2 hL1 hL2 hw1 hw2)
  have HPP := Lib.hid (fun U k1 k2 => same_c L1 L1 w1 w1 a1 b1 c1 a1 b1 c1 l1 l1 f1 f1 sa1 sa1 sc1 sc1 U k1 k2 hL1 hL1 hw1 hw1)
  rw [show sameP (L1, w1, (a1, b1, c1), l1, f1) (L1, w1, (a1, b1, c1), l1, f1) = true from same_of (eqvS_refl L1)] at HPP
  have HRf := Lib.hid (fun ra1 ra2 rc1 rc2 U k1 k2 => refSame_c L1 L2 w1 w2 a1 b1 c1 a2 b2 c2 l1 l2 f1 f2 ra1 ra2 rc1 rc2 U k1 k2 hL1 hL2 hw1 hw2)
  have R1 := Lib.hid (fun w k => real8_c L1 w1 (a1, b1, c1) l1 f1 sa1 sc1 w k hL1)
  have R2 := Lib.hid (fun w k => real8_c L2 w2 (a2, b2, c2) l2 f2 sa2 sc2 w k hL2)
  generalize sameP (L1, w1, (a1, b1, c1), l1, f1) (L2, w2, (a2, b2, c2), l2, f2) = s at HPQ HRf
  generalize tabI root = tb at HT HR
  have S1 := Lib.hid hS1
  have S2 := Lib.hid hS2
  have hrt : rtB (true, true, true) (true, true, true) = true := rfl
  clear hS1 hS2 hw1 hw2
  go_enter Try.func6, Try.ntmps6
  go_upto_region 1 with (fail)
  refine wp_gen ?_; intro U hU
  have eU : Ext W U := by rw [hU]; exact (by repeat (first | exact Ext.refl _ | assumption | refine Ext.alloc ?_ _ | refine Ext.drew ?_ | refine Ext.setCell ?_ (by first | (simp; done) | (dsimp only; omega)) _ | refine Ext.trans ?_ (by assumption)))
  have p1 : U.heap[W.heap.size]? = some (.cells #[.slice sa1 L1.length sc1, .int .i64 w1, .bool a1, .bool b1, .bool c1, .int .i64 l1, .int .u64 f1] 33 (0, 0)) := by rw [hU]; exact (alloc_other _ _ (by simp)).trans (alloc_same ..)
  have p2 : U.heap[W.heap.size + 1]? = some (.cells #[.slice sa2 L2.length sc2, .int .i64 w2, .bool a2, .bool b2, .bool c2, .int .i64 l2, .int .u64 f2] 33 (0, 0)) := by rw [hU]; exact alloc_same1 ..
  obtain ⟨pb, hpb⟩ : ∃ pb, W.heap.size = pb := ⟨_, rfl⟩
  obtain ⟨qb, hqb⟩ : ∃ qb, W.heap.size + 1 = qb := ⟨_, rfl⟩
  rw [hqb] at p2 ⊢
  rw [hpb] at p1 ⊢
  have EU := Lib.hid eU
  have P1 := Lib.hid p1
  have P2 := Lib.hid p2
  clear hU eU p1 p2 hpb hqb
  go_upto_region 4 with (first | (go_at_call 18; refine (awake08_c _).mono ?_; rintro e w0 ⟨rfl, hb0⟩) | (go_at_call 22; refine (HT.out _).mono ?_; rintro e w2 ⟨rfl, hb2⟩) | (go_at_call 33; refine (HR.out _).mono ?_; rintro e w3 ⟨rfl, hb3⟩))
  refine wp_gen ?_; intro V hV
  have e2 : Ext U w2 := hb0.trans (Ext.trans (by repeat (first | exact Ext.refl _ | assumption | refine Ext.alloc ?_ _ | refine Ext.drew ?_ | refine Ext.setCell ?_ (by first | (simp; done) | (dsimp only; omega)) _ | refine Ext.trans ?_ (by assumption))) hb2)
  have eV : Ext U V := by rw [hV]; exact (e2.trans (Ext.trans (by repeat (first | exact Ext.refl _ | assumption | refine Ext.alloc ?_ _ | refine Ext.drew ?_ | refine Ext.setCell ?_ (by first | (simp; done) | (dsimp only; omega)) _ | refine Ext.trans ?_ (by assumption))) hb3)).alloc _
  have p8 : V.heap[w2.heap.size]? = some (.cells #[.int .i64 4, .int .u64 tb, .bool true, .bool true, .bool true] 36 (0, 0)) := by rw [hV]; exact ((Ext.alloc hb3 _).block _ (by simp)).trans (alloc_same ..)
  have p9 : V.heap[w3.heap.size]? = some (.cells #[.int .i64 4, .int .u64 tb, .bool true, .bool true, .bool true] 58 (0, 0)) := by rw [hV]; exact alloc_same ..
  obtain ⟨tb8, h8⟩ : ∃ k, w2.heap.size = k := ⟨_, rfl⟩
  obtain ⟨tb9, h9⟩ : ∃ k, w3.heap.size = k := ⟨_, rfl⟩
  rw [h9] at p9 ⊢
  rw [h8] at p8 ⊢
  have hl8 := heap_lt p8
  have hl9 := heap_lt p9
  have x0 := (heap_cell p8 0).trans rfl
  have x1 := (heap_cell p8 1).trans rfl
  have x2 := (heap_cell p8 2).trans rfl
  have x3 := (heap_cell p8 3).trans rfl
  have x4 := (heap_cell p8 4).trans rfl
  have y0 := (heap_cell p9 0).trans rfl
  have y1 := (heap_cell p9 1).trans rfl
  have y2 := (heap_cell p9 2).trans rfl
  have y3 := (heap_cell p9 3).trans rfl
  have y4 := (heap_cell p9 4).trans rfl
  have q1 := (eV.block _ (heap_lt P1.out)).trans P1.out
  have q2 := (eV.block _ (heap_lt P2.out)).trans P2.out
  have hlp := heap_lt q1
  have hlq := heap_lt q2
  have z0 := (heap_cell q1 0).trans rfl
  have z1 := (heap_cell q1 1).trans rfl
  have z2 := (heap_cell q1 2).trans rfl
  have z3 := (heap_cell q1 3).trans rfl
  have z4 := (heap_cell q1 4).trans rfl
  have z5 := (heap_cell q1 5).trans rfl
  have z6 := (heap_cell q1 6).trans rfl
  have v0 := (heap_cell q2 0).trans rfl
  have v1 := (heap_cell q2 1).trans rfl
  have v2 := (heap_cell q2 2).trans rfl
  have v3 := (heap_cell q2 3).trans rfl
  have v4 := (heap_cell q2 4).trans rfl
  have v5 := (heap_cell q2 5).trans rfl
  have v6 := (heap_cell q2 6).trans rfl
  have EV := Lib.hid (EU.out.trans eV)
  have Q1 := Lib.hid q1
  have Q2 := Lib.hid q2
  have S1 := Lib.hid (S1.out.ext EV.out)
  have S2 := Lib.hid (S2.out.ext EV.out)
  clear hV p8 p9 q1 q2 e2 eV h8 h9 hb0 hb2 hb3
  refine region_mixG [.q [0, 1, 2, 3, 4, 5, 6, 7, 8, 9, 10, 11, 12, 13, 14, 15, 16, 17, 18, 19, 20, 21, 22, 23, 24, 26, 28], .l 25 3, .l 27 3, .l 29 3, .l 30 3, .q [31, 32, 33, 34, 35], .l 36 3, .q [37, 38]] (by kernel_rfl) (by kernel_rfl) ?_
  (try refine ⟨fun h => absurd h (by simp), ?_⟩); (repeat (unfold wpPlan; simp only [pickL, List.map_cons, List.map_nil, List.getD_cons_succ, List.getD_cons_zero]; (repeat go_big_quiet_step (fail)); refine wpQuiet_nil ?_)); unfold wpPlan; intro w4 hb4; (try simp only [pickL, List.map_cons, List.map_nil, List.getD_cons_succ, List.getD_cons_zero])
  go_wp2_with (first | (go_at_call 34; refine (HPQ.out _ (S1.out.ext hb4) (S2.out.ext hb4)).mono ?_; rintro e w5 ⟨rfl, hE5⟩))
  refine ⟨?_, ?_⟩
  · (try intro _); exact hb4.trans hE5
  have HB5 := Lib.hid (hb4.trans hE5)
  clear hb4 hE5 x0 x1 x2 x3 x4 y0 y1 y2 y3 y4 v0 v1 v2 v3 v4 v5 v6 z0 z1 z2 z3 z4 z5 z6
  (try refine ⟨fun h => absurd h (by simp), ?_⟩); (repeat (unfold wpPlan; simp only [pickL, List.map_cons, List.map_nil, List.getD_cons_succ, List.getD_cons_zero]; (repeat go_big_quiet_step (fail)); refine wpQuiet_nil ?_)); unfold wpPlan; intro w6 hb6; (try simp only [pickL, List.map_cons, List.map_nil, List.getD_cons_succ, List.getD_cons_zero])
  go_wp2_with (first | (go_at_call 29; refine (R1.out _ (S1.out.ext (HB5.out.trans hb6))).mono ?_; rintro e w7 ⟨ra1, rc1, rfl, hO1, hE1⟩))
  refine ⟨?_, ?_⟩
  · (try intro _); exact hb6.trans hE1
  have HB7 := Lib.hid (HB5.out.trans (hb6.trans hE1))
  have HO1 := Lib.hid hO1
  clear hb6 hE1 hO1
  (try refine ⟨fun h => absurd h (by simp), ?_⟩); (repeat (unfold wpPlan; simp only [pickL, List.map_cons, List.map_nil, List.getD_cons_succ, List.getD_cons_zero]; (repeat go_big_quiet_step (fail)); refine wpQuiet_nil ?_)); unfold wpPlan; intro w8 hb8; (try simp only [pickL, List.map_cons, List.map_nil, List.getD_cons_succ, List.getD_cons_zero])
  go_wp2_with (first | (go_at_call 29; refine (R2.out _ (S2.out.ext (HB7.out.trans hb8))).mono ?_; rintro e w9 ⟨ra2, rc2, rfl, hO2, hE2⟩))
  refine ⟨?_, ?_⟩
  · (try intro _); exact hb8.trans hE2
  have HB9 := Lib.hid (hb8.trans hE2)
  have HX9 := Lib.hid (HB7.out.trans HB9.out)
  have HO2 := Lib.hid hO2
  clear hb8 hE2 hO2
  (try refine ⟨fun h => absurd h (by simp), ?_⟩); (repeat (unfold wpPlan; simp only [pickL, List.map_cons, List.map_nil, List.getD_cons_succ, List.getD_cons_zero]; (repeat go_big_quiet_step (fail)); refine wpQuiet_nil ?_)); unfold wpPlan; intro wa hba; (try simp only [pickL, List.map_cons, List.map_nil, List.getD_cons_succ, List.getD_cons_zero])
  go_wp2_with (first | (go_at_call 35; refine (HRf.out _ _ _ _ _ (StepsAt.ofT (HO1.out.ext (HB9.out.trans hba))) (StepsAt.ofT (HO2.out.ext hba))).mono ?_; rintro e wb ⟨rfl, hEb⟩))
  refine ⟨?_, ?_⟩
  · (try intro _); exact hba.trans hEb
  have HXb := Lib.hid (HX9.out.trans (hba.trans hEb))
  have q1 := (HXb.out.block _ hlp).trans Q1.out
  have hlp7 := heap_lt q1
  have z0 := (heap_cell q1 0).trans rfl
  have z1 := (heap_cell q1 1).trans rfl
  have z2 := (heap_cell q1 2).trans rfl
  have z3 := (heap_cell q1 3).trans rfl
  have z4 := (heap_cell q1 4).trans rfl
  have z5 := (heap_cell q1 5).trans rfl
  have z6 := (heap_cell q1 6).trans rfl
  clear q1 hba hEb
  have hss : (s == s) = true := by simp
  (try refine ⟨fun h => absurd h (by simp), ?_⟩); (repeat (unfold wpPlan; simp only [pickL, List.map_cons, List.map_nil, List.getD_cons_succ, List.getD_cons_zero]; (repeat go_big_quiet_step (fail)); refine wpQuiet_nil ?_)); unfold wpPlan; intro wc hbc; (try simp only [pickL, List.map_cons, List.map_nil, List.getD_cons_succ, List.getD_cons_zero])
  go_wp2_with (first | (go_at_call 34; refine (HPP.out _ (S1.out.ext (HXb.out.trans hbc)) (S1.out.ext (HXb.out.trans hbc))).mono ?_; rintro e wd ⟨rfl, hEd⟩))
  refine ⟨?_, ?_⟩
  · (try intro _); exact hbc.trans hEd
  have HXd := Lib.hid (HXb.out.trans (hbc.trans hEd))
  clear hbc hEd
  (try refine ⟨fun h => absurd h (by simp), ?_⟩); (repeat (unfold wpPlan; simp only [pickL, List.map_cons, List.map_nil, List.getD_cons_succ, List.getD_cons_zero]; (repeat go_big_quiet_step (fail)); refine wpQuiet_nil ?_)); unfold wpPlan; intro we hbe; (try simp only [pickL, List.map_cons, List.map_nil, List.getD_cons_succ, List.getD_cons_zero])
  go_wp2
  all_goals
    (try go_ret)
    exact ⟨rfl, EV.out.trans (HXd.out.trans (by repeat (first | exact Ext.refl _ | assumption | refine Ext.alloc ?_ _ | refine Ext.drew ?_ | refine Ext.setCell ?_ (by first | (simp; done) | (dsimp only; omega)) _ | refine Ext.trans ?_ (by assumption))))⟩
end Go.Proofs.YtkoohedbbdgjjaaR
