/- The cache laws' deed: Get; any deed. -/
import Derived.Test.YtnacgmmkmedpdaaLawCB
namespace Go.Proofs.Ytnacgmmkmedpdaa
set_option linter.unusedVariables false
set_option linter.unusedSimpArgs false
open Go.RowKit
attribute [local go_sem] wext_cell wext_frozen wext_heap alloc_cell alloc_frozen alloc_heap setCell_cell objCell_cells objFrozen_cells
attribute [local go_sem high] refLine_eql

set_option maxHeartbeats 2000000 in
theorem do0_c (cb : Nat) (F : List Nat) (L : List (Key × Line)) (r : Nat) (L2 : List (Key × Line)) (r2 : Nat) (v : Value) (d : Deed) (w : World) (hc : CAt w cb F L r) (ho : RefAt w v L2) (hd : d.ok) (h2 : L2.length ≤ r2) (h64 : r2 ≤ 64)
    (hk : d.kind ≠ 1 ∧ d.kind ≠ 2 ∧ d.kind ≠ 3 ∧ d.kind ≠ 4 ∧ d.kind ≠ 5) : Calls Try.prog 24 #[.pointer (some ⟨cb, 0, none⟩), .agg #[v, .int .i64 r2], d.val] w (EndDo cb F w d L r L2 r2) := by
  have HC := Lib.hid hc
  have HO := Lib.hid ho
  have hFlt := Lib.hid hc.lt
  obtain ⟨a, cap, rfl, hn, hm⟩ := ho.1.form
  unfold maxLen at hm
  have hst : stepL d r L = L := by unfold stepL; simp [hk]
  have hst2 : stepL d r2 L2 = L2 := by unfold stepL; simp [hk]
  have hsm : sameL d L L2 = (lineB (getLine d.k L) (getLine d.k L2) && (hasK d.k L == hasK d.k L2)) := by unfold sameL; simp [hk]
  have HE0 : EndDo cb F w d L r L2 r2 = EndDo cb F w d L r L2 r2 := rfl
  obtain ⟨hp0, hp1⟩ := hd
  clear hc ho
  have hg1 := fun w1 hx => get_c cb F L r d.k w1 (HC.out.ext hx)
  have hg2 := fun w1 hx => refGet_c L2 d.k _ r2 w1 (HO.out.ext hx)
  generalize hEnd : EndDo cb F w d L r L2 r2 = E
  unfold EndDo at hEnd
  rw [hst, hst2, hsm] at hEnd
  have HEND := Aside.mk hEnd
  clear hEnd HE0 hst hst2 hsm
  generalize getLine d.k L = y1 at HEND hg1
  generalize hasK d.k L = q1 at HEND hg1
  generalize getLine d.k L2 = y2 at HEND hg2
  generalize hasK d.k L2 = q2 at HEND hg2
  obtain ⟨yf, ya, yb, yc, yd, ym⟩ := y1
  obtain ⟨zf, za, zb, zc, zd, zm⟩ := y2
  obtain ⟨kind, pick, ⟨p, l, t⟩, ⟨xf, xa, xb, xc, xd, xm⟩⟩ := d
  dsimp only at hk hp0 hp1 HEND
  unfold Deed.val
  dsimp only
  unfold Key.val Line.val at hg1 hg2
  dsimp only at hg1 hg2
  have HG1 := Lib.hid hg1
  have HG2 := Lib.hid hg2
  clear hg1 hg2
  obtain ⟨k1, k2, k3, k4, k5⟩ := hk
  have e1 : (kind == 1) = false := by simpa using k1
  have e2 : (kind == 2) = false := by simpa using k2
  have e3 : (kind == 3) = false := by simpa using k3
  have e4 : (kind == 4) = false := by simpa using k4
  have e5 : (kind == 5) = false := by simpa using k5
  go_enter Try.func24, Try.ntmps24
  go_upto_region 18 with (fail)
  refine wp_gen ?_; intro W hW
  have hE : Ext w W := by rw [hW]; exact (by repeat (first | exact Ext.refl _ | assumption | refine Ext.alloc ?_ _ | refine Ext.drew ?_ | refine Ext.setCell ?_ (by first | (simp; done) | (dsimp only; omega)) _ | refine Ext.trans ?_ (by assumption)))
  have n0 : W.heap[w.heap.size]? = some (.cells #[.slice a L2.length cap, .int .i64 r2] 28 (0, 0)) := by rw [hW]; exact (alloc_other _ _ (by simp; omega)).trans ((alloc_other _ _ (by simp)).trans (alloc_same ..))
  have n1 : W.heap[w.heap.size + 1]? = some (.cells #[.int .i64 kind, .int .i64 pick, .int .i64 p, .int .i64 l, .int .u64 t, .int .u64 xf, .bool xa, .bool xb, .bool xc, .bool xd, .int .u8 xm] 40 (0, 0)) := by rw [hW]; exact (alloc_other _ _ (by simp)).trans (alloc_same1 ..)
  have n2 : W.heap[w.heap.size + 1 + 1]? = some (.cells #[.slice none 0 0, .int .i64 0] 28 (0, 0)) := by rw [hW]; exact alloc_same2 ..
  have N0 := Lib.hid n0
  have N1 := Lib.hid n1
  have N2 := Lib.hid n2
  have HE := Lib.hid hE
  have HCW := Lib.hid (HC.out.ext hE)
  have HOW := Lib.hid (HO.out.ext hE)
  have hsz : w.heap.size + 1 + 1 < W.heap.size := heap_lt n2
  have x1 := (heap_cell n1 1).trans rfl
  have x2 := (heap_cell n1 2).trans rfl
  have x3 := (heap_cell n1 3).trans rfl
  have x4 := (heap_cell n1 4).trans rfl
  have x5 := (heap_cell n1 5).trans rfl
  have x6 := (heap_cell n1 6).trans rfl
  have x7 := (heap_cell n1 7).trans rfl
  have x8 := (heap_cell n1 8).trans rfl
  have x9 := (heap_cell n1 9).trans rfl
  have x10 := (heap_cell n1 10).trans rfl
  clear hW hE n0 n1 n2
  have HX := HE
  go_upto_region 19 with (first | (go_at_call 29; refine (HG1.out _ (HX.out.trans (by repeat (first | exact Ext.refl _ | assumption | refine Ext.alloc ?_ _ | refine Ext.drew ?_ | refine Ext.setCell ?_ (by first | (simp; done) | (dsimp only; omega)) _ | refine Ext.trans ?_ (by assumption))))).mono ?_; rintro e w3 ⟨rfl, h3⟩))
  have E3 : Ext W w3 := by first | exact h3 | exact Ext.trans (by repeat (first | exact Ext.refl _ | assumption | refine Ext.alloc ?_ _ | refine Ext.drew ?_ | refine Ext.setCell ?_ (by first | (simp; done) | (dsimp only; omega)) _ | refine Ext.trans ?_ (by assumption))) h3
  have hz3 := E3.size
  have m0 := (E3.block _ (by omega)).trans N0.out
  have m1 := (E3.block _ (by omega)).trans N1.out
  have m2 := (E3.block _ hsz).trans N2.out
  refine wp_gen ?_; intro V hV
  have EV : Ext W V := by rw [hV]; exact E3.alloc _
  have b8 : V.heap[w3.heap.size]? = some (.cells #[.int .u64 yf, .bool ya, .bool yb, .bool yc, .bool yd, .int .u8 ym] 38 (0, 0)) := by rw [hV]; exact alloc_same ..
  have M0 := Lib.hid ((EV.block _ (by omega)).trans N0.out)
  have M1 := Lib.hid ((EV.block _ (by omega)).trans N1.out)
  have M2 := Lib.hid ((EV.block _ hsz).trans N2.out)
  have B8 := Lib.hid b8
  have HV := Lib.hid EV
  have hz8 := heap_lt b8
  have y0 := (heap_cell M0.out 0).trans rfl
  have y1 := (heap_cell M0.out 1).trans rfl
  have x2 := (heap_cell M1.out 2).trans rfl
  have x3 := (heap_cell M1.out 3).trans rfl
  have x4 := (heap_cell M1.out 4).trans rfl
  clear m0 m1 m2 x1 x5 x6 x7 x8 x9 x10 E3 h3 hV EV b8
  refine region_mixA 8 (.cells #[.int .u64 0, .bool false, .bool false, .bool false, .bool false, .int .u8 0] 56 (0, 0)) [.q [0, 1, 2], .l 3 5, .l 4 5, .b [5, 6, 7], .l 8 4, .l 9 2, .q [10]] (by kernel_rfl) (by kernel_rfl) (alloc_runA rfl (by kernel_rfl : _ = some (some (Value.agg (#[.int .u64 0, .bool false, .bool false, .bool false, .bool false, .int .u8 0])))) rfl) ?_
  (repeat (unfold wpPlanA; simp only [pickL, List.map_cons, List.map_nil, List.getD_cons_succ, List.getD_cons_zero]; (repeat go_big_quiet_step (fail)); refine wpQuiet_nil ?_)); unfold wpPlanA; intro w4 hb4; (try simp only [pickL, List.map_cons, List.map_nil, List.getD_cons_succ, List.getD_cons_zero])
  go_wp2_with (first | (go_at_call 33; refine (real_c ⟨p, l, t⟩ _).mono ?_; rintro e w4b ⟨rfl, hb4b⟩))
  have s4 := hb4.size
  have s4b := hb4b.size
  refine ⟨⟨by omega, fun _ => hb4b, fun h => absurd h (by omega)⟩, ?_⟩
  have HB4 := Lib.hid (hb4.trans hb4b)
  clear hb4 hb4b
  unfold Key.val
  (repeat (unfold wpPlanA; simp only [pickL, List.map_cons, List.map_nil, List.getD_cons_succ, List.getD_cons_zero]; (repeat go_big_quiet_step (fail)); refine wpQuiet_nil ?_)); unfold wpPlanA; intro w5 hb5; (try simp only [pickL, List.map_cons, List.map_nil, List.getD_cons_succ, List.getD_cons_zero])
  go_wp2_with (first | (go_at_call 80; refine (HG2.out _ (HE.out.trans (HV.out.trans (HB4.out.trans hb5)))).mono ?_; rintro e w5b ⟨rfl, hb5b⟩))
  have s5 := hb5.size
  have s5b := hb5b.size
  refine ⟨⟨by omega, fun _ => hb5b, fun h => absurd h (by omega)⟩, ?_⟩
  have HB5 := Lib.hid (HB4.out.trans (hb5.trans hb5b))
  clear hb5 hb5b
  (repeat (unfold wpPlanA; simp only [pickL, List.map_cons, List.map_nil, List.getD_cons_succ, List.getD_cons_zero]; (repeat go_big_quiet_step (fail)); refine wpQuiet_nil ?_)); unfold wpPlanA; intro b w6 hb6 hb6B hb6O; simp only [List.getD_cons_succ, List.getD_cons_zero, ptrTo]; simp only [Act.put, Array.set!_eq_setIfInBounds, List.setIfInBounds_toArray, List.set_cons_succ, List.set_cons_zero]
  have HB6 := Lib.hid (HB5.out.trans hb6)
  have s6 := hb6.size
  have O6 := Lib.hid hb6O
  have hlb := heap_lt hb6O
  clear hb6 hb6O
  (repeat (unfold wpPlanA; simp only [pickL, List.map_cons, List.map_nil, List.getD_cons_succ, List.getD_cons_zero]; (repeat go_big_quiet_step (fail)); refine wpQuiet_nil ?_)); unfold wpPlanA; intro w7 hb7; (try simp only [pickL, List.map_cons, List.map_nil, List.getD_cons_succ, List.getD_cons_zero])
  have b7 := (hb7.block b hlb).trans O6.out
  have g0 := (heap_cell b7 0).trans rfl
  have g1 := (heap_cell b7 1).trans rfl
  have g2 := (heap_cell b7 2).trans rfl
  have g3 := (heap_cell b7 3).trans rfl
  have g4 := (heap_cell b7 4).trans rfl
  have g5 := (heap_cell b7 5).trans rfl
  have g6 := frozen_of b7
  have B7 := Lib.hid b7
  have HB7 := Lib.hid (HB6.out.trans hb7)
  have s7 := HB7.out.size
  have s67 := hb7.size
  clear b7 hb7
  go_wp2
  refine ⟨⟨by simp; omega, fun h => absurd h (by omega), fun h => absurd h (by omega)⟩, ?_⟩
  (repeat (unfold wpPlanA; simp only [pickL, List.map_cons, List.map_nil, List.getD_cons_succ, List.getD_cons_zero]; (repeat go_big_quiet_step (fail)); refine wpQuiet_nil ?_)); unfold wpPlanA; intro w9 hb9; (try simp only [pickL, List.map_cons, List.map_nil, List.getD_cons_succ, List.getD_cons_zero])
  have s9 := hb9.size
  simp only [World.size_setCell] at s9
  have E9 : Ext V w9 := (ext6 HB7.out hb6B).trans hb9
  have b9 := (hb9.block b (by simp; omega)).trans (store6_heap B7.out)
  have i0 := (heap_cell b9 0).trans rfl
  have i1 := (heap_cell b9 1).trans rfl
  have i2 := (heap_cell b9 2).trans rfl
  have i3 := (heap_cell b9 3).trans rfl
  have i4 := (heap_cell b9 4).trans rfl
  have i5 := (heap_cell b9 5).trans rfl
  have c8 := (E9.block _ hz8).trans B8.out
  have j0 := (heap_cell c8 0).trans rfl
  have j1 := (heap_cell c8 1).trans rfl
  have j2 := (heap_cell c8 2).trans rfl
  have j3 := (heap_cell c8 3).trans rfl
  have j4 := (heap_cell c8 4).trans rfl
  have j5 := (heap_cell c8 5).trans rfl
  have y0 : w9.cell? ⟨w.heap.size, 0, none⟩ = some (.slice a L2.length cap) := E9.someCell y0
  have y1 : w9.cell? ⟨w.heap.size, 1, none⟩ = some (.int .i64 r2) := E9.someCell y1
  have A2 := Lib.hid ((E9.block _ (by omega)).trans M2.out)
  have HV9 := Lib.hid (HV.out.trans E9)
  have s9b := E9.size
  clear b9 c8 E9 hb9 g0 g1 g2 g3 g4 g5 g6 x2 x3 x4
  go_upto_region 20 with (fail)
  cases hlb2 : lineB ⟨yf, ya, yb, yc, yd, ym⟩ ⟨zf, za, zb, zc, zd, zm⟩
  all_goals
    rw [hlb2] at HEND
    refine region_mix [.q [0, 1, 3], .l 2 3, .q [4], .b [5, 6, 7, 8, 9], .l 10 2, .q [11]] (by kernel_rfl) (by kernel_rfl) ?_
    (try refine ⟨fun h => absurd h (by simp), ?_⟩); (repeat (unfold wpPlan; simp only [pickL, List.map_cons, List.map_nil, List.getD_cons_succ, List.getD_cons_zero]; (repeat go_big_quiet_step (fail)); refine wpQuiet_nil ?_)); unfold wpPlan; intro wa hba; (try simp only [pickL, List.map_cons, List.map_nil, List.getD_cons_succ, List.getD_cons_zero])
    go_wp2_with (first | (go_at_call 34; refine (lined_c ⟨yf, ya, yb, yc, yd, ym⟩ _).mono ?_; rintro e wab ⟨rfl, hbb⟩))
    refine ⟨?_, ?_⟩
    · (try intro _); exact hba.trans hbb
    have HBA := Lib.hid (hba.trans hbb)
    clear hba hbb
    unfold Line.val
    (try refine ⟨fun h => absurd h (by simp), ?_⟩); (repeat (unfold wpPlan; simp only [pickL, List.map_cons, List.map_nil, List.getD_cons_succ, List.getD_cons_zero]; (repeat go_big_quiet_step (fail)); refine wpQuiet_nil ?_)); unfold wpPlan; intro wc hbc; (try simp only [pickL, List.map_cons, List.map_nil, List.getD_cons_succ, List.getD_cons_zero])
    have EC := HBA.out.trans hbc
    have bb := (EC.block _ (by omega)).trans A2.out
    have k0 := (heap_cell bb 0).trans rfl
    have k1 := (heap_cell bb 1).trans rfl
    have k6 := frozen_of bb
    have BB := Lib.hid bb
    have HEC := Lib.hid (HE.out.trans (HV9.out.trans EC))
    clear bb EC hbc
    go_wp2
    (try refine ⟨fun h => absurd h (by simp), ?_⟩); (repeat (unfold wpPlan; simp only [pickL, List.map_cons, List.map_nil, List.getD_cons_succ, List.getD_cons_zero]; (repeat go_big_quiet_step (fail)); refine wpQuiet_nil ?_)); unfold wpPlan; intro w8 hb8; (try simp only [pickL, List.map_cons, List.map_nil, List.getD_cons_succ, List.getD_cons_zero])
    obtain ⟨q1, q2, q3, q4, q5⟩ := fin_do (Keeps.of_ext HEC.out) (fun x hx => .inl hx) (HC.out.ext HEC.out) (HO.out.ext HEC.out) BB.out (by omega) hb8
    have v0 := (heap_cell q1 0).trans rfl
    have v1 := (heap_cell q1 1).trans rfl
    have Q2 := Lib.hid q2
    have Q3 := Lib.hid q3
    have Q4 := Lib.hid q4
    have Q5 := Lib.hid q5
    clear q1 q2 q3 q4 q5 hb8 k0 k1 k6 i0 i1 i2 i3 i4 i5 j0 j1 j2 j3 j4 j5 y0 y1
    go_wp2
    rw [← HEND.out]
    refine bodyPost_ret (by simp [results, Try.results24, go_sem, ↓IntWalk.iteOmega, *]; try rfl) rfl ⟨_, rfl, Q2.out, F, Q3.out, Q4.out, Q5.out⟩

theorem do_c (cb : Nat) (F : List Nat) (L : List (Key × Line)) (r : Nat) (L2 : List (Key × Line)) (r2 : Nat) (v : Value) (d : Deed) (w : World) (hc : CAt w cb F L r) (ho : RefAt w v L2) (hd : d.ok) (h2 : L2.length ≤ r2) (h64 : r2 ≤ 64) :
    Calls Try.prog 24 #[.pointer (some ⟨cb, 0, none⟩), .agg #[v, .int .i64 r2], d.val] w (EndDo cb F w d L r L2 r2) := by
  by_cases h1 : d.kind = 1
  · exact do1_c cb F L r L2 r2 v d w hc ho hd h2 h64 h1
  by_cases h3 : d.kind = 2
  · exact do2_c cb F L r L2 r2 v d w hc ho hd h2 h64 h3
  by_cases h4 : d.kind = 3
  · exact do3_c cb F L r L2 r2 v d w hc ho hd h2 h64 h4
  by_cases h5 : d.kind = 4
  · exact do4_c cb F L r L2 r2 v d w hc ho hd h2 h64 h5
  by_cases h6 : d.kind = 5
  · exact do5_c cb F L r L2 r2 v d w hc ho hd h2 h64 h6
  exact do0_c cb F L r L2 r2 v d w hc ho hd h2 h64 ⟨h1, h3, h4, h5, h6⟩
end Go.Proofs.Ytnacgmmkmedpdaa
