/- The document's translations: Without, Small, Great. -/
import Derived.Test.YtnacgmmkmedpdaaTlbE
namespace Go.Proofs.Ytnacgmmkmedpdaa
set_option linter.unusedVariables false
set_option linter.unusedSimpArgs false
open Go.RowKit
attribute [local go_sem] wext_cell wext_frozen wext_heap alloc_cell alloc_frozen alloc_heap setCell_cell objCell_cells objFrozen_cells
attribute [local go_sem high] refKey_eql

set_option maxHeartbeats 1000000 in
theorem refOut_c (x : Line) (i : Int) (w : World) (hx : x.ok) (hi0 : 0 ≤ i) (hi1 : i ≤ 7) :
    Calls Try.prog 119 #[x.val, .int .i64 i] w fun e w' => e = .returned (outL x i).val ∧ Ext w w' := by
  have hx := hx
  obtain ⟨hc0, hc1⟩ := clr8 hx.1 hx.2 hi0 hi1
  have hw : ∀ w, Calls Try.prog 134 #[.int .u64 x.m, .int .i64 i, .bool false] w fun e w' => e = .returned (.int .u64 (clrB x.m i)) ∧ Ext w w' := fun w => by
    have := refWith_c x.m.toNat i.toNat false w (by have := hx.2; omega) (by omega)
    rw [with8 hx.1 hx.2 hi0 hi1, Int.toNat_of_nonneg hx.1, Int.toNat_of_nonneg hi0] at this
    exact this
  unfold outL
  obtain ⟨xf, xa, xb, xc, xd, xm⟩ := x
  unfold Line.val
  dsimp only at *
  obtain ⟨hx0, hx1⟩ := hx
  dsimp only at hx0 hx1
  generalize clrB xm i = cm at *
  by_cases hz : cm = 0
  · have hzb : (cm == 0) = true := by simpa using hz
    rw [if_pos hz]
    unfold noLine
    dsimp only
    go_enter Try.func119, Try.ntmps119
    go_upto_region 2 with (fail)
    go_wp2_with (first | (go_at_call 134; refine (hw _).mono ?_; rintro e w1 ⟨rfl, hb⟩; have B0 := Lib.hid ((hb.block w.heap.size (by simp; omega)).trans ((alloc_other _ _ (by simp)).trans (alloc_same ..))); have B1 := Lib.hid ((hb.block (w.heap.size + 1) (by simp)).trans (alloc_same1 ..)); have EB := Lib.hid (Ext.trans (by repeat (first | exact Ext.refl _ | assumption | refine Ext.alloc ?_ _ | refine Ext.drew ?_ | refine Ext.setCell ?_ (by first | (simp; done) | (dsimp only; omega)) _ | refine Ext.trans ?_ (by assumption))) hb : Ext w w1); have x0 := (heap_cell B0.out 0).trans rfl; have x1 := (heap_cell B0.out 1).trans rfl; have x2 := (heap_cell B0.out 2).trans rfl; have x3 := (heap_cell B0.out 3).trans rfl; have x4 := (heap_cell B0.out 4).trans rfl; have x5 := (heap_cell B0.out 5).trans rfl; have f0 := frozen_of B0.out; have r0 := (heap_cell B1.out 0).trans rfl; have r1 := (heap_cell B1.out 1).trans rfl; have r2 := (heap_cell B1.out 2).trans rfl; have r3 := (heap_cell B1.out 3).trans rfl; have r4 := (heap_cell B1.out 4).trans rfl; have r5 := (heap_cell B1.out 5).trans rfl; have f1 := frozen_of B1.out; have hs1 := heap_lt B1.out; clear hb))
    refine post_gen (fun U => U.heap[w.heap.size + 1]? = some (.cells #[.int .u64 0, .bool false, .bool false, .bool false, .bool false, .int .u8 0] 56 (0, 0)) ∧ Ext w U) ⟨?_, ?_⟩ ?_
    · exact store6_heap ((setCell_heap _ _ _ _ _ (by omega)).trans B1.out)
    · exact ext6 (Ext.setCell EB.out (by simp) _) (by omega)
    rintro U ⟨m5, E5⟩
    have v0 := (heap_cell m5 0).trans rfl
    have v1 := (heap_cell m5 1).trans rfl
    have v2 := (heap_cell m5 2).trans rfl
    have v3 := (heap_cell m5 3).trans rfl
    have v4 := (heap_cell m5 4).trans rfl
    have v5 := (heap_cell m5 5).trans rfl
    clear m5 x0 x1 x2 x3 x4 x5 f0 r0 r1 r2 r3 r4 r5 f1
    refine bodyPost_ret (by simp [results, Try.results119, go_sem, ↓IntWalk.iteOmega, *]; try rfl) rfl ⟨rfl, E5⟩
  · have hzb : (cm == 0) = false := by simpa using hz
    rw [if_neg hz]
    dsimp only
    go_enter Try.func119, Try.ntmps119
    go_upto_region 2 with (fail)
    go_wp2_with (first | (go_at_call 134; refine (hw _).mono ?_; rintro e w1 ⟨rfl, hb⟩; have B0 := Lib.hid ((hb.block w.heap.size (by simp; omega)).trans ((alloc_other _ _ (by simp)).trans (alloc_same ..))); have B1 := Lib.hid ((hb.block (w.heap.size + 1) (by simp)).trans (alloc_same1 ..)); have EB := Lib.hid (Ext.trans (by repeat (first | exact Ext.refl _ | assumption | refine Ext.alloc ?_ _ | refine Ext.drew ?_ | refine Ext.setCell ?_ (by first | (simp; done) | (dsimp only; omega)) _ | refine Ext.trans ?_ (by assumption))) hb : Ext w w1); have x0 := (heap_cell B0.out 0).trans rfl; have x1 := (heap_cell B0.out 1).trans rfl; have x2 := (heap_cell B0.out 2).trans rfl; have x3 := (heap_cell B0.out 3).trans rfl; have x4 := (heap_cell B0.out 4).trans rfl; have x5 := (heap_cell B0.out 5).trans rfl; have f0 := frozen_of B0.out; have r0 := (heap_cell B1.out 0).trans rfl; have r1 := (heap_cell B1.out 1).trans rfl; have r2 := (heap_cell B1.out 2).trans rfl; have r3 := (heap_cell B1.out 3).trans rfl; have r4 := (heap_cell B1.out 4).trans rfl; have r5 := (heap_cell B1.out 5).trans rfl; have f1 := frozen_of B1.out; have hs1 := heap_lt B1.out; clear hb))
    refine post_gen (fun U => U.heap[w.heap.size + 1]? = some (.cells #[.int .u64 xf, .bool xa, .bool xb, .bool xc, .bool xd, .int .u8 cm] 56 (0, 0)) ∧ Ext w U) ⟨?_, ?_⟩ ?_
    · exact store6_heap ((setCell_heap _ _ _ _ _ (by omega)).trans B1.out)
    · exact ext6 (Ext.setCell EB.out (by simp) _) (by omega)
    rintro U ⟨m5, E5⟩
    have v0 := (heap_cell m5 0).trans rfl
    have v1 := (heap_cell m5 1).trans rfl
    have v2 := (heap_cell m5 2).trans rfl
    have v3 := (heap_cell m5 3).trans rfl
    have v4 := (heap_cell m5 4).trans rfl
    have v5 := (heap_cell m5 5).trans rfl
    clear m5 x0 x1 x2 x3 x4 x5 f0 r0 r1 r2 r3 r4 r5 f1
    refine bodyPost_ret (by simp [results, Try.results119, go_sem, ↓IntWalk.iteOmega, *]; try rfl) rfl ⟨rfl, E5⟩

set_option maxHeartbeats 1000000 in
theorem refSmall_c (L : List (Key × Line)) (v : Value) (r : Nat) (p a : Int) (x : Line) (pick : Int) (w : World) (ho : RefAt w v L) (hLr : L.length ≤ r) (hr64 : r ≤ 64) (h0 : 0 ≤ a) (h1 : a ≤ 18446744073709551615) (hp0 : -9223372036854775808 ≤ pick) (hp1 : pick ≤ 9223372036854775807) :
    Calls Try.prog 84 #[.agg #[v, .int .i64 r], .int .i64 p, .int .u64 a, x.val, .int .i64 pick] w (EndRef (smallL p a x pick r L) r w) := by
  have HO := Lib.hid ho
  obtain ⟨va, cap, rfl, hn, hm⟩ := ho.1.form
  unfold maxLen at hm
  have hput := fun w ho => refPut_c L (kT p 1 a) x pick (.slice va L.length cap) r w ho hLr hr64 hp0 hp1
  have hkey := fun w => refKeyT_c p 1 a w (.inl rfl) h0 h1
  unfold smallL
  generalize (kT p 1 a) = k at hput hkey
  generalize putC k x pick r L = LP at hput
  obtain ⟨xf, xa, xb, xc, xd, xm⟩ := x
  unfold Line.val at *
  dsimp only at hput ⊢
  have HP := Lib.hid hput
  have HK := Lib.hid hkey
  clear hput hkey ho
  by_cases hz : xm = 0
  · have hzb : (xm == 0) = true := by simpa using hz
    rw [if_pos hz]
    go_enter Try.func84, Try.ntmps84
    go_wp2
    refine bodyPost_ret (by simp [results, Try.results84, go_sem, ↓IntWalk.iteOmega, *]; try rfl) rfl ⟨_, rfl, HO.out.ext (by repeat (first | exact Ext.refl _ | assumption | refine Ext.alloc ?_ _ | refine Ext.drew ?_ | refine Ext.setCell ?_ (by first | (simp; done) | (dsimp only; omega)) _ | refine Ext.trans ?_ (by assumption))), (by repeat (first | exact Ext.refl _ | assumption | refine Ext.alloc ?_ _ | refine Ext.drew ?_ | refine Ext.setCell ?_ (by first | (simp; done) | (dsimp only; omega)) _ | refine Ext.trans ?_ (by assumption)))⟩
  · have hzb : (xm == 0) = false := by simpa using hz
    rw [if_neg hz]
    go_enter Try.func84, Try.ntmps84
    go_upto_region 3 with (fail)
    refine wp_gen ?_; intro W hW
    have hE : Ext w W := by rw [hW]; exact (by repeat (first | exact Ext.refl _ | assumption | refine Ext.alloc ?_ _ | refine Ext.drew ?_ | refine Ext.setCell ?_ (by first | (simp; done) | (dsimp only; omega)) _ | refine Ext.trans ?_ (by assumption)))
    have n2 : W.heap[w.heap.size + 1 + 1]? = some (.cells #[.slice none 0 0, .int .i64 0] 28 (0, 0)) := by rw [hW]; exact alloc_same2 ..
    have n0 : W.heap[w.heap.size]? = some (.cells #[.slice va L.length cap, .int .i64 r] 28 (0, 0)) := by rw [hW]; exact (alloc_other _ _ (by simp; omega)).trans ((alloc_other _ _ (by simp)).trans (alloc_same ..))
    have n1 : W.heap[w.heap.size + 1]? = some (.cells #[.int .u64 xf, .bool xa, .bool xb, .bool xc, .bool xd, .int .u8 xm] 56 (0, 0)) := by rw [hW]; exact (alloc_other _ _ (by simp)).trans (alloc_same1 ..)
    have x0 := (heap_cell n0 0).trans rfl
    have x1 := (heap_cell n0 1).trans rfl
    have y0 := (heap_cell n1 0).trans rfl
    have y1 := (heap_cell n1 1).trans rfl
    have y2 := (heap_cell n1 2).trans rfl
    have y3 := (heap_cell n1 3).trans rfl
    have y4 := (heap_cell n1 4).trans rfl
    have y5 := (heap_cell n1 5).trans rfl
    have N2 := Lib.hid n2
    have HE := Lib.hid hE
    have hl2 := heap_lt n2
    clear hW hE n0 n1 n2
    refine region_mix [.q [0, 1, 2, 4, 5], .l 3 3, .l 6 3, .l 7 2] (by kernel_rfl) (by kernel_rfl) ?_
    (try refine ⟨fun h => absurd h (by simp), ?_⟩); (repeat (unfold wpPlan; simp only [pickL, List.map_cons, List.map_nil, List.getD_cons_succ, List.getD_cons_zero]; (repeat go_big_quiet_step (fail)); refine wpQuiet_nil ?_)); unfold wpPlan; intro w1 hb1; (try simp only [pickL, List.map_cons, List.map_nil, List.getD_cons_succ, List.getD_cons_zero])
    go_wp2_with (first | (go_at_call 91; refine (HK.out _).mono ?_; rintro e w2 ⟨rfl, hb2⟩))
    refine ⟨?_, ?_⟩
    · (try intro _); exact hb1.trans hb2
    have HB2 := Lib.hid (hb1.trans hb2)
    clear hb1 hb2
    (try refine ⟨fun h => absurd h (by simp), ?_⟩); (repeat (unfold wpPlan; simp only [pickL, List.map_cons, List.map_nil, List.getD_cons_succ, List.getD_cons_zero]; (repeat go_big_quiet_step (fail)); refine wpQuiet_nil ?_)); unfold wpPlan; intro w3 hb3; (try simp only [pickL, List.map_cons, List.map_nil, List.getD_cons_succ, List.getD_cons_zero])
    go_wp2_with (first | (go_at_call 76; refine (HP.out _ (((HO.out.ext HE.out).ext HB2.out).ext hb3)).mono ?_; rintro e w4 ⟨v4, rfl, hv4, hb4⟩; obtain ⟨a4, c4, rfl, -, -⟩ := hv4.1.form))
    refine ⟨?_, ?_⟩
    · (try intro _); exact hb3.trans hb4
    have HB4 := Lib.hid (HB2.out.trans (hb3.trans hb4))
    have HV4 := Lib.hid hv4
    clear hb3 hb4 hv4
    (try refine ⟨fun h => absurd h (by simp), ?_⟩); (repeat (unfold wpPlan; simp only [pickL, List.map_cons, List.map_nil, List.getD_cons_succ, List.getD_cons_zero]; (repeat go_big_quiet_step (fail)); refine wpQuiet_nil ?_)); unfold wpPlan; intro w5 hb5; (try simp only [pickL, List.map_cons, List.map_nil, List.getD_cons_succ, List.getD_cons_zero])
    have m5 := ((HB4.out.trans hb5).block _ hl2).trans N2.out
    have y0 := (heap_cell m5 0).trans rfl
    have y1 := (heap_cell m5 1).trans rfl
    have z0 := frozen_of m5
    have M5 := Lib.hid m5
    have HB5 := Lib.hid (HB4.out.trans hb5)
    have HV5 := Lib.hid (HV4.out.ext hb5)
    clear hb5 m5
    go_wp2
    (try refine ⟨fun h => absurd h (by simp), ?_⟩); (repeat (unfold wpPlan; simp only [pickL, List.map_cons, List.map_nil, List.getD_cons_succ, List.getD_cons_zero]; (repeat go_big_quiet_step (fail)); refine wpQuiet_nil ?_)); unfold wpPlan; intro w6 hb6; (try simp only [pickL, List.map_cons, List.map_nil, List.getD_cons_succ, List.getD_cons_zero])
    have m6 := (hb6.block (w.heap.size + 1 + 1) (by simp; have := HB5.out.size; omega)).trans (store2_heap M5.out)
    have E6 : Ext w w6 := (HE.out.trans HB5.out).setCell (by simp; omega) _ |>.setCell (by simp; omega) _ |>.trans hb6
    have v6 := ((HV5.out.store2 M5.out).ext hb6)
    have u0 := (heap_cell m6 0).trans rfl
    have u1 := (heap_cell m6 1).trans rfl
    have V6 := Lib.hid v6
    clear m6 hb6 y0 y1 z0 x0 x1 y2 y3 y4 y5 v6
    go_wp2
    refine bodyPost_ret (by simp [results, Try.results84, go_sem, ↓IntWalk.iteOmega, *]; try rfl) rfl ⟨_, rfl, V6.out, E6⟩
set_option maxHeartbeats 1000000 in
theorem refGreat_c (L : List (Key × Line)) (v : Value) (r : Nat) (p a : Int) (x : Hit) (pick : Int) (w : World) (ho : RefAt w v L) (hLr : L.length ≤ r) (hr64 : r ≤ 64) (h0 : 0 ≤ a) (h1 : a ≤ 18446744073709551615) (hp0 : -9223372036854775808 ≤ pick) (hp1 : pick ≤ 9223372036854775807) :
    Calls Try.prog 86 #[.agg #[v, .int .i64 r], .int .i64 p, .int .u64 a, x.val, .int .i64 pick] w (EndRef (greatL p a x pick r L) r w) := by
  have HO := Lib.hid ho
  obtain ⟨va, cap, rfl, hn, hm⟩ := ho.1.form
  unfold maxLen at hm
  have hput := fun w ho => refPut_c L (kT p x.l a) ⟨x.f, x.a, x.b, x.c, x.d, 0⟩ pick (.slice va L.length cap) r w ho hLr hr64 hp0 hp1
  have hkey := fun w hl => refKeyT_c p x.l a w hl h0 h1
  unfold greatL
  obtain ⟨xf, xl, xa, xb, xc, xd⟩ := x
  unfold Hit.val
  dsimp only at hput hkey ⊢
  generalize (kT p xl a) = k at hput hkey
  generalize putC k ⟨xf, xa, xb, xc, xd, 0⟩ pick r L = LP at hput
  unfold Line.val at hput
  dsimp only at hput
  have HP := Lib.hid hput
  have HK := Lib.hid hkey
  clear hput hkey ho
  have hcase : (xl ≠ 2 ∧ xl ≠ 3) ∨ xl = 2 ∨ xl = 3 := by omega
  rcases hcase with ⟨n2, n3⟩ | hl
  · have e2 : (xl != 2) = true := by simpa using n2
    have e3 : (xl != 3) = true := by simpa using n3
    rw [if_neg (by omega)]
    go_enter Try.func86, Try.ntmps86
    go_wp2
    refine bodyPost_ret (by simp [results, Try.results86, go_sem, ↓IntWalk.iteOmega, *]; try rfl) rfl ⟨_, rfl, HO.out.ext (by repeat (first | exact Ext.refl _ | assumption | refine Ext.alloc ?_ _ | refine Ext.drew ?_ | refine Ext.setCell ?_ (by first | (simp; done) | (dsimp only; omega)) _ | refine Ext.trans ?_ (by assumption))), (by repeat (first | exact Ext.refl _ | assumption | refine Ext.alloc ?_ _ | refine Ext.drew ?_ | refine Ext.setCell ?_ (by first | (simp; done) | (dsimp only; omega)) _ | refine Ext.trans ?_ (by assumption)))⟩
  rw [if_pos hl]
  have HK2 := Lib.hid (fun w => HK.out w (by omega))
  rcases hl with rfl | rfl
  all_goals
    go_enter Try.func86, Try.ntmps86
    go_upto_region 3 with (fail)
    refine wp_gen ?_; intro W hW
    have hE : Ext w W := by rw [hW]; exact (by repeat (first | exact Ext.refl _ | assumption | refine Ext.alloc ?_ _ | refine Ext.drew ?_ | refine Ext.setCell ?_ (by first | (simp; done) | (dsimp only; omega)) _ | refine Ext.trans ?_ (by assumption)))
    have n2 : W.heap[w.heap.size + 1 + 1]? = some (.cells #[.slice none 0 0, .int .i64 0] 28 (0, 0)) := by rw [hW]; exact alloc_same2 ..
    have n0 : W.heap[w.heap.size]? = some (.cells #[.slice va L.length cap, .int .i64 r] 28 (0, 0)) := by rw [hW]; exact (alloc_other _ _ (by simp; omega)).trans ((alloc_other _ _ (by simp)).trans (alloc_same ..))
    have n1 := (show W.heap[w.heap.size + 1]? = some (.cells #[.int .u64 xf, .int .i64 _, .bool xa, .bool xb, .bool xc, .bool xd] 76 (0, 0)) from by rw [hW]; exact (alloc_other _ _ (by simp)).trans (alloc_same1 ..))
    have x0 := (heap_cell n0 0).trans rfl
    have x1 := (heap_cell n0 1).trans rfl
    have y0 := (heap_cell n1 0).trans rfl
    have y1 := (heap_cell n1 1).trans rfl
    have y2 := (heap_cell n1 2).trans rfl
    have y3 := (heap_cell n1 3).trans rfl
    have y4 := (heap_cell n1 4).trans rfl
    have y5 := (heap_cell n1 5).trans rfl
    have N2 := Lib.hid n2
    have HE := Lib.hid hE
    have hl2 := heap_lt n2
    clear hW hE n0 n1 n2
    refine region_mix [.q [0, 1, 2, 3, 4, 6, 7, 8, 9, 10, 11, 12, 13], .l 5 3, .l 14 3, .l 15 2] (by kernel_rfl) (by kernel_rfl) ?_
    (try refine ⟨fun h => absurd h (by simp), ?_⟩); (repeat (unfold wpPlan; simp only [pickL, List.map_cons, List.map_nil, List.getD_cons_succ, List.getD_cons_zero]; (repeat go_big_quiet_step (fail)); refine wpQuiet_nil ?_)); unfold wpPlan; intro w1 hb1; (try simp only [pickL, List.map_cons, List.map_nil, List.getD_cons_succ, List.getD_cons_zero])
    go_wp2_with (first | (go_at_call 91; refine (HK2.out _).mono ?_; rintro e w2 ⟨rfl, hb2⟩))
    refine ⟨?_, ?_⟩
    · (try intro _); exact hb1.trans hb2
    have HB2 := Lib.hid (hb1.trans hb2)
    clear hb1 hb2
    (try refine ⟨fun h => absurd h (by simp), ?_⟩); (repeat (unfold wpPlan; simp only [pickL, List.map_cons, List.map_nil, List.getD_cons_succ, List.getD_cons_zero]; (repeat go_big_quiet_step (fail)); refine wpQuiet_nil ?_)); unfold wpPlan; intro w3 hb3; (try simp only [pickL, List.map_cons, List.map_nil, List.getD_cons_succ, List.getD_cons_zero])
    go_wp2_with (first | (go_at_call 76; refine (HP.out _ (((HO.out.ext HE.out).ext HB2.out).ext hb3)).mono ?_; rintro e w4 ⟨v4, rfl, hv4, hb4⟩; obtain ⟨a4, c4, rfl, -, -⟩ := hv4.1.form))
    refine ⟨?_, ?_⟩
    · (try intro _); exact hb3.trans hb4
    have HB4 := Lib.hid (HB2.out.trans (hb3.trans hb4))
    have HV4 := Lib.hid hv4
    clear hb3 hb4 hv4
    (try refine ⟨fun h => absurd h (by simp), ?_⟩); (repeat (unfold wpPlan; simp only [pickL, List.map_cons, List.map_nil, List.getD_cons_succ, List.getD_cons_zero]; (repeat go_big_quiet_step (fail)); refine wpQuiet_nil ?_)); unfold wpPlan; intro w5 hb5; (try simp only [pickL, List.map_cons, List.map_nil, List.getD_cons_succ, List.getD_cons_zero])
    have m5 := ((HB4.out.trans hb5).block _ hl2).trans N2.out
    have y0 := (heap_cell m5 0).trans rfl
    have y1 := (heap_cell m5 1).trans rfl
    have z0 := frozen_of m5
    have M5 := Lib.hid m5
    have HB5 := Lib.hid (HB4.out.trans hb5)
    have HV5 := Lib.hid (HV4.out.ext hb5)
    clear hb5 m5
    go_wp2
    (try refine ⟨fun h => absurd h (by simp), ?_⟩); (repeat (unfold wpPlan; simp only [pickL, List.map_cons, List.map_nil, List.getD_cons_succ, List.getD_cons_zero]; (repeat go_big_quiet_step (fail)); refine wpQuiet_nil ?_)); unfold wpPlan; intro w6 hb6; (try simp only [pickL, List.map_cons, List.map_nil, List.getD_cons_succ, List.getD_cons_zero])
    have m6 := (hb6.block (w.heap.size + 1 + 1) (by simp; have := HB5.out.size; omega)).trans (store2_heap M5.out)
    have E6 : Ext w w6 := (HE.out.trans HB5.out).setCell (by simp; omega) _ |>.setCell (by simp; omega) _ |>.trans hb6
    have v6 := ((HV5.out.store2 M5.out).ext hb6)
    have u0 := (heap_cell m6 0).trans rfl
    have u1 := (heap_cell m6 1).trans rfl
    have V6 := Lib.hid v6
    clear m6 hb6 y0 y1 z0 x0 x1 y2 y3 y4 y5 v6
    go_wp2
    refine bodyPost_ret (by simp [results, Try.results86, go_sem, ↓IntWalk.iteOmega, *]; try rfl) rfl ⟨_, rfl, V6.out, E6⟩
end Go.Proofs.Ytnacgmmkmedpdaa
