/- The cache laws' deed, on both sides. -/
import Derived.Test.YtnacgmmkmedpdaaLawCA
namespace Go.Proofs.Ytnacgmmkmedpdaa
set_option linter.unusedVariables false
set_option linter.unusedSimpArgs false
open Go.RowKit
attribute [local go_sem] wext_cell wext_frozen wext_heap alloc_cell alloc_frozen alloc_heap setCell_cell objCell_cells objFrozen_cells
attribute [local go_sem high] refLine_eql

/-- What stands behind a deed's last store. -/
theorem fin_do {w w6 w8 : World} {cb bx : Nat} {F F3 : List Nat} {L' L2' : List (Key × Line)} {r : Nat} {r2 : Int} {v' c0 c1 : Value} (hK : Keeps F w w6) (hF : ∀ x ∈ F3, x ∈ F ∨ w.heap.size ≤ x)
    (hC : CAt w6 cb F3 L' r) (hv : RefAt w6 v' L2') (hb : w6.heap[bx]? = some (.cells #[c0, c1] 28 (0, 0))) (hbx : w.heap.size ≤ bx)
    (h8 : Ext ((w6.setCell ⟨bx, 0, none⟩ v').setCell ⟨bx, 1, none⟩ (.int .i64 r2)) w8) :
    w8.heap[bx]? = some (.cells #[v', .int .i64 r2] 28 (0, 0)) ∧ RefAt w8 v' L2' ∧ CAt w8 cb F3 L' r ∧ Keeps F w w8 ∧ ∀ x ∈ F3, x ∈ F ∨ w.heap.size ≤ x := by
  have hl := heap_lt hb
  have hap := hC.apart hb (by decide) (by decide)
  refine ⟨(h8.block _ (by simpa using hl)).trans (store2_heap hb), (hv.store2 hb).ext h8, ?_, ?_, hF⟩
  · refine (hC.keeps (G := [bx]) (((Keeps.refl _ _).setCell (.inl (by simp)) _).setCell (.inl (by simp)) _) fun x hx => ?_).ext h8
    simp only [List.mem_singleton]
    rintro rfl
    exact hap hx
  · exact (((hK.setCell (.inr hbx) _).setCell (.inr hbx) _)).ext h8

set_option maxHeartbeats 2000000 in
theorem do1_c (cb : Nat) (F : List Nat) (L : List (Key × Line)) (r : Nat) (L2 : List (Key × Line)) (r2 : Nat) (v : Value) (d : Deed) (w : World) (hc : CAt w cb F L r) (ho : RefAt w v L2) (hd : d.ok) (h2 : L2.length ≤ r2) (h64 : r2 ≤ 64)
    (hk : d.kind = 1) : Calls Try.prog 24 #[.pointer (some ⟨cb, 0, none⟩), .agg #[v, .int .i64 r2], d.val] w (EndDo cb F w d L r L2 r2) := by
  have HC := Lib.hid hc
  have HO := Lib.hid ho
  have hFlt := Lib.hid hc.lt
  obtain ⟨a, cap, rfl, hn, hm⟩ := ho.1.form
  unfold maxLen at hm
  have hst : stepL d r L = putC d.k d.x d.pick r L := by unfold stepL; simp [hk]
  have hst2 : stepL d r2 L2 = putC d.k d.x d.pick r2 L2 := by unfold stepL; simp [hk]
  have hsm : sameL d L L2 = true := by unfold sameL; simp [hk]
  have HE0 : EndDo cb F w d L r L2 r2 = EndDo cb F w d L r L2 r2 := rfl
  obtain ⟨hp0, hp1⟩ := hd
  clear hc ho
  generalize hEnd : EndDo cb F w d L r L2 r2 = E
  unfold EndDo at hEnd
  rw [hst, hst2, hsm] at hEnd
  have HEND := Aside.mk hEnd
  clear hEnd HE0 hst hst2 hsm
  obtain ⟨kind, pick, ⟨p, l, t⟩, ⟨xf, xa, xb, xc, xd, xm⟩⟩ := d
  dsimp only at hk hp0 hp1 HEND
  unfold Deed.val
  dsimp only
  subst hk
  go_enter Try.func24, Try.ntmps24
  go_upto_region 3 with (fail)
  refine wp_gen ?_; intro W hW
  have hE : Ext w W := by rw [hW]; exact (by repeat (first | exact Ext.refl _ | assumption | refine Ext.alloc ?_ _ | refine Ext.drew ?_ | refine Ext.setCell ?_ (by first | (simp; done) | (dsimp only; omega)) _ | refine Ext.trans ?_ (by assumption)))
  have n0 : W.heap[w.heap.size]? = some (.cells #[.slice a L2.length cap, .int .i64 r2] 28 (0, 0)) := by rw [hW]; exact (alloc_other _ _ (by simp; omega)).trans ((alloc_other _ _ (by simp)).trans (alloc_same ..))
  have n1 : W.heap[w.heap.size + 1]? = some (.cells #[.int .i64 1, .int .i64 pick, .int .i64 p, .int .i64 l, .int .u64 t, .int .u64 xf, .bool xa, .bool xb, .bool xc, .bool xd, .int .u8 xm] 40 (0, 0)) := by rw [hW]; exact (alloc_other _ _ (by simp)).trans (alloc_same1 ..)
  have n2 : W.heap[w.heap.size + 1 + 1]? = some (.cells #[.slice none 0 0, .int .i64 0] 28 (0, 0)) := by rw [hW]; exact alloc_same2 ..
  have N0 := Lib.hid n0
  have N1 := Lib.hid n1
  have N2 := Lib.hid n2
  have HE := Lib.hid hE
  have HCW := Lib.hid (HC.out.ext hE)
  have HOW := Lib.hid (HO.out.ext hE)
  have hsz : w.heap.size + 1 + 1 < W.heap.size := heap_lt n2
  have x1 := (heap_cell n1 1).trans rfl
  have x2 := (heap_cell n1 2).trans rfl
  have x3 := (heap_cell n1 3).trans rfl
  have x4 := (heap_cell n1 4).trans rfl
  have x5 := (heap_cell n1 5).trans rfl
  have x6 := (heap_cell n1 6).trans rfl
  have x7 := (heap_cell n1 7).trans rfl
  have x8 := (heap_cell n1 8).trans rfl
  have x9 := (heap_cell n1 9).trans rfl
  have x10 := (heap_cell n1 10).trans rfl
  clear hW hE n0 n1 n2
  go_upto_region 4 with (first | (go_at_call 36; refine (put_c cb F L r ⟨p, l, t⟩ ⟨xf, xa, xb, xc, xd, xm⟩ pick _ (HCW.out.ext (by repeat (first | exact Ext.refl _ | assumption | refine Ext.alloc ?_ _ | refine Ext.drew ?_ | refine Ext.setCell ?_ (by first | (simp; done) | (dsimp only; omega)) _ | refine Ext.trans ?_ (by assumption)))) hp0 hp1).mono ?_; rintro e w3 ⟨rfl, F3, hC3, hK3, hF3⟩))
  have HK3 : Hid (Keeps F w w3) := Lib.hid ((Keeps.of_ext HE.out).trans hK3 fun x hx => .inl hx)
  have HC3 := Lib.hid hC3
  have HF3 : Hid (∀ x ∈ F3, x ∈ F ∨ w.heap.size ≤ x) := Lib.hid fun x hx => (hF3 x hx).imp id fun h => by have := HE.out.size; omega
  have hz3 := hK3.size
  have m0 := (hK3.block _ (by omega) (fun h => by have := hFlt.out _ h; omega)).trans N0.out
  have m1 := (hK3.block _ (by omega) (fun h => by have := hFlt.out _ h; omega)).trans N1.out
  have m2 := (hK3.block _ hsz (fun h => by have := hFlt.out _ h; omega)).trans N2.out
  have HO3 := Lib.hid (HOW.out.keeps HCW.out hK3)
  have M0 := Lib.hid m0
  have M1 := Lib.hid m1
  have M2 := Lib.hid m2
  have y0 := (heap_cell m0 0).trans rfl
  have y1 := (heap_cell m0 1).trans rfl
  have x1 := (heap_cell m1 1).trans rfl
  have x2 := (heap_cell m1 2).trans rfl
  have x3 := (heap_cell m1 3).trans rfl
  have x4 := (heap_cell m1 4).trans rfl
  have x5 := (heap_cell m1 5).trans rfl
  have x6 := (heap_cell m1 6).trans rfl
  have x7 := (heap_cell m1 7).trans rfl
  have x8 := (heap_cell m1 8).trans rfl
  have x9 := (heap_cell m1 9).trans rfl
  have x10 := (heap_cell m1 10).trans rfl
  clear hK3 hC3 hF3 m0 m1 m2
  refine region_mix [.q [0, 1, 2, 4, 5, 7, 8], .l 3 3, .l 6 3, .l 9 3, .l 10 2, .q [11]] (by kernel_rfl) (by kernel_rfl) ?_
  (try refine ⟨fun h => absurd h (by simp), ?_⟩); (repeat (unfold wpPlan; simp only [pickL, List.map_cons, List.map_nil, List.getD_cons_succ, List.getD_cons_zero]; (repeat go_big_quiet_step (fail)); refine wpQuiet_nil ?_)); unfold wpPlan; intro w4 hb4; (try simp only [pickL, List.map_cons, List.map_nil, List.getD_cons_succ, List.getD_cons_zero])
  go_wp2_with (first | (go_at_call 33; refine (real_c ⟨p, l, t⟩ _).mono ?_; rintro e w4b ⟨rfl, hb4b⟩))
  refine ⟨?_, ?_⟩
  · (try intro _); exact hb4.trans hb4b
  have HB4 := Lib.hid (hb4.trans hb4b)
  clear hb4 hb4b
  unfold Key.val
  (try refine ⟨fun h => absurd h (by simp), ?_⟩); (repeat (unfold wpPlan; simp only [pickL, List.map_cons, List.map_nil, List.getD_cons_succ, List.getD_cons_zero]; (repeat go_big_quiet_step (fail)); refine wpQuiet_nil ?_)); unfold wpPlan; intro w5 hb5; (try simp only [pickL, List.map_cons, List.map_nil, List.getD_cons_succ, List.getD_cons_zero])
  go_wp2_with (first | (go_at_call 34; refine (lined_c ⟨xf, xa, xb, xc, xd, xm⟩ _).mono ?_; rintro e w5b ⟨rfl, hb5b⟩))
  refine ⟨?_, ?_⟩
  · (try intro _); exact hb5.trans hb5b
  have HB5 := Lib.hid (HB4.out.trans (hb5.trans hb5b))
  clear hb5 hb5b
  unfold Line.val
  (try refine ⟨fun h => absurd h (by simp), ?_⟩); (repeat (unfold wpPlan; simp only [pickL, List.map_cons, List.map_nil, List.getD_cons_succ, List.getD_cons_zero]; (repeat go_big_quiet_step (fail)); refine wpQuiet_nil ?_)); unfold wpPlan; intro w5 hb5; (try simp only [pickL, List.map_cons, List.map_nil, List.getD_cons_succ, List.getD_cons_zero])
  go_wp2_with (first | (go_at_call 76; refine (refPut_c L2 ⟨p, l, t⟩ ⟨xf, xa, xb, xc, xd, xm⟩ pick _ r2 _ ((HO3.out.ext HB5.out).ext hb5) h2 h64 hp0 hp1).mono ?_; rintro e w5b ⟨v5, rfl, hv5, hb5b⟩; obtain ⟨a5, c5, rfl, -, -⟩ := hv5.1.form))
  refine ⟨?_, ?_⟩
  · (try intro _); exact hb5.trans hb5b
  have HB7 := Lib.hid (HB5.out.trans (hb5.trans hb5b))
  have HV := Lib.hid hv5
  clear hb5 hb5b hv5
  (try refine ⟨fun h => absurd h (by simp), ?_⟩); (repeat (unfold wpPlan; simp only [pickL, List.map_cons, List.map_nil, List.getD_cons_succ, List.getD_cons_zero]; (repeat go_big_quiet_step (fail)); refine wpQuiet_nil ?_)); unfold wpPlan; intro w6 hb6; (try simp only [pickL, List.map_cons, List.map_nil, List.getD_cons_succ, List.getD_cons_zero])
  have E6 := HB7.out.trans hb6
  have b2 := (E6.block _ (by omega)).trans M2.out
  have y0 := (heap_cell b2 0).trans rfl
  have y1 := (heap_cell b2 1).trans rfl
  have z0 := frozen_of b2
  have B2 := Lib.hid b2
  have HB6 := Lib.hid E6
  have HV6 := Lib.hid (HV.out.ext hb6)
  clear hb6 b2 E6
  go_wp2
  (try refine ⟨fun h => absurd h (by simp), ?_⟩); (repeat (unfold wpPlan; simp only [pickL, List.map_cons, List.map_nil, List.getD_cons_succ, List.getD_cons_zero]; (repeat go_big_quiet_step (fail)); refine wpQuiet_nil ?_)); unfold wpPlan; intro w8 hb8; (try simp only [pickL, List.map_cons, List.map_nil, List.getD_cons_succ, List.getD_cons_zero])
  obtain ⟨q1, q2, q3, q4, q5⟩ := fin_do (HK3.out.ext HB6.out) HF3.out (HC3.out.ext HB6.out) HV6.out B2.out (by omega) hb8
  have v0 := (heap_cell q1 0).trans rfl
  have v1 := (heap_cell q1 1).trans rfl
  have Q2 := Lib.hid q2
  have Q3 := Lib.hid q3
  have Q4 := Lib.hid q4
  have Q5 := Lib.hid q5
  clear q1 q2 q3 q4 q5 hb8 y0 y1 z0
  go_wp2
  rw [← HEND.out]
  refine bodyPost_ret (by simp [results, Try.results24, go_sem, ↓IntWalk.iteOmega, *]; try rfl) rfl ⟨_, rfl, Q2.out, F3, Q3.out, Q4.out, Q5.out⟩

set_option maxHeartbeats 2000000 in
theorem do2_c (cb : Nat) (F : List Nat) (L : List (Key × Line)) (r : Nat) (L2 : List (Key × Line)) (r2 : Nat) (v : Value) (d : Deed) (w : World) (hc : CAt w cb F L r) (ho : RefAt w v L2) (hd : d.ok) (h2 : L2.length ≤ r2) (h64 : r2 ≤ 64)
    (hk : d.kind = 2) : Calls Try.prog 24 #[.pointer (some ⟨cb, 0, none⟩), .agg #[v, .int .i64 r2], d.val] w (EndDo cb F w d L r L2 r2) := by
  have HC := Lib.hid hc
  have HO := Lib.hid ho
  have hFlt := Lib.hid hc.lt
  obtain ⟨a, cap, rfl, hn, hm⟩ := ho.1.form
  unfold maxLen at hm
  have hst : stepL d r L = delL d.k L := by unfold stepL; simp [hk]
  have hst2 : stepL d r2 L2 = delL d.k L2 := by unfold stepL; simp [hk]
  have hsm : sameL d L L2 = true := by unfold sameL; simp [hk]
  have HE0 : EndDo cb F w d L r L2 r2 = EndDo cb F w d L r L2 r2 := rfl
  obtain ⟨hp0, hp1⟩ := hd
  clear hc ho
  generalize hEnd : EndDo cb F w d L r L2 r2 = E
  unfold EndDo at hEnd
  rw [hst, hst2, hsm] at hEnd
  have HEND := Aside.mk hEnd
  clear hEnd HE0 hst hst2 hsm
  obtain ⟨kind, pick, ⟨p, l, t⟩, ⟨xf, xa, xb, xc, xd, xm⟩⟩ := d
  dsimp only at hk hp0 hp1 HEND
  unfold Deed.val
  dsimp only
  subst hk
  go_enter Try.func24, Try.ntmps24
  go_upto_region 6 with (fail)
  refine wp_gen ?_; intro W hW
  have hE : Ext w W := by rw [hW]; exact (by repeat (first | exact Ext.refl _ | assumption | refine Ext.alloc ?_ _ | refine Ext.drew ?_ | refine Ext.setCell ?_ (by first | (simp; done) | (dsimp only; omega)) _ | refine Ext.trans ?_ (by assumption)))
  have n0 : W.heap[w.heap.size]? = some (.cells #[.slice a L2.length cap, .int .i64 r2] 28 (0, 0)) := by rw [hW]; exact (alloc_other _ _ (by simp; omega)).trans ((alloc_other _ _ (by simp)).trans (alloc_same ..))
  have n1 : W.heap[w.heap.size + 1]? = some (.cells #[.int .i64 2, .int .i64 pick, .int .i64 p, .int .i64 l, .int .u64 t, .int .u64 xf, .bool xa, .bool xb, .bool xc, .bool xd, .int .u8 xm] 40 (0, 0)) := by rw [hW]; exact (alloc_other _ _ (by simp)).trans (alloc_same1 ..)
  have n2 : W.heap[w.heap.size + 1 + 1]? = some (.cells #[.slice none 0 0, .int .i64 0] 28 (0, 0)) := by rw [hW]; exact alloc_same2 ..
  have N0 := Lib.hid n0
  have N1 := Lib.hid n1
  have N2 := Lib.hid n2
  have HE := Lib.hid hE
  have HCW := Lib.hid (HC.out.ext hE)
  have HOW := Lib.hid (HO.out.ext hE)
  have hsz : w.heap.size + 1 + 1 < W.heap.size := heap_lt n2
  have x1 := (heap_cell n1 1).trans rfl
  have x2 := (heap_cell n1 2).trans rfl
  have x3 := (heap_cell n1 3).trans rfl
  have x4 := (heap_cell n1 4).trans rfl
  have x5 := (heap_cell n1 5).trans rfl
  have x6 := (heap_cell n1 6).trans rfl
  have x7 := (heap_cell n1 7).trans rfl
  have x8 := (heap_cell n1 8).trans rfl
  have x9 := (heap_cell n1 9).trans rfl
  have x10 := (heap_cell n1 10).trans rfl
  clear hW hE n0 n1 n2
  go_upto_region 7 with (first | (go_at_call 27; refine (drop_c cb F L r ⟨p, l, t⟩ _ (HCW.out.ext (by repeat (first | exact Ext.refl _ | assumption | refine Ext.alloc ?_ _ | refine Ext.drew ?_ | refine Ext.setCell ?_ (by first | (simp; done) | (dsimp only; omega)) _ | refine Ext.trans ?_ (by assumption))))).mono ?_; rintro e w3 ⟨rfl, F3, hC3, hK3, hF3⟩))
  have HK3 : Hid (Keeps F w w3) := Lib.hid ((Keeps.of_ext HE.out).trans hK3 fun x hx => .inl hx)
  have HC3 := Lib.hid hC3
  have HF3 : Hid (∀ x ∈ F3, x ∈ F ∨ w.heap.size ≤ x) := Lib.hid fun x hx => (hF3 x hx).imp id fun h => by have := HE.out.size; omega
  have hz3 := hK3.size
  have m0 := (hK3.block _ (by omega) (fun h => by have := hFlt.out _ h; omega)).trans N0.out
  have m1 := (hK3.block _ (by omega) (fun h => by have := hFlt.out _ h; omega)).trans N1.out
  have m2 := (hK3.block _ hsz (fun h => by have := hFlt.out _ h; omega)).trans N2.out
  have HO3 := Lib.hid (HOW.out.keeps HCW.out hK3)
  have M0 := Lib.hid m0
  have M1 := Lib.hid m1
  have M2 := Lib.hid m2
  have y0 := (heap_cell m0 0).trans rfl
  have y1 := (heap_cell m0 1).trans rfl
  have x2 := (heap_cell m1 2).trans rfl
  have x3 := (heap_cell m1 3).trans rfl
  have x4 := (heap_cell m1 4).trans rfl
  clear hK3 hC3 hF3 m0 m1 m2 x1 x5 x6 x7 x8 x9 x10
  refine region_mix [.q [0, 1, 2], .l 3 3, .l 4 3, .l 5 2, .q [6]] (by kernel_rfl) (by kernel_rfl) ?_
  (try refine ⟨fun h => absurd h (by simp), ?_⟩); (repeat (unfold wpPlan; simp only [pickL, List.map_cons, List.map_nil, List.getD_cons_succ, List.getD_cons_zero]; (repeat go_big_quiet_step (fail)); refine wpQuiet_nil ?_)); unfold wpPlan; intro w4 hb4; (try simp only [pickL, List.map_cons, List.map_nil, List.getD_cons_succ, List.getD_cons_zero])
  go_wp2_with (first | (go_at_call 33; refine (real_c ⟨p, l, t⟩ _).mono ?_; rintro e w4b ⟨rfl, hb4b⟩))
  refine ⟨?_, ?_⟩
  · (try intro _); exact hb4.trans hb4b
  have HB4 := Lib.hid (hb4.trans hb4b)
  clear hb4 hb4b
  unfold Key.val
  (try refine ⟨fun h => absurd h (by simp), ?_⟩); (repeat (unfold wpPlan; simp only [pickL, List.map_cons, List.map_nil, List.getD_cons_succ, List.getD_cons_zero]; (repeat go_big_quiet_step (fail)); refine wpQuiet_nil ?_)); unfold wpPlan; intro w5 hb5; (try simp only [pickL, List.map_cons, List.map_nil, List.getD_cons_succ, List.getD_cons_zero])
  go_wp2_with (first | (go_at_call 77; refine (refDrop_c L2 ⟨p, l, t⟩ _ r2 _ ((HO3.out.ext HB4.out).ext hb5)).mono ?_; rintro e w5b ⟨v5, rfl, hv5, hb5b⟩; obtain ⟨a5, c5, rfl, -, -⟩ := hv5.1.form))
  refine ⟨?_, ?_⟩
  · (try intro _); exact hb5.trans hb5b
  have HB7 := Lib.hid (HB4.out.trans (hb5.trans hb5b))
  have HV := Lib.hid hv5
  clear hb5 hb5b hv5
  (try refine ⟨fun h => absurd h (by simp), ?_⟩); (repeat (unfold wpPlan; simp only [pickL, List.map_cons, List.map_nil, List.getD_cons_succ, List.getD_cons_zero]; (repeat go_big_quiet_step (fail)); refine wpQuiet_nil ?_)); unfold wpPlan; intro w6 hb6; (try simp only [pickL, List.map_cons, List.map_nil, List.getD_cons_succ, List.getD_cons_zero])
  have E6 := HB7.out.trans hb6
  have b2 := (E6.block _ (by omega)).trans M2.out
  have y0 := (heap_cell b2 0).trans rfl
  have y1 := (heap_cell b2 1).trans rfl
  have z0 := frozen_of b2
  have B2 := Lib.hid b2
  have HB6 := Lib.hid E6
  have HV6 := Lib.hid (HV.out.ext hb6)
  clear hb6 b2 E6
  go_wp2
  (try refine ⟨fun h => absurd h (by simp), ?_⟩); (repeat (unfold wpPlan; simp only [pickL, List.map_cons, List.map_nil, List.getD_cons_succ, List.getD_cons_zero]; (repeat go_big_quiet_step (fail)); refine wpQuiet_nil ?_)); unfold wpPlan; intro w8 hb8; (try simp only [pickL, List.map_cons, List.map_nil, List.getD_cons_succ, List.getD_cons_zero])
  obtain ⟨q1, q2, q3, q4, q5⟩ := fin_do (HK3.out.ext HB6.out) HF3.out (HC3.out.ext HB6.out) HV6.out B2.out (by omega) hb8
  have v0 := (heap_cell q1 0).trans rfl
  have v1 := (heap_cell q1 1).trans rfl
  have Q2 := Lib.hid q2
  have Q3 := Lib.hid q3
  have Q4 := Lib.hid q4
  have Q5 := Lib.hid q5
  clear q1 q2 q3 q4 q5 hb8 y0 y1 z0
  go_wp2
  rw [← HEND.out]
  refine bodyPost_ret (by simp [results, Try.results24, go_sem, ↓IntWalk.iteOmega, *]; try rfl) rfl ⟨_, rfl, Q2.out, F3, Q3.out, Q4.out, Q5.out⟩

set_option maxHeartbeats 2000000 in
theorem do3_c (cb : Nat) (F : List Nat) (L : List (Key × Line)) (r : Nat) (L2 : List (Key × Line)) (r2 : Nat) (v : Value) (d : Deed) (w : World) (hc : CAt w cb F L r) (ho : RefAt w v L2) (hd : d.ok) (h2 : L2.length ≤ r2) (h64 : r2 ≤ 64)
    (hk : d.kind = 3) : Calls Try.prog 24 #[.pointer (some ⟨cb, 0, none⟩), .agg #[v, .int .i64 r2], d.val] w (EndDo cb F w d L r L2 r2) := by
  have HC := Lib.hid hc
  have HO := Lib.hid ho
  have hFlt := Lib.hid hc.lt
  obtain ⟨a, cap, rfl, hn, hm⟩ := ho.1.form
  unfold maxLen at hm
  have hst : stepL d r L = dropN d.k.p (keysOf L) L := by unfold stepL; simp [hk, dropN_filtL hc.nodup]
  have hst2 : stepL d r2 L2 = filtL d.k.p L2 := by unfold stepL; simp [hk]
  have hsm : sameL d L L2 = true := by unfold sameL; simp [hk]
  have HE0 : EndDo cb F w d L r L2 r2 = EndDo cb F w d L r L2 r2 := rfl
  obtain ⟨hp0, hp1⟩ := hd
  clear hc ho
  generalize hEnd : EndDo cb F w d L r L2 r2 = E
  unfold EndDo at hEnd
  rw [hst, hst2, hsm] at hEnd
  have HEND := Aside.mk hEnd
  clear hEnd HE0 hst hst2 hsm
  obtain ⟨kind, pick, ⟨p, l, t⟩, ⟨xf, xa, xb, xc, xd, xm⟩⟩ := d
  dsimp only at hk hp0 hp1 HEND
  unfold Deed.val
  dsimp only
  subst hk
  go_enter Try.func24, Try.ntmps24
  go_upto_region 9 with (fail)
  refine wp_gen ?_; intro W hW
  have hE : Ext w W := by rw [hW]; exact (by repeat (first | exact Ext.refl _ | assumption | refine Ext.alloc ?_ _ | refine Ext.drew ?_ | refine Ext.setCell ?_ (by first | (simp; done) | (dsimp only; omega)) _ | refine Ext.trans ?_ (by assumption)))
  have n0 : W.heap[w.heap.size]? = some (.cells #[.slice a L2.length cap, .int .i64 r2] 28 (0, 0)) := by rw [hW]; exact (alloc_other _ _ (by simp; omega)).trans ((alloc_other _ _ (by simp)).trans (alloc_same ..))
  have n1 : W.heap[w.heap.size + 1]? = some (.cells #[.int .i64 3, .int .i64 pick, .int .i64 p, .int .i64 l, .int .u64 t, .int .u64 xf, .bool xa, .bool xb, .bool xc, .bool xd, .int .u8 xm] 40 (0, 0)) := by rw [hW]; exact (alloc_other _ _ (by simp)).trans (alloc_same1 ..)
  have n2 : W.heap[w.heap.size + 1 + 1]? = some (.cells #[.slice none 0 0, .int .i64 0] 28 (0, 0)) := by rw [hW]; exact alloc_same2 ..
  have N0 := Lib.hid n0
  have N1 := Lib.hid n1
  have N2 := Lib.hid n2
  have HE := Lib.hid hE
  have HCW := Lib.hid (HC.out.ext hE)
  have HOW := Lib.hid (HO.out.ext hE)
  have hsz : w.heap.size + 1 + 1 < W.heap.size := heap_lt n2
  have x1 := (heap_cell n1 1).trans rfl
  have x2 := (heap_cell n1 2).trans rfl
  have x3 := (heap_cell n1 3).trans rfl
  have x4 := (heap_cell n1 4).trans rfl
  have x5 := (heap_cell n1 5).trans rfl
  have x6 := (heap_cell n1 6).trans rfl
  have x7 := (heap_cell n1 7).trans rfl
  have x8 := (heap_cell n1 8).trans rfl
  have x9 := (heap_cell n1 9).trans rfl
  have x10 := (heap_cell n1 10).trans rfl
  clear hW hE n0 n1 n2
  go_upto_region 10 with (first | (go_at_call 28; refine (dropOf_c cb F L r p _ (HCW.out.ext (by repeat (first | exact Ext.refl _ | assumption | refine Ext.alloc ?_ _ | refine Ext.drew ?_ | refine Ext.setCell ?_ (by first | (simp; done) | (dsimp only; omega)) _ | refine Ext.trans ?_ (by assumption))))).mono ?_; rintro e w3 ⟨rfl, F3, hC3, hK3, hF3⟩))
  have HK3 : Hid (Keeps F w w3) := Lib.hid ((Keeps.of_ext HE.out).trans hK3 fun x hx => .inl hx)
  have HC3 := Lib.hid hC3
  have HF3 : Hid (∀ x ∈ F3, x ∈ F ∨ w.heap.size ≤ x) := Lib.hid fun x hx => (hF3 x hx).imp id fun h => by have := HE.out.size; omega
  have hz3 := hK3.size
  have m0 := (hK3.block _ (by omega) (fun h => by have := hFlt.out _ h; omega)).trans N0.out
  have m1 := (hK3.block _ (by omega) (fun h => by have := hFlt.out _ h; omega)).trans N1.out
  have m2 := (hK3.block _ hsz (fun h => by have := hFlt.out _ h; omega)).trans N2.out
  have HO3 := Lib.hid (HOW.out.keeps HCW.out hK3)
  have M0 := Lib.hid m0
  have M1 := Lib.hid m1
  have M2 := Lib.hid m2
  have y0 := (heap_cell m0 0).trans rfl
  have y1 := (heap_cell m0 1).trans rfl
  have x2 := (heap_cell m1 2).trans rfl
  clear hK3 hC3 hF3 m0 m1 m2 x1 x3 x4 x5 x6 x7 x8 x9 x10
  go_wp2_with (first | (go_at_call 78; refine (refDropOf_c L2 p _ r2 _ (HO3.out.ext (by repeat (first | exact Ext.refl _ | assumption | refine Ext.alloc ?_ _ | refine Ext.drew ?_ | refine Ext.setCell ?_ (by first | (simp; done) | (dsimp only; omega)) _ | refine Ext.trans ?_ (by assumption))))).mono ?_; rintro e w5 ⟨v5, rfl, hv5, hb5b⟩; have HB7 := Lib.hid hb5b; have HV := Lib.hid hv5; have hz5 := hb5b.size; have B2 := Lib.hid ((hb5b.block _ (by omega)).trans M2.out); have z0 := frozen_of B2.out; have b0 := (heap_cell B2.out 0).trans rfl; have b1 := (heap_cell B2.out 1).trans rfl; have z1 := heap_lt B2.out; clear hb5b hv5; obtain ⟨a5, c5, rfl, -, -⟩ := HV.out.1.form))
  refine post_gen (fun w8 => w8.heap[w.heap.size + 1 + 1]? = some (.cells #[.slice a5 (filtL p L2).length c5, .int .i64 r2] 28 (0, 0)) ∧ RefAt w8 (.slice a5 (filtL p L2).length c5) (filtL p L2) ∧ CAt w8 cb F3 (dropN p (keysOf L) L) r ∧ Keeps F w w8 ∧ ∀ x ∈ F3, x ∈ F ∨ w.heap.size ≤ x)
    (fin_do (HK3.out.ext HB7.out) HF3.out (HC3.out.ext HB7.out) HV.out B2.out (by omega) (Ext.refl _)) ?_
  rintro w8 ⟨q1, q2, q3, q4, q5⟩
  have v0 := (heap_cell q1 0).trans rfl
  have v1 := (heap_cell q1 1).trans rfl
  have Q2 := Lib.hid q2
  have Q3 := Lib.hid q3
  have Q4 := Lib.hid q4
  have Q5 := Lib.hid q5
  clear q1 q2 q3 q4 q5 y0 y1 z0 z1 b0 b1
  rw [← HEND.out]
  refine bodyPost_ret (by simp [results, Try.results24, go_sem, ↓IntWalk.iteOmega, *]; try rfl) rfl ⟨_, rfl, Q2.out, F3, Q3.out, Q4.out, Q5.out⟩

set_option maxHeartbeats 2000000 in
theorem do5_c (cb : Nat) (F : List Nat) (L : List (Key × Line)) (r : Nat) (L2 : List (Key × Line)) (r2 : Nat) (v : Value) (d : Deed) (w : World) (hc : CAt w cb F L r) (ho : RefAt w v L2) (hd : d.ok) (h2 : L2.length ≤ r2) (h64 : r2 ≤ 64)
    (hk : d.kind = 5) : Calls Try.prog 24 #[.pointer (some ⟨cb, 0, none⟩), .agg #[v, .int .i64 r2], d.val] w (EndDo cb F w d L r L2 r2) := by
  have HC := Lib.hid hc
  have HO := Lib.hid ho
  have hFlt := Lib.hid hc.lt
  obtain ⟨a, cap, rfl, hn, hm⟩ := ho.1.form
  unfold maxLen at hm
  have hst : stepL d r L = evictL d.pick L := by unfold stepL; simp [hk]
  have hst2 : stepL d r2 L2 = evictL d.pick L2 := by unfold stepL; simp [hk]
  have hsm : sameL d L L2 = true := by unfold sameL; simp [hk]
  have HE0 : EndDo cb F w d L r L2 r2 = EndDo cb F w d L r L2 r2 := rfl
  obtain ⟨hp0, hp1⟩ := hd
  clear hc ho
  generalize hEnd : EndDo cb F w d L r L2 r2 = E
  unfold EndDo at hEnd
  rw [hst, hst2, hsm] at hEnd
  have HEND := Aside.mk hEnd
  clear hEnd HE0 hst hst2 hsm
  obtain ⟨kind, pick, ⟨p, l, t⟩, ⟨xf, xa, xb, xc, xd, xm⟩⟩ := d
  dsimp only at hk hp0 hp1 HEND
  unfold Deed.val
  dsimp only
  subst hk
  go_enter Try.func24, Try.ntmps24
  go_upto_region 16 with (fail)
  refine wp_gen ?_; intro W hW
  have hE : Ext w W := by rw [hW]; exact (by repeat (first | exact Ext.refl _ | assumption | refine Ext.alloc ?_ _ | refine Ext.drew ?_ | refine Ext.setCell ?_ (by first | (simp; done) | (dsimp only; omega)) _ | refine Ext.trans ?_ (by assumption)))
  have n0 : W.heap[w.heap.size]? = some (.cells #[.slice a L2.length cap, .int .i64 r2] 28 (0, 0)) := by rw [hW]; exact (alloc_other _ _ (by simp; omega)).trans ((alloc_other _ _ (by simp)).trans (alloc_same ..))
  have n1 : W.heap[w.heap.size + 1]? = some (.cells #[.int .i64 5, .int .i64 pick, .int .i64 p, .int .i64 l, .int .u64 t, .int .u64 xf, .bool xa, .bool xb, .bool xc, .bool xd, .int .u8 xm] 40 (0, 0)) := by rw [hW]; exact (alloc_other _ _ (by simp)).trans (alloc_same1 ..)
  have n2 : W.heap[w.heap.size + 1 + 1]? = some (.cells #[.slice none 0 0, .int .i64 0] 28 (0, 0)) := by rw [hW]; exact alloc_same2 ..
  have N0 := Lib.hid n0
  have N1 := Lib.hid n1
  have N2 := Lib.hid n2
  have HE := Lib.hid hE
  have HCW := Lib.hid (HC.out.ext hE)
  have HOW := Lib.hid (HO.out.ext hE)
  have hsz : w.heap.size + 1 + 1 < W.heap.size := heap_lt n2
  have x1 := (heap_cell n1 1).trans rfl
  have x2 := (heap_cell n1 2).trans rfl
  have x3 := (heap_cell n1 3).trans rfl
  have x4 := (heap_cell n1 4).trans rfl
  have x5 := (heap_cell n1 5).trans rfl
  have x6 := (heap_cell n1 6).trans rfl
  have x7 := (heap_cell n1 7).trans rfl
  have x8 := (heap_cell n1 8).trans rfl
  have x9 := (heap_cell n1 9).trans rfl
  have x10 := (heap_cell n1 10).trans rfl
  clear hW hE n0 n1 n2
  go_upto_region 17 with (first | (go_at_call 30; refine (evict_c cb F L r pick _ (HCW.out.ext (by repeat (first | exact Ext.refl _ | assumption | refine Ext.alloc ?_ _ | refine Ext.drew ?_ | refine Ext.setCell ?_ (by first | (simp; done) | (dsimp only; omega)) _ | refine Ext.trans ?_ (by assumption)))) hp0 hp1).mono ?_; rintro e w3 ⟨rfl, F3, hC3, hK3, hF3⟩))
  have HK3 : Hid (Keeps F w w3) := Lib.hid ((Keeps.of_ext HE.out).trans hK3 fun x hx => .inl hx)
  have HC3 := Lib.hid hC3
  have HF3 : Hid (∀ x ∈ F3, x ∈ F ∨ w.heap.size ≤ x) := Lib.hid fun x hx => (hF3 x hx).imp id fun h => by have := HE.out.size; omega
  have hz3 := hK3.size
  have m0 := (hK3.block _ (by omega) (fun h => by have := hFlt.out _ h; omega)).trans N0.out
  have m1 := (hK3.block _ (by omega) (fun h => by have := hFlt.out _ h; omega)).trans N1.out
  have m2 := (hK3.block _ hsz (fun h => by have := hFlt.out _ h; omega)).trans N2.out
  have HO3 := Lib.hid (HOW.out.keeps HCW.out hK3)
  have M0 := Lib.hid m0
  have M1 := Lib.hid m1
  have M2 := Lib.hid m2
  have y0 := (heap_cell m0 0).trans rfl
  have y1 := (heap_cell m0 1).trans rfl
  have x1 := (heap_cell m1 1).trans rfl
  clear hK3 hC3 hF3 m0 m1 m2 x2 x3 x4 x5 x6 x7 x8 x9 x10
  go_wp2_with (first | (go_at_call 79; refine (refEvict_c L2 pick _ r2 _ (HO3.out.ext (by repeat (first | exact Ext.refl _ | assumption | refine Ext.alloc ?_ _ | refine Ext.drew ?_ | refine Ext.setCell ?_ (by first | (simp; done) | (dsimp only; omega)) _ | refine Ext.trans ?_ (by assumption)))) hp0 hp1).mono ?_; rintro e w5 ⟨v5, rfl, hv5, hb5b⟩; have HB7 := Lib.hid hb5b; have HV := Lib.hid hv5; have hz5 := hb5b.size; have B2 := Lib.hid ((hb5b.block _ (by omega)).trans M2.out); have z0 := frozen_of B2.out; have b0 := (heap_cell B2.out 0).trans rfl; have b1 := (heap_cell B2.out 1).trans rfl; have z1 := heap_lt B2.out; clear hb5b hv5; obtain ⟨a5, c5, rfl, -, -⟩ := HV.out.1.form))
  refine post_gen (fun w8 => w8.heap[w.heap.size + 1 + 1]? = some (.cells #[.slice a5 (evictL pick L2).length c5, .int .i64 r2] 28 (0, 0)) ∧ RefAt w8 (.slice a5 (evictL pick L2).length c5) (evictL pick L2) ∧ CAt w8 cb F3 (evictL pick L) r ∧ Keeps F w w8 ∧ ∀ x ∈ F3, x ∈ F ∨ w.heap.size ≤ x)
    (fin_do (HK3.out.ext HB7.out) HF3.out (HC3.out.ext HB7.out) HV.out B2.out (by omega) (Ext.refl _)) ?_
  rintro w8 ⟨q1, q2, q3, q4, q5⟩
  have v0 := (heap_cell q1 0).trans rfl
  have v1 := (heap_cell q1 1).trans rfl
  have Q2 := Lib.hid q2
  have Q3 := Lib.hid q3
  have Q4 := Lib.hid q4
  have Q5 := Lib.hid q5
  clear q1 q2 q3 q4 q5 y0 y1 z0 z1 b0 b1
  rw [← HEND.out]
  refine bodyPost_ret (by simp [results, Try.results24, go_sem, ↓IntWalk.iteOmega, *]; try rfl) rfl ⟨_, rfl, Q2.out, F3, Q3.out, Q4.out, Q5.out⟩

set_option maxHeartbeats 2000000 in
theorem do4_c (cb : Nat) (F : List Nat) (L : List (Key × Line)) (r : Nat) (L2 : List (Key × Line)) (r2 : Nat) (v : Value) (d : Deed) (w : World) (hc : CAt w cb F L r) (ho : RefAt w v L2) (hd : d.ok) (h2 : L2.length ≤ r2) (h64 : r2 ≤ 64)
    (hk : d.kind = 4) : Calls Try.prog 24 #[.pointer (some ⟨cb, 0, none⟩), .agg #[v, .int .i64 r2], d.val] w (EndDo cb F w d L r L2 r2) := by
  have HC := Lib.hid hc
  have HO := Lib.hid ho
  have hFlt := Lib.hid hc.lt
  obtain ⟨a, cap, rfl, hn, hm⟩ := ho.1.form
  unfold maxLen at hm
  have hst : stepL d r L = [] := by unfold stepL; simp [hk]
  have hst2 : stepL d r2 L2 = [] := by unfold stepL; simp [hk]
  have hsm : sameL d L L2 = true := by unfold sameL; simp [hk]
  have HE0 : EndDo cb F w d L r L2 r2 = EndDo cb F w d L r L2 r2 := rfl
  obtain ⟨hp0, hp1⟩ := hd
  clear hc ho
  generalize hEnd : EndDo cb F w d L r L2 r2 = E
  unfold EndDo at hEnd
  rw [hst, hst2, hsm] at hEnd
  have HEND := Aside.mk hEnd
  clear hEnd HE0 hst hst2 hsm
  obtain ⟨kind, pick, ⟨p, l, t⟩, ⟨xf, xa, xb, xc, xd, xm⟩⟩ := d
  dsimp only at hk hp0 hp1 HEND
  unfold Deed.val
  dsimp only
  subst hk
  go_enter Try.func24, Try.ntmps24
  go_upto_region 12 with (fail)
  refine wp_gen ?_; intro W hW
  have hE : Ext w W := by rw [hW]; exact (by repeat (first | exact Ext.refl _ | assumption | refine Ext.alloc ?_ _ | refine Ext.drew ?_ | refine Ext.setCell ?_ (by first | (simp; done) | (dsimp only; omega)) _ | refine Ext.trans ?_ (by assumption)))
  have n0 : W.heap[w.heap.size]? = some (.cells #[.slice a L2.length cap, .int .i64 r2] 28 (0, 0)) := by rw [hW]; exact (alloc_other _ _ (by simp; omega)).trans ((alloc_other _ _ (by simp)).trans (alloc_same ..))
  have n1 : W.heap[w.heap.size + 1]? = some (.cells #[.int .i64 4, .int .i64 pick, .int .i64 p, .int .i64 l, .int .u64 t, .int .u64 xf, .bool xa, .bool xb, .bool xc, .bool xd, .int .u8 xm] 40 (0, 0)) := by rw [hW]; exact (alloc_other _ _ (by simp)).trans (alloc_same1 ..)
  have n2 : W.heap[w.heap.size + 1 + 1]? = some (.cells #[.slice none 0 0, .int .i64 0] 28 (0, 0)) := by rw [hW]; exact alloc_same2 ..
  have N0 := Lib.hid n0
  have N1 := Lib.hid n1
  have N2 := Lib.hid n2
  have HE := Lib.hid hE
  have HCW := Lib.hid (HC.out.ext hE)
  have HOW := Lib.hid (HO.out.ext hE)
  have hsz : w.heap.size + 1 + 1 < W.heap.size := heap_lt n2
  have x1 := (heap_cell n1 1).trans rfl
  have x2 := (heap_cell n1 2).trans rfl
  have x3 := (heap_cell n1 3).trans rfl
  have x4 := (heap_cell n1 4).trans rfl
  have x5 := (heap_cell n1 5).trans rfl
  have x6 := (heap_cell n1 6).trans rfl
  have x7 := (heap_cell n1 7).trans rfl
  have x8 := (heap_cell n1 8).trans rfl
  have x9 := (heap_cell n1 9).trans rfl
  have x10 := (heap_cell n1 10).trans rfl
  clear hW hE n0 n1 n2
  go_upto_region 13 with (first | (go_at_call 32; refine (clear_c cb F L r _ (HCW.out.ext (by repeat (first | exact Ext.refl _ | assumption | refine Ext.alloc ?_ _ | refine Ext.drew ?_ | refine Ext.setCell ?_ (by first | (simp; done) | (dsimp only; omega)) _ | refine Ext.trans ?_ (by assumption))))).mono ?_; rintro e w3 ⟨rfl, F3, hC3, hK3, hF3⟩))
  have HK3 : Hid (Keeps F w w3) := Lib.hid ((Keeps.of_ext HE.out).trans hK3 fun x hx => .inl hx)
  have HC3 := Lib.hid hC3
  have HF3 : Hid (∀ x ∈ F3, x ∈ F ∨ w.heap.size ≤ x) := Lib.hid fun x hx => (hF3 x hx).imp id fun h => by have := HE.out.size; omega
  have hz3 := hK3.size
  have m0 := (hK3.block _ (by omega) (fun h => by have := hFlt.out _ h; omega)).trans N0.out
  have m1 := (hK3.block _ (by omega) (fun h => by have := hFlt.out _ h; omega)).trans N1.out
  have m2 := (hK3.block _ hsz (fun h => by have := hFlt.out _ h; omega)).trans N2.out
  have HO3 := Lib.hid (HOW.out.keeps HCW.out hK3)
  have M0 := Lib.hid m0
  have M1 := Lib.hid m1
  have M2 := Lib.hid m2
  have y0 := (heap_cell m0 0).trans rfl
  have y1 := (heap_cell m0 1).trans rfl
  clear hK3 hC3 hF3 m0 m1 m2 x1 x2 x3 x4 x5 x6 x7 x8 x9 x10
  have z0 := frozen_of M0.out
  have z2 := frozen_of M2.out
  have b0 := (heap_cell M2.out 0).trans rfl
  have b1 := (heap_cell M2.out 1).trans rfl
  go_wp2
  refine post_gen (fun w8 => w8.heap[w.heap.size + 1 + 1]? = some (.cells #[.slice none 0 0, .int .i64 r2] 28 (0, 0)) ∧ RefAt w8 (.slice none 0 0) [] ∧ CAt w8 cb F3 [] r ∧ Keeps F w w8 ∧ ∀ x ∈ F3, x ∈ F ∨ w.heap.size ≤ x)
    (fin_do (HK3.out.setCell (.inr (Nat.le_refl _)) _) HF3.out (HC3.out.keeps (G := [w.heap.size]) ((Keeps.refl _ _).setCell (.inl (by simp)) _) fun x hx => ?_) ⟨by simpa [rowP] using Owns.nil _ _ _, by simp⟩ ((setCell_heap _ _ _ _ _ (by omega)).trans M2.out) (by omega) (Ext.refl _)) ?_
  · simp only [List.mem_singleton]
    rintro rfl
    exact HC3.out.apart M0.out (by decide) (by decide) hx
  rintro w8 ⟨q1, q2, q3, q4, q5⟩
  have v0 := (heap_cell q1 0).trans rfl
  have v1 := (heap_cell q1 1).trans rfl
  have Q2 := Lib.hid q2
  have Q3 := Lib.hid q3
  have Q4 := Lib.hid q4
  have Q5 := Lib.hid q5
  clear q1 q2 q3 q4 q5 y0 y1 z0 z2 b0 b1
  rw [← HEND.out]
  refine bodyPost_ret (by simp [results, Try.results24, go_sem, ↓IntWalk.iteOmega, *]; try rfl) rfl ⟨_, rfl, Q2.out, F3, Q3.out, Q4.out, Q5.out⟩
end Go.Proofs.Ytnacgmmkmedpdaa
