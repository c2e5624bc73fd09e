/- Joined texts, part 17 of what the law stands on: each as its own head says. -/
import Derived.Test.YtakkjpdolkokfaaPln16
/- The document's caches: New, Picked, Drop, Evict, Get. -/
namespace Go.Proofs.Ytakkjpdolkokfaa
set_option linter.unusedVariables false
set_option linter.unusedSimpArgs false
open Go.RowKit
attribute [local go_sem] wext_cell wext_frozen wext_heap alloc_cell alloc_frozen alloc_heap setCell_cell objCell_cells objFrozen_cells
attribute [local go_sem high] refKey_eql

theorem picked_c (pick n : Int) (w : World) (hp0 : -9223372036854775808 ≤ pick) (hp1 : pick ≤ 9223372036854775807) (h0 : 0 < n) (h1 : n ≤ 1000) :
    Calls Try.prog 100 #[.int .i64 pick, .int .i64 n] w fun e w' => e = .returned (.int .i64 (pickI pick n)) ∧ Ext w w' := by
  have q1 : -n < pick.tmod n := Int.lt_tmod_of_pos pick h0
  have q2 : pick.tmod n < n := Int.tmod_lt_of_pos pick h0
  have hnz : ¬ (n = 0) := by omega
  have hz : (n == 0) = false := by simpa using hnz
  have hq : pick.tmod n % n = pickI pick n := tmod_mod pick n
  have hq2 : (pick.tmod n + n) % n = pickI pick n := by rw [Int.add_emod_right]; exact hq
  generalize pickI pick n = q at hq hq2 ⊢
  go_enter Try.func100, Try.ntmps100
  go_wp2
  all_goals
    go_ret
    exact ⟨congrArg (fun x => Ending.returned (.int .i64 x)) hq2, (by repeat (first | exact Ext.refl _ | assumption | refine Ext.alloc ?_ _ | refine Ext.drew ?_ | refine Ext.setCell ?_ (by first | (simp; done) | (dsimp only; omega)) _ | refine Ext.trans ?_ (by assumption)))⟩

theorem refNew_c (room : Int) (w : World) (h0 : -9223372036854775808 ≤ room) (h1 : room ≤ 9223372036854775807) :
    Calls Try.prog 34 #[.int .i64 room] w fun e w' => e = .returned (.agg #[.slice none 0 0, .int .i64 (clampR room)]) ∧ Ext w w' := by
  rcases (show room < 0 ∨ (0 ≤ room ∧ 64 < room) ∨ (0 ≤ room ∧ room ≤ 64) by omega) with h | ⟨h, h'⟩ | ⟨h, h'⟩
  · rw [show (clampR room : Int) = 0 by unfold clampR; rw [if_pos h]; rfl]
    go_enter Try.func34, Try.ntmps34
    go_wp2
    refine bodyPost_ret (by simp [results, Try.results34, go_sem, ↓IntWalk.iteOmega, *]; try rfl) rfl ⟨rfl, (by repeat (first | exact Ext.refl _ | assumption | refine Ext.alloc ?_ _ | refine Ext.drew ?_ | refine Ext.setCell ?_ (by first | (simp; done) | (dsimp only; omega)) _ | refine Ext.trans ?_ (by assumption)))⟩
  · rw [show (clampR room : Int) = 64 by unfold clampR; rw [if_neg (by omega), if_pos h']; rfl]
    go_enter Try.func34, Try.ntmps34
    go_wp2
    refine bodyPost_ret (by simp [results, Try.results34, go_sem, ↓IntWalk.iteOmega, *]; try rfl) rfl ⟨rfl, (by repeat (first | exact Ext.refl _ | assumption | refine Ext.alloc ?_ _ | refine Ext.drew ?_ | refine Ext.setCell ?_ (by first | (simp; done) | (dsimp only; omega)) _ | refine Ext.trans ?_ (by assumption)))⟩
  · rw [show (clampR room : Int) = room by unfold clampR; rw [if_neg (by omega), if_neg (by omega)]; omega]
    go_enter Try.func34, Try.ntmps34
    go_wp2
    refine bodyPost_ret (by simp [results, Try.results34, go_sem, ↓IntWalk.iteOmega, *]; try rfl) rfl ⟨rfl, (by repeat (first | exact Ext.refl _ | assumption | refine Ext.alloc ?_ _ | refine Ext.drew ?_ | refine Ext.setCell ?_ (by first | (simp; done) | (dsimp only; omega)) _ | refine Ext.trans ?_ (by assumption)))⟩

theorem RefAt.store2 {w : World} {b : Nat} {c0 c1 v0 v1 v : Value} {L : List (Key × Line)} (h : RefAt w v L) (hb : w.heap[b]? = some (.cells #[c0, c1] 28 (0, 0))) :
    RefAt ((w.setCell ⟨b, 0, none⟩ v0).setCell ⟨b, 1, none⟩ v1) v L := by
  refine ⟨h.1.keep fun g hg => ?_, h.2⟩
  have : b ≠ g := fun e => by obtain ⟨c, hc⟩ := h.1.heap g hg; rw [← e, hb] at hc; cases hc
  rw [setCell_heap _ _ _ _ _ this, setCell_heap _ _ _ _ _ this]

set_option maxHeartbeats 1000000 in
theorem refDrop_c (L : List (Key × Line)) (k : Key) (v : Value) (r : Int) (w : World) (ho : RefAt w v L) :
    Calls Try.prog 79 #[.agg #[v, .int .i64 r], k.val] w (EndRef (delL k L) r w) := by
  have HO := Lib.hid ho
  have hL := ho.2
  obtain ⟨p, l, t⟩ := k
  obtain ⟨a, cap, rfl, hn, hm⟩ := ho.1.form
  unfold Key.val
  unfold maxLen at hm
  have hix := ix_look ⟨p, l, t⟩ L 0
  have hdel : delL ⟨p, l, t⟩ L = woL (ixK ⟨p, l, t⟩ (keysOf L) 0) L := by
    have : ixK ⟨p, l, t⟩ (keysOf L) 0 = _ := hix
    rw [this]
    unfold delL woL
    cases look ⟨p, l, t⟩ L 0 with
    | none => simp
    | some y => simp; omega
  have hr : -1 ≤ ixK ⟨p, l, t⟩ (keysOf L) 0 ∧ ixK ⟨p, l, t⟩ (keysOf L) 0 ≤ 1000 := by
    have : ixK ⟨p, l, t⟩ (keysOf L) 0 = _ := hix
    rw [this]
    cases hl : look ⟨p, l, t⟩ L 0 with
    | none => simp
    | some y => have := (List.getElem?_eq_some_iff.1 (look_some hl).2.1).1; simp; omega
  generalize hq : ixK ⟨p, l, t⟩ (keysOf L) 0 = q at hdel hr
  have HQ := Aside.mk hq
  have HD := Aside.mk hdel
  clear hix hq hdel ho
  obtain ⟨hr0, hr1⟩ := hr
  go_enter Try.func79, Try.ntmps79
  go_upto_region 1 with (fail)
  refine wp_gen ?_; intro W hW
  have hE : Ext w W := by rw [hW]; exact (by repeat (first | exact Ext.refl _ | assumption | refine Ext.alloc ?_ _ | refine Ext.drew ?_ | refine Ext.setCell ?_ (by first | (simp; done) | (dsimp only; omega)) _ | refine Ext.trans ?_ (by assumption)))
  have hb0 : W.heap[w.heap.size]? = some (.cells #[.slice a L.length cap, .int .i64 r] 28 (0, 0)) := by rw [hW]; exact (alloc_other _ _ (by simp; omega)).trans ((alloc_other _ _ (by simp)).trans (alloc_same ..))
  have hb1 : W.heap[w.heap.size + 1]? = some (.cells #[.int .i64 p, .int .i64 l, .int .u64 t] 127 (0, 0)) := by rw [hW]; exact (alloc_other _ _ (by simp)).trans (alloc_same1 ..)
  have hb2 : W.heap[w.heap.size + 1 + 1]? = some (.cells #[.slice none 0 0, .int .i64 0] 28 (0, 0)) := by rw [hW]; exact alloc_same2 ..
  have x0 := (heap_cell hb0 0).trans rfl
  have x1 := (heap_cell hb0 1).trans rfl
  have x2 := (heap_cell hb1 0).trans rfl
  have x3 := (heap_cell hb1 1).trans rfl
  have x4 := (heap_cell hb1 2).trans rfl
  have hsz : w.heap.size + 2 < W.heap.size := (by rw [hW]; (try simp only [World.size_alloc, World.size_setCell, World.size_drew]); omega)
  have HE := Lib.hid hE
  have H2 := Lib.hid hb2
  clear hW hE hb0 hb1 hb2
  refine region_mix [.q [0, 1, 2], .l 3 3, .l 4 3, .l 5 2] (by kernel_rfl) (by kernel_rfl) ?_
  (try refine ⟨fun h => absurd h (by simp), ?_⟩); (repeat (unfold wpPlan; simp only [pickL, List.map_cons, List.map_nil, List.getD_cons_succ, List.getD_cons_zero]; (repeat go_big_quiet_step (fail)); refine wpQuiet_nil ?_)); unfold wpPlan; intro w1 hb1; (try simp only [pickL, List.map_cons, List.map_nil, List.getD_cons_succ, List.getD_cons_zero])
  go_wp2_with (first | (go_at_call 85; refine (find_c L ⟨p, l, t⟩ _ r _ ((HO.out.ext HE.out).ext hb1)).mono ?_; rintro e w2 ⟨rfl, hb2⟩; rw [HQ.out]))
  refine ⟨?_, ?_⟩
  · (try intro _); exact hb1.trans hb2
  have HB2 := Lib.hid (hb1.trans hb2)
  clear hb1 hb2
  (try refine ⟨fun h => absurd h (by simp), ?_⟩); (repeat (unfold wpPlan; simp only [pickL, List.map_cons, List.map_nil, List.getD_cons_succ, List.getD_cons_zero]; (repeat go_big_quiet_step (fail)); refine wpQuiet_nil ?_)); unfold wpPlan; intro w3 hb3; (try simp only [pickL, List.map_cons, List.map_nil, List.getD_cons_succ, List.getD_cons_zero])
  go_wp2_with (first | (go_at_call 99; refine (without_c L q _ r _ (((HO.out.ext HE.out).ext HB2.out).ext hb3) (by omega) (by omega)).mono ?_; rintro e w4 ⟨v4, rfl, hv4, hb4⟩; obtain ⟨a4, c4, rfl, -, -⟩ := hv4.1.form))
  refine ⟨?_, ?_⟩
  · (try intro _); exact hb3.trans hb4
  have HB4 := Lib.hid (HB2.out.trans (hb3.trans hb4))
  have HV4 := Lib.hid hv4
  clear hb3 hb4 hv4
  (try refine ⟨fun h => absurd h (by simp), ?_⟩); (repeat (unfold wpPlan; simp only [pickL, List.map_cons, List.map_nil, List.getD_cons_succ, List.getD_cons_zero]; (repeat go_big_quiet_step (fail)); refine wpQuiet_nil ?_)); unfold wpPlan; intro w5 hb5; (try simp only [pickL, List.map_cons, List.map_nil, List.getD_cons_succ, List.getD_cons_zero])
  have m5 := ((HB4.out.trans hb5).block _ (by omega)).trans H2.out
  have y0 := (heap_cell m5 0).trans rfl
  have y1 := (heap_cell m5 1).trans rfl
  have z0 := frozen_of m5
  have M5 := Lib.hid m5
  have HB5 := Lib.hid (HB4.out.trans hb5)
  have hV5 := HV4.out.ext hb5
  have HV5 := Lib.hid hV5
  clear hb5 m5 hV5
  go_wp2
  (try refine ⟨fun h => absurd h (by simp), ?_⟩); (repeat (unfold wpPlan; simp only [pickL, List.map_cons, List.map_nil, List.getD_cons_succ, List.getD_cons_zero]; (repeat go_big_quiet_step (fail)); refine wpQuiet_nil ?_)); unfold wpPlan; intro w6 hb6; (try simp only [pickL, List.map_cons, List.map_nil, List.getD_cons_succ, List.getD_cons_zero])
  have m6 := (hb6.block (w.heap.size + 1 + 1) (by simp; have := HB5.out.size; omega)).trans (store2_heap M5.out)
  have E6 : Ext w w6 := (HE.out.trans HB5.out).setCell (by simp; omega) _ |>.setCell (by simp; omega) _ |>.trans hb6
  have v6 := ((HV5.out.store2 M5.out).ext hb6)
  have u0 := (heap_cell m6 0).trans rfl
  have u1 := (heap_cell m6 1).trans rfl
  clear m6 hb6 y0 y1 z0 x0 x1 x2 x3 x4
  go_wp2
  refine bodyPost_ret (by simp [results, Try.results79, go_sem, ↓IntWalk.iteOmega, *]; try rfl) rfl ⟨_, rfl, by rw [HD.out]; exact v6, E6⟩
end Go.Proofs.Ytakkjpdolkokfaa
/- The document's caches: Evict, Get. -/
namespace Go.Proofs.Ytakkjpdolkokfaa
set_option linter.unusedVariables false
set_option linter.unusedSimpArgs false
open Go.RowKit
attribute [local go_sem] wext_cell wext_frozen wext_heap alloc_cell alloc_frozen alloc_heap setCell_cell objCell_cells objFrozen_cells
attribute [local go_sem high] refKey_eql

set_option maxHeartbeats 1000000 in
theorem refEvict_c (L : List (Key × Line)) (pick : Int) (v : Value) (r : Int) (w : World) (ho : RefAt w v L) (hp0 : -9223372036854775808 ≤ pick) (hp1 : pick ≤ 9223372036854775807) :
    Calls Try.prog 84 #[.agg #[v, .int .i64 r], .int .i64 pick] w (EndRef (evictL pick L) r w) := by
  have HO := Lib.hid ho
  have hL := ho.2
  obtain ⟨a, cap, rfl, hn, hm⟩ := ho.1.form
  unfold maxLen at hm
  clear ho
  by_cases h0 : L.length = 0
  · have hz : ((L.length : Nat) : Int) = 0 := by omega
    have he : evictL pick L = L := by unfold evictL; rw [if_pos h0]
    rw [he]
    go_enter Try.func84, Try.ntmps84
    go_wp2
    refine bodyPost_ret (by simp [results, Try.results84, go_sem, ↓IntWalk.iteOmega, *]; try rfl) rfl ⟨_, rfl, HO.out.ext (by repeat (first | exact Ext.refl _ | assumption | refine Ext.alloc ?_ _ | refine Ext.drew ?_ | refine Ext.setCell ?_ (by first | (simp; done) | (dsimp only; omega)) _ | refine Ext.trans ?_ (by assumption))), (by repeat (first | exact Ext.refl _ | assumption | refine Ext.alloc ?_ _ | refine Ext.drew ?_ | refine Ext.setCell ?_ (by first | (simp; done) | (dsimp only; omega)) _ | refine Ext.trans ?_ (by assumption)))⟩
  · have hz : (((L.length : Nat) : Int) == 0) = false := by simp; simpa using h0
    have hdel : evictL pick L = woL (pickI pick L.length) L := by
      unfold evictL woL
      rw [if_neg h0, if_neg (by have := Int.emod_nonneg pick (b := (L.length : Int)) (by omega); unfold pickI; omega)]
    have hr : 0 ≤ pickI pick L.length ∧ pickI pick L.length ≤ 1000 := by
      have := Int.emod_nonneg pick (b := (L.length : Int)) (by omega)
      have := Int.emod_lt_of_pos pick (b := (L.length : Int)) (by omega)
      unfold pickI; omega
    have hpc := fun w => picked_c pick L.length w hp0 hp1 (by omega) (by omega)
    generalize pickI pick L.length = q at hdel hr hpc
    have HP := Lib.hid hpc
    have HD := Aside.mk hdel
    clear hdel hpc
    obtain ⟨hr0, hr1⟩ := hr
    go_enter Try.func84, Try.ntmps84
    go_upto_region 3 with (fail)
    refine wp_gen ?_; intro W hW
    have hE : Ext w W := by rw [hW]; exact (by repeat (first | exact Ext.refl _ | assumption | refine Ext.alloc ?_ _ | refine Ext.drew ?_ | refine Ext.setCell ?_ (by first | (simp; done) | (dsimp only; omega)) _ | refine Ext.trans ?_ (by assumption)))
    have hb0 : W.heap[w.heap.size]? = some (.cells #[.slice a L.length cap, .int .i64 r] 28 (0, 0)) := by rw [hW]; exact (alloc_other _ _ (by simp)).trans (alloc_same ..)
    have hb2 : W.heap[w.heap.size + 1]? = some (.cells #[.slice none 0 0, .int .i64 0] 28 (0, 0)) := by rw [hW]; exact alloc_same1 ..
    have x0 := (heap_cell hb0 0).trans rfl
    have x1 := (heap_cell hb0 1).trans rfl
    have hsz : w.heap.size + 1 < W.heap.size := (by rw [hW]; (try simp only [World.size_alloc, World.size_setCell, World.size_drew]); omega)
    have HE := Lib.hid hE
    have H2 := Lib.hid hb2
    clear hW hE hb0 hb2
    refine region_mix [.q [0, 1, 2, 3, 4], .l 5 3, .l 6 3, .l 7 2] (by kernel_rfl) (by kernel_rfl) ?_
    (try refine ⟨fun h => absurd h (by simp), ?_⟩); (repeat (unfold wpPlan; simp only [pickL, List.map_cons, List.map_nil, List.getD_cons_succ, List.getD_cons_zero]; (repeat go_big_quiet_step (fail)); refine wpQuiet_nil ?_)); unfold wpPlan; intro w1 hb1; (try simp only [pickL, List.map_cons, List.map_nil, List.getD_cons_succ, List.getD_cons_zero])
    go_wp2_with (first | (go_at_call 100; refine (HP.out _).mono ?_; rintro e w2 ⟨rfl, hb2⟩))
    refine ⟨?_, ?_⟩
    · (try intro _); exact hb1.trans hb2
    have HB2 := Lib.hid (hb1.trans hb2)
    clear hb1 hb2
    (try refine ⟨fun h => absurd h (by simp), ?_⟩); (repeat (unfold wpPlan; simp only [pickL, List.map_cons, List.map_nil, List.getD_cons_succ, List.getD_cons_zero]; (repeat go_big_quiet_step (fail)); refine wpQuiet_nil ?_)); unfold wpPlan; intro w3 hb3; (try simp only [pickL, List.map_cons, List.map_nil, List.getD_cons_succ, List.getD_cons_zero])
    go_wp2_with (first | (go_at_call 99; refine (without_c L q _ r _ (((HO.out.ext HE.out).ext HB2.out).ext hb3) (by omega) (by omega)).mono ?_; rintro e w4 ⟨v4, rfl, hv4, hb4⟩; obtain ⟨a4, c4, rfl, -, -⟩ := hv4.1.form))
    refine ⟨?_, ?_⟩
    · (try intro _); exact hb3.trans hb4
    have HB4 := Lib.hid (HB2.out.trans (hb3.trans hb4))
    have HV4 := Lib.hid hv4
    clear hb3 hb4 hv4
    (try refine ⟨fun h => absurd h (by simp), ?_⟩); (repeat (unfold wpPlan; simp only [pickL, List.map_cons, List.map_nil, List.getD_cons_succ, List.getD_cons_zero]; (repeat go_big_quiet_step (fail)); refine wpQuiet_nil ?_)); unfold wpPlan; intro w5 hb5; (try simp only [pickL, List.map_cons, List.map_nil, List.getD_cons_succ, List.getD_cons_zero])
    have m5 := ((HB4.out.trans hb5).block _ (by omega)).trans H2.out
    have y0 := (heap_cell m5 0).trans rfl
    have y1 := (heap_cell m5 1).trans rfl
    have z0 := frozen_of m5
    have M5 := Lib.hid m5
    have HB5 := Lib.hid (HB4.out.trans hb5)
    have hV5 := HV4.out.ext hb5
    have HV5 := Lib.hid hV5
    clear hb5 m5 hV5
    go_wp2
    (try refine ⟨fun h => absurd h (by simp), ?_⟩); (repeat (unfold wpPlan; simp only [pickL, List.map_cons, List.map_nil, List.getD_cons_succ, List.getD_cons_zero]; (repeat go_big_quiet_step (fail)); refine wpQuiet_nil ?_)); unfold wpPlan; intro w6 hb6; (try simp only [pickL, List.map_cons, List.map_nil, List.getD_cons_succ, List.getD_cons_zero])
    have m6 := (hb6.block (w.heap.size + 1) (by simp; have := HB5.out.size; omega)).trans (store2_heap M5.out)
    have E6 : Ext w w6 := (HE.out.trans HB5.out).setCell (by simp) _ |>.setCell (by simp) _ |>.trans hb6
    have v6 := ((HV5.out.store2 M5.out).ext hb6)
    have u0 := (heap_cell m6 0).trans rfl
    have u1 := (heap_cell m6 1).trans rfl
    clear m6 hb6 y0 y1 z0 x0 x1
    go_wp2
    refine bodyPost_ret (by simp [results, Try.results84, go_sem, ↓IntWalk.iteOmega, *]; try rfl) rfl ⟨_, rfl, by rw [HD.out]; exact v6, E6⟩

set_option maxHeartbeats 1000000 in
theorem refGet_c (L : List (Key × Line)) (k : Key) (v : Value) (r : Int) (w : World) (ho : RefAt w v L) :
    Calls Try.prog 48 #[.agg #[v, .int .i64 r], k.val] w fun e w' => e = .returned (.tuple #[(getLine k L).val, .bool (hasK k L)]) ∧ Ext w w' := by
  have HO := Lib.hid ho
  have hL := ho.2
  obtain ⟨p, l, t⟩ := k
  obtain ⟨a, cap, rfl, hn, hm⟩ := ho.1.form
  unfold maxLen at hm
  have hix := ix_look ⟨p, l, t⟩ L 0
  have hfc := fun w ho => find_c L ⟨p, l, t⟩ (.slice a L.length cap) r w ho
  cases hl : look ⟨p, l, t⟩ L 0 with
  | none =>
    have hi : ixK ⟨p, l, t⟩ (keysOf L) 0 = -1 := by have : ixK ⟨p, l, t⟩ (keysOf L) 0 = _ := hix; rw [this, hl]
    rw [hi] at hfc
    rw [show getLine ⟨p, l, t⟩ L = noLine by unfold getLine; rw [hl], show hasK ⟨p, l, t⟩ L = false by unfold hasK; rw [hl]; rfl]
    unfold Key.val at *
    have HF := Lib.hid hfc
    clear hix ho hl hi hfc
    go_enter Try.func48, Try.ntmps48
    go_wp2_with (first | (go_at_call 85; refine (HF.out _ (HO.out.ext (by repeat (first | exact Ext.refl _ | assumption | refine Ext.alloc ?_ _ | refine Ext.drew ?_ | refine Ext.setCell ?_ (by first | (simp; done) | (dsimp only; omega)) _ | refine Ext.trans ?_ (by assumption))))).mono ?_; rintro e w2 ⟨rfl, hb2⟩; have ⟨hc, hf, hh, hs⟩ := hb2.facts; simp only [World.size_alloc] at hs))
    refine post_gen (fun V => V.heap[w.heap.size + 1 + 1]? = some (.cells #[.int .u64 0, .bool false, .bool false, .bool false, .bool false, .int .u8 0] 124 (0, 0)) ∧ Ext w V)
      ⟨store6_heap ((hb2.block _ (by simp)).trans (alloc_same2 ..)), ext6 (Ext.trans (by repeat (first | exact Ext.refl _ | assumption | refine Ext.alloc ?_ _ | refine Ext.drew ?_ | refine Ext.setCell ?_ (by first | (simp; done) | (dsimp only; omega)) _ | refine Ext.trans ?_ (by assumption))) hb2) (by omega)⟩ ?_
    rintro V ⟨m5, E5⟩
    have v0 := (heap_cell m5 0).trans rfl
    have v1 := (heap_cell m5 1).trans rfl
    have v2 := (heap_cell m5 2).trans rfl
    have v3 := (heap_cell m5 3).trans rfl
    have v4 := (heap_cell m5 4).trans rfl
    have v5 := (heap_cell m5 5).trans rfl
    clear m5 hb2 hc hf hh hs
    refine bodyPost_ret (by simp [results, Try.results48, go_sem, ↓IntWalk.iteOmega, *]; try rfl) rfl ⟨rfl, E5⟩
  | some y =>
    obtain ⟨i, y⟩ := y
    have hlt : i < L.length := (List.getElem?_eq_some_iff.1 (look_some hl).2.1).1
    have hpa : pAt L i = (⟨p, l, t⟩, y) := by
      have := (look_some hl).2.1
      simp only [Nat.sub_zero] at this
      simp [pAt, List.getD, this]
    have hi : ixK ⟨p, l, t⟩ (keysOf L) 0 = (i : Int) := by have : ixK ⟨p, l, t⟩ (keysOf L) 0 = _ := hix; rw [this, hl]
    rw [hi] at hfc
    rw [show getLine ⟨p, l, t⟩ L = y by unfold getLine; rw [hl], show hasK ⟨p, l, t⟩ L = true by unfold hasK; rw [hl]; rfl]
    obtain ⟨g, rfl⟩ : ∃ g, a = some ⟨g, 0, none⟩ := by
      rcases ho.1.2 with ⟨_, h0⟩ | ⟨g, _, _, he, _⟩
      · omega
      · exact ⟨g, by injection he⟩
    have hgl := ho.1.lt g rfl
    have h9 := nineAt ho.1 hlt
    rw [hpa] at h9
    obtain ⟨yf, ya, yb, yc, yd, ym⟩ := y
    unfold Key.val Line.val at *
    obtain ⟨-, -, -, d3, d4, d5, d6, d7, d8⟩ := h9
    have HF := Lib.hid hfc
    clear hix ho hl hi hfc hpa
    go_enter Try.func48, Try.ntmps48
    go_wp2_with (first | (go_at_call 85; refine (HF.out _ (HO.out.ext (by repeat (first | exact Ext.refl _ | assumption | refine Ext.alloc ?_ _ | refine Ext.drew ?_ | refine Ext.setCell ?_ (by first | (simp; done) | (dsimp only; omega)) _ | refine Ext.trans ?_ (by assumption))))).mono ?_; rintro e w2 ⟨rfl, hb2⟩; have ⟨hc, hf, hh, hs⟩ := hb2.facts; simp only [World.size_alloc] at hs))
    refine post_gen (fun V => V.heap[w.heap.size + 1 + 1]? = some (.cells #[.int .u64 yf, .bool ya, .bool yb, .bool yc, .bool yd, .int .u8 ym] 124 (0, 0)) ∧ Ext w V)
      ⟨store6_heap ((hb2.block _ (by simp)).trans (alloc_same2 ..)), ext6 (Ext.trans (by repeat (first | exact Ext.refl _ | assumption | refine Ext.alloc ?_ _ | refine Ext.drew ?_ | refine Ext.setCell ?_ (by first | (simp; done) | (dsimp only; omega)) _ | refine Ext.trans ?_ (by assumption))) hb2) (by omega)⟩ ?_
    rintro V ⟨m5, E5⟩
    have v0 := (heap_cell m5 0).trans rfl
    have v1 := (heap_cell m5 1).trans rfl
    have v2 := (heap_cell m5 2).trans rfl
    have v3 := (heap_cell m5 3).trans rfl
    have v4 := (heap_cell m5 4).trans rfl
    have v5 := (heap_cell m5 5).trans rfl
    clear m5 hb2 hc hf hh hs d3 d4 d5 d6 d7 d8
    refine bodyPost_ret (by simp [results, Try.results48, go_sem, ↓IntWalk.iteOmega, *]; try rfl) rfl ⟨rfl, E5⟩
end Go.Proofs.Ytakkjpdolkokfaa
