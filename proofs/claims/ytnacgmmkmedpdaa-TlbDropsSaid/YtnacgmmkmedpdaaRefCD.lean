/- The document's caches: Evict, Get. -/
import Derived.Test.YtnacgmmkmedpdaaRefCC
namespace Go.Proofs.Ytnacgmmkmedpdaa
set_option linter.unusedVariables false
set_option linter.unusedSimpArgs false
open Go.RowKit
attribute [local go_sem] wext_cell wext_frozen wext_heap alloc_cell alloc_frozen alloc_heap setCell_cell objCell_cells objFrozen_cells
attribute [local go_sem high] refKey_eql

set_option maxHeartbeats 1000000 in
theorem refEvict_c (L : List (Key × Line)) (pick : Int) (v : Value) (r : Int) (w : World) (ho : RefAt w v L) (hp0 : -9223372036854775808 ≤ pick) (hp1 : pick ≤ 9223372036854775807) :
    Calls Try.prog 79 #[.agg #[v, .int .i64 r], .int .i64 pick] w (EndRef (evictL pick L) r w) := by
  have HO := Lib.hid ho
  have hL := ho.2
  obtain ⟨a, cap, rfl, hn, hm⟩ := ho.1.form
  unfold maxLen at hm
  clear ho
  by_cases h0 : L.length = 0
  · have hz : ((L.length : Nat) : Int) = 0 := by omega
    have he : evictL pick L = L := by unfold evictL; rw [if_pos h0]
    rw [he]
    go_enter Try.func79, Try.ntmps79
    go_wp2
    refine bodyPost_ret (by simp [results, Try.results79, go_sem, ↓IntWalk.iteOmega, *]; try rfl) rfl ⟨_, rfl, HO.out.ext (by repeat (first | exact Ext.refl _ | assumption | refine Ext.alloc ?_ _ | refine Ext.drew ?_ | refine Ext.setCell ?_ (by first | (simp; done) | (dsimp only; omega)) _ | refine Ext.trans ?_ (by assumption))), (by repeat (first | exact Ext.refl _ | assumption | refine Ext.alloc ?_ _ | refine Ext.drew ?_ | refine Ext.setCell ?_ (by first | (simp; done) | (dsimp only; omega)) _ | refine Ext.trans ?_ (by assumption)))⟩
  · have hz : (((L.length : Nat) : Int) == 0) = false := by simp; simpa using h0
    have hdel : evictL pick L = woL (pickI pick L.length) L := by
      unfold evictL woL
      rw [if_neg h0, if_neg (by have := Int.emod_nonneg pick (b := (L.length : Int)) (by omega); unfold pickI; omega)]
    have hr : 0 ≤ pickI pick L.length ∧ pickI pick L.length ≤ 1000 := by
      have := Int.emod_nonneg pick (b := (L.length : Int)) (by omega)
      have := Int.emod_lt_of_pos pick (b := (L.length : Int)) (by omega)
      unfold pickI; omega
    have hpc := fun w => picked_c pick L.length w hp0 hp1 (by omega) (by omega)
    generalize pickI pick L.length = q at hdel hr hpc
    have HP := Lib.hid hpc
    have HD := Aside.mk hdel
    clear hdel hpc
    obtain ⟨hr0, hr1⟩ := hr
    go_enter Try.func79, Try.ntmps79
    go_upto_region 3 with (fail)
    refine wp_gen ?_; intro W hW
    have hE : Ext w W := by rw [hW]; exact (by repeat (first | exact Ext.refl _ | assumption | refine Ext.alloc ?_ _ | refine Ext.drew ?_ | refine Ext.setCell ?_ (by first | (simp; done) | (dsimp only; omega)) _ | refine Ext.trans ?_ (by assumption)))
    have hb0 : W.heap[w.heap.size]? = some (.cells #[.slice a L.length cap, .int .i64 r] 28 (0, 0)) := by rw [hW]; exact (alloc_other _ _ (by simp)).trans (alloc_same ..)
    have hb2 : W.heap[w.heap.size + 1]? = some (.cells #[.slice none 0 0, .int .i64 0] 28 (0, 0)) := by rw [hW]; exact alloc_same1 ..
    have x0 := (heap_cell hb0 0).trans rfl
    have x1 := (heap_cell hb0 1).trans rfl
    have hsz : w.heap.size + 1 < W.heap.size := (by rw [hW]; (try simp only [World.size_alloc, World.size_setCell, World.size_drew]); omega)
    have HE := Lib.hid hE
    have H2 := Lib.hid hb2
    clear hW hE hb0 hb2
    refine region_mix [.q [0, 1, 2, 3, 4], .l 5 3, .l 6 3, .l 7 2] (by kernel_rfl) (by kernel_rfl) ?_
    (try refine ⟨fun h => absurd h (by simp), ?_⟩); (repeat (unfold wpPlan; simp only [pickL, List.map_cons, List.map_nil, List.getD_cons_succ, List.getD_cons_zero]; (repeat go_big_quiet_step (fail)); refine wpQuiet_nil ?_)); unfold wpPlan; intro w1 hb1; (try simp only [pickL, List.map_cons, List.map_nil, List.getD_cons_succ, List.getD_cons_zero])
    go_wp2_with (first | (go_at_call 31; refine (HP.out _).mono ?_; rintro e w2 ⟨rfl, hb2⟩))
    refine ⟨?_, ?_⟩
    · (try intro _); exact hb1.trans hb2
    have HB2 := Lib.hid (hb1.trans hb2)
    clear hb1 hb2
    (try refine ⟨fun h => absurd h (by simp), ?_⟩); (repeat (unfold wpPlan; simp only [pickL, List.map_cons, List.map_nil, List.getD_cons_succ, List.getD_cons_zero]; (repeat go_big_quiet_step (fail)); refine wpQuiet_nil ?_)); unfold wpPlan; intro w3 hb3; (try simp only [pickL, List.map_cons, List.map_nil, List.getD_cons_succ, List.getD_cons_zero])
    go_wp2_with (first | (go_at_call 118; refine (without_c L q _ r _ (((HO.out.ext HE.out).ext HB2.out).ext hb3) (by omega) (by omega)).mono ?_; rintro e w4 ⟨v4, rfl, hv4, hb4⟩; obtain ⟨a4, c4, rfl, -, -⟩ := hv4.1.form))
    refine ⟨?_, ?_⟩
    · (try intro _); exact hb3.trans hb4
    have HB4 := Lib.hid (HB2.out.trans (hb3.trans hb4))
    have HV4 := Lib.hid hv4
    clear hb3 hb4 hv4
    (try refine ⟨fun h => absurd h (by simp), ?_⟩); (repeat (unfold wpPlan; simp only [pickL, List.map_cons, List.map_nil, List.getD_cons_succ, List.getD_cons_zero]; (repeat go_big_quiet_step (fail)); refine wpQuiet_nil ?_)); unfold wpPlan; intro w5 hb5; (try simp only [pickL, List.map_cons, List.map_nil, List.getD_cons_succ, List.getD_cons_zero])
    have m5 := ((HB4.out.trans hb5).block _ (by omega)).trans H2.out
    have y0 := (heap_cell m5 0).trans rfl
    have y1 := (heap_cell m5 1).trans rfl
    have z0 := frozen_of m5
    have M5 := Lib.hid m5
    have HB5 := Lib.hid (HB4.out.trans hb5)
    have hV5 := HV4.out.ext hb5
    have HV5 := Lib.hid hV5
    clear hb5 m5 hV5
    go_wp2
    (try refine ⟨fun h => absurd h (by simp), ?_⟩); (repeat (unfold wpPlan; simp only [pickL, List.map_cons, List.map_nil, List.getD_cons_succ, List.getD_cons_zero]; (repeat go_big_quiet_step (fail)); refine wpQuiet_nil ?_)); unfold wpPlan; intro w6 hb6; (try simp only [pickL, List.map_cons, List.map_nil, List.getD_cons_succ, List.getD_cons_zero])
    have m6 := (hb6.block (w.heap.size + 1) (by simp; have := HB5.out.size; omega)).trans (store2_heap M5.out)
    have E6 : Ext w w6 := (HE.out.trans HB5.out).setCell (by simp) _ |>.setCell (by simp) _ |>.trans hb6
    have v6 := ((HV5.out.store2 M5.out).ext hb6)
    have u0 := (heap_cell m6 0).trans rfl
    have u1 := (heap_cell m6 1).trans rfl
    clear m6 hb6 y0 y1 z0 x0 x1
    go_wp2
    refine bodyPost_ret (by simp [results, Try.results79, go_sem, ↓IntWalk.iteOmega, *]; try rfl) rfl ⟨_, rfl, by rw [HD.out]; exact v6, E6⟩

set_option maxHeartbeats 1000000 in
theorem refGet_c (L : List (Key × Line)) (k : Key) (v : Value) (r : Int) (w : World) (ho : RefAt w v L) :
    Calls Try.prog 80 #[.agg #[v, .int .i64 r], k.val] w fun e w' => e = .returned (.tuple #[(getLine k L).val, .bool (hasK k L)]) ∧ Ext w w' := by
  have HO := Lib.hid ho
  have hL := ho.2
  obtain ⟨p, l, t⟩ := k
  obtain ⟨a, cap, rfl, hn, hm⟩ := ho.1.form
  unfold maxLen at hm
  have hix := ix_look ⟨p, l, t⟩ L 0
  have hfc := fun w ho => find_c L ⟨p, l, t⟩ (.slice a L.length cap) r w ho
  cases hl : look ⟨p, l, t⟩ L 0 with
  | none =>
    have hi : ixK ⟨p, l, t⟩ (keysOf L) 0 = -1 := by have : ixK ⟨p, l, t⟩ (keysOf L) 0 = _ := hix; rw [this, hl]
    rw [hi] at hfc
    rw [show getLine ⟨p, l, t⟩ L = noLine by unfold getLine; rw [hl], show hasK ⟨p, l, t⟩ L = false by unfold hasK; rw [hl]; rfl]
    unfold Key.val at *
    have HF := Lib.hid hfc
    clear hix ho hl hi hfc
    go_enter Try.func80, Try.ntmps80
    go_wp2_with (first | (go_at_call 117; refine (HF.out _ (HO.out.ext (by repeat (first | exact Ext.refl _ | assumption | refine Ext.alloc ?_ _ | refine Ext.drew ?_ | refine Ext.setCell ?_ (by first | (simp; done) | (dsimp only; omega)) _ | refine Ext.trans ?_ (by assumption))))).mono ?_; rintro e w2 ⟨rfl, hb2⟩; have ⟨hc, hf, hh, hs⟩ := hb2.facts; simp only [World.size_alloc] at hs))
    refine post_gen (fun V => V.heap[w.heap.size + 1 + 1]? = some (.cells #[.int .u64 0, .bool false, .bool false, .bool false, .bool false, .int .u8 0] 56 (0, 0)) ∧ Ext w V)
      ⟨store6_heap ((hb2.block _ (by simp)).trans (alloc_same2 ..)), ext6 (Ext.trans (by repeat (first | exact Ext.refl _ | assumption | refine Ext.alloc ?_ _ | refine Ext.drew ?_ | refine Ext.setCell ?_ (by first | (simp; done) | (dsimp only; omega)) _ | refine Ext.trans ?_ (by assumption))) hb2) (by omega)⟩ ?_
    rintro V ⟨m5, E5⟩
    have v0 := (heap_cell m5 0).trans rfl
    have v1 := (heap_cell m5 1).trans rfl
    have v2 := (heap_cell m5 2).trans rfl
    have v3 := (heap_cell m5 3).trans rfl
    have v4 := (heap_cell m5 4).trans rfl
    have v5 := (heap_cell m5 5).trans rfl
    clear m5 hb2 hc hf hh hs
    refine bodyPost_ret (by simp [results, Try.results80, go_sem, ↓IntWalk.iteOmega, *]; try rfl) rfl ⟨rfl, E5⟩
  | some y =>
    obtain ⟨i, y⟩ := y
    have hlt : i < L.length := (List.getElem?_eq_some_iff.1 (look_some hl).2.1).1
    have hpa : pAt L i = (⟨p, l, t⟩, y) := by
      have := (look_some hl).2.1
      simp only [Nat.sub_zero] at this
      simp [pAt, List.getD, this]
    have hi : ixK ⟨p, l, t⟩ (keysOf L) 0 = (i : Int) := by have : ixK ⟨p, l, t⟩ (keysOf L) 0 = _ := hix; rw [this, hl]
    rw [hi] at hfc
    rw [show getLine ⟨p, l, t⟩ L = y by unfold getLine; rw [hl], show hasK ⟨p, l, t⟩ L = true by unfold hasK; rw [hl]; rfl]
    obtain ⟨g, rfl⟩ : ∃ g, a = some ⟨g, 0, none⟩ := by
      rcases ho.1.2 with ⟨_, h0⟩ | ⟨g, _, _, he, _⟩
      · omega
      · exact ⟨g, by injection he⟩
    have hgl := ho.1.lt g rfl
    have h9 := nineAt ho.1 hlt
    rw [hpa] at h9
    obtain ⟨yf, ya, yb, yc, yd, ym⟩ := y
    unfold Key.val Line.val at *
    obtain ⟨-, -, -, d3, d4, d5, d6, d7, d8⟩ := h9
    have HF := Lib.hid hfc
    clear hix ho hl hi hfc hpa
    go_enter Try.func80, Try.ntmps80
    go_wp2_with (first | (go_at_call 117; refine (HF.out _ (HO.out.ext (by repeat (first | exact Ext.refl _ | assumption | refine Ext.alloc ?_ _ | refine Ext.drew ?_ | refine Ext.setCell ?_ (by first | (simp; done) | (dsimp only; omega)) _ | refine Ext.trans ?_ (by assumption))))).mono ?_; rintro e w2 ⟨rfl, hb2⟩; have ⟨hc, hf, hh, hs⟩ := hb2.facts; simp only [World.size_alloc] at hs))
    refine post_gen (fun V => V.heap[w.heap.size + 1 + 1]? = some (.cells #[.int .u64 yf, .bool ya, .bool yb, .bool yc, .bool yd, .int .u8 ym] 56 (0, 0)) ∧ Ext w V)
      ⟨store6_heap ((hb2.block _ (by simp)).trans (alloc_same2 ..)), ext6 (Ext.trans (by repeat (first | exact Ext.refl _ | assumption | refine Ext.alloc ?_ _ | refine Ext.drew ?_ | refine Ext.setCell ?_ (by first | (simp; done) | (dsimp only; omega)) _ | refine Ext.trans ?_ (by assumption))) hb2) (by omega)⟩ ?_
    rintro V ⟨m5, E5⟩
    have v0 := (heap_cell m5 0).trans rfl
    have v1 := (heap_cell m5 1).trans rfl
    have v2 := (heap_cell m5 2).trans rfl
    have v3 := (heap_cell m5 3).trans rfl
    have v4 := (heap_cell m5 4).trans rfl
    have v5 := (heap_cell m5 5).trans rfl
    clear m5 hb2 hc hf hh hs d3 d4 d5 d6 d7 d8
    refine bodyPost_ret (by simp [results, Try.results80, go_sem, ↓IntWalk.iteOmega, *]; try rfl) rfl ⟨rfl, E5⟩
end Go.Proofs.Ytnacgmmkmedpdaa
