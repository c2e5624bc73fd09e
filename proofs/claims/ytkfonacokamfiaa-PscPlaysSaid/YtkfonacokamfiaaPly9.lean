/- Joined texts, part 9 of what the law stands on: each as its own head says. -/
import Derived.Test.YtkfonacokamfiaaPly8
import Derived.Test.YtkfonacokamfiaaPly2
/- The document's caches: Evict, Get. -/
namespace Go.Proofs.Ytkfonacokamfiaa
set_option linter.unusedVariables false
set_option linter.unusedSimpArgs false
open Go.RowKit
attribute [local go_sem] wext_cell wext_frozen wext_heap alloc_cell alloc_frozen alloc_heap setCell_cell objCell_cells objFrozen_cells
attribute [local go_sem high] refKey_eql

set_option maxHeartbeats 1000000 in
theorem refEvict_c (L : List (Key × Line)) (pick : Int) (v : Value) (r : Int) (w : World) (ho : RefAt w v L) (hp0 : -9223372036854775808 ≤ pick) (hp1 : pick ≤ 9223372036854775807) :
    Calls Try.prog 58 #[.agg #[v, .int .i64 r], .int .i64 pick] w (EndRef (evictL pick L) r w) := by
  have HO := Lib.hid ho
  have hL := ho.2
  obtain ⟨a, cap, rfl, hn, hm⟩ := ho.1.form
  unfold maxLen at hm
  clear ho
  by_cases h0 : L.length = 0
  · have hz : ((L.length : Nat) : Int) = 0 := by omega
    have he : evictL pick L = L := by unfold evictL; rw [if_pos h0]
    rw [he]
    go_enter Try.func58, Try.ntmps58
    go_wp2
    refine bodyPost_ret (by simp [results, Try.results58, go_sem, ↓IntWalk.iteOmega, *]; try rfl) rfl ⟨_, rfl, HO.out.ext (by repeat (first | exact Ext.refl _ | assumption | refine Ext.alloc ?_ _ | refine Ext.drew ?_ | refine Ext.setCell ?_ (by first | (simp; done) | (dsimp only; omega)) _ | refine Ext.trans ?_ (by assumption))), (by repeat (first | exact Ext.refl _ | assumption | refine Ext.alloc ?_ _ | refine Ext.drew ?_ | refine Ext.setCell ?_ (by first | (simp; done) | (dsimp only; omega)) _ | refine Ext.trans ?_ (by assumption)))⟩
  · have hz : (((L.length : Nat) : Int) == 0) = false := by simp; simpa using h0
    have hdel : evictL pick L = woL (pickI pick L.length) L := by
      unfold evictL woL
      rw [if_neg h0, if_neg (by have := Int.emod_nonneg pick (b := (L.length : Int)) (by omega); unfold pickI; omega)]
    have hr : 0 ≤ pickI pick L.length ∧ pickI pick L.length ≤ 1000 := by
      have := Int.emod_nonneg pick (b := (L.length : Int)) (by omega)
      have := Int.emod_lt_of_pos pick (b := (L.length : Int)) (by omega)
      unfold pickI; omega
    have hpc := fun w => picked_c pick L.length w hp0 hp1 (by omega) (by omega)
    generalize pickI pick L.length = q at hdel hr hpc
    have HP := Lib.hid hpc
    have HD := Aside.mk hdel
    clear hdel hpc
    obtain ⟨hr0, hr1⟩ := hr
    go_enter Try.func58, Try.ntmps58
    go_upto_region 3 with (fail)
    refine wp_gen ?_; intro W hW
    have hE : Ext w W := by rw [hW]; exact (by repeat (first | exact Ext.refl _ | assumption | refine Ext.alloc ?_ _ | refine Ext.drew ?_ | refine Ext.setCell ?_ (by first | (simp; done) | (dsimp only; omega)) _ | refine Ext.trans ?_ (by assumption)))
    have hb0 : W.heap[w.heap.size]? = some (.cells #[.slice a L.length cap, .int .i64 r] 28 (0, 0)) := by rw [hW]; exact (alloc_other _ _ (by simp)).trans (alloc_same ..)
    have hb2 : W.heap[w.heap.size + 1]? = some (.cells #[.slice none 0 0, .int .i64 0] 28 (0, 0)) := by rw [hW]; exact alloc_same1 ..
    have x0 := (heap_cell hb0 0).trans rfl
    have x1 := (heap_cell hb0 1).trans rfl
    have hsz : w.heap.size + 1 < W.heap.size := (by rw [hW]; (try simp only [World.size_alloc, World.size_setCell, World.size_drew]); omega)
    have HE := Lib.hid hE
    have H2 := Lib.hid hb2
    clear hW hE hb0 hb2
    refine region_mix [.q [0, 1, 2, 3, 4], .l 5 3, .l 6 3, .l 7 2] (by kernel_rfl) (by kernel_rfl) ?_
    (try refine ⟨fun h => absurd h (by simp), ?_⟩); (repeat (unfold wpPlan; simp only [pickL, List.map_cons, List.map_nil, List.getD_cons_succ, List.getD_cons_zero]; (repeat go_big_quiet_step (fail)); refine wpQuiet_nil ?_)); unfold wpPlan; intro w1 hb1; (try simp only [pickL, List.map_cons, List.map_nil, List.getD_cons_succ, List.getD_cons_zero])
    go_wp2_with (first | (go_at_call 71; refine (HP.out _).mono ?_; rintro e w2 ⟨rfl, hb2⟩))
    refine ⟨?_, ?_⟩
    · (try intro _); exact hb1.trans hb2
    have HB2 := Lib.hid (hb1.trans hb2)
    clear hb1 hb2
    (try refine ⟨fun h => absurd h (by simp), ?_⟩); (repeat (unfold wpPlan; simp only [pickL, List.map_cons, List.map_nil, List.getD_cons_succ, List.getD_cons_zero]; (repeat go_big_quiet_step (fail)); refine wpQuiet_nil ?_)); unfold wpPlan; intro w3 hb3; (try simp only [pickL, List.map_cons, List.map_nil, List.getD_cons_succ, List.getD_cons_zero])
    go_wp2_with (first | (go_at_call 70; refine (without_c L q _ r _ (((HO.out.ext HE.out).ext HB2.out).ext hb3) (by omega) (by omega)).mono ?_; rintro e w4 ⟨v4, rfl, hv4, hb4⟩; obtain ⟨a4, c4, rfl, -, -⟩ := hv4.1.form))
    refine ⟨?_, ?_⟩
    · (try intro _); exact hb3.trans hb4
    have HB4 := Lib.hid (HB2.out.trans (hb3.trans hb4))
    have HV4 := Lib.hid hv4
    clear hb3 hb4 hv4
    (try refine ⟨fun h => absurd h (by simp), ?_⟩); (repeat (unfold wpPlan; simp only [pickL, List.map_cons, List.map_nil, List.getD_cons_succ, List.getD_cons_zero]; (repeat go_big_quiet_step (fail)); refine wpQuiet_nil ?_)); unfold wpPlan; intro w5 hb5; (try simp only [pickL, List.map_cons, List.map_nil, List.getD_cons_succ, List.getD_cons_zero])
    have m5 := ((HB4.out.trans hb5).block _ (by omega)).trans H2.out
    have y0 := (heap_cell m5 0).trans rfl
    have y1 := (heap_cell m5 1).trans rfl
    have z0 := frozen_of m5
    have M5 := Lib.hid m5
    have HB5 := Lib.hid (HB4.out.trans hb5)
    have hV5 := HV4.out.ext hb5
    have HV5 := Lib.hid hV5
    clear hb5 m5 hV5
    go_wp2
    (try refine ⟨fun h => absurd h (by simp), ?_⟩); (repeat (unfold wpPlan; simp only [pickL, List.map_cons, List.map_nil, List.getD_cons_succ, List.getD_cons_zero]; (repeat go_big_quiet_step (fail)); refine wpQuiet_nil ?_)); unfold wpPlan; intro w6 hb6; (try simp only [pickL, List.map_cons, List.map_nil, List.getD_cons_succ, List.getD_cons_zero])
    have m6 := (hb6.block (w.heap.size + 1) (by simp; have := HB5.out.size; omega)).trans (store2_heap M5.out)
    have E6 : Ext w w6 := (HE.out.trans HB5.out).setCell (by simp) _ |>.setCell (by simp) _ |>.trans hb6
    have v6 := ((HV5.out.store2 M5.out).ext hb6)
    have u0 := (heap_cell m6 0).trans rfl
    have u1 := (heap_cell m6 1).trans rfl
    clear m6 hb6 y0 y1 z0 x0 x1
    go_wp2
    refine bodyPost_ret (by simp [results, Try.results58, go_sem, ↓IntWalk.iteOmega, *]; try rfl) rfl ⟨_, rfl, by rw [HD.out]; exact v6, E6⟩

set_option maxHeartbeats 1000000 in
theorem refGet_c (L : List (Key × Line)) (k : Key) (v : Value) (r : Int) (w : World) (ho : RefAt w v L) :
    Calls Try.prog 31 #[.agg #[v, .int .i64 r], k.val] w fun e w' => e = .returned (.tuple #[(getLine k L).val, .bool (hasK k L)]) ∧ Ext w w' := by
  have HO := Lib.hid ho
  have hL := ho.2
  obtain ⟨p, l, t⟩ := k
  obtain ⟨a, cap, rfl, hn, hm⟩ := ho.1.form
  unfold maxLen at hm
  have hix := ix_look ⟨p, l, t⟩ L 0
  have hfc := fun w ho => find_c L ⟨p, l, t⟩ (.slice a L.length cap) r w ho
  cases hl : look ⟨p, l, t⟩ L 0 with
  | none =>
    have hi : ixK ⟨p, l, t⟩ (keysOf L) 0 = -1 := by have : ixK ⟨p, l, t⟩ (keysOf L) 0 = _ := hix; rw [this, hl]
    rw [hi] at hfc
    rw [show getLine ⟨p, l, t⟩ L = noLine by unfold getLine; rw [hl], show hasK ⟨p, l, t⟩ L = false by unfold hasK; rw [hl]; rfl]
    unfold Key.val at *
    have HF := Lib.hid hfc
    clear hix ho hl hi hfc
    go_enter Try.func31, Try.ntmps31
    go_wp2_with (first | (go_at_call 59; refine (HF.out _ (HO.out.ext (by repeat (first | exact Ext.refl _ | assumption | refine Ext.alloc ?_ _ | refine Ext.drew ?_ | refine Ext.setCell ?_ (by first | (simp; done) | (dsimp only; omega)) _ | refine Ext.trans ?_ (by assumption))))).mono ?_; rintro e w2 ⟨rfl, hb2⟩; have ⟨hc, hf, hh, hs⟩ := hb2.facts; simp only [World.size_alloc] at hs))
    refine post_gen (fun V => V.heap[w.heap.size + 1 + 1]? = some (.cells #[.int .u64 0, .bool false, .bool false, .bool false, .bool false, .int .u8 0] 90 (0, 0)) ∧ Ext w V)
      ⟨store6_heap ((hb2.block _ (by simp)).trans (alloc_same2 ..)), ext6 (Ext.trans (by repeat (first | exact Ext.refl _ | assumption | refine Ext.alloc ?_ _ | refine Ext.drew ?_ | refine Ext.setCell ?_ (by first | (simp; done) | (dsimp only; omega)) _ | refine Ext.trans ?_ (by assumption))) hb2) (by omega)⟩ ?_
    rintro V ⟨m5, E5⟩
    have v0 := (heap_cell m5 0).trans rfl
    have v1 := (heap_cell m5 1).trans rfl
    have v2 := (heap_cell m5 2).trans rfl
    have v3 := (heap_cell m5 3).trans rfl
    have v4 := (heap_cell m5 4).trans rfl
    have v5 := (heap_cell m5 5).trans rfl
    clear m5 hb2 hc hf hh hs
    refine bodyPost_ret (by simp [results, Try.results31, go_sem, ↓IntWalk.iteOmega, *]; try rfl) rfl ⟨rfl, E5⟩
  | some y =>
    obtain ⟨i, y⟩ := y
    have hlt : i < L.length := (List.getElem?_eq_some_iff.1 (look_some hl).2.1).1
    have hpa : pAt L i = (⟨p, l, t⟩, y) := by
      have := (look_some hl).2.1
      simp only [Nat.sub_zero] at this
      simp [pAt, List.getD, this]
    have hi : ixK ⟨p, l, t⟩ (keysOf L) 0 = (i : Int) := by have : ixK ⟨p, l, t⟩ (keysOf L) 0 = _ := hix; rw [this, hl]
    rw [hi] at hfc
    rw [show getLine ⟨p, l, t⟩ L = y by unfold getLine; rw [hl], show hasK ⟨p, l, t⟩ L = true by unfold hasK; rw [hl]; rfl]
    obtain ⟨g, rfl⟩ : ∃ g, a = some ⟨g, 0, none⟩ := by
      rcases ho.1.2 with ⟨_, h0⟩ | ⟨g, _, _, he, _⟩
      · omega
      · exact ⟨g, by injection he⟩
    have hgl := ho.1.lt g rfl
    have h9 := nineAt ho.1 hlt
    rw [hpa] at h9
    obtain ⟨yf, ya, yb, yc, yd, ym⟩ := y
    unfold Key.val Line.val at *
    obtain ⟨-, -, -, d3, d4, d5, d6, d7, d8⟩ := h9
    have HF := Lib.hid hfc
    clear hix ho hl hi hfc hpa
    go_enter Try.func31, Try.ntmps31
    go_wp2_with (first | (go_at_call 59; refine (HF.out _ (HO.out.ext (by repeat (first | exact Ext.refl _ | assumption | refine Ext.alloc ?_ _ | refine Ext.drew ?_ | refine Ext.setCell ?_ (by first | (simp; done) | (dsimp only; omega)) _ | refine Ext.trans ?_ (by assumption))))).mono ?_; rintro e w2 ⟨rfl, hb2⟩; have ⟨hc, hf, hh, hs⟩ := hb2.facts; simp only [World.size_alloc] at hs))
    refine post_gen (fun V => V.heap[w.heap.size + 1 + 1]? = some (.cells #[.int .u64 yf, .bool ya, .bool yb, .bool yc, .bool yd, .int .u8 ym] 90 (0, 0)) ∧ Ext w V)
      ⟨store6_heap ((hb2.block _ (by simp)).trans (alloc_same2 ..)), ext6 (Ext.trans (by repeat (first | exact Ext.refl _ | assumption | refine Ext.alloc ?_ _ | refine Ext.drew ?_ | refine Ext.setCell ?_ (by first | (simp; done) | (dsimp only; omega)) _ | refine Ext.trans ?_ (by assumption))) hb2) (by omega)⟩ ?_
    rintro V ⟨m5, E5⟩
    have v0 := (heap_cell m5 0).trans rfl
    have v1 := (heap_cell m5 1).trans rfl
    have v2 := (heap_cell m5 2).trans rfl
    have v3 := (heap_cell m5 3).trans rfl
    have v4 := (heap_cell m5 4).trans rfl
    have v5 := (heap_cell m5 5).trans rfl
    clear m5 hb2 hc hf hh hs d3 d4 d5 d6 d7 d8
    refine bodyPost_ret (by simp [results, Try.results31, go_sem, ↓IntWalk.iteOmega, *]; try rfl) rfl ⟨rfl, E5⟩
end Go.Proofs.Ytkfonacokamfiaa
/- The document's caches: DropOf. -/
namespace Go.Proofs.Ytkfonacokamfiaa
set_option linter.unusedVariables false
set_option linter.unusedSimpArgs false
open Go.RowKit
attribute [local go_sem] wext_cell wext_frozen wext_heap alloc_cell alloc_frozen alloc_heap setCell_cell objCell_cells objFrozen_cells
attribute [local go_sem high] refKey_eql

def filtL (pcid : Int) (L : List (Key × Line)) : List (Key × Line) := L.filter fun x => x.1.p != pcid
theorem filtL_take (pcid : Int) (L : List (Key × Line)) (j : Nat) (h : j < L.length) : filtL pcid (L.take (j + 1)) = if (pAt L j).1.p = pcid then filtL pcid (L.take j) else filtL pcid (L.take j) ++ [pAt L j] := by
  have e : L.take (j + 1) = L.take j ++ [pAt L j] := by rw [List.take_add_one, List.getElem?_eq_getElem h]; simp [pAt, List.getD, h]
  rw [e]
  unfold filtL
  rw [List.filter_append]
  by_cases h1 : (pAt L j).1.p = pcid
  · rw [if_pos h1]; simp [h1]
  · rw [if_neg h1]; simp [h1]
theorem filtL_length (pcid : Int) (L : List (Key × Line)) : (filtL pcid L).length ≤ L.length := List.length_filter_le ..

set_option maxHeartbeats 1000000 in
theorem refDropOf_c (L : List (Key × Line)) (at_ : Int) (v : Value) (r : Int) (w : World) (ho : RefAt w v L)  :
    Calls Try.prog 55 #[.agg #[v, .int .i64 r], .int .i64 at_] w (EndRef (filtL at_ L) r w) := by
  have hL := ho.2
  have HO := Lib.hid ho.1
  clear ho
  obtain ⟨a, cap, rfl, hn, hm⟩ := HO.out.form
  unfold maxLen at hm
  go_enter Try.func55, Try.ntmps55
  go_wp2
  refine wp_gen ?_; intro W hW
  have hE : Ext w W := by rw [hW]; exact (by repeat (first | exact Ext.refl _ | assumption | refine Ext.alloc ?_ _ | refine Ext.drew ?_ | refine Ext.setCell ?_ (by first | (simp; done) | (dsimp only; omega)) _ | refine Ext.trans ?_ (by assumption)))
  have hb0 : W.heap[w.heap.size]? = some (.cells #[.slice a L.length cap, .int .i64 r] 28 (0, 0)) := by rw [hW]; exact (alloc_other _ _ (by simp)).trans (alloc_same ..)
  have hb1 : W.heap[w.heap.size + 1]? = some (.cells #[.slice none 0 0, .int .i64 0] 28 (0, 0)) := by rw [hW]; exact alloc_same1 ..
  have hsz : w.heap.size + 1 < W.heap.size := (by rw [hW]; (try simp only [World.size_alloc, World.size_setCell, World.size_drew]); omega)
  clear hW
  have HE := Lib.hid hE
  have H0 := Lib.hid hb0
  have H1 := Lib.hid hb1
  clear hE hb0 hb1
  go_loopw [5, 6] (fun o i wr => ∃ (j : Nat) (oa : Option Addr) (n oc : Nat), j ≤ L.length ∧ i = .int .i64 j ∧ o = .slice oa n oc ∧ n = (filtL at_ (L.take j)).length ∧ Hid (Owns wr 127 9 (.slice oa n oc) n (rowP (filtL at_ (L.take j))) ∧
    (∀ g, (Value.slice oa n oc).ownBlock = some g → W.heap.size ≤ g) ∧ Ext W wr)) (fun _ i _ => L.length - (intOf i).toNat)
  case atStart => exact ⟨0, none, 0, 0, by omega, rfl, rfl, by simp [filtL], Lib.hid ⟨by simpa [filtL, rowP] using Owns.nil _ _ _, fun g hg => by simp [Value.ownBlock] at hg, Ext.refl _⟩⟩
  case round =>
    obtain ⟨j, oa, n, oc, hj, rfl, rfl, hnl, hR⟩ := hrel
    have hHB := hR.out.2.2
    have hs1 := hHB.size
    have b0 := (heap_cell ((hHB.block _ (by omega)).trans H0.out) 0).trans rfl
    have b1 := (heap_cell ((hHB.block _ (by omega)).trans H0.out) 1).trans rfl
    have HB := Lib.hid hHB
    clear hHB
    by_cases hlt : j < L.length
    · obtain ⟨g, hg⟩ : ∃ g, a = some ⟨g, 0, none⟩ := by
        rcases HO.out.2 with ⟨_, h0⟩ | ⟨g, _, _, he, _⟩
        · omega
        · exact ⟨g, by injection he⟩
      subst hg
      have hgl := HO.out.lt g rfl
      have hnle : n ≤ 1000 := by rw [hnl]; have := filtL_length at_ (L.take j); simp at this; omega
      obtain ⟨d0, d1, d2, d3, d4, d5, d6, d7, d8⟩ := ((nineAt HO.out hlt).ext HE.out).ext HB.out
      have hstep := filtL_take at_ L j hlt
      have HW := HE.out.size
      have HS := Aside.mk hstep
      have HN := Aside.mk hnl
      clear hstep hnl
      generalize hx : pAt L j = x at d0 d1 d2 d3 d4 d5 d6 d7 d8 HS
      obtain ⟨⟨p, l, t⟩, ⟨xf, xa, xb, xc, xd, xm⟩⟩ := x
      clear hx
      by_cases hat : p = at_
      · subst hat
        go_wp2
        refine ⟨⟨j + 1, oa, n, oc, by omega, by go_num, rfl, by rw [HS.out, if_pos rfl]; exact HN.out, Lib.hid (by rw [HS.out, if_pos rfl]; exact hR.out)⟩, by simp [intOf]; omega⟩
      · have hab : (p != at_) = true := by simpa using hat
        have HA := Lib.hid (hR.out.1.ext ((Ext.refl wr).alloc (.cells #[.int .i64 p, .int .i64 l, .int .u64 t, .int .u64 xf, .bool xa, .bool xb, .bool xc, .bool xd, .int .u8 xm] 127)))
        go_wp2_with (first | (at_builtin; refine wpList_append_owns rfl _ _ _ _ 9 40 pairRow rfl _ rfl n _ HA.out _ 1 1 rfl (pairC (⟨p, l, t⟩, ⟨xf, xa, xb, xc, xd, xm⟩)) rfl (fun j u hu => by rw [add0, heap_cell (alloc_same wr _) j]; simpa [pairC] using hu) (by simp [pairC, Value.oneCell']) (by unfold maxLen; omega) (by omega) ?_; intro v9 w9 q1 q2 q3; replace q2 : (wr.alloc (.cells #[.int .i64 p, .int .i64 l, .int .u64 t, .int .u64 xf, .bool xa, .bool xb, .bool xc, .bool xd, .int .u8 xm] 127)).grownBy w9 (Value.slice oa n oc).ownBlock := q2; replace q3 : v9.ownBlock = (Value.slice oa n oc).ownBlock ∨ v9.ownBlock = some (wr.alloc (.cells #[.int .i64 p, .int .i64 l, .int .u64 t, .int .u64 xf, .bool xa, .bool xb, .bool xc, .bool xd, .int .u8 xm] 127)).heap.size := q3; obtain ⟨a9, c9, rfl, -, -⟩ := q1.form; simp only [Act.put, Array.set!_eq_setIfInBounds, List.setIfInBounds_toArray, List.set_cons_succ, List.set_cons_zero]))
        all_goals
          refine ⟨⟨j + 1, a9, n + 1, c9, by omega, by go_num, rfl, by rw [HS.out, if_neg hat, List.length_append, HN.out]; rfl, Lib.hid ⟨by rw [HS.out, if_neg hat, rowP_append]; simpa [rowP] using q1, fun g hg => ?_, ?_⟩⟩, by simp [intOf]; omega⟩
          · rcases q3 with q3 | q3 <;> rw [q3] at hg
            · exact hR.out.2.1 g hg
            · cases hg; simp; omega
          · exact Keeps.to_ext (F := []) (Ext.refl W) ((Keeps.of_ext (HB.out.alloc _)).grown q2 (fun x hx => .inr (hR.out.2.1 x hx))) (by simp)
    · have m0 := (HB.out.block w.heap.size (by omega)).trans H0.out
      have m1 := (HB.out.block (w.heap.size + 1) (by omega)).trans H1.out
      have z0 := frozen_of m0
      have z1 := frozen_of m1
      have y0 := (heap_cell m1 0).trans rfl
      have y1 := (heap_cell m1 1).trans rfl
      have M1 := Lib.hid m1
      clear m0 m1
      go_wp2
      refine post_gen (fun V => V.heap[w.heap.size + 1]? = some (.cells #[.slice oa n oc, .int .i64 r] 28 (0, 0)) ∧ Owns V 127 9 (.slice oa n oc) n (rowP (filtL at_ (L.take j))) ∧ Ext w V) ⟨?_, ?_, ?_⟩ ?_
      · rw [hnl]; exact store2_heap ((setCell_heap _ _ _ _ _ (by omega)).trans M1.out)
      · refine hR.out.1.keep fun g hg => ?_
        have := hR.out.2.1 g hg
        rw [setCell_heap _ _ _ _ _ (by omega), setCell_heap _ _ _ _ _ (by omega), setCell_heap _ _ _ _ _ (by omega)]
      · exact Ext.setCell (Ext.setCell (Ext.setCell (HE.out.trans HB.out) (by simp) _) (by simp) _) (by simp) _
      rintro V ⟨m5, o5, E5⟩
      have v0 := (heap_cell m5 0).trans rfl
      have v1 := (heap_cell m5 1).trans rfl
      clear m5
      have e5 : L.take j = L := List.take_of_length_le (by omega)
      rw [e5] at o5 hnl
      refine bodyPost_ret (by simp [results, Try.results55, go_sem, ↓IntWalk.iteOmega, *]; try rfl) rfl ⟨_, rfl, ⟨by rw [← hnl]; exact o5, by have := filtL_length at_ L; omega⟩, E5⟩
end Go.Proofs.Ytkfonacokamfiaa
/- The document's caches: Put. -/
namespace Go.Proofs.Ytkfonacokamfiaa
set_option linter.unusedVariables false
set_option linter.unusedSimpArgs false
open Go.RowKit
attribute [local go_sem] wext_cell wext_frozen wext_heap alloc_cell alloc_frozen alloc_heap setCell_cell objCell_cells objFrozen_cells
attribute [local go_sem high] refKey_eql

/-- One cell written in a row that is held. -/
theorem Owns.setCell {w : World} {e : TypeId} {size n c g j : Nat} {xs : List Value} {u : Value} (h : Owns w e size (.slice (some ⟨g, 0, none⟩) n c) n xs) (hj : j < xs.length) :
    Owns (w.setCell ⟨g, j, none⟩ u) e size (.slice (some ⟨g, 0, none⟩) n c) n (xs.set j u) := by
  refine ⟨by rw [List.length_set]; exact h.1, ?_⟩
  rcases h.2 with ⟨hv, _⟩ | ⟨g', cap, cur, hv, hg, h1, h2, h3, h4⟩
  · cases hv
  · cases hv
    refine .inr ⟨g, c, cur.setIfInBounds j u, rfl, setCell_heap_same hg, h1, h2, by simpa using h3, ?_⟩
    have hj2 : j < n * size := by rw [← h.1]; exact hj
    rw [Array.toList_setIfInBounds, List.take_set, h4]

theorem rowP_set : ∀ (L : List (Key × Line)) (i : Nat) (k : Key) (x : Line), (∃ y, L[i]? = some (k, y)) →
    rowP (L.set i (k, x)) = ((((((rowP L).set (i * 9 + 3) (.int .u64 x.f)).set (i * 9 + 4) (.bool x.a)).set (i * 9 + 5) (.bool x.b)).set (i * 9 + 6) (.bool x.c)).set (i * 9 + 7) (.bool x.d)).set (i * 9 + 8) (.int .u8 x.m)
  | [], i, k, x, h => by obtain ⟨y, hy⟩ := h; simp at hy
  | z :: L, 0, k, x, h => by
    obtain ⟨y, hy⟩ := h
    obtain rfl : z = (k, y) := by simpa using hy
    simp [rowP, pairC]
  | z :: L, i + 1, k, x, h => by
    have ih := rowP_set L i k x (by simpa using h)
    have e : ∀ (l : List Value) (j : Nat) (u : Value), (pairC z ++ l).set (j + 9) u = pairC z ++ l.set j u := fun l j u => by simp [pairC]
    rw [List.set_cons_succ]
    show pairC z ++ rowP (L.set i (k, x)) = _
    rw [ih, show rowP (z :: L) = pairC z ++ rowP L from rfl]
    rw [show (i + 1) * 9 + 3 = (i * 9 + 3) + 9 by omega, show (i + 1) * 9 + 4 = (i * 9 + 4) + 9 by omega, show (i + 1) * 9 + 5 = (i * 9 + 5) + 9 by omega,
      show (i + 1) * 9 + 6 = (i * 9 + 6) + 9 by omega, show (i + 1) * 9 + 7 = (i * 9 + 7) + 9 by omega, show (i + 1) * 9 + 8 = (i * 9 + 8) + 9 by omega]
    simp only [e]

/-- A copy: append([]Pair{}, ..). -/
theorem refPut_has (L : List (Key × Line)) (k : Key) (x : Line) (i : Nat) (y : Line) (pick : Int) (v : Value) (r : Nat) (w : World) (ho : RefAt w v L) (hl : look k L 0 = some (i, y)) :
    Calls Try.prog 50 #[.agg #[v, .int .i64 r], k.val, x.val, .int .i64 pick] w (EndRef (L.set i (k, x)) r w) := by
  have HO := Lib.hid ho
  have hL := ho.2
  obtain ⟨p, l, t⟩ := k
  obtain ⟨a, cap, rfl, hn, hm⟩ := ho.1.form
  unfold maxLen at hm
  have hix := ix_look ⟨p, l, t⟩ L 0
  have hfc := fun w ho => find_c L ⟨p, l, t⟩ (.slice a L.length cap) r w ho
  have hlt : i < L.length := (List.getElem?_eq_some_iff.1 (look_some hl).2.1).1
  have hget : ∃ y, L[i]? = some (⟨p, l, t⟩, y) := ⟨y, by have := (look_some hl).2.1; simpa using this⟩
  have hi : ixK ⟨p, l, t⟩ (keysOf L) 0 = (i : Int) := by have : ixK ⟨p, l, t⟩ (keysOf L) 0 = _ := hix; rw [this, hl]
  rw [hi] at hfc
  have hset := rowP_set L i ⟨p, l, t⟩ x hget
  obtain ⟨g, rfl⟩ : ∃ g, a = some ⟨g, 0, none⟩ := by
    rcases ho.1.2 with ⟨_, h0⟩ | ⟨g, _, _, he, _⟩
    · omega
    · exact ⟨g, by injection he⟩
  have hgl := ho.1.lt g rfl
  obtain ⟨xf, xa, xb, xc, xd, xm⟩ := x
  unfold Key.val Line.val at *
  have HF := Lib.hid hfc
  have HS := Lib.hid hset
  clear hix ho hl hi hfc hget hset
  go_enter Try.func50, Try.ntmps50
  go_upto_region 3 with (first | (go_at_call 59; refine (HF.out _ (HO.out.ext (by repeat (first | exact Ext.refl _ | assumption | refine Ext.alloc ?_ _ | refine Ext.drew ?_ | refine Ext.setCell ?_ (by first | (simp; done) | (dsimp only; omega)) _ | refine Ext.trans ?_ (by assumption))))).mono ?_; rintro e w2 ⟨rfl, hb2⟩))
  have B0 := (hb2.block w.heap.size (by simp; omega)).trans ((alloc_other _ _ (by simp; omega)).trans ((alloc_other _ _ (by simp; omega)).trans ((alloc_other _ _ (by simp)).trans (alloc_same ..))))
  have B2 := (hb2.block (w.heap.size + 1 + 1) (by simp)).trans ((alloc_other _ _ (by simp)).trans (alloc_same2 ..))
  have B3 := (hb2.block (w.heap.size + 1 + 1 + 1) (by simp)).trans (alloc_same3 ..)
  have E2 : Ext w w2 := Ext.trans (by repeat (first | exact Ext.refl _ | assumption | refine Ext.alloc ?_ _ | refine Ext.drew ?_ | refine Ext.setCell ?_ (by first | (simp; done) | (dsimp only; omega)) _ | refine Ext.trans ?_ (by assumption))) hb2
  have hsz := heap_lt B3
  have p0 := (heap_cell B0 0).trans rfl
  have p1 := (heap_cell B0 1).trans rfl
  have l0 := (heap_cell B2 0).trans rfl
  have l1 := (heap_cell B2 1).trans rfl
  have l2 := (heap_cell B2 2).trans rfl
  have l3 := (heap_cell B2 3).trans rfl
  have l4 := (heap_cell B2 4).trans rfl
  have l5 := (heap_cell B2 5).trans rfl
  have BB0 := Lib.hid B0
  have BB2 := Lib.hid B2
  have BB3 := Lib.hid B3
  have EE := Lib.hid E2
  clear hb2 B0 B2 B3
  have hcl : ∀ j u, (rowP L)[j]? = some u → (w2.alloc (.cells #[] 127)).cell? ((⟨g, 0, none⟩ : Addr).add j) = some u := fun j u hu => by
    rw [add0]; exact ((HO.out.1.ext E2).ext ((Ext.refl w2).alloc _)).cells rfl j u hu
  have HC := Lib.hid hcl
  clear hcl E2
  go_upto_region 4 with (first | (at_builtin; refine wpList_append_owns rfl _ _ _ _ 9 40 pairRow rfl _ rfl 0 [] (Owns.fresh (c := #[]) (alloc_same ..)) _ _ _ rfl (rowP L) (rowP_length L) HC.out (rowP_one L) (by unfold maxLen; omega) (by omega) ?_; intro v3 w3 q1 q2 q3; replace q2 : (w2.alloc (.cells #[] 127)).grownBy w3 (some w2.heap.size) := q2; replace q3 : v3.ownBlock = some w2.heap.size ∨ v3.ownBlock = some (w2.alloc (.cells #[] 127)).heap.size := q3; obtain ⟨a3, c3, rfl, -, -⟩ := q1.form; simp only [Act.put, Array.set!_eq_setIfInBounds, List.setIfInBounds_toArray, List.set_cons_succ, List.set_cons_zero]))
  rw [Nat.zero_add, List.nil_append] at q1
  obtain ⟨g3, rfl⟩ : ∃ g, a3 = some ⟨g, 0, none⟩ := by
    rcases q1.2 with ⟨_, h0⟩ | ⟨g, _, _, he, _⟩
    · omega
    · exact ⟨g, by injection he⟩
  have E3 : Ext w2 w3 := Keeps.to_ext (F := []) (Ext.refl w2) ((Keeps.of_ext ((Ext.refl w2).alloc _)).grown q2 (fun x hx => .inr (by cases hx; exact Nat.le_refl _))) (by simp)
  have hg3 : w2.heap.size ≤ g3 := by rcases q3 with q3 | q3 <;> (simp [Value.ownBlock] at q3; omega)
  have c3' := fun j hj u hu => q1.cells (g := g3) rfl (i * 9 + j) u ((rowP_at L i hlt j hj).trans hu)
  have y3 := c3' 3 (by omega) _ rfl
  have y4 := c3' 4 (by omega) _ rfl
  have y5 := c3' 5 (by omega) _ rfl
  have y6 := c3' 6 (by omega) _ rfl
  have y7 := c3' 7 (by omega) _ rfl
  have y8 := c3' 8 (by omega) _ rfl
  obtain ⟨cc, hcc⟩ := q1.heap g3 rfl
  have fz := frozen_of hcc
  have hlen : (rowP L).length = L.length * 9 := rowP_length L
  have Q1 := Lib.hid q1
  have HE3 := Lib.hid E3
  have D0 := Lib.hid ((E3.block _ (by omega)).trans BB0.out)
  have D2 := Lib.hid ((E3.block _ (by omega)).trans BB2.out)
  have D3 := Lib.hid ((E3.block _ (by omega)).trans BB3.out)
  have l0 := (heap_cell D2.out 0).trans rfl
  have l1 := (heap_cell D2.out 1).trans rfl
  have l2 := (heap_cell D2.out 2).trans rfl
  have l3 := (heap_cell D2.out 3).trans rfl
  have l4 := (heap_cell D2.out 4).trans rfl
  have l5 := (heap_cell D2.out 5).trans rfl
  clear c3' q1 q2 q3 hcc E3 p0 p1
  rw [Nat.zero_add]
  go_upto_region 5 with (fail)
  refine wp_gen ?_; intro V hV
  have hlx : i * 9 + 8 < (rowP L).length := by rw [hlen]; omega
  have OV : Owns V 127 9 (.slice (some ⟨g3, 0, none⟩) L.length c3) L.length (rowP (L.set i (⟨p, l, t⟩, ⟨xf, xa, xb, xc, xd, xm⟩))) := by
    rw [hV, HS.out]
    exact Owns.setCell (Owns.setCell (Owns.setCell (Owns.setCell (Owns.setCell (Owns.setCell Q1.out (by omega)) (by simp only [List.length_set]; omega)) (by simp only [List.length_set]; omega)) (by simp only [List.length_set]; omega)) (by simp only [List.length_set]; omega)) (by simp only [List.length_set]; omega)
  have n0 : g3 ≠ w.heap.size := by omega
  have n3 : g3 ≠ w.heap.size + 1 + 1 + 1 := by omega
  have V0 : V.heap[w.heap.size]? = some (.cells #[.slice (some ⟨g, 0, none⟩) L.length cap, .int .i64 r] 28 (0, 0)) := by rw [hV, setCell_heap _ _ _ _ _ n0, setCell_heap _ _ _ _ _ n0, setCell_heap _ _ _ _ _ n0, setCell_heap _ _ _ _ _ n0, setCell_heap _ _ _ _ _ n0, setCell_heap _ _ _ _ _ n0]; exact D0.out
  have V3 : V.heap[w.heap.size + 1 + 1 + 1]? = some (.cells #[.slice none 0 0, .int .i64 0] 28 (0, 0)) := by rw [hV, setCell_heap _ _ _ _ _ n3, setCell_heap _ _ _ _ _ n3, setCell_heap _ _ _ _ _ n3, setCell_heap _ _ _ _ _ n3, setCell_heap _ _ _ _ _ n3, setCell_heap _ _ _ _ _ n3]; exact D3.out
  have EV : Ext w V := by
    rw [hV]
    have hg : w.heap.size ≤ g3 := by omega
    exact Ext.setCell (Ext.setCell (Ext.setCell (Ext.setCell (Ext.setCell (Ext.setCell (EE.out.trans HE3.out) hg _) hg _) hg _) hg _) hg _) hg _
  have p0 := (heap_cell V0 0).trans rfl
  have p1 := (heap_cell V0 1).trans rfl
  have r0 := (heap_cell V3 0).trans rfl
  have r1 := (heap_cell V3 1).trans rfl
  have f0 := frozen_of V0
  have f3 := frozen_of V3
  have HV3 := Lib.hid V3
  have HV := Lib.hid EV
  have HOV := Lib.hid OV
  have hng : g3 < V.heap.size := OV.lt g3 rfl
  clear hV V0 V3 EV OV y3 y4 y5 y6 y7 y8 fz l0 l1 l2 l3 l4 l5 hlx hlen
  go_wp2
  refine post_gen (fun U => U.heap[w.heap.size + 1 + 1 + 1]? = some (.cells #[.slice (some ⟨g3, 0, none⟩) L.length c3, .int .i64 r] 28 (0, 0)) ∧ Owns U 127 9 (.slice (some ⟨g3, 0, none⟩) L.length c3) L.length (rowP (L.set i (⟨p, l, t⟩, ⟨xf, xa, xb, xc, xd, xm⟩))) ∧ Ext w U) ⟨?_, ?_, ?_⟩ ?_
  · exact store2_heap ((setCell_heap _ _ _ _ _ (by omega)).trans HV3.out)
  · refine HOV.out.keep fun g' hg' => ?_
    obtain rfl : g3 = g' := by simpa [Value.ownBlock] using hg'
    rw [setCell_heap _ _ _ _ _ (by omega), setCell_heap _ _ _ _ _ (by omega), setCell_heap _ _ _ _ _ (by omega)]
  · exact Ext.setCell (Ext.setCell (Ext.setCell HV.out (by simp) _) (by simp; omega) _) (by simp; omega) _
  rintro U ⟨m5, o5, E5⟩
  have v0 := (heap_cell m5 0).trans rfl
  have v1 := (heap_cell m5 1).trans rfl
  clear m5 p0 p1 r0 r1 f0 f3
  have O5 := Lib.hid o5
  clear o5
  refine bodyPost_ret (by simp [results, Try.results50, go_sem, ↓IntWalk.iteOmega, *]; try rfl) rfl ⟨_, rfl, ⟨by rw [List.length_set]; exact O5.out, by rw [List.length_set]; exact hL⟩, E5⟩
end Go.Proofs.Ytkfonacokamfiaa
/- An append of a whole row that is held. -/
namespace Go.Proofs.Ytkfonacokamfiaa
open Go.RowKit
section
variable {P : Program} {w : World} {ops : Array Oper} {rest : List Oper} {o : Oper} {a : Act} {Q : Exit → Act → World → Prop}
/-- An append of a whole row that is held. -/
theorem wpList_append_two (hgd : o.guard = none) (s x : Operand) (t e : TypeId) (size bytes : Nat) (R : RowT P t e size bytes)
    (ho : o.op = .call { callee := .builtin .append, args := #[s, x], argTypes := #[t, t] }) (v : Value) (hs : a.eval s = v) (n : Nat) (xs : List Value) (hown : Owns w e size v n xs)
    (u : Value) (hx : a.eval x = u) (m : Nat) (news : List Value) (hown2 : Owns w e size u m news) (h1 : ∀ u ∈ news, u.oneCell' = true)
    (h63 : n + m ≤ maxLen) (hbytes : (n + m) * bytes ≤ 140737488355328)
    (h : ∀ v' w', Owns w' e size v' (n + m) (xs ++ news) → w.grownBy w' v.ownBlock → (v'.ownBlock = v.ownBlock ∨ v'.ownBlock = some w.heap.size) → wpList P ops Q rest (a.put o.dst v') w') : wpList P ops Q (o :: rest) a w := by
  have H2 := hown2
  rcases hown2.2 with ⟨rfl, rfl⟩ | ⟨g, cap, cur, rfl, _⟩
  · have hn : news = [] := List.eq_nil_of_length_eq_zero (by simpa using H2.1)
    subst hn
    exact wpList_append_owns_nil hgd s x t e size bytes R ho v hs n xs hown hx (h v w (by simpa using hown) ⟨rfl, rfl, rfl, Nat.le_refl _, fun _ _ _ => rfl⟩ (.inl rfl))
  · exact wpList_append_owns hgd s x t e size bytes R ho v hs n xs hown ⟨g, 0, none⟩ m cap hx news H2.1 (fun j y hy => by rw [add0]; exact H2.cells (g := g) rfl j y hy) h1 h63 hbytes h
end

end Go.Proofs.Ytkfonacokamfiaa
