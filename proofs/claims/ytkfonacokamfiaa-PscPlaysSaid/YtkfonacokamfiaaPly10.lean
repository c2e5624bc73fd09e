/- Joined texts, part 10 of what the law stands on: each as its own head says. -/
import Derived.Test.YtkfonacokamfiaaPly9
/- The document's caches: Put of a key that isn't there; Put. -/
namespace Go.Proofs.Ytkfonacokamfiaa
set_option linter.unusedVariables false
set_option linter.unusedSimpArgs false
open Go.RowKit
attribute [local go_sem] wext_cell wext_frozen wext_heap alloc_cell alloc_frozen alloc_heap setCell_cell objCell_cells objFrozen_cells
attribute [local go_sem high] refKey_eql

set_option maxHeartbeats 2000000 in
theorem refPut_new (L : List (Key × Line)) (k : Key) (x : Line) (pick : Int) (v : Value) (r : Nat) (w : World) (ho : RefAt w v L) (hl : look k L 0 = none) (hLr : L.length ≤ r) (hr64 : r ≤ 64)
    (hp0 : -9223372036854775808 ≤ pick) (hp1 : pick ≤ 9223372036854775807) :
    Calls Try.prog 50 #[.agg #[v, .int .i64 r], k.val, x.val, .int .i64 pick] w (EndRef (putC k x pick r L) r w) := by
  have HO := Lib.hid ho
  have hL := ho.2
  obtain ⟨p, l, t⟩ := k
  obtain ⟨a, cap, rfl, hn, hm⟩ := ho.1.form
  unfold maxLen at hm
  have hix := ix_look ⟨p, l, t⟩ L 0
  have hfc := fun w ho => find_c L ⟨p, l, t⟩ (.slice a L.length cap) r w ho
  have hi : ixK ⟨p, l, t⟩ (keysOf L) 0 = -1 := by have : ixK ⟨p, l, t⟩ (keysOf L) 0 = _ := hix; rw [this, hl]
  rw [hi] at hfc
  have hhas : hasK ⟨p, l, t⟩ L = false := by unfold hasK; rw [hl]; rfl
  have hput : putC ⟨p, l, t⟩ x pick r L = if r = 0 then L else (if L.length < r then L else evictL pick L) ++ [(⟨p, l, t⟩, x)] := by unfold putC; rw [hhas]; simp
  generalize hLE : putC ⟨p, l, t⟩ x pick r L = LE at hput ⊢
  have HLE := Aside.mk hput
  obtain ⟨xf, xa, xb, xc, xd, xm⟩ := x
  unfold Key.val Line.val at *
  have HF := Lib.hid hfc
  clear hix ho hl hi hfc hput hhas hLE
  go_enter Try.func50, Try.ntmps50
  go_upto_region 7 with (first | (go_at_call 59; refine (HF.out _ (HO.out.ext (by repeat (first | exact Ext.refl _ | assumption | refine Ext.alloc ?_ _ | refine Ext.drew ?_ | refine Ext.setCell ?_ (by first | (simp; done) | (dsimp only; omega)) _ | refine Ext.trans ?_ (by assumption))))).mono ?_; rintro e w2 ⟨rfl, hb2⟩))
  have B0 := (hb2.block w.heap.size (by simp; omega)).trans ((alloc_other _ _ (by simp; omega)).trans ((alloc_other _ _ (by simp; omega)).trans ((alloc_other _ _ (by simp)).trans (alloc_same ..))))
  have B1 := (hb2.block (w.heap.size + 1) (by simp)).trans ((alloc_other _ _ (by simp)).trans ((alloc_other _ _ (by simp)).trans (alloc_same1 ..)))
  have B2 := (hb2.block (w.heap.size + 1 + 1) (by simp)).trans ((alloc_other _ _ (by simp)).trans (alloc_same2 ..))
  have B3 := (hb2.block (w.heap.size + 1 + 1 + 1) (by simp)).trans (alloc_same3 ..)
  have E2 : Ext w w2 := Ext.trans (by repeat (first | exact Ext.refl _ | assumption | refine Ext.alloc ?_ _ | refine Ext.drew ?_ | refine Ext.setCell ?_ (by first | (simp; done) | (dsimp only; omega)) _ | refine Ext.trans ?_ (by assumption))) hb2
  have hsz := heap_lt B3
  have p0 := (heap_cell B0 0).trans rfl
  have p1 := (heap_cell B0 1).trans rfl
  have r0 := (heap_cell B3 0).trans rfl
  have r1 := (heap_cell B3 1).trans rfl
  have f3 := frozen_of B3
  have BB0 := Lib.hid B0
  have BB1 := Lib.hid B1
  have BB2 := Lib.hid B2
  have BB3 := Lib.hid B3
  have EE := Lib.hid E2
  clear hb2 B0 B1 B2 B3 E2
  by_cases hr : r = 0
  · subst hr
    go_wp2
    refine post_gen (fun U => U.heap[w.heap.size + 1 + 1 + 1]? = some (.cells #[.slice a L.length cap, .int .i64 0] 28 (0, 0)) ∧ RefAt U (.slice a L.length cap) L ∧ Ext w U) ⟨?_, ?_, ?_⟩ ?_
    · exact store2_heap BB3.out
    · exact (HO.out.ext EE.out).store2 BB3.out
    · exact Ext.setCell (Ext.setCell EE.out (by simp; omega) _) (by simp; omega) _
    rintro U ⟨m5, o5, E5⟩
    have v0 := (heap_cell m5 0).trans rfl
    have v1 := (heap_cell m5 1).trans rfl
    have O5 := Lib.hid o5
    clear m5 o5 p0 p1 r0 r1 f3
    refine bodyPost_ret (by simp [results, Try.results50, go_sem, ↓IntWalk.iteOmega, *]; try rfl) rfl ⟨_, rfl, by rw [HLE.out, if_pos trivial]; exact O5.out, E5⟩
  have hr1 : ((r : Int) == 0) = false := by simpa using hr
  have HC := Lib.hid (HO.out.ext EE.out)
  go_upto_if 38 with (fail)
  go_cut [] (fun wx => ∃ a6 c6 L6, Hid (RefAt wx (.slice a6 L6.length c6) L6 ∧ wx.heap[w.heap.size]? = some (.cells #[.slice a6 L6.length c6, .int .i64 r] 28 (0, 0)) ∧
    LE = L6 ++ [(⟨p, l, t⟩, ⟨xf, xa, xb, xc, xd, xm⟩)] ∧ L6.length ≤ 64 ∧ c6 ≤ maxLen ∧ Ext w wx ∧
    wx.heap[w.heap.size + 1]? = some (.cells #[.int .i64 p, .int .i64 l, .int .u64 t] 93 (0, 0)) ∧
    wx.heap[w.heap.size + 1 + 1]? = some (.cells #[.int .u64 xf, .bool xa, .bool xb, .bool xc, .bool xd, .int .u8 xm] 90 (0, 0)) ∧
    wx.heap[w.heap.size + 1 + 1 + 1]? = some (.cells #[.slice none 0 0, .int .i64 0] 28 (0, 0))))
  case first =>
    by_cases hfull : L.length < r
    · go_wp2
      go_meet
      exact ⟨a, cap, L, ⟨HC.out, BB0.out, by rw [HLE.out, if_neg hr, if_pos hfull], by omega, by unfold maxLen; omega, EE.out, BB1.out, BB2.out, BB3.out⟩⟩
    · have h0 : L.length ≠ 0 := by omega
      have hdel : evictL pick L = woL (pickI pick L.length) L := by
        unfold evictL woL
        rw [if_neg h0, if_neg (by have := Int.emod_nonneg pick (b := (L.length : Int)) (by omega); unfold pickI; omega)]
      have hq : 0 ≤ pickI pick L.length ∧ pickI pick L.length ≤ 1000 := by
        have := Int.emod_nonneg pick (b := (L.length : Int)) (by omega)
        have := Int.emod_lt_of_pos pick (b := (L.length : Int)) (by omega)
        unfold pickI; omega
      have hpc := fun w => picked_c pick L.length w hp0 hp1 (by omega) (by omega)
      have hev := evictL_length (pick := pick) (L := L) (by omega)
      generalize pickI pick L.length = q at hdel hq hpc
      rw [hdel] at hev
      have HP := Lib.hid hpc
      have HD := Aside.mk hdel
      have HEV := Aside.mk hev
      clear hdel hpc hev
      obtain ⟨hq0, hq1⟩ := hq
      have f0 := frozen_of BB0.out
      go_upto_region 10 with (fail)
      refine region_mix [.q [0, 1, 2, 3, 4], .l 5 3, .l 6 3, .l 7 2] (by kernel_rfl) (by kernel_rfl) ?_
      (try refine ⟨fun h => absurd h (by simp), ?_⟩); (repeat (unfold wpPlan; simp only [pickL, List.map_cons, List.map_nil, List.getD_cons_succ, List.getD_cons_zero]; (repeat go_big_quiet_step (fail)); refine wpQuiet_nil ?_)); unfold wpPlan; intro w3 hb3; (try simp only [pickL, List.map_cons, List.map_nil, List.getD_cons_succ, List.getD_cons_zero])
      go_wp2_with (first | (go_at_call 71; refine (HP.out _).mono ?_; rintro e w4 ⟨rfl, hb4⟩))
      refine ⟨?_, ?_⟩
      · (try intro _); exact hb3.trans hb4
      have HB4 := Lib.hid (hb3.trans hb4)
      clear hb3 hb4
      (try refine ⟨fun h => absurd h (by simp), ?_⟩); (repeat (unfold wpPlan; simp only [pickL, List.map_cons, List.map_nil, List.getD_cons_succ, List.getD_cons_zero]; (repeat go_big_quiet_step (fail)); refine wpQuiet_nil ?_)); unfold wpPlan; intro w5 hb5; (try simp only [pickL, List.map_cons, List.map_nil, List.getD_cons_succ, List.getD_cons_zero])
      go_wp2_with (first | (go_at_call 70; refine (without_c L q _ r _ ((HC.out.ext HB4.out).ext hb5) (by omega) (by omega)).mono ?_; rintro e w6 ⟨v6, rfl, hv6, hb6⟩; obtain ⟨a6, c6, rfl, -, hc6⟩ := hv6.1.form))
      refine ⟨?_, ?_⟩
      · (try intro _); exact hb5.trans hb6
      have HB6 := Lib.hid (HB4.out.trans (hb5.trans hb6))
      have HV6 := Lib.hid hv6
      clear hb5 hb6 hv6
      (try refine ⟨fun h => absurd h (by simp), ?_⟩); (repeat (unfold wpPlan; simp only [pickL, List.map_cons, List.map_nil, List.getD_cons_succ, List.getD_cons_zero]; (repeat go_big_quiet_step (fail)); refine wpQuiet_nil ?_)); unfold wpPlan; intro w7 hb7; (try simp only [pickL, List.map_cons, List.map_nil, List.getD_cons_succ, List.getD_cons_zero])
      have E7 := HB6.out.trans hb7
      have m0 := (E7.block _ (by omega)).trans BB0.out
      have y0 := (heap_cell m0 0).trans rfl
      have y1 := (heap_cell m0 1).trans rfl
      have z0 := frozen_of m0
      have M0 := Lib.hid m0
      have HB7 := Lib.hid E7
      have hV7 := HV6.out.ext hb7
      have HV7 := Lib.hid hV7
      clear hb7 m0 hV7 E7
      go_wp2
      (try refine ⟨fun h => absurd h (by simp), ?_⟩); (repeat (unfold wpPlan; simp only [pickL, List.map_cons, List.map_nil, List.getD_cons_succ, List.getD_cons_zero]; (repeat go_big_quiet_step (fail)); refine wpQuiet_nil ?_)); unfold wpPlan; intro w8 hb8; (try simp only [pickL, List.map_cons, List.map_nil, List.getD_cons_succ, List.getD_cons_zero])
      have hz7 := HB7.out.size
      go_wp2
      go_meet
      refine ⟨a6, c6, woL q L, ⟨(HV7.out.store2 M0.out).ext hb8, ?_, ?_, ?_, hc6, ?_, ?_, ?_, ?_⟩⟩
      · exact (hb8.block _ (by simp; omega)).trans (store2_heap M0.out)
      · rw [HLE.out, if_neg hr, if_neg hfull, HD.out]
      · rw [HEV.out]; omega
      · exact (Ext.setCell (Ext.setCell (EE.out.trans HB7.out) (by simp) _) (by simp) _).trans hb8
      · exact (hb8.block _ (by simp; omega)).trans ((setCell_heap _ _ _ _ _ (by omega)).trans ((setCell_heap _ _ _ _ _ (by omega)).trans ((HB7.out.block _ (by omega)).trans BB1.out)))
      · exact (hb8.block _ (by simp; omega)).trans ((setCell_heap _ _ _ _ _ (by omega)).trans ((setCell_heap _ _ _ _ _ (by omega)).trans ((HB7.out.block _ (by omega)).trans BB2.out)))
      · exact (hb8.block _ (by simp; omega)).trans ((setCell_heap _ _ _ _ _ (by omega)).trans ((setCell_heap _ _ _ _ _ (by omega)).trans ((HB7.out.block _ (by omega)).trans BB3.out)))
  case rest =>
    obtain ⟨a6, c6, L6, hcut⟩ := hcut
    obtain ⟨P1, P2, P3, h64, hcm, P4, P5, P6, P7⟩ := hcut.out
    unfold maxLen at hcm
    have x0 := (heap_cell P2 0).trans rfl
    have x1 := (heap_cell P2 1).trans rfl
    have k0 := (heap_cell P5 0).trans rfl
    have k1 := (heap_cell P5 1).trans rfl
    have k2 := (heap_cell P5 2).trans rfl
    have l0 := (heap_cell P6 0).trans rfl
    have l1 := (heap_cell P6 1).trans rfl
    have l2 := (heap_cell P6 2).trans rfl
    have l3 := (heap_cell P6 3).trans rfl
    have l4 := (heap_cell P6 4).trans rfl
    have l5 := (heap_cell P6 5).trans rfl
    have hlt3 := heap_lt P7
    have Q1 := Lib.hid P1
    have Q2 := Lib.hid P2
    have Q3 := Aside.mk P3
    have Q4 := Lib.hid P4
    have Q5 := Lib.hid P5
    have Q6 := Lib.hid P6
    have Q7 := Lib.hid P7
    have HA := Lib.hid (P1.1.ext ((Ext.refl wc).alloc (.cells #[] 127)))
    clear hcut P1 P2 P3 P4 P5 P6 P7 p0 p1 r0 r1 f3
    go_upto_region 12 with (first | (at_builtin; refine wpList_append_two rfl _ _ _ _ 9 40 pairRow rfl _ rfl 0 [] (Owns.fresh (c := #[]) (alloc_same ..)) _ rfl L6.length (rowP L6) HA.out (rowP_one L6) (by unfold maxLen; omega) (by omega) ?_; intro v3 w3 q1 q2 q3; replace q2 : (wc.alloc (.cells #[] 127)).grownBy w3 (some wc.heap.size) := q2; replace q3 : v3.ownBlock = some wc.heap.size ∨ v3.ownBlock = some (wc.alloc (.cells #[] 127)).heap.size := q3; obtain ⟨a3, c3, rfl, -, -⟩ := q1.form; simp only [Act.put, Array.set!_eq_setIfInBounds, List.setIfInBounds_toArray, List.set_cons_succ, List.set_cons_zero]))
    rw [Nat.zero_add, List.nil_append] at q1
    rw [Nat.zero_add]
    have E3 : Ext wc w3 := Keeps.to_ext (F := []) (Ext.refl wc) ((Keeps.of_ext ((Ext.refl wc).alloc _)).grown q2 (fun x hx => .inr (by cases hx; exact Nat.le_refl _))) (by simp)
    have hg3 : ∀ g, (Value.slice a3 L6.length c3).ownBlock = some g → wc.heap.size ≤ g := fun g hg => by
      rw [Nat.zero_add] at q3
      rcases q3 with q3 | q3 <;> (rw [q3] at hg; cases hg; simp)
    have HE3 := Lib.hid E3
    have G3 := Lib.hid hg3
    have O3 := Lib.hid q1
    have O3a := Lib.hid (q1.ext ((Ext.refl w3).alloc (.cells #[.int .i64 p, .int .i64 l, .int .u64 t, .int .u64 xf, .bool xa, .bool xb, .bool xc, .bool xd, .int .u8 xm] 127)))
    have s3 := E3.size
    have k0 := E3.someCell k0
    have k1 := E3.someCell k1
    have k2 := E3.someCell k2
    have l0 := E3.someCell l0
    have l1 := E3.someCell l1
    have l2 := E3.someCell l2
    have l3 := E3.someCell l3
    have l4 := E3.someCell l4
    have l5 := E3.someCell l5
    clear q1 q2 q3 hg3 E3 HA x0 x1
    go_upto_region 13 with (first | (at_builtin; refine wpList_append_owns rfl _ _ _ _ 9 40 pairRow rfl _ rfl L6.length _ O3a.out _ 1 1 rfl (pairC (⟨p, l, t⟩, ⟨xf, xa, xb, xc, xd, xm⟩)) rfl (fun j u hu => by rw [add0, heap_cell (alloc_same w3 _) j]; simpa [pairC] using hu) (by simp [pairC, Value.oneCell']) (by unfold maxLen; omega) (by omega) ?_; intro v9 w9 q1 q2 q3; replace q2 : (w3.alloc (.cells #[.int .i64 p, .int .i64 l, .int .u64 t, .int .u64 xf, .bool xa, .bool xb, .bool xc, .bool xd, .int .u8 xm] 127)).grownBy w9 (Value.slice a3 L6.length c3).ownBlock := q2; replace q3 : v9.ownBlock = (Value.slice a3 L6.length c3).ownBlock ∨ v9.ownBlock = some (w3.alloc (.cells #[.int .i64 p, .int .i64 l, .int .u64 t, .int .u64 xf, .bool xa, .bool xb, .bool xc, .bool xd, .int .u8 xm] 127)).heap.size := q3; obtain ⟨a9, c9, rfl, -, -⟩ := q1.form; simp only [Act.put, Array.set!_eq_setIfInBounds, List.setIfInBounds_toArray, List.set_cons_succ, List.set_cons_zero]))
    have E9 : Ext wc w9 := Keeps.to_ext (F := []) (Ext.refl wc) ((Keeps.of_ext (HE3.out.alloc _)).grown q2 (fun x hx => .inr (G3.out x hx))) (by simp)
    have hg9 : ∀ g, (Value.slice a9 (L6.length + 1) c9).ownBlock = some g → wc.heap.size ≤ g := fun g hg => by
      rcases q3 with q3 | q3 <;> rw [q3] at hg
      · exact G3.out g hg
      · cases hg; simp; omega
    have hown9 : Owns w9 127 9 (.slice a9 (L6.length + 1) c9) (L6 ++ [((⟨p, l, t⟩ : Key), (⟨xf, xa, xb, xc, xd, xm⟩ : Line))]).length (rowP (L6 ++ [(⟨p, l, t⟩, ⟨xf, xa, xb, xc, xd, xm⟩)])) := by
      rw [rowP_append, List.length_append]; simpa [rowP] using q1
    have O9 := Lib.hid hown9
    have G9 := Lib.hid hg9
    have m0 := (E9.block _ (by omega)).trans Q2.out
    have m3 := (E9.block _ (by omega)).trans Q7.out
    have p0 := (heap_cell m0 0).trans rfl
    have p1 := (heap_cell m0 1).trans rfl
    have r0 := (heap_cell m3 0).trans rfl
    have r1 := (heap_cell m3 1).trans rfl
    have f0 := frozen_of m0
    have f3 := frozen_of m3
    have s9 := E9.size
    have M0 := Lib.hid m0
    have M3 := Lib.hid m3
    have HE9 := Lib.hid E9
    clear q1 q2 q3 m0 m3 hown9 hg9 E9 k0 k1 k2 l0 l1 l2 l3 l4 l5
    go_wp2
    refine post_gen (fun U => U.heap[w.heap.size + 1 + 1 + 1]? = some (.cells #[.slice a9 (L6.length + 1) c9, .int .i64 r] 28 (0, 0)) ∧ RefAt U (.slice a9 (L6.length + 1) c9) (L6 ++ [((⟨p, l, t⟩ : Key), (⟨xf, xa, xb, xc, xd, xm⟩ : Line))]) ∧ Ext w U) ⟨?_, ?_, ?_⟩ ?_
    · exact store2_heap ((setCell_heap _ _ _ _ _ (by omega)).trans M3.out)
    · refine ⟨O9.out.keep fun g' hg' => ?_, by simp; omega⟩
      have := G9.out g' hg'
      rw [setCell_heap _ _ _ _ _ (by omega), setCell_heap _ _ _ _ _ (by omega), setCell_heap _ _ _ _ _ (by omega)]
    · exact Ext.setCell (Ext.setCell (Ext.setCell (Q4.out.trans HE9.out) (by simp) _) (by simp; omega) _) (by simp; omega) _
    rintro U ⟨m5, o5, E5⟩
    have v0 := (heap_cell m5 0).trans rfl
    have v1 := (heap_cell m5 1).trans rfl
    have O5 := Lib.hid o5
    clear m5 o5 p0 p1 r0 r1 f0 f3
    refine bodyPost_ret (by simp [results, Try.results50, go_sem, ↓IntWalk.iteOmega, *]; try rfl) rfl ⟨_, rfl, by rw [Q3.out]; exact O5.out, E5⟩

theorem putL_set {k : Key} {x : Line} {L : List (Key × Line)} {i : Nat} {y : Line} (h : look k L 0 = some (i, y)) : putL k x L = L.set i (k, x) := by
  unfold putL; rw [h]

theorem refPut_c (L : List (Key × Line)) (k : Key) (x : Line) (pick : Int) (v : Value) (r : Nat) (w : World) (ho : RefAt w v L) (hLr : L.length ≤ r) (hr64 : r ≤ 64)
    (hp0 : -9223372036854775808 ≤ pick) (hp1 : pick ≤ 9223372036854775807) :
    Calls Try.prog 50 #[.agg #[v, .int .i64 r], k.val, x.val, .int .i64 pick] w (EndRef (putC k x pick r L) r w) := by
  cases hl : look k L 0 with
  | none => exact refPut_new L k x pick v r w ho hl hLr hr64 hp0 hp1
  | some y =>
    obtain ⟨i, y⟩ := y
    have hlt : i < L.length := (List.getElem?_eq_some_iff.1 (look_some hl).2.1).1
    have e : putC k x pick r L = L.set i (k, x) := by
      unfold putC
      rw [if_neg (by omega), if_pos (by unfold hasK; rw [hl]; rfl), putL_set hl]
    rw [e]
    exact refPut_has L k x i y pick v r w ho hl
end Go.Proofs.Ytkfonacokamfiaa
