/- Joined texts, part 2 of what the law stands on: each as its own head says. -/
import Derived.DeepKeys3
import Derived.ChangeMaps5
import Derived.OpenShut
import Derived.Laws.BitsAllLaws
import Derived.Test.YtfaekfdngkpkdaaPsk1
/- The document's caches: Put of a key that isn't there; Put. -/
namespace Go.Proofs.Ytfaekfdngkpkdaa
set_option linter.unusedVariables false
set_option linter.unusedSimpArgs false
open Go.RowKit
attribute [local go_sem] wext_cell wext_frozen wext_heap alloc_cell alloc_frozen alloc_heap setCell_cell objCell_cells objFrozen_cells
attribute [local go_sem high] refKey_eql

set_option maxHeartbeats 2000000 in
theorem refPut_new (L : List (Key × Line)) (k : Key) (x : Line) (pick : Int) (v : Value) (r : Nat) (w : World) (ho : RefAt w v L) (hl : look k L 0 = none) (hLr : L.length ≤ r) (hr64 : r ≤ 64)
    (hp0 : -9223372036854775808 ≤ pick) (hp1 : pick ≤ 9223372036854775807) :
    Calls Try.prog 123 #[.agg #[v, .int .i64 r], k.val, x.val, .int .i64 pick] w (EndRef (putC k x pick r L) r w) := by
  have HO := Lib.hid ho
  have hL := ho.2
  obtain ⟨p, l, t⟩ := k
  obtain ⟨a, cap, rfl, hn, hm⟩ := ho.1.form
  unfold maxLen at hm
  have hix := ix_look ⟨p, l, t⟩ L 0
  have hfc := fun w ho => find_c L ⟨p, l, t⟩ (.slice a L.length cap) r w ho
  have hi : ixK ⟨p, l, t⟩ (keysOf L) 0 = -1 := by have : ixK ⟨p, l, t⟩ (keysOf L) 0 = _ := hix; rw [this, hl]
  rw [hi] at hfc
  have hhas : hasK ⟨p, l, t⟩ L = false := by unfold hasK; rw [hl]; rfl
  have hput : putC ⟨p, l, t⟩ x pick r L = if r = 0 then L else (if L.length < r then L else evictL pick L) ++ [(⟨p, l, t⟩, x)] := by unfold putC; rw [hhas]; simp
  generalize hLE : putC ⟨p, l, t⟩ x pick r L = LE at hput ⊢
  have HLE := Aside.mk hput
  obtain ⟨xf, xa, xb, xc, xd, xm⟩ := x
  unfold Key.val Line.val at *
  have HF := Lib.hid hfc
  clear hix ho hl hi hfc hput hhas hLE
  go_enter Try.func123, Try.ntmps123
  go_upto_region 7 with (first | (go_at_call 127; refine (HF.out _ (HO.out.ext (by repeat (first | exact Ext.refl _ | assumption | refine Ext.alloc ?_ _ | refine Ext.drew ?_ | refine Ext.setCell ?_ (by first | (simp; done) | (dsimp only; omega)) _ | refine Ext.trans ?_ (by assumption))))).mono ?_; rintro e w2 ⟨rfl, hb2⟩))
  have B0 := (hb2.block w.heap.size (by simp; omega)).trans ((alloc_other _ _ (by simp; omega)).trans ((alloc_other _ _ (by simp; omega)).trans ((alloc_other _ _ (by simp)).trans (alloc_same ..))))
  have B1 := (hb2.block (w.heap.size + 1) (by simp)).trans ((alloc_other _ _ (by simp)).trans ((alloc_other _ _ (by simp)).trans (alloc_same1 ..)))
  have B2 := (hb2.block (w.heap.size + 1 + 1) (by simp)).trans ((alloc_other _ _ (by simp)).trans (alloc_same2 ..))
  have B3 := (hb2.block (w.heap.size + 1 + 1 + 1) (by simp)).trans (alloc_same3 ..)
  have E2 : Ext w w2 := Ext.trans (by repeat (first | exact Ext.refl _ | assumption | refine Ext.alloc ?_ _ | refine Ext.drew ?_ | refine Ext.setCell ?_ (by first | (simp; done) | (dsimp only; omega)) _ | refine Ext.trans ?_ (by assumption))) hb2
  have hsz := heap_lt B3
  have p0 := (heap_cell B0 0).trans rfl
  have p1 := (heap_cell B0 1).trans rfl
  have r0 := (heap_cell B3 0).trans rfl
  have r1 := (heap_cell B3 1).trans rfl
  have f3 := frozen_of B3
  have BB0 := Lib.hid B0
  have BB1 := Lib.hid B1
  have BB2 := Lib.hid B2
  have BB3 := Lib.hid B3
  have EE := Lib.hid E2
  clear hb2 B0 B1 B2 B3 E2
  by_cases hr : r = 0
  · subst hr
    go_wp2
    refine post_gen (fun U => U.heap[w.heap.size + 1 + 1 + 1]? = some (.cells #[.slice a L.length cap, .int .i64 0] 81 (0, 0)) ∧ RefAt U (.slice a L.length cap) L ∧ Ext w U) ⟨?_, ?_, ?_⟩ ?_
    · exact store2_heap BB3.out
    · exact (HO.out.ext EE.out).store2 BB3.out
    · exact Ext.setCell (Ext.setCell EE.out (by simp; omega) _) (by simp; omega) _
    rintro U ⟨m5, o5, E5⟩
    have v0 := (heap_cell m5 0).trans rfl
    have v1 := (heap_cell m5 1).trans rfl
    have O5 := Lib.hid o5
    clear m5 o5 p0 p1 r0 r1 f3
    refine bodyPost_ret (by simp [results, Try.results123, go_sem, ↓IntWalk.iteOmega, *]; try rfl) rfl ⟨_, rfl, by rw [HLE.out, if_pos trivial]; exact O5.out, E5⟩
  have hr1 : ((r : Int) == 0) = false := by simpa using hr
  have HC := Lib.hid (HO.out.ext EE.out)
  go_upto_if 38 with (fail)
  go_cut [] (fun wx => ∃ a6 c6 L6, Hid (RefAt wx (.slice a6 L6.length c6) L6 ∧ wx.heap[w.heap.size]? = some (.cells #[.slice a6 L6.length c6, .int .i64 r] 81 (0, 0)) ∧
    LE = L6 ++ [(⟨p, l, t⟩, ⟨xf, xa, xb, xc, xd, xm⟩)] ∧ L6.length ≤ 64 ∧ c6 ≤ maxLen ∧ Ext w wx ∧
    wx.heap[w.heap.size + 1]? = some (.cells #[.int .i64 p, .int .i64 l, .int .u64 t] 178 (0, 0)) ∧
    wx.heap[w.heap.size + 1 + 1]? = some (.cells #[.int .u64 xf, .bool xa, .bool xb, .bool xc, .bool xd, .int .u8 xm] 175 (0, 0)) ∧
    wx.heap[w.heap.size + 1 + 1 + 1]? = some (.cells #[.slice none 0 0, .int .i64 0] 81 (0, 0))))
  case first =>
    by_cases hfull : L.length < r
    · go_wp2
      go_meet
      exact ⟨a, cap, L, ⟨HC.out, BB0.out, by rw [HLE.out, if_neg hr, if_pos hfull], by omega, by unfold maxLen; omega, EE.out, BB1.out, BB2.out, BB3.out⟩⟩
    · have h0 : L.length ≠ 0 := by omega
      have hdel : evictL pick L = woL (pickI pick L.length) L := by
        unfold evictL woL
        rw [if_neg h0, if_neg (by have := Int.emod_nonneg pick (b := (L.length : Int)) (by omega); unfold pickI; omega)]
      have hq : 0 ≤ pickI pick L.length ∧ pickI pick L.length ≤ 1000 := by
        have := Int.emod_nonneg pick (b := (L.length : Int)) (by omega)
        have := Int.emod_lt_of_pos pick (b := (L.length : Int)) (by omega)
        unfold pickI; omega
      have hpc := fun w => picked_c pick L.length w hp0 hp1 (by omega) (by omega)
      have hev := evictL_length (pick := pick) (L := L) (by omega)
      generalize pickI pick L.length = q at hdel hq hpc
      rw [hdel] at hev
      have HP := Lib.hid hpc
      have HD := Aside.mk hdel
      have HEV := Aside.mk hev
      clear hdel hpc hev
      obtain ⟨hq0, hq1⟩ := hq
      have f0 := frozen_of BB0.out
      go_upto_region 10 with (fail)
      refine region_mix [.q [0, 1, 2, 3, 4], .l 5 3, .l 6 3, .l 7 2] (by kernel_rfl) (by kernel_rfl) ?_
      (try refine ⟨fun h => absurd h (by simp), ?_⟩); (repeat (unfold wpPlan; simp only [pickL, List.map_cons, List.map_nil, List.getD_cons_succ, List.getD_cons_zero]; (repeat go_big_quiet_step (fail)); refine wpQuiet_nil ?_)); unfold wpPlan; intro w3 hb3; (try simp only [pickL, List.map_cons, List.map_nil, List.getD_cons_succ, List.getD_cons_zero])
      go_wp2_with (first | (go_at_call 142; refine (HP.out _).mono ?_; rintro e w4 ⟨rfl, hb4⟩))
      refine ⟨?_, ?_⟩
      · (try intro _); exact hb3.trans hb4
      have HB4 := Lib.hid (hb3.trans hb4)
      clear hb3 hb4
      (try refine ⟨fun h => absurd h (by simp), ?_⟩); (repeat (unfold wpPlan; simp only [pickL, List.map_cons, List.map_nil, List.getD_cons_succ, List.getD_cons_zero]; (repeat go_big_quiet_step (fail)); refine wpQuiet_nil ?_)); unfold wpPlan; intro w5 hb5; (try simp only [pickL, List.map_cons, List.map_nil, List.getD_cons_succ, List.getD_cons_zero])
      go_wp2_with (first | (go_at_call 141; refine (without_c L q _ r _ ((HC.out.ext HB4.out).ext hb5) (by omega) (by omega)).mono ?_; rintro e w6 ⟨v6, rfl, hv6, hb6⟩; obtain ⟨a6, c6, rfl, -, hc6⟩ := hv6.1.form))
      refine ⟨?_, ?_⟩
      · (try intro _); exact hb5.trans hb6
      have HB6 := Lib.hid (HB4.out.trans (hb5.trans hb6))
      have HV6 := Lib.hid hv6
      clear hb5 hb6 hv6
      (try refine ⟨fun h => absurd h (by simp), ?_⟩); (repeat (unfold wpPlan; simp only [pickL, List.map_cons, List.map_nil, List.getD_cons_succ, List.getD_cons_zero]; (repeat go_big_quiet_step (fail)); refine wpQuiet_nil ?_)); unfold wpPlan; intro w7 hb7; (try simp only [pickL, List.map_cons, List.map_nil, List.getD_cons_succ, List.getD_cons_zero])
      have E7 := HB6.out.trans hb7
      have m0 := (E7.block _ (by omega)).trans BB0.out
      have y0 := (heap_cell m0 0).trans rfl
      have y1 := (heap_cell m0 1).trans rfl
      have z0 := frozen_of m0
      have M0 := Lib.hid m0
      have HB7 := Lib.hid E7
      have hV7 := HV6.out.ext hb7
      have HV7 := Lib.hid hV7
      clear hb7 m0 hV7 E7
      go_wp2
      (try refine ⟨fun h => absurd h (by simp), ?_⟩); (repeat (unfold wpPlan; simp only [pickL, List.map_cons, List.map_nil, List.getD_cons_succ, List.getD_cons_zero]; (repeat go_big_quiet_step (fail)); refine wpQuiet_nil ?_)); unfold wpPlan; intro w8 hb8; (try simp only [pickL, List.map_cons, List.map_nil, List.getD_cons_succ, List.getD_cons_zero])
      have hz7 := HB7.out.size
      go_wp2
      go_meet
      refine ⟨a6, c6, woL q L, ⟨(HV7.out.store2 M0.out).ext hb8, ?_, ?_, ?_, hc6, ?_, ?_, ?_, ?_⟩⟩
      · exact (hb8.block _ (by simp; omega)).trans (store2_heap M0.out)
      · rw [HLE.out, if_neg hr, if_neg hfull, HD.out]
      · rw [HEV.out]; omega
      · exact (Ext.setCell (Ext.setCell (EE.out.trans HB7.out) (by simp) _) (by simp) _).trans hb8
      · exact (hb8.block _ (by simp; omega)).trans ((setCell_heap _ _ _ _ _ (by omega)).trans ((setCell_heap _ _ _ _ _ (by omega)).trans ((HB7.out.block _ (by omega)).trans BB1.out)))
      · exact (hb8.block _ (by simp; omega)).trans ((setCell_heap _ _ _ _ _ (by omega)).trans ((setCell_heap _ _ _ _ _ (by omega)).trans ((HB7.out.block _ (by omega)).trans BB2.out)))
      · exact (hb8.block _ (by simp; omega)).trans ((setCell_heap _ _ _ _ _ (by omega)).trans ((setCell_heap _ _ _ _ _ (by omega)).trans ((HB7.out.block _ (by omega)).trans BB3.out)))
  case rest =>
    obtain ⟨a6, c6, L6, hcut⟩ := hcut
    obtain ⟨P1, P2, P3, h64, hcm, P4, P5, P6, P7⟩ := hcut.out
    unfold maxLen at hcm
    have x0 := (heap_cell P2 0).trans rfl
    have x1 := (heap_cell P2 1).trans rfl
    have k0 := (heap_cell P5 0).trans rfl
    have k1 := (heap_cell P5 1).trans rfl
    have k2 := (heap_cell P5 2).trans rfl
    have l0 := (heap_cell P6 0).trans rfl
    have l1 := (heap_cell P6 1).trans rfl
    have l2 := (heap_cell P6 2).trans rfl
    have l3 := (heap_cell P6 3).trans rfl
    have l4 := (heap_cell P6 4).trans rfl
    have l5 := (heap_cell P6 5).trans rfl
    have hlt3 := heap_lt P7
    have Q1 := Lib.hid P1
    have Q2 := Lib.hid P2
    have Q3 := Aside.mk P3
    have Q4 := Lib.hid P4
    have Q5 := Lib.hid P5
    have Q6 := Lib.hid P6
    have Q7 := Lib.hid P7
    have HA := Lib.hid (P1.1.ext ((Ext.refl wc).alloc (.cells #[] 212)))
    clear hcut P1 P2 P3 P4 P5 P6 P7 p0 p1 r0 r1 f3
    go_upto_region 12 with (first | (at_builtin; refine wpList_append_two rfl _ _ _ _ 9 40 pairRow rfl _ rfl 0 [] (Owns.fresh (c := #[]) (alloc_same ..)) _ rfl L6.length (rowP L6) HA.out (rowP_one L6) (by unfold maxLen; omega) (by omega) ?_; intro v3 w3 q1 q2 q3; replace q2 : (wc.alloc (.cells #[] 212)).grownBy w3 (some wc.heap.size) := q2; replace q3 : v3.ownBlock = some wc.heap.size ∨ v3.ownBlock = some (wc.alloc (.cells #[] 212)).heap.size := q3; obtain ⟨a3, c3, rfl, -, -⟩ := q1.form; simp only [Act.put, Array.set!_eq_setIfInBounds, List.setIfInBounds_toArray, List.set_cons_succ, List.set_cons_zero]))
    rw [Nat.zero_add, List.nil_append] at q1
    rw [Nat.zero_add]
    have E3 : Ext wc w3 := Keeps.to_ext (F := []) (Ext.refl wc) ((Keeps.of_ext ((Ext.refl wc).alloc _)).grown q2 (fun x hx => .inr (by cases hx; exact Nat.le_refl _))) (by simp)
    have hg3 : ∀ g, (Value.slice a3 L6.length c3).ownBlock = some g → wc.heap.size ≤ g := fun g hg => by
      rw [Nat.zero_add] at q3
      rcases q3 with q3 | q3 <;> (rw [q3] at hg; cases hg; simp)
    have HE3 := Lib.hid E3
    have G3 := Lib.hid hg3
    have O3 := Lib.hid q1
    have O3a := Lib.hid (q1.ext ((Ext.refl w3).alloc (.cells #[.int .i64 p, .int .i64 l, .int .u64 t, .int .u64 xf, .bool xa, .bool xb, .bool xc, .bool xd, .int .u8 xm] 212)))
    have s3 := E3.size
    have k0 := E3.someCell k0
    have k1 := E3.someCell k1
    have k2 := E3.someCell k2
    have l0 := E3.someCell l0
    have l1 := E3.someCell l1
    have l2 := E3.someCell l2
    have l3 := E3.someCell l3
    have l4 := E3.someCell l4
    have l5 := E3.someCell l5
    clear q1 q2 q3 hg3 E3 HA x0 x1
    go_upto_region 13 with (first | (at_builtin; refine wpList_append_owns rfl _ _ _ _ 9 40 pairRow rfl _ rfl L6.length _ O3a.out _ 1 1 rfl (pairC (⟨p, l, t⟩, ⟨xf, xa, xb, xc, xd, xm⟩)) rfl (fun j u hu => by rw [add0, heap_cell (alloc_same w3 _) j]; simpa [pairC] using hu) (by simp [pairC, Value.oneCell']) (by unfold maxLen; omega) (by omega) ?_; intro v9 w9 q1 q2 q3; replace q2 : (w3.alloc (.cells #[.int .i64 p, .int .i64 l, .int .u64 t, .int .u64 xf, .bool xa, .bool xb, .bool xc, .bool xd, .int .u8 xm] 212)).grownBy w9 (Value.slice a3 L6.length c3).ownBlock := q2; replace q3 : v9.ownBlock = (Value.slice a3 L6.length c3).ownBlock ∨ v9.ownBlock = some (w3.alloc (.cells #[.int .i64 p, .int .i64 l, .int .u64 t, .int .u64 xf, .bool xa, .bool xb, .bool xc, .bool xd, .int .u8 xm] 212)).heap.size := q3; obtain ⟨a9, c9, rfl, -, -⟩ := q1.form; simp only [Act.put, Array.set!_eq_setIfInBounds, List.setIfInBounds_toArray, List.set_cons_succ, List.set_cons_zero]))
    have E9 : Ext wc w9 := Keeps.to_ext (F := []) (Ext.refl wc) ((Keeps.of_ext (HE3.out.alloc _)).grown q2 (fun x hx => .inr (G3.out x hx))) (by simp)
    have hg9 : ∀ g, (Value.slice a9 (L6.length + 1) c9).ownBlock = some g → wc.heap.size ≤ g := fun g hg => by
      rcases q3 with q3 | q3 <;> rw [q3] at hg
      · exact G3.out g hg
      · cases hg; simp; omega
    have hown9 : Owns w9 212 9 (.slice a9 (L6.length + 1) c9) (L6 ++ [((⟨p, l, t⟩ : Key), (⟨xf, xa, xb, xc, xd, xm⟩ : Line))]).length (rowP (L6 ++ [(⟨p, l, t⟩, ⟨xf, xa, xb, xc, xd, xm⟩)])) := by
      rw [rowP_append, List.length_append]; simpa [rowP] using q1
    have O9 := Lib.hid hown9
    have G9 := Lib.hid hg9
    have m0 := (E9.block _ (by omega)).trans Q2.out
    have m3 := (E9.block _ (by omega)).trans Q7.out
    have p0 := (heap_cell m0 0).trans rfl
    have p1 := (heap_cell m0 1).trans rfl
    have r0 := (heap_cell m3 0).trans rfl
    have r1 := (heap_cell m3 1).trans rfl
    have f0 := frozen_of m0
    have f3 := frozen_of m3
    have s9 := E9.size
    have M0 := Lib.hid m0
    have M3 := Lib.hid m3
    have HE9 := Lib.hid E9
    clear q1 q2 q3 m0 m3 hown9 hg9 E9 k0 k1 k2 l0 l1 l2 l3 l4 l5
    go_wp2
    refine post_gen (fun U => U.heap[w.heap.size + 1 + 1 + 1]? = some (.cells #[.slice a9 (L6.length + 1) c9, .int .i64 r] 81 (0, 0)) ∧ RefAt U (.slice a9 (L6.length + 1) c9) (L6 ++ [((⟨p, l, t⟩ : Key), (⟨xf, xa, xb, xc, xd, xm⟩ : Line))]) ∧ Ext w U) ⟨?_, ?_, ?_⟩ ?_
    · exact store2_heap ((setCell_heap _ _ _ _ _ (by omega)).trans M3.out)
    · refine ⟨O9.out.keep fun g' hg' => ?_, by simp; omega⟩
      have := G9.out g' hg'
      rw [setCell_heap _ _ _ _ _ (by omega), setCell_heap _ _ _ _ _ (by omega), setCell_heap _ _ _ _ _ (by omega)]
    · exact Ext.setCell (Ext.setCell (Ext.setCell (Q4.out.trans HE9.out) (by simp) _) (by simp; omega) _) (by simp; omega) _
    rintro U ⟨m5, o5, E5⟩
    have v0 := (heap_cell m5 0).trans rfl
    have v1 := (heap_cell m5 1).trans rfl
    have O5 := Lib.hid o5
    clear m5 o5 p0 p1 r0 r1 f0 f3
    refine bodyPost_ret (by simp [results, Try.results123, go_sem, ↓IntWalk.iteOmega, *]; try rfl) rfl ⟨_, rfl, by rw [Q3.out]; exact O5.out, E5⟩

theorem putL_set {k : Key} {x : Line} {L : List (Key × Line)} {i : Nat} {y : Line} (h : look k L 0 = some (i, y)) : putL k x L = L.set i (k, x) := by
  unfold putL; rw [h]

theorem refPut_c (L : List (Key × Line)) (k : Key) (x : Line) (pick : Int) (v : Value) (r : Nat) (w : World) (ho : RefAt w v L) (hLr : L.length ≤ r) (hr64 : r ≤ 64)
    (hp0 : -9223372036854775808 ≤ pick) (hp1 : pick ≤ 9223372036854775807) :
    Calls Try.prog 123 #[.agg #[v, .int .i64 r], k.val, x.val, .int .i64 pick] w (EndRef (putC k x pick r L) r w) := by
  cases hl : look k L 0 with
  | none => exact refPut_new L k x pick v r w ho hl hLr hr64 hp0 hp1
  | some y =>
    obtain ⟨i, y⟩ := y
    have hlt : i < L.length := (List.getElem?_eq_some_iff.1 (look_some hl).2.1).1
    have e : putC k x pick r L = L.set i (k, x) := by
      unfold putC
      rw [if_neg (by omega), if_pos (by unfold hasK; rw [hl]; rfl), putL_set hl]
    rw [e]
    exact refPut_has L k x i y pick v r w ho hl
end Go.Proofs.Ytfaekfdngkpkdaa
/- A region that draws its order, with several loud operations and ONE allocation that waits for none of them: a plan, walked once. Own text.
   Kinds: 0 blind, 1 quiet, 2 loud (nothing comes ahead of it), 4 the allocation, 5 loud that only lays new memory, 6 loud that keeps what was just allocated. The allocation may come ahead of those of the kinds 5 and 6 that stand before it in the plan: so the plan goes on from any block with the new object in it. -/
namespace Go.Proofs.Ytfaekfdngkpkdaa
open Go.RowKit
section
variable {P : Program} {ops : Array Oper} {Q : Exit → Act → World → Prop} {ia B : Nat} {obj : Obj}

def LateP (k B : Nat) (obj : Obj) (w w' : World) : Prop :=
  B ≤ w'.heap.size ∧ (k = 5 → Ext w w') ∧ (k = 6 → ∀ b, B ≤ b → w.heap[b]? = some obj → w'.heap[b]? = some obj)
theorem LateP.keep {k B : Nat} {obj : Obj} {w w' : World} (h : LateP k B obj w w') (hk : k = 5 ∨ k = 6) {b : Nat} (hb : B ≤ b) (ho : w.heap[b]? = some obj) : w'.heap[b]? = some obj := by
  rcases hk with hk | hk
  · rw [(h.2.1 hk).block b (Array.getElem?_eq_some_iff.1 ho).1]; exact ho
  · exact h.2.2 hk b hb ho

def ptrTo (b : Nat) : Value := .pointer (some ⟨b, 0, none⟩)
def wpMixA (P : Program) (ops : Array Oper) (Q : Exit → Act → World → Prop) (B : Nat) (obj : Obj) : List (Nat × Nat) → Act → World → Prop
  | [], a, w => ∀ w1, Ext w w1 → Q .normal a w1
  | (i, k) :: U, a, w => ∃ o, ops[i]? = some o ∧
    (k = 4 → ∀ b w1, Ext w w1 → B ≤ b → w1.heap[b]? = some obj → wpMixA P ops Q B obj U (a.put o.dst (ptrTo b)) w1) ∧
    (k ≠ 4 → 
    (Region.wanted o (yielded ops a.tmps) = true →
      (2 ≤ k → ∀ w1, Ext w w1 → o.wp P a w1 (fun a' w' => LateP k B obj w1 w' ∧ wpMixA P ops Q B obj U a' w') (fun _ _ _ => False)) ∧
      (k < 2 → ∃ v, (∀ w', (k = 0 ∨ Ext w w') → (execOp a.eval o).run P w' = .ok (.value v) w') ∧ wpMixA P ops Q B obj U (a.put o.dst v) w)) ∧
    (Region.wanted o (yielded ops a.tmps) = false → wpMixA P ops Q B obj U (a.put o.dst undef) w))

theorem mixA_cong {x : Nat × Nat} {L L' : List (Nat × Nat)} (a : Act) (w : World) (hB : B ≤ w.heap.size) (h : ∀ a w, B ≤ w.heap.size → wpMixA P ops Q B obj L a w → wpMixA P ops Q B obj L' a w) (hm : wpMixA P ops Q B obj (x :: L) a w) : wpMixA P ops Q B obj (x :: L') a w := by
  obtain ⟨i, k⟩ := x
  obtain ⟨o, ho, h0, h12⟩ := hm
  refine ⟨o, ho, fun hk b w1 hx hb hob => h _ _ (Nat.le_trans hB hx.size) (h0 hk b w1 hx hb hob), fun hk4 => ?_⟩
  obtain ⟨h1, h2⟩ := h12 hk4
  refine ⟨fun hw => ⟨fun hk w1 hx => upon_mono (fun a w hh => ⟨hh.1, h a w hh.1.1 hh.2⟩) (fun _ _ _ hf => hf) ((h1 hw).1 hk w1 hx), fun hk => ?_⟩, fun hw => h _ _ hB (h2 hw)⟩
  obtain ⟨v, a1, a3⟩ := (h1 hw).2 hk
  exact ⟨v, a1, h _ _ hB a3⟩

/-- Two that stand side by side and do not look at each other, the first one not loud, and blind if the second one is loud. -/
theorem mixA_swap {q kq i k : Nat} {R : List (Nat × Nat)} {oq oi : Oper} (hsel : Region.noSelect ops = true) (hq : ops[q]? = some oq) (hi : ops[i]? = some oi) (hap : oq.apart ops oi = true) (hkq : kq < 2) (hk : k = 2 ∨ k = 6 → kq = 0) (hk3 : k ≤ 6) (hk33 : k ≠ 3)
    (a : Act) (w : World) (hm : wpMixA P ops Q B obj ((q, kq) :: (i, k) :: R) a w) : wpMixA P ops Q B obj ((i, k) :: (q, kq) :: R) a w := by
  obtain ⟨p1, p2, p3⟩ := Oper.apart_spec hap
  have si := fun cs b => Region.noSelect_spec hsel i oi cs b hi
  have sq := fun cs b => Region.noSelect_spec hsel q oq cs b hq
  have wi : ∀ (a : Act) v, Region.wanted oi (yielded ops (a.put oq.dst v).tmps) = Region.wanted oi (yielded ops a.tmps) := fun a v => wanted_put oi a oq.dst v p1
  have wq : ∀ (a : Act) v, Region.wanted oq (yielded ops (a.put oi.dst v).tmps) = Region.wanted oq (yielded ops a.tmps) := fun a v => wanted_put oq a oi.dst v p3
  have ei : ∀ (a : Act) v, execOp (a.put oq.dst v).eval oi = execOp a.eval oi := fun a v => execOp_put oi si a oq.dst v p1
  have eq : ∀ (a : Act) v, execOp (a.put oi.dst v).eval oq = execOp a.eval oq := fun a v => execOp_put oq sq a oi.dst v p3
  have pc : ∀ (a : Act) v u, (a.put oq.dst v).put oi.dst u = (a.put oi.dst u).put oq.dst v := fun a v u => Act.put_comm a v u p2
  obtain ⟨oq', hq', -, h12⟩ := hm
  obtain ⟨h1, h2⟩ := h12 (by omega)
  obtain rfl : oq' = oq := Option.some.inj (hq'.symm.trans hq)
  -- what the first one leaves, and that it leaves it from any frame that has the second one's value too
  have key : ∃ vq, wpMixA P ops Q B obj ((i, k) :: R) (a.put oq'.dst vq) w ∧ ∀ (u : Value) (D : List Deferred) (w' : World), (kq = 0 ∨ Ext w w') →
      wpMixA P ops Q B obj R ({ (a.put oi.dst u).put oq'.dst vq with defers := D }) w' → wpMixA P ops Q B obj ((q, kq) :: R) ({ a.put oi.dst u with defers := D }) w' := by
    cases hw : Region.wanted oq' (yielded ops a.tmps) with
    | true =>
      obtain ⟨vq, b0, hmix⟩ := (h1 hw).2 hkq
      refine ⟨vq, hmix, fun u D w' hw' hR => ⟨oq', hq, fun h => absurd h (by omega), fun _ => ⟨fun _ => ⟨fun h => absurd h (by omega), fun _ => ⟨vq, fun w2 h0 => ?_, ?_⟩⟩, fun hf => ?_⟩⟩⟩
      · have := b0 w2 (by
          rcases h0 with h0 | h0
          · exact .inl h0
          · rcases hw' with h1 | h1
            · exact .inl h1
            · exact .inr (h1.trans h0))
        rw [← eq a u] at this
        exact this
      · rw [put_defers]; exact hR
      · exfalso
        have : Region.wanted oq' (yielded ops (a.put oi.dst u).tmps) = false := hf
        rw [wq, hw] at this; cases this
    | false =>
      refine ⟨undef, h2 hw, fun u D w' _ hR => ⟨oq', hq, fun h => absurd h (by omega), fun _ => ⟨fun ht => ?_, fun _ => ?_⟩⟩⟩
      · exfalso
        have : Region.wanted oq' (yielded ops (a.put oi.dst u).tmps) = true := ht
        rw [wq, hw] at this; cases this
      · rw [put_defers]; exact hR
  obtain ⟨vq, hmix, hback⟩ := key
  obtain ⟨oi', hi', g0, g12⟩ := hmix
  obtain rfl : oi' = oi := Option.some.inj (hi'.symm.trans hi)
  refine ⟨oi', hi, fun h4 b w1 hx hb hob => ?_, fun h4 => ?_⟩
  · have hR := g0 h4 b w1 hx hb hob
    rw [pc] at hR
    exact hback (ptrTo b) (a.put oi'.dst (ptrTo b)).defers w1 (.inr hx) (by
      have : (a.put oi'.dst (ptrTo b)).defers = ((a.put oi'.dst (ptrTo b)).put oq'.dst vq).defers := (by cases oi'.dst <;> cases oq'.dst <;> rfl)
      rw [this]; exact hR)
  obtain ⟨g1, g2⟩ := g12 h4
  refine ⟨fun hw => ⟨fun h2 w1 hx => ?_, fun h2 => ?_⟩, fun hw => ?_⟩
  · -- loud
    have hl := (g1 (by rw [wi]; exact hw)).1 h2 w1 hx
    unfold Oper.wp at hl ⊢
    rw [ei] at hl
    generalize (execOp a.eval oi').run P w1 = r at hl ⊢
    have bk : ∀ (u : Value) (D : List Deferred) (w' : World), (LateP k B obj w1 w' ∧ wpMixA P ops Q B obj R ({ (a.put oq'.dst vq).put oi'.dst u with defers := D }) w') →
        LateP k B obj w1 w' ∧ wpMixA P ops Q B obj ((q, kq) :: R) ({ a.put oi'.dst u with defers := D }) w' := fun u D w' hR => by
      refine ⟨hR.1, ?_⟩
      have hR := hR.2
      rw [pc] at hR
      refine hback u D w' ?_ hR
      by_cases h3 : k = 5
      · exact .inr (hx.trans (‹LateP k B obj w1 w' ∧ _›.1.2.1 h3))
      · exact .inl (hk (by omega))
    cases r with
    | ok nx w2 =>
      cases nx with
      | value v => exact bk v (a.put oi'.dst v).defers w2 (by have : (a.put oi'.dst v).defers = ((a.put oq'.dst vq).put oi'.dst v).defers := (by cases oi'.dst <;> cases oq'.dst <;> rfl); rw [this]; exact hl)
      | skip => exact bk undef (a.put oi'.dst undef).defers w2 (by have : (a.put oi'.dst undef).defers = ((a.put oq'.dst vq).put oi'.dst undef).defers := (by cases oi'.dst <;> cases oq'.dst <;> rfl); rw [this]; exact hl)
      | defer d =>
        have hl' : LateP k B obj w1 w2 ∧ wpMixA P ops Q B obj R (({ a.put oq'.dst vq with defers := d :: (a.put oq'.dst vq).defers } : Act).put oi'.dst undef) w2 := hl
        rw [put_defers] at hl'
        have hd : (a.put oq'.dst vq).defers = a.defers := by cases oq'.dst <;> rfl
        rw [hd] at hl'
        show LateP k B obj w1 w2 ∧ wpMixA P ops Q B obj ((q, kq) :: R) (({ a with defers := d :: a.defers } : Act).put oi'.dst undef) w2
        rw [put_defers]
        exact bk undef (d :: a.defers) w2 hl'
      | enter f args =>
        exact Calls.mono hl fun e w3 h3 => by
          cases e with
          | returned v => exact bk v (a.put oi'.dst v).defers w3 (by have : (a.put oi'.dst v).defers = ((a.put oq'.dst vq).put oi'.dst v).defers := (by cases oi'.dst <;> cases oq'.dst <;> rfl); rw [this]; exact h3)
          | panicked c => exact h3
          | outgrown => exact h3
      | row rw args => exact Rows.mono hl fun v w3 h3 => bk v (a.put oi'.dst v).defers w3 (by have : (a.put oi'.dst v).defers = ((a.put oq'.dst vq).put oi'.dst v).defers := (by cases oi'.dst <;> cases oq'.dst <;> rfl); rw [this]; exact h3)
      | _ => exact hl
    | halt x w2 =>
      cases x with
      | panic v => exact hl
      | _ => exact hl
  · obtain ⟨v, c0, hR⟩ := (g1 (by rw [wi]; exact hw)).2 h2
    refine ⟨v, fun w' h0 => ?_, ?_⟩
    · have := c0 w' h0; rwa [ei] at this
    · rw [pc] at hR
      exact hback v (a.put oi'.dst v).defers w (.inr (Ext.refl w)) (by
        have : (a.put oi'.dst v).defers = ((a.put oi'.dst v).put oq'.dst vq).defers := (by cases oi'.dst <;> cases oq'.dst <;> rfl)
        rw [this]; exact hR)
  · have hR := g2 (by rw [wi]; exact hw)
    rw [pc] at hR
    exact hback undef (a.put oi'.dst undef).defers w (.inr (Ext.refl w)) (by
      have : (a.put oi'.dst undef).defers = ((a.put oi'.dst undef).put oq'.dst vq).defers := (by cases oi'.dst <;> cases oq'.dst <;> rfl)
      rw [this]; exact hR)


/-- An allocation comes ahead of a loud one that keeps it. -/
theorem mixA_early {q kq i : Nat} {R : List (Nat × Nat)} {oq oi : Oper} (hsel : Region.noSelect ops = true) (hq : ops[q]? = some oq) (hi : ops[i]? = some oi) (hap : oq.apart ops oi = true) (hkq : kq = 5 ∨ kq = 6)
    (a : Act) (w : World) (hm : wpMixA P ops Q B obj ((q, kq) :: (i, 4) :: R) a w) : wpMixA P ops Q B obj ((i, 4) :: (q, kq) :: R) a w := by
  obtain ⟨p1, p2, p3⟩ := Oper.apart_spec hap
  have sq := fun cs b => Region.noSelect_spec hsel q oq cs b hq
  have wq : ∀ (a : Act) v, Region.wanted oq (yielded ops (a.put oi.dst v).tmps) = Region.wanted oq (yielded ops a.tmps) := fun a v => wanted_put oq a oi.dst v p3
  have eq : ∀ (a : Act) v, execOp (a.put oi.dst v).eval oq = execOp a.eval oq := fun a v => execOp_put oq sq a oi.dst v p3
  have pc : ∀ (a : Act) v u, (a.put oq.dst v).put oi.dst u = (a.put oi.dst u).put oq.dst v := fun a v u => Act.put_comm a v u p2
  obtain ⟨oq', hq', -, h12⟩ := hm
  obtain rfl : oq' = oq := Option.some.inj (hq'.symm.trans hq)
  obtain ⟨h1, h2⟩ := h12 (by omega)
  refine ⟨oi, hi, fun _ b w1 hx hb hob => ?_, fun h => absurd rfl h⟩
  refine ⟨oq', hq, fun h => absurd h (by omega), fun _ => ⟨fun hw => ⟨fun _ w2 hx2 => ?_, fun h => absurd h (by omega)⟩, fun hw => ?_⟩⟩
  · rw [wq] at hw
    have hl := (h1 hw).1 (by omega) w2 (hx.trans hx2)
    have hob2 : w2.heap[b]? = some obj := by rw [hx2.block b (Array.getElem?_eq_some_iff.1 hob).1]; exact hob
    unfold Oper.wp at hl ⊢
    rw [eq]
    have bk : ∀ (u : Value) (D : List Deferred) (w' : World), (LateP kq B obj w2 w' ∧ wpMixA P ops Q B obj ((i, 4) :: R) ({ a.put oq'.dst u with defers := D }) w') →
        LateP kq B obj w2 w' ∧ wpMixA P ops Q B obj R ({ (a.put oi.dst (ptrTo b)).put oq'.dst u with defers := D }) w' := fun u D w' hR => by
      refine ⟨hR.1, ?_⟩
      obtain ⟨oi', hi', g0, -⟩ := hR.2
      obtain rfl : oi' = oi := Option.some.inj (hi'.symm.trans hi)
      have := g0 rfl b w' (Ext.refl _) hb (hR.1.keep hkq hb hob2)
      rw [put_defers, pc] at this
      exact this
    have bkv : ∀ (u : Value) (w' : World), (LateP kq B obj w2 w' ∧ wpMixA P ops Q B obj ((i, 4) :: R) (a.put oq'.dst u) w') →
        LateP kq B obj w2 w' ∧ wpMixA P ops Q B obj R ((a.put oi.dst (ptrTo b)).put oq'.dst u) w' := fun u w' hR => by
      refine ⟨hR.1, ?_⟩
      obtain ⟨oi', hi', g0, -⟩ := hR.2
      obtain rfl : oi' = oi := Option.some.inj (hi'.symm.trans hi)
      have := g0 rfl b w' (Ext.refl _) hb (hR.1.keep hkq hb hob2)
      rw [pc] at this
      exact this
    generalize (execOp a.eval oq').run P w2 = r at hl ⊢
    cases r with
    | ok nx w3 =>
      cases nx with
      | value v => exact bkv v w3 hl
      | skip => exact bkv undef w3 hl
      | defer d =>
        have hl' : LateP kq B obj w2 w3 ∧ wpMixA P ops Q B obj ((i, 4) :: R) (({ a with defers := d :: a.defers } : Act).put oq'.dst undef) w3 := hl
        rw [put_defers] at hl'
        have hd : (a.put oi.dst (ptrTo b)).defers = a.defers := by cases oi.dst <;> rfl
        show LateP kq B obj w2 w3 ∧ wpMixA P ops Q B obj R (({ a.put oi.dst (ptrTo b) with defers := d :: (a.put oi.dst (ptrTo b)).defers } : Act).put oq'.dst undef) w3
        rw [put_defers, hd]
        exact bk undef (d :: a.defers) w3 hl'
      | enter f args =>
        exact Calls.mono hl fun e w3 h3 => by
          cases e with
          | returned v => exact bkv v w3 h3
          | panicked c => exact h3
          | outgrown => exact h3
      | row rw args => exact Rows.mono hl fun v w3 h3 => bkv v w3 h3
      | _ => exact hl
    | halt x w3 =>
      cases x with
      | panic v => exact hl
      | _ => exact hl
  · rw [wq] at hw
    obtain ⟨oi', hi', g0, -⟩ := h2 hw
    obtain rfl : oi' = oi := Option.some.inj (hi'.symm.trans hi)
    have := g0 rfl b w1 hx hb hob
    rw [pc] at this
    exact this

theorem mixA_pull (hsel : Region.noSelect ops = true) {i k : Nat} {oi : Oper} (hk3 : k ≤ 6) (hk33 : k ≠ 3) (hi : ops[i]? = some oi) {post : List (Nat × Nat)} : ∀ (pre : List (Nat × Nat)),
    (∀ q ∈ pre, ((q.2 < 2 ∧ (k = 2 ∨ k = 6 → q.2 = 0)) ∨ (k = 4 ∧ (q.2 = 5 ∨ q.2 = 6))) ∧ ∃ oq, ops[q.1]? = some oq ∧ oq.apart ops oi = true) → ∀ a w, B ≤ w.heap.size → wpMixA P ops Q B obj (pre ++ (i, k) :: post) a w → wpMixA P ops Q B obj ((i, k) :: (pre ++ post)) a w
  | [], _, _, _, _, h => h
  | (q, kq) :: pre, hp, a, w, hB, h => by
    obtain ⟨h12, oq, h3, h4⟩ := hp (q, kq) (List.mem_cons_self ..)
    have hc := mixA_cong a w hB (fun a w hB => mixA_pull hsel hk3 hk33 hi pre (fun x hx => hp x (List.mem_cons_of_mem _ hx)) a w hB) h
    rcases h12 with ⟨h1, h2⟩ | ⟨rfl, h2⟩
    · exact mixA_swap hsel h3 hi h4 h1 h2 hk3 hk33 a w hc
    · exact mixA_early hsel h3 hi h4 h2 a w hc

/-- The static relation of two operations in the plan's order. -/
def relA (ops : Array Oper) (cl : List (Nat × List Nat)) (x y : Nat × Nat) : Bool :=
  ((depsOf ops y.1).contains x.1 || (match ops[x.1]?, ops[y.1]? with | some ox, some oy => ox.apart ops oy | _, _ => false)) &&
  !(depsOf ops x.1).contains y.1 && (decide (x.2 < 2) || waitsB cl y.1 x.1 || (y.2 == 4 && (x.2 == 5 || x.2 == 6))) && (!(y.2 == 2 || y.2 == 6) || x.2 == 0 || waitsB cl y.1 x.1) && x.1 != y.1
def oneA1 (ops : Array Oper) (ia : Nat) (x : Nat × Nat) : Bool := ((depsOf ops x.1).all fun d => decide (d < ops.size) && d != x.1) && decide (x.2 ≤ 6) && x.2 != 3 && (x.2 != 4 || (x.1 == ia && ((ops[ia]?).map (·.guard.isNone)).getD false))

theorem mixA_any (hA : ∀ o ρ w', ops[ia]? = some o → (execOp ρ o).run P w' = .ok (.value (ptrTo w'.heap.size)) (w'.alloc obj)) (hsel : Region.noSelect ops = true) (ord : List Nat) : ∀ (n : Nat) (U : List (Nat × Nat)) (seen : Array Bool) (a : Act) (w : World), U.length = n → seen.size = ops.size → Shut ops seen →
    (∀ j, j < ops.size → (seen.getD j false = false ↔ ∃ k, (j, k) ∈ U)) → U.Pairwise (fun x y => relA ops (ord.foldl (closeStep ops) []) x y = true) → (∀ x ∈ U, oneA1 ops ia x = true) →
    B ≤ w.heap.size → wpMixA P ops Q B obj U a w → ∀ w1, Ext w w1 → wpAny P .any ops Q n seen a w1 := by
  intro n
  induction n with
  | zero =>
    intro U seen a w hU hsz _ hin _ _ _ hm w1 hx
    obtain rfl : U = [] := List.length_eq_zero_iff.1 hU
    refine ⟨?_, hm w1 hx⟩
    apply List.eq_nil_iff_forall_not_mem.2
    intro j hj
    obtain ⟨h0, o, ho, _⟩ := mem_ready.1 hj
    obtain ⟨k, hk⟩ := (hin j (Array.getElem?_eq_some_iff.1 ho).1).1 (getD_both h0)
    cases hk
  | succ n ih =>
    intro U seen a w hU hsz hshut hin hpw hone hBw hm w1 hx
    have listed : ∀ j, j < ops.size → (¬ ∃ k, (j, k) ∈ U) → seen.getD j false = true := fun j hj hn => by
      cases h : seen.getD j false with
      | true => rfl
      | false => exact absurd ((hin j hj).1 h) hn
    constructor
    · intro h0
      exfalso
      match U, hU, hm with
      | (i, k) :: U', _, hm =>
        obtain ⟨o, ho, _⟩ := hm
        have hil : i < ops.size := (Array.getElem?_eq_some_iff.1 ho).1
        have : i ∈ Region.ready .any ops seen := mem_ready.2 ⟨getD_in (by omega) ((hin i hil).2 ⟨k, List.mem_cons_self ..⟩), o, ho, fun e he hb => by
          have h1 := hone (i, k) (List.mem_cons_self ..)
          simp only [oneA1, List.all_eq_true, Bool.and_eq_true, decide_eq_true_eq, bne_iff_ne] at h1
          replace h1 := h1.1.1.1
          have hd : e.on ∈ depsOf ops i := (mem_depsOf ho).2 ⟨e, he, hb, rfl⟩
          refine listed e.on (h1 _ hd).1 fun ⟨k', hk'⟩ => ?_
          rcases List.mem_cons.1 hk' with hk' | hk'
          · exact (h1 _ hd).2 (Prod.mk.inj hk').1
          · have := (List.pairwise_cons.1 hpw).1 _ hk'
            simp only [relA, Bool.and_eq_true, Bool.not_eq_true'] at this
            have h2 := this.1.1.1.2
            rw [List.contains_eq_mem] at h2
            simp [hd] at h2⟩
        rw [h0] at this; cases this
    · intro i hi
      obtain ⟨hun, oi, hoi, hall⟩ := mem_ready.1 hi
      have hil : i < ops.size := (Array.getElem?_eq_some_iff.1 hoi).1
      obtain ⟨k, hk⟩ := (hin i hil).1 (getD_both hun)
      obtain ⟨pre, post, rfl⟩ := List.append_of_mem hk
      have hdeps : ∀ d ∈ depsOf ops i, seen.getD d false = true := fun d hd => by
        obtain ⟨e, he, hb, rfl⟩ := (mem_depsOf hoi).1 hd
        exact hall e he hb
      have hpre : ∀ q ∈ pre, ((q.2 < 2 ∧ (k = 2 ∨ k = 6 → q.2 = 0)) ∨ (k = 4 ∧ (q.2 = 5 ∨ q.2 = 6))) ∧ ∃ oq, ops[q.1]? = some oq ∧ oq.apart ops oi = true := fun q hq => by
        have hrel := (List.pairwise_append.1 hpw).2.2 q hq (i, k) (List.mem_cons_self ..)
        simp only [relA, Bool.and_eq_true, Bool.or_eq_true, Bool.not_eq_true', bne_iff_ne, ne_eq, beq_iff_eq, decide_eq_true_eq] at hrel
        obtain ⟨⟨⟨⟨r1, r2⟩, r3⟩, r4⟩, _⟩ := hrel
        have hqun : seen.getD q.1 false = false := by
          cases h : ops[q.1]? with
          | none =>
            rw [h] at r1
            rcases r1 with r1 | r1
            · have : q.1 ∈ depsOf ops i := by simpa using r1
              have h1 := hone (i, k) (by simp)
              simp only [oneA1, List.all_eq_true, Bool.and_eq_true, decide_eq_true_eq] at h1
              replace h1 := h1.1.1.1
              have := (h1 _ this).1
              exact (hin q.1 this).2 ⟨q.2, by simp [hq]⟩
            · cases r1
          | some oq => exact (hin q.1 (Array.getElem?_eq_some_iff.1 h).1).2 ⟨q.2, by simp [hq]⟩
        have hnd : q.1 ∉ depsOf ops i := fun hd => by rw [hdeps _ hd] at hqun; cases hqun
        have hnw : ¬ waitsB (ord.foldl (closeStep ops) []) i q.1 = true := fun hw => by
          rw [waitsB_ok hw seen hshut hdeps] at hqun; cases hqun
        refine ⟨?_, ?_⟩
        · have r5 : k = 2 ∨ k = 6 → q.2 = 0 := fun h2 => by
            rcases r4 with (r4 | r4) | r4
            · exfalso; rcases h2 with h2 | h2 <;> simp [h2] at r4
            · exact r4
            · exact absurd r4 hnw
          rcases r3 with (r3 | r3) | r3
          · exact .inl ⟨r3, r5⟩
          · exact absurd r3 hnw
          · exact .inr r3
        · rcases r1 with r1 | r1
          · exact absurd (by simpa using r1) hnd
          · cases h : ops[q.1]? with
            | none => rw [h] at r1; cases r1
            | some oq => rw [h, hoi] at r1; exact ⟨oq, rfl, r1⟩
      have hone1 := hone (i, k) hk
      simp only [oneA1, Bool.and_eq_true, decide_eq_true_eq, bne_iff_ne, ne_eq, Bool.or_eq_true, beq_iff_eq] at hone1
      obtain ⟨⟨⟨-, hk3⟩, hk33⟩, hk4⟩ := hone1
      have hpull := mixA_pull hsel hk3 hk33 hoi pre hpre a w hBw hm
      obtain ⟨o', ho', b0, b12⟩ := hpull
      obtain rfl : o' = oi := Option.some.inj (ho'.symm.trans hoi)
      have hsub : (pre ++ post).Sublist (pre ++ (i, k) :: post) := List.Sublist.append_left (List.sublist_cons_self _ _) _
      have cont : ∀ a' w', B ≤ w'.heap.size → wpMixA P ops Q B obj (pre ++ post) a' w' → ∀ w2, Ext w' w2 → wpAny P .any ops Q n (seen.setIfInBounds i true) a' w2 := fun a' w' hB' h' w2 hx2 => by
        refine ih (pre ++ post) _ a' w' (by simp at hU ⊢; omega) (by simp [hsz]) (fun j hj d hd => ?_) (fun j hj => ?_) (hpw.sublist hsub) (fun x hx => hone x (hsub.subset hx)) hB' h' w2 hx2
        · by_cases hij : i = j
          · subst hij; exact getD_set_true (hdeps d hd)
          · rw [getD_set_ne false hij] at hj
            exact getD_set_true (hshut j hj d hd)
        · by_cases hij : i = j
          · subst hij
            constructor
            · intro hf
              exfalso
              have : (seen.setIfInBounds i true).getD i false = true := by simp [show i < seen.size by omega]
              rw [this] at hf; cases hf
            · rintro ⟨k', hk'⟩
              exfalso
              have hp2 := List.pairwise_append.1 hpw
              rcases List.mem_append.1 hk' with hk' | hk'
              · have := hp2.2.2 _ hk' (i, k) (List.mem_cons_self ..)
                simp [relA] at this
              · have := (List.pairwise_cons.1 hp2.2.1).1 _ hk'
                simp [relA] at this
          · rw [getD_set_ne false hij, hin j hj]
            constructor
            · rintro ⟨k', hk'⟩
              refine ⟨k', ?_⟩
              rcases List.mem_append.1 hk' with hk' | hk'
              · exact List.mem_append.2 (.inl hk')
              · rcases List.mem_cons.1 hk' with hk' | hk'
                · exact absurd (Prod.mk.inj hk').1.symm hij
                · exact List.mem_append.2 (.inr hk')
            · rintro ⟨k', hk'⟩; exact ⟨k', hsub.subset hk'⟩
      unfold wpOp
      simp only [hoi]
      by_cases h4 : k = 4
      · have hg := hk4.resolve_left (by simp [h4])
        obtain ⟨rfl, hg⟩ := hg
        rw [hoi] at hg
        simp only [Option.map_some, Option.getD_some, Option.isNone_iff_eq_none] at hg
        have hwd : Region.wanted o' (yielded ops a.tmps) = true := by unfold Region.wanted; rw [hg]
        simp only [hwd, if_true]
        refine .inl ?_
        unfold Oper.wp
        rw [hA o' a.eval w1 hoi]
        have hal : (w1.alloc obj).heap[w1.heap.size]? = some obj := by rw [World.alloc]; simp
        exact cont _ _ (Nat.le_trans hBw (Nat.le_trans hx.size (by rw [World.size_alloc]; omega))) (b0 h4 w1.heap.size (w1.alloc obj) (hx.trans ((Ext.refl w1).alloc obj)) (Nat.le_trans hBw hx.size) hal) _ (Ext.refl _)
      obtain ⟨b1, b2⟩ := b12 h4
      cases hw : Region.wanted o' (yielded ops a.tmps) with
      | false =>
        simp only [Bool.false_eq_true, if_false]
        exact cont _ _ hBw (b2 hw) w1 hx
      | true =>
        simp only [if_true]
        refine .inl ?_
        by_cases h2 : 2 ≤ k
        · exact upon_mono (fun a' w' h' => cont a' w' h'.1.1 h'.2 w' (Ext.refl _)) (fun _ _ _ hf => hf.elim) ((b1 hw).1 h2 w1 hx)
        · obtain ⟨v, c0, hR⟩ := (b1 hw).2 (by omega)
          unfold Oper.wp
          rw [c0 w1 (.inr hx)]
          exact cont _ _ hBw hR w1 hx
end

def wpPlanA (P : Program) (l : List Oper) (Q : Exit → Act → World → Prop) (B : Nat) (obj : Obj) : List Seg → Act → World → Prop
  | [], a, w => ∀ w1, Ext w w1 → Q .normal a w1
  | .b is :: t, a, w => wpQuiet P l.toArray (fun _ => True) (fun a1 => wpPlanA P l Q B obj t a1 w) (pickL l is) a
  | .q is :: t, a, w => wpQuiet P l.toArray (fun w' => ∃ d, w' = wext w d) (fun a1 => wpPlanA P l Q B obj t a1 w) (pickL l is) a
  | .l i 4 :: t, a, w => ∀ b w1, Ext w w1 → B ≤ b → w1.heap[b]? = some obj → wpPlanA P l Q B obj t (a.put (l.getD i default).dst (ptrTo b)) w1
  | .l i k :: t, a, w => ∀ w1, Ext w w1 → wpList P l.toArray (Exit.then (fun a3 w3 => LateP k B obj w1 w3 ∧ wpPlanA P l Q B obj t a3 w3) (fun _ _ _ => False)) (pickL l [i]) a w1

section
variable {P : Program} {l : List Oper} {Q : Exit → Act → World → Prop} {B ia : Nat} {obj : Obj}
theorem mixA_calm {U : List (Nat × Nat)} (k : Nat) (hk : k < 2) {w : World} {C : World → Prop} (hC : ∀ w', (k = 0 ∨ Ext w w') → C w') : ∀ (is : List Nat) (a : Act), calmB l is = true →
    wpQuiet P l.toArray C (fun a' => wpMixA P l.toArray Q B obj U a' w) (pickL l is) a → wpMixA P l.toArray Q B obj (is.map (·, k) ++ U) a w
  | [], a, _, h => h
  | i :: is, a, hB, h => by
    simp only [calmB, List.all_cons, Bool.and_eq_true, decide_eq_true_eq] at hB
    refine ⟨_, getD_some hB.1.1, fun h => absurd h (by omega), fun _ => ⟨fun hw => ⟨fun h2 => absurd h2 (by omega), fun _ => ?_⟩, fun hw => ?_⟩⟩
    · simp only [pickL, List.map_cons, wpQuiet] at h
      rw [if_pos hw] at h
      obtain ⟨v, h1, h2⟩ := h
      exact ⟨v, fun w' h0 => calm_run hB.1.2 (h1 w' (hC w' h0)), mixA_calm k hk hC is _ hB.2 h2⟩
    · simp only [pickL, List.map_cons, wpQuiet] at h
      rw [if_neg (by rw [hw]; simp)] at h
      exact mixA_calm k hk hC is _ hB.2 h

theorem mixA_loud {U : List (Nat × Nat)} {i k : Nat} {a : Act} {w : World} (hi : i < l.length) (hk : 2 ≤ k) (hk4 : k ≠ 4) (hg : (l.getD i default).guard = none)
    (h : ∀ w1, Ext w w1 → wpList P l.toArray (Exit.then (fun a3 w3 => LateP k B obj w1 w3 ∧ wpMixA P l.toArray Q B obj U a3 w3) (fun _ _ _ => False)) (pickL l [i]) a w1) : wpMixA P l.toArray Q B obj ((i, k) :: U) a w := by
  have hwd : ∀ y, Region.wanted (l.getD i default) y = true := fun y => by unfold Region.wanted; rw [hg]
  refine ⟨_, getD_some hi, fun h => absurd h hk4, fun _ => ⟨fun hw => ⟨fun _ w1 hx => ?_, fun h2 => absurd h2 (by omega)⟩, fun hw => ?_⟩⟩
  · have := h w1 hx
    simp only [pickL, List.map_cons, List.map_nil, wpList] at this
    rw [if_pos hw] at this
    rcases this with this | ⟨_, _, _, hf⟩
    · exact upon_mono (fun _ _ h' => h') (fun e _ _ h' => by cases e <;> first | exact h' | exact h'.elim) (upon_normal this)
    · exact hf.elim
  · rw [hwd] at hw; cases hw

theorem planA_mix : ∀ (t : List Seg) (a : Act) (w : World), t.all (segB l) = true → wpPlanA P l Q B obj t a w → wpMixA P l.toArray Q B obj (planOf t) a w
  | [], a, w, _, h => h
  | .b is :: t, a, w, hB, h => by
    simp only [List.all_cons, segB, Bool.and_eq_true] at hB
    exact mixA_calm 0 (by omega) (C := fun _ => True) (fun _ _ => trivial) is a hB.1 (wpQuiet_post (fun a1 h1 => planA_mix t a1 w hB.2 h1) _ _ h)
  | .q is :: t, a, w, hB, h => by
    simp only [List.all_cons, segB, Bool.and_eq_true] at hB
    exact mixA_calm 1 (by omega) (C := fun w' => ∃ d, w' = wext w d) (fun w' h => grown_iff.2 (h.resolve_left (by omega))) is a hB.1 (wpQuiet_post (fun a1 h1 => planA_mix t a1 w hB.2 h1) _ _ h)
  | .l i k :: t, a, w, hB, h => by
    simp only [List.all_cons, segB, Bool.and_eq_true, decide_eq_true_eq, Option.isNone_iff_eq_none] at hB
    by_cases h4 : k = 4
    · subst h4
      exact ⟨_, getD_some hB.1.1.1, fun _ b w1 hx hb ho => planA_mix t _ w1 hB.2 (h b w1 hx hb ho), fun h => absurd rfl h⟩
    · rw [wpPlanA] at h
      · exact mixA_loud hB.1.1.1 hB.1.1.2 h4 hB.1.2 fun w1 hx => wpList_post (fun a3 w3 h3 => ⟨h3.1, planA_mix t a3 w3 hB.2 h3.2⟩) _ _ _ (h w1 hx)
      · exact h4

def planAB (l : List Oper) (ia : Nat) (t : List Seg) : Bool :=
  let U := planOf t
  Region.noSelect l.toArray && t.all (segB l) && decide (U.length = l.length) && ((List.range l.length).all fun j => U.any fun x => x.1 == j) &&
    (U.all fun x => oneA1 l.toArray ia x) && pairB (relA l.toArray ((U.map (·.1)).foldl (closeStep l.toArray) [])) U

theorem region_mixA {id : Nat} {a : Act} {w : World} (ia : Nat) (obj : Obj) (t : List Seg) (hm : P.follows .mixedOrders = true) (hB : planAB l ia t = true)
    (hA : ∀ ρ w', (execOp ρ (l.getD ia default)).run P w' = .ok (.value (ptrTo w'.heap.size)) (w'.alloc obj))
    (h : wpPlanA P l Q w.heap.size obj t a w) : (Code.region id l.toArray true).wp P Q a w := by
  simp only [planAB, Bool.and_eq_true, decide_eq_true_eq] at hB
  obtain ⟨⟨⟨⟨⟨h1, h2⟩, h4⟩, h5⟩, h6⟩, h7⟩ := hB
  refine wp_region_any hm ?_
  refine mixA_any (n := l.toArray.size) (ia := ia) (B := w.heap.size) (obj := obj) ?_ h1 _ (planOf t) _ a w (by simpa using h4) (by simp) ?_ ?_ (pairB_ok h7) (fun x hx => List.all_eq_true.1 h6 x hx) (Nat.le_refl _) (planA_mix t a w h2 h) _ (Ext.drew (Ext.refl w))
  · intro o ρ w' ho
    have : o = l.getD ia default := by
      have hh : l[ia]? = some o := by simpa using ho
      rw [List.getD, hh]; rfl
    rw [this]; exact hA ρ w'
  · intro j hj
    rw [getD_replicate_false] at hj; cases hj
  · intro j hj
    rw [getD_replicate_false]
    simp only [true_iff]
    have := List.all_eq_true.1 h5 j (List.mem_range.2 (by simpa using hj))
    obtain ⟨x, hx, hx2⟩ := List.any_eq_true.1 this
    exact ⟨x.2, by rw [beq_iff_eq] at hx2; rw [← hx2]; exact hx⟩
end
theorem alloc_runA {P : Program} {o : Oper} {t : TypeId} {z : Value} {cs : Array Value} (ho : o.op = .alloc t) (hi : (P.info? t).map (fun i => i.zero) = some (some z)) (hc : z.cells = cs) (ρ : Operand → Value) (w : World) :
    (execOp ρ o).run P w = .ok (.value (ptrTo w.heap.size)) (w.alloc (.cells cs t (0, 0))) := by
  subst hc
  cases h : P.info? t with
  | none => rw [h] at hi; cases hi
  | some i =>
    rw [h] at hi
    simp only [Option.map_some, Option.some.injEq] at hi
    unfold execOp
    simp only [ho]
    simp [Instr.alloc, zeroValue, typeInfo, h, hi, newVar, newRow, ptrTo, Sem.run_bind, go_sem]
end Go.Proofs.Ytfaekfdngkpkdaa
/- Caches, plainly: what is dropped; blocks of another type are none of a cache's. -/
namespace Go.Proofs.Ytfaekfdngkpkdaa
set_option linter.unusedVariables false
set_option linter.unusedSimpArgs false
open Go.RowKit
attribute [local go_sem] wext_cell wext_frozen wext_heap alloc_cell alloc_frozen alloc_heap setCell_cell objCell_cells objFrozen_cells
attribute [local go_sem high] refKey_eql

theorem delL_filter {k : Key} {L : List (Key × Line)} (hn : (keysOf L).Nodup) : delL k L = L.filter fun x => x.1 != k := by
  unfold delL
  cases hl : look k L 0 with
  | none => exact (List.filter_eq_self.2 fun x hx => by have := look_none hl x hx; simpa using this).symm
  | some y =>
    obtain ⟨i, y⟩ := y
    obtain ⟨-, h2, h3⟩ := look_some hl
    simp only [Nat.sub_zero] at h2 h3
    have hi := (List.getElem?_eq_some_iff.1 h2)
    have hs : L = L.take i ++ (k, y) :: L.drop (i + 1) := by
      rw [← hi.2, List.getElem_cons_drop, List.take_append_drop]
    show L.eraseIdx i = _
    rw [List.eraseIdx_eq_take_drop_succ]
    conv => rhs; rw [hs]
    rw [List.filter_append, List.filter_cons]
    have e1 : (L.take i).filter (fun x => x.1 != k) = L.take i := List.filter_eq_self.2 fun x hx => by have := List.all_eq_true.1 h3 x hx; simpa using this
    have e2 : (L.drop (i + 1)).filter (fun x => x.1 != k) = L.drop (i + 1) := List.filter_eq_self.2 fun x hx => by
      rw [hs] at hn
      simp only [keysOf, List.map_append, List.map_cons] at hn
      have h4 := (List.nodup_cons.1 (List.nodup_append.1 hn).2.1).1
      have : x.1 ≠ k := fun e => h4 (List.mem_map.2 ⟨x, hx, e⟩)
      simpa using this
    rw [e1, e2]
    simp
theorem nodup_filter {L : List (Key × Line)} (p : Key × Line → Bool) (hn : (keysOf L).Nodup) : (keysOf (L.filter p)).Nodup := hn.sublist (List.filter_sublist.map _)
theorem dropN_filter (pcid : Int) : ∀ (ks : List Key) (L : List (Key × Line)), (keysOf L).Nodup → dropN pcid ks L = L.filter fun x => !(decide (x.1.p = pcid) && decide (x.1 ∈ ks))
  | [], L, _ => (List.filter_eq_self.2 (by simp)).symm
  | k :: ks, L, hn => by
    show dropN pcid ks (if k.p = pcid then delL k L else L) = _
    by_cases hk : k.p = pcid
    · rw [if_pos hk, delL_filter hn, dropN_filter pcid ks _ (nodup_filter _ hn), List.filter_filter]
      apply List.filter_congr
      intro x _
      by_cases h1 : x.1 = k
      · simp [h1, hk]
      · simp [h1]
    · rw [if_neg hk, dropN_filter pcid ks _ hn]
      apply List.filter_congr
      intro x _
      by_cases h1 : x.1 = k
      · simp [h1, hk]
      · simp [h1]
theorem dropN_filtL {pcid : Int} {L : List (Key × Line)} (hn : (keysOf L).Nodup) : dropN pcid (keysOf L) L = filtL pcid L := by
  rw [dropN_filter pcid _ L hn]
  apply List.filter_congr
  intro x hx
  have : x.1 ∈ keysOf L := List.mem_map.2 ⟨x, hx, rfl⟩
  by_cases h : x.1.p = pcid <;> simp [h, this]

theorem CAt.nodup {w : World} {cb : Nat} {F : List Nat} {L : List (Key × Line)} {r : Nat} (h : CAt w cb F L r) : (keysOf L).Nodup := by
  obtain ⟨mb, ov, es, clock, h1, h2, h3, h4, h5, h6, h7, h8⟩ := h; exact h8
theorem CAt.room {w : World} {cb : Nat} {F : List Nat} {L : List (Key × Line)} {r : Nat} (h : CAt w cb F L r) : L.length ≤ r ∧ r ≤ 64 := by
  obtain ⟨mb, ov, es, clock, h1, h2, h3, h4, h5, h6, h7, h8⟩ := h; exact ⟨h6, h7⟩

/-- A block of another type is none of a cache's. -/
theorem CAt.apart {w : World} {cb : Nat} {F : List Nat} {L : List (Key × Line)} {r : Nat} (h : CAt w cb F L r) {b : Nat} {c : Array Value} {e : TypeId} (hb : w.heap[b]? = some (.cells c e (0, 0)))
    (h1 : e ≠ 204) (h2 : e ≠ 159) : b ∉ F := by
  obtain ⟨mb, ov, es, clock, p1, p2, p3, p4, rfl, -⟩ := h
  intro hm
  simp only [List.mem_cons, Option.mem_toList] at hm
  rcases hm with rfl | rfl | hm
  · rw [hb] at p1; simp only [Option.some.injEq, Obj.cells.injEq] at p1; exact h1 p1.2.1
  · rw [hb] at p2; cases p2
  · obtain ⟨c', hc⟩ := p4.heap b hm
    rw [hb] at hc; simp only [Option.some.injEq, Obj.cells.injEq] at hc; exact h2 hc.2.1
theorem RefAt.keeps {w w' : World} {cb : Nat} {F : List Nat} {L L2 : List (Key × Line)} {r : Nat} {v : Value} (h : RefAt w v L2) (hc : CAt w cb F L r) (hk : Keeps F w w') : RefAt w' v L2 :=
  ⟨h.1.keep fun g hg => by
    obtain ⟨c, hcc⟩ := h.1.heap g hg
    exact hk.block g (heap_lt hcc) (hc.apart hcc (by decide) (by decide)), h.2⟩

end Go.Proofs.Ytfaekfdngkpkdaa
/- Caches of tables: what one is in memory; a level's cache, a level's key; New, Len, Evict. -/
namespace Go.Proofs.Ytfaekfdngkpkdaa
set_option linter.unusedVariables false
set_option linter.unusedSimpArgs false
open Go.RowKit
attribute [local go_sem] wext_cell wext_frozen wext_heap alloc_cell alloc_frozen alloc_heap setCell_cell objCell_cells objFrozen_cells

/-- The place of an address among the tables of a level. -/
def tagP (a l : Int) : Int := if l = 2 then a / 2097152 % 134217728 else if l = 3 then a / 1073741824 % 262144 else a / 549755813888 % 512
def kP (p l a : Int) : Key := ⟨p, l, tagP a l⟩
theorem pscKey_c (p l a : Int) (w : World) (hl : l = 2 ∨ l = 3 ∨ l = 4) (h0 : 0 ≤ a) (h1 : a ≤ 18446744073709551615) : Calls Try.prog 82 #[.int .i64 p, .int .i64 l, .int .u64 a] w fun e w' => e = .returned (kP p l a).val ∧ Ext w w' := by
  have e2 : IntKind.u64.wrap (a * 65536) / 137438953472 = tagP a 2 := by rw [IntKind.wrap_u64]; unfold tagP; simp only [reduceIte]; omega
  have e3 : IntKind.u64.wrap (a * 65536) / 70368744177664 = tagP a 3 := by rw [IntKind.wrap_u64]; unfold tagP; simp only [Int.reduceEq, reduceIte]; omega
  have e4 : IntKind.u64.wrap (a * 65536) / 36028797018963968 = tagP a 4 := by rw [IntKind.wrap_u64]; unfold tagP; simp only [Int.reduceEq, reduceIte]; omega
  unfold kP Key.val
  rcases hl with rfl | rfl | rfl
  · go_enter Try.func82, Try.ntmps82
    go_wp2
    refine bodyPost_ret (by simp [results, Try.results82, go_sem, ↓IntWalk.iteOmega, *]; try rfl) rfl ⟨by rw [← e2], (by repeat (first | exact Ext.refl _ | assumption | refine Ext.alloc ?_ _ | refine Ext.drew ?_ | refine Ext.setCell ?_ (by first | (simp; done) | (dsimp only; omega)) _ | refine Ext.trans ?_ (by assumption)))⟩
  · go_enter Try.func82, Try.ntmps82
    go_wp2
    refine bodyPost_ret (by simp [results, Try.results82, go_sem, ↓IntWalk.iteOmega, *]; try rfl) rfl ⟨by rw [← e3], (by repeat (first | exact Ext.refl _ | assumption | refine Ext.alloc ?_ _ | refine Ext.drew ?_ | refine Ext.setCell ?_ (by first | (simp; done) | (dsimp only; omega)) _ | refine Ext.trans ?_ (by assumption)))⟩
  · go_enter Try.func82, Try.ntmps82
    go_wp2
    refine bodyPost_ret (by simp [results, Try.results82, go_sem, ↓IntWalk.iteOmega, *]; try rfl) rfl ⟨by rw [← e4], (by repeat (first | exact Ext.refl _ | assumption | refine Ext.alloc ?_ _ | refine Ext.drew ?_ | refine Ext.setCell ?_ (by first | (simp; done) | (dsimp only; omega)) _ | refine Ext.trans ?_ (by assumption)))⟩

abbrev Lines := List (Key × Line)
/-- All blocks of the three caches. -/
def allF (F : Int → List Nat) : List Nat := F 4 ++ F 3 ++ F 2
theorem mem_allF {F : Int → List Nat} {x : Nat} : x ∈ allF F ↔ ∃ l, 2 ≤ l ∧ l ≤ 4 ∧ x ∈ F l := by
  unfold allF
  simp only [List.mem_append]
  constructor
  · rintro ((h | h) | h)
    · exact ⟨4, by omega, by omega, h⟩
    · exact ⟨3, by omega, by omega, h⟩
    · exact ⟨2, by omega, by omega, h⟩
  · rintro ⟨l, h0, h1, h⟩
    obtain rfl | rfl | rfl : l = 2 ∨ l = 3 ∨ l = 4 := by omega
    · exact .inr h
    · exact .inl (.inr h)
    · exact .inl (.inl h)
def upd {α : Type} (C : Int → α) (l : Int) (x : α) : Int → α := fun j => if j = l then x else C j
theorem upd_same {α : Type} (C : Int → α) (l : Int) (x : α) : upd C l x l = x := by simp [upd]
theorem upd_other {α : Type} (C : Int → α) {l j : Int} (x : α) (h : j ≠ l) : upd C l x j = C j := by simp [upd, h]
/-- Caches of tables: each level's cache, its blocks, its lines. -/
structure PscAt (w : World) (pb : Nat) (cb : Int → Nat) (F : Int → List Nat) (C : Int → Lines) (r : Nat) : Prop where
  head : w.heap[pb]? = some (.cells #[.pointer (some ⟨cb 4, 0, none⟩), .pointer (some ⟨cb 3, 0, none⟩), .pointer (some ⟨cb 2, 0, none⟩)] 163 (0, 0))
  cache : ∀ l, 2 ≤ l → l ≤ 4 → CAt w (cb l) (F l) (C l) r
  apart : ∀ l j, 2 ≤ l → l ≤ 4 → 2 ≤ j → j ≤ 4 → l ≠ j → ∀ x ∈ F l, x ∉ F j
section
variable {w w' : World} {pb : Nat} {cb : Int → Nat} {F : Int → List Nat} {C C' : Int → Lines} {r : Nat}
theorem PscAt.ext (h : PscAt w pb cb F C r) (k : Ext w w') : PscAt w' pb cb F C r := ⟨(k.block _ (heap_lt h.head)).trans h.head, fun l h0 h1 => (h.cache l h0 h1).ext k, h.apart⟩
theorem PscAt.lt (h : PscAt w pb cb F C r) : ∀ x ∈ allF F, x < w.heap.size := fun x hx => by
  obtain ⟨l, h0, h1, hx⟩ := mem_allF.1 hx
  exact (h.cache l h0 h1).lt x hx
theorem PscAt.out (h : PscAt w pb cb F C r) {b : Nat} {c : Array Value} {e : TypeId} (hb : w.heap[b]? = some (.cells c e (0, 0))) (h1 : e ≠ 204) (h2 : e ≠ 159) : b ∉ allF F := fun hx => by
  obtain ⟨l, l0, l1, hx⟩ := mem_allF.1 hx
  exact (h.cache l l0 l1).apart hb h1 h2 hx
theorem PscAt.keeps (h : PscAt w pb cb F C r) {G : List Nat} (k : Keeps G w w') (hd : ∀ x ∈ allF F, x ∉ G) (hp : pb ∉ G) : PscAt w' pb cb F C r :=
  ⟨(k.block _ (heap_lt h.head) hp).trans h.head, fun l h0 h1 => (h.cache l h0 h1).keeps k fun x hx => hd x (mem_allF.2 ⟨l, h0, h1, hx⟩), h.apart⟩
theorem PscAt.room (h : PscAt w pb cb F C r) {l : Int} (h0 : 2 ≤ l) (h1 : l ≤ 4) : (C l).length ≤ r ∧ r ≤ 64 := (h.cache l h0 h1).room
theorem PscAt.nodup (h : PscAt w pb cb F C r) {l : Int} (h0 : 2 ≤ l) (h1 : l ≤ 4) : (keysOf (C l)).Nodup := (h.cache l h0 h1).nodup
theorem PscAt.congr (h : PscAt w pb cb F C r) (hc : ∀ l, 2 ≤ l → l ≤ 4 → C l = C' l) : PscAt w pb cb F C' r := ⟨h.head, fun l h0 h1 => hc l h0 h1 ▸ h.cache l h0 h1, h.apart⟩

/-- What an operation leaves. -/
def EndP (pb : Nat) (cb : Int → Nat) (F : Int → List Nat) (C' : Int → Lines) (r : Nat) (w : World) (e : Ending) (w' : World) : Prop :=
  e = .returned (.tuple #[]) ∧ ∃ F', PscAt w' pb cb F' C' r ∧ Keeps (allF F) w w' ∧ ∀ x ∈ allF F', x ∈ allF F ∨ w.heap.size ≤ x
theorem EndP.none (h : PscAt w pb cb F C r) (k : Ext w w') : EndP pb cb F C r w (.returned (.tuple #[])) w' := ⟨rfl, F, h.ext k, Keeps.of_ext k, fun _ hx => .inl hx⟩
/-- One cache's operation, among the three. -/
theorem PscAt.op (h : PscAt w pb cb F C r) {l : Int} (h0 : 2 ≤ l) (h1 : l ≤ 4) {F1 : List Nat} {L' : Lines} (c : CAt w' (cb l) F1 L' r) (k : Keeps (F l) w w') (f : ∀ x ∈ F1, x ∈ F l ∨ w.heap.size ≤ x) :
    PscAt w' pb cb (upd F l F1) (upd C l L') r ∧ Keeps (allF F) w w' ∧ ∀ x ∈ allF (upd F l F1), x ∈ allF F ∨ w.heap.size ≤ x := by
  have hlt := h.lt
  refine ⟨⟨(k.block _ (heap_lt h.head) ((h.cache l h0 h1).apart h.head (by decide) (by decide))).trans h.head, fun j j0 j1 => ?_, fun i j i0 i1 j0 j1 hij x hx => ?_⟩, k.mono fun x hx => .inl (mem_allF.2 ⟨l, h0, h1, hx⟩), fun x hx => ?_⟩
  · by_cases hj : j = l
    · subst hj; rw [upd_same, upd_same]; exact c
    · rw [upd_other _ _ hj, upd_other _ _ hj]
      exact (h.cache j j0 j1).keeps k (h.apart j l j0 j1 h0 h1 hj)
  · by_cases hi : i = l
    · subst hi
      rw [upd_same] at hx
      rw [upd_other _ _ (Ne.symm hij)]
      rcases f x hx with q | q
      · exact h.apart i j i0 i1 j0 j1 hij x q
      · intro hm
        have := hlt x (mem_allF.2 ⟨j, j0, j1, hm⟩)
        omega
    · rw [upd_other _ _ hi] at hx
      by_cases hj : j = l
      · subst hj
        rw [upd_same]
        intro hm
        rcases f x hm with q | q
        · exact h.apart i j i0 i1 j0 j1 hij x hx q
        · have := hlt x (mem_allF.2 ⟨i, i0, i1, hx⟩)
          omega
      · rw [upd_other _ _ hj]
        exact h.apart i j i0 i1 j0 j1 hij x hx
  · obtain ⟨j, j0, j1, hx⟩ := mem_allF.1 hx
    by_cases hj : j = l
    · subst hj
      rw [upd_same] at hx
      exact (f x hx).imp (fun q => mem_allF.2 ⟨j, j0, j1, q⟩) id
    · rw [upd_other _ _ hj] at hx
      exact .inl (mem_allF.2 ⟨j, j0, j1, hx⟩)
/-- The state of a loop over the levels: what came of the caches so far. -/
def PscTo (pb : Nat) (cb : Int → Nat) (F : Int → List Nat) (C' : Int → Lines) (r : Nat) (w w' : World) : Prop := ∃ F', PscAt w' pb cb F' C' r ∧ Keeps (allF F) w w' ∧ ∀ x ∈ allF F', x ∈ allF F ∨ w.heap.size ≤ x
theorem PscTo.refl (h : PscAt w pb cb F C r) : PscTo pb cb F C r w w := ⟨F, h, Keeps.refl _ _, fun _ hx => .inl hx⟩
theorem PscTo.ext {w2 : World} (h : PscTo pb cb F C' r w w') (k : Ext w' w2) : PscTo pb cb F C' r w w2 := by
  obtain ⟨F', h1, h2, h3⟩ := h
  exact ⟨F', h1.ext k, h2.ext k, h3⟩
theorem PscTo.at (h : PscTo pb cb F C' r w w') : ∃ F', PscAt w' pb cb F' C' r := by
  obtain ⟨F', h1, -⟩ := h; exact ⟨F', h1⟩
theorem PscTo.trans {C2 : Int → Lines} {w2 : World} {F' : Int → List Nat} (h : PscAt w' pb cb F' C' r ∧ Keeps (allF F) w w' ∧ ∀ x ∈ allF F', x ∈ allF F ∨ w.heap.size ≤ x) (k : PscTo pb cb F' C2 r w' w2) : PscTo pb cb F C2 r w w2 := by
  obtain ⟨F2, k1, k2, k3⟩ := k
  exact ⟨F2, k1, h.2.1.trans k2 h.2.2, fun x hx => (k3 x hx).elim (h.2.2 x) fun q => .inr (Nat.le_trans h.2.1.size q)⟩
theorem PscTo.congr {C2 : Int → Lines} (h : PscTo pb cb F C' r w w') (hc : ∀ l, 2 ≤ l → l ≤ 4 → C' l = C2 l) : PscTo pb cb F C2 r w w' := by
  obtain ⟨F', h1, h2⟩ := h; exact ⟨F', h1.congr hc, h2⟩
end

theorem of_c (pb : Nat) (cb : Int → Nat) (F : Int → List Nat) (C : Int → Lines) (r : Nat) (l : Int) (w : World) (h : PscAt w pb cb F C r) (hl : l = 2 ∨ l = 3 ∨ l = 4) :
    Calls Try.prog 80 #[.pointer (some ⟨pb, 0, none⟩), .int .i64 l] w fun e w' => e = .returned (.pointer (some ⟨cb l, 0, none⟩)) ∧ Ext w w' := by
  have c0 := (heap_cell h.head 0).trans rfl
  have c1 := (heap_cell h.head 1).trans rfl
  have c2 := (heap_cell h.head 2).trans rfl
  have hl0 := heap_lt h.head
  clear h
  rcases hl with rfl | rfl | rfl
  all_goals
    go_enter Try.func80, Try.ntmps80
    go_wp2
    all_goals
      go_ret
      exact ⟨rfl, (by repeat (first | exact Ext.refl _ | assumption | refine Ext.alloc ?_ _ | refine Ext.drew ?_ | refine Ext.setCell ?_ (by first | (simp; done) | (dsimp only; omega)) _ | refine Ext.trans ?_ (by assumption)))⟩
theorem ofNo_c (p : Option Addr) (l : Int) (w : World) (h : p = none ∨ l < 2 ∨ 4 < l) :
    Calls Try.prog 80 #[.pointer p, .int .i64 l] w fun e w' => e = .returned (.pointer none) ∧ Ext w w' := by
  have : p = none ∨ (p.isNone = false ∧ l < 2) ∨ (p.isNone = false ∧ ¬ l < 2 ∧ 4 < l) := by
    cases p with
    | none => exact .inl rfl
    | some x => simp at h ⊢; omega
  rcases this with rfl | ⟨h1, h2⟩ | ⟨h1, h2, h3⟩
  all_goals
    go_enter Try.func80, Try.ntmps80
    go_wp2
    all_goals
      go_ret
      exact ⟨rfl, (by repeat (first | exact Ext.refl _ | assumption | refine Ext.alloc ?_ _ | refine Ext.drew ?_ | refine Ext.setCell ?_ (by first | (simp; done) | (dsimp only; omega)) _ | refine Ext.trans ?_ (by assumption)))⟩

theorem pscLen_c (pb : Nat) (cb : Int → Nat) (F : Int → List Nat) (C : Int → Lines) (r : Nat) (l : Int) (w : World) (h : PscAt w pb cb F C r) (hl : l = 2 ∨ l = 3 ∨ l = 4) :
    Calls Try.prog 31 #[.pointer (some ⟨pb, 0, none⟩), .int .i64 l] w fun e w' => e = .returned (.int .i64 (C l).length) ∧ Ext w w' := by
  have H := Lib.hid h
  have HO := Lib.hid (fun w h => of_c pb cb F C r l w h hl)
  have HK := Lib.hid (fun w (h : PscAt w pb cb F C r) => keys_c (cb l) (F l) (C l) r w (h.cache l (by omega) (by omega)))
  have k4 := keysOf_length (C l)
  generalize C l = L at HK k4
  clear h hl
  go_enter Try.func31, Try.ntmps31
  go_wp2_with (first | (go_at_call 80; refine (HO.out _ (H.out.ext (by repeat (first | exact Ext.refl _ | assumption | refine Ext.alloc ?_ _ | refine Ext.drew ?_ | refine Ext.setCell ?_ (by first | (simp; done) | (dsimp only; omega)) _ | refine Ext.trans ?_ (by assumption))))).mono ?_; rintro e w1 ⟨rfl, hb1⟩) | (go_at_call 85; refine (HK.out _ (H.out.ext (by repeat (first | exact Ext.refl _ | assumption | refine Ext.alloc ?_ _ | refine Ext.drew ?_ | refine Ext.setCell ?_ (by first | (simp; done) | (dsimp only; omega)) _ | refine Ext.trans ?_ (by assumption))))).mono ?_; rintro e w2 ⟨v2, rfl, hv2, hE2, -⟩; obtain ⟨a2, c2, rfl, -, -⟩ := hv2.form; clear hv2))
  go_ret
  exact ⟨by rw [← k4]; rfl, (by repeat (first | exact Ext.refl _ | assumption | refine Ext.alloc ?_ _ | refine Ext.drew ?_ | refine Ext.setCell ?_ (by first | (simp; done) | (dsimp only; omega)) _ | refine Ext.trans ?_ (by assumption)))⟩
theorem pscLenNo_c (p : Option Addr) (l : Int) (w : World) (h : p = none ∨ l < 2 ∨ 4 < l) :
    Calls Try.prog 31 #[.pointer p, .int .i64 l] w fun e w' => e = .returned (.int .i64 0) ∧ Ext w w' := by
  have HO := Lib.hid (fun w => ofNo_c p l w h)
  clear h
  go_enter Try.func31, Try.ntmps31
  go_wp2_with (first | (go_at_call 80; refine (HO.out _).mono ?_; rintro e w1 ⟨rfl, hb1⟩) | (go_at_call 85; refine (nil_keys _).mono ?_; rintro e w2 ⟨rfl, hb2⟩))
  go_ret
  exact ⟨rfl, (by repeat (first | exact Ext.refl _ | assumption | refine Ext.alloc ?_ _ | refine Ext.drew ?_ | refine Ext.setCell ?_ (by first | (simp; done) | (dsimp only; omega)) _ | refine Ext.trans ?_ (by assumption)))⟩
theorem pscEvict_c (pb : Nat) (cb : Int → Nat) (F : Int → List Nat) (C : Int → Lines) (r : Nat) (l pick : Int) (w : World) (h : PscAt w pb cb F C r) (hl : l = 2 ∨ l = 3 ∨ l = 4) (hp0 : -9223372036854775808 ≤ pick) (hp1 : pick ≤ 9223372036854775807) :
    Calls Try.prog 39 #[.pointer (some ⟨pb, 0, none⟩), .int .i64 l, .int .i64 pick] w (EndP pb cb F (upd C l (evictL pick (C l))) r w) := by
  have H := Lib.hid h
  have HO := Lib.hid (fun w h => of_c pb cb F C r l w h hl)
  have HK := Lib.hid (fun w (h : PscAt w pb cb F C r) => evict_c (cb l) (F l) (C l) r pick w (h.cache l (by omega) (by omega)) hp0 hp1)
  have l0 : 2 ≤ l := by omega
  have l1 : l ≤ 4 := by omega
  clear h hl
  go_enter Try.func39, Try.ntmps39
  go_wp2_with (first | (go_at_call 80; refine (HO.out _ (H.out.ext (by repeat (first | exact Ext.refl _ | assumption | refine Ext.alloc ?_ _ | refine Ext.drew ?_ | refine Ext.setCell ?_ (by first | (simp; done) | (dsimp only; omega)) _ | refine Ext.trans ?_ (by assumption))))).mono ?_; rintro e w1 ⟨rfl, hb1⟩) | (go_at_call 97; refine (HK.out _ (H.out.ext (by repeat (first | exact Ext.refl _ | assumption | refine Ext.alloc ?_ _ | refine Ext.drew ?_ | refine Ext.setCell ?_ (by first | (simp; done) | (dsimp only; omega)) _ | refine Ext.trans ?_ (by assumption))))).mono ?_; rintro e w2 ⟨rfl, F2, q1, q2, q3⟩))
  refine ⟨rfl, .tuple #[], (by simp [results, Try.results39, go_sem]), ?_⟩
  have K := PscTo.trans ⟨H.out.ext hb1, Keeps.of_ext hb1, fun _ hx => .inl hx⟩ ⟨_, PscAt.op (H.out.ext hb1) l0 l1 q1 q2 q3⟩
  exact ⟨rfl, K⟩
theorem pscEvictNo_c (p : Option Addr) (l pick : Int) (w : World) (h : p = none ∨ l < 2 ∨ 4 < l) :
    Calls Try.prog 39 #[.pointer p, .int .i64 l, .int .i64 pick] w fun e w' => e = .returned (.tuple #[]) ∧ Ext w w' := by
  have HO := Lib.hid (fun w => ofNo_c p l w h)
  clear h
  go_enter Try.func39, Try.ntmps39
  go_wp2_with (first | (go_at_call 80; refine (HO.out _).mono ?_; rintro e w1 ⟨rfl, hb1⟩) | (go_at_call 97; refine (nil_evict _ _).mono ?_; rintro e w2 ⟨rfl, hb2⟩))
  refine ⟨rfl, .tuple #[], (by simp [results, Try.results39, go_sem]), ?_⟩
  exact ⟨rfl, (by repeat (first | exact Ext.refl _ | assumption | refine Ext.alloc ?_ _ | refine Ext.drew ?_ | refine Ext.setCell ?_ (by first | (simp; done) | (dsimp only; omega)) _ | refine Ext.trans ?_ (by assumption)))⟩
end Go.Proofs.Ytfaekfdngkpkdaa
/- Memories: maps from pages' numbers to pages; what a memory is; may, aligned, at, Bits, Peek, New. -/
namespace Go.Proofs.Ytfaekfdngkpkdaa
set_option linter.unusedVariables false
set_option linter.unusedSimpArgs false
open Go.RowKit
attribute [local go_sem] wext_cell wext_frozen wext_heap alloc_cell alloc_frozen alloc_heap setCell_cell objCell_cells objFrozen_cells

/-- The entries of a map of pages, in turn. -/
def EntP (es : Array MapEntry) (clock : Nat) (PL : List (Int × Nat)) : Prop := ((∀ e ∈ es.toList, e.born < clock) ∧ (es.toList.map (·.born)).Nodup) ∧ es.toList.map (fun e => (e.key, e.val)) = PL.map fun x => (.int .u64 x.1, .pointer (some ⟨x.2, 0, none⟩))
def findI (n : Int) : List (Int × Nat) → Nat → Option (Nat × Nat)
  | [], _ => none
  | x :: L, i => if n = x.1 then some (i, x.2) else findI n L (i + 1)
def findP (n : Int) (PL : List (Int × Nat)) : Option Nat := (findI n PL 0).map (·.2)
theorem findNowP (n : Int) : ∀ (l : List MapEntry) (PL : List (Int × Nat)) (i : Nat), l.map (fun e => (e.key, e.val)) = PL.map (fun x => (Value.int .u64 x.1, Value.pointer (some ⟨x.2, 0, none⟩))) →
    Instr.findNow (.int .u64) (.int .u64 n) l i = some ((findI n PL i).map fun x => (x.1, .pointer (some ⟨x.2, 0, none⟩)))
  | [], [], i, _ => rfl
  | [], x :: L, i, h => by cases h
  | e :: l, [], i, h => by cases h
  | e :: l, x :: L, i, h => by
    simp only [List.map_cons, List.cons.injEq, Prod.mk.injEq] at h
    unfold Instr.findNow findI
    rw [h.1.1]
    simp only [Instr.sameNow, if_true]
    by_cases hk : n = x.1
    · simp [hk, h.1.2]
    · have : (n == x.1) = false := by simpa using hk
      rw [this, if_neg hk]
      exact findNowP n l L (i + 1) h.2
theorem findKeyP (n : Int) (w : World) (es : Array MapEntry) (clock : Nat) (PL : List (Int × Nat)) (h : EntP es clock PL) :
    (Instr.findKey 23 (.int .u64 n) es.toList).run Try.prog w = .ok ((findI n PL 0).map fun x => (x.1, .pointer (some ⟨x.2, 0, none⟩))) w := by
  unfold Instr.findKey
  rw [Sem.run_bind, run_underlying Try.underlying23]
  simp only [Result.andThen_ok, findNowP n es.toList PL 0 h.2]
  rfl
theorem checkP_at (e : Bool) (n : Int) (w : World) (d : Nat) : (Instr.checkKey e (d + 1) 23 (.int .u64 n)).run Try.prog w = .ok () w := by
  simp [Instr.checkKey, go_sem]
theorem checkP (e : Bool) (n : Int) (w : World) : (Instr.checkKey e 10000 23 (.int .u64 n)).run Try.prog w = .ok () w := checkP_at e n w 9999
theorem lookupP_run (n : Int) (w : World) (pb : Nat) (es : Array MapEntry) (clock : Nat) (PL : List (Int × Nat)) (hb : w.heap[pb]? = some (.map es clock)) (h : EntP es clock PL) :
    (Instr.lookup 185 (.map (some pb)) (.int .u64 n) false).run Try.prog w = .ok (match findP n PL with | some g => .pointer (some ⟨g, 0, none⟩) | none => .pointer none) w := by
  unfold Instr.lookup
  rw [Sem.run_bind, run_underlying Try.underlying185]
  simp only [Result.andThen_ok, Sem.run_bind, getObj_at hb, Sem.run_pure, checkP, findKeyP n w es clock PL h]
  unfold findP
  cases hl : findI n PL 0 with
  | none => simp [go_sem]
  | some x => simp
theorem updateP_run (n : Int) (g : Nat) (w : World) (pb : Nat) (es : Array MapEntry) (clock : Nat) (PL : List (Int × Nat)) (hb : w.heap[pb]? = some (.map es clock)) (h : EntP es clock PL) (hn : findP n PL = none) :
    ∃ es' c', (Instr.mapUpdate 185 (.map (some pb)) (.int .u64 n) (.pointer (some ⟨g, 0, none⟩))).run Try.prog w = .ok () (putBlk w pb (.map es' c')) ∧ EntP es' c' (PL ++ [(n, g)]) := by
  unfold Instr.mapUpdate
  rw [Sem.run_bind, run_underlying Try.underlying185]
  simp only [Result.andThen_ok, Sem.run_bind, getObj_at hb, Sem.run_pure, checkP, findKeyP n w es clock PL h]
  unfold findP at hn
  cases hl : findI n PL 0 with
  | some x => rw [hl] at hn; cases hn
  | none =>
    refine ⟨_, _, setObj_at _ hb, ?_⟩
    obtain ⟨⟨h1, h2⟩, h3⟩ := h
    refine ⟨⟨fun e he => ?_, ?_⟩, by simp [h3]⟩
    · simp only [Array.toList_push, List.mem_append, List.mem_singleton] at he
      rcases he with he | rfl
      · have := h1 e he; omega
      · exact Nat.lt_succ_self _
    · simp only [Array.toList_push, List.map_append, List.map_cons, List.map_nil]
      rw [List.nodup_append]
      refine ⟨h2, by simp, fun a ha b hb => ?_⟩
      obtain ⟨e, he, rfl⟩ := List.mem_map.1 ha
      simp only [List.mem_singleton] at hb
      have := h1 e he
      omega

def PageAt (w : World) (g : Nat) (n : Int) (M : Int → Int) : Prop := ∃ c, w.heap[g]? = some (.cells c 191 (0, 0)) ∧ c.size = 512 ∧ ∀ i : Nat, i < 512 → c[i]? = some (.int .u64 (M (n * 512 + i)))
/-- A memory of so many bits, its blocks, its words by the slots' numbers, its trace. -/
def MemAt (w : World) (mb : Nat) (F : List Nat) (B : Int) (M : Int → Int) (T : List Int) : Prop :=
  ∃ pb tv es clock PL, w.heap[mb]? = some (.cells #[.int .i64 B, .map (some pb), tv] 187 (0, 0)) ∧ w.heap[pb]? = some (.map es clock) ∧ EntP es clock PL ∧ (PL.map (·.1)).Nodup ∧ (PL.map (·.2)).Nodup ∧
    (∀ x ∈ PL, PageAt w x.2 x.1 M) ∧ (∀ s, findP (s / 512) PL = none → M s = 0) ∧ (∀ s, 0 ≤ M s ∧ M s ≤ 18446744073709551615) ∧
    Owns w 23 1 tv T.length (T.map (.int .u64 ·)) ∧ F = mb :: pb :: (tv.ownBlock.toList ++ PL.map (·.2)) ∧ (14 ≤ B ∧ B ≤ 22)
theorem MemAt.lt {w : World} {mb : Nat} {F : List Nat} {B : Int} {M : Int → Int} {T : List Int} (h : MemAt w mb F B M T) : ∀ x ∈ F, x < w.heap.size := by
  obtain ⟨pb, tv, es, clock, PL, h1, h2, h3, h4, h5, h6, h7, h8, h9, rfl, h10⟩ := h
  intro x hx
  simp only [List.mem_cons, List.mem_append, Option.mem_toList, List.mem_map] at hx
  rcases hx with rfl | rfl | hx | ⟨y, hy, rfl⟩
  · exact heap_lt h1
  · exact heap_lt h2
  · exact h9.lt x hx
  · obtain ⟨c, hc, _⟩ := h6 y hy; exact heap_lt hc
theorem MemAt.keeps {w w' : World} {mb : Nat} {F G : List Nat} {B : Int} {M : Int → Int} {T : List Int} (h : MemAt w mb F B M T) (k : Keeps G w w') (hd : ∀ x ∈ F, x ∉ G) : MemAt w' mb F B M T := by
  have hlt := h.lt
  have hk : ∀ b ∈ F, w'.heap[b]? = w.heap[b]? := fun b hb => k.block b (hlt b hb) (hd b hb)
  obtain ⟨pb, tv, es, clock, PL, h1, h2, h3, h4, h5, h6, h7, h8, h9, hF, h10⟩ := h
  refine ⟨pb, tv, es, clock, PL, (hk _ (by rw [hF]; simp)).trans h1, (hk _ (by rw [hF]; simp)).trans h2, h3, h4, h5, fun x hx => ?_, h7, h8, h9.keep fun g hg => hk g (by rw [hF]; simp [hg]), hF, h10⟩
  obtain ⟨c, q1, q2, q3⟩ := h6 x hx
  exact ⟨c, (hk _ (by rw [hF]; simp only [List.mem_cons, List.mem_append, List.mem_map]; exact .inr (.inr (.inr ⟨x, hx, rfl⟩)))).trans q1, q2, q3⟩
theorem MemAt.ext {w w' : World} {mb : Nat} {F : List Nat} {B : Int} {M : Int → Int} {T : List Int} (h : MemAt w mb F B M T) (k : Ext w w') : MemAt w' mb F B M T :=
  h.keeps (G := []) (Keeps.of_ext k) (fun _ _ => by simp)

theorem findI_mem {n : Int} : ∀ {L : List (Int × Nat)} {i j g : Nat}, findI n L i = some (j, g) → (n, g) ∈ L
  | [], _, _, _, h => by cases h
  | x :: L, i, j, g, h => by
    unfold findI at h
    split at h
    · rename_i hn
      cases h
      rw [hn]; exact List.mem_cons_self ..
    · exact List.mem_cons_of_mem _ (findI_mem h)
theorem findP_mem {n : Int} {L : List (Int × Nat)} {g : Nat} (h : findP n L = some g) : (n, g) ∈ L := by
  unfold findP at h
  cases hl : findI n L 0 with
  | none => rw [hl] at h; cases h
  | some x => rw [hl] at h; cases h; exact findI_mem hl

set_option maxHeartbeats 1000000 in
set_option maxRecDepth 20000 in
theorem mat_c (mb : Nat) (F : List Nat) (B : Int) (M : Int → Int) (T : List Int) (a : Int) (w : World) (h : MemAt w mb F B M T) (h0 : 0 ≤ a) (h1 : a ≤ 4194303) :
    Calls Try.prog 107 #[.pointer (some ⟨mb, 0, none⟩), .int .u64 a] w fun e w' => e = .returned (.int .u64 (M (a / 8))) ∧ Ext w w' := by
  obtain ⟨pb, tv, es, clock, PL, p1, p2, p3, -, -, p6, p7, -, -, -, -⟩ := h
  have c1 := (heap_cell p1 1).trans rfl
  have hlt := heap_lt p1
  have hlk := lookupP_run (a / 4096) w pb es clock PL p2 p3
  cases hf : findP (a / 4096) PL with
  | none =>
    have hz : M (a / 8) = 0 := p7 (a / 8) (by rw [show a / 8 / 512 = a / 4096 by omega]; exact hf)
    rw [hf] at hlk
    rw [hz]
    dsimp only at hlk
    clear p1 p2 p3 p6 p7
    go_enter Try.func107, Try.ntmps107
    go_wp2
    all_goals
      go_ret
      exact ⟨rfl, (by repeat (first | exact Ext.refl _ | assumption | refine Ext.alloc ?_ _ | refine Ext.drew ?_ | refine Ext.setCell ?_ (by first | (simp; done) | (dsimp only; omega)) _ | refine Ext.trans ?_ (by assumption)))⟩
  | some g =>
    obtain ⟨c, q1, q2, q3⟩ := p6 _ (findP_mem hf)
    rw [hf] at hlk
    dsimp only at hlk q3
    have hcell : w.cell? ⟨g, (a % 4096 / 8).toNat, none⟩ = some (.int .u64 (M (a / 8))) := by
      rw [heap_cell q1, q3 _ (by omega)]
      congr 3; omega
    have hgl := heap_lt q1
    clear p1 p2 p3 p6 p7 q1 q2 q3
    go_enter Try.func107, Try.ntmps107
    go_wp2
    all_goals
      go_ret
      exact ⟨rfl, (by repeat (first | exact Ext.refl _ | assumption | refine Ext.alloc ?_ _ | refine Ext.drew ?_ | refine Ext.setCell ?_ (by first | (simp; done) | (dsimp only; omega)) _ | refine Ext.trans ?_ (by assumption)))⟩
end Go.Proofs.Ytfaekfdngkpkdaa
/- Memories: may, aligned, Bits, Peek. -/
namespace Go.Proofs.Ytfaekfdngkpkdaa
set_option linter.unusedVariables false
set_option linter.unusedSimpArgs false
open Go.RowKit
attribute [local go_sem] wext_cell wext_frozen wext_heap alloc_cell alloc_frozen alloc_heap setCell_cell objCell_cells objFrozen_cells

def limB (B : Int) : Int := if B = 14 then 16384 else if B = 15 then 32768 else if B = 16 then 65536 else if B = 17 then 131072 else if B = 18 then 262144 else if B = 19 then 524288 else if B = 20 then 1048576 else if B = 21 then 2097152 else 4194304
theorem limB_le (B : Int) : limB B ≤ 4194304 := by unfold limB; repeat (split; omega); omega
def errM (B a : Int) : Int := if a < limB B then (if a % 8 = 0 then 0 else 3) else 2
theorem B_cases {B : Int} (h : 14 ≤ B ∧ B ≤ 22) : B = 14 ∨ B = 15 ∨ B = 16 ∨ B = 17 ∨ B = 18 ∨ B = 19 ∨ B = 20 ∨ B = 21 ∨ B = 22 := by omega

theorem MemAt.head {w : World} {mb : Nat} {F : List Nat} {B : Int} {M : Int → Int} {T : List Int} (h : MemAt w mb F B M T) : w.cell? ⟨mb, 0, none⟩ = some (.int .i64 B) ∧ mb < w.heap.size ∧ 14 ≤ B ∧ B ≤ 22 := by
  obtain ⟨pb, tv, es, clock, PL, p1, -, -, -, -, -, -, -, -, -, p⟩ := h
  exact ⟨(heap_cell p1 0).trans rfl, heap_lt p1, p⟩
set_option maxHeartbeats 2000000 in
theorem may_c (mb : Nat) (F : List Nat) (B : Int) (M : Int → Int) (T : List Int) (a : Int) (w : World) (h : MemAt w mb F B M T) (h0 : 0 ≤ a) (h1 : a ≤ 18446744073709551615) :
    Calls Try.prog 133 #[.pointer (some ⟨mb, 0, none⟩), .int .u64 a] w fun e w' => e = .returned (.int .i64 (if a < limB B then 0 else 2)) ∧ Ext w w' := by
  obtain ⟨c0, hlt, hB⟩ := h.head
  clear h
  rcases B_cases hB with rfl | rfl | rfl | rfl | rfl | rfl | rfl | rfl | rfl
  all_goals
    simp only [limB, reduceIte, Int.reduceEq]
    clear hB
    split
    · go_enter Try.func133, Try.ntmps133
      go_wp2
      all_goals
        go_ret
        exact ⟨rfl, (by repeat (first | exact Ext.refl _ | assumption | refine Ext.alloc ?_ _ | refine Ext.drew ?_ | refine Ext.setCell ?_ (by first | (simp; done) | (dsimp only; omega)) _ | refine Ext.trans ?_ (by assumption)))⟩
    · go_enter Try.func133, Try.ntmps133
      go_wp2
      all_goals
        go_ret
        exact ⟨rfl, (by repeat (first | exact Ext.refl _ | assumption | refine Ext.alloc ?_ _ | refine Ext.drew ?_ | refine Ext.setCell ?_ (by first | (simp; done) | (dsimp only; omega)) _ | refine Ext.trans ?_ (by assumption)))⟩
theorem aligned_c (mb : Nat) (F : List Nat) (B : Int) (M : Int → Int) (T : List Int) (a : Int) (w : World) (h : MemAt w mb F B M T) (h0 : 0 ≤ a) (h1 : a ≤ 18446744073709551615) :
    Calls Try.prog 106 #[.pointer (some ⟨mb, 0, none⟩), .int .u64 a] w fun e w' => e = .returned (.int .i64 (errM B a)) ∧ Ext w w' := by
  have hm := fun w' (hx : Ext w w') => may_c mb F B M T a w' (h.ext hx) h0 h1
  clear h
  unfold errM
  by_cases ha : a < limB B
  · rw [if_pos ha]
    simp only [if_pos ha] at hm
    clear ha
    by_cases h8 : a % 8 = 0
    · rw [if_pos h8]
      have h8b : (a % 8 != 0) = false := by simpa using h8
      go_enter Try.func106, Try.ntmps106
      go_wp2_with (first | (go_at_call 133; refine (hm _ (by repeat (first | exact Ext.refl _ | assumption | refine Ext.alloc ?_ _ | refine Ext.drew ?_ | refine Ext.setCell ?_ (by first | (simp; done) | (dsimp only; omega)) _ | refine Ext.trans ?_ (by assumption)))).mono ?_; rintro e w1 ⟨rfl, hb1⟩))
      all_goals
        go_ret
        exact ⟨rfl, (by repeat (first | exact Ext.refl _ | assumption | refine Ext.alloc ?_ _ | refine Ext.drew ?_ | refine Ext.setCell ?_ (by first | (simp; done) | (dsimp only; omega)) _ | refine Ext.trans ?_ (by assumption)))⟩
    · rw [if_neg h8]
      have h8b : (a % 8 != 0) = true := by simpa using h8
      go_enter Try.func106, Try.ntmps106
      go_wp2_with (first | (go_at_call 133; refine (hm _ (by repeat (first | exact Ext.refl _ | assumption | refine Ext.alloc ?_ _ | refine Ext.drew ?_ | refine Ext.setCell ?_ (by first | (simp; done) | (dsimp only; omega)) _ | refine Ext.trans ?_ (by assumption)))).mono ?_; rintro e w1 ⟨rfl, hb1⟩))
      all_goals
        go_ret
        exact ⟨rfl, (by repeat (first | exact Ext.refl _ | assumption | refine Ext.alloc ?_ _ | refine Ext.drew ?_ | refine Ext.setCell ?_ (by first | (simp; done) | (dsimp only; omega)) _ | refine Ext.trans ?_ (by assumption)))⟩
  · rw [if_neg ha]
    simp only [if_neg ha] at hm
    clear ha
    go_enter Try.func106, Try.ntmps106
    go_wp2_with (first | (go_at_call 133; refine (hm _ (by repeat (first | exact Ext.refl _ | assumption | refine Ext.alloc ?_ _ | refine Ext.drew ?_ | refine Ext.setCell ?_ (by first | (simp; done) | (dsimp only; omega)) _ | refine Ext.trans ?_ (by assumption)))).mono ?_; rintro e w1 ⟨rfl, hb1⟩))
    all_goals
      go_ret
      exact ⟨rfl, (by repeat (first | exact Ext.refl _ | assumption | refine Ext.alloc ?_ _ | refine Ext.drew ?_ | refine Ext.setCell ?_ (by first | (simp; done) | (dsimp only; omega)) _ | refine Ext.trans ?_ (by assumption)))⟩
theorem bits_c (mb : Nat) (F : List Nat) (B : Int) (M : Int → Int) (T : List Int) (w : World) (h : MemAt w mb F B M T) :
    Calls Try.prog 64 #[.pointer (some ⟨mb, 0, none⟩)] w fun e w' => e = .returned (.int .i64 B) ∧ Ext w w' := by
  obtain ⟨c0, hlt, hB⟩ := h.head
  clear h
  go_enter Try.func64, Try.ntmps64
  go_wp2
  all_goals
    go_ret
    exact ⟨rfl, (by repeat (first | exact Ext.refl _ | assumption | refine Ext.alloc ?_ _ | refine Ext.drew ?_ | refine Ext.setCell ?_ (by first | (simp; done) | (dsimp only; omega)) _ | refine Ext.trans ?_ (by assumption)))⟩
theorem peek_c (mb : Nat) (F : List Nat) (B : Int) (M : Int → Int) (T : List Int) (a : Int) (w : World) (h : MemAt w mb F B M T) (h0 : 0 ≤ a) (h1 : a ≤ 18446744073709551615) :
    Calls Try.prog 55 #[.pointer (some ⟨mb, 0, none⟩), .int .u64 a] w fun e w' => e = .returned (.tuple #[.int .u64 (if errM B a = 0 then M (a / 8) else 0), .int .i64 (errM B a)]) ∧ Ext w w' := by
  have hal := fun w' (hx : Ext w w') => aligned_c mb F B M T a w' (h.ext hx) h0 h1
  by_cases he : errM B a = 0
  · have ha : a ≤ 4194303 := by
      unfold errM at he
      by_cases hq : a < limB B
      · have := limB_le B; omega
      · rw [if_neg hq] at he; omega
    have hat := fun w' (hx : Ext w w') => mat_c mb F B M T a w' (h.ext hx) h0 ha
    rw [if_pos he, he]
    rw [he] at hal
    generalize M (a / 8) = y at hat
    clear h he ha
    go_enter Try.func55, Try.ntmps55
    go_wp2_with (first | (go_at_call 106; refine (hal _ (by repeat (first | exact Ext.refl _ | assumption | refine Ext.alloc ?_ _ | refine Ext.drew ?_ | refine Ext.setCell ?_ (by first | (simp; done) | (dsimp only; omega)) _ | refine Ext.trans ?_ (by assumption)))).mono ?_; rintro e w1 ⟨rfl, hb1⟩) | (go_at_call 107; refine (hat _ (by repeat (first | exact Ext.refl _ | assumption | refine Ext.alloc ?_ _ | refine Ext.drew ?_ | refine Ext.setCell ?_ (by first | (simp; done) | (dsimp only; omega)) _ | refine Ext.trans ?_ (by assumption)))).mono ?_; rintro e w2 ⟨rfl, hb2⟩))
    all_goals
      go_ret2
      exact ⟨rfl, (by repeat (first | exact Ext.refl _ | assumption | refine Ext.alloc ?_ _ | refine Ext.drew ?_ | refine Ext.setCell ?_ (by first | (simp; done) | (dsimp only; omega)) _ | refine Ext.trans ?_ (by assumption)))⟩
  · rw [if_neg he]
    generalize errM B a = er at hal he
    have heb : (er != 0) = true := by simpa using he
    clear h
    go_enter Try.func55, Try.ntmps55
    go_wp2_with (first | (go_at_call 106; refine (hal _ (by repeat (first | exact Ext.refl _ | assumption | refine Ext.alloc ?_ _ | refine Ext.drew ?_ | refine Ext.setCell ?_ (by first | (simp; done) | (dsimp only; omega)) _ | refine Ext.trans ?_ (by assumption)))).mono ?_; rintro e w1 ⟨rfl, hb1⟩))
    all_goals
      go_ret2
      exact ⟨rfl, (by repeat (first | exact Ext.refl _ | assumption | refine Ext.alloc ?_ _ | refine Ext.drew ?_ | refine Ext.setCell ?_ (by first | (simp; done) | (dsimp only; omega)) _ | refine Ext.trans ?_ (by assumption)))⟩
end Go.Proofs.Ytfaekfdngkpkdaa
/- Memories: set, Store. -/
namespace Go.Proofs.Ytfaekfdngkpkdaa
set_option linter.unusedVariables false
set_option linter.unusedSimpArgs false
open Go.RowKit
attribute [local go_sem] wext_cell wext_frozen wext_heap alloc_cell alloc_frozen alloc_heap setCell_cell objCell_cells objFrozen_cells

def setM (M : Int → Int) (s x : Int) : Int → Int := fun t => if t = s then x else M t
def EndMem (mb : Nat) (F : List Nat) (w : World) (B : Int) (M' : Int → Int) (T' : List Int) (w' : World) : Prop :=
  ∃ F', MemAt w' mb F' B M' T' ∧ Keeps F w w' ∧ ∀ y ∈ F', y ∈ F ∨ w.heap.size ≤ y

theorem findI_append {n : Int} {x : Int × Nat} : ∀ (L : List (Int × Nat)) (i : Nat), findI n (L ++ [x]) i = match findI n L i with | some y => some y | none => if n = x.1 then some (i + L.length, x.2) else none
  | [], i => by simp [findI]
  | y :: L, i => by
    show findI n (y :: (L ++ [x])) i = _
    unfold findI
    by_cases h : n = y.1
    · rw [if_pos h, if_pos h]
    · rw [if_neg h, if_neg h, findI_append L (i + 1)]
      cases findI n L (i + 1) with
      | some z => rfl
      | none => simp only [List.length_cons]; rw [show i + 1 + L.length = i + (L.length + 1) by omega]
theorem findP_append_none {n : Int} {x : Int × Nat} {L : List (Int × Nat)} (h : findP n (L ++ [x]) = none) : findP n L = none ∧ n ≠ x.1 := by
  unfold findP at *
  rw [findI_append] at h
  cases hl : findI n L 0 with
  | some y => rw [hl] at h; cases h
  | none =>
    rw [hl] at h
    refine ⟨rfl, fun e => ?_⟩
    simp [e] at h
theorem findI_none {n : Int} : ∀ {L : List (Int × Nat)} {i : Nat}, findI n L i = none → n ∉ L.map (·.1)
  | [], _, _ => by simp
  | x :: L, i, h => by
    unfold findI at h
    split at h
    · cases h
    · rename_i hn
      simp only [List.map_cons, List.mem_cons, not_or]
      exact ⟨hn, findI_none h⟩
theorem findP_not {n : Int} {L : List (Int × Nat)} (h : findP n L = none) : n ∉ L.map (·.1) := by
  unfold findP at h
  cases hl : findI n L 0 with
  | some y => rw [hl] at h; cases h
  | none => exact findI_none hl
theorem PageAt.keep {w w' : World} {g : Nat} {n s x : Int} {M : Int → Int} (h : PageAt w g n M) (hk : w'.heap[g]? = w.heap[g]?) (hs : s / 512 ≠ n) : PageAt w' g n (setM M s x) := by
  obtain ⟨c, q1, q2, q3⟩ := h
  refine ⟨c, hk.trans q1, q2, fun i hi => ?_⟩
  rw [q3 i hi]
  unfold setM
  rw [if_neg (fun e => hs (by omega))]
/-- A word that is written in a page. -/
theorem PageAt.write {w w' : World} {g i : Nat} {n x : Int} {M : Int → Int} (h : PageAt w g n M) (hi : i < 512) (c : Array Value) (hc : w.heap[g]? = some (.cells c 191 (0, 0))) (hw : w'.heap[g]? = some (.cells (c.setIfInBounds i (.int .u64 x)) 191 (0, 0))) :
    PageAt w' g n (setM M (n * 512 + i) x) := by
  obtain ⟨c', q1, q2, q3⟩ := h
  rw [hc] at q1
  simp only [Option.some.injEq, Obj.cells.injEq] at q1
  obtain ⟨rfl, -, -⟩ := q1
  refine ⟨_, hw, by simpa using q2, fun j hj => ?_⟩
  unfold setM
  rw [Array.getElem?_setIfInBounds]
  by_cases hij : i = j
  · subst hij; simp [q2, hi]
  · rw [if_neg hij, q3 j hj, if_neg (by omega)]
theorem setM_range {M : Int → Int} {s x : Int} (h : ∀ t, 0 ≤ M t ∧ M t ≤ 18446744073709551615) (h0 : 0 ≤ x) (h1 : x ≤ 18446744073709551615) : ∀ t, 0 ≤ setM M s x t ∧ setM M s x t ≤ 18446744073709551615 := fun t => by
  unfold setM; split
  · exact ⟨h0, h1⟩
  · exact h t
theorem zeros : (Try.zeroCells191).size = 512 ∧ ∀ i : Nat, i < 512 → (Try.zeroCells191)[i]? = some (.int .u64 0) := by
  have e : Try.zeroCells191 = Array.replicate 512 (.int .u64 0) := by kernel_rfl
  rw [e]
  exact ⟨by simp, fun i hi => by simp [Array.getElem?_replicate, hi]⟩

set_option maxHeartbeats 2000000 in
set_option maxRecDepth 20000 in
theorem mset_c (mb : Nat) (F : List Nat) (B : Int) (M : Int → Int) (T : List Int) (a x : Int) (w : World) (h : MemAt w mb F B M T) (h0 : 0 ≤ a) (h1 : a ≤ 4194303) (h8 : a % 8 = 0) (hx0 : 0 ≤ x) (hx1 : x ≤ 18446744073709551615) :
    Calls Try.prog 108 #[.pointer (some ⟨mb, 0, none⟩), .int .u64 a, .int .u64 x] w fun e w' => e = .returned (.tuple #[]) ∧ EndMem mb F w B (setM M (a / 8) x) T w' := by
  have HM := Lib.hid h
  obtain ⟨pb, tv, es, clock, PL, p1, p2, p3, p4, p5, p6, p7, p8, p9, hF, hB⟩ := h
  have c1 := (heap_cell p1 1).trans rfl
  have hlt := heap_lt p1
  have hlp := heap_lt p2
  have hlk := lookupP_run (a / 4096) w pb es clock PL p2 p3
  have hidx : (a % 4096 / 8).toNat < 512 := by omega
  have hslot : a / 4096 * 512 + ((a % 4096 / 8).toNat : Nat) = a / 8 := by omega
  cases hf : findP (a / 4096) PL with
  | some g =>
    have hmem := findP_mem hf
    obtain ⟨c, q1, q2, q3⟩ := p6 _ hmem
    rw [hf] at hlk
    dsimp only at hlk q3
    have hcell : w.cell? ⟨g, (a % 4096 / 8).toNat, none⟩ = some (.int .u64 (M (a / 8))) := by
      rw [heap_cell q1, q3 _ hidx, hslot]
    have hgl := heap_lt q1
    have hfr := frozen_of q1
    have HQ1 := Lib.hid q1
    have HEND : Hid (EndMem mb F w B (setM M (a / 8) x) T (w.setCell ⟨g, (a % 4096 / 8).toNat, none⟩ (.int .u64 x))) := Lib.hid (by
      have hne : ∀ b, (∃ o, w.heap[b]? = some o ∧ ∀ c, o ≠ .cells c 191 (0, 0)) → g ≠ b := fun b hb e => by
        obtain ⟨o, ho, hn⟩ := hb
        rw [← e, q1] at ho
        exact hn c (by injection ho with ho; exact ho.symm)
      have k1 : g ≠ mb := hne mb ⟨_, p1, fun c => by simp⟩
      have k2 : g ≠ pb := hne pb ⟨_, p2, fun c => by simp⟩
      refine ⟨F, ⟨pb, tv, es, clock, PL, (setCell_heap _ _ _ _ _ k1).trans p1, (setCell_heap _ _ _ _ _ k2).trans p2, p3, p4, p5, fun y hy => ?_, fun s hn => ?_, setM_range p8 hx0 hx1, p9.keep fun b hb => setCell_heap _ _ _ _ _ ?_, hF, hB⟩, (Keeps.refl _ _).setCell (.inl (by rw [hF]; simp only [List.mem_cons, List.mem_append, List.mem_map]; exact .inr (.inr (.inr ⟨_, hmem, rfl⟩)))) _, fun y hy => .inl hy⟩
      · by_cases hyn : y.1 = a / 4096
        · have : y.2 = g := by
            have e1 : y = (a / 4096, y.2) := by rw [← hyn]
            rw [e1] at hy
            obtain ⟨i, hi, hi2⟩ := List.mem_iff_getElem.1 hy
            obtain ⟨j, hj, hj2⟩ := List.mem_iff_getElem.1 hmem
            have hij : i = j := by
              have := List.pairwise_iff_getElem.1 p4
              rcases Nat.lt_trichotomy i j with hlt | heq | hgt
              · exact absurd (by rw [List.getElem_map, List.getElem_map, hi2, hj2]) (this i j (by simpa using hi) (by simpa using hj) hlt)
              · exact heq
              · exact absurd (by rw [List.getElem_map, List.getElem_map, hi2, hj2]) (this j i (by simpa using hj) (by simpa using hi) hgt)
            subst hij
            rw [hi2] at hj2
            exact (Prod.mk.inj hj2).2
          rw [this, hyn, ← hslot]
          have hp := p6 _ hmem
          exact PageAt.write hp hidx c q1 (setCell_heap_same q1)
        · refine (p6 y hy).keep (setCell_heap _ _ _ _ _ fun e => hyn ?_) (fun e => hyn (by omega))
          obtain ⟨i, hi, hi2⟩ := List.mem_iff_getElem.1 hy
          obtain ⟨j, hj, hj2⟩ := List.mem_iff_getElem.1 hmem
          have hij : i = j := by
            have := List.pairwise_iff_getElem.1 p5
            rcases Nat.lt_trichotomy i j with hlt | heq | hgt
            · exact absurd (by rw [List.getElem_map, List.getElem_map, hi2, hj2]; first | exact e | exact e.symm) (this i j (by simpa using hi) (by simpa using hj) hlt)
            · exact heq
            · exact absurd (by rw [List.getElem_map, List.getElem_map, hi2, hj2]; first | exact e | exact e.symm) (this j i (by simpa using hj) (by simpa using hi) hgt)
          subst hij
          rw [hi2] at hj2
          rw [hj2]
      · unfold setM
        rw [if_neg (fun e => by rw [e, show a / 8 / 512 = a / 4096 by omega, hf] at hn; cases hn)]
        exact p7 s hn
      · obtain ⟨cc, hcc⟩ := p9.heap b hb
        exact hne b ⟨_, hcc, fun c => by simp⟩)
    clear p1 p2 p3 p6 p7 q1 q2 q3 p9 hF
    go_enter Try.func108, Try.ntmps108
    go_wp2
    refine ⟨rfl, .tuple #[], (by simp [results, Try.results108, go_sem]), ?_⟩
    exact ⟨rfl, HEND.out⟩
  | none =>
    rw [hf] at hlk
    dsimp only at hlk
    obtain ⟨es', c', hup, hent'⟩ := updateP_run (a / 4096) w.heap.size (w.alloc (.cells Try.zeroCells191 191 (0, 0))) pb es clock PL ((alloc_other _ _ hlp).trans p2) p3 hf
    have hpm : pb ≠ mb := fun e => by rw [e, p1] at p2; cases p2
    have hz := zeros
    have hHM := Lib.hid hent'
    have HF := Aside.mk hF
    have P1 := Lib.hid p1
    have P2 := Lib.hid p2
    have P6 := Lib.hid p6
    have P7 := Lib.hid p7
    have P9 := Lib.hid p9
    have P4 := Lib.hid p4
    have P5 := Lib.hid p5
    clear p1 p2 p3 p6 p7 p9 hF hent' p4 p5
    go_enter Try.func108, Try.ntmps108
    go_upto_region 4 with (fail)
    refine wp_gen ?_; intro V hV
    have vg : V.heap[w.heap.size]? = some (.cells Try.zeroCells191 191 (0, 0)) := by rw [hV]; exact (putBlk_heap _ _ _ _ (by omega)).trans (alloc_same ..)
    have vp : V.heap[pb]? = some (.map es' c') := by rw [hV]; exact putBlk_same _ _ _ (by simp; omega)
    have vo : ∀ b, b < w.heap.size → b ≠ pb → V.heap[b]? = w.heap[b]? := fun b hb hn => by rw [hV]; exact (putBlk_heap _ _ _ _ hn.symm).trans (alloc_other _ _ hb)
    have vk : Keeps F w V := by rw [hV]; exact (Keeps.of_ext ((Ext.refl w).alloc _)).put (.inl (by rw [HF.out]; simp)) _
    have hcell : V.cell? ⟨w.heap.size, (a % 4096 / 8).toNat, none⟩ = some (.int .u64 0) := by rw [heap_cell vg]; exact hz.2 _ hidx
    have hfr := frozen_of vg
    have VG := Lib.hid vg
    have VP := Lib.hid vp
    have VO := Lib.hid vo
    have VK := Lib.hid vk
    clear hV vg vp vo vk hup hlk c1
    go_wp2
    refine ⟨rfl, .tuple #[], (by simp [results, Try.results108, go_sem]), ?_⟩
    refine ⟨rfl, mb :: pb :: (tv.ownBlock.toList ++ (PL ++ [(a / 4096, w.heap.size)]).map (·.2)), ⟨pb, tv, es', c', PL ++ [(a / 4096, w.heap.size)], ?_, ?_, hHM.out, ?_, ?_, fun y hy => ?_, fun s hn => ?_, setM_range p8 hx0 hx1, P9.out.keep fun b hb => ?_, rfl, hB⟩, VK.out.setCell (.inr (Nat.le_refl _)) _, fun y hy => ?_⟩
    · exact (setCell_heap _ _ _ _ _ (by omega)).trans ((VO.out mb hlt hpm.symm).trans P1.out)
    · exact (setCell_heap _ _ _ _ _ (by omega)).trans VP.out
    · rw [List.map_append, List.nodup_append]
      refine ⟨P4.out, by simp, fun q hq z hz2 e => findP_not hf ?_⟩
      simp only [List.map_cons, List.map_nil, List.mem_singleton] at hz2
      rw [← hz2, ← e]; exact hq
    · rw [List.map_append, List.nodup_append]
      refine ⟨P5.out, by simp, fun q hq z hz2 e => ?_⟩
      simp only [List.map_cons, List.map_nil, List.mem_singleton] at hz2
      obtain ⟨y, hy, rfl⟩ := List.mem_map.1 hq
      obtain ⟨c, hc, _⟩ := P6.out y hy
      have := heap_lt hc
      omega
    · rcases List.mem_append.1 hy with hy | hy
      · have hp := P6.out y hy
        obtain ⟨c, hc, _⟩ := hp
        have hyl := heap_lt hc
        have hyp : y.2 ≠ pb := fun e => by rw [e, P2.out] at hc; cases hc
        refine PageAt.keep (P6.out y hy) ((setCell_heap _ _ _ _ _ (by omega)).trans (VO.out _ hyl hyp)) (fun e => findP_not hf ?_)
        rw [show a / 4096 = y.1 by omega]
        exact List.mem_map.2 ⟨y, hy, rfl⟩
      · obtain rfl : y = (a / 4096, w.heap.size) := by simpa using hy
        rw [← hslot]
        have hbase : PageAt V w.heap.size (a / 4096) M := ⟨_, VG.out, hz.1, fun i hi => by
          rw [hz.2 i hi, P7.out (a / 4096 * 512 + i) (by rw [show (a / 4096 * 512 + (i : Int)) / 512 = a / 4096 by omega]; exact hf)]⟩
        exact PageAt.write hbase hidx _ VG.out (setCell_heap_same VG.out)
    · obtain ⟨n1, n2⟩ := findP_append_none hn
      unfold setM
      rw [if_neg (fun e => n2 (by dsimp only; omega))]
      exact P7.out s n1
    · have hbl := P9.out.lt b hb
      obtain ⟨cc, hcc⟩ := P9.out.heap b hb
      have hbp : b ≠ pb := fun e => by rw [e, P2.out] at hcc; cases hcc
      exact (setCell_heap _ _ _ _ _ (by omega)).trans (VO.out b hbl hbp)
    · rw [HF.out]
      simp only [List.mem_cons, List.mem_append, List.map_append, List.map_cons, List.map_nil, List.mem_singleton, Option.mem_toList, List.not_mem_nil, or_false] at hy ⊢
      rcases hy with h | h | h | h | h
      · exact .inl (.inl h)
      · exact .inl (.inr (.inl h))
      · exact .inl (.inr (.inr (.inl h)))
      · exact .inl (.inr (.inr (.inr h)))
      · exact .inr (by omega)
end Go.Proofs.Ytfaekfdngkpkdaa
/- Memories: Store, Load, New. -/
namespace Go.Proofs.Ytfaekfdngkpkdaa
set_option linter.unusedVariables false
set_option linter.unusedSimpArgs false
open Go.RowKit
attribute [local go_sem] wext_cell wext_frozen wext_heap alloc_cell alloc_frozen alloc_heap setCell_cell objCell_cells objFrozen_cells

theorem errM_zero {B a : Int} (h : errM B a = 0) : a < limB B ∧ a % 8 = 0 := by
  unfold errM at h
  by_cases hq : a < limB B
  · rw [if_pos hq] at h
    by_cases h8 : a % 8 = 0
    · exact ⟨hq, h8⟩
    · rw [if_neg h8] at h; omega
  · rw [if_neg hq] at h; omega
theorem errM_le {B a : Int} (h : errM B a = 0) : a ≤ 4194303 := by
  have := errM_zero h; have := limB_le B; omega
theorem EndMem.refl {w w' : World} {mb : Nat} {F : List Nat} {B : Int} {M : Int → Int} {T : List Int} (h : MemAt w mb F B M T) (k : Ext w w') : EndMem mb F w B M T w' :=
  ⟨F, h.ext k, Keeps.of_ext k, fun y hy => .inl hy⟩
theorem EndMem.before {w w1 w' : World} {mb : Nat} {F : List Nat} {B : Int} {M : Int → Int} {T : List Int} (k : Ext w w1) (h : EndMem mb F w1 B M T w') : EndMem mb F w B M T w' := by
  obtain ⟨F', h1, h2, h3⟩ := h
  refine ⟨F', h1, (Keeps.of_ext k).trans h2 fun x hx => .inl hx, fun y hy => ?_⟩
  rcases h3 y hy with q | q
  · exact .inl q
  · exact .inr (Nat.le_trans k.size q)
theorem EndMem.after {w w1 w' : World} {mb : Nat} {F : List Nat} {B : Int} {M : Int → Int} {T : List Int} (h : EndMem mb F w B M T w1) (k : Ext w1 w') : EndMem mb F w B M T w' := by
  obtain ⟨F', h1, h2, h3⟩ := h
  exact ⟨F', h1.ext k, h2.ext k, h3⟩
theorem EndMem.then {w w1 w' : World} {mb : Nat} {F : List Nat} {B : Int} {M M' : Int → Int} {T T' : List Int} (h : EndMem mb F w B M T w1) (k : ∀ F', MemAt w1 mb F' B M T → EndMem mb F' w1 B M' T' w') : EndMem mb F w B M' T' w' := by
  obtain ⟨F', h1, h2, h3⟩ := h
  obtain ⟨F2, k1, k2, k3⟩ := k F' h1
  refine ⟨F2, k1, h2.trans k2 h3, fun y hy => ?_⟩
  rcases k3 y hy with q | q
  · exact h3 y q
  · exact .inr (Nat.le_trans h2.size q)

def setIf (B : Int) (M : Int → Int) (a x : Int) : Int → Int := if errM B a = 0 then setM M (a / 8) x else M
theorem store_c (mb : Nat) (F : List Nat) (B : Int) (M : Int → Int) (T : List Int) (a x : Int) (w : World) (h : MemAt w mb F B M T) (h0 : 0 ≤ a) (h1 : a ≤ 18446744073709551615) (hx0 : 0 ≤ x) (hx1 : x ≤ 18446744073709551615) :
    Calls Try.prog 59 #[.pointer (some ⟨mb, 0, none⟩), .int .u64 a, .int .u64 x] w fun e w' => e = .returned (.int .i64 (errM B a)) ∧ EndMem mb F w B (setIf B M a x) T w' := by
  have hal := fun w' (hx : Ext w w') => aligned_c mb F B M T a w' (h.ext hx) h0 h1
  unfold setIf
  by_cases he : errM B a = 0
  · have hs := fun w' (hx : Ext w w') => mset_c mb F B M T a x w' (h.ext hx) h0 (errM_le he) (errM_zero he).2 hx0 hx1
    rw [if_pos he, he]
    rw [he] at hal
    clear h he
    go_enter Try.func59, Try.ntmps59
    go_wp2_with (first | (go_at_call 106; refine (hal _ (by repeat (first | exact Ext.refl _ | assumption | refine Ext.alloc ?_ _ | refine Ext.drew ?_ | refine Ext.setCell ?_ (by first | (simp; done) | (dsimp only; omega)) _ | refine Ext.trans ?_ (by assumption)))).mono ?_; rintro e w1 ⟨rfl, hb1⟩) | (go_at_call 108; refine (hs _ (by repeat (first | exact Ext.refl _ | assumption | refine Ext.alloc ?_ _ | refine Ext.drew ?_ | refine Ext.setCell ?_ (by first | (simp; done) | (dsimp only; omega)) _ | refine Ext.trans ?_ (by assumption)))).mono ?_; rintro e w2 ⟨rfl, hb2⟩))
    all_goals
      go_ret
      exact ⟨rfl, hb2.before (by repeat (first | exact Ext.refl _ | assumption | refine Ext.alloc ?_ _ | refine Ext.drew ?_ | refine Ext.setCell ?_ (by first | (simp; done) | (dsimp only; omega)) _ | refine Ext.trans ?_ (by assumption)))⟩
  · rw [if_neg he]
    have hr := fun w' => EndMem.refl (w' := w') h
    generalize hEr : errM B a = er at hal he
    have heb : (er != 0) = true := by simpa using he
    clear h hEr
    go_enter Try.func59, Try.ntmps59
    go_wp2_with (first | (go_at_call 106; refine (hal _ (by repeat (first | exact Ext.refl _ | assumption | refine Ext.alloc ?_ _ | refine Ext.drew ?_ | refine Ext.setCell ?_ (by first | (simp; done) | (dsimp only; omega)) _ | refine Ext.trans ?_ (by assumption)))).mono ?_; rintro e w1 ⟨rfl, hb1⟩))
    all_goals
      go_ret
      exact ⟨rfl, hr _ (by repeat (first | exact Ext.refl _ | assumption | refine Ext.alloc ?_ _ | refine Ext.drew ?_ | refine Ext.setCell ?_ (by first | (simp; done) | (dsimp only; omega)) _ | refine Ext.trans ?_ (by assumption)))⟩

theorem wordRow : RowT Try.prog 32 23 1 8 := RowT.of (z := .int .u64 0) Try.underlying32 (by kernel_rfl) rfl

set_option maxHeartbeats 2000000 in
set_option maxRecDepth 20000 in
theorem load_c (mb : Nat) (F : List Nat) (B : Int) (M : Int → Int) (T : List Int) (a : Int) (w : World) (h : MemAt w mb F B M T) (h0 : 0 ≤ a) (h1 : a ≤ 18446744073709551615) (hT : T.length ≤ 1000000) :
    Calls Try.prog 62 #[.pointer (some ⟨mb, 0, none⟩), .int .u64 a] w fun e w' => e = .returned (.tuple #[.int .u64 (if errM B a = 0 then M (a / 8) else 0), .int .i64 (errM B a)]) ∧ EndMem mb F w B M (if errM B a = 0 then T ++ [a] else T) w' := by
  have hp := fun w' (hx : Ext w w') => peek_c mb F B M T a w' (h.ext hx) h0 h1
  by_cases he : errM B a = 0
  · rw [if_pos he, if_pos he, he]
    simp only [if_pos he, he] at hp
    generalize hx : M (a / 8) = x at hp
    clear he
    have HM := Lib.hid h
    obtain ⟨pb, tv, es, clock, PL, p1, p2, p3, p4, p5, p6, p7, p8, p9, hF, hB⟩ := h
    obtain ⟨at1, tc, rfl, -, -⟩ := p9.form
    have hlt := heap_lt p1
    have hlp := heap_lt p2
    have hpm : pb ≠ mb := fun e => by rw [e, p1] at p2; cases p2
    have HTN : Hid (∀ b, (Value.slice at1 T.length tc).ownBlock = some b → b ≠ mb ∧ b ≠ pb ∧ ∀ y ∈ PL, b ≠ y.2) := Lib.hid fun b hb => by
      obtain ⟨cc, hcc⟩ := p9.heap b hb
      refine ⟨fun e => ?_, fun e => ?_, fun y hy e => ?_⟩
      · rw [e, p1] at hcc; cases hcc
      · rw [e, p2] at hcc; cases hcc
      · obtain ⟨c, hc, _⟩ := p6 y hy; rw [e, hc] at hcc; cases hcc
    have HPN : Hid (∀ y ∈ PL, y.2 ≠ mb ∧ y.2 ≠ pb ∧ y.2 < w.heap.size) := Lib.hid fun y hy => by
      obtain ⟨c, hc, _⟩ := p6 y hy
      refine ⟨fun e => ?_, fun e => ?_, heap_lt hc⟩
      · rw [e, p1] at hc; cases hc
      · rw [e, p2] at hc; cases hc
    have hl2 : (T.map (Value.int .u64 ·)).length = T.length := by simp
    have c2 := (heap_cell p1 2).trans rfl
    have hfr : w.frozen? ⟨mb, 2, none⟩ = false := by rw [frozen_heap, p1]; rfl
    have P1 := Lib.hid p1
    have P2 := Lib.hid p2
    have P9 := Lib.hid p9
    have HF := Lib.hid hF
    have P6 := Lib.hid p6
    have P8 := Lib.hid p8
    have P7 := Lib.hid p7
    clear p1 p2 p9 hF p6 hx p8 p7
    go_enter Try.func62, Try.ntmps62
    go_upto_region 3 with (first | (go_at_call 55; refine (hp _ (by repeat (first | exact Ext.refl _ | assumption | refine Ext.alloc ?_ _ | refine Ext.drew ?_ | refine Ext.setCell ?_ (by first | (simp; done) | (dsimp only; omega)) _ | refine Ext.trans ?_ (by assumption)))).mono ?_; rintro e w1 ⟨rfl, hb1⟩))
    have c21 := hb1.someCell c2
    have hlt1 : mb < w1.heap.size := Nat.lt_of_lt_of_le hlt hb1.size
    have EA : Ext w (w1.alloc (.cells #[.int .u64 a] 23 (0, 0))) := hb1.alloc _
    have HO := Lib.hid (P9.out.ext EA)
    have HNW : Hid (∀ j u, [Value.int .u64 a][j]? = some u → (w1.alloc (.cells #[.int .u64 a] 23 (0, 0))).cell? ((⟨w1.heap.size, 0, none⟩ : Addr).add j) = some u) := Lib.hid fun j u hu => by
      rw [add0, cell_heap, alloc_same]; simpa [objCell] using hu
    have HZ : Hid (∀ w9 : World, World.grownBy (w1.alloc (.cells #[.int .u64 a] 23 (0, 0))) w9 (Value.slice at1 T.length tc).ownBlock → w9.heap[mb]? = some (.cells #[.int .i64 B, .map (some pb), .slice at1 T.length tc] 187 (0, 0))) := Lib.hid fun w9 q2 =>
      (q2.block mb (by rw [World.size_alloc]; omega) (fun e => (HTN.out mb e.symm).1 rfl)).trans ((EA.block mb hlt).trans P1.out)
    have HEA := Lib.hid EA
    clear EA c2 hfr
    go_wp2_with (first | (at_builtin; refine wpList_append_owns rfl _ _ _ _ 1 8 wordRow rfl _ rfl T.length (T.map (Value.int .u64 ·)) HO.out _ 1 1 rfl [.int .u64 a] rfl HNW.out (by simp [Value.oneCell']) (by unfold maxLen; omega) (by omega) ?_; intro v9 w9 q1 q2 q3; replace q2 : World.grownBy (w1.alloc (.cells #[.int .u64 a] 23 (0, 0))) w9 (Value.slice at1 T.length tc).ownBlock := q2; replace q3 : v9.ownBlock = (Value.slice at1 T.length tc).ownBlock ∨ v9.ownBlock = some (w1.alloc (.cells #[.int .u64 a] 23 (0, 0))).heap.size := q3; obtain ⟨a9, c9, rfl, -, -⟩ := q1.form; have z1 := HZ.out w9 q2; have x2 := (heap_cell z1 2).trans rfl; have x3 := frozen_of z1; have Z1 := Lib.hid z1; clear z1; simp only [Act.put, Array.set!_eq_setIfInBounds, List.setIfInBounds_toArray, List.set_cons_succ, List.set_cons_zero]))
    go_ret2
    have hsz : w.heap.size ≤ w1.heap.size := hb1.size
    have hown : ∀ g, (Value.slice a9 (T.length + 1) c9).ownBlock = some g → g ≠ mb ∧ g ≠ pb ∧ (∀ y ∈ PL, g ≠ y.2) ∧ (g ∈ F ∨ w.heap.size ≤ g) := fun g hg => by
      rcases q3 with q | q
      · obtain ⟨k1, k2, k3⟩ := HTN.out g (q.symm.trans hg)
        refine ⟨k1, k2, k3, .inl ?_⟩
        rw [HF.out, ← q, hg]; simp
      · have hge : g = w1.heap.size + 1 := by
          have h9 := q.symm.trans hg
          rw [World.size_alloc] at h9
          injection h9 with h9
          exact h9.symm
        refine ⟨by omega, by omega, fun y hy => ?_, .inr (by omega)⟩
        have := (HPN.out y hy).2.2
        omega
    have hblk : ∀ b, b < w.heap.size → b ≠ mb → (∀ g, (Value.slice at1 T.length tc).ownBlock = some g → b ≠ g) → (w9.setCell ⟨mb, 2, none⟩ (.slice a9 (T.length + 1) c9)).heap[b]? = w.heap[b]? := fun b hb hn hg =>
      (setCell_heap _ _ _ _ _ (Ne.symm hn)).trans ((q2.block b (by rw [World.size_alloc]; omega) (fun e => hg b e.symm rfl)).trans (HEA.out.block b hb))
    refine ⟨rfl, mb :: pb :: ((Value.slice a9 (T.length + 1) c9).ownBlock.toList ++ PL.map (·.2)), ⟨pb, .slice a9 (T.length + 1) c9, es, clock, PL, setCell_heap_same Z1.out, ?_, p3, p4, p5, fun y hy => ?_, P7.out, P8.out, ?_, rfl, hB⟩, ?_, fun y hy => ?_⟩
    · exact (hblk pb hlp hpm (fun g hg => (HTN.out g hg).2.1.symm)).trans P2.out
    · obtain ⟨c, r1, r2, r3⟩ := P6.out y hy
      obtain ⟨n1, n2, n3⟩ := HPN.out y hy
      exact ⟨c, (hblk y.2 n3 n1 (fun g hg => ((HTN.out g hg).2.2 y hy).symm)).trans r1, r2, r3⟩
    · have : Owns w9 23 1 (.slice a9 (T.length + 1) c9) (T ++ [a]).length ((T ++ [a]).map (Value.int .u64 ·)) := by
        rw [List.map_append, List.length_append]; exact q1
      exact this.keep fun g hg => setCell_heap _ _ _ _ _ (hown g hg).1.symm
    · refine ((Keeps.of_ext HEA.out).grown q2 (fun g hg => .inl ?_)).setCell (.inl ?_) _
      · rw [HF.out, hg]; simp
      · rw [HF.out]; simp
    · simp only [List.mem_cons, List.mem_append, Option.mem_toList] at hy
      rcases hy with rfl | rfl | hy | hy
      · exact .inl (by rw [HF.out]; simp)
      · exact .inl (by rw [HF.out]; simp)
      · exact (hown y hy).2.2.2
      · exact .inl (by rw [HF.out]; simp only [List.mem_cons, List.mem_append]; exact .inr (.inr (.inr hy)))
  · rw [if_neg he, if_neg he]
    simp only [if_neg he] at hp
    have hr := fun w' => EndMem.refl (w' := w') h
    generalize hEr : errM B a = er at hp he
    have heb : (er == 0) = false := by simpa using he
    clear h hEr he
    go_enter Try.func62, Try.ntmps62
    go_wp2_with (first | (go_at_call 55; refine (hp _ (by repeat (first | exact Ext.refl _ | assumption | refine Ext.alloc ?_ _ | refine Ext.drew ?_ | refine Ext.setCell ?_ (by first | (simp; done) | (dsimp only; omega)) _ | refine Ext.trans ?_ (by assumption)))).mono ?_; rintro e w1 ⟨rfl, hb1⟩; have ⟨hc, hf, hh, hs⟩ := hb1.facts))
    all_goals
      go_ret2
      exact ⟨rfl, hr _ (by repeat (first | exact Ext.refl _ | assumption | refine Ext.alloc ?_ _ | refine Ext.drew ?_ | refine Ext.setCell ?_ (by first | (simp; done) | (dsimp only; omega)) _ | refine Ext.trans ?_ (by assumption)))⟩

theorem EntP.nil : EntP #[] 0 [] := ⟨⟨fun e h => by simp at h, by simp⟩, rfl⟩
def NewMem (B : Int) (w : World) (e : Ending) (w' : World) : Prop :=
  ∃ mb F, e = .returned (.pointer (some ⟨mb, 0, none⟩)) ∧ MemAt w' mb F B (fun _ => 0) [] ∧ Ext w w' ∧ ∀ x ∈ F, w.heap.size ≤ x
theorem memNew_c (B : Int) (w : World) (hB : 14 ≤ B ∧ B ≤ 22) :
    Calls Try.prog 56 #[.int .i64 B] w (NewMem B w) := by
  have hmk : ∀ w, (Instr.makeMap 185 none).run Try.prog w = .ok (.map (some w.heap.size)) (w.alloc (.map #[] 0)) := fun _ => rfl
  obtain ⟨hB0, hB1⟩ := hB
  go_enter Try.func56, Try.ntmps56
  go_wp2
  all_goals
    go_ret
    refine ⟨w.heap.size + 1, [w.heap.size + 1, w.heap.size], rfl, ⟨w.heap.size, .slice none 0 0, #[], 0, [], ?_, ?_, EntP.nil, List.nodup_nil, List.nodup_nil, (fun x hx => by cases hx), fun _ _ => rfl, fun _ => ⟨Int.le_refl 0, by show (0 : Int) ≤ _; omega⟩, Owns.nil .., rfl, hB0, hB1⟩, (by repeat (first | exact Ext.refl _ | assumption | refine Ext.alloc ?_ _ | refine Ext.drew ?_ | refine Ext.setCell ?_ (by first | (simp; done) | (dsimp only; omega)) _ | refine Ext.trans ?_ (by assumption))), by simp⟩
    · rw [alloc_same1]
    · rw [alloc_other _ _ (by simp), alloc_same]
end Go.Proofs.Ytfaekfdngkpkdaa
/- Contracts of the document's powers and bits. -/
namespace Go.Proofs.Ytfaekfdngkpkdaa
set_option linter.unusedVariables false
set_option linter.unusedSimpArgs false
open Go.RowKit
attribute [local go_sem] wext_cell wext_frozen wext_heap alloc_cell alloc_frozen alloc_heap setCell_cell objCell_cells objFrozen_cells

/-- two to a power -/
def pow2 (n : Int) : Int := ((2 ^ n.toNat : Nat) : Int)
theorem pow2_pos (n : Int) : 1 ≤ pow2 n := by
  unfold pow2; have : 0 < 2 ^ n.toNat := Nat.pow_pos (by omega); omega
theorem pow2_le (n : Int) (h : n ≤ 63) : pow2 n ≤ 9223372036854775808 := by
  unfold pow2; have : 2 ^ n.toNat ≤ 2 ^ 63 := Nat.pow_le_pow_right (by omega) (by omega); omega
theorem pow2_zero : pow2 0 = 1 := rfl
theorem pow2_succ (j : Nat) (h : j < 63) : IntKind.u64.wrap (2 * pow2 j) = pow2 ((j : Int) + 1) := by
  have h1 := pow2_le ((j : Int) + 1) (by omega)
  have h2 : pow2 ((j : Int) + 1) = 2 * pow2 j := by
    unfold pow2
    rw [show ((j : Int) + 1).toNat = j + 1 by omega, show (j : Int).toNat = j by omega, Nat.pow_succ]
    omega
  have h3 := pow2_pos j
  rw [h2, IntKind.wrap_u64]
  omega

set_option maxHeartbeats 800000 in
theorem power_c (n : Int) (w : World) (h0 : 0 ≤ n) (h1 : n ≤ 63) :
    Calls Try.prog 115 #[.int .i64 n] w fun e w' => e = .returned (.int .u64 (pow2 n)) ∧ Ext w w' := by
  go_enter Try.func115, Try.ntmps115
  go_wp2
  go_loop [3, 4] (fun x i => ∃ j : Nat, (j : Int) ≤ n ∧ i = .int .i64 j ∧ x = .int .u64 (pow2 j)) (fun _ i => (n - intOf i).toNat)
  case atStart => exact ⟨0, by omega, rfl, rfl⟩
  case round =>
    obtain ⟨j, hj, rfl, rfl⟩ := hrel
    by_cases hlt : (j : Int) < n
    · go_wp2
      go_round
      case rel => exact ⟨j + 1, by omega, by go_num, by rw [pow2_succ _ (by omega)]; rfl⟩
      case measure => simp [intOf]; omega
    · have : n = j := by omega
      have HN := Lib.hid this
      clear this
      go_wp2
      go_ret
      exact ⟨by rw [HN.out]; rfl, Ext.refl _⟩

def bitB (x i : Int) : Bool := x / pow2 i % 2 == 1

set_option maxHeartbeats 800000 in
theorem bit_c (x i : Int) (w : World) (hx : 0 ≤ x) (hx1 : x ≤ 18446744073709551615) (h0 : 0 ≤ i) (h1 : i ≤ 63) :
    Calls Try.prog 71 #[.int .u64 x, .int .i64 i] w fun e w' => e = .returned (.bool (bitB x i)) ∧ Ext w w' := by
  have hp := pow2_pos i
  have hq0 : 0 ≤ x / pow2 i := Int.ediv_nonneg hx (by omega)
  have hq1 : x / pow2 i ≤ 18446744073709551615 := by have := Int.ediv_le_self (pow2 i) hx; omega
  go_enter Try.func71, Try.ntmps71
  go_wp2_with (go_at_call 115; refine (power_c _ _ h0 h1).mono ?_; rintro e w1 ⟨rfl, hb⟩; have ⟨hc, hf, hh, hs⟩ := hb.facts; try simp only [World.size_alloc, World.size_setCell, World.size_drew] at hs)
  go_ret
  exact ⟨rfl, hb⟩

end Go.Proofs.Ytfaekfdngkpkdaa
/- Bits of a word, by division. Own text. -/
namespace Go.Proofs.Ytfaekfdngkpkdaa
open Go.RowKit

theorem bits_bit (n i : Nat) (hn : n < 18446744073709551616) (hi : i < 64) : bits BinOp.and IntKind.u64 (n : Int) ((2 ^ i : Nat) : Int) = ((n / 2 ^ i % 2 * 2 ^ i : Nat) : Int) := by
  have hp : 2 ^ i < 18446744073709551616 := by
    have : (2 : Nat) ^ i ≤ 2 ^ 63 := Nat.pow_le_pow_right (by omega) (by omega)
    omega
  rw [u64_and_nat n (2 ^ i) hn hp, nat_bit]

theorem bit_ne (n i : Nat) (hn : n < 18446744073709551616) (hi : i < 64) : (bits BinOp.and IntKind.u64 (n : Int) ((2 ^ i : Nat) : Int) != 0) = bitB n i := by
  rw [bits_bit n i hn hi]
  unfold bitB pow2
  rw [Int.toNat_natCast]
  have h2 : 0 < 2 ^ i := Nat.pow_pos (by omega)
  have e : ((n : Int) / ((2 ^ i : Nat) : Int) % 2) = ((n / 2 ^ i % 2 : Nat) : Int) := by simp
  rw [e]
  have h3 : n / 2 ^ i % 2 = 0 ∨ n / 2 ^ i % 2 = 1 := by omega
  rcases h3 with h | h
  · rw [h]; simp
  · rw [h]
    have : ¬ (((1 * 2 ^ i : Nat) : Int) = 0) := by omega
    rw [Bool.eq_iff_iff]
    simp only [bne_iff_ne, ne_eq, this, not_false_eq_true, beq_iff_eq, true_iff]
    rfl

theorem u64_of_wf {x : Int} (h : (Lit.int .u64 x).wf = true) : 0 ≤ x ∧ x ≤ 18446744073709551615 := by
  exact bounds_u64 h
end Go.Proofs.Ytfaekfdngkpkdaa
/- Entries: fields, tables, slots, leaves, reserved bits, frames; rights. -/
namespace Go.Proofs.Ytfaekfdngkpkdaa
set_option linter.unusedVariables false
set_option linter.unusedSimpArgs false
open Go.RowKit
attribute [local go_sem] wext_cell wext_frozen wext_heap alloc_cell alloc_frozen alloc_heap setCell_cell objCell_cells objFrozen_cells

theorem maskE {a : Int} (i : Nat) (hi : i < 64) (h0 : 0 ≤ a) (h1 : a ≤ 18446744073709551615) : bits BinOp.and IntKind.u64 a ((2 ^ i - 1 : Nat) : Int) = a % ((2 ^ i : Nat) : Int) := by
  have hp : 2 ^ i - 1 < 18446744073709551616 := by
    have : (2 : Nat) ^ i ≤ 2 ^ 63 := Nat.pow_le_pow_right (by omega) (by omega)
    omega
  have e : a = (a.toNat : Int) := (Int.toNat_of_nonneg h0).symm
  rw [e, u64_and_nat _ _ (by omega) hp, Nat.and_two_pow_sub_one_eq_mod]
  rfl
theorem bitE {a : Int} (i : Nat) (hi : i < 64) (h0 : 0 ≤ a) (h1 : a ≤ 18446744073709551615) : (bits BinOp.and IntKind.u64 a ((2 ^ i : Nat) : Int) != 0) = bitB a i := by
  have e : a = (a.toNat : Int) := (Int.toNat_of_nonneg h0).symm
  rw [e]
  exact bit_ne _ i (by omega) hi

theorem two_pow (n : Int) : (2 : Int) ^ n.toNat = pow2 n := by unfold pow2; simp
theorem fieldNone_c (lo n : Int) (w : World) (h0 : 0 ≤ lo) (h1 : 1 ≤ n) (h2 : lo ≤ 63) (h3 : n ≤ 64 - lo) :
    Calls Try.prog 137 #[.int .i64 lo, .int .i64 n] w fun e w' => e = .returned (.bool false) ∧ Ext w w' := by
  go_enter Try.func137, Try.ntmps137
  go_wp2
  all_goals
    go_ret
    exact ⟨rfl, (by repeat (first | exact Ext.refl _ | assumption | refine Ext.alloc ?_ _ | refine Ext.drew ?_ | refine Ext.setCell ?_ (by first | (simp; done) | (dsimp only; omega)) _ | refine Ext.trans ?_ (by assumption)))⟩
theorem ones_c (n : Int) (w : World) (h0 : 1 ≤ n) (h1 : n ≤ 63) :
    Calls Try.prog 138 #[.int .i64 n] w fun e w' => e = .returned (.int .u64 (pow2 n - 1)) ∧ Ext w w' := by
  go_enter Try.func138, Try.ntmps138
  go_wp2
  all_goals
    go_ret
    refine ⟨?_, (by repeat (first | exact Ext.refl _ | assumption | refine Ext.alloc ?_ _ | refine Ext.drew ?_ | refine Ext.setCell ?_ (by first | (simp; done) | (dsimp only; omega)) _ | refine Ext.trans ?_ (by assumption)))⟩
    have hw : IntKind.u64.wrap (IntKind.u64.wrap ((2 : Int) ^ n.toNat) - 1) = pow2 n - 1 := by
      have := pow2_pos n
      have := pow2_le n h1
      rw [two_pow, IntKind.wrap_u64, IntKind.wrap_u64]; omega
    rw [← hw]; rfl
theorem fieldGet_c (x lo n : Int) (w : World) (hx : 0 ≤ x) (hx1 : x ≤ 18446744073709551615) (h0 : 0 ≤ lo) (h1 : 1 ≤ n) (h2 : lo ≤ 63) (h3 : n ≤ 64 - lo) (h4 : n ≤ 63) :
    Calls Try.prog 112 #[.int .u64 x, .int .i64 lo, .int .i64 n] w fun e w' => e = .returned (.int .u64 (x / pow2 lo % pow2 n)) ∧ Ext w w' := by
  have hm : bits BinOp.and IntKind.u64 (x / pow2 lo) (pow2 n - 1) = x / pow2 lo % pow2 n := by
    have hq0 : 0 ≤ x / pow2 lo := Int.ediv_nonneg hx (by have := pow2_pos lo; omega)
    have hq1 : x / pow2 lo ≤ 18446744073709551615 := by have := Int.ediv_le_self (pow2 lo) hx; omega
    have := maskE (a := x / pow2 lo) n.toNat (by omega) hq0 hq1
    have e : pow2 n - 1 = ((2 ^ n.toNat - 1 : Nat) : Int) := by
      unfold pow2; have : 0 < 2 ^ n.toNat := Nat.pow_pos (by omega); omega
    rw [e, this]; rfl
  have HM := Lib.hid hm
  clear hm
  go_enter Try.func112, Try.ntmps112
  go_wp2_with (first | (go_at_call 137; refine (fieldNone_c _ _ _ h0 h1 h2 h3).mono ?_; rintro e w1 ⟨rfl, hb⟩; have ⟨hc, hf, hh, hs⟩ := hb.facts; try simp only [World.size_alloc, World.size_setCell, World.size_drew] at hs) | (go_at_call 138; refine (ones_c _ _ h1 h4).mono ?_; rintro e w1 ⟨rfl, hb⟩; have ⟨hc, hf, hh, hs⟩ := hb.facts; try simp only [World.size_alloc, World.size_setCell, World.size_drew] at hs))
  go_ret
  refine ⟨?_, (by repeat (first | exact Ext.refl _ | assumption | refine Ext.alloc ?_ _ | refine Ext.drew ?_ | refine Ext.setCell ?_ (by first | (simp; done) | (dsimp only; omega)) _ | refine Ext.trans ?_ (by assumption)))⟩
  rw [← HM.out, ← two_pow lo]; rfl
end Go.Proofs.Ytfaekfdngkpkdaa
/- Entries: tables, slots, leaves, reserved bits, frames; rights. -/
namespace Go.Proofs.Ytfaekfdngkpkdaa
set_option linter.unusedVariables false
set_option linter.unusedSimpArgs false
open Go.RowKit
attribute [local go_sem] wext_cell wext_frozen wext_heap alloc_cell alloc_frozen alloc_heap setCell_cell objCell_cells objFrozen_cells

def tabI (x : Int) : Int := x % 4503599627370496 - x % 4096
theorem tabI_le {x : Int} (h : 0 ≤ x) : 0 ≤ tabI x ∧ tabI x ≤ 4503599627366400 ∧ tabI x % 4096 = 0 ∧ tabI x ≤ x := by unfold tabI; omega
theorem tab_and {x : Int} (h0 : 0 ≤ x) (h1 : x ≤ 18446744073709551615) : bits BinOp.and IntKind.u64 x 4503599627366400 = tabI x := by
  have e : x = (x.toNat : Int) := (Int.toNat_of_nonneg h0).symm
  have hn : ∀ n : Nat, n &&& 4503599627366400 = n % 4503599627370496 - n % 4096 := fun n => by
    have e1 : (4503599627366400 : Nat) = (2 ^ 40 - 1) <<< 12 := by decide
    have e2 : n % 4503599627370496 - n % 4096 = (n >>> 12 &&& (2 ^ 40 - 1)) <<< 12 := by
      rw [Nat.and_two_pow_sub_one_eq_mod, Nat.shiftLeft_eq, Nat.shiftRight_eq_div_pow]
      omega
    rw [e2, e1]
    apply Nat.eq_of_testBit_eq
    intro i
    simp only [Nat.testBit_and, Nat.testBit_shiftLeft, Nat.testBit_shiftRight]
    by_cases hi : 12 ≤ i
    · simp [hi, show 12 + (i - 12) = i by omega]
    · simp [hi]
  rw [e, show (4503599627366400 : Int) = ((4503599627366400 : Nat) : Int) from rfl, u64_and_nat _ _ (by omega) (by omega), hn]
  unfold tabI
  omega
def idxI (a l : Int) : Int := if l = 1 then a / 4096 % 512 else if l = 2 then a / 2097152 % 512 else if l = 3 then a / 1073741824 % 512 else a / 549755813888 % 512
theorem idxI_le (a l : Int) : 0 ≤ idxI a l ∧ idxI a l ≤ 511 := by unfold idxI; split; omega; split; omega; split <;> omega
def slotI (t a l : Int) : Int := tabI t + 8 * idxI a l
theorem slotI_le {t a l : Int} (h : 0 ≤ t) : 0 ≤ slotI t a l ∧ slotI t a l ≤ 4503599627370488 ∧ slotI t a l % 8 = 0 := by
  have := idxI_le a l; have := tabI_le h; unfold slotI; omega
def leafI (x l : Int) : Bool := l == 1 || ((l == 2 || l == 3) && bitB x 7)
def sizeE (l : Int) : Int := if l = 1 then 4096 else if l = 2 then 2097152 else if l = 3 then 1073741824 else 1
def resI (x l B : Int) (nxe : Bool) : Bool := x / pow2 B % pow2 (52 - B) != 0 || (bitB x 63 && !nxe) || (l == 4 && bitB x 7) || (l == 2 && bitB x 7 && x / 8192 % 256 != 0) || (l == 3 && bitB x 7 && x / 8192 % 131072 != 0)
def frameI (x l : Int) : Int := if leafI x l then tabI x - tabI x % sizeE l else tabI x

theorem mask_c (w : World) : Calls Try.prog 113 #[.int .i64 12, .int .i64 40] w fun e w' => e = .returned (.int .u64 4503599627366400) ∧ Ext w w' := by
  have h1 : ∀ w, Calls Try.prog 138 #[.int .i64 40] w fun e w' => e = .returned (.int .u64 1099511627775) ∧ Ext w w' := fun w => ones_c 40 w (by omega) (by omega)
  go_enter Try.func113, Try.ntmps113
  go_wp2_with (first | (go_at_call 137; refine (fieldNone_c _ _ _ (by omega) (by omega) (by omega) (by omega)).mono ?_; rintro e w1 ⟨rfl, hb⟩; have ⟨hc, hf, hh, hs⟩ := hb.facts; try simp only [World.size_alloc, World.size_setCell, World.size_drew] at hs) | (go_at_call 138; refine (h1 _).mono ?_; rintro e w1 ⟨rfl, hb⟩; have ⟨hc, hf, hh, hs⟩ := hb.facts; try simp only [World.size_alloc, World.size_setCell, World.size_drew] at hs))
  go_ret
  exact ⟨rfl, (by repeat (first | exact Ext.refl _ | assumption | refine Ext.alloc ?_ _ | refine Ext.drew ?_ | refine Ext.setCell ?_ (by first | (simp; done) | (dsimp only; omega)) _ | refine Ext.trans ?_ (by assumption)))⟩
theorem entTable_c (x : Int) (w : World) (h0 : 0 ≤ x) (h1 : x ≤ 18446744073709551615) : Calls Try.prog 68 #[.int .u64 x] w fun e w' => e = .returned (.int .u64 (tabI x)) ∧ Ext w w' := by
  have ht := tab_and h0 h1
  go_enter Try.func68, Try.ntmps68
  go_wp2_with (first | (go_at_call 113; refine (mask_c _).mono ?_; rintro e w1 ⟨rfl, hb⟩; have ⟨hc, hf, hh, hs⟩ := hb.facts; try simp only [World.size_alloc, World.size_setCell, World.size_drew] at hs))
  go_ret
  exact ⟨by rw [← ht]; rfl, (by repeat (first | exact Ext.refl _ | assumption | refine Ext.alloc ?_ _ | refine Ext.drew ?_ | refine Ext.setCell ?_ (by first | (simp; done) | (dsimp only; omega)) _ | refine Ext.trans ?_ (by assumption)))⟩
theorem vaShiftE_c (l : Int) (w : World) (h0 : 1 ≤ l) (h1 : l ≤ 4) :
    Calls Try.prog 136 #[.int .i64 l] w fun e w' => e = .returned (.tuple #[.int .i64 (9 * l + 3), .bool true]) ∧ Ext w w' := by
  have : l = 1 ∨ l = 2 ∨ l = 3 ∨ l = 4 := by omega
  rcases this with rfl | rfl | rfl | rfl
  all_goals
    go_enter Try.func136, Try.ntmps136
    go_wp2
    go_ret2
    exact ⟨rfl, (by repeat (first | exact Ext.refl _ | assumption | refine Ext.alloc ?_ _ | refine Ext.drew ?_ | refine Ext.setCell ?_ (by first | (simp; done) | (dsimp only; omega)) _ | refine Ext.trans ?_ (by assumption)))⟩
theorem vaIndexE_c (a l : Int) (w : World) (hl0 : 1 ≤ l) (hl1 : l ≤ 4) (h0 : 0 ≤ a) (h1 : a ≤ 18446744073709551615) : Calls Try.prog 111 #[.int .u64 a, .int .i64 l] w fun e w' => e = .returned (.int .i64 (idxI a l)) ∧ Ext w w' := by
  have hs : ∀ w, Calls Try.prog 136 #[.int .i64 l] w fun e w' => e = .returned (.tuple #[.int .i64 (9 * l + 3), .bool true]) ∧ Ext w w' := fun w => vaShiftE_c l w hl0 hl1
  have hg : ∀ w, Calls Try.prog 112 #[.int .u64 a, .int .i64 (9 * l + 3), .int .i64 9] w fun e w' => e = .returned (.int .u64 (idxI a l)) ∧ Ext w w' := fun w => by
    have := fieldGet_c a (9 * l + 3) 9 w h0 h1 (by omega) (by omega) (by omega) (by omega) (by omega)
    have hl : l = 1 ∨ l = 2 ∨ l = 3 ∨ l = 4 := by omega
    rcases hl with rfl | rfl | rfl | rfl <;> exact this
  have hi := idxI_le a l
  generalize idxI a l = i at hg hi
  obtain ⟨hi0, hi1⟩ := hi
  go_enter Try.func111, Try.ntmps111
  go_wp2_with (first | (go_at_call 136; refine (hs _).mono ?_; rintro e w1 ⟨rfl, hb⟩; have ⟨hc, hf, hh, hs⟩ := hb.facts; try simp only [World.size_alloc, World.size_setCell, World.size_drew] at hs) | (go_at_call 112; refine (hg _).mono ?_; rintro e w1 ⟨rfl, hb⟩; have ⟨hc, hf, hh, hs⟩ := hb.facts; try simp only [World.size_alloc, World.size_setCell, World.size_drew] at hs))
  go_ret
  exact ⟨rfl, (by repeat (first | exact Ext.refl _ | assumption | refine Ext.alloc ?_ _ | refine Ext.drew ?_ | refine Ext.setCell ?_ (by first | (simp; done) | (dsimp only; omega)) _ | refine Ext.trans ?_ (by assumption)))⟩
theorem entSlot_c (t a l : Int) (w : World) (ht0 : 0 ≤ t) (ht1 : t ≤ 18446744073709551615) (hl0 : 1 ≤ l) (hl1 : l ≤ 4) (h0 : 0 ≤ a) (h1 : a ≤ 18446744073709551615) :
    Calls Try.prog 61 #[.int .u64 t, .int .u64 a, .int .i64 l] w fun e w' => e = .returned (.int .u64 (slotI t a l)) ∧ Ext w w' := by
  have hi := fun w => vaIndexE_c a l w hl0 hl1 h0 h1
  have hil := idxI_le a l
  unfold slotI
  generalize idxI a l = i at hi hil
  have ht := fun w => entTable_c t w ht0 ht1
  have htl := tabI_le ht0
  generalize tabI t = b at ht htl
  obtain ⟨hi0, hi1⟩ := hil
  obtain ⟨hb0, hb1, -, -⟩ := htl
  go_enter Try.func61, Try.ntmps61
  go_wp2_with (first | (go_at_call 68; refine (ht _).mono ?_; rintro e w1 ⟨rfl, hb⟩; have ⟨hc, hf, hh, hs⟩ := hb.facts; try simp only [World.size_alloc, World.size_setCell, World.size_drew] at hs) | (go_at_call 111; refine (hi _).mono ?_; rintro e w1 ⟨rfl, hb⟩; have ⟨hc, hf, hh, hs⟩ := hb.facts; try simp only [World.size_alloc, World.size_setCell, World.size_drew] at hs))
  go_ret
  exact ⟨rfl, (by repeat (first | exact Ext.refl _ | assumption | refine Ext.alloc ?_ _ | refine Ext.drew ?_ | refine Ext.setCell ?_ (by first | (simp; done) | (dsimp only; omega)) _ | refine Ext.trans ?_ (by assumption)))⟩
theorem entLeaf_c (x l : Int) (w : World) (h0 : 0 ≤ x) (h1 : x ≤ 18446744073709551615) :
    Calls Try.prog 66 #[.int .u64 x, .int .i64 l] w fun e w' => e = .returned (.bool (leafI x l)) ∧ Ext w w' := by
  have hb : (bits BinOp.and IntKind.u64 x 128 != 0) = bitB x 7 := bitE 7 (by omega) h0 h1
  have : l = 1 ∨ l = 2 ∨ l = 3 ∨ ((l == 1) = false ∧ (l == 2) = false ∧ (l == 3) = false) := by simp only [beq_eq_false_iff_ne]; omega
  unfold leafI
  rcases this with rfl | rfl | rfl | ⟨e1, e2, e3⟩
  case inr.inr.inr =>
    rw [e1, e2, e3]
    go_enter Try.func66, Try.ntmps66
    go_wp2
    go_ret
    exact ⟨rfl, (by repeat (first | exact Ext.refl _ | assumption | refine Ext.alloc ?_ _ | refine Ext.drew ?_ | refine Ext.setCell ?_ (by first | (simp; done) | (dsimp only; omega)) _ | refine Ext.trans ?_ (by assumption)))⟩
  all_goals
    go_enter Try.func66, Try.ntmps66
    go_wp2
    go_ret
    exact ⟨by simp [hb], (by repeat (first | exact Ext.refl _ | assumption | refine Ext.alloc ?_ _ | refine Ext.drew ?_ | refine Ext.setCell ?_ (by first | (simp; done) | (dsimp only; omega)) _ | refine Ext.trans ?_ (by assumption)))⟩
end Go.Proofs.Ytfaekfdngkpkdaa
/- A walk, plainly: its steps, why it ends, rights, level, frame. -/
namespace Go.Proofs.Ytfaekfdngkpkdaa
set_option linter.unusedVariables false
set_option linter.unusedSimpArgs false
open Go.RowKit
attribute [local go_sem] wext_cell wext_frozen wext_heap alloc_cell alloc_frozen alloc_heap setCell_cell objCell_cells objFrozen_cells

abbrev Rt := Bool × Bool × Bool
abbrev Stp := Int × Int × Int
def noRt : Rt := (false, false, false)
def allRt : Rt := (true, true, true)
def andR (r : Rt) (x : Int) : Rt := (r.1 && bitB x 1, r.2.1 && bitB x 2, r.2.2 && !bitB x 63)
def Stp.cells (s : Stp) : List Value := [.int .i64 s.1, .int .u64 s.2.1, .int .u64 s.2.2]
def rowS (L : List Stp) : List Value := L.flatMap Stp.cells
theorem rowS_length (L : List Stp) : (rowS L).length = L.length * 3 := by
  induction L with
  | nil => rfl
  | cons s L ih => simp only [rowS, List.flatMap_cons, List.length_append, List.length_cons, Stp.cells, List.length_nil] at *; omega
theorem rowS_append (L L2 : List Stp) : rowS (L ++ L2) = rowS L ++ rowS L2 := by simp [rowS]
abbrev WRes := Int × Rt × Int × Int
/-- A walk from a level on: its steps; why, rights, level, frame. -/
def walkF (M : Int → Int) (B : Int) (nxe : Bool) (a : Int) : Nat → Int → Rt → List Stp × WRes
  | 0, _, _ => ([], 2, noRt, 0, 0)
  | n + 1, t, r =>
    if errM B (slotI t a ((n : Int) + 1)) = 0 then
      if bitB (M (slotI t a ((n : Int) + 1) / 8)) 0 then
        if resI (M (slotI t a ((n : Int) + 1) / 8)) ((n : Int) + 1) B nxe then ([((n : Int) + 1, slotI t a ((n : Int) + 1), M (slotI t a ((n : Int) + 1) / 8))], 2, noRt, 0, 0)
        else if leafI (M (slotI t a ((n : Int) + 1) / 8)) ((n : Int) + 1) then
          ([((n : Int) + 1, slotI t a ((n : Int) + 1), M (slotI t a ((n : Int) + 1) / 8))], 0, andR r (M (slotI t a ((n : Int) + 1) / 8)), (n : Int) + 1, frameI (M (slotI t a ((n : Int) + 1) / 8)) ((n : Int) + 1))
        else
          ((((n : Int) + 1, slotI t a ((n : Int) + 1), M (slotI t a ((n : Int) + 1) / 8)) : Stp) :: (walkF M B nxe a n (tabI (M (slotI t a ((n : Int) + 1) / 8))) (andR r (M (slotI t a ((n : Int) + 1) / 8)))).1,
            (walkF M B nxe a n (tabI (M (slotI t a ((n : Int) + 1) / 8))) (andR r (M (slotI t a ((n : Int) + 1) / 8)))).2)
      else ([((n : Int) + 1, slotI t a ((n : Int) + 1), M (slotI t a ((n : Int) + 1) / 8))], 1, noRt, 0, 0)
    else ([], 2, noRt, 0, 0)
theorem walkF_bad {M : Int → Int} {B : Int} {nxe : Bool} {a : Int} {n : Nat} {t : Int} {r : Rt} (h : errM B (slotI t a ((n : Int) + 1)) ≠ 0) : walkF M B nxe a (n + 1) t r = ([], 2, noRt, 0, 0) := by
  show (if _ then _ else _) = _
  rw [if_neg h]
theorem walkF_absent {M : Int → Int} {B : Int} {nxe : Bool} {a : Int} {n : Nat} {t : Int} {r : Rt} {s x : Int} (hs : slotI t a ((n : Int) + 1) = s) (hx : M (s / 8) = x) (h : errM B s = 0) (hp : bitB x 0 = false) :
    walkF M B nxe a (n + 1) t r = ([((n : Int) + 1, s, x)], 1, noRt, 0, 0) := by
  subst hs hx
  unfold walkF
  rw [if_pos h, if_neg (by rw [hp]; decide)]
theorem walkF_res {M : Int → Int} {B : Int} {nxe : Bool} {a : Int} {n : Nat} {t : Int} {r : Rt} {s x : Int} (hs : slotI t a ((n : Int) + 1) = s) (hx : M (s / 8) = x) (h : errM B s = 0) (hp : bitB x 0 = true) (hr : resI x ((n : Int) + 1) B nxe = true) :
    walkF M B nxe a (n + 1) t r = ([((n : Int) + 1, s, x)], 2, noRt, 0, 0) := by
  subst hs hx
  unfold walkF
  rw [if_pos h, if_pos hp, if_pos hr]
theorem walkF_leaf {M : Int → Int} {B : Int} {nxe : Bool} {a : Int} {n : Nat} {t : Int} {r : Rt} {s x : Int} (hs : slotI t a ((n : Int) + 1) = s) (hx : M (s / 8) = x) (h : errM B s = 0) (hp : bitB x 0 = true) (hr : resI x ((n : Int) + 1) B nxe = false) (hl : leafI x ((n : Int) + 1) = true) :
    walkF M B nxe a (n + 1) t r = ([((n : Int) + 1, s, x)], 0, andR r x, (n : Int) + 1, frameI x ((n : Int) + 1)) := by
  subst hs hx
  unfold walkF
  rw [if_pos h, if_pos hp, if_neg (by rw [hr]; decide), if_pos hl]
theorem walkF_on {M : Int → Int} {B : Int} {nxe : Bool} {a : Int} {n : Nat} {t : Int} {r : Rt} {s x : Int} (hs : slotI t a ((n : Int) + 1) = s) (hx : M (s / 8) = x) (h : errM B s = 0) (hp : bitB x 0 = true) (hr : resI x ((n : Int) + 1) B nxe = false) (hl : leafI x ((n : Int) + 1) = false) :
    walkF M B nxe a (n + 1) t r = (((n : Int) + 1, s, x) :: (walkF M B nxe a n (tabI x) (andR r x)).1, (walkF M B nxe a n (tabI x) (andR r x)).2) := by
  subst hs hx
  conv => lhs; unfold walkF
  rw [if_pos h, if_pos hp, if_neg (by rw [hr]; decide), if_neg (by rw [hl]; decide)]

theorem stepRow : RowT Try.prog 36 65 3 24 := RowT.of (z := .agg #[.int .i64 0, .int .u64 0, .int .u64 0]) Try.underlying36 (by kernel_rfl) rfl

/-- The three blocks of a walk: where it goes on, what it hands back, its path so far. -/
def Fr (w : World) (p q o : Nat) (lv t : Int) (r : Rt) (sv : Value) : Prop :=
  w.heap[p]? = some (.cells #[.int .i64 lv, .int .u64 t, .bool r.1, .bool r.2.1, .bool r.2.2] 41 (0, 0)) ∧
  w.heap[q]? = some (.cells #[.slice none 0 0, .int .i64 0, .bool false, .bool false, .bool false, .int .i64 0, .int .u64 0] 38 (0, 0)) ∧
  w.heap[o]? = some (.cells #[sv, .int .i64 2, .bool false, .bool false, .bool false, .int .i64 0, .int .u64 0] 38 (0, 0))
theorem Fr.keep {w w' : World} {p q o : Nat} {lv t : Int} {r : Rt} {sv : Value} (h : Fr w p q o lv t r sv) (k1 : w'.heap[p]? = w.heap[p]?) (k2 : w'.heap[q]? = w.heap[q]?) (k3 : w'.heap[o]? = w.heap[o]?) : Fr w' p q o lv t r sv :=
  ⟨k1.trans h.1, k2.trans h.2.1, k3.trans h.2.2⟩
theorem Fr.lt {w : World} {p q o : Nat} {lv t : Int} {r : Rt} {sv : Value} (h : Fr w p q o lv t r sv) : p < w.heap.size ∧ q < w.heap.size ∧ o < w.heap.size := ⟨heap_lt h.1, heap_lt h.2.1, heap_lt h.2.2⟩
theorem Fr.ext {w w' : World} {p q o : Nat} {lv t : Int} {r : Rt} {sv : Value} (h : Fr w p q o lv t r sv) (k : Ext w w') : Fr w' p q o lv t r sv := by
  have ⟨a, b, c⟩ := h.lt
  exact h.keep (k.block _ a) (k.block _ b) (k.block _ c)
/-- A memory's blocks are none of another type. -/
theorem MemAt.apart {w : World} {mb : Nat} {F : List Nat} {B : Int} {M : Int → Int} {T : List Int} (h : MemAt w mb F B M T) {b : Nat} {c : Array Value} {e : TypeId} (hb : w.heap[b]? = some (.cells c e (0, 0)))
    (h1 : e ≠ 187) (h2 : e ≠ 23) (h3 : e ≠ 191) : b ∉ F := by
  obtain ⟨pb, tv, es, clock, PL, p1, p2, p3, p4, p5, p6, p7, p8, p9, rfl, p10⟩ := h
  intro hm
  simp only [List.mem_cons, List.mem_append, Option.mem_toList, List.mem_map] at hm
  rcases hm with rfl | rfl | hm | ⟨y, hy, rfl⟩
  · rw [hb] at p1; simp only [Option.some.injEq, Obj.cells.injEq] at p1; exact h1 p1.2.1
  · rw [hb] at p2; cases p2
  · obtain ⟨c', hc⟩ := p9.heap b hm
    rw [hb] at hc; simp only [Option.some.injEq, Obj.cells.injEq] at hc; exact h2 hc.2.1
  · obtain ⟨c', hc, -⟩ := p6 y hy
    rw [hb] at hc; simp only [Option.some.injEq, Obj.cells.injEq] at hc; exact h3 hc.2.1

/-- What a walk hands back. -/
def EndWalk (mb : Nat) (F : List Nat) (B : Int) (M : Int → Int) (T : List Int) (q : List Stp × WRes) (w : World) (e : Ending) (w' : World) : Prop :=
  ∃ v, e = .returned (.agg #[v, .int .i64 q.2.1, .bool q.2.2.1.1, .bool q.2.2.1.2.1, .bool q.2.2.1.2.2, .int .i64 q.2.2.2.1, .int .u64 q.2.2.2.2]) ∧ Owns w' 65 3 v q.1.length (rowS q.1) ∧
    EndMem mb F w B M (T ++ q.1.map (·.2.1)) w' ∧ ∀ g, v.ownBlock = some g → w.heap.size ≤ g

theorem store7_heap {w : World} {b : Nat} {c0 c1 c2 c3 c4 c5 c6 v0 v1 v2 v3 v4 v5 v6 : Value} {e : TypeId} {f : Nat × Nat} (h : w.heap[b]? = some (.cells #[c0, c1, c2, c3, c4, c5, c6] e f)) :
    (((((((w.setCell ⟨b, 0, none⟩ v0).setCell ⟨b, 1, none⟩ v1).setCell ⟨b, 2, none⟩ v2).setCell ⟨b, 3, none⟩ v3).setCell ⟨b, 4, none⟩ v4).setCell ⟨b, 5, none⟩ v5).setCell ⟨b, 6, none⟩ v6).heap[b]? = some (.cells #[v0, v1, v2, v3, v4, v5, v6] e f) := by
  have h0 : (w.setCell ⟨b, 0, none⟩ v0).heap[b]? = some (.cells #[v0, c1, c2, c3, c4, c5, c6] e f) := setCell_heap_same h
  have h1 : ((w.setCell ⟨b, 0, none⟩ v0).setCell ⟨b, 1, none⟩ v1).heap[b]? = some (.cells #[v0, v1, c2, c3, c4, c5, c6] e f) := setCell_heap_same h0
  have h2 : (((w.setCell ⟨b, 0, none⟩ v0).setCell ⟨b, 1, none⟩ v1).setCell ⟨b, 2, none⟩ v2).heap[b]? = some (.cells #[v0, v1, v2, c3, c4, c5, c6] e f) := setCell_heap_same h1
  have h3 : ((((w.setCell ⟨b, 0, none⟩ v0).setCell ⟨b, 1, none⟩ v1).setCell ⟨b, 2, none⟩ v2).setCell ⟨b, 3, none⟩ v3).heap[b]? = some (.cells #[v0, v1, v2, v3, c4, c5, c6] e f) := setCell_heap_same h2
  have h4 : (((((w.setCell ⟨b, 0, none⟩ v0).setCell ⟨b, 1, none⟩ v1).setCell ⟨b, 2, none⟩ v2).setCell ⟨b, 3, none⟩ v3).setCell ⟨b, 4, none⟩ v4).heap[b]? = some (.cells #[v0, v1, v2, v3, v4, c5, c6] e f) := setCell_heap_same h3
  have h5 : ((((((w.setCell ⟨b, 0, none⟩ v0).setCell ⟨b, 1, none⟩ v1).setCell ⟨b, 2, none⟩ v2).setCell ⟨b, 3, none⟩ v3).setCell ⟨b, 4, none⟩ v4).setCell ⟨b, 5, none⟩ v5).heap[b]? = some (.cells #[v0, v1, v2, v3, v4, v5, c6] e f) := setCell_heap_same h4
  have h6 : (((((((w.setCell ⟨b, 0, none⟩ v0).setCell ⟨b, 1, none⟩ v1).setCell ⟨b, 2, none⟩ v2).setCell ⟨b, 3, none⟩ v3).setCell ⟨b, 4, none⟩ v4).setCell ⟨b, 5, none⟩ v5).setCell ⟨b, 6, none⟩ v6).heap[b]? = some (.cells #[v0, v1, v2, v3, v4, v5, v6] e f) := setCell_heap_same h5
  exact h6
theorem store7_other {w : World} {b b' : Nat} {v0 v1 v2 v3 v4 v5 v6 : Value} (h : b ≠ b') :
    (((((((w.setCell ⟨b, 0, none⟩ v0).setCell ⟨b, 1, none⟩ v1).setCell ⟨b, 2, none⟩ v2).setCell ⟨b, 3, none⟩ v3).setCell ⟨b, 4, none⟩ v4).setCell ⟨b, 5, none⟩ v5).setCell ⟨b, 6, none⟩ v6).heap[b']? = w.heap[b']? := by
  exact (setCell_heap _ b 6 b' v6 h).trans (store6_other h)
theorem ext7 {a w : World} {b : Nat} {v0 v1 v2 v3 v4 v5 v6 : Value} (h : Ext a w) (hb : a.heap.size ≤ b) :
    Ext a (((((((w.setCell ⟨b, 0, none⟩ v0).setCell ⟨b, 1, none⟩ v1).setCell ⟨b, 2, none⟩ v2).setCell ⟨b, 3, none⟩ v3).setCell ⟨b, 4, none⟩ v4).setCell ⟨b, 5, none⟩ v5).setCell ⟨b, 6, none⟩ v6) :=
  Ext.setCell (Ext.setCell (Ext.setCell (Ext.setCell (Ext.setCell (Ext.setCell (Ext.setCell h hb _) hb _) hb _) hb _) hb _) hb _) hb _
theorem keeps7 {a w : World} {G : List Nat} {b : Nat} {v0 v1 v2 v3 v4 v5 v6 : Value} (h : Keeps G a w) (hb : a.heap.size ≤ b) :
    Keeps G a (((((((w.setCell ⟨b, 0, none⟩ v0).setCell ⟨b, 1, none⟩ v1).setCell ⟨b, 2, none⟩ v2).setCell ⟨b, 3, none⟩ v3).setCell ⟨b, 4, none⟩ v4).setCell ⟨b, 5, none⟩ v5).setCell ⟨b, 6, none⟩ v6) :=
  Keeps.setCell (Keeps.setCell (Keeps.setCell (Keeps.setCell (Keeps.setCell (Keeps.setCell (Keeps.setCell h (.inr hb) _) (.inr hb) _) (.inr hb) _) (.inr hb) _) (.inr hb) _) (.inr hb) _) (.inr hb) _
theorem Fr.facts {w : World} {p q o : Nat} {lv t : Int} {r : Rt} {sv : Value} (h : Fr w p q o lv t r sv) :
    (w.cell? ⟨p, 0, none⟩ = some (.int .i64 lv) ∧ w.cell? ⟨p, 1, none⟩ = some (.int .u64 t) ∧ w.cell? ⟨p, 2, none⟩ = some (.bool r.1) ∧ w.cell? ⟨p, 3, none⟩ = some (.bool r.2.1) ∧ w.cell? ⟨p, 4, none⟩ = some (.bool r.2.2) ∧ ∀ i, w.frozen? ⟨p, i, none⟩ = false) ∧
    (w.cell? ⟨q, 0, none⟩ = some (.slice none 0 0) ∧ w.cell? ⟨q, 1, none⟩ = some (.int .i64 0) ∧ w.cell? ⟨q, 2, none⟩ = some (.bool false) ∧ w.cell? ⟨q, 3, none⟩ = some (.bool false) ∧ w.cell? ⟨q, 4, none⟩ = some (.bool false) ∧ w.cell? ⟨q, 5, none⟩ = some (.int .i64 0) ∧ w.cell? ⟨q, 6, none⟩ = some (.int .u64 0) ∧ ∀ i, w.frozen? ⟨q, i, none⟩ = false) ∧
    (w.cell? ⟨o, 0, none⟩ = some sv ∧ w.cell? ⟨o, 1, none⟩ = some (.int .i64 2) ∧ w.cell? ⟨o, 2, none⟩ = some (.bool false) ∧ w.cell? ⟨o, 3, none⟩ = some (.bool false) ∧ w.cell? ⟨o, 4, none⟩ = some (.bool false) ∧ w.cell? ⟨o, 5, none⟩ = some (.int .i64 0) ∧ w.cell? ⟨o, 6, none⟩ = some (.int .u64 0) ∧ ∀ i, w.frozen? ⟨o, i, none⟩ = false) := by
  obtain ⟨h1, h2, h3⟩ := h
  exact ⟨⟨(heap_cell h1 0).trans rfl, (heap_cell h1 1).trans rfl, (heap_cell h1 2).trans rfl, (heap_cell h1 3).trans rfl, (heap_cell h1 4).trans rfl, fun i => by rw [frozen_heap, h1]; simp [objFrozen]⟩,
    ⟨(heap_cell h2 0).trans rfl, (heap_cell h2 1).trans rfl, (heap_cell h2 2).trans rfl, (heap_cell h2 3).trans rfl, (heap_cell h2 4).trans rfl, (heap_cell h2 5).trans rfl, (heap_cell h2 6).trans rfl, fun i => by rw [frozen_heap, h2]; simp [objFrozen]⟩,
    ⟨(heap_cell h3 0).trans rfl, (heap_cell h3 1).trans rfl, (heap_cell h3 2).trans rfl, (heap_cell h3 3).trans rfl, (heap_cell h3 4).trans rfl, (heap_cell h3 5).trans rfl, (heap_cell h3 6).trans rfl, fun i => by rw [frozen_heap, h3]; simp [objFrozen]⟩⟩
end Go.Proofs.Ytfaekfdngkpkdaa
/- Entries: reserved bits, frames; rights. -/
namespace Go.Proofs.Ytfaekfdngkpkdaa
set_option linter.unusedVariables false
set_option linter.unusedSimpArgs false
open Go.RowKit
attribute [local go_sem] wext_cell wext_frozen wext_heap alloc_cell alloc_frozen alloc_heap setCell_cell objCell_cells objFrozen_cells

theorem rightAndE_c (a b c : Bool) (x : Int) (w : World) (h0 : 0 ≤ x) (h1 : x ≤ 18446744073709551615) :
    Calls Try.prog 65 #[.agg #[.bool a, .bool b, .bool c], .int .u64 x] w fun e w' =>
      e = .returned (.agg #[.bool (a && bitB x 1), .bool (b && bitB x 2), .bool (c && !bitB x 63)]) ∧ Ext w w' := by
  have b1 : (bits BinOp.and IntKind.u64 x 2 != 0) = bitB x 1 := bitE 1 (by omega) h0 h1
  have b2 : (bits BinOp.and IntKind.u64 x 4 != 0) = bitB x 2 := bitE 2 (by omega) h0 h1
  have b3' : (bits BinOp.and IntKind.u64 x 9223372036854775808 != 0) = bitB x 63 := bitE 63 (by omega) h0 h1
  have b3 : (bits BinOp.and IntKind.u64 x 9223372036854775808 == 0) = !bitB x 63 := by rw [← b3']; simp [bne]
  clear b3'
  generalize bitB x 1 = q1 at b1 ⊢
  generalize bitB x 2 = q2 at b2 ⊢
  generalize bitB x 63 = q3 at b3 ⊢
  cases a <;> cases b <;> cases c
  all_goals
    go_enter Try.func65, Try.ntmps65
    go_wp2
    refine bodyPost_ret (by simp [results, Try.results65, go_sem]; rfl) rfl ⟨by simp [b1, b2, b3], by repeat (first | exact Ext.refl _ | apply Ext.alloc)⟩
theorem rightAllE_c (w : World) :
    Calls Try.prog 42 #[] w fun e w' =>
      e = .returned (.agg #[.bool true, .bool true, .bool true]) ∧ Ext w w' := by
  go_enter Try.func42, Try.ntmps42
  go_wp2
  refine bodyPost_ret (by simp [results, Try.results42, go_sem]; rfl) rfl ⟨by simp, by repeat (first | exact Ext.refl _ | apply Ext.alloc)⟩

theorem vaSizeE_c (l : Int) (w : World) (hl0 : 1 ≤ l) (hl1 : l ≤ 3) :
    Calls Try.prog 143 #[.int .i64 l] w fun e w' => e = .returned (.int .u64 (sizeE l)) ∧ Ext w w' := by
  have : l = 1 ∨ l = 2 ∨ l = 3 := by omega
  rcases this with rfl | rfl | rfl
  all_goals
    go_enter Try.func143, Try.ntmps143
    go_wp2_with (first | (go_at_call 136; refine (vaShiftE_c _ _ (by omega) (by omega)).mono ?_; rintro e w1 ⟨rfl, hb⟩; have ⟨hc, hf, hh, hs⟩ := hb.facts; try simp only [World.size_alloc, World.size_setCell, World.size_drew] at hs))
    go_ret
    exact ⟨rfl, (by repeat (first | exact Ext.refl _ | assumption | refine Ext.alloc ?_ _ | refine Ext.drew ?_ | refine Ext.setCell ?_ (by first | (simp; done) | (dsimp only; omega)) _ | refine Ext.trans ?_ (by assumption)))⟩
theorem emod_le {a n : Int} (h : 0 ≤ a) (hn : 0 < n) : a % n ≤ a := by
  have := Int.emod_def a n
  have := Int.mul_nonneg (Int.le_of_lt hn) (Int.ediv_nonneg h (Int.le_of_lt hn))
  omega
theorem vaLowE_c (a l : Int) (w : World) (hl0 : 1 ≤ l) (hl1 : l ≤ 3) (h0 : 0 ≤ a) (h1 : a ≤ 18446744073709551615) :
    Calls Try.prog 129 #[.int .u64 a, .int .i64 l] w fun e w' => e = .returned (.int .u64 (a % sizeE l)) ∧ Ext w w' := by
  have c1 : Calls Try.prog 129 #[.int .u64 a, .int .i64 1] w fun e w' => e = .returned (.int .u64 (a % 4096)) ∧ Ext w w' := by
    have hm : bits BinOp.and IntKind.u64 a 4095 = a % 4096 := maskE 12 (by omega) h0 h1
    have hs : ∀ w, Calls Try.prog 143 #[.int .i64 1] w fun e w' => e = .returned (.int .u64 4096) ∧ Ext w w' := fun w => vaSizeE_c 1 w (by omega) (by omega)
    go_enter Try.func129, Try.ntmps129
    go_wp2_with (first | (go_at_call 143; refine (hs _).mono ?_; rintro e w1 ⟨rfl, hb⟩; have ⟨hc, hf, hh, hs⟩ := hb.facts; try simp only [World.size_alloc, World.size_setCell, World.size_drew] at hs))
    go_ret
    exact ⟨rfl, (by repeat (first | exact Ext.refl _ | assumption | refine Ext.alloc ?_ _ | refine Ext.drew ?_ | refine Ext.setCell ?_ (by first | (simp; done) | (dsimp only; omega)) _ | refine Ext.trans ?_ (by assumption)))⟩
  have c2 : Calls Try.prog 129 #[.int .u64 a, .int .i64 2] w fun e w' => e = .returned (.int .u64 (a % 2097152)) ∧ Ext w w' := by
    have hm : bits BinOp.and IntKind.u64 a 2097151 = a % 2097152 := maskE 21 (by omega) h0 h1
    have hs : ∀ w, Calls Try.prog 143 #[.int .i64 2] w fun e w' => e = .returned (.int .u64 2097152) ∧ Ext w w' := fun w => vaSizeE_c 2 w (by omega) (by omega)
    go_enter Try.func129, Try.ntmps129
    go_wp2_with (first | (go_at_call 143; refine (hs _).mono ?_; rintro e w1 ⟨rfl, hb⟩; have ⟨hc, hf, hh, hs⟩ := hb.facts; try simp only [World.size_alloc, World.size_setCell, World.size_drew] at hs))
    go_ret
    exact ⟨rfl, (by repeat (first | exact Ext.refl _ | assumption | refine Ext.alloc ?_ _ | refine Ext.drew ?_ | refine Ext.setCell ?_ (by first | (simp; done) | (dsimp only; omega)) _ | refine Ext.trans ?_ (by assumption)))⟩
  have c3 : Calls Try.prog 129 #[.int .u64 a, .int .i64 3] w fun e w' => e = .returned (.int .u64 (a % 1073741824)) ∧ Ext w w' := by
    have hm : bits BinOp.and IntKind.u64 a 1073741823 = a % 1073741824 := maskE 30 (by omega) h0 h1
    have hs : ∀ w, Calls Try.prog 143 #[.int .i64 3] w fun e w' => e = .returned (.int .u64 1073741824) ∧ Ext w w' := fun w => vaSizeE_c 3 w (by omega) (by omega)
    go_enter Try.func129, Try.ntmps129
    go_wp2_with (first | (go_at_call 143; refine (hs _).mono ?_; rintro e w1 ⟨rfl, hb⟩; have ⟨hc, hf, hh, hs⟩ := hb.facts; try simp only [World.size_alloc, World.size_setCell, World.size_drew] at hs))
    go_ret
    exact ⟨rfl, (by repeat (first | exact Ext.refl _ | assumption | refine Ext.alloc ?_ _ | refine Ext.drew ?_ | refine Ext.setCell ?_ (by first | (simp; done) | (dsimp only; omega)) _ | refine Ext.trans ?_ (by assumption)))⟩
  rcases (show l = 1 ∨ l = 2 ∨ l = 3 by omega) with rfl | rfl | rfl
  · exact c1
  · exact c2
  · exact c3
theorem vaPageE_c (a l : Int) (w : World) (hl0 : 1 ≤ l) (hl1 : l ≤ 3) (h0 : 0 ≤ a) (h1 : a ≤ 18446744073709551615) :
    Calls Try.prog 100 #[.int .u64 a, .int .i64 l] w fun e w' => e = .returned (.int .u64 (a - a % sizeE l)) ∧ Ext w w' := by
  have hl := fun w => vaLowE_c a l w hl0 hl1 h0 h1
  have g : 0 ≤ a % sizeE l ∧ a % sizeE l ≤ a := by
    have : 0 < sizeE l := by unfold sizeE; repeat (split; omega); omega
    exact ⟨Int.emod_nonneg _ (by omega), emod_le h0 this⟩
  generalize a % sizeE l = q at hl g ⊢
  obtain ⟨g0, g1⟩ := g
  go_enter Try.func100, Try.ntmps100
  go_wp2_with (first | (go_at_call 129; refine (hl _).mono ?_; rintro e w1 ⟨rfl, hb⟩; have ⟨hc, hf, hh, hs⟩ := hb.facts; try simp only [World.size_alloc, World.size_setCell, World.size_drew] at hs))
  go_ret
  exact ⟨rfl, (by repeat (first | exact Ext.refl _ | assumption | refine Ext.alloc ?_ _ | refine Ext.drew ?_ | refine Ext.setCell ?_ (by first | (simp; done) | (dsimp only; omega)) _ | refine Ext.trans ?_ (by assumption)))⟩
theorem entFrame_c (x l : Int) (w : World) (hl0 : 1 ≤ l) (hl1 : l ≤ 4) (h0 : 0 ≤ x) (h1 : x ≤ 18446744073709551615) :
    Calls Try.prog 67 #[.int .u64 x, .int .i64 l] w fun e w' => e = .returned (.int .u64 (frameI x l)) ∧ Ext w w' := by
  have hf := fun w => entLeaf_c x l w h0 h1
  have ht := fun w => entTable_c x w h0 h1
  have htl := tabI_le h0
  unfold frameI
  cases hq : leafI x l
  · rw [hq] at hf
    generalize tabI x = b at ht ⊢
    go_enter Try.func67, Try.ntmps67
    go_wp2_with (first | (go_at_call 68; refine (ht _).mono ?_; rintro e w1 ⟨rfl, hb⟩; have ⟨hc, hf, hh, hs⟩ := hb.facts; try simp only [World.size_alloc, World.size_setCell, World.size_drew] at hs) | (go_at_call 66; refine (hf _).mono ?_; rintro e w1 ⟨rfl, hb⟩; have ⟨hc, hf, hh, hs⟩ := hb.facts; try simp only [World.size_alloc, World.size_setCell, World.size_drew] at hs))
    go_ret
    exact ⟨by simp, (by repeat (first | exact Ext.refl _ | assumption | refine Ext.alloc ?_ _ | refine Ext.drew ?_ | refine Ext.setCell ?_ (by first | (simp; done) | (dsimp only; omega)) _ | refine Ext.trans ?_ (by assumption)))⟩
  · rw [hq] at hf
    have hl3 : l ≤ 3 := by
      unfold leafI at hq
      simp only [Bool.or_eq_true, beq_iff_eq, Bool.and_eq_true] at hq
      omega
    have hp := fun w => vaPageE_c (tabI x) l w hl0 hl3 htl.1 (by omega)
    generalize tabI x = b at ht hp ⊢
    go_enter Try.func67, Try.ntmps67
    go_wp2_with (first | (go_at_call 68; refine (ht _).mono ?_; rintro e w1 ⟨rfl, hb⟩; have ⟨hc, hf, hh, hs⟩ := hb.facts; try simp only [World.size_alloc, World.size_setCell, World.size_drew] at hs) | (go_at_call 66; refine (hf _).mono ?_; rintro e w1 ⟨rfl, hb⟩; have ⟨hc, hf, hh, hs⟩ := hb.facts; try simp only [World.size_alloc, World.size_setCell, World.size_drew] at hs) | (go_at_call 100; refine (hp _).mono ?_; rintro e w1 ⟨rfl, hb⟩; have ⟨hc, hf, hh, hs⟩ := hb.facts; try simp only [World.size_alloc, World.size_setCell, World.size_drew] at hs))
    go_ret
    exact ⟨by simp, (by repeat (first | exact Ext.refl _ | assumption | refine Ext.alloc ?_ _ | refine Ext.drew ?_ | refine Ext.setCell ?_ (by first | (simp; done) | (dsimp only; omega)) _ | refine Ext.trans ?_ (by assumption)))⟩

end Go.Proofs.Ytfaekfdngkpkdaa
/- A walk's laws, plainly: its steps in a memory of 16 bits; from a step on. -/
namespace Go.Proofs.Ytfaekfdngkpkdaa
set_option linter.unusedVariables false
set_option linter.unusedSimpArgs false
open Go.RowKit
attribute [local go_sem] wext_cell wext_frozen wext_heap alloc_cell alloc_frozen alloc_heap setCell_cell objCell_cells objFrozen_cells

theorem tab_slot {t a l : Int} (h : 0 ≤ t) : tabI (slotI t a l) = tabI t := by
  have := idxI_le a l
  unfold slotI tabI; omega
theorem slotI_tab {t t' a l : Int} (h : tabI t = tabI t') : slotI t a l = slotI t' a l := by unfold slotI; rw [h]
theorem walkF_tab {M : Int → Int} {B : Int} {nxe : Bool} {a : Int} {n : Nat} {t t' : Int} {r : Rt} (h : tabI t = tabI t') : walkF M B nxe a n t r = walkF M B nxe a n t' r := by
  cases n with
  | zero => rfl
  | succ n => unfold walkF; rw [slotI_tab h]
theorem tab_tab {x : Int} : tabI (tabI x) = tabI x := by unfold tabI; omega
theorem res16 {x l : Int} {nxe : Bool} (h0 : 0 ≤ x) (h : resI x l 16 nxe = false) : tabI x ≤ 61440 := by
  unfold resI at h
  simp only [Bool.or_eq_false_iff] at h
  have h1 := h.1.1.1.1
  have : x / 65536 % 68719476736 = 0 := by simpa [pow2] using h1
  unfold tabI; omega
theorem err16 {s : Int} (h : s < 65536) (h8 : s % 8 = 0) : errM 16 s = 0 := by
  unfold errM
  rw [if_pos (by unfold limB; simp; exact h), if_pos h8]
theorem frame_le {x l : Int} (h0 : 0 ≤ x) : 0 ≤ frameI x l ∧ frameI x l ≤ tabI x := by
  have := tabI_le h0
  unfold frameI
  split
  · have hs : 0 < sizeE l := by unfold sizeE; split; omega; split; omega; split <;> omega
    have h1 := Int.emod_nonneg (tabI x) (show sizeE l ≠ 0 by omega)
    have h2 := emod_le this.1 hs
    omega
  · omega
theorem leaf_le {x l : Int} (h : leafI x l = true) : l ≤ 3 := by
  unfold leafI at h
  simp only [Bool.or_eq_true, beq_iff_eq, Bool.and_eq_true] at h
  omega

/-- What a walk through a memory of 16 bits is like. -/
structure OkW (n : Nat) (q : List Stp × WRes) : Prop where
  len : 1 ≤ q.1.length ∧ q.1.length ≤ n
  lev : ∀ (i : Nat) (s : Stp), q.1[i]? = some s → s.1 = (n : Int) - i
  low : ∀ (i : Nat) (s : Stp), q.1[i]? = some s → 0 ≤ s.2.1 ∧ s.2.1 < 65536 ∧ s.2.1 % 8 = 0
  bit : ∀ (i : Nat) (s : Stp), q.1[i]? = some s → bitB s.2.2 0 = (!decide (i + 1 = q.1.length) || q.2.1 != 1)
  why : q.2.1 = 0 ∨ q.2.1 = 1 ∨ q.2.1 = 2
  bad : q.2.1 ≠ 0 → q.2.2 = (noRt, 0, 0)
  good : q.2.1 = 0 → q.2.2.2.1 = (n : Int) + 1 - q.1.length ∧ q.2.2.2.1 ≤ 3 ∧ 0 ≤ q.2.2.2.2 ∧ q.2.2.2.2 < 65536
theorem walk_ok {M : Int → Int} (hM : ∀ s, 0 ≤ M s ∧ M s ≤ 18446744073709551615) {nxe : Bool} {a : Int} : ∀ (n : Nat) (t : Int) (r : Rt), 1 ≤ n → 0 ≤ t → tabI t ≤ 61440 → OkW n (walkF M 16 nxe a n t r)
  | n + 1, t, r, _, ht, hti => by
    have hsl := slotI_le (t := t) (a := a) (l := (n : Int) + 1) ht
    have hti0 := tabI_le ht
    have hidx := idxI_le a ((n : Int) + 1)
    have hslt : slotI t a ((n : Int) + 1) < 65536 := by unfold slotI; omega
    have he := err16 hslt hsl.2.2
    obtain ⟨s, hs⟩ : ∃ s, slotI t a ((n : Int) + 1) = s := ⟨_, rfl⟩
    obtain ⟨x, hx⟩ : ∃ x, M (s / 8) = x := ⟨_, rfl⟩
    have hx0 : 0 ≤ x := hx ▸ (hM _).1
    rw [hs] at hsl hslt he
    cases hp : bitB x 0 with
    | false =>
      rw [walkF_absent hs hx he hp]
      exact ⟨by simp, fun i y h => by cases i <;> simp at h; subst h; simp, fun i y h => by cases i <;> simp at h; subst h; exact ⟨hsl.1, hslt, hsl.2.2⟩, fun i y h => by cases i <;> simp at h; subst h; simpa using hp, .inr (.inl rfl), fun _ => rfl, fun h => by cases h⟩
    | true =>
      cases hr : resI x ((n : Int) + 1) 16 nxe with
      | true =>
        rw [walkF_res hs hx he hp hr]
        exact ⟨by simp, fun i y h => by cases i <;> simp at h; subst h; simp, fun i y h => by cases i <;> simp at h; subst h; exact ⟨hsl.1, hslt, hsl.2.2⟩, fun i y h => by cases i <;> simp at h; subst h; simpa using hp, .inr (.inr rfl), fun _ => rfl, fun h => by cases h⟩
      | false =>
        have hti2 := res16 hx0 hr
        cases hl : leafI x ((n : Int) + 1) with
        | true =>
          rw [walkF_leaf hs hx he hp hr hl]
          have hfr := frame_le (l := (n : Int) + 1) hx0
          have hlv := leaf_le hl
          exact ⟨by simp, fun i y h => by cases i <;> simp at h; subst h; simp, fun i y h => by cases i <;> simp at h; subst h; exact ⟨hsl.1, hslt, hsl.2.2⟩, fun i y h => by cases i <;> simp at h; subst h; simpa using hp, .inl rfl, fun h => absurd rfl h, fun _ => ⟨by simp, by simpa using hlv, by simpa using hfr.1, by simp; omega⟩⟩
        | false =>
          have hn : 1 ≤ n := by
            rcases n with _ | n
            · unfold leafI at hl; simp at hl
            · omega
          have ih := walk_ok hM n (tabI x) (andR r x) hn (tabI_le hx0).1 (by rw [tab_tab]; exact hti2) (nxe := nxe) (a := a)
          rw [walkF_on hs hx he hp hr hl]
          have hlen := ih.len
          refine ⟨by simp; omega, fun i y h => ?_, fun i y h => ?_, fun i y h => ?_, ih.why, ih.bad, fun h => ?_⟩
          · cases i with
            | zero => simp at h; subst h; simp
            | succ i => simp at h; have := ih.lev i y h; omega
          · cases i with
            | zero => simp at h; subst h; exact ⟨hsl.1, hslt, hsl.2.2⟩
            | succ i => simp at h; exact ih.low i y h
          · cases i with
            | zero =>
              simp at h; subst h
              have : ¬ (0 + 1 = (walkF M 16 nxe a n (tabI x) (andR r x)).1.length + 1) := by omega
              simp only [List.length_cons, this, decide_false, Bool.not_false, Bool.true_or, hp]
            | succ i =>
              simp at h
              have := ih.bit i y h
              rw [this]
              simp
          · have := ih.good h
            simp only [List.length_cons] at *
            omega

def foldR (r : Rt) (L : List Stp) : Rt := L.foldl (fun r s => andR r s.2.2) r
theorem walk_drop {M : Int → Int} {B : Int} {nxe : Bool} {a : Int} (hM : ∀ s, 0 ≤ M s) : ∀ (k n : Nat) (t : Int) (r : Rt), 0 ≤ t → k < (walkF M B nxe a n t r).1.length →
    ∃ t', 0 ≤ t' ∧ k < n ∧ (walkF M B nxe a n t r).1[k]?.map (fun s => (s.1, s.2.1)) = some ((n : Int) - k, slotI t' a ((n : Int) - k)) ∧
      walkF M B nxe a (n - k) t' (foldR r ((walkF M B nxe a n t r).1.take k)) = ((walkF M B nxe a n t r).1.drop k, (walkF M B nxe a n t r).2)
  | k, 0, t, r, _, h => by simp [walkF] at h
  | k, n + 1, t, r, ht, h => by
    obtain ⟨s, hs⟩ : ∃ s, slotI t a ((n : Int) + 1) = s := ⟨_, rfl⟩
    obtain ⟨x, hx⟩ : ∃ x, M (s / 8) = x := ⟨_, rfl⟩
    have hx0 : 0 ≤ x := hx ▸ hM _
    by_cases hne : errM B s ≠ 0
    · rw [walkF_bad (by rw [hs]; exact hne)] at h; simp at h
    have he : errM B s = 0 := by omega
    have one : ∀ q : WRes, walkF M B nxe a (n + 1) t r = ([((n : Int) + 1, s, x)], q) → ∃ t', 0 ≤ t' ∧ k < n + 1 ∧ (walkF M B nxe a (n + 1) t r).1[k]?.map (fun s => (s.1, s.2.1)) = some (((n + 1 : Nat) : Int) - k, slotI t' a (((n + 1 : Nat) : Int) - k)) ∧
      walkF M B nxe a (n + 1 - k) t' (foldR r ((walkF M B nxe a (n + 1) t r).1.take k)) = ((walkF M B nxe a (n + 1) t r).1.drop k, (walkF M B nxe a (n + 1) t r).2) := fun q hq => by
      have hk : k = 0 := by rw [hq] at h; simp at h; exact h
      subst hk
      exact ⟨t, ht, by omega, by rw [hq]; simp [← hs], rfl⟩
    cases hp : bitB x 0 with
    | false => exact one _ (walkF_absent hs hx he hp)
    | true =>
      cases hr : resI x ((n : Int) + 1) B nxe with
      | true => exact one _ (walkF_res hs hx he hp hr)
      | false =>
        cases hl : leafI x ((n : Int) + 1) with
        | true => exact one _ (walkF_leaf hs hx he hp hr hl)
        | false =>
          have ho := walkF_on (r := r) hs hx he hp hr hl
          cases k with
          | zero => exact ⟨t, ht, by omega, by rw [ho]; simp [← hs], rfl⟩
          | succ k =>
            rw [ho] at h ⊢
            simp only [List.length_cons] at h
            obtain ⟨t', h0, h1, h2, h3⟩ := walk_drop hM k n (tabI x) (andR r x) (tabI_le hx0).1 (by omega : k < (walkF M B nxe a n (tabI x) (andR r x)).1.length)
            refine ⟨t', h0, by omega, ?_, ?_⟩
            · simp only [List.getElem?_cons_succ]
              rw [h2, show ((n + 1 : Nat) : Int) - ((k + 1 : Nat) : Int) = (n : Int) - k by omega]
            · simp only [List.take_succ_cons, List.drop_succ_cons]
              rw [show n + 1 - (k + 1) = n - k by omega, ← h3]
              rfl
end Go.Proofs.Ytfaekfdngkpkdaa
/- Caches of tables, plainly: Fill, Deepest; what stands in them behind walks through a memory. -/
namespace Go.Proofs.Ytfaekfdngkpkdaa
set_option linter.unusedVariables false
set_option linter.unusedSimpArgs false
open Go.RowKit
attribute [local go_sem] wext_cell wext_frozen wext_heap alloc_cell alloc_frozen alloc_heap setCell_cell objCell_cells objFrozen_cells

def Line.rt (x : Line) : Rt := (x.a, x.b, x.c)
def lineP (t : Int) (rt : Rt) : Line := ⟨t, rt.1, rt.2.1, rt.2.2, false, 0⟩
/-- Fill. -/
def fillF (p a : Int) (pk : Int → Int) (r : Nat) : List Stp → Rt → (Int → Lines) → Int → Lines
  | [], _, C => C
  | s :: t, rt, C =>
    if t = [] then C
    else if (2 ≤ s.1 ∧ s.1 ≤ 4) ∧ bitB s.2.2 0 = true ∧ leafI s.2.2 s.1 = false then
      fillF p a pk r t (andR rt s.2.2) (upd C s.1 (putC (kP p s.1 a) (lineP (tabI s.2.2) (andR rt s.2.2)) (pk s.1) r (C s.1)))
    else C
/-- Deepest: the level and the line. -/
def deepF (C : Int → Lines) (p a : Int) : Option (Int × Line) :=
  if hasK (kP p 2 a) (C 2) = true then some (2, getLine (kP p 2 a) (C 2))
  else if hasK (kP p 3 a) (C 3) = true then some (3, getLine (kP p 3 a) (C 3))
  else if hasK (kP p 4 a) (C 4) = true then some (4, getLine (kP p 4 a) (C 4)) else none
/-- .. as a place. -/
def placeF (d : Option (Int × Line)) : Int × Int × Rt := match d with | some y => (y.1 - 1, y.2.f, y.2.rt) | none => (0, 0, noRt)

theorem getLine_mem {k : Key} {L : Lines} (h : hasK k L = true) : (k, getLine k L) ∈ L := by
  unfold hasK at h
  unfold getLine
  cases hl : look k L 0 with
  | none => rw [hl] at h; cases h
  | some y =>
    obtain ⟨i, y⟩ := y
    exact List.mem_of_getElem? (look_some hl).2.1
theorem deepF_some {C : Int → Lines} {p a l : Int} {x : Line} (h : deepF C p a = some (l, x)) : 2 ≤ l ∧ l ≤ 4 ∧ (kP p l a, x) ∈ C l ∧ x = getLine (kP p l a) (C l) ∧ hasK (kP p l a) (C l) = true ∧ ∀ j, 2 ≤ j → j < l → hasK (kP p j a) (C j) = false := by
  unfold deepF at h
  split at h
  · rename_i h2
    simp only [Option.some.injEq, Prod.mk.injEq] at h
    obtain ⟨rfl, rfl⟩ := h
    exact ⟨by omega, by omega, getLine_mem h2, rfl, h2, fun j _ _ => by omega⟩
  · rename_i h2
    split at h
    · rename_i h3
      simp only [Option.some.injEq, Prod.mk.injEq] at h
      obtain ⟨rfl, rfl⟩ := h
      refine ⟨by omega, by omega, getLine_mem h3, rfl, h3, fun j _ _ => ?_⟩
      obtain rfl : j = 2 := by omega
      simpa using h2
    · rename_i h3
      split at h
      · rename_i h4
        simp only [Option.some.injEq, Prod.mk.injEq] at h
        obtain ⟨rfl, rfl⟩ := h
        refine ⟨by omega, by omega, getLine_mem h4, rfl, h4, fun j _ _ => ?_⟩
        obtain rfl | rfl : j = 2 ∨ j = 3 := by omega
        · simpa using h2
        · simpa using h3
      · cases h
theorem deepF_none {C : Int → Lines} {p a : Int} : deepF C p a = none ↔ ∀ l, 2 ≤ l → l ≤ 4 → hasK (kP p l a) (C l) = false := by
  unfold deepF
  constructor
  · intro h l h0 h1
    split at h
    · cases h
    · rename_i h2
      split at h
      · cases h
      · rename_i h3
        split at h
        · cases h
        · rename_i h4
          obtain rfl | rfl | rfl : l = 2 ∨ l = 3 ∨ l = 4 := by omega
          · simpa using h2
          · simpa using h3
          · simpa using h4
  · intro h
    rw [if_neg (by rw [h 2 (by omega) (by omega)]; simp), if_neg (by rw [h 3 (by omega) (by omega)]; simp), if_neg (by rw [h 4 (by omega) (by omega)]; simp)]
theorem deepF_congr {C C' : Int → Lines} {p a : Int} (h : ∀ l, 2 ≤ l → l ≤ 4 → hasK (kP p l a) (C l) = hasK (kP p l a) (C' l) ∧ getLine (kP p l a) (C l) = getLine (kP p l a) (C' l)) : deepF C p a = deepF C' p a := by
  unfold deepF
  rw [(h 2 (by omega) (by omega)).1, (h 2 (by omega) (by omega)).2, (h 3 (by omega) (by omega)).1, (h 3 (by omega) (by omega)).2, (h 4 (by omega) (by omega)).1, (h 4 (by omega) (by omega)).2]

theorem tag_up {a b l : Int} (hl : l = 2 ∨ l = 3 ∨ l = 4) (h : tagP a l = tagP b l) : tagP a (l + 1) = tagP b (l + 1) := by
  unfold tagP at *
  rcases hl with rfl | rfl | rfl <;> simp at h ⊢ <;> omega
theorem tag_idx {a b l : Int} (hl : l = 2 ∨ l = 3 ∨ l = 4) (h : tagP a l = tagP b l) : idxI a l = idxI b l := by
  unfold tagP at h
  unfold idxI
  rcases hl with rfl | rfl | rfl <;> simp at h ⊢ <;> omega
theorem tag_slot {a b l t : Int} (hl : l = 2 ∨ l = 3 ∨ l = 4) (h : tagP a l = tagP b l) : slotI t a l = slotI t b l := by unfold slotI; rw [tag_idx hl h]

/-- From the top a walk leads here. -/
structure Leads (M : Int → Int) (a l t : Int) (rt : Rt) : Prop where
  wide : 0 ≤ t ∧ t ≤ 18446744073709551615
  way : ∃ pre : List Stp, (pre.length : Int) = 5 - l ∧ walkF M 16 true a 4 0 allRt = (pre ++ (walkF M 16 true a (l - 1).toNat t rt).1, (walkF M 16 true a (l - 1).toNat t rt).2)
def Good (M : Int → Int) (a l t : Int) (rt : Rt) : Prop := ∀ b, tagP b l = tagP a l → Leads M b l t rt
theorem good_top (M : Int → Int) (a : Int) : Good M a 5 0 allRt := fun b _ => ⟨by omega, [], by simp, rfl⟩
theorem good_step {M : Int → Int} (hM : ∀ s, 0 ≤ M s ∧ M s ≤ 18446744073709551615) {m : Nat} {a t s x : Int} {rt : Rt} (hm : 1 ≤ m) (hm4 : m ≤ 3) (h : Good M a ((m : Int) + 1 + 1) t rt) (hs : slotI t a ((m : Int) + 1) = s) (hx : M (s / 8) = x) (he : errM 16 s = 0) (hp : bitB x 0 = true)
    (hr : resI x ((m : Int) + 1) 16 true = false) (hl : leafI x ((m : Int) + 1) = false) : Good M a ((m : Int) + 1) (tabI x) (andR rt x) := fun b hb => by
  have hm' : (m : Int) + 1 = 2 ∨ (m : Int) + 1 = 3 ∨ (m : Int) + 1 = 4 := by omega
  have ⟨w0, pre, w1, w2⟩ := h b (tag_up hm' hb)
  have hx0 : 0 ≤ x ∧ x ≤ 18446744073709551615 := hx ▸ hM _
  have ht := tabI_le hx0.1
  have e1 : ((m : Int) + 1 + 1 - 1).toNat = m + 1 := by omega
  have e2 : ((m : Int) + 1 - 1).toNat = m := by omega
  rw [e1, walkF_on ((tag_slot hm' hb).trans hs) hx he hp hr hl] at w2
  refine ⟨⟨ht.1, by omega⟩, pre ++ [((m : Int) + 1, s, x)], by simp; omega, ?_⟩
  rw [e2, w2]
  simp

theorem putC_mem {k : Key} {x : Line} {pick : Int} {r : Nat} {L : Lines} {y : Key × Line} (h : y ∈ putC k x pick r L) : y ∈ L ∨ y = (k, x) := by
  unfold putC at h
  split at h
  · exact .inl h
  · split at h
    · unfold putL at h
      split at h
      · exact List.mem_or_eq_of_mem_set h
      · rcases List.mem_append.1 h with h | h
        · exact .inl h
        · exact .inr (by simpa using h)
    · rcases List.mem_append.1 h with h | h
      · split at h
        · exact .inl h
        · exact .inl (evictL_sub.subset h)
      · exact .inr (by simpa using h)
theorem putC_nil {k : Key} {x : Line} {pick : Int} {r : Nat} (hr : 0 < r) : putC k x pick r [] = [(k, x)] := by
  unfold putC
  rw [if_neg (by omega), if_neg (by simp [hasK, look]), if_pos (by simpa using hr)]
  rfl
theorem walk_nil {M : Int → Int} {nxe : Bool} {a t : Int} {n : Nat} {rt : Rt} (h : (walkF M 16 nxe a n t rt).1 = []) : n = 0 ∨ (walkF M 16 nxe a n t rt).1.length = 0 := .inr (by rw [h]; rfl)

/-- What holds of all lines before a walk is filled in, and of any that a walk leads to, holds of all behind it. -/
theorem fill_all {M : Int → Int} (hM : ∀ s, 0 ≤ M s ∧ M s ≤ 18446744073709551615) {p a : Int} {pk : Int → Int} {r : Nat} {Q : Int → Key × Line → Prop}
    (hQ : ∀ l t rt, 2 ≤ l → l ≤ 4 → 0 ≤ t → t ≤ 18446744073709551615 → Good M a l t rt → Q l (kP p l a, lineP t rt)) : ∀ (n : Nat) (t : Int) (rt : Rt) (C : Int → Lines), n ≤ 4 → Good M a ((n : Int) + 1) t rt →
    (∀ l, 2 ≤ l → l ≤ 4 → ∀ y ∈ C l, Q l y) → ∀ l, 2 ≤ l → l ≤ 4 → ∀ y ∈ fillF p a pk r (walkF M 16 true a n t rt).1 rt C l, Q l y
  | 0, _, _, _, _, _, hC => hC
  | n + 1, t, rt, C, hn, hg, hC => by
    obtain ⟨s, hs⟩ : ∃ s, slotI t a ((n : Int) + 1) = s := ⟨_, rfl⟩
    obtain ⟨x, hx⟩ : ∃ x, M (s / 8) = x := ⟨_, rfl⟩
    by_cases hne : errM 16 s ≠ 0
    · rw [walkF_bad (by rw [hs]; exact hne)]; exact hC
    have he : errM 16 s = 0 := by omega
    cases hp : bitB x 0 with
    | false => rw [walkF_absent hs hx he hp]; exact hC
    | true =>
      cases hr : resI x ((n : Int) + 1) 16 true with
      | true => rw [walkF_res hs hx he hp hr]; exact hC
      | false =>
        cases hl : leafI x ((n : Int) + 1) with
        | true => rw [walkF_leaf hs hx he hp hr hl]; exact hC
        | false =>
          rw [walkF_on hs hx he hp hr hl]
          have hn1 : 1 ≤ n := by
            rcases n with _ | n
            · unfold leafI at hl; simp at hl
            · omega
          have g2 := good_step hM hn1 (by omega) (by simpa using hg) hs hx he hp hr hl
          have hx0 : 0 ≤ x ∧ x ≤ 18446744073709551615 := hx ▸ hM _
          have ht := tabI_le hx0.1
          simp only [fillF]
          split
          · exact hC
          · rw [if_pos ⟨⟨by omega, by omega⟩, hp, hl⟩]
            refine fill_all hM hQ n (tabI x) (andR rt x) _ (by omega) (by simpa using g2) fun l l0 l1 y hy => ?_
            by_cases hll : l = (n : Int) + 1
            · subst hll
              rw [upd_same] at hy
              rcases putC_mem hy with hy | rfl
              · exact hC _ l0 l1 y hy
              · exact hQ _ _ _ l0 l1 ht.1 (by omega) g2
            · rw [upd_other _ _ hll] at hy
              exact hC l l0 l1 y hy
/-- Filled from the top, with room: one line on each level that the walk went through. -/
theorem fill_new {M : Int → Int} {p a : Int} {pk : Int → Int} {r : Nat} (hr0 : 0 < r) : ∀ (n : Nat) (t : Int) (rt : Rt) (C : Int → Lines), n ≤ 4 → (∀ l : Int, l ≤ n → C l = []) →
    ∀ l : Int, ((n : Int) < l → fillF p a pk r (walkF M 16 true a n t rt).1 rt C l = C l) ∧ ((n : Int) + 2 - (walkF M 16 true a n t rt).1.length ≤ l → l ≤ n → ∃ x, fillF p a pk r (walkF M 16 true a n t rt).1 rt C l = [(kP p l a, x)]) ∧
      (l < (n : Int) + 2 - (walkF M 16 true a n t rt).1.length → l ≤ n → fillF p a pk r (walkF M 16 true a n t rt).1 rt C l = [])
  | 0, t, rt, C, _, hC, l => ⟨fun _ => rfl, fun h1 h2 => by simp [walkF] at h1; omega, fun _ h => hC l h⟩
  | n + 1, t, rt, C, hn, hC, l => by
    obtain ⟨s, hs⟩ : ∃ s, slotI t a ((n : Int) + 1) = s := ⟨_, rfl⟩
    obtain ⟨x, hx⟩ : ∃ x, M (s / 8) = x := ⟨_, rfl⟩
    have one : ∀ q : List Stp × WRes, walkF M 16 true a (n + 1) t rt = q → q.1.length ≤ 1 → _ := fun q hq hl1 => (show ((((n + 1 : Nat) : Int)) < l → fillF p a pk r (walkF M 16 true a (n + 1) t rt).1 rt C l = C l) ∧ ((((n + 1 : Nat) : Int)) + 2 - (walkF M 16 true a (n + 1) t rt).1.length ≤ l → l ≤ ((n + 1 : Nat) : Int) → ∃ x, fillF p a pk r (walkF M 16 true a (n + 1) t rt).1 rt C l = [(kP p l a, x)]) ∧
      (l < (((n + 1 : Nat) : Int)) + 2 - (walkF M 16 true a (n + 1) t rt).1.length → l ≤ ((n + 1 : Nat) : Int) → fillF p a pk r (walkF M 16 true a (n + 1) t rt).1 rt C l = []) by
      rw [hq]
      have hf : fillF p a pk r q.1 rt C = C := by
        obtain ⟨q1, q2⟩ := q
        match q1, hl1 with
        | [], _ => rfl
        | [s], _ => simp [fillF]
      rw [hf]
      exact ⟨fun _ => rfl, fun h1 h2 => by omega, fun _ h => hC l h⟩)
    by_cases hne : errM 16 s ≠ 0
    · exact one _ (walkF_bad (by rw [hs]; exact hne)) (by simp)
    have he : errM 16 s = 0 := by omega
    cases hp : bitB x 0 with
    | false => exact one _ (walkF_absent hs hx he hp) (by simp)
    | true =>
      cases hr : resI x ((n : Int) + 1) 16 true with
      | true => exact one _ (walkF_res hs hx he hp hr) (by simp)
      | false =>
        cases hl : leafI x ((n : Int) + 1) with
        | true => exact one _ (walkF_leaf hs hx he hp hr hl) (by simp)
        | false =>
          have hn1 : 1 ≤ n := by
            rcases n with _ | n
            · unfold leafI at hl; simp at hl
            · omega
          by_cases hlast : (walkF M 16 true a n (tabI x) (andR rt x)).1 = []
          · exact one _ (walkF_on hs hx he hp hr hl) (by simp [hlast])
          rw [walkF_on hs hx he hp hr hl]
          simp only [fillF]
          rw [if_neg hlast, if_pos ⟨⟨by omega, by omega⟩, hp, hl⟩]
          have h0 : C ((n : Int) + 1) = [] := hC _ (by omega)
          rw [h0, putC_nil hr0]
          have ih := fill_new (p := p) (a := a) (pk := pk) (r := r) (M := M) hr0 n (tabI x) (andR rt x) (upd C ((n : Int) + 1) [(kP p ((n : Int) + 1) a, lineP (tabI x) (andR rt x))]) (by omega) (fun j hj => by rw [upd_other _ _ (by omega)]; exact hC j (by omega)) l
          simp only [List.length_cons]
          have hlen := List.length_pos_iff.2 hlast
          refine ⟨fun h => ?_, fun h1 h2 => ?_, fun h1 h2 => ?_⟩
          · rw [ih.1 (by omega), upd_other _ _ (by omega)]
          · by_cases hll : l = (n : Int) + 1
            · refine ⟨lineP (tabI x) (andR rt x), (ih.1 (by omega)).trans ?_⟩
              rw [hll, upd_same]
            · exact ih.2.1 (by omega) (by omega)
          · exact ih.2.2 (by omega) (by omega)
end Go.Proofs.Ytfaekfdngkpkdaa
/- Caches of tables: DropPage, DropOf, Clear. -/
namespace Go.Proofs.Ytfaekfdngkpkdaa
set_option linter.unusedVariables false
set_option linter.unusedSimpArgs false
open Go.RowKit
attribute [local go_sem] wext_cell wext_frozen wext_heap alloc_cell alloc_frozen alloc_heap setCell_cell objCell_cells objFrozen_cells

/-- On each level something is done. -/
def eachP (f : Int → Lines → Lines) (C : Int → Lines) : Int → Lines := fun l => if 2 ≤ l ∧ l ≤ 4 then f l (C l) else C l
def partP (f : Int → Lines → Lines) (C : Int → Lines) (j : Nat) : Int → Lines := fun l => if 2 ≤ l ∧ l < 2 + j then f l (C l) else C l
theorem part_zero (f : Int → Lines → Lines) (C : Int → Lines) : partP f C 0 = C := by
  funext l; unfold partP; rw [if_neg (by omega)]
theorem part_three (f : Int → Lines → Lines) (C : Int → Lines) : partP f C 3 = eachP f C := by
  funext l; unfold partP eachP
  by_cases h : 2 ≤ l ∧ l ≤ 4
  · rw [if_pos h, if_pos (by omega)]
  · rw [if_neg h, if_neg (by omega)]
theorem part_at (f : Int → Lines → Lines) (C : Int → Lines) (j : Nat) : partP f C j (2 + (j : Int)) = C (2 + (j : Int)) := by unfold partP; rw [if_neg (by omega)]
theorem part_step (f : Int → Lines → Lines) (C : Int → Lines) (j : Nat) (hj : j < 3) : upd (partP f C j) (2 + (j : Int)) (f (2 + (j : Int)) (C (2 + (j : Int)))) = partP f C (j + 1) := by
  funext l
  unfold upd partP
  by_cases h : l = 2 + (j : Int)
  · subst h; rw [if_pos rfl, if_pos (by omega)]
  · rw [if_neg h]
    by_cases h2 : 2 ≤ l ∧ l < 2 + (j : Int)
    · rw [if_pos h2, if_pos (by omega)]
    · rw [if_neg h2, if_neg (by omega)]
set_option maxHeartbeats 1000000 in
theorem nil_dropOfP (pcid : Int) (w : World) : Calls Try.prog 87 #[.pointer none, .int .i64 pcid] w fun e w' => e = .returned (.tuple #[]) ∧ Ext w w' := by
  go_enter Try.func87, Try.ntmps87
  go_wp2_with (first | (go_at_call 85; refine (nil_keys _).mono ?_; rintro e w1 ⟨rfl, hb⟩))
  go_loopw [9] (fun i wr => i = .int .i64 0 ∧ Ext w wr) (fun i _ => 0)
  case atStart => exact ⟨rfl, Ext.trans (by repeat (first | exact Ext.refl _ | assumption | refine Ext.alloc ?_ _ | refine Ext.drew ?_ | refine Ext.setCell ?_ (by first | (simp; done) | (dsimp only; omega)) _ | refine Ext.trans ?_ (by assumption))) hb⟩
  case round =>
    obtain ⟨rfl, hR⟩ := hrel
    go_wp2
    all_goals
      refine ⟨rfl, .tuple #[], (by simp [results, Try.results87, go_sem]), ?_⟩
      exact ⟨rfl, hR.trans (by repeat (first | exact Ext.refl _ | assumption | refine Ext.alloc ?_ _ | refine Ext.drew ?_ | refine Ext.setCell ?_ (by first | (simp; done) | (dsimp only; omega)) _ | refine Ext.trans ?_ (by assumption)))⟩

set_option maxHeartbeats 1000000 in
theorem pscDropPage_c (pb : Nat) (cb : Int → Nat) (F : Int → List Nat) (C : Int → Lines) (r : Nat) (p a : Int) (w : World) (h : PscAt w pb cb F C r) (h0 : 0 ≤ a) (h1 : a ≤ 18446744073709551615) :
    Calls Try.prog 33 #[.pointer (some ⟨pb, 0, none⟩), .int .i64 p, .int .u64 a] w (EndP pb cb F (eachP (fun l L => delL (kP p l a) L) C) r w) := by
  have H := Lib.hid h
  generalize hf : ((fun l L => delL (kP p l a) L) : Int → Lines → Lines) = f
  have HF := Lib.hid hf
  generalize hE : EndP pb cb F (eachP f C) r w = E
  have HE := Lib.hid hE
  clear hE hf h
  go_enter Try.func33, Try.ntmps33
  go_wp2
  go_loopw [7] (fun i wr => ∃ j : Nat, j ≤ 3 ∧ i = .int .i64 j ∧ Hid (PscTo pb cb F (partP f C j) r w wr)) (fun i _ => 3 - (intOf i).toNat)
  case atStart => exact ⟨0, by omega, rfl, Lib.hid (by rw [part_zero]; exact PscTo.refl H.out)⟩
  case round =>
    obtain ⟨j, hj, rfl, hR⟩ := hrel
    by_cases hlt : j < 3
    · obtain ⟨F2, hP, hK, hf⟩ := hR.out
      have hl : 2 + (j : Int) = 2 ∨ 2 + (j : Int) = 3 ∨ 2 + (j : Int) = 4 := by omega
      have HP := Lib.hid hP
      have HS := Lib.hid (show _ ∧ _ ∧ _ from ⟨hP, hK, hf⟩)
      have HO := Lib.hid (fun w h => of_c pb cb F2 (partP f C j) r (2 + (j : Int)) w h hl)
      have hc0 := fun w (h : PscAt w pb cb F2 (partP f C j) r) => h.cache (2 + (j : Int)) (by omega) (by omega)
      rw [part_at] at hc0
      have HC0 := Lib.hid hc0
      have HD := Lib.hid (fun w h => drop_c (cb (2 + (j : Int))) (F2 (2 + (j : Int))) (C (2 + (j : Int))) r (kP p (2 + (j : Int)) a) w h)
      have HKy := Lib.hid (fun w => pscKey_c p (2 + (j : Int)) a w hl h0 h1)
      generalize hkk : kP p (2 + (j : Int)) a = kk at HKy HD
      have HKK := Lib.hid hkk
      clear hkk
      unfold Key.val at HKy HD
      clear hP hK hf hl hc0
      go_wp2_with (first | (go_at_call 80; refine (HO.out _ (HP.out.ext (by repeat (first | exact Ext.refl _ | assumption | refine Ext.alloc ?_ _ | refine Ext.drew ?_ | refine Ext.setCell ?_ (by first | (simp; done) | (dsimp only; omega)) _ | refine Ext.trans ?_ (by assumption))))).mono ?_; rintro e w1 ⟨rfl, hb1⟩) | (go_at_call 82; refine (HKy.out _).mono ?_; rintro e w2 ⟨rfl, hb2⟩) | (go_at_call 86; refine (HD.out _ (HC0.out _ (HP.out.ext (hb1.trans (Ext.trans (by repeat (first | exact Ext.refl _ | assumption | refine Ext.alloc ?_ _ | refine Ext.drew ?_ | refine Ext.setCell ?_ (by first | (simp; done) | (dsimp only; omega)) _ | refine Ext.trans ?_ (by assumption))) hb2))))).mono ?_; rintro e w3 ⟨rfl, F3, q1, q2, q3⟩))
      refine ⟨⟨j + 1, by omega, by go_num, Lib.hid ?_⟩, by simp [intOf]; omega⟩
      rw [← part_step f C j hlt]
      have he := (hb1.trans (Ext.trans (by repeat (first | exact Ext.refl _ | assumption | refine Ext.alloc ?_ _ | refine Ext.drew ?_ | refine Ext.setCell ?_ (by first | (simp; done) | (dsimp only; omega)) _ | refine Ext.trans ?_ (by assumption))) hb2))
      refine PscTo.trans ⟨HP.out.ext he, HS.out.2.1.ext he, HS.out.2.2⟩ ⟨_, PscAt.op (HP.out.ext he) (by omega) (by omega) (by rw [← HF.out]; dsimp only; rw [HKK.out]; exact q1) q2 q3⟩
    · obtain rfl : j = 3 := by omega
      rw [part_three] at hR
      go_wp2
      refine ⟨rfl, .tuple #[], (by simp [results, Try.results33, go_sem]), ?_⟩
      rw [← HE.out]
      exact ⟨rfl, hR.out⟩
theorem pscDropPageNil_c (p a : Int) (w : World) (h0 : 0 ≤ a) (h1 : a ≤ 18446744073709551615) : Calls Try.prog 33 #[.pointer none, .int .i64 p, .int .u64 a] w fun e w' => e = .returned (.tuple #[]) ∧ Ext w w' := by
  go_enter Try.func33, Try.ntmps33
  go_wp2
  go_loopw [7] (fun i wr => ∃ j : Nat, j ≤ 3 ∧ i = .int .i64 j ∧ Hid (Ext w wr)) (fun i _ => 3 - (intOf i).toNat)
  case atStart => exact ⟨0, by omega, rfl, Lib.hid (Ext.refl _)⟩
  case round =>
    obtain ⟨j, hj, rfl, hR⟩ := hrel
    by_cases hlt : j < 3
    · have hl : 2 + (j : Int) = 2 ∨ 2 + (j : Int) = 3 ∨ 2 + (j : Int) = 4 := by omega
      have HO := Lib.hid (fun w => ofNo_c none (2 + (j : Int)) w (.inl rfl))
      have HKy := Lib.hid (fun w => pscKey_c p (2 + (j : Int)) a w hl h0 h1)
      generalize kP p (2 + (j : Int)) a = kk at HKy
      have HD := Lib.hid (fun w => nil_drop kk w)
      unfold Key.val at HKy HD
      clear hl
      go_wp2_with (first | (go_at_call 80; refine (HO.out _).mono ?_; rintro e w1 ⟨rfl, hb1⟩) | (go_at_call 82; refine (HKy.out _).mono ?_; rintro e w2 ⟨rfl, hb2⟩) | (go_at_call 86; refine (HD.out _).mono ?_; rintro e w3 ⟨rfl, hb3⟩))
      exact ⟨⟨j + 1, by omega, by go_num, Lib.hid (hR.out.trans ((hb1.trans (Ext.trans (by repeat (first | exact Ext.refl _ | assumption | refine Ext.alloc ?_ _ | refine Ext.drew ?_ | refine Ext.setCell ?_ (by first | (simp; done) | (dsimp only; omega)) _ | refine Ext.trans ?_ (by assumption))) hb2)).trans hb3))⟩, by simp [intOf]; omega⟩
    · obtain rfl : j = 3 := by omega
      go_wp2
      refine ⟨rfl, .tuple #[], (by simp [results, Try.results33, go_sem]), ?_⟩
      exact ⟨rfl, hR.out⟩

set_option maxHeartbeats 1000000 in
theorem pscDropOf_c (pb : Nat) (cb : Int → Nat) (F : Int → List Nat) (C : Int → Lines) (r : Nat) (p : Int) (w : World) (h : PscAt w pb cb F C r) :
    Calls Try.prog 34 #[.pointer (some ⟨pb, 0, none⟩), .int .i64 p] w (EndP pb cb F (eachP (fun _ L => dropN p (keysOf L) L) C) r w) := by
  have H := Lib.hid h
  generalize hf : ((fun _ L => dropN p (keysOf L) L) : Int → Lines → Lines) = f
  have HF := Lib.hid hf
  generalize hE : EndP pb cb F (eachP f C) r w = E
  have HE := Lib.hid hE
  clear hE hf h
  go_enter Try.func34, Try.ntmps34
  go_wp2
  go_loopw [5] (fun i wr => ∃ j : Nat, j ≤ 3 ∧ i = .int .i64 j ∧ Hid (PscTo pb cb F (partP f C j) r w wr)) (fun i _ => 3 - (intOf i).toNat)
  case atStart => exact ⟨0, by omega, rfl, Lib.hid (by rw [part_zero]; exact PscTo.refl H.out)⟩
  case round =>
    obtain ⟨j, hj, rfl, hR⟩ := hrel
    by_cases hlt : j < 3
    · obtain ⟨F2, hP, hK, hf⟩ := hR.out
      have hl : 2 + (j : Int) = 2 ∨ 2 + (j : Int) = 3 ∨ 2 + (j : Int) = 4 := by omega
      have HP := Lib.hid hP
      have HS := Lib.hid (show _ ∧ _ ∧ _ from ⟨hP, hK, hf⟩)
      have HO := Lib.hid (fun w h => of_c pb cb F2 (partP f C j) r (2 + (j : Int)) w h hl)
      have hc0 := fun w (h : PscAt w pb cb F2 (partP f C j) r) => h.cache (2 + (j : Int)) (by omega) (by omega)
      rw [part_at] at hc0
      have HC0 := Lib.hid hc0
      have HD := Lib.hid (fun w h => dropOf_c (cb (2 + (j : Int))) (F2 (2 + (j : Int))) (C (2 + (j : Int))) r p w h)
      clear hP hK hf hl hc0
      go_wp2_with (first | (go_at_call 80; refine (HO.out _ (HP.out.ext (by repeat (first | exact Ext.refl _ | assumption | refine Ext.alloc ?_ _ | refine Ext.drew ?_ | refine Ext.setCell ?_ (by first | (simp; done) | (dsimp only; omega)) _ | refine Ext.trans ?_ (by assumption))))).mono ?_; rintro e w1 ⟨rfl, hb1⟩) | (go_at_call 87; refine (HD.out _ (HC0.out _ (HP.out.ext (hb1.trans (by repeat (first | exact Ext.refl _ | assumption | refine Ext.alloc ?_ _ | refine Ext.drew ?_ | refine Ext.setCell ?_ (by first | (simp; done) | (dsimp only; omega)) _ | refine Ext.trans ?_ (by assumption))))))).mono ?_; rintro e w3 ⟨rfl, F3, q1, q2, q3⟩))
      refine ⟨⟨j + 1, by omega, by go_num, Lib.hid ?_⟩, by simp [intOf]; omega⟩
      rw [← part_step f C j hlt]
      have he := (hb1.trans (by repeat (first | exact Ext.refl _ | assumption | refine Ext.alloc ?_ _ | refine Ext.drew ?_ | refine Ext.setCell ?_ (by first | (simp; done) | (dsimp only; omega)) _ | refine Ext.trans ?_ (by assumption))))
      refine PscTo.trans ⟨HP.out.ext he, HS.out.2.1.ext he, HS.out.2.2⟩ ⟨_, PscAt.op (HP.out.ext he) (by omega) (by omega) (by rw [← HF.out]; exact q1) q2 q3⟩
    · obtain rfl : j = 3 := by omega
      rw [part_three] at hR
      go_wp2
      refine ⟨rfl, .tuple #[], (by simp [results, Try.results34, go_sem]), ?_⟩
      rw [← HE.out]
      exact ⟨rfl, hR.out⟩
theorem pscDropOfNil_c (p : Int) (w : World) : Calls Try.prog 34 #[.pointer none, .int .i64 p] w fun e w' => e = .returned (.tuple #[]) ∧ Ext w w' := by
  go_enter Try.func34, Try.ntmps34
  go_wp2
  go_loopw [5] (fun i wr => ∃ j : Nat, j ≤ 3 ∧ i = .int .i64 j ∧ Hid (Ext w wr)) (fun i _ => 3 - (intOf i).toNat)
  case atStart => exact ⟨0, by omega, rfl, Lib.hid (Ext.refl _)⟩
  case round =>
    obtain ⟨j, hj, rfl, hR⟩ := hrel
    by_cases hlt : j < 3
    · have hl : 2 + (j : Int) = 2 ∨ 2 + (j : Int) = 3 ∨ 2 + (j : Int) = 4 := by omega
      have HO := Lib.hid (fun w => ofNo_c none (2 + (j : Int)) w (.inl rfl))
      have HD := Lib.hid (fun w => nil_dropOfP p w)
      clear hl
      go_wp2_with (first | (go_at_call 80; refine (HO.out _).mono ?_; rintro e w1 ⟨rfl, hb1⟩) | (go_at_call 87; refine (HD.out _).mono ?_; rintro e w3 ⟨rfl, hb3⟩))
      exact ⟨⟨j + 1, by omega, by go_num, Lib.hid (hR.out.trans ((hb1.trans (by repeat (first | exact Ext.refl _ | assumption | refine Ext.alloc ?_ _ | refine Ext.drew ?_ | refine Ext.setCell ?_ (by first | (simp; done) | (dsimp only; omega)) _ | refine Ext.trans ?_ (by assumption)))).trans hb3))⟩, by simp [intOf]; omega⟩
    · obtain rfl : j = 3 := by omega
      go_wp2
      refine ⟨rfl, .tuple #[], (by simp [results, Try.results34, go_sem]), ?_⟩
      exact ⟨rfl, hR.out⟩

set_option maxHeartbeats 1000000 in
theorem pscClear_c (pb : Nat) (cb : Int → Nat) (F : Int → List Nat) (C : Int → Lines) (r : Nat) (w : World) (h : PscAt w pb cb F C r) :
    Calls Try.prog 40 #[.pointer (some ⟨pb, 0, none⟩)] w (EndP pb cb F (eachP (fun _ _ => []) C) r w) := by
  have H := Lib.hid h
  generalize hf : ((fun _ _ => []) : Int → Lines → Lines) = f
  have HF := Lib.hid hf
  generalize hE : EndP pb cb F (eachP f C) r w = E
  have HE := Lib.hid hE
  clear hE hf h
  go_enter Try.func40, Try.ntmps40
  go_wp2
  go_loopw [3] (fun i wr => ∃ j : Nat, j ≤ 3 ∧ i = .int .i64 j ∧ Hid (PscTo pb cb F (partP f C j) r w wr)) (fun i _ => 3 - (intOf i).toNat)
  case atStart => exact ⟨0, by omega, rfl, Lib.hid (by rw [part_zero]; exact PscTo.refl H.out)⟩
  case round =>
    obtain ⟨j, hj, rfl, hR⟩ := hrel
    by_cases hlt : j < 3
    · obtain ⟨F2, hP, hK, hf⟩ := hR.out
      have hl : 2 + (j : Int) = 2 ∨ 2 + (j : Int) = 3 ∨ 2 + (j : Int) = 4 := by omega
      have HP := Lib.hid hP
      have HS := Lib.hid (show _ ∧ _ ∧ _ from ⟨hP, hK, hf⟩)
      have HO := Lib.hid (fun w h => of_c pb cb F2 (partP f C j) r (2 + (j : Int)) w h hl)
      have hc0 := fun w (h : PscAt w pb cb F2 (partP f C j) r) => h.cache (2 + (j : Int)) (by omega) (by omega)
      rw [part_at] at hc0
      have HC0 := Lib.hid hc0
      have HD := Lib.hid (fun w h => clear_c (cb (2 + (j : Int))) (F2 (2 + (j : Int))) (C (2 + (j : Int))) r w h)
      clear hP hK hf hl hc0
      go_wp2_with (first | (go_at_call 80; refine (HO.out _ (HP.out.ext (by repeat (first | exact Ext.refl _ | assumption | refine Ext.alloc ?_ _ | refine Ext.drew ?_ | refine Ext.setCell ?_ (by first | (simp; done) | (dsimp only; omega)) _ | refine Ext.trans ?_ (by assumption))))).mono ?_; rintro e w1 ⟨rfl, hb1⟩) | (go_at_call 98; refine (HD.out _ (HC0.out _ (HP.out.ext (hb1.trans (by repeat (first | exact Ext.refl _ | assumption | refine Ext.alloc ?_ _ | refine Ext.drew ?_ | refine Ext.setCell ?_ (by first | (simp; done) | (dsimp only; omega)) _ | refine Ext.trans ?_ (by assumption))))))).mono ?_; rintro e w3 ⟨rfl, F3, q1, q2, q3⟩))
      refine ⟨⟨j + 1, by omega, by go_num, Lib.hid ?_⟩, by simp [intOf]; omega⟩
      rw [← part_step f C j hlt]
      have he := (hb1.trans (by repeat (first | exact Ext.refl _ | assumption | refine Ext.alloc ?_ _ | refine Ext.drew ?_ | refine Ext.setCell ?_ (by first | (simp; done) | (dsimp only; omega)) _ | refine Ext.trans ?_ (by assumption))))
      refine PscTo.trans ⟨HP.out.ext he, HS.out.2.1.ext he, HS.out.2.2⟩ ⟨_, PscAt.op (HP.out.ext he) (by omega) (by omega) (by rw [← HF.out]; exact q1) q2 q3⟩
    · obtain rfl : j = 3 := by omega
      rw [part_three] at hR
      go_wp2
      refine ⟨rfl, .tuple #[], (by simp [results, Try.results40, go_sem]), ?_⟩
      rw [← HE.out]
      exact ⟨rfl, hR.out⟩
theorem pscClearNil_c (w : World) : Calls Try.prog 40 #[.pointer none] w fun e w' => e = .returned (.tuple #[]) ∧ Ext w w' := by
  go_enter Try.func40, Try.ntmps40
  go_wp2
  go_loopw [3] (fun i wr => ∃ j : Nat, j ≤ 3 ∧ i = .int .i64 j ∧ Hid (Ext w wr)) (fun i _ => 3 - (intOf i).toNat)
  case atStart => exact ⟨0, by omega, rfl, Lib.hid (Ext.refl _)⟩
  case round =>
    obtain ⟨j, hj, rfl, hR⟩ := hrel
    by_cases hlt : j < 3
    · have hl : 2 + (j : Int) = 2 ∨ 2 + (j : Int) = 3 ∨ 2 + (j : Int) = 4 := by omega
      have HO := Lib.hid (fun w => ofNo_c none (2 + (j : Int)) w (.inl rfl))
      have HD := Lib.hid (fun w => nil_clear w)
      clear hl
      go_wp2_with (first | (go_at_call 80; refine (HO.out _).mono ?_; rintro e w1 ⟨rfl, hb1⟩) | (go_at_call 98; refine (HD.out _).mono ?_; rintro e w3 ⟨rfl, hb3⟩))
      exact ⟨⟨j + 1, by omega, by go_num, Lib.hid (hR.out.trans ((hb1.trans (by repeat (first | exact Ext.refl _ | assumption | refine Ext.alloc ?_ _ | refine Ext.drew ?_ | refine Ext.setCell ?_ (by first | (simp; done) | (dsimp only; omega)) _ | refine Ext.trans ?_ (by assumption)))).trans hb3))⟩, by simp [intOf]; omega⟩
    · obtain rfl : j = 3 := by omega
      go_wp2
      refine ⟨rfl, .tuple #[], (by simp [results, Try.results40, go_sem]), ?_⟩
      exact ⟨rfl, hR.out⟩
end Go.Proofs.Ytfaekfdngkpkdaa
/- Caches of tables: Deepest, New. -/
namespace Go.Proofs.Ytfaekfdngkpkdaa
set_option linter.unusedVariables false
set_option linter.unusedSimpArgs false
open Go.RowKit
attribute [local go_sem] wext_cell wext_frozen wext_heap alloc_cell alloc_frozen alloc_heap setCell_cell objCell_cells objFrozen_cells

theorem deepF_at {C : Int → Lines} {p a l : Int} (h0 : 2 ≤ l) (h1 : l ≤ 4) (hn : ∀ j, 2 ≤ j → j < l → hasK (kP p j a) (C j) = false) (hl : hasK (kP p l a) (C l) = true) : deepF C p a = some (l, getLine (kP p l a) (C l)) := by
  unfold deepF
  obtain rfl | rfl | rfl : l = 2 ∨ l = 3 ∨ l = 4 := by omega
  · rw [if_pos hl]
  · rw [if_neg (by rw [hn 2 (by omega) (by omega)]; simp), if_pos hl]
  · rw [if_neg (by rw [hn 2 (by omega) (by omega)]; simp), if_neg (by rw [hn 3 (by omega) (by omega)]; simp), if_pos hl]
def EndDeep (d : Option (Int × Line)) (w : World) (e : Ending) (w' : World) : Prop :=
  e = .returned (.tuple #[.agg #[.int .i64 (placeF d).1, .int .u64 (placeF d).2.1, .bool (placeF d).2.2.1, .bool (placeF d).2.2.2.1, .bool (placeF d).2.2.2.2], .bool d.isSome]) ∧ Ext w w'
theorem deepNone {w : World} : EndDeep none w = fun e w' => e = .returned (.tuple #[.agg #[.int .i64 0, .int .u64 0, .bool false, .bool false, .bool false], .bool false]) ∧ Ext w w' := rfl
theorem store5_heap {w : World} {b : Nat} {c0 c1 c2 c3 c4 v0 v1 v2 v3 v4 : Value} {e : TypeId} {f : Nat × Nat} (h : w.heap[b]? = some (.cells #[c0, c1, c2, c3, c4] e f)) :
    (((((w.setCell ⟨b, 0, none⟩ v0).setCell ⟨b, 1, none⟩ v1).setCell ⟨b, 2, none⟩ v2).setCell ⟨b, 3, none⟩ v3).setCell ⟨b, 4, none⟩ v4).heap[b]? = some (.cells #[v0, v1, v2, v3, v4] e f) :=
  setCell_heap_same (setCell_heap_same (setCell_heap_same (setCell_heap_same (setCell_heap_same h))))
theorem ext5 {a w : World} {b : Nat} {v0 v1 v2 v3 v4 : Value} (h : Ext a w) (hb : a.heap.size ≤ b) :
    Ext a (((((w.setCell ⟨b, 0, none⟩ v0).setCell ⟨b, 1, none⟩ v1).setCell ⟨b, 2, none⟩ v2).setCell ⟨b, 3, none⟩ v3).setCell ⟨b, 4, none⟩ v4) :=
  Ext.setCell (Ext.setCell (Ext.setCell (Ext.setCell (Ext.setCell h hb _) hb _) hb _) hb _) hb _

set_option maxHeartbeats 1000000 in
theorem deepest_c (pb : Nat) (cb : Int → Nat) (F : Int → List Nat) (C : Int → Lines) (r : Nat) (p a : Int) (w : World) (h : PscAt w pb cb F C r) (h0 : 0 ≤ a) (h1 : a ≤ 18446744073709551615) :
    Calls Try.prog 27 #[.pointer (some ⟨pb, 0, none⟩), .int .i64 p, .int .u64 a] w (EndDeep (deepF C p a) w) := by
  have H := Lib.hid h
  generalize hE : EndDeep (deepF C p a) w = E
  have HE := Lib.hid hE
  clear hE h
  go_enter Try.func27, Try.ntmps27
  go_wp2
  refine wp_gen ?_; intro V hV
  have hVE : Ext w V := by rw [hV]; exact (by repeat (first | exact Ext.refl _ | assumption | refine Ext.alloc ?_ _ | refine Ext.drew ?_ | refine Ext.setCell ?_ (by first | (simp; done) | (dsimp only; omega)) _ | refine Ext.trans ?_ (by assumption)))
  have hVp : V.heap[w.heap.size]? = some (.cells #[.int .i64 0, .int .u64 0, .bool false, .bool false, .bool false] 41 (0, 0)) := by rw [hV]; exact alloc_same ..
  obtain ⟨qb, hqb⟩ : ∃ qb, w.heap.size = qb := ⟨_, rfl⟩
  rw [hqb] at hVp ⊢
  have hwq : w.heap.size ≤ qb := by omega
  have VE := Lib.hid hVE
  have VP := Lib.hid hVp
  clear hV hVE hVp hqb
  go_loopw [12] (fun i wr => ∃ j : Nat, j ≤ 3 ∧ i = .int .i64 j ∧ Hid ((∀ l, 2 ≤ l → l < 2 + (j : Int) → hasK (kP p l a) (C l) = false) ∧ Ext V wr)) (fun i _ => 3 - (intOf i).toNat)
  case atStart => exact ⟨0, by omega, rfl, Lib.hid ⟨fun l l0 l1 => by omega, Ext.refl _⟩⟩
  case round =>
    obtain ⟨j, hj, rfl, hR⟩ := hrel
    by_cases hlt : j < 3
    · have hl : 2 + (j : Int) = 2 ∨ 2 + (j : Int) = 3 ∨ 2 + (j : Int) = 4 := by omega
      have hP := (H.out.ext VE.out).ext hR.out.2
      have HP := Lib.hid hP
      have HO := Lib.hid (fun w h => of_c pb cb F C r (2 + (j : Int)) w h hl)
      have HKy := Lib.hid (fun w => pscKey_c p (2 + (j : Int)) a w hl h0 h1)
      have HG := Lib.hid (fun w (h : PscAt w pb cb F C r) => get_c (cb (2 + (j : Int))) (F (2 + (j : Int))) (C (2 + (j : Int))) r (kP p (2 + (j : Int)) a) w (h.cache _ (by omega) (by omega)))
      have HT : Hid (hasK (kP p (2 + (j : Int)) a) (C (2 + (j : Int))) = true → deepF C p a = some (2 + (j : Int), getLine (kP p (2 + (j : Int)) a) (C (2 + (j : Int))))) := Lib.hid fun hh => deepF_at (by omega) (by omega) hR.out.1 hh
      have HN : Hid (hasK (kP p (2 + (j : Int)) a) (C (2 + (j : Int))) = false → ∀ l, 2 ≤ l → l < 2 + ((j + 1 : Nat) : Int) → hasK (kP p l a) (C l) = false) := Lib.hid fun hh l l0 l1 => by
        by_cases hll : l = 2 + (j : Int)
        · subst hll; exact hh
        · exact hR.out.1 l l0 (by omega)
      generalize hasK (kP p (2 + (j : Int)) a) (C (2 + (j : Int))) = bb at HG HT HN
      generalize getLine (kP p (2 + (j : Int)) a) (C (2 + (j : Int))) = z at HG HT
      generalize kP p (2 + (j : Int)) a = kk at HKy HG
      unfold Key.val Line.val at HG
      unfold Key.val at HKy
      clear hl hP
      have hwE := hR.out.2
      have HW := Lib.hid hwE
      clear hwE
      cases bb
      · go_wp2_with (first | (go_at_call 80; refine (HO.out _ (HP.out.ext (by repeat (first | exact Ext.refl _ | assumption | refine Ext.alloc ?_ _ | refine Ext.drew ?_ | refine Ext.setCell ?_ (by first | (simp; done) | (dsimp only; omega)) _ | refine Ext.trans ?_ (by assumption))))).mono ?_; rintro e w1 ⟨rfl, hb1⟩) | (go_at_call 82; refine (HKy.out _).mono ?_; rintro e w2 ⟨rfl, hb2⟩) | (go_at_call 81; refine (HG.out _ (HP.out.ext (hb1.trans (Ext.trans (by repeat (first | exact Ext.refl _ | assumption | refine Ext.alloc ?_ _ | refine Ext.drew ?_ | refine Ext.setCell ?_ (by first | (simp; done) | (dsimp only; omega)) _ | refine Ext.trans ?_ (by assumption))) hb2)))).mono ?_; rintro e w3 ⟨rfl, hb3⟩))
        refine ⟨⟨j + 1, by omega, by go_num, Lib.hid ⟨HN.out (by first | rfl | trivial), HW.out.trans ((hb1.trans ((Ext.trans (by repeat (first | exact Ext.refl _ | assumption | refine Ext.alloc ?_ _ | refine Ext.drew ?_ | refine Ext.setCell ?_ (by first | (simp; done) | (dsimp only; omega)) _ | refine Ext.trans ?_ (by assumption))) hb2).trans hb3)).trans (by repeat (first | exact Ext.refl _ | assumption | refine Ext.alloc ?_ _ | refine Ext.drew ?_ | refine Ext.setCell ?_ (by first | (simp; done) | (dsimp only; omega)) _ | refine Ext.trans ?_ (by assumption))))⟩⟩, by simp [intOf]; omega⟩
      · go_upto_region 7 with (first | (go_at_call 80; refine (HO.out _ (HP.out.ext (by repeat (first | exact Ext.refl _ | assumption | refine Ext.alloc ?_ _ | refine Ext.drew ?_ | refine Ext.setCell ?_ (by first | (simp; done) | (dsimp only; omega)) _ | refine Ext.trans ?_ (by assumption))))).mono ?_; rintro e w1 ⟨rfl, hb1⟩) | (go_at_call 82; refine (HKy.out _).mono ?_; rintro e w2 ⟨rfl, hb2⟩) | (go_at_call 81; refine (HG.out _ (HP.out.ext (hb1.trans (Ext.trans (by repeat (first | exact Ext.refl _ | assumption | refine Ext.alloc ?_ _ | refine Ext.drew ?_ | refine Ext.setCell ?_ (by first | (simp; done) | (dsimp only; omega)) _ | refine Ext.trans ?_ (by assumption))) hb2)))).mono ?_; rintro e w3 ⟨rfl, hb3⟩))
        refine wp_gen ?_; intro U hU
        have hEU : Ext V U := by rw [hU]; exact HW.out.trans ((hb1.trans ((Ext.trans (by repeat (first | exact Ext.refl _ | assumption | refine Ext.alloc ?_ _ | refine Ext.drew ?_ | refine Ext.setCell ?_ (by first | (simp; done) | (dsimp only; omega)) _ | refine Ext.trans ?_ (by assumption))) hb2).trans hb3)).alloc _)
        have hUb : U.heap[w3.heap.size]? = some (.cells #[.int .u64 z.f, .bool z.a, .bool z.b, .bool z.c, .bool z.d, .int .u8 z.m] 153 (0, 0)) := by rw [hU]; exact alloc_same ..
        obtain ⟨zb, hzb⟩ : ∃ zb, w3.heap.size = zb := ⟨_, rfl⟩
        rw [hzb] at hUb ⊢
        have hUq := (hEU.block qb (heap_lt VP.out)).trans VP.out
        have z0 := (heap_cell hUb 0).trans rfl
        have z1 := (heap_cell hUb 1).trans rfl
        have z2 := (heap_cell hUb 2).trans rfl
        have z3 := (heap_cell hUb 3).trans rfl
        have zl := heap_lt hUb
        have y0 := (heap_cell hUq 0).trans rfl
        have y1 := (heap_cell hUq 1).trans rfl
        have y2 := (heap_cell hUq 2).trans rfl
        have y3 := (heap_cell hUq 3).trans rfl
        have y4 := (heap_cell hUq 4).trans rfl
        have yf := frozen_of hUq
        have yl := heap_lt hUq
        have UQ := Lib.hid hUq
        have UE := Lib.hid hEU
        clear hU hEU hUb hUq hzb hb1 hb2 hb3
        go_wp2
        refine post_gen (fun X => X.heap[qb]? = some (.cells #[.int .i64 (2 + (j : Int) - 1), .int .u64 z.f, .bool z.a, .bool z.b, .bool z.c] 41 (0, 0)) ∧ Ext w X) ⟨store5_heap UQ.out, ext5 (VE.out.trans UE.out) hwq⟩ ?_
        rintro X ⟨m5, E5⟩
        have v0 := (heap_cell m5 0).trans rfl
        have v1 := (heap_cell m5 1).trans rfl
        have v2 := (heap_cell m5 2).trans rfl
        have v3 := (heap_cell m5 3).trans rfl
        have v4 := (heap_cell m5 4).trans rfl
        clear m5 y0 y1 y2 y3 y4 yf z0 z1 z2 z3
        rw [← HE.out, HT.out (by first | rfl | trivial), show EndDeep (some (2 + (j : Int), z)) w = fun e w' => e = .returned (.tuple #[.agg #[.int .i64 (2 + (j : Int) - 1), .int .u64 z.f, .bool z.a, .bool z.b, .bool z.c], .bool true]) ∧ Ext w w' from rfl]
        refine bodyPost_ret (by simp [results, Try.results27, go_sem, ↓IntWalk.iteOmega, *]; try rfl) rfl ⟨rfl, E5⟩
    · obtain rfl : j = 3 := by omega
      have hd : deepF C p a = none := deepF_none.2 fun l l0 l1 => hR.out.1 l l0 (by omega)
      have HD := Lib.hid hd
      have hUq := (hR.out.2.block qb (heap_lt VP.out)).trans VP.out
      have y0 := (heap_cell hUq 0).trans rfl
      have y1 := (heap_cell hUq 1).trans rfl
      have y2 := (heap_cell hUq 2).trans rfl
      have y3 := (heap_cell hUq 3).trans rfl
      have y4 := (heap_cell hUq 4).trans rfl
      have yf := frozen_of hUq
      have yl := heap_lt hUq
      have UQ := Lib.hid hUq
      clear hd hUq
      go_wp2
      refine post_gen (fun X => X.heap[qb]? = some (.cells #[.int .i64 0, .int .u64 0, .bool false, .bool false, .bool false] 41 (0, 0)) ∧ Ext w X) ⟨store5_heap UQ.out, ext5 (VE.out.trans hR.out.2) hwq⟩ ?_
      rintro X ⟨m5, E5⟩
      have v0 := (heap_cell m5 0).trans rfl
      have v1 := (heap_cell m5 1).trans rfl
      have v2 := (heap_cell m5 2).trans rfl
      have v3 := (heap_cell m5 3).trans rfl
      have v4 := (heap_cell m5 4).trans rfl
      clear m5 y0 y1 y2 y3 y4 yf
      rw [← HE.out, HD.out, deepNone]
      refine bodyPost_ret (by simp [results, Try.results27, go_sem, ↓IntWalk.iteOmega, *]; try rfl) rfl ⟨rfl, E5⟩
set_option maxHeartbeats 1000000 in
theorem deepestNil_c (p a : Int) (w : World) (h0 : 0 ≤ a) (h1 : a ≤ 18446744073709551615) :
    Calls Try.prog 27 #[.pointer none, .int .i64 p, .int .u64 a] w (EndDeep none w) := by
  generalize hE : EndDeep none w = E
  have HE := Lib.hid hE
  clear hE
  go_enter Try.func27, Try.ntmps27
  go_wp2
  refine wp_gen ?_; intro V hV
  have hVE : Ext w V := by rw [hV]; exact (by repeat (first | exact Ext.refl _ | assumption | refine Ext.alloc ?_ _ | refine Ext.drew ?_ | refine Ext.setCell ?_ (by first | (simp; done) | (dsimp only; omega)) _ | refine Ext.trans ?_ (by assumption)))
  have hVp : V.heap[w.heap.size]? = some (.cells #[.int .i64 0, .int .u64 0, .bool false, .bool false, .bool false] 41 (0, 0)) := by rw [hV]; exact alloc_same ..
  obtain ⟨qb, hqb⟩ : ∃ qb, w.heap.size = qb := ⟨_, rfl⟩
  rw [hqb] at hVp ⊢
  have hwq : w.heap.size ≤ qb := by omega
  have VE := Lib.hid hVE
  have VP := Lib.hid hVp
  clear hV hVE hVp hqb
  go_loopw [12] (fun i wr => ∃ j : Nat, j ≤ 3 ∧ i = .int .i64 j ∧ Hid (Ext V wr)) (fun i _ => 3 - (intOf i).toNat)
  case atStart => exact ⟨0, by omega, rfl, Lib.hid (Ext.refl _)⟩
  case round =>
    obtain ⟨j, hj, rfl, hR⟩ := hrel
    by_cases hlt : j < 3
    · have hl : 2 + (j : Int) = 2 ∨ 2 + (j : Int) = 3 ∨ 2 + (j : Int) = 4 := by omega
      have HO := Lib.hid (fun w => ofNo_c none (2 + (j : Int)) w (.inl rfl))
      have HKy := Lib.hid (fun w => pscKey_c p (2 + (j : Int)) a w hl h0 h1)
      generalize kP p (2 + (j : Int)) a = kk at HKy
      have HG := Lib.hid (fun w => nil_get kk w)
      unfold Key.val Line.val noLine at HG
      dsimp only at HG
      unfold Key.val at HKy
      clear hl
      go_wp2_with (first | (go_at_call 80; refine (HO.out _).mono ?_; rintro e w1 ⟨rfl, hb1⟩) | (go_at_call 82; refine (HKy.out _).mono ?_; rintro e w2 ⟨rfl, hb2⟩) | (go_at_call 81; refine (HG.out _).mono ?_; rintro e w3 ⟨rfl, hb3⟩))
      refine ⟨⟨j + 1, by omega, by go_num, Lib.hid (hR.out.trans ((hb1.trans ((Ext.trans (by repeat (first | exact Ext.refl _ | assumption | refine Ext.alloc ?_ _ | refine Ext.drew ?_ | refine Ext.setCell ?_ (by first | (simp; done) | (dsimp only; omega)) _ | refine Ext.trans ?_ (by assumption))) hb2).trans hb3)).trans (by repeat (first | exact Ext.refl _ | assumption | refine Ext.alloc ?_ _ | refine Ext.drew ?_ | refine Ext.setCell ?_ (by first | (simp; done) | (dsimp only; omega)) _ | refine Ext.trans ?_ (by assumption)))))⟩, by simp [intOf]; omega⟩
    · obtain rfl : j = 3 := by omega
      have hUq := (hR.out.block qb (heap_lt VP.out)).trans VP.out
      have y0 := (heap_cell hUq 0).trans rfl
      have y1 := (heap_cell hUq 1).trans rfl
      have y2 := (heap_cell hUq 2).trans rfl
      have y3 := (heap_cell hUq 3).trans rfl
      have y4 := (heap_cell hUq 4).trans rfl
      have yf := frozen_of hUq
      have yl := heap_lt hUq
      have UQ := Lib.hid hUq
      clear hUq
      go_wp2
      refine post_gen (fun X => X.heap[qb]? = some (.cells #[.int .i64 0, .int .u64 0, .bool false, .bool false, .bool false] 41 (0, 0)) ∧ Ext w X) ⟨store5_heap UQ.out, ext5 (VE.out.trans hR.out) hwq⟩ ?_
      rintro X ⟨m5, E5⟩
      have v0 := (heap_cell m5 0).trans rfl
      have v1 := (heap_cell m5 1).trans rfl
      have v2 := (heap_cell m5 2).trans rfl
      have v3 := (heap_cell m5 3).trans rfl
      have v4 := (heap_cell m5 4).trans rfl
      clear m5 y0 y1 y2 y3 y4 yf
      rw [← HE.out, deepNone]
      refine bodyPost_ret (by simp [results, Try.results27, go_sem, ↓IntWalk.iteOmega, *]; try rfl) rfl ⟨rfl, E5⟩

/-! ### New -/
def ptrB (b : Nat) : Value := .pointer (some ⟨b, 0, none⟩)
def headN (cb : Int → Nat) : Nat → Array Value
  | 0 => #[.pointer none, .pointer none, .pointer none]
  | 1 => #[ptrB (cb 4), .pointer none, .pointer none]
  | 2 => #[ptrB (cb 4), ptrB (cb 3), .pointer none]
  | _ => #[ptrB (cb 4), ptrB (cb 3), ptrB (cb 2)]
structure NewTo (w : World) (pb : Nat) (cb : Int → Nat) (F : Int → List Nat) (r j : Nat) (wr : World) : Prop where
  head : wr.heap[pb]? = some (.cells (headN cb j) 163 (0, 0))
  cache : ∀ l, 5 - (j : Int) ≤ l → l ≤ 4 → CAt wr (cb l) (F l) [] r ∧ ∀ x ∈ F l, w.heap.size ≤ x
  apart : ∀ l k, 5 - (j : Int) ≤ l → l ≤ 4 → 5 - (j : Int) ≤ k → k ≤ 4 → l ≠ k → ∀ x ∈ F l, x ∉ F k
  ext : Ext w wr
theorem NewTo.lt {w wr : World} {pb r j : Nat} {cb : Int → Nat} {F : Int → List Nat} (h : NewTo w pb cb F r j wr) {l : Int} (l0 : 5 - (j : Int) ≤ l) (l1 : l ≤ 4) : ∀ x ∈ F l, x < wr.heap.size := fun x hx => (h.cache l l0 l1).1.lt x hx
theorem NewTo.step {w wr X w2 w3 : World} {pb r j c1 : Nat} {cb : Int → Nat} {F : Int → List Nat} {F1 : List Nat} (h : NewTo w pb cb F r j wr) (hj : j < 3) (hp : w.heap.size ≤ pb) (k1 : Ext wr X) (hE : Ext X w2) (hC : CAt w2 c1 F1 [] r) (hF : ∀ x ∈ F1, X.heap.size ≤ x) (k3 : Ext w2 w3) {w4 : World} (k4 : Ext (w3.setCell ⟨pb, j, none⟩ (ptrB c1)) w4) :
    NewTo w pb (upd cb (4 - (j : Int)) c1) (upd F (4 - (j : Int)) F1) r (j + 1) w4 := by
  have hXs := k1.size
  have hb3 : w3.heap[pb]? = some (.cells (headN cb j) 163 (0, 0)) := (((k1.trans hE).trans k3).block pb (heap_lt h.head)).trans h.head
  have hpl := heap_lt h.head
  have keep : ∀ {c : Nat} {G : List Nat}, CAt w3 c G [] r → CAt w4 c G [] r := fun hc => by
    refine (hc.keeps (G := [pb]) (w' := w3.setCell ⟨pb, j, none⟩ (ptrB c1)) ((Keeps.refl _ _).setCell (.inl (by simp)) _) fun x hx hm => ?_).ext k4
    simp only [List.mem_singleton] at hm
    subst hm
    exact hc.apart hb3 (by decide) (by decide) hx
  refine ⟨?_, fun l l0 l1 => ?_, fun l k l0 l1 k0 k1' hlk x hx => ?_, (h.ext.trans ((k1.trans hE).trans k3)).setCell hp _ |>.trans k4⟩
  · refine (k4.block pb (by simp only [World.size_setCell]; exact heap_lt hb3)).trans ((setCell_heap_same hb3).trans ?_)
    obtain rfl | rfl | rfl : j = 0 ∨ j = 1 ∨ j = 2 := by omega
    all_goals rfl
  · by_cases hl : l = 4 - (j : Int)
    · subst hl
      rw [upd_same, upd_same]
      exact ⟨keep (hC.ext k3), fun x hx => by have := hF x hx; have := h.ext.size; omega⟩
    · rw [upd_other _ _ hl, upd_other _ _ hl]
      have := h.cache l (by omega) l1
      exact ⟨keep (this.1.ext ((k1.trans hE).trans k3)), this.2⟩
  · by_cases hl : l = 4 - (j : Int)
    · subst hl
      rw [upd_same] at hx
      rw [upd_other _ _ (Ne.symm hlk)]
      intro hm
      have := h.lt (l := k) (by omega) k1' x hm
      have := hF x hx
      omega
    · rw [upd_other _ _ hl] at hx
      by_cases hk : k = 4 - (j : Int)
      · subst hk
        rw [upd_same]
        intro hm
        have := h.lt (l := l) (by omega) l1 x hx
        have := hF x hm
        omega
      · rw [upd_other _ _ hk]
        exact h.apart l k (by omega) l1 (by omega) k1' hlk x hx
def EndPNew (room : Int) (w : World) (e : Ending) (w' : World) : Prop :=
  ∃ pb cb F, e = .returned (.pointer (some ⟨pb, 0, none⟩)) ∧ PscAt w' pb cb F (fun _ => []) (clampR room) ∧ Ext w w' ∧ w.heap.size ≤ pb ∧ ∀ x ∈ allF F, w.heap.size ≤ x
set_option maxHeartbeats 1000000 in
theorem pscNew_c (room : Int) (w : World) (h0 : -9223372036854775808 ≤ room) (h1 : room ≤ 9223372036854775807) :
    Calls Try.prog 29 #[.int .i64 room] w (EndPNew room w) := by
  have HN := Lib.hid (fun w => new_c room w h0 h1)
  generalize hr : clampR room = r
  have HRm := Lib.hid hr
  generalize hE : EndPNew room w = E
  have HE := Lib.hid hE
  clear hE hr
  go_enter Try.func29, Try.ntmps29
  go_wp2
  refine wp_gen ?_; intro V hV
  have hVE : Ext w V := by rw [hV]; exact (by repeat (first | exact Ext.refl _ | assumption | refine Ext.alloc ?_ _ | refine Ext.drew ?_ | refine Ext.setCell ?_ (by first | (simp; done) | (dsimp only; omega)) _ | refine Ext.trans ?_ (by assumption)))
  have hVp : V.heap[w.heap.size]? = some (.cells (headN (fun _ => 0) 0) 163 (0, 0)) := by rw [hV]; exact alloc_same ..
  obtain ⟨pb, hpb⟩ : ∃ pb, w.heap.size = pb := ⟨_, rfl⟩
  rw [hpb] at hVp ⊢
  have hwp : w.heap.size ≤ pb := by omega
  have VN : Hid (NewTo w pb (fun _ => 0) (fun _ => []) r 0 V) := Lib.hid ⟨hVp, fun l l0 l1 => by omega, fun l k l0 l1 => by omega, hVE⟩
  clear hV hVE hVp hpb
  go_loopw [7] (fun i wr => ∃ (j : Nat) (cb : Int → Nat) (F : Int → List Nat), j ≤ 3 ∧ i = .int .i64 j ∧ Hid (NewTo w pb cb F r j wr)) (fun i _ => 3 - (intOf i).toNat)
  case atStart => exact ⟨0, _, _, by omega, rfl, VN⟩
  case round =>
    obtain ⟨j, cb, F, hj, rfl, hR⟩ := hrel
    by_cases hlt : j < 3
    · have hh := hR.out.head
      have hpl := heap_lt hh
      have hcell : ∃ v, wr.cell? ⟨pb, j, none⟩ = some v := by
        refine ⟨(headN cb j).getD j undef, ?_⟩
        rw [heap_cell hh]
        obtain rfl | rfl | rfl : j = 0 ∨ j = 1 ∨ j = 2 := by omega
        all_goals rfl
      obtain ⟨pv, hcell⟩ := hcell
      have HC := Lib.hid hcell
      have HF := Lib.hid (frozen_of hh)
      have hj3 : (j : Int) < 3 := by omega
      have hj0 : (0 : Int) ≤ (j : Int) := by omega
      clear hcell hh
      go_upto_region 5 with (fail)
      refine region_mix [.q [0, 1, 2], .b [4, 5], .l 3 3, .b [6], .l 7 2] (by kernel_rfl) (by kernel_rfl) ?_
      (try refine ⟨fun h => absurd h (by simp), ?_⟩); (repeat (unfold wpPlan; simp only [pickL, List.map_cons, List.map_nil, List.getD_cons_succ, List.getD_cons_zero]; (repeat go_big_quiet_step (fail)); refine wpQuiet_nil ?_)); unfold wpPlan; intro w1 hb1; (try simp only [pickL, List.map_cons, List.map_nil, List.getD_cons_succ, List.getD_cons_zero])
      have HB1 := Lib.hid hb1
      clear hb1
      go_wp2_with (first | (go_at_call 83; refine (HN.out _).mono ?_; rintro e w2 ⟨c1, F1, rfl, hC, hE2, hF2⟩))
      refine ⟨fun _ => HB1.out.trans hE2, ?_⟩
      (try refine ⟨fun h => absurd h (by simp), ?_⟩); (repeat (unfold wpPlan; simp only [pickL, List.map_cons, List.map_nil, List.getD_cons_succ, List.getD_cons_zero]; (repeat go_big_quiet_step (fail)); refine wpQuiet_nil ?_)); unfold wpPlan; intro w3 hb3; (try simp only [pickL, List.map_cons, List.map_nil, List.getD_cons_succ, List.getD_cons_zero])
      have e3 := (HB1.out.trans hE2).trans hb3
      have d0 := e3.someCell HC.out
      have df := fun o => (e3.frozen pb o hpl).trans (HF.out o)
      have dl := Nat.lt_of_lt_of_le hpl e3.size
      have HC2 := Lib.hid hC
      have HE2 := Lib.hid hE2
      have HF2 := Lib.hid hF2
      have HB3 := Lib.hid hb3
      clear hC hE2 hF2 hb3 e3
      go_wp2
      (try refine ⟨fun h => absurd h (by simp), ?_⟩); (repeat (unfold wpPlan; simp only [pickL, List.map_cons, List.map_nil, List.getD_cons_succ, List.getD_cons_zero]; (repeat go_big_quiet_step (fail)); refine wpQuiet_nil ?_)); unfold wpPlan; intro w4 hb4; (try simp only [pickL, List.map_cons, List.map_nil, List.getD_cons_succ, List.getD_cons_zero])
      have HB4 := Lib.hid hb4
      clear hb4 d0 df dl
      go_wp2
      rw [HRm.out] at HC2
      refine ⟨⟨j + 1, _, _, by omega, by go_num, Lib.hid (hR.out.step hlt hwp HB1.out HE2.out HC2.out HF2.out HB3.out HB4.out)⟩, by simp [intOf]; omega⟩
    · obtain rfl : j = 3 := by omega
      go_wp2
      (try go_ret)
      rw [← HE.out]
      have hN := hR.out
      refine ⟨pb, cb, F, rfl, ⟨hN.head, fun l l0 l1 => by rw [HRm.out]; exact (hN.cache l (by omega) l1).1, fun l k l0 l1 k0 k1 => hN.apart l k (by omega) l1 (by omega) k1⟩, hN.ext, hwp, fun x hx => ?_⟩
      obtain ⟨l, l0, l1, hx⟩ := mem_allF.1 hx
      exact (hN.cache l (by omega) l1).2 x hx
end Go.Proofs.Ytfaekfdngkpkdaa
/- Entries: reserved bits. -/
namespace Go.Proofs.Ytfaekfdngkpkdaa
set_option linter.unusedVariables false
set_option linter.unusedSimpArgs false
open Go.RowKit
attribute [local go_sem] wext_cell wext_frozen wext_heap alloc_cell alloc_frozen alloc_heap setCell_cell objCell_cells objFrozen_cells

def gI (x lo n : Int) : Int := x / pow2 lo % pow2 n
theorem fieldGetE_c (x lo n : Int) (w : World) (hx : 0 ≤ x) (hx1 : x ≤ 18446744073709551615) (h0 : 0 ≤ lo) (h1 : 1 ≤ n) (h2 : lo ≤ 63) (h3 : n ≤ 64 - lo) (h4 : n ≤ 63) :
    Calls Try.prog 112 #[.int .u64 x, .int .i64 lo, .int .i64 n] w fun e w' => e = .returned (.int .u64 (gI x lo n)) ∧ Ext w w' := fieldGet_c x lo n w hx hx1 h0 h1 h2 h3 h4
def resJ (x l B : Int) (nxe : Bool) (q7 q63 : Bool) : Bool := gI x B (52 - B) != 0 || (q63 && !nxe) || (l == 4 && q7) || (l == 2 && q7 && gI x 13 8 != 0) || (l == 3 && q7 && gI x 13 17 != 0)
theorem resJ_is (x l B : Int) (nxe : Bool) : resI x l B nxe = resJ x l B nxe (bitB x 7) (bitB x 63) := rfl
theorem entReserved_c (x l B : Int) (nxe : Bool) (w : World) (hl0 : 1 ≤ l) (hl1 : l ≤ 4) (h0 : 0 ≤ x) (h1 : x ≤ 18446744073709551615) (hB0 : 14 ≤ B) (hB1 : B ≤ 22) :
    Calls Try.prog 63 #[.int .u64 x, .int .i64 l, .int .i64 B, .bool nxe] w fun e w' => e = .returned (.bool (resI x l B nxe)) ∧ Ext w w' := by
  have b3 : (bits BinOp.and IntKind.u64 x 9223372036854775808 != 0) = bitB x 63 := bitE 63 (by omega) h0 h1
  have b7 : (bits BinOp.and IntKind.u64 x 128 != 0) = bitB x 7 := bitE 7 (by omega) h0 h1
  have f1 : ∀ w, Calls Try.prog 66 #[.int .u64 x, .int .i64 1] w fun e w' => e = .returned (.bool true) ∧ Ext w w' := fun w => entLeaf_c x 1 w h0 h1
  have f2 : ∀ w, Calls Try.prog 66 #[.int .u64 x, .int .i64 2] w fun e w' => e = .returned (.bool (bitB x 7)) ∧ Ext w w' := fun w => entLeaf_c x 2 w h0 h1
  have f3 : ∀ w, Calls Try.prog 66 #[.int .u64 x, .int .i64 3] w fun e w' => e = .returned (.bool (bitB x 7)) ∧ Ext w w' := fun w => entLeaf_c x 3 w h0 h1
  have f4 : ∀ w, Calls Try.prog 66 #[.int .u64 x, .int .i64 4] w fun e w' => e = .returned (.bool false) ∧ Ext w w' := fun w => entLeaf_c x 4 w h0 h1
  rw [resJ_is]
  generalize bitB x 63 = q63 at *
  generalize bitB x 7 = q7 at *
  rcases (show l = 1 ∨ l = 2 ∨ l = 3 ∨ l = 4 by omega) with rfl | rfl | rfl | rfl
  · have HF := Lib.hid f1
    clear f1 f2 f3 f4 hl0 hl1
    go_enter Try.func63, Try.ntmps63
    go_wp2_with (first | (go_at_call 66; refine (HF.out _).mono ?_; rintro e w1 ⟨rfl, hb⟩) | (go_at_call 112; refine (fieldGetE_c x _ _ _ h0 h1 (by omega) (by omega) (by omega) (by omega) (by omega)).mono ?_; rintro e w1 ⟨rfl, hb⟩))
    all_goals
      go_ret
      exact ⟨by unfold resJ; simp_all, (by repeat (first | exact Ext.refl _ | assumption | refine Ext.alloc ?_ _ | refine Ext.drew ?_ | refine Ext.setCell ?_ (by first | (simp; done) | (dsimp only; omega)) _ | refine Ext.trans ?_ (by assumption)))⟩
  · have HF := Lib.hid f2
    clear f1 f2 f3 f4 hl0 hl1
    go_enter Try.func63, Try.ntmps63
    go_wp2_with (first | (go_at_call 66; refine (HF.out _).mono ?_; rintro e w1 ⟨rfl, hb⟩) | (go_at_call 112; refine (fieldGetE_c x _ _ _ h0 h1 (by omega) (by omega) (by omega) (by omega) (by omega)).mono ?_; rintro e w1 ⟨rfl, hb⟩))
    all_goals
      go_ret
      exact ⟨by unfold resJ; simp_all, (by repeat (first | exact Ext.refl _ | assumption | refine Ext.alloc ?_ _ | refine Ext.drew ?_ | refine Ext.setCell ?_ (by first | (simp; done) | (dsimp only; omega)) _ | refine Ext.trans ?_ (by assumption)))⟩
  · have HF := Lib.hid f3
    clear f1 f2 f3 f4 hl0 hl1
    go_enter Try.func63, Try.ntmps63
    go_wp2_with (first | (go_at_call 66; refine (HF.out _).mono ?_; rintro e w1 ⟨rfl, hb⟩) | (go_at_call 112; refine (fieldGetE_c x _ _ _ h0 h1 (by omega) (by omega) (by omega) (by omega) (by omega)).mono ?_; rintro e w1 ⟨rfl, hb⟩))
    all_goals
      go_ret
      exact ⟨by unfold resJ; simp_all, (by repeat (first | exact Ext.refl _ | assumption | refine Ext.alloc ?_ _ | refine Ext.drew ?_ | refine Ext.setCell ?_ (by first | (simp; done) | (dsimp only; omega)) _ | refine Ext.trans ?_ (by assumption)))⟩
  · have HF := Lib.hid f4
    clear f1 f2 f3 f4 hl0 hl1
    go_enter Try.func63, Try.ntmps63
    go_wp2_with (first | (go_at_call 66; refine (HF.out _).mono ?_; rintro e w1 ⟨rfl, hb⟩) | (go_at_call 112; refine (fieldGetE_c x _ _ _ h0 h1 (by omega) (by omega) (by omega) (by omega) (by omega)).mono ?_; rintro e w1 ⟨rfl, hb⟩))
    all_goals
      go_ret
      exact ⟨by unfold resJ; simp_all, (by repeat (first | exact Ext.refl _ | assumption | refine Ext.alloc ?_ _ | refine Ext.drew ?_ | refine Ext.setCell ?_ (by first | (simp; done) | (dsimp only; omega)) _ | refine Ext.trans ?_ (by assumption)))⟩
end Go.Proofs.Ytfaekfdngkpkdaa
