/- The tlb laws' deed, on both sides. -/
import Derived.Test.YtnacgmmkmedpdaaTlbH
namespace Go.Proofs.Ytnacgmmkmedpdaa
set_option linter.unusedVariables false
set_option linter.unusedSimpArgs false
open Go.RowKit
attribute [local go_sem] wext_cell wext_frozen wext_heap alloc_cell alloc_frozen alloc_heap setCell_cell objCell_cells objFrozen_cells

theorem lined13_c (x : Line) (w : World) : Calls Try.prog 85 #[x.val] w fun e w' => e = .returned x.val ∧ Ext w w' := by
  obtain ⟨xf, xa, xb, xc, xd, xm⟩ := x
  unfold Line.val
  go_enter Try.func85, Try.ntmps85
  go_wp2
  refine post_gen (fun U => U.heap[w.heap.size + 1]? = some (.cells #[.int .u64 xf, .bool xa, .bool xb, .bool xc, .bool xd, .int .u8 xm] 56 (0, 0)) ∧ Ext w U) ⟨?_, ?_⟩ ?_
  · exact alloc_same1 ..
  · exact (by repeat (first | exact Ext.refl _ | assumption | refine Ext.alloc ?_ _ | refine Ext.drew ?_ | refine Ext.setCell ?_ (by first | (simp; done) | (dsimp only; omega)) _ | refine Ext.trans ?_ (by assumption)))
  rintro U ⟨m5, E5⟩
  have v0 := (heap_cell m5 0).trans rfl
  have v1 := (heap_cell m5 1).trans rfl
  have v2 := (heap_cell m5 2).trans rfl
  have v3 := (heap_cell m5 3).trans rfl
  have v4 := (heap_cell m5 4).trans rfl
  have v5 := (heap_cell m5 5).trans rfl
  clear m5
  refine bodyPost_ret (by simp [results, Try.results85, go_sem, ↓IntWalk.iteOmega, *]; try rfl) rfl ⟨rfl, E5⟩
theorem hit13_c (x : Hit) (w : World) : Calls Try.prog 42 #[x.val] w fun e w' => e = .returned x.val ∧ Ext w w' := by
  obtain ⟨xf, xl, xa, xb, xc, xd⟩ := x
  unfold Hit.val
  go_enter Try.func42, Try.ntmps42
  go_wp2
  refine post_gen (fun U => U.heap[w.heap.size + 1]? = some (.cells #[.int .u64 xf, .int .i64 xl, .bool xa, .bool xb, .bool xc, .bool xd] 76 (0, 0)) ∧ Ext w U) ⟨?_, ?_⟩ ?_
  · exact alloc_same1 ..
  · exact (by repeat (first | exact Ext.refl _ | assumption | refine Ext.alloc ?_ _ | refine Ext.drew ?_ | refine Ext.setCell ?_ (by first | (simp; done) | (dsimp only; omega)) _ | refine Ext.trans ?_ (by assumption)))
  rintro U ⟨m5, E5⟩
  have v0 := (heap_cell m5 0).trans rfl
  have v1 := (heap_cell m5 1).trans rfl
  have v2 := (heap_cell m5 2).trans rfl
  have v3 := (heap_cell m5 3).trans rfl
  have v4 := (heap_cell m5 4).trans rfl
  have v5 := (heap_cell m5 5).trans rfl
  clear m5
  refine bodyPost_ret (by simp [results, Try.results42, go_sem, ↓IntWalk.iteOmega, *]; try rfl) rfl ⟨rfl, E5⟩

structure TDeed where
  kind : Int
  p : Int
  pick : Int
  a : Int
  x : Line
  h : Hit
deriving Inhabited
def TDeed.cells (d : TDeed) : List Value := [.int .i64 d.kind, .int .i64 d.p, .int .i64 d.pick, .int .u64 d.a, .int .u64 d.x.f, .bool d.x.a, .bool d.x.b, .bool d.x.c, .bool d.x.d, .int .u8 d.x.m, .int .u64 d.h.f, .int .i64 d.h.l, .bool d.h.a, .bool d.h.b, .bool d.h.c, .bool d.h.d]
def TDeed.val (d : TDeed) : Value := .agg #[.int .i64 d.kind, .int .i64 d.p, .int .i64 d.pick, .int .u64 d.a, .int .u64 d.x.f, .bool d.x.a, .bool d.x.b, .bool d.x.c, .bool d.x.d, .int .u8 d.x.m, .int .u64 d.h.f, .int .i64 d.h.l, .bool d.h.a, .bool d.h.b, .bool d.h.c, .bool d.h.d]
def TDeed.ok (d : TDeed) : Prop := (-9223372036854775808 ≤ d.pick ∧ d.pick ≤ 9223372036854775807) ∧ (0 ≤ d.a ∧ d.a ≤ 18446744073709551615) ∧ d.x.ok
def stepT (d : TDeed) (r : Nat) (L : List (Key × Line)) : List (Key × Line) :=
  if d.kind = 1 then smallL d.p d.a d.x d.pick r L else if d.kind = 2 then greatL d.p d.a d.h d.pick r L else if d.kind = 3 then dropPageL d.p d.a r L else if d.kind = 4 then filtL d.p L else if d.kind = 5 then [] else if d.kind = 6 then evictL d.pick L else L
theorem LOk.drop {L : List (Key × Line)} {p a : Int} {r : Nat} (h : LOk L) (h0 : 0 ≤ a) : LOk (dropPageL p a r L) := by
  have h2 : LOk (delL (kT p 3 a) (delL (kT p 2 a) L)) := (h.sub delL_sub).sub delL_sub
  have ⟨q0, q1⟩ := placeI_lt a h0
  unfold dropPageL
  dsimp only
  split
  · split
    · exact h2.sub delL_sub
    · exact h2.put (outL_ok (getLine_ok h2) q0 q1)
  · exact h2
theorem LOk.step {d : TDeed} {r : Nat} {L : List (Key × Line)} (h : LOk L) (hd : d.ok) : LOk (stepT d r L) := by
  unfold stepT
  split
  · unfold smallL; split
    · exact h
    · exact h.put hd.2.2
  split
  · unfold greatL; split
    · exact h.put ⟨by simp, by simp⟩
    · exact h
  split
  · exact h.drop hd.2.1.1
  split
  · exact h.sub List.filter_sublist
  split
  · exact fun y hy => by cases hy
  split
  · exact h.sub evictL_sub
  · exact h
/-- What a deed leaves. -/
def EndDoT (tb cb : Nat) (F : List Nat) (w : World) (d : TDeed) (L : List (Key × Line)) (r : Nat) (e : Ending) (w' : World) : Prop :=
  ∃ v', e = .returned (.agg #[v', .int .i64 r]) ∧ RefAt w' v' (stepT d r L) ∧ ∃ F', TAt w' tb cb F' (stepT d r L) r ∧ Keeps F w w' ∧ ∀ x ∈ F', x ∈ F ∨ w.heap.size ≤ x

theorem TAt.store2 {w : World} {tb cb b : Nat} {F : List Nat} {L : List (Key × Line)} {r : Nat} {c0 c1 v0 v1 : Value} (h : TAt w tb cb F L r) (hb : w.heap[b]? = some (.cells #[c0, c1] 28 (0, 0))) :
    TAt ((w.setCell ⟨b, 0, none⟩ v0).setCell ⟨b, 1, none⟩ v1) tb cb F L r :=
  ⟨(store2_else (fun e => by rw [e, h.1] at hb; simp at hb)).trans h.1, h.2.keeps (G := [b]) (((Keeps.refl _ _).setCell (.inl (by simp)) _).setCell (.inl (by simp)) _) fun x hx => by
    simp only [List.mem_singleton]
    rintro rfl
    exact h.2.apart hb (by decide) (by decide) hx⟩
theorem TAt.store1 {w : World} {tb cb b i : Nat} {F : List Nat} {L : List (Key × Line)} {r : Nat} {c0 c1 v0 : Value} (h : TAt w tb cb F L r) (hb : w.heap[b]? = some (.cells #[c0, c1] 28 (0, 0))) :
    TAt (w.setCell ⟨b, i, none⟩ v0) tb cb F L r :=
  ⟨(setCell_heap _ _ _ _ _ (fun e => by rw [e, h.1] at hb; simp at hb)).trans h.1, h.2.keeps (G := [b]) ((Keeps.refl _ _).setCell (.inl (by simp)) _) fun x hx => by
    simp only [List.mem_singleton]
    rintro rfl
    exact h.2.apart hb (by decide) (by decide) hx⟩
/-- What stands behind a deed's last store. -/
theorem fin_doT {w w6 w8 : World} {tb cb bx : Nat} {F F3 : List Nat} {L' : List (Key × Line)} {r : Nat} {r2 : Int} {v' c0 c1 : Value} (hK : Keeps F w w6) (hF : ∀ x ∈ F3, x ∈ F ∨ w.heap.size ≤ x)
    (hC : TAt w6 tb cb F3 L' r) (hv : RefAt w6 v' L') (hb : w6.heap[bx]? = some (.cells #[c0, c1] 28 (0, 0))) (hbx : w.heap.size ≤ bx)
    (h8 : Ext ((w6.setCell ⟨bx, 0, none⟩ v').setCell ⟨bx, 1, none⟩ (.int .i64 r2)) w8) :
    w8.heap[bx]? = some (.cells #[v', .int .i64 r2] 28 (0, 0)) ∧ RefAt w8 v' L' ∧ TAt w8 tb cb F3 L' r ∧ Keeps F w w8 ∧ ∀ x ∈ F3, x ∈ F ∨ w.heap.size ≤ x :=
  have hl := heap_lt hb
  ⟨(h8.block _ (by simpa using hl)).trans (store2_heap hb), (hv.store2 hb).ext h8, (hC.store2 hb).ext h8, (((hK.setCell (.inr hbx) _).setCell (.inr hbx) _)).ext h8, hF⟩

set_option maxHeartbeats 2000000 in
theorem tdo1_c (tb cb : Nat) (F : List Nat) (L : List (Key × Line)) (r : Nat) (v : Value) (d : TDeed) (w : World) (hc : TAt w tb cb F L r) (ho : RefAt w v L) (hd : d.ok) (hL : LOk L)
    (hk : d.kind = 1) : Calls Try.prog 39 #[.pointer (some ⟨tb, 0, none⟩), .agg #[v, .int .i64 r], d.val] w (EndDoT tb cb F w d L r) := by
  have HC := Lib.hid hc
  have HO := Lib.hid ho
  have hFlt := Lib.hid hc.2.lt
  obtain ⟨h2, h64⟩ := hc.2.room
  obtain ⟨va, cap, rfl, hn, hm⟩ := ho.1.form
  unfold maxLen at hm
  have hst : stepT d r L = smallL d.p d.a d.x d.pick r L := by unfold stepT; simp [hk]
  obtain ⟨⟨hp0, hp1⟩, ⟨ha0, ha1⟩, hxo⟩ := hd
  clear hc ho
  generalize hEnd : EndDoT tb cb F w d L r = E
  unfold EndDoT at hEnd
  rw [hst] at hEnd
  have HEND := Aside.mk hEnd
  clear hEnd hst
  obtain ⟨kind, p, pick, a, ⟨xf, xa, xb, xc, xd, xm⟩, ⟨hf, hl, ha, hb', hc', hd'⟩⟩ := d
  dsimp only at hk hp0 hp1 ha0 ha1 HEND
  unfold TDeed.val
  dsimp only
  subst hk
  have hli : ∀ w, Calls Try.prog 85 #[.agg #[.int .u64 xf, .bool xa, .bool xb, .bool xc, .bool xd, .int .u8 xm]] w fun e w' => e = .returned (.agg #[.int .u64 xf, .bool xa, .bool xb, .bool xc, .bool xd, .int .u8 xm]) ∧ Ext w w' := lined13_c ⟨xf, xa, xb, xc, xd, xm⟩
  go_enter Try.func39, Try.ntmps39
  go_upto_region 3 with (fail)
  refine wp_gen ?_; intro W hW
  have hE : Ext w W := by rw [hW]; exact (by repeat (first | exact Ext.refl _ | assumption | refine Ext.alloc ?_ _ | refine Ext.drew ?_ | refine Ext.setCell ?_ (by first | (simp; done) | (dsimp only; omega)) _ | refine Ext.trans ?_ (by assumption)))
  have n0 : W.heap[w.heap.size]? = some (.cells #[.slice va L.length cap, .int .i64 r] 28 (0, 0)) := by rw [hW]; exact (alloc_other _ _ (by simp; omega)).trans ((alloc_other _ _ (by simp)).trans (alloc_same ..))
  have n1 : W.heap[w.heap.size + 1]? = some (.cells #[.int .i64 1, .int .i64 p, .int .i64 pick, .int .u64 a, .int .u64 xf, .bool xa, .bool xb, .bool xc, .bool xd, .int .u8 xm, .int .u64 hf, .int .i64 hl, .bool ha, .bool hb', .bool hc', .bool hd'] 72 (0, 0)) := by rw [hW]; exact (alloc_other _ _ (by simp)).trans (alloc_same1 ..)
  have n2 : W.heap[w.heap.size + 1 + 1]? = some (.cells #[.slice none 0 0, .int .i64 0] 28 (0, 0)) := by rw [hW]; exact alloc_same2 ..
  have N0 := Lib.hid n0
  have N1 := Lib.hid n1
  have N2 := Lib.hid n2
  have HE := Lib.hid hE
  have HCW := Lib.hid (HC.out.ext hE)
  have HOW := Lib.hid (HO.out.ext hE)
  have hsz : w.heap.size + 1 + 1 < W.heap.size := heap_lt n2
  have x1 := (heap_cell n1 1).trans rfl
  have x2 := (heap_cell n1 2).trans rfl
  have x3 := (heap_cell n1 3).trans rfl
  have x4 := (heap_cell n1 4).trans rfl
  have x5 := (heap_cell n1 5).trans rfl
  have x6 := (heap_cell n1 6).trans rfl
  have x7 := (heap_cell n1 7).trans rfl
  have x8 := (heap_cell n1 8).trans rfl
  have x9 := (heap_cell n1 9).trans rfl
  have x10 := (heap_cell n1 10).trans rfl
  have x11 := (heap_cell n1 11).trans rfl
  have x12 := (heap_cell n1 12).trans rfl
  have x13 := (heap_cell n1 13).trans rfl
  have x14 := (heap_cell n1 14).trans rfl
  have x15 := (heap_cell n1 15).trans rfl
  clear hW hE n0 n1 n2
  go_upto_region 4 with (first | (go_at_call 45; refine (small_c tb cb F L r p a ⟨xf, xa, xb, xc, xd, xm⟩ pick _ (HCW.out.ext (by repeat (first | exact Ext.refl _ | assumption | refine Ext.alloc ?_ _ | refine Ext.drew ?_ | refine Ext.setCell ?_ (by first | (simp; done) | (dsimp only; omega)) _ | refine Ext.trans ?_ (by assumption)))) ha0 ha1 hp0 hp1).mono ?_; rintro e w3 ⟨rfl, F3, hC3, hK3, hF3⟩))
  have HK3 : Hid (Keeps F w w3) := Lib.hid ((Keeps.of_ext HE.out).trans hK3 fun x hx => .inl hx)
  have HC3 := Lib.hid hC3
  have HF3 : Hid (∀ x ∈ F3, x ∈ F ∨ w.heap.size ≤ x) := Lib.hid fun x hx => (hF3 x hx).imp id fun h => by have := HE.out.size; omega
  have hz3 := hK3.size
  have m0 := (hK3.block _ (by omega) (fun h => by have := hFlt.out _ h; omega)).trans N0.out
  have m1 := (hK3.block _ (by omega) (fun h => by have := hFlt.out _ h; omega)).trans N1.out
  have m2 := (hK3.block _ hsz (fun h => by have := hFlt.out _ h; omega)).trans N2.out
  have HO3 := Lib.hid (HOW.out.keeps HCW.out.2 hK3)
  have M0 := Lib.hid m0
  have M1 := Lib.hid m1
  have M2 := Lib.hid m2
  have y0 := (heap_cell m0 0).trans rfl
  have y1 := (heap_cell m0 1).trans rfl
  have x1 := (heap_cell m1 1).trans rfl
  have x2 := (heap_cell m1 2).trans rfl
  have x3 := (heap_cell m1 3).trans rfl
  have x4 := (heap_cell m1 4).trans rfl
  have x5 := (heap_cell m1 5).trans rfl
  have x6 := (heap_cell m1 6).trans rfl
  have x7 := (heap_cell m1 7).trans rfl
  have x8 := (heap_cell m1 8).trans rfl
  have x9 := (heap_cell m1 9).trans rfl
  clear hK3 hC3 hF3 m0 m1 m2 x10 x11 x12 x13 x14 x15
  refine region_mix [.q [0, 1, 2, 3, 4, 5, 6, 8, 9], .l 7 3, .l 10 3, .l 11 2] (by kernel_rfl) (by kernel_rfl) ?_
  (try refine ⟨fun h => absurd h (by simp), ?_⟩); (repeat (unfold wpPlan; simp only [pickL, List.map_cons, List.map_nil, List.getD_cons_succ, List.getD_cons_zero]; (repeat go_big_quiet_step (fail)); refine wpQuiet_nil ?_)); unfold wpPlan; intro w4 hb4; (try simp only [pickL, List.map_cons, List.map_nil, List.getD_cons_succ, List.getD_cons_zero])
  go_wp2_with (first | (go_at_call 85; refine (hli _).mono ?_; rintro e w4b ⟨rfl, hb4b⟩))
  refine ⟨?_, ?_⟩
  · (try intro _); exact hb4.trans hb4b
  have HB4 := Lib.hid (hb4.trans hb4b)
  clear hb4 hb4b
  (try refine ⟨fun h => absurd h (by simp), ?_⟩); (repeat (unfold wpPlan; simp only [pickL, List.map_cons, List.map_nil, List.getD_cons_succ, List.getD_cons_zero]; (repeat go_big_quiet_step (fail)); refine wpQuiet_nil ?_)); unfold wpPlan; intro w5 hb5; (try simp only [pickL, List.map_cons, List.map_nil, List.getD_cons_succ, List.getD_cons_zero])
  go_wp2_with (first | (go_at_call 84; refine (refSmall_c L _ r p a ⟨xf, xa, xb, xc, xd, xm⟩ pick _ ((HO3.out.ext HB4.out).ext hb5) h2 h64 ha0 ha1 hp0 hp1).mono ?_; rintro e w5b ⟨v5, rfl, hv5, hb5b⟩; obtain ⟨a5, c5, rfl, -, -⟩ := hv5.1.form))
  refine ⟨?_, ?_⟩
  · (try intro _); exact hb5.trans hb5b
  have HB7 := Lib.hid (HB4.out.trans (hb5.trans hb5b))
  have HV := Lib.hid hv5
  clear hb5 hb5b hv5
  (try refine ⟨fun h => absurd h (by simp), ?_⟩); (repeat (unfold wpPlan; simp only [pickL, List.map_cons, List.map_nil, List.getD_cons_succ, List.getD_cons_zero]; (repeat go_big_quiet_step (fail)); refine wpQuiet_nil ?_)); unfold wpPlan; intro w6 hb6; (try simp only [pickL, List.map_cons, List.map_nil, List.getD_cons_succ, List.getD_cons_zero])
  have E6 := HB7.out.trans hb6
  have b2 := (E6.block _ (by omega)).trans M2.out
  have y0 := (heap_cell b2 0).trans rfl
  have y1 := (heap_cell b2 1).trans rfl
  have z0 := frozen_of b2
  have B2 := Lib.hid b2
  have HB6 := Lib.hid E6
  have HV6 := Lib.hid (HV.out.ext hb6)
  clear hb6 b2 E6
  go_wp2
  (try refine ⟨fun h => absurd h (by simp), ?_⟩); (repeat (unfold wpPlan; simp only [pickL, List.map_cons, List.map_nil, List.getD_cons_succ, List.getD_cons_zero]; (repeat go_big_quiet_step (fail)); refine wpQuiet_nil ?_)); unfold wpPlan; intro w8 hb8; (try simp only [pickL, List.map_cons, List.map_nil, List.getD_cons_succ, List.getD_cons_zero])
  obtain ⟨q1, q2, q3, q4, q5⟩ := fin_doT (HK3.out.ext HB6.out) HF3.out (HC3.out.ext HB6.out) HV6.out B2.out (by omega) hb8
  have v0 := (heap_cell q1 0).trans rfl
  have v1 := (heap_cell q1 1).trans rfl
  have Q2 := Lib.hid q2
  have Q3 := Lib.hid q3
  have Q4 := Lib.hid q4
  have Q5 := Lib.hid q5
  clear q1 q2 q3 q4 q5 hb8 y0 y1 z0
  go_wp2
  rw [← HEND.out]
  refine bodyPost_ret (by simp [results, Try.results39, go_sem, ↓IntWalk.iteOmega, *]; try rfl) rfl ⟨_, rfl, Q2.out, F3, Q3.out, Q4.out, Q5.out⟩

set_option maxHeartbeats 2000000 in
theorem tdo2_c (tb cb : Nat) (F : List Nat) (L : List (Key × Line)) (r : Nat) (v : Value) (d : TDeed) (w : World) (hc : TAt w tb cb F L r) (ho : RefAt w v L) (hd : d.ok) (hL : LOk L)
    (hk : d.kind = 2) : Calls Try.prog 39 #[.pointer (some ⟨tb, 0, none⟩), .agg #[v, .int .i64 r], d.val] w (EndDoT tb cb F w d L r) := by
  have HC := Lib.hid hc
  have HO := Lib.hid ho
  have hFlt := Lib.hid hc.2.lt
  obtain ⟨h2, h64⟩ := hc.2.room
  obtain ⟨va, cap, rfl, hn, hm⟩ := ho.1.form
  unfold maxLen at hm
  have hst : stepT d r L = greatL d.p d.a d.h d.pick r L := by unfold stepT; simp [hk]
  obtain ⟨⟨hp0, hp1⟩, ⟨ha0, ha1⟩, hxo⟩ := hd
  clear hc ho
  generalize hEnd : EndDoT tb cb F w d L r = E
  unfold EndDoT at hEnd
  rw [hst] at hEnd
  have HEND := Aside.mk hEnd
  clear hEnd hst
  obtain ⟨kind, p, pick, a, ⟨xf, xa, xb, xc, xd, xm⟩, ⟨hf, hl, ha, hb', hc', hd'⟩⟩ := d
  dsimp only at hk hp0 hp1 ha0 ha1 HEND
  unfold TDeed.val
  dsimp only
  subst hk
  have hli : ∀ w, Calls Try.prog 42 #[.agg #[.int .u64 hf, .int .i64 hl, .bool ha, .bool hb', .bool hc', .bool hd']] w fun e w' => e = .returned (.agg #[.int .u64 hf, .int .i64 hl, .bool ha, .bool hb', .bool hc', .bool hd']) ∧ Ext w w' := hit13_c ⟨hf, hl, ha, hb', hc', hd'⟩
  go_enter Try.func39, Try.ntmps39
  go_upto_region 6 with (fail)
  refine wp_gen ?_; intro W hW
  have hE : Ext w W := by rw [hW]; exact (by repeat (first | exact Ext.refl _ | assumption | refine Ext.alloc ?_ _ | refine Ext.drew ?_ | refine Ext.setCell ?_ (by first | (simp; done) | (dsimp only; omega)) _ | refine Ext.trans ?_ (by assumption)))
  have n0 : W.heap[w.heap.size]? = some (.cells #[.slice va L.length cap, .int .i64 r] 28 (0, 0)) := by rw [hW]; exact (alloc_other _ _ (by simp; omega)).trans ((alloc_other _ _ (by simp)).trans (alloc_same ..))
  have n1 : W.heap[w.heap.size + 1]? = some (.cells #[.int .i64 2, .int .i64 p, .int .i64 pick, .int .u64 a, .int .u64 xf, .bool xa, .bool xb, .bool xc, .bool xd, .int .u8 xm, .int .u64 hf, .int .i64 hl, .bool ha, .bool hb', .bool hc', .bool hd'] 72 (0, 0)) := by rw [hW]; exact (alloc_other _ _ (by simp)).trans (alloc_same1 ..)
  have n2 : W.heap[w.heap.size + 1 + 1]? = some (.cells #[.slice none 0 0, .int .i64 0] 28 (0, 0)) := by rw [hW]; exact alloc_same2 ..
  have N0 := Lib.hid n0
  have N1 := Lib.hid n1
  have N2 := Lib.hid n2
  have HE := Lib.hid hE
  have HCW := Lib.hid (HC.out.ext hE)
  have HOW := Lib.hid (HO.out.ext hE)
  have hsz : w.heap.size + 1 + 1 < W.heap.size := heap_lt n2
  have x1 := (heap_cell n1 1).trans rfl
  have x2 := (heap_cell n1 2).trans rfl
  have x3 := (heap_cell n1 3).trans rfl
  have x4 := (heap_cell n1 4).trans rfl
  have x5 := (heap_cell n1 5).trans rfl
  have x6 := (heap_cell n1 6).trans rfl
  have x7 := (heap_cell n1 7).trans rfl
  have x8 := (heap_cell n1 8).trans rfl
  have x9 := (heap_cell n1 9).trans rfl
  have x10 := (heap_cell n1 10).trans rfl
  have x11 := (heap_cell n1 11).trans rfl
  have x12 := (heap_cell n1 12).trans rfl
  have x13 := (heap_cell n1 13).trans rfl
  have x14 := (heap_cell n1 14).trans rfl
  have x15 := (heap_cell n1 15).trans rfl
  clear hW hE n0 n1 n2
  go_upto_region 7 with (first | (go_at_call 47; refine (great_c tb cb F L r p a ⟨hf, hl, ha, hb', hc', hd'⟩ pick _ (HCW.out.ext (by repeat (first | exact Ext.refl _ | assumption | refine Ext.alloc ?_ _ | refine Ext.drew ?_ | refine Ext.setCell ?_ (by first | (simp; done) | (dsimp only; omega)) _ | refine Ext.trans ?_ (by assumption)))) ha0 ha1 hp0 hp1).mono ?_; rintro e w3 ⟨rfl, F3, hC3, hK3, hF3⟩))
  have HK3 : Hid (Keeps F w w3) := Lib.hid ((Keeps.of_ext HE.out).trans hK3 fun x hx => .inl hx)
  have HC3 := Lib.hid hC3
  have HF3 : Hid (∀ x ∈ F3, x ∈ F ∨ w.heap.size ≤ x) := Lib.hid fun x hx => (hF3 x hx).imp id fun h => by have := HE.out.size; omega
  have hz3 := hK3.size
  have m0 := (hK3.block _ (by omega) (fun h => by have := hFlt.out _ h; omega)).trans N0.out
  have m1 := (hK3.block _ (by omega) (fun h => by have := hFlt.out _ h; omega)).trans N1.out
  have m2 := (hK3.block _ hsz (fun h => by have := hFlt.out _ h; omega)).trans N2.out
  have HO3 := Lib.hid (HOW.out.keeps HCW.out.2 hK3)
  have M0 := Lib.hid m0
  have M1 := Lib.hid m1
  have M2 := Lib.hid m2
  have y0 := (heap_cell m0 0).trans rfl
  have y1 := (heap_cell m0 1).trans rfl
  have x1 := (heap_cell m1 1).trans rfl
  have x2 := (heap_cell m1 2).trans rfl
  have x3 := (heap_cell m1 3).trans rfl
  have x10 := (heap_cell m1 10).trans rfl
  have x11 := (heap_cell m1 11).trans rfl
  have x12 := (heap_cell m1 12).trans rfl
  have x13 := (heap_cell m1 13).trans rfl
  have x14 := (heap_cell m1 14).trans rfl
  have x15 := (heap_cell m1 15).trans rfl
  clear hK3 hC3 hF3 m0 m1 m2 x4 x5 x6 x7 x8 x9
  refine region_mix [.q [0, 1, 2, 3, 4, 5, 6, 8, 9], .l 7 3, .l 10 3, .l 11 2] (by kernel_rfl) (by kernel_rfl) ?_
  (try refine ⟨fun h => absurd h (by simp), ?_⟩); (repeat (unfold wpPlan; simp only [pickL, List.map_cons, List.map_nil, List.getD_cons_succ, List.getD_cons_zero]; (repeat go_big_quiet_step (fail)); refine wpQuiet_nil ?_)); unfold wpPlan; intro w4 hb4; (try simp only [pickL, List.map_cons, List.map_nil, List.getD_cons_succ, List.getD_cons_zero])
  go_wp2_with (first | (go_at_call 42; refine (hli _).mono ?_; rintro e w4b ⟨rfl, hb4b⟩))
  refine ⟨?_, ?_⟩
  · (try intro _); exact hb4.trans hb4b
  have HB4 := Lib.hid (hb4.trans hb4b)
  clear hb4 hb4b
  (try refine ⟨fun h => absurd h (by simp), ?_⟩); (repeat (unfold wpPlan; simp only [pickL, List.map_cons, List.map_nil, List.getD_cons_succ, List.getD_cons_zero]; (repeat go_big_quiet_step (fail)); refine wpQuiet_nil ?_)); unfold wpPlan; intro w5 hb5; (try simp only [pickL, List.map_cons, List.map_nil, List.getD_cons_succ, List.getD_cons_zero])
  go_wp2_with (first | (go_at_call 86; refine (refGreat_c L _ r p a ⟨hf, hl, ha, hb', hc', hd'⟩ pick _ ((HO3.out.ext HB4.out).ext hb5) h2 h64 ha0 ha1 hp0 hp1).mono ?_; rintro e w5b ⟨v5, rfl, hv5, hb5b⟩; obtain ⟨a5, c5, rfl, -, -⟩ := hv5.1.form))
  refine ⟨?_, ?_⟩
  · (try intro _); exact hb5.trans hb5b
  have HB7 := Lib.hid (HB4.out.trans (hb5.trans hb5b))
  have HV := Lib.hid hv5
  clear hb5 hb5b hv5
  (try refine ⟨fun h => absurd h (by simp), ?_⟩); (repeat (unfold wpPlan; simp only [pickL, List.map_cons, List.map_nil, List.getD_cons_succ, List.getD_cons_zero]; (repeat go_big_quiet_step (fail)); refine wpQuiet_nil ?_)); unfold wpPlan; intro w6 hb6; (try simp only [pickL, List.map_cons, List.map_nil, List.getD_cons_succ, List.getD_cons_zero])
  have E6 := HB7.out.trans hb6
  have b2 := (E6.block _ (by omega)).trans M2.out
  have y0 := (heap_cell b2 0).trans rfl
  have y1 := (heap_cell b2 1).trans rfl
  have z0 := frozen_of b2
  have B2 := Lib.hid b2
  have HB6 := Lib.hid E6
  have HV6 := Lib.hid (HV.out.ext hb6)
  clear hb6 b2 E6
  go_wp2
  (try refine ⟨fun h => absurd h (by simp), ?_⟩); (repeat (unfold wpPlan; simp only [pickL, List.map_cons, List.map_nil, List.getD_cons_succ, List.getD_cons_zero]; (repeat go_big_quiet_step (fail)); refine wpQuiet_nil ?_)); unfold wpPlan; intro w8 hb8; (try simp only [pickL, List.map_cons, List.map_nil, List.getD_cons_succ, List.getD_cons_zero])
  obtain ⟨q1, q2, q3, q4, q5⟩ := fin_doT (HK3.out.ext HB6.out) HF3.out (HC3.out.ext HB6.out) HV6.out B2.out (by omega) hb8
  have v0 := (heap_cell q1 0).trans rfl
  have v1 := (heap_cell q1 1).trans rfl
  have Q2 := Lib.hid q2
  have Q3 := Lib.hid q3
  have Q4 := Lib.hid q4
  have Q5 := Lib.hid q5
  clear q1 q2 q3 q4 q5 hb8 y0 y1 z0
  go_wp2
  rw [← HEND.out]
  refine bodyPost_ret (by simp [results, Try.results39, go_sem, ↓IntWalk.iteOmega, *]; try rfl) rfl ⟨_, rfl, Q2.out, F3, Q3.out, Q4.out, Q5.out⟩

set_option maxHeartbeats 2000000 in
theorem tdo3_c (tb cb : Nat) (F : List Nat) (L : List (Key × Line)) (r : Nat) (v : Value) (d : TDeed) (w : World) (hc : TAt w tb cb F L r) (ho : RefAt w v L) (hd : d.ok) (hL : LOk L)
    (hk : d.kind = 3) : Calls Try.prog 39 #[.pointer (some ⟨tb, 0, none⟩), .agg #[v, .int .i64 r], d.val] w (EndDoT tb cb F w d L r) := by
  have HC := Lib.hid hc
  have HO := Lib.hid ho
  have hFlt := Lib.hid hc.2.lt
  obtain ⟨h2, h64⟩ := hc.2.room
  obtain ⟨va, cap, rfl, hn, hm⟩ := ho.1.form
  unfold maxLen at hm
  have hst : stepT d r L = dropPageL d.p d.a r L := by unfold stepT; simp [hk]
  obtain ⟨⟨hp0, hp1⟩, ⟨ha0, ha1⟩, hxo⟩ := hd
  clear hc ho
  generalize hEnd : EndDoT tb cb F w d L r = E
  unfold EndDoT at hEnd
  rw [hst] at hEnd
  have HEND := Aside.mk hEnd
  clear hEnd hst
  obtain ⟨kind, p, pick, a, ⟨xf, xa, xb, xc, xd, xm⟩, ⟨hf, hl, ha, hb', hc', hd'⟩⟩ := d
  dsimp only at hk hp0 hp1 ha0 ha1 HEND
  unfold TDeed.val
  dsimp only
  subst hk
  go_enter Try.func39, Try.ntmps39
  go_upto_region 9 with (fail)
  refine wp_gen ?_; intro W hW
  have hE : Ext w W := by rw [hW]; exact (by repeat (first | exact Ext.refl _ | assumption | refine Ext.alloc ?_ _ | refine Ext.drew ?_ | refine Ext.setCell ?_ (by first | (simp; done) | (dsimp only; omega)) _ | refine Ext.trans ?_ (by assumption)))
  have n0 : W.heap[w.heap.size]? = some (.cells #[.slice va L.length cap, .int .i64 r] 28 (0, 0)) := by rw [hW]; exact (alloc_other _ _ (by simp; omega)).trans ((alloc_other _ _ (by simp)).trans (alloc_same ..))
  have n1 : W.heap[w.heap.size + 1]? = some (.cells #[.int .i64 3, .int .i64 p, .int .i64 pick, .int .u64 a, .int .u64 xf, .bool xa, .bool xb, .bool xc, .bool xd, .int .u8 xm, .int .u64 hf, .int .i64 hl, .bool ha, .bool hb', .bool hc', .bool hd'] 72 (0, 0)) := by rw [hW]; exact (alloc_other _ _ (by simp)).trans (alloc_same1 ..)
  have n2 : W.heap[w.heap.size + 1 + 1]? = some (.cells #[.slice none 0 0, .int .i64 0] 28 (0, 0)) := by rw [hW]; exact alloc_same2 ..
  have N0 := Lib.hid n0
  have N1 := Lib.hid n1
  have N2 := Lib.hid n2
  have HE := Lib.hid hE
  have HCW := Lib.hid (HC.out.ext hE)
  have HOW := Lib.hid (HO.out.ext hE)
  have hsz : w.heap.size + 1 + 1 < W.heap.size := heap_lt n2
  have x1 := (heap_cell n1 1).trans rfl
  have x2 := (heap_cell n1 2).trans rfl
  have x3 := (heap_cell n1 3).trans rfl
  have x4 := (heap_cell n1 4).trans rfl
  have x5 := (heap_cell n1 5).trans rfl
  have x6 := (heap_cell n1 6).trans rfl
  have x7 := (heap_cell n1 7).trans rfl
  have x8 := (heap_cell n1 8).trans rfl
  have x9 := (heap_cell n1 9).trans rfl
  have x10 := (heap_cell n1 10).trans rfl
  have x11 := (heap_cell n1 11).trans rfl
  have x12 := (heap_cell n1 12).trans rfl
  have x13 := (heap_cell n1 13).trans rfl
  have x14 := (heap_cell n1 14).trans rfl
  have x15 := (heap_cell n1 15).trans rfl
  clear hW hE n0 n1 n2
  go_upto_region 10 with (first | (go_at_call 49; refine (dropPage_c tb cb F L r p a _ (HCW.out.ext (by repeat (first | exact Ext.refl _ | assumption | refine Ext.alloc ?_ _ | refine Ext.drew ?_ | refine Ext.setCell ?_ (by first | (simp; done) | (dsimp only; omega)) _ | refine Ext.trans ?_ (by assumption)))) hL ha0 ha1).mono ?_; rintro e w3 ⟨rfl, F3, hC3, hK3, hF3⟩))
  have HK3 : Hid (Keeps F w w3) := Lib.hid ((Keeps.of_ext HE.out).trans hK3 fun x hx => .inl hx)
  have HC3 := Lib.hid hC3
  have HF3 : Hid (∀ x ∈ F3, x ∈ F ∨ w.heap.size ≤ x) := Lib.hid fun x hx => (hF3 x hx).imp id fun h => by have := HE.out.size; omega
  have hz3 := hK3.size
  have m0 := (hK3.block _ (by omega) (fun h => by have := hFlt.out _ h; omega)).trans N0.out
  have m1 := (hK3.block _ (by omega) (fun h => by have := hFlt.out _ h; omega)).trans N1.out
  have m2 := (hK3.block _ hsz (fun h => by have := hFlt.out _ h; omega)).trans N2.out
  have HO3 := Lib.hid (HOW.out.keeps HCW.out.2 hK3)
  have M0 := Lib.hid m0
  have M1 := Lib.hid m1
  have M2 := Lib.hid m2
  have y0 := (heap_cell m0 0).trans rfl
  have y1 := (heap_cell m0 1).trans rfl
  have x1 := (heap_cell m1 1).trans rfl
  have x3 := (heap_cell m1 3).trans rfl
  clear hK3 hC3 hF3 m0 m1 m2 x2 x4 x5 x6 x7 x8 x9 x10 x11 x12 x13 x14 x15
  go_wp2_with (first | (go_at_call 87; refine (refDropPage_c L _ r p a _ (HO3.out.ext (by repeat (first | exact Ext.refl _ | assumption | refine Ext.alloc ?_ _ | refine Ext.drew ?_ | refine Ext.setCell ?_ (by first | (simp; done) | (dsimp only; omega)) _ | refine Ext.trans ?_ (by assumption)))) hL h2 h64 ha0 ha1).mono ?_; rintro e w5 ⟨v5, rfl, hv5, hb5b⟩; have HB7 := Lib.hid hb5b; have HV := Lib.hid hv5; have hz5 := hb5b.size; have B2 := Lib.hid ((hb5b.block _ (by omega)).trans M2.out); have z0 := frozen_of B2.out; have b0 := (heap_cell B2.out 0).trans rfl; have b1 := (heap_cell B2.out 1).trans rfl; have z1 := heap_lt B2.out; clear hb5b hv5; obtain ⟨a5, c5, rfl, -, -⟩ := HV.out.1.form))
  refine post_gen (fun w8 => w8.heap[w.heap.size + 1 + 1]? = some (.cells #[.slice a5 (dropPageL p a r L).length c5, .int .i64 r] 28 (0, 0)) ∧ RefAt w8 (.slice a5 (dropPageL p a r L).length c5) (dropPageL p a r L) ∧ TAt w8 tb cb F3 (dropPageL p a r L) r ∧ Keeps F w w8 ∧ ∀ x ∈ F3, x ∈ F ∨ w.heap.size ≤ x)
    (fin_doT (HK3.out.ext HB7.out) HF3.out (HC3.out.ext HB7.out) HV.out B2.out (by omega) (Ext.refl _)) ?_
  rintro w8 ⟨q1, q2, q3, q4, q5⟩
  have v0 := (heap_cell q1 0).trans rfl
  have v1 := (heap_cell q1 1).trans rfl
  have Q2 := Lib.hid q2
  have Q3 := Lib.hid q3
  have Q4 := Lib.hid q4
  have Q5 := Lib.hid q5
  clear q1 q2 q3 q4 q5 y0 y1 z0 z1 b0 b1
  rw [← HEND.out]
  refine bodyPost_ret (by simp [results, Try.results39, go_sem, ↓IntWalk.iteOmega, *]; try rfl) rfl ⟨_, rfl, Q2.out, F3, Q3.out, Q4.out, Q5.out⟩

set_option maxHeartbeats 2000000 in
theorem tdo4_c (tb cb : Nat) (F : List Nat) (L : List (Key × Line)) (r : Nat) (v : Value) (d : TDeed) (w : World) (hc : TAt w tb cb F L r) (ho : RefAt w v L) (hd : d.ok) (hL : LOk L)
    (hk : d.kind = 4) : Calls Try.prog 39 #[.pointer (some ⟨tb, 0, none⟩), .agg #[v, .int .i64 r], d.val] w (EndDoT tb cb F w d L r) := by
  have HC := Lib.hid hc
  have HO := Lib.hid ho
  have hFlt := Lib.hid hc.2.lt
  obtain ⟨h2, h64⟩ := hc.2.room
  obtain ⟨va, cap, rfl, hn, hm⟩ := ho.1.form
  unfold maxLen at hm
  have hst : stepT d r L = filtL d.p L := by unfold stepT; simp [hk]
  obtain ⟨⟨hp0, hp1⟩, ⟨ha0, ha1⟩, hxo⟩ := hd
  clear hc ho
  generalize hEnd : EndDoT tb cb F w d L r = E
  unfold EndDoT at hEnd
  rw [hst] at hEnd
  have HEND := Aside.mk hEnd
  clear hEnd hst
  obtain ⟨kind, p, pick, a, ⟨xf, xa, xb, xc, xd, xm⟩, ⟨hf, hl, ha, hb', hc', hd'⟩⟩ := d
  dsimp only at hk hp0 hp1 ha0 ha1 HEND
  unfold TDeed.val
  dsimp only
  subst hk
  go_enter Try.func39, Try.ntmps39
  go_upto_region 12 with (fail)
  refine wp_gen ?_; intro W hW
  have hE : Ext w W := by rw [hW]; exact (by repeat (first | exact Ext.refl _ | assumption | refine Ext.alloc ?_ _ | refine Ext.drew ?_ | refine Ext.setCell ?_ (by first | (simp; done) | (dsimp only; omega)) _ | refine Ext.trans ?_ (by assumption)))
  have n0 : W.heap[w.heap.size]? = some (.cells #[.slice va L.length cap, .int .i64 r] 28 (0, 0)) := by rw [hW]; exact (alloc_other _ _ (by simp; omega)).trans ((alloc_other _ _ (by simp)).trans (alloc_same ..))
  have n1 : W.heap[w.heap.size + 1]? = some (.cells #[.int .i64 4, .int .i64 p, .int .i64 pick, .int .u64 a, .int .u64 xf, .bool xa, .bool xb, .bool xc, .bool xd, .int .u8 xm, .int .u64 hf, .int .i64 hl, .bool ha, .bool hb', .bool hc', .bool hd'] 72 (0, 0)) := by rw [hW]; exact (alloc_other _ _ (by simp)).trans (alloc_same1 ..)
  have n2 : W.heap[w.heap.size + 1 + 1]? = some (.cells #[.slice none 0 0, .int .i64 0] 28 (0, 0)) := by rw [hW]; exact alloc_same2 ..
  have N0 := Lib.hid n0
  have N1 := Lib.hid n1
  have N2 := Lib.hid n2
  have HE := Lib.hid hE
  have HCW := Lib.hid (HC.out.ext hE)
  have HOW := Lib.hid (HO.out.ext hE)
  have hsz : w.heap.size + 1 + 1 < W.heap.size := heap_lt n2
  have x1 := (heap_cell n1 1).trans rfl
  have x2 := (heap_cell n1 2).trans rfl
  have x3 := (heap_cell n1 3).trans rfl
  have x4 := (heap_cell n1 4).trans rfl
  have x5 := (heap_cell n1 5).trans rfl
  have x6 := (heap_cell n1 6).trans rfl
  have x7 := (heap_cell n1 7).trans rfl
  have x8 := (heap_cell n1 8).trans rfl
  have x9 := (heap_cell n1 9).trans rfl
  have x10 := (heap_cell n1 10).trans rfl
  have x11 := (heap_cell n1 11).trans rfl
  have x12 := (heap_cell n1 12).trans rfl
  have x13 := (heap_cell n1 13).trans rfl
  have x14 := (heap_cell n1 14).trans rfl
  have x15 := (heap_cell n1 15).trans rfl
  clear hW hE n0 n1 n2
  go_upto_region 13 with (first | (go_at_call 51; refine (tDropOf_c tb cb F L r p _ (HCW.out.ext (by repeat (first | exact Ext.refl _ | assumption | refine Ext.alloc ?_ _ | refine Ext.drew ?_ | refine Ext.setCell ?_ (by first | (simp; done) | (dsimp only; omega)) _ | refine Ext.trans ?_ (by assumption))))).mono ?_; rintro e w3 ⟨rfl, F3, hC3, hK3, hF3⟩))
  have HK3 : Hid (Keeps F w w3) := Lib.hid ((Keeps.of_ext HE.out).trans hK3 fun x hx => .inl hx)
  have HC3 := Lib.hid hC3
  have HF3 : Hid (∀ x ∈ F3, x ∈ F ∨ w.heap.size ≤ x) := Lib.hid fun x hx => (hF3 x hx).imp id fun h => by have := HE.out.size; omega
  have hz3 := hK3.size
  have m0 := (hK3.block _ (by omega) (fun h => by have := hFlt.out _ h; omega)).trans N0.out
  have m1 := (hK3.block _ (by omega) (fun h => by have := hFlt.out _ h; omega)).trans N1.out
  have m2 := (hK3.block _ hsz (fun h => by have := hFlt.out _ h; omega)).trans N2.out
  have HO3 := Lib.hid (HOW.out.keeps HCW.out.2 hK3)
  have M0 := Lib.hid m0
  have M1 := Lib.hid m1
  have M2 := Lib.hid m2
  have y0 := (heap_cell m0 0).trans rfl
  have y1 := (heap_cell m0 1).trans rfl
  have x1 := (heap_cell m1 1).trans rfl
  clear hK3 hC3 hF3 m0 m1 m2 x2 x3 x4 x5 x6 x7 x8 x9 x10 x11 x12 x13 x14 x15
  go_wp2_with (first | (go_at_call 78; refine (refDropOf_c L p _ r _ (HO3.out.ext (by repeat (first | exact Ext.refl _ | assumption | refine Ext.alloc ?_ _ | refine Ext.drew ?_ | refine Ext.setCell ?_ (by first | (simp; done) | (dsimp only; omega)) _ | refine Ext.trans ?_ (by assumption))))).mono ?_; rintro e w5 ⟨v5, rfl, hv5, hb5b⟩; have HB7 := Lib.hid hb5b; have HV := Lib.hid hv5; have hz5 := hb5b.size; have B2 := Lib.hid ((hb5b.block _ (by omega)).trans M2.out); have z0 := frozen_of B2.out; have b0 := (heap_cell B2.out 0).trans rfl; have b1 := (heap_cell B2.out 1).trans rfl; have z1 := heap_lt B2.out; clear hb5b hv5; obtain ⟨a5, c5, rfl, -, -⟩ := HV.out.1.form))
  refine post_gen (fun w8 => w8.heap[w.heap.size + 1 + 1]? = some (.cells #[.slice a5 (filtL p L).length c5, .int .i64 r] 28 (0, 0)) ∧ RefAt w8 (.slice a5 (filtL p L).length c5) (filtL p L) ∧ TAt w8 tb cb F3 (filtL p L) r ∧ Keeps F w w8 ∧ ∀ x ∈ F3, x ∈ F ∨ w.heap.size ≤ x)
    (fin_doT (HK3.out.ext HB7.out) HF3.out (HC3.out.ext HB7.out) HV.out B2.out (by omega) (Ext.refl _)) ?_
  rintro w8 ⟨q1, q2, q3, q4, q5⟩
  have v0 := (heap_cell q1 0).trans rfl
  have v1 := (heap_cell q1 1).trans rfl
  have Q2 := Lib.hid q2
  have Q3 := Lib.hid q3
  have Q4 := Lib.hid q4
  have Q5 := Lib.hid q5
  clear q1 q2 q3 q4 q5 y0 y1 z0 z1 b0 b1
  rw [← HEND.out]
  refine bodyPost_ret (by simp [results, Try.results39, go_sem, ↓IntWalk.iteOmega, *]; try rfl) rfl ⟨_, rfl, Q2.out, F3, Q3.out, Q4.out, Q5.out⟩

set_option maxHeartbeats 2000000 in
theorem tdo6_c (tb cb : Nat) (F : List Nat) (L : List (Key × Line)) (r : Nat) (v : Value) (d : TDeed) (w : World) (hc : TAt w tb cb F L r) (ho : RefAt w v L) (hd : d.ok) (hL : LOk L)
    (hk : d.kind = 6) : Calls Try.prog 39 #[.pointer (some ⟨tb, 0, none⟩), .agg #[v, .int .i64 r], d.val] w (EndDoT tb cb F w d L r) := by
  have HC := Lib.hid hc
  have HO := Lib.hid ho
  have hFlt := Lib.hid hc.2.lt
  obtain ⟨h2, h64⟩ := hc.2.room
  obtain ⟨va, cap, rfl, hn, hm⟩ := ho.1.form
  unfold maxLen at hm
  have hst : stepT d r L = evictL d.pick L := by unfold stepT; simp [hk]
  obtain ⟨⟨hp0, hp1⟩, ⟨ha0, ha1⟩, hxo⟩ := hd
  clear hc ho
  generalize hEnd : EndDoT tb cb F w d L r = E
  unfold EndDoT at hEnd
  rw [hst] at hEnd
  have HEND := Aside.mk hEnd
  clear hEnd hst
  obtain ⟨kind, p, pick, a, ⟨xf, xa, xb, xc, xd, xm⟩, ⟨hf, hl, ha, hb', hc', hd'⟩⟩ := d
  dsimp only at hk hp0 hp1 ha0 ha1 HEND
  unfold TDeed.val
  dsimp only
  subst hk
  go_enter Try.func39, Try.ntmps39
  go_upto_region 19 with (fail)
  refine wp_gen ?_; intro W hW
  have hE : Ext w W := by rw [hW]; exact (by repeat (first | exact Ext.refl _ | assumption | refine Ext.alloc ?_ _ | refine Ext.drew ?_ | refine Ext.setCell ?_ (by first | (simp; done) | (dsimp only; omega)) _ | refine Ext.trans ?_ (by assumption)))
  have n0 : W.heap[w.heap.size]? = some (.cells #[.slice va L.length cap, .int .i64 r] 28 (0, 0)) := by rw [hW]; exact (alloc_other _ _ (by simp; omega)).trans ((alloc_other _ _ (by simp)).trans (alloc_same ..))
  have n1 : W.heap[w.heap.size + 1]? = some (.cells #[.int .i64 6, .int .i64 p, .int .i64 pick, .int .u64 a, .int .u64 xf, .bool xa, .bool xb, .bool xc, .bool xd, .int .u8 xm, .int .u64 hf, .int .i64 hl, .bool ha, .bool hb', .bool hc', .bool hd'] 72 (0, 0)) := by rw [hW]; exact (alloc_other _ _ (by simp)).trans (alloc_same1 ..)
  have n2 : W.heap[w.heap.size + 1 + 1]? = some (.cells #[.slice none 0 0, .int .i64 0] 28 (0, 0)) := by rw [hW]; exact alloc_same2 ..
  have N0 := Lib.hid n0
  have N1 := Lib.hid n1
  have N2 := Lib.hid n2
  have HE := Lib.hid hE
  have HCW := Lib.hid (HC.out.ext hE)
  have HOW := Lib.hid (HO.out.ext hE)
  have hsz : w.heap.size + 1 + 1 < W.heap.size := heap_lt n2
  have x1 := (heap_cell n1 1).trans rfl
  have x2 := (heap_cell n1 2).trans rfl
  have x3 := (heap_cell n1 3).trans rfl
  have x4 := (heap_cell n1 4).trans rfl
  have x5 := (heap_cell n1 5).trans rfl
  have x6 := (heap_cell n1 6).trans rfl
  have x7 := (heap_cell n1 7).trans rfl
  have x8 := (heap_cell n1 8).trans rfl
  have x9 := (heap_cell n1 9).trans rfl
  have x10 := (heap_cell n1 10).trans rfl
  have x11 := (heap_cell n1 11).trans rfl
  have x12 := (heap_cell n1 12).trans rfl
  have x13 := (heap_cell n1 13).trans rfl
  have x14 := (heap_cell n1 14).trans rfl
  have x15 := (heap_cell n1 15).trans rfl
  clear hW hE n0 n1 n2
  go_upto_region 20 with (first | (go_at_call 53; refine (tEvict_c tb cb F L r pick _ (HCW.out.ext (by repeat (first | exact Ext.refl _ | assumption | refine Ext.alloc ?_ _ | refine Ext.drew ?_ | refine Ext.setCell ?_ (by first | (simp; done) | (dsimp only; omega)) _ | refine Ext.trans ?_ (by assumption)))) hp0 hp1).mono ?_; rintro e w3 ⟨rfl, F3, hC3, hK3, hF3⟩))
  have HK3 : Hid (Keeps F w w3) := Lib.hid ((Keeps.of_ext HE.out).trans hK3 fun x hx => .inl hx)
  have HC3 := Lib.hid hC3
  have HF3 : Hid (∀ x ∈ F3, x ∈ F ∨ w.heap.size ≤ x) := Lib.hid fun x hx => (hF3 x hx).imp id fun h => by have := HE.out.size; omega
  have hz3 := hK3.size
  have m0 := (hK3.block _ (by omega) (fun h => by have := hFlt.out _ h; omega)).trans N0.out
  have m1 := (hK3.block _ (by omega) (fun h => by have := hFlt.out _ h; omega)).trans N1.out
  have m2 := (hK3.block _ hsz (fun h => by have := hFlt.out _ h; omega)).trans N2.out
  have HO3 := Lib.hid (HOW.out.keeps HCW.out.2 hK3)
  have M0 := Lib.hid m0
  have M1 := Lib.hid m1
  have M2 := Lib.hid m2
  have y0 := (heap_cell m0 0).trans rfl
  have y1 := (heap_cell m0 1).trans rfl
  have x2 := (heap_cell m1 2).trans rfl
  clear hK3 hC3 hF3 m0 m1 m2 x1 x3 x4 x5 x6 x7 x8 x9 x10 x11 x12 x13 x14 x15
  go_wp2_with (first | (go_at_call 79; refine (refEvict_c L pick _ r _ (HO3.out.ext (by repeat (first | exact Ext.refl _ | assumption | refine Ext.alloc ?_ _ | refine Ext.drew ?_ | refine Ext.setCell ?_ (by first | (simp; done) | (dsimp only; omega)) _ | refine Ext.trans ?_ (by assumption)))) hp0 hp1).mono ?_; rintro e w5 ⟨v5, rfl, hv5, hb5b⟩; have HB7 := Lib.hid hb5b; have HV := Lib.hid hv5; have hz5 := hb5b.size; have B2 := Lib.hid ((hb5b.block _ (by omega)).trans M2.out); have z0 := frozen_of B2.out; have b0 := (heap_cell B2.out 0).trans rfl; have b1 := (heap_cell B2.out 1).trans rfl; have z1 := heap_lt B2.out; clear hb5b hv5; obtain ⟨a5, c5, rfl, -, -⟩ := HV.out.1.form))
  refine post_gen (fun w8 => w8.heap[w.heap.size + 1 + 1]? = some (.cells #[.slice a5 (evictL pick L).length c5, .int .i64 r] 28 (0, 0)) ∧ RefAt w8 (.slice a5 (evictL pick L).length c5) (evictL pick L) ∧ TAt w8 tb cb F3 (evictL pick L) r ∧ Keeps F w w8 ∧ ∀ x ∈ F3, x ∈ F ∨ w.heap.size ≤ x)
    (fin_doT (HK3.out.ext HB7.out) HF3.out (HC3.out.ext HB7.out) HV.out B2.out (by omega) (Ext.refl _)) ?_
  rintro w8 ⟨q1, q2, q3, q4, q5⟩
  have v0 := (heap_cell q1 0).trans rfl
  have v1 := (heap_cell q1 1).trans rfl
  have Q2 := Lib.hid q2
  have Q3 := Lib.hid q3
  have Q4 := Lib.hid q4
  have Q5 := Lib.hid q5
  clear q1 q2 q3 q4 q5 y0 y1 z0 z1 b0 b1
  rw [← HEND.out]
  refine bodyPost_ret (by simp [results, Try.results39, go_sem, ↓IntWalk.iteOmega, *]; try rfl) rfl ⟨_, rfl, Q2.out, F3, Q3.out, Q4.out, Q5.out⟩

set_option maxHeartbeats 2000000 in
theorem tdo5_c (tb cb : Nat) (F : List Nat) (L : List (Key × Line)) (r : Nat) (v : Value) (d : TDeed) (w : World) (hc : TAt w tb cb F L r) (ho : RefAt w v L) (hd : d.ok) (hL : LOk L)
    (hk : d.kind = 5) : Calls Try.prog 39 #[.pointer (some ⟨tb, 0, none⟩), .agg #[v, .int .i64 r], d.val] w (EndDoT tb cb F w d L r) := by
  have HC := Lib.hid hc
  have HO := Lib.hid ho
  have hFlt := Lib.hid hc.2.lt
  obtain ⟨h2, h64⟩ := hc.2.room
  obtain ⟨va, cap, rfl, hn, hm⟩ := ho.1.form
  unfold maxLen at hm
  have hst : stepT d r L = [] := by unfold stepT; simp [hk]
  obtain ⟨⟨hp0, hp1⟩, ⟨ha0, ha1⟩, hxo⟩ := hd
  clear hc ho
  generalize hEnd : EndDoT tb cb F w d L r = E
  unfold EndDoT at hEnd
  rw [hst] at hEnd
  have HEND := Aside.mk hEnd
  clear hEnd hst
  obtain ⟨kind, p, pick, a, ⟨xf, xa, xb, xc, xd, xm⟩, ⟨hf, hl, ha, hb', hc', hd'⟩⟩ := d
  dsimp only at hk hp0 hp1 ha0 ha1 HEND
  unfold TDeed.val
  dsimp only
  subst hk
  go_enter Try.func39, Try.ntmps39
  go_upto_region 15 with (fail)
  refine wp_gen ?_; intro W hW
  have hE : Ext w W := by rw [hW]; exact (by repeat (first | exact Ext.refl _ | assumption | refine Ext.alloc ?_ _ | refine Ext.drew ?_ | refine Ext.setCell ?_ (by first | (simp; done) | (dsimp only; omega)) _ | refine Ext.trans ?_ (by assumption)))
  have n0 : W.heap[w.heap.size]? = some (.cells #[.slice va L.length cap, .int .i64 r] 28 (0, 0)) := by rw [hW]; exact (alloc_other _ _ (by simp; omega)).trans ((alloc_other _ _ (by simp)).trans (alloc_same ..))
  have n1 : W.heap[w.heap.size + 1]? = some (.cells #[.int .i64 5, .int .i64 p, .int .i64 pick, .int .u64 a, .int .u64 xf, .bool xa, .bool xb, .bool xc, .bool xd, .int .u8 xm, .int .u64 hf, .int .i64 hl, .bool ha, .bool hb', .bool hc', .bool hd'] 72 (0, 0)) := by rw [hW]; exact (alloc_other _ _ (by simp)).trans (alloc_same1 ..)
  have n2 : W.heap[w.heap.size + 1 + 1]? = some (.cells #[.slice none 0 0, .int .i64 0] 28 (0, 0)) := by rw [hW]; exact alloc_same2 ..
  have N0 := Lib.hid n0
  have N1 := Lib.hid n1
  have N2 := Lib.hid n2
  have HE := Lib.hid hE
  have HCW := Lib.hid (HC.out.ext hE)
  have HOW := Lib.hid (HO.out.ext hE)
  have hsz : w.heap.size + 1 + 1 < W.heap.size := heap_lt n2
  have x1 := (heap_cell n1 1).trans rfl
  have x2 := (heap_cell n1 2).trans rfl
  have x3 := (heap_cell n1 3).trans rfl
  have x4 := (heap_cell n1 4).trans rfl
  have x5 := (heap_cell n1 5).trans rfl
  have x6 := (heap_cell n1 6).trans rfl
  have x7 := (heap_cell n1 7).trans rfl
  have x8 := (heap_cell n1 8).trans rfl
  have x9 := (heap_cell n1 9).trans rfl
  have x10 := (heap_cell n1 10).trans rfl
  have x11 := (heap_cell n1 11).trans rfl
  have x12 := (heap_cell n1 12).trans rfl
  have x13 := (heap_cell n1 13).trans rfl
  have x14 := (heap_cell n1 14).trans rfl
  have x15 := (heap_cell n1 15).trans rfl
  clear hW hE n0 n1 n2
  go_upto_region 16 with (first | (go_at_call 52; refine (tClear_c tb cb F L r _ (HCW.out.ext (by repeat (first | exact Ext.refl _ | assumption | refine Ext.alloc ?_ _ | refine Ext.drew ?_ | refine Ext.setCell ?_ (by first | (simp; done) | (dsimp only; omega)) _ | refine Ext.trans ?_ (by assumption))))).mono ?_; rintro e w3 ⟨rfl, F3, hC3, hK3, hF3⟩))
  have HK3 : Hid (Keeps F w w3) := Lib.hid ((Keeps.of_ext HE.out).trans hK3 fun x hx => .inl hx)
  have HC3 := Lib.hid hC3
  have HF3 : Hid (∀ x ∈ F3, x ∈ F ∨ w.heap.size ≤ x) := Lib.hid fun x hx => (hF3 x hx).imp id fun h => by have := HE.out.size; omega
  have hz3 := hK3.size
  have m0 := (hK3.block _ (by omega) (fun h => by have := hFlt.out _ h; omega)).trans N0.out
  have m1 := (hK3.block _ (by omega) (fun h => by have := hFlt.out _ h; omega)).trans N1.out
  have m2 := (hK3.block _ hsz (fun h => by have := hFlt.out _ h; omega)).trans N2.out
  have HO3 := Lib.hid (HOW.out.keeps HCW.out.2 hK3)
  have M0 := Lib.hid m0
  have M1 := Lib.hid m1
  have M2 := Lib.hid m2
  have y0 := (heap_cell m0 0).trans rfl
  have y1 := (heap_cell m0 1).trans rfl
  clear hK3 hC3 hF3 m0 m1 m2 x1 x2 x3 x4 x5 x6 x7 x8 x9 x10 x11 x12 x13 x14 x15
  have z0 := frozen_of M0.out
  have z2 := frozen_of M2.out
  have b0 := (heap_cell M2.out 0).trans rfl
  have b1 := (heap_cell M2.out 1).trans rfl
  go_wp2
  refine post_gen (fun w8 => w8.heap[w.heap.size + 1 + 1]? = some (.cells #[.slice none 0 0, .int .i64 r] 28 (0, 0)) ∧ RefAt w8 (.slice none 0 0) [] ∧ TAt w8 tb cb F3 [] r ∧ Keeps F w w8 ∧ ∀ x ∈ F3, x ∈ F ∨ w.heap.size ≤ x)
    (fin_doT (HK3.out.setCell (.inr (Nat.le_refl _)) _) HF3.out (HC3.out.store1 M0.out) ⟨by simpa [rowP] using Owns.nil _ _ _, by simp⟩ ((setCell_heap _ _ _ _ _ (by omega)).trans M2.out) (by omega) (Ext.refl _)) ?_
  rintro w8 ⟨q1, q2, q3, q4, q5⟩
  have v0 := (heap_cell q1 0).trans rfl
  have v1 := (heap_cell q1 1).trans rfl
  have Q2 := Lib.hid q2
  have Q3 := Lib.hid q3
  have Q4 := Lib.hid q4
  have Q5 := Lib.hid q5
  clear q1 q2 q3 q4 q5 y0 y1 z0 z2 b0 b1
  rw [← HEND.out]
  refine bodyPost_ret (by simp [results, Try.results39, go_sem, ↓IntWalk.iteOmega, *]; try rfl) rfl ⟨_, rfl, Q2.out, F3, Q3.out, Q4.out, Q5.out⟩

set_option maxHeartbeats 2000000 in
theorem tdo0_c (tb cb : Nat) (F : List Nat) (L : List (Key × Line)) (r : Nat) (v : Value) (d : TDeed) (w : World) (hc : TAt w tb cb F L r) (ho : RefAt w v L) (hd : d.ok) (hL : LOk L)
    (hk : d.kind ≠ 1 ∧ d.kind ≠ 2 ∧ d.kind ≠ 3 ∧ d.kind ≠ 4 ∧ d.kind ≠ 5 ∧ d.kind ≠ 6) : Calls Try.prog 39 #[.pointer (some ⟨tb, 0, none⟩), .agg #[v, .int .i64 r], d.val] w (EndDoT tb cb F w d L r) := by
  have HC := Lib.hid hc
  have HO := Lib.hid ho
  have hFlt := Lib.hid hc.2.lt
  obtain ⟨h2, h64⟩ := hc.2.room
  obtain ⟨va, cap, rfl, hn, hm⟩ := ho.1.form
  unfold maxLen at hm
  have hst : stepT d r L = L := by unfold stepT; simp [hk]
  obtain ⟨⟨hp0, hp1⟩, ⟨ha0, ha1⟩, hxo⟩ := hd
  clear hc ho
  generalize hEnd : EndDoT tb cb F w d L r = E
  unfold EndDoT at hEnd
  rw [hst] at hEnd
  have HEND := Aside.mk hEnd
  clear hEnd hst
  obtain ⟨kind, p, pick, a, ⟨xf, xa, xb, xc, xd, xm⟩, ⟨hf, hl, ha, hb', hc', hd'⟩⟩ := d
  dsimp only at hk hp0 hp1 ha0 ha1 HEND
  unfold TDeed.val
  dsimp only
  obtain ⟨k1, k2, k3, k4, k5, k6⟩ := hk
  have e1 : (kind == 1) = false := by simpa using k1
  have e2 : (kind == 2) = false := by simpa using k2
  have e3 : (kind == 3) = false := by simpa using k3
  have e4 : (kind == 4) = false := by simpa using k4
  have e5 : (kind == 5) = false := by simpa using k5
  have e6 : (kind == 6) = false := by simpa using k6
  go_enter Try.func39, Try.ntmps39
  go_upto_region 21 with (fail)
  refine wp_gen ?_; intro W hW
  have hE : Ext w W := by rw [hW]; exact (by repeat (first | exact Ext.refl _ | assumption | refine Ext.alloc ?_ _ | refine Ext.drew ?_ | refine Ext.setCell ?_ (by first | (simp; done) | (dsimp only; omega)) _ | refine Ext.trans ?_ (by assumption)))
  have n0 : W.heap[w.heap.size]? = some (.cells #[.slice va L.length cap, .int .i64 r] 28 (0, 0)) := by rw [hW]; exact (alloc_other _ _ (by simp; omega)).trans ((alloc_other _ _ (by simp)).trans (alloc_same ..))
  have n1 : W.heap[w.heap.size + 1]? = some (.cells #[.int .i64 kind, .int .i64 p, .int .i64 pick, .int .u64 a, .int .u64 xf, .bool xa, .bool xb, .bool xc, .bool xd, .int .u8 xm, .int .u64 hf, .int .i64 hl, .bool ha, .bool hb', .bool hc', .bool hd'] 72 (0, 0)) := by rw [hW]; exact (alloc_other _ _ (by simp)).trans (alloc_same1 ..)
  have n2 : W.heap[w.heap.size + 1 + 1]? = some (.cells #[.slice none 0 0, .int .i64 0] 28 (0, 0)) := by rw [hW]; exact alloc_same2 ..
  have N0 := Lib.hid n0
  have N1 := Lib.hid n1
  have N2 := Lib.hid n2
  have HE := Lib.hid hE
  have HCW := Lib.hid (HC.out.ext hE)
  have HOW := Lib.hid (HO.out.ext hE)
  have hsz : w.heap.size + 1 + 1 < W.heap.size := heap_lt n2
  have x1 := (heap_cell n1 1).trans rfl
  have x2 := (heap_cell n1 2).trans rfl
  have x3 := (heap_cell n1 3).trans rfl
  have x4 := (heap_cell n1 4).trans rfl
  have x5 := (heap_cell n1 5).trans rfl
  have x6 := (heap_cell n1 6).trans rfl
  have x7 := (heap_cell n1 7).trans rfl
  have x8 := (heap_cell n1 8).trans rfl
  have x9 := (heap_cell n1 9).trans rfl
  have x10 := (heap_cell n1 10).trans rfl
  have x11 := (heap_cell n1 11).trans rfl
  have x12 := (heap_cell n1 12).trans rfl
  have x13 := (heap_cell n1 13).trans rfl
  have x14 := (heap_cell n1 14).trans rfl
  have x15 := (heap_cell n1 15).trans rfl
  clear hW hE n0 n1 n2
  clear x1 x2 x3 x4 x5 x6 x7 x8 x9 x10 x11 x12 x13 x14 x15
  have y0 := (heap_cell N0.out 0).trans rfl
  have y1 := (heap_cell N0.out 1).trans rfl
  have b0 := (heap_cell N2.out 0).trans rfl
  have b1 := (heap_cell N2.out 1).trans rfl
  have z0 := frozen_of N2.out
  go_wp2
  refine post_gen (fun w8 => w8.heap[w.heap.size + 1 + 1]? = some (.cells #[.slice va L.length cap, .int .i64 r] 28 (0, 0)) ∧ RefAt w8 (.slice va L.length cap) L ∧ TAt w8 tb cb F L r ∧ Keeps F w w8 ∧ ∀ x ∈ F, x ∈ F ∨ w.heap.size ≤ x)
    (fin_doT (Keeps.of_ext HE.out) (fun x hx => .inl hx) HCW.out HOW.out N2.out (by omega) (Ext.refl _)) ?_
  rintro w8 ⟨q1, q2, q3, q4, q5⟩
  have v0 := (heap_cell q1 0).trans rfl
  have v1 := (heap_cell q1 1).trans rfl
  have Q2 := Lib.hid q2
  have Q3 := Lib.hid q3
  have Q4 := Lib.hid q4
  have Q5 := Lib.hid q5
  clear q1 q2 q3 q4 q5 y0 y1 z0 b0 b1
  rw [← HEND.out]
  refine bodyPost_ret (by simp [results, Try.results39, go_sem, ↓IntWalk.iteOmega, *]; try rfl) rfl ⟨_, rfl, Q2.out, F, Q3.out, Q4.out, Q5.out⟩

theorem tdo_c (tb cb : Nat) (F : List Nat) (L : List (Key × Line)) (r : Nat) (v : Value) (d : TDeed) (w : World) (hc : TAt w tb cb F L r) (ho : RefAt w v L) (hd : d.ok) (hL : LOk L) :
    Calls Try.prog 39 #[.pointer (some ⟨tb, 0, none⟩), .agg #[v, .int .i64 r], d.val] w (EndDoT tb cb F w d L r) := by
  by_cases h1 : d.kind = 1
  · exact tdo1_c tb cb F L r v d w hc ho hd hL h1
  by_cases h2 : d.kind = 2
  · exact tdo2_c tb cb F L r v d w hc ho hd hL h2
  by_cases h3 : d.kind = 3
  · exact tdo3_c tb cb F L r v d w hc ho hd hL h3
  by_cases h4 : d.kind = 4
  · exact tdo4_c tb cb F L r v d w hc ho hd hL h4
  by_cases h5 : d.kind = 5
  · exact tdo5_c tb cb F L r v d w hc ho hd hL h5
  by_cases h6 : d.kind = 6
  · exact tdo6_c tb cb F L r v d w hc ho hd hL h6
  exact tdo0_c tb cb F L r v d w hc ho hd hL ⟨h1, h2, h3, h4, h5, h6⟩
end Go.Proofs.Ytnacgmmkmedpdaa
