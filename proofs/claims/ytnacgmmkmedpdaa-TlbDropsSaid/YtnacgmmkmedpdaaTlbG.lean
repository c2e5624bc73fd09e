/- The document's translations: DropPage. -/
import Derived.Test.YtnacgmmkmedpdaaTlbF
namespace Go.Proofs.Ytnacgmmkmedpdaa
set_option linter.unusedVariables false
set_option linter.unusedSimpArgs false
open Go.RowKit
attribute [local go_sem] wext_cell wext_frozen wext_heap alloc_cell alloc_frozen alloc_heap setCell_cell objCell_cells objFrozen_cells
attribute [local go_sem high] refKey_eql

theorem store2_else {w : World} {b b' : Nat} {v0 v1 : Value} (h : b ≠ b') : ((w.setCell ⟨b, 0, none⟩ v0).setCell ⟨b, 1, none⟩ v1).heap[b']? = w.heap[b']? := by
  rw [setCell_heap _ _ _ _ _ h, setCell_heap _ _ _ _ _ h]

set_option maxHeartbeats 2000000 in
theorem refDropPage_c (L : List (Key × Line)) (v : Value) (r : Nat) (p a : Int) (w : World) (ho : RefAt w v L) (hL : LOk L) (hLr : L.length ≤ r) (hr64 : r ≤ 64) (h0 : 0 ≤ a) (h1 : a ≤ 18446744073709551615) :
    Calls Try.prog 87 #[.agg #[v, .int .i64 r], .int .i64 p, .int .u64 a] w (EndRef (dropPageL p a r L) r w) := by
  have HO := Lib.hid ho
  obtain ⟨va, cap, rfl, hn, hm⟩ := ho.1.form
  unfold maxLen at hm
  have hk2 := fun w => refKeyT_c p 2 a w (.inr (.inl rfl)) h0 h1
  have hk3 := fun w => refKeyT_c p 3 a w (.inr (.inr rfl)) h0 h1
  have hk1 : ∀ w, Calls Try.prog 91 #[.int .i64 p, .int .i64 1, .int .u64 a] w fun e w' => e = .returned (.agg #[.int .i64 p, .int .i64 1, .int .u64 (a / 32768)]) ∧ Ext w w' := fun w => refKeyT_c p 1 a w (.inl rfl) h0 h1
  have hpl := fun w => refPlace_c a w h0 h1
  obtain ⟨hpl0, hpl1⟩ := placeI_lt a h0
  have hd2 := fun w v ho => refDrop_c L (kT p 2 a) v r w ho
  have hd3 := fun w v ho => refDrop_c (delL (kT p 2 a) L) (kT p 3 a) v r w ho
  generalize hres : dropPageL p a r L = D
  unfold dropPageL at hres
  dsimp only at hres
  rw [show kT p 1 a = ⟨p, 1, a / 32768⟩ from rfl] at hres
  have hL2 : LOk (delL (kT p 3 a) (delL (kT p 2 a) L)) := (hL.sub delL_sub).sub delL_sub
  have hlen : (delL (kT p 3 a) (delL (kT p 2 a) L)).length ≤ r := Nat.le_trans delL_sub.length_le (Nat.le_trans delL_sub.length_le hLr)
  generalize kT p 2 a = k2 at *
  generalize kT p 3 a = k3 at *
  generalize delL k2 L = La at *
  generalize delL k3 La = Lb at *
  generalize a / 32768 = ta at *
  have hyo := getLine_ok (k := ⟨p, 1, ta⟩) hL2
  generalize placeI a = pl at *
  have hget := fun w v ho => refGet_c Lb ⟨p, 1, ta⟩ v r w ho
  have hout := fun w => refOut_c (getLine ⟨p, 1, ta⟩ Lb) pl w hyo hpl0 hpl1
  generalize getLine ⟨p, 1, ta⟩ Lb = y at *
  generalize hasK ⟨p, 1, ta⟩ Lb = hy at *
  generalize outL y pl = o at *
  have hput := fun w v ho => refPut_c Lb ⟨p, 1, ta⟩ o 0 v r w ho hlen hr64 (by omega) (by omega)
  have hdel := fun w v ho => refDrop_c Lb ⟨p, 1, ta⟩ v r w ho
  generalize putC ⟨p, 1, ta⟩ o 0 r Lb = LP at *
  generalize delL ⟨p, 1, ta⟩ Lb = LD at *
  obtain ⟨yf, ya, yb, yc, yd, ym⟩ := y
  obtain ⟨of, oa, ob, oc, od, om⟩ := o
  unfold Key.val Line.val at *
  dsimp only at *
  rw [← hres]
  have HK1 := Lib.hid hk1
  have HK2 := Lib.hid hk2
  have HK3 := Lib.hid hk3
  have HPL := Lib.hid hpl
  have HD2 := Lib.hid hd2
  have HD3 := Lib.hid hd3
  have HG := Lib.hid hget
  have HOU := Lib.hid hout
  have HPU := Lib.hid hput
  have HDE := Lib.hid hdel
  clear hk1 hk2 hk3 hpl hd2 hd3 hget hout hput hdel hres hL2 ho hL hyo
  generalize hE : EndRef (if hy = true then if om = 0 then LD else LP else Lb) r w = E
  have HEE := Aside.mk hE
  clear hE
  go_enter Try.func87, Try.ntmps87
  go_upto_region 1 with (fail)
  refine wp_gen ?_; intro W hW
  have W0 : Hid (W.heap[w.heap.size]? = some (.cells #[.slice va L.length cap, .int .i64 r] 28 (0, 0))) := Lib.hid (by rw [hW]; exact (alloc_other _ _ (by simp)).trans (alloc_same ..))
  have W1 : Hid (W.heap[w.heap.size + 1]? = some (.cells #[.slice none 0 0, .int .i64 0] 28 (0, 0))) := Lib.hid (by rw [hW]; exact alloc_same1 ..)
  have WE : Hid (Ext w W) := Lib.hid (by rw [hW]; exact (by repeat (first | exact Ext.refl _ | assumption | refine Ext.alloc ?_ _ | refine Ext.drew ?_ | refine Ext.setCell ?_ (by first | (simp; done) | (dsimp only; omega)) _ | refine Ext.trans ?_ (by assumption))))
  have WR : Hid (RefAt W (.slice va L.length cap) L) := Lib.hid (HO.out.ext WE.out)
  have x0 := (heap_cell W0.out 0).trans rfl
  have x1 := (heap_cell W0.out 1).trans rfl
  have hlW := heap_lt W1.out
  clear hW
  go_upto_region 1 with (fail)
  refine region_mix [.q [0, 1, 2], .l 3 3, .l 4 3, .l 5 2] (by kernel_rfl) (by kernel_rfl) ?_
  (try refine ⟨fun h => absurd h (by simp), ?_⟩); (repeat (unfold wpPlan; simp only [pickL, List.map_cons, List.map_nil, List.getD_cons_succ, List.getD_cons_zero]; (repeat go_big_quiet_step (fail)); refine wpQuiet_nil ?_)); unfold wpPlan; intro p1 hp1; (try simp only [pickL, List.map_cons, List.map_nil, List.getD_cons_succ, List.getD_cons_zero])
  go_wp2_with (first | (go_at_call 91; refine (HK2.out _).mono ?_; rintro e p2 ⟨rfl, hp2⟩))
  refine ⟨?_, ?_⟩
  · (try intro _); exact hp1.trans hp2
  have HP2 := Lib.hid (hp1.trans hp2)
  clear hp1 hp2
  (try refine ⟨fun h => absurd h (by simp), ?_⟩); (repeat (unfold wpPlan; simp only [pickL, List.map_cons, List.map_nil, List.getD_cons_succ, List.getD_cons_zero]; (repeat go_big_quiet_step (fail)); refine wpQuiet_nil ?_)); unfold wpPlan; intro p3 hp3; (try simp only [pickL, List.map_cons, List.map_nil, List.getD_cons_succ, List.getD_cons_zero])
  go_wp2_with (first | (go_at_call 77; refine (HD2.out _ _ ((WR.out.ext HP2.out).ext hp3)).mono ?_; rintro e p4 ⟨v3, rfl, hv3, hp4⟩; obtain ⟨a3, c3, rfl, -, -⟩ := hv3.1.form))
  refine ⟨?_, ?_⟩
  · (try intro _); exact hp3.trans hp4
  have HP4 := Lib.hid (HP2.out.trans (hp3.trans hp4))
  have HV3 := Lib.hid hv3
  clear hp3 hp4 hv3
  (try refine ⟨fun h => absurd h (by simp), ?_⟩); (repeat (unfold wpPlan; simp only [pickL, List.map_cons, List.map_nil, List.getD_cons_succ, List.getD_cons_zero]; (repeat go_big_quiet_step (fail)); refine wpQuiet_nil ?_)); unfold wpPlan; intro p5 hp5; (try simp only [pickL, List.map_cons, List.map_nil, List.getD_cons_succ, List.getD_cons_zero])
  have HP5 := Lib.hid (HP4.out.trans hp5)
  have m0 := (HP5.out.block _ (heap_lt W0.out)).trans W0.out
  have q0 := (heap_cell m0 0).trans rfl
  have q1 := (heap_cell m0 1).trans rfl
  have qf := frozen_of m0
  have M0 := Lib.hid m0
  have HR3 := Lib.hid (HV3.out.ext hp5)
  clear hp5 m0
  go_wp2
  (try refine ⟨fun h => absurd h (by simp), ?_⟩); (repeat (unfold wpPlan; simp only [pickL, List.map_cons, List.map_nil, List.getD_cons_succ, List.getD_cons_zero]; (repeat go_big_quiet_step (fail)); refine wpQuiet_nil ?_)); unfold wpPlan; intro A hp6; (try simp only [pickL, List.map_cons, List.map_nil, List.getD_cons_succ, List.getD_cons_zero])
  have s5 := HP5.out.size
  have A0 : Hid (A.heap[w.heap.size]? = some (.cells #[.slice a3 (La).length c3, .int .i64 r] 28 (0, 0))) := Lib.hid ((hp6.block _ (by simp; exact heap_lt M0.out)).trans (store2_heap M0.out))
  have A1 : Hid (A.heap[w.heap.size + 1]? = some (.cells #[.slice none 0 0, .int .i64 0] 28 (0, 0))) := Lib.hid ((hp6.block _ (by simp; have := heap_lt W1.out; omega)).trans ((store2_else (by omega)).trans ((HP5.out.block _ (heap_lt W1.out)).trans W1.out)))
  have AR : Hid (RefAt A (.slice a3 (La).length c3) (La)) := Lib.hid ((HR3.out.store2 M0.out).ext hp6)
  have AE : Hid (Ext w A) := Lib.hid (((WE.out.trans HP5.out).setCell (by simp) _ |>.setCell (by simp) _).trans hp6)
  clear hp6 q0 q1 qf M0 HP2 HP4 HP5 HV3 HR3 s5 x0 x1
  have x0 := (heap_cell A0.out 0).trans rfl
  have x1 := (heap_cell A0.out 1).trans rfl
  have hlA := heap_lt A1.out
  go_upto_region 2 with (fail)
  refine region_mix [.q [0, 1, 2], .l 3 3, .l 4 3, .l 5 2] (by kernel_rfl) (by kernel_rfl) ?_
  (try refine ⟨fun h => absurd h (by simp), ?_⟩); (repeat (unfold wpPlan; simp only [pickL, List.map_cons, List.map_nil, List.getD_cons_succ, List.getD_cons_zero]; (repeat go_big_quiet_step (fail)); refine wpQuiet_nil ?_)); unfold wpPlan; intro p1 hp1; (try simp only [pickL, List.map_cons, List.map_nil, List.getD_cons_succ, List.getD_cons_zero])
  go_wp2_with (first | (go_at_call 91; refine (HK3.out _).mono ?_; rintro e p2 ⟨rfl, hp2⟩))
  refine ⟨?_, ?_⟩
  · (try intro _); exact hp1.trans hp2
  have HP2 := Lib.hid (hp1.trans hp2)
  clear hp1 hp2
  (try refine ⟨fun h => absurd h (by simp), ?_⟩); (repeat (unfold wpPlan; simp only [pickL, List.map_cons, List.map_nil, List.getD_cons_succ, List.getD_cons_zero]; (repeat go_big_quiet_step (fail)); refine wpQuiet_nil ?_)); unfold wpPlan; intro p3 hp3; (try simp only [pickL, List.map_cons, List.map_nil, List.getD_cons_succ, List.getD_cons_zero])
  go_wp2_with (first | (go_at_call 77; refine (HD3.out _ _ ((AR.out.ext HP2.out).ext hp3)).mono ?_; rintro e p4 ⟨v4, rfl, hv4, hp4⟩; obtain ⟨a4, c4, rfl, -, -⟩ := hv4.1.form))
  refine ⟨?_, ?_⟩
  · (try intro _); exact hp3.trans hp4
  have HP4 := Lib.hid (HP2.out.trans (hp3.trans hp4))
  have HV4 := Lib.hid hv4
  clear hp3 hp4 hv4
  (try refine ⟨fun h => absurd h (by simp), ?_⟩); (repeat (unfold wpPlan; simp only [pickL, List.map_cons, List.map_nil, List.getD_cons_succ, List.getD_cons_zero]; (repeat go_big_quiet_step (fail)); refine wpQuiet_nil ?_)); unfold wpPlan; intro p5 hp5; (try simp only [pickL, List.map_cons, List.map_nil, List.getD_cons_succ, List.getD_cons_zero])
  have HP5 := Lib.hid (HP4.out.trans hp5)
  have m0 := (HP5.out.block _ (heap_lt A0.out)).trans A0.out
  have q0 := (heap_cell m0 0).trans rfl
  have q1 := (heap_cell m0 1).trans rfl
  have qf := frozen_of m0
  have M0 := Lib.hid m0
  have HR4 := Lib.hid (HV4.out.ext hp5)
  clear hp5 m0
  go_wp2
  (try refine ⟨fun h => absurd h (by simp), ?_⟩); (repeat (unfold wpPlan; simp only [pickL, List.map_cons, List.map_nil, List.getD_cons_succ, List.getD_cons_zero]; (repeat go_big_quiet_step (fail)); refine wpQuiet_nil ?_)); unfold wpPlan; intro B hp6; (try simp only [pickL, List.map_cons, List.map_nil, List.getD_cons_succ, List.getD_cons_zero])
  have s5 := HP5.out.size
  have B0 : Hid (B.heap[w.heap.size]? = some (.cells #[.slice a4 (Lb).length c4, .int .i64 r] 28 (0, 0))) := Lib.hid ((hp6.block _ (by simp; exact heap_lt M0.out)).trans (store2_heap M0.out))
  have B1 : Hid (B.heap[w.heap.size + 1]? = some (.cells #[.slice none 0 0, .int .i64 0] 28 (0, 0))) := Lib.hid ((hp6.block _ (by simp; have := heap_lt A1.out; omega)).trans ((store2_else (by omega)).trans ((HP5.out.block _ (heap_lt A1.out)).trans A1.out)))
  have BR : Hid (RefAt B (.slice a4 (Lb).length c4) (Lb)) := Lib.hid ((HR4.out.store2 M0.out).ext hp6)
  have BE : Hid (Ext w B) := Lib.hid (((AE.out.trans HP5.out).setCell (by simp) _ |>.setCell (by simp) _).trans hp6)
  clear hp6 q0 q1 qf M0 HP2 HP4 HP5 HV4 HR4 s5 x0 x1
  have x0 := (heap_cell B0.out 0).trans rfl
  have x1 := (heap_cell B0.out 1).trans rfl
  have hlB := heap_lt B1.out
  go_upto_region 4 with (first | (go_at_call 91; refine (HK1.out _).mono ?_; rintro e w6 ⟨rfl, hb6⟩))
  have hsB := hb6.size
  have m0 := ((hb6.alloc (.cells #[.int .i64 p, .int .i64 1, .int .u64 ta] 52 (0, 0))).block _ (heap_lt B0.out)).trans B0.out
  have x0 := (heap_cell m0 0).trans rfl
  have x1 := (heap_cell m0 1).trans rfl
  go_upto_region 5 with (first | (go_at_call 80; refine (HG.out _ _ (BR.out.ext (hb6.alloc _))).mono ?_; rintro e w7 ⟨rfl, hb7⟩))
  refine wp_gen ?_; intro V hV
  have hs7 := hb7.size
  simp only [World.size_alloc] at hs7
  have EB : Ext B V := by rw [hV]; exact ((hb6.alloc _).trans hb7).alloc _
  have n7 : V.heap[w6.heap.size]? = some (.cells #[.int .i64 p, .int .i64 1, .int .u64 ta] 52 (0, 0)) := by rw [hV]; exact (alloc_other _ _ (by omega)).trans ((hb7.block _ (by simp)).trans (alloc_same ..))
  have n8 : V.heap[w7.heap.size]? = some (.cells #[.int .u64 yf, .bool ya, .bool yb, .bool yc, .bool yd, .int .u8 ym] 56 (0, 0)) := by rw [hV]; exact alloc_same ..
  have hz : B.heap.size ≤ w6.heap.size ∧ w6.heap.size < w7.heap.size := ⟨hsB, by omega⟩
  have hl8 := heap_lt n8
  generalize w6.heap.size = b7 at n7 hz ⊢
  generalize w7.heap.size = b8 at n8 hz hl8 ⊢
  have V0 := Lib.hid ((EB.block _ (heap_lt B0.out)).trans B0.out)
  have V1 := Lib.hid ((EB.block _ (heap_lt B1.out)).trans B1.out)
  have VR := Lib.hid (BR.out.ext EB)
  have VE := Lib.hid (BE.out.trans EB)
  have hl1 := heap_lt V1.out
  have N7 := Lib.hid n7
  have N8 := Lib.hid n8
  clear hV hb6 hb7 m0 x0 x1 n7 n8
  have x0 := (heap_cell V0.out 0).trans rfl
  have x1 := (heap_cell V0.out 1).trans rfl
  cases hy
  · have y0 := (heap_cell V1.out 0).trans rfl
    have y1 := (heap_cell V1.out 1).trans rfl
    have yf' := frozen_of V1.out
    go_wp2
    refine post_gen (fun U => U.heap[w.heap.size + 1]? = some (.cells #[.slice a4 Lb.length c4, .int .i64 r] 28 (0, 0)) ∧ RefAt U (.slice a4 Lb.length c4) Lb ∧ Ext w U) ⟨store2_heap V1.out, VR.out.store2 V1.out, VE.out.setCell (by simp) _ |>.setCell (by simp) _⟩ ?_
    rintro U ⟨m5, o5, E5⟩
    have v0 := (heap_cell m5 0).trans rfl
    have v1 := (heap_cell m5 1).trans rfl
    have O5 := Lib.hid o5
    clear m5 o5 x0 x1 y0 y1 yf'
    rw [← HEE.out]
    refine bodyPost_ret (by simp [results, Try.results87, go_sem, ↓IntWalk.iteOmega, *]; try rfl) rfl ⟨_, rfl, O5.out, E5⟩
  · have y0 := (heap_cell N8.out 0).trans rfl
    have y1 := (heap_cell N8.out 1).trans rfl
    have y2 := (heap_cell N8.out 2).trans rfl
    have y3 := (heap_cell N8.out 3).trans rfl
    have y4 := (heap_cell N8.out 4).trans rfl
    have y5 := (heap_cell N8.out 5).trans rfl
    go_upto_region 7 with (fail)
    refine region_mixA 4 (.cells #[.int .u64 0, .bool false, .bool false, .bool false, .bool false, .int .u8 0] 56 (0, 0)) [.q [0, 1], .l 2 5, .l 3 5, .l 4 4, .l 5 2] (by kernel_rfl) (by kernel_rfl) (alloc_runA rfl (by kernel_rfl : _ = some (some (Value.agg (#[.int .u64 0, .bool false, .bool false, .bool false, .bool false, .int .u8 0])))) rfl) ?_
    (repeat (unfold wpPlanA; simp only [pickL, List.map_cons, List.map_nil, List.getD_cons_succ, List.getD_cons_zero]; (repeat go_big_quiet_step (fail)); refine wpQuiet_nil ?_)); unfold wpPlanA; intro p1 hp1; (try simp only [pickL, List.map_cons, List.map_nil, List.getD_cons_succ, List.getD_cons_zero])
    go_wp2_with (first | (go_at_call 93; refine (HPL.out _).mono ?_; rintro e p2 ⟨rfl, hp2⟩))
    have s1 := hp1.size
    have s2 := hp2.size
    refine ⟨⟨by omega, fun _ => hp2, fun h => absurd h (by omega)⟩, ?_⟩
    have HP2 := Lib.hid (hp1.trans hp2)
    clear hp1 hp2
    (repeat (unfold wpPlanA; simp only [pickL, List.map_cons, List.map_nil, List.getD_cons_succ, List.getD_cons_zero]; (repeat go_big_quiet_step (fail)); refine wpQuiet_nil ?_)); unfold wpPlanA; intro p3 hp3; (try simp only [pickL, List.map_cons, List.map_nil, List.getD_cons_succ, List.getD_cons_zero])
    go_wp2_with (first | (go_at_call 119; refine (HOU.out _).mono ?_; rintro e p4 ⟨rfl, hp4⟩))
    have s3 := hp3.size
    have s4 := hp4.size
    refine ⟨⟨by omega, fun _ => hp4, fun h => absurd h (by omega)⟩, ?_⟩
    have HP4 := Lib.hid (HP2.out.trans (hp3.trans hp4))
    clear hp3 hp4
    (repeat (unfold wpPlanA; simp only [pickL, List.map_cons, List.map_nil, List.getD_cons_succ, List.getD_cons_zero]; (repeat go_big_quiet_step (fail)); refine wpQuiet_nil ?_)); unfold wpPlanA; intro b p6 hp6 hp6B hp6O; simp only [List.getD_cons_succ, List.getD_cons_zero, ptrTo]; simp only [Act.put, Array.set!_eq_setIfInBounds, List.setIfInBounds_toArray, List.set_cons_succ, List.set_cons_zero]
    have HP6 := Lib.hid (HP4.out.trans hp6)
    have O6 := Lib.hid hp6O
    have hlb := heap_lt hp6O
    have s6 := hp6.size
    clear hp6 hp6O
    (repeat (unfold wpPlanA; simp only [pickL, List.map_cons, List.map_nil, List.getD_cons_succ, List.getD_cons_zero]; (repeat go_big_quiet_step (fail)); refine wpQuiet_nil ?_)); unfold wpPlanA; intro p7 hp7; (try simp only [pickL, List.map_cons, List.map_nil, List.getD_cons_succ, List.getD_cons_zero])
    have b7' := (hp7.block b hlb).trans O6.out
    have g0 := (heap_cell b7' 0).trans rfl
    have g1 := (heap_cell b7' 1).trans rfl
    have g2 := (heap_cell b7' 2).trans rfl
    have g3 := (heap_cell b7' 3).trans rfl
    have g4 := (heap_cell b7' 4).trans rfl
    have g5 := (heap_cell b7' 5).trans rfl
    have g6 := frozen_of b7'
    have B7' := Lib.hid b7'
    have HP7 := Lib.hid (HP6.out.trans hp7)
    have s7 := HP7.out.size
    have s67 := hp7.size
    clear b7' hp7
    go_wp2
    refine ⟨⟨by simp; omega, fun h => absurd h (by omega), fun h => absurd h (by omega)⟩, ?_⟩
    (repeat (unfold wpPlanA; simp only [pickL, List.map_cons, List.map_nil, List.getD_cons_succ, List.getD_cons_zero]; (repeat go_big_quiet_step (fail)); refine wpQuiet_nil ?_)); unfold wpPlanA; intro p9 hp9; (try simp only [pickL, List.map_cons, List.map_nil, List.getD_cons_succ, List.getD_cons_zero])
    have s9 := hp9.size
    simp only [World.size_setCell] at s9
    have E9 : Ext V p9 := (ext6 HP7.out hp6B).trans hp9
    have b9 := (hp9.block b (by simp; omega)).trans (store6_heap B7'.out)
    have P0 := Lib.hid ((E9.block _ (heap_lt V0.out)).trans V0.out)
    have P1 := Lib.hid ((E9.block _ (heap_lt V1.out)).trans V1.out)
    have P7 := Lib.hid ((E9.block _ (by omega)).trans N7.out)
    have PR := Lib.hid (VR.out.ext E9)
    have PE := Lib.hid (VE.out.trans E9)
    have hlp := heap_lt P1.out
    clear x0 x1
    have x0 := (heap_cell P0.out 0).trans rfl
    have x1 := (heap_cell P0.out 1).trans rfl
    have k0 := (heap_cell P7.out 0).trans rfl
    have k1 := (heap_cell P7.out 1).trans rfl
    have k2' := (heap_cell P7.out 2).trans rfl
    have i0 := (heap_cell b9 0).trans rfl
    have i1 := (heap_cell b9 1).trans rfl
    have i2 := (heap_cell b9 2).trans rfl
    have i3 := (heap_cell b9 3).trans rfl
    have i4 := (heap_cell b9 4).trans rfl
    have i5 := (heap_cell b9 5).trans rfl
    clear hp9 E9 b9 g0 g1 g2 g3 g4 g5 g6 y0 y1 y2 y3 y4 y5
    by_cases hom : om = 0
    · have hob : (om == 0) = true := by simpa using hom
      go_wp2_with (first | (go_at_call 77; refine (HDE.out _ _ (PR.out.ext (by repeat (first | exact Ext.refl _ | assumption | refine Ext.alloc ?_ _ | refine Ext.drew ?_ | refine Ext.setCell ?_ (by first | (simp; done) | (dsimp only; omega)) _ | refine Ext.trans ?_ (by assumption))))).mono ?_; rintro e z4 ⟨v9, rfl, hv9, hz4⟩; obtain ⟨a9, c9, rfl, -, -⟩ := hv9.1.form; have HV9 := Lib.hid hv9; have HZ4 := Lib.hid hz4; have Z1 := Lib.hid ((hz4.block _ hlp).trans P1.out); have y0 := (heap_cell Z1.out 0).trans rfl; have y1 := (heap_cell Z1.out 1).trans rfl; have y6 := frozen_of Z1.out; have hlz := heap_lt Z1.out; clear hv9 hz4))
      refine post_gen (fun U => U.heap[w.heap.size + 1]? = some (.cells #[.slice a9 LD.length c9, .int .i64 r] 28 (0, 0)) ∧ RefAt U (.slice a9 LD.length c9) LD ∧ Ext w U) ⟨store2_heap Z1.out, HV9.out.store2 Z1.out, (PE.out.trans HZ4.out).setCell (by simp) _ |>.setCell (by simp) _⟩ ?_
      rintro U ⟨m5, o5, E5⟩
      have v0 := (heap_cell m5 0).trans rfl
      have v1 := (heap_cell m5 1).trans rfl
      have O5 := Lib.hid o5
      clear m5 o5 x0 x1 y0 y1 y6 k0 k1 k2' i0 i1 i2 i3 i4 i5
      rw [← HEE.out, if_pos trivial, if_pos hom]
      refine bodyPost_ret (by simp [results, Try.results87, go_sem, ↓IntWalk.iteOmega, *]; try rfl) rfl ⟨_, rfl, O5.out, E5⟩
    · have hob : (om == 0) = false := by simpa using hom
      go_wp2_with (first | (go_at_call 76; refine (HPU.out _ _ (PR.out.ext (by repeat (first | exact Ext.refl _ | assumption | refine Ext.alloc ?_ _ | refine Ext.drew ?_ | refine Ext.setCell ?_ (by first | (simp; done) | (dsimp only; omega)) _ | refine Ext.trans ?_ (by assumption))))).mono ?_; rintro e z4 ⟨v9, rfl, hv9, hz4⟩; obtain ⟨a9, c9, rfl, -, -⟩ := hv9.1.form; have HV9 := Lib.hid hv9; have HZ4 := Lib.hid hz4; have Z1 := Lib.hid ((hz4.block _ hlp).trans P1.out); have y0 := (heap_cell Z1.out 0).trans rfl; have y1 := (heap_cell Z1.out 1).trans rfl; have y6 := frozen_of Z1.out; have hlz := heap_lt Z1.out; clear hv9 hz4))
      refine post_gen (fun U => U.heap[w.heap.size + 1]? = some (.cells #[.slice a9 LP.length c9, .int .i64 r] 28 (0, 0)) ∧ RefAt U (.slice a9 LP.length c9) LP ∧ Ext w U) ⟨store2_heap Z1.out, HV9.out.store2 Z1.out, (PE.out.trans HZ4.out).setCell (by simp) _ |>.setCell (by simp) _⟩ ?_
      rintro U ⟨m5, o5, E5⟩
      have v0 := (heap_cell m5 0).trans rfl
      have v1 := (heap_cell m5 1).trans rfl
      have O5 := Lib.hid o5
      clear m5 o5 x0 x1 y0 y1 y6 k0 k1 k2' i0 i1 i2 i3 i4 i5
      rw [← HEE.out, if_pos trivial, if_neg hom]
      refine bodyPost_ret (by simp [results, Try.results87, go_sem, ↓IntWalk.iteOmega, *]; try rfl) rfl ⟨_, rfl, O5.out, E5⟩
end Go.Proofs.Ytnacgmmkmedpdaa
