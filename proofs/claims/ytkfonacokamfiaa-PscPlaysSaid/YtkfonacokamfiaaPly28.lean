/- Joined texts, part 28 of what the law stands on: each as its own head says. -/
import Derived.Test.YtkfonacokamfiaaPly27
import Derived.Test.YtkfonacokamfiaaPly9
/- The document's caches of tables: DropPage, DropOf, Clear, Evict. Printed by mkpscv.py. Own text. -/
namespace Go.Proofs.Ytkfonacokamfiaa
set_option linter.unusedVariables false
set_option linter.unusedSimpArgs false
open Go.RowKit
attribute [local go_sem] wext_cell wext_frozen wext_heap alloc_cell alloc_frozen alloc_heap setCell_cell objCell_cells objFrozen_cells

set_option maxHeartbeats 2000000 in
set_option maxRecDepth 20000 in
theorem rpDropPage_c (sa : Int → Option Addr) (sc : Int → Nat) (C : Int → Lines) (r : Nat) (p a : Int) (w : World) (h : RpAt w sa sc C) (h0 : 0 ≤ a) (h1 : a ≤ 18446744073709551615) :
    Calls Try.prog 21 #[.agg #[.slice (sa 4) (C 4).length (sc 4), .int .i64 r, .slice (sa 3) (C 3).length (sc 3), .int .i64 r, .slice (sa 2) (C 2).length (sc 2), .int .i64 r], .int .i64 p, .int .u64 a] w (EndRp (eachP (fun l L => delL (kP p l a) L) C) r w) := by
  have H := Lib.hid h
  obtain ⟨f, hf⟩ : ∃ f : Int → Lines → Lines, (fun l L => delL (kP p l a) L) = f := ⟨_, rfl⟩
  rw [hf]
  have HF := Lib.hid hf
  generalize hE : EndRp (eachP f C) r w = E
  have HE := Lib.hid hE
  clear hE h hf
  go_enter Try.func21, Try.ntmps21
  go_upto_region 1 with (fail)
  refine wp_gen ?_; intro V hV
  have hVE : Ext w V := by rw [hV]; exact (by repeat (first | exact Ext.refl _ | assumption | refine Ext.alloc ?_ _ | refine Ext.drew ?_ | refine Ext.setCell ?_ (by first | (simp; done) | (dsimp only; omega)) _ | refine Ext.trans ?_ (by assumption)))
  have hV0 : V.heap[w.heap.size]? = some (.cells #[.slice (sa 4) (C 4).length (sc 4), .int .i64 r, .slice (sa 3) (C 3).length (sc 3), .int .i64 r, .slice (sa 2) (C 2).length (sc 2), .int .i64 r] 31 (0, 0)) := by rw [hV]; exact (alloc_other _ _ (by simp)).trans (alloc_same ..)
  have hV1 : V.heap[w.heap.size + 1]? = some (.cells #[.slice none 0 0, .int .i64 0, .slice none 0 0, .int .i64 0, .slice none 0 0, .int .i64 0] 31 (0, 0)) := by rw [hV]; exact alloc_same1 ..
  obtain ⟨vb, hvb⟩ : ∃ vb, w.heap.size = vb := ⟨_, rfl⟩
  rw [hvb] at hV0 hV1 ⊢
  have hwv : w.heap.size ≤ vb := by omega
  have VE := Lib.hid hVE
  have V0 := Lib.hid hV0
  have V1 := Lib.hid hV1
  clear hV hVE hV0 hV1 hvb
  go_wp2
  go_loopw [7] (fun iv wr => ∃ (k : Nat) (sa' : Int → Option Addr) (sc' : Int → Nat), k ≤ 3 ∧ iv = .int .i64 k ∧ Hid (RcAt wr vb sa' sc' (downP f C k) r ∧ wr.heap[vb + 1]? = some (.cells #[.slice none 0 0, .int .i64 0, .slice none 0 0, .int .i64 0, .slice none 0 0, .int .i64 0] 31 (0, 0)) ∧ Ext w wr)) (fun iv _ => 3 - (intOf iv).toNat)
  case atStart => exact ⟨0, sa, sc, by omega, rfl, Lib.hid ⟨by rw [down_zero]; exact ⟨V0.out, H.out.ext VE.out⟩, V1.out, VE.out⟩⟩
  case round =>
    obtain ⟨k, sa', sc', hk, rfl, hR⟩ := hrel
    have hRc := hR.out.1
    have ZB := Lib.hid hR.out.2.1
    have EB := Lib.hid hR.out.2.2
    obtain ⟨D, hD⟩ : ∃ D, downP f C k = D := ⟨_, rfl⟩
    rw [hD] at hRc
    have hat := down_at f C k
    have hst := down_step f C k
    rw [hD] at hat hst
    have HD := Lib.hid hD
    clear hD hR
    obtain ⟨a4, ha4⟩ : ∃ a4, sa' 4 = a4 := ⟨_, rfl⟩
    obtain ⟨a3, ha3⟩ : ∃ a3, sa' 3 = a3 := ⟨_, rfl⟩
    obtain ⟨a2, ha2⟩ : ∃ a2, sa' 2 = a2 := ⟨_, rfl⟩
    obtain ⟨c4, hc4⟩ : ∃ c4, sc' 4 = c4 := ⟨_, rfl⟩
    obtain ⟨c3, hc3⟩ : ∃ c3, sc' 3 = c3 := ⟨_, rfl⟩
    obtain ⟨c2, hc2⟩ : ∃ c2, sc' 2 = c2 := ⟨_, rfl⟩
    obtain ⟨n4, hn4⟩ : ∃ n4, (D 4).length = n4 := ⟨_, rfl⟩
    obtain ⟨n3, hn3⟩ : ∃ n3, (D 3).length = n3 := ⟨_, rfl⟩
    obtain ⟨n2, hn2⟩ : ∃ n2, (D 2).length = n2 := ⟨_, rfl⟩
    have hpb := hRc.1
    rw [ha4, hc4, hn4, ha3, hc3, hn3, ha2, hc2, hn2] at hpb
    have PB := Lib.hid hpb
    have RC := Lib.hid hRc
    have HQ : Hid (sa' 4 = a4 ∧ sc' 4 = c4 ∧ (D 4).length = n4 ∧ sa' 3 = a3 ∧ sc' 3 = c3 ∧ (D 3).length = n3 ∧ sa' 2 = a2 ∧ sc' 2 = c2 ∧ (D 2).length = n2) := Lib.hid ⟨ha4, hc4, hn4, ha3, hc3, hn3, ha2, hc2, hn2⟩
    clear ha4 ha3 ha2 hc4 hc3 hc2 hn4 hn3 hn2 hpb hRc
    have x0 := (heap_cell PB.out 0).trans rfl
    have x1 := (heap_cell PB.out 1).trans rfl
    have x2 := (heap_cell PB.out 2).trans rfl
    have x3 := (heap_cell PB.out 3).trans rfl
    have x4 := (heap_cell PB.out 4).trans rfl
    have x5 := (heap_cell PB.out 5).trans rfl
    have xf := frozen_of PB.out
    have xl := heap_lt PB.out
    by_cases hlt : k < 3
    · have hk3 : k = 0 ∨ k = 1 ∨ k = 2 := by omega
      rcases hk3 with rfl | rfl | rfl
      · have hat4 : D 4 = C 4 := by simpa using hat
        have hst4 : upd D 4 (f 4 (C 4)) = downP f C 1 := by simpa using hst
        have HST := Lib.hid hst4
        have HAT := Lib.hid hat4
        clear hat hst hat4 hst4
        have RL : Hid (∀ w', Ext wr w' → RefAt w' (.slice a4 n4 c4) (C 4)) := Lib.hid (fun w' k => by
          have := RC.out.2.ext k 4 (by omega) (by omega)
          obtain ⟨e1, e2, e3, e4, e5, e6, e7, e8, e9⟩ := HQ.out
          simp only [e1, e2, e3, e4, e5, e6, e7, e8, e9] at this; rw [HAT.out] at this; exact this)
        have HK := Lib.hid (fun w => rpKey_c p 4 a w (by omega) h0 h1)
        have HOp := Lib.hid (fun w h => refDrop_c (C 4) (kP p 4 a) (.slice a4 n4 c4) r w h)
        have HFL : Hid (delL (kP p 4 a) (C 4) = f 4 (C 4)) := Lib.hid (by rw [← HF.out])
        rw [HFL.out] at HOp
        generalize kP p 4 a = kk at HK HOp
        unfold Key.val at HK HOp
        generalize f 4 (C 4) = LP at HOp HST
        go_upto_region 4 with (fail)
        refine region_mixG [.q [0, 1, 2, 3, 4, 5, 6, 7, 8, 11], .l 9 3, .l 10 3, .q [12], .l 13 2] (by kernel_rfl) (by kernel_rfl) ?_
        (try refine ⟨fun h => absurd h (by simp), ?_⟩); (repeat (unfold wpPlan; simp only [pickL, List.map_cons, List.map_nil, List.getD_cons_succ, List.getD_cons_zero]; (repeat go_big_quiet_step (fail)); refine wpQuiet_nil ?_)); unfold wpPlan; intro w1 hb1; (try simp only [pickL, List.map_cons, List.map_nil, List.getD_cons_succ, List.getD_cons_zero])
        go_wp2_with (first | (go_at_call 32; refine (HK.out _).mono ?_; rintro e w2 ⟨rfl, hb2⟩))
        refine ⟨?_, ?_⟩
        · (try intro _); exact hb1.trans hb2
        have E2 := Lib.hid (hb1.trans hb2)
        clear hb1 hb2 x0 x1 x2 x3 x4 x5 xf xl
        (try refine ⟨fun h => absurd h (by simp), ?_⟩); (repeat (unfold wpPlan; simp only [pickL, List.map_cons, List.map_nil, List.getD_cons_succ, List.getD_cons_zero]; (repeat go_big_quiet_step (fail)); refine wpQuiet_nil ?_)); unfold wpPlan; intro w3 hb3; (try simp only [pickL, List.map_cons, List.map_nil, List.getD_cons_succ, List.getD_cons_zero])
        go_wp2_with (first | (go_at_call 53; refine (HOp.out _ (RL.out _ (E2.out.trans hb3))).mono ?_; rintro e w4 hEa; obtain ⟨ax, cx, rfl, hrx, hba⟩ := hEa.form))
        refine ⟨?_, ?_⟩
        · (try intro _); exact hb3.trans hba
        have E4 := Lib.hid (E2.out.trans (hb3.trans hba))
        have HRx := Lib.hid hrx
        clear hb3 hba hrx hEa
        (try refine ⟨fun h => absurd h (by simp), ?_⟩); (repeat (unfold wpPlan; simp only [pickL, List.map_cons, List.map_nil, List.getD_cons_succ, List.getD_cons_zero]; (repeat go_big_quiet_step (fail)); refine wpQuiet_nil ?_)); unfold wpPlan; intro w5 hb5; (try simp only [pickL, List.map_cons, List.map_nil, List.getD_cons_succ, List.getD_cons_zero])
        have E5 := Lib.hid (E4.out.trans hb5)
        have HR5 := Lib.hid (RefAt.ext HRx.out hb5)
        clear hb5
        have hUb := (E5.out.block _ (heap_lt PB.out)).trans PB.out
        have x0 := (heap_cell hUb 0).trans rfl
        have x1 := (heap_cell hUb 1).trans rfl
        have xf := frozen_of hUb
        have xl := heap_lt hUb
        clear hUb
        go_wp2
        (try refine ⟨fun h => absurd h (by simp), ?_⟩); (repeat (unfold wpPlan; simp only [pickL, List.map_cons, List.map_nil, List.getD_cons_succ, List.getD_cons_zero]; (repeat go_big_quiet_step (fail)); refine wpQuiet_nil ?_)); unfold wpPlan; intro w6 hb6; (try simp only [pickL, List.map_cons, List.map_nil, List.getD_cons_succ, List.getD_cons_zero])
        have H6 := Lib.hid hb6
        clear hb6 x0 x1 xf xl
        go_wp2
        refine ⟨⟨1, upd sa' 4 ax, upd sc' 4 cx, by omega, by go_num, Lib.hid ⟨?_, ?_, (Ext.setCell (Ext.setCell (EB.out.trans E5.out) hwv _) hwv _).trans H6.out⟩⟩, by simp [intOf]⟩
        · rw [← HST.out]; exact ((RC.out.ext E5.out).put (l := 4) (o := 0) (by simp) HR5.out).ext H6.out
        · exact (H6.out.block _ (by simp only [World.size_setCell]; exact heap_lt ((E5.out.block _ (heap_lt ZB.out)).trans ZB.out))).trans ((setCell_heap _ _ _ _ _ (by omega)).trans ((setCell_heap _ _ _ _ _ (by omega)).trans ((E5.out.block _ (heap_lt ZB.out)).trans ZB.out)))
      · have hat3 : D 3 = C 3 := by simpa using hat
        have hst3 : upd D 3 (f 3 (C 3)) = downP f C 2 := by simpa using hst
        have HST := Lib.hid hst3
        have HAT := Lib.hid hat3
        clear hat hst hat3 hst3
        have RL : Hid (∀ w', Ext wr w' → RefAt w' (.slice a3 n3 c3) (C 3)) := Lib.hid (fun w' k => by
          have := RC.out.2.ext k 3 (by omega) (by omega)
          obtain ⟨e1, e2, e3, e4, e5, e6, e7, e8, e9⟩ := HQ.out
          simp only [e1, e2, e3, e4, e5, e6, e7, e8, e9] at this; rw [HAT.out] at this; exact this)
        have HK := Lib.hid (fun w => rpKey_c p 3 a w (by omega) h0 h1)
        have HOp := Lib.hid (fun w h => refDrop_c (C 3) (kP p 3 a) (.slice a3 n3 c3) r w h)
        have HFL : Hid (delL (kP p 3 a) (C 3) = f 3 (C 3)) := Lib.hid (by rw [← HF.out])
        rw [HFL.out] at HOp
        generalize kP p 3 a = kk at HK HOp
        unfold Key.val at HK HOp
        generalize f 3 (C 3) = LP at HOp HST
        go_upto_region 4 with (fail)
        refine region_mixG [.q [0, 1, 2, 3, 4, 5, 6, 7, 8, 11], .l 9 3, .l 10 3, .q [12], .l 13 2] (by kernel_rfl) (by kernel_rfl) ?_
        (try refine ⟨fun h => absurd h (by simp), ?_⟩); (repeat (unfold wpPlan; simp only [pickL, List.map_cons, List.map_nil, List.getD_cons_succ, List.getD_cons_zero]; (repeat go_big_quiet_step (fail)); refine wpQuiet_nil ?_)); unfold wpPlan; intro w1 hb1; (try simp only [pickL, List.map_cons, List.map_nil, List.getD_cons_succ, List.getD_cons_zero])
        go_wp2_with (first | (go_at_call 32; refine (HK.out _).mono ?_; rintro e w2 ⟨rfl, hb2⟩))
        refine ⟨?_, ?_⟩
        · (try intro _); exact hb1.trans hb2
        have E2 := Lib.hid (hb1.trans hb2)
        clear hb1 hb2 x0 x1 x2 x3 x4 x5 xf xl
        (try refine ⟨fun h => absurd h (by simp), ?_⟩); (repeat (unfold wpPlan; simp only [pickL, List.map_cons, List.map_nil, List.getD_cons_succ, List.getD_cons_zero]; (repeat go_big_quiet_step (fail)); refine wpQuiet_nil ?_)); unfold wpPlan; intro w3 hb3; (try simp only [pickL, List.map_cons, List.map_nil, List.getD_cons_succ, List.getD_cons_zero])
        go_wp2_with (first | (go_at_call 53; refine (HOp.out _ (RL.out _ (E2.out.trans hb3))).mono ?_; rintro e w4 hEa; obtain ⟨ax, cx, rfl, hrx, hba⟩ := hEa.form))
        refine ⟨?_, ?_⟩
        · (try intro _); exact hb3.trans hba
        have E4 := Lib.hid (E2.out.trans (hb3.trans hba))
        have HRx := Lib.hid hrx
        clear hb3 hba hrx hEa
        (try refine ⟨fun h => absurd h (by simp), ?_⟩); (repeat (unfold wpPlan; simp only [pickL, List.map_cons, List.map_nil, List.getD_cons_succ, List.getD_cons_zero]; (repeat go_big_quiet_step (fail)); refine wpQuiet_nil ?_)); unfold wpPlan; intro w5 hb5; (try simp only [pickL, List.map_cons, List.map_nil, List.getD_cons_succ, List.getD_cons_zero])
        have E5 := Lib.hid (E4.out.trans hb5)
        have HR5 := Lib.hid (RefAt.ext HRx.out hb5)
        clear hb5
        have hUb := (E5.out.block _ (heap_lt PB.out)).trans PB.out
        have x2 := (heap_cell hUb 2).trans rfl
        have x3 := (heap_cell hUb 3).trans rfl
        have xf := frozen_of hUb
        have xl := heap_lt hUb
        clear hUb
        go_wp2
        (try refine ⟨fun h => absurd h (by simp), ?_⟩); (repeat (unfold wpPlan; simp only [pickL, List.map_cons, List.map_nil, List.getD_cons_succ, List.getD_cons_zero]; (repeat go_big_quiet_step (fail)); refine wpQuiet_nil ?_)); unfold wpPlan; intro w6 hb6; (try simp only [pickL, List.map_cons, List.map_nil, List.getD_cons_succ, List.getD_cons_zero])
        have H6 := Lib.hid hb6
        clear hb6 x2 x3 xf xl
        go_wp2
        refine ⟨⟨2, upd sa' 3 ax, upd sc' 3 cx, by omega, by go_num, Lib.hid ⟨?_, ?_, (Ext.setCell (Ext.setCell (EB.out.trans E5.out) hwv _) hwv _).trans H6.out⟩⟩, by simp [intOf]⟩
        · rw [← HST.out]; exact ((RC.out.ext E5.out).put (l := 3) (o := 2) (by simp) HR5.out).ext H6.out
        · exact (H6.out.block _ (by simp only [World.size_setCell]; exact heap_lt ((E5.out.block _ (heap_lt ZB.out)).trans ZB.out))).trans ((setCell_heap _ _ _ _ _ (by omega)).trans ((setCell_heap _ _ _ _ _ (by omega)).trans ((E5.out.block _ (heap_lt ZB.out)).trans ZB.out)))
      · have hat2 : D 2 = C 2 := by simpa using hat
        have hst2 : upd D 2 (f 2 (C 2)) = downP f C 3 := by simpa using hst
        have HST := Lib.hid hst2
        have HAT := Lib.hid hat2
        clear hat hst hat2 hst2
        have RL : Hid (∀ w', Ext wr w' → RefAt w' (.slice a2 n2 c2) (C 2)) := Lib.hid (fun w' k => by
          have := RC.out.2.ext k 2 (by omega) (by omega)
          obtain ⟨e1, e2, e3, e4, e5, e6, e7, e8, e9⟩ := HQ.out
          simp only [e1, e2, e3, e4, e5, e6, e7, e8, e9] at this; rw [HAT.out] at this; exact this)
        have HK := Lib.hid (fun w => rpKey_c p 2 a w (by omega) h0 h1)
        have HOp := Lib.hid (fun w h => refDrop_c (C 2) (kP p 2 a) (.slice a2 n2 c2) r w h)
        have HFL : Hid (delL (kP p 2 a) (C 2) = f 2 (C 2)) := Lib.hid (by rw [← HF.out])
        rw [HFL.out] at HOp
        generalize kP p 2 a = kk at HK HOp
        unfold Key.val at HK HOp
        generalize f 2 (C 2) = LP at HOp HST
        go_upto_region 4 with (fail)
        refine region_mixG [.q [0, 1, 2, 3, 4, 5, 6, 7, 8, 11], .l 9 3, .l 10 3, .q [12], .l 13 2] (by kernel_rfl) (by kernel_rfl) ?_
        (try refine ⟨fun h => absurd h (by simp), ?_⟩); (repeat (unfold wpPlan; simp only [pickL, List.map_cons, List.map_nil, List.getD_cons_succ, List.getD_cons_zero]; (repeat go_big_quiet_step (fail)); refine wpQuiet_nil ?_)); unfold wpPlan; intro w1 hb1; (try simp only [pickL, List.map_cons, List.map_nil, List.getD_cons_succ, List.getD_cons_zero])
        go_wp2_with (first | (go_at_call 32; refine (HK.out _).mono ?_; rintro e w2 ⟨rfl, hb2⟩))
        refine ⟨?_, ?_⟩
        · (try intro _); exact hb1.trans hb2
        have E2 := Lib.hid (hb1.trans hb2)
        clear hb1 hb2 x0 x1 x2 x3 x4 x5 xf xl
        (try refine ⟨fun h => absurd h (by simp), ?_⟩); (repeat (unfold wpPlan; simp only [pickL, List.map_cons, List.map_nil, List.getD_cons_succ, List.getD_cons_zero]; (repeat go_big_quiet_step (fail)); refine wpQuiet_nil ?_)); unfold wpPlan; intro w3 hb3; (try simp only [pickL, List.map_cons, List.map_nil, List.getD_cons_succ, List.getD_cons_zero])
        go_wp2_with (first | (go_at_call 53; refine (HOp.out _ (RL.out _ (E2.out.trans hb3))).mono ?_; rintro e w4 hEa; obtain ⟨ax, cx, rfl, hrx, hba⟩ := hEa.form))
        refine ⟨?_, ?_⟩
        · (try intro _); exact hb3.trans hba
        have E4 := Lib.hid (E2.out.trans (hb3.trans hba))
        have HRx := Lib.hid hrx
        clear hb3 hba hrx hEa
        (try refine ⟨fun h => absurd h (by simp), ?_⟩); (repeat (unfold wpPlan; simp only [pickL, List.map_cons, List.map_nil, List.getD_cons_succ, List.getD_cons_zero]; (repeat go_big_quiet_step (fail)); refine wpQuiet_nil ?_)); unfold wpPlan; intro w5 hb5; (try simp only [pickL, List.map_cons, List.map_nil, List.getD_cons_succ, List.getD_cons_zero])
        have E5 := Lib.hid (E4.out.trans hb5)
        have HR5 := Lib.hid (RefAt.ext HRx.out hb5)
        clear hb5
        have hUb := (E5.out.block _ (heap_lt PB.out)).trans PB.out
        have x4 := (heap_cell hUb 4).trans rfl
        have x5 := (heap_cell hUb 5).trans rfl
        have xf := frozen_of hUb
        have xl := heap_lt hUb
        clear hUb
        go_wp2
        (try refine ⟨fun h => absurd h (by simp), ?_⟩); (repeat (unfold wpPlan; simp only [pickL, List.map_cons, List.map_nil, List.getD_cons_succ, List.getD_cons_zero]; (repeat go_big_quiet_step (fail)); refine wpQuiet_nil ?_)); unfold wpPlan; intro w6 hb6; (try simp only [pickL, List.map_cons, List.map_nil, List.getD_cons_succ, List.getD_cons_zero])
        have H6 := Lib.hid hb6
        clear hb6 x4 x5 xf xl
        go_wp2
        refine ⟨⟨3, upd sa' 2 ax, upd sc' 2 cx, by omega, by go_num, Lib.hid ⟨?_, ?_, (Ext.setCell (Ext.setCell (EB.out.trans E5.out) hwv _) hwv _).trans H6.out⟩⟩, by simp [intOf]⟩
        · rw [← HST.out]; exact ((RC.out.ext E5.out).put (l := 2) (o := 4) (by simp) HR5.out).ext H6.out
        · exact (H6.out.block _ (by simp only [World.size_setCell]; exact heap_lt ((E5.out.block _ (heap_lt ZB.out)).trans ZB.out))).trans ((setCell_heap _ _ _ _ _ (by omega)).trans ((setCell_heap _ _ _ _ _ (by omega)).trans ((E5.out.block _ (heap_lt ZB.out)).trans ZB.out)))
    · obtain rfl : k = 3 := by omega
      have HC : Hid (eachP f C = D) := Lib.hid (by rw [← down_three f C]; exact HD.out)
      have y0 := (heap_cell ZB.out 0).trans rfl
      have y1 := (heap_cell ZB.out 1).trans rfl
      have y2 := (heap_cell ZB.out 2).trans rfl
      have y3 := (heap_cell ZB.out 3).trans rfl
      have y4 := (heap_cell ZB.out 4).trans rfl
      have y5 := (heap_cell ZB.out 5).trans rfl
      have yf := frozen_of ZB.out
      have yl := heap_lt ZB.out
      go_wp2
      refine post_gen (fun X => X.heap[vb + 1]? = some (.cells #[.slice a4 n4 c4, .int .i64 r, .slice a3 n3 c3, .int .i64 r, .slice a2 n2 c2, .int .i64 r] 31 (0, 0)) ∧ RpAt X sa' sc' D ∧ Ext w X) ⟨store6h ZB.out, RC.out.2.keepP ZB.out, ext6p EB.out (by omega)⟩ ?_
      rintro X ⟨m5, R5, E5⟩
      have v0 := (heap_cell m5 0).trans rfl
      have v1 := (heap_cell m5 1).trans rfl
      have v2 := (heap_cell m5 2).trans rfl
      have v3 := (heap_cell m5 3).trans rfl
      have v4 := (heap_cell m5 4).trans rfl
      have v5 := (heap_cell m5 5).trans rfl
      have RX := Lib.hid R5
      have HX := Lib.hid E5
      clear m5 R5 E5 y0 y1 y2 y3 y4 y5 yf x0 x1 x2 x3 x4 x5
      refine bodyPost_ret (by simp [results, Try.results21, go_sem, ↓IntWalk.iteOmega, *]; try rfl) rfl (by rw [← HE.out, HC.out]; obtain ⟨e1, e2, e3, e4, e5, e6, e7, e8, e9⟩ := HQ.out; exact ⟨sa', sc', by rw [e1, e2, e3, e4, e5, e6, e7, e8, e9], RX.out, HX.out⟩)
set_option maxHeartbeats 2000000 in
set_option maxRecDepth 20000 in
theorem rpDropOf_c (sa : Int → Option Addr) (sc : Int → Nat) (C : Int → Lines) (r : Nat) (p : Int) (w : World) (h : RpAt w sa sc C) :
    Calls Try.prog 23 #[.agg #[.slice (sa 4) (C 4).length (sc 4), .int .i64 r, .slice (sa 3) (C 3).length (sc 3), .int .i64 r, .slice (sa 2) (C 2).length (sc 2), .int .i64 r], .int .i64 p] w (EndRp (eachP (fun _ L => filtL p L) C) r w) := by
  have H := Lib.hid h
  obtain ⟨f, hf⟩ : ∃ f : Int → Lines → Lines, (fun _ L => filtL p L) = f := ⟨_, rfl⟩
  rw [hf]
  have HF := Lib.hid hf
  generalize hE : EndRp (eachP f C) r w = E
  have HE := Lib.hid hE
  clear hE h hf
  go_enter Try.func23, Try.ntmps23
  go_upto_region 1 with (fail)
  refine wp_gen ?_; intro V hV
  have hVE : Ext w V := by rw [hV]; exact (by repeat (first | exact Ext.refl _ | assumption | refine Ext.alloc ?_ _ | refine Ext.drew ?_ | refine Ext.setCell ?_ (by first | (simp; done) | (dsimp only; omega)) _ | refine Ext.trans ?_ (by assumption)))
  have hV0 : V.heap[w.heap.size]? = some (.cells #[.slice (sa 4) (C 4).length (sc 4), .int .i64 r, .slice (sa 3) (C 3).length (sc 3), .int .i64 r, .slice (sa 2) (C 2).length (sc 2), .int .i64 r] 31 (0, 0)) := by rw [hV]; exact (alloc_other _ _ (by simp)).trans (alloc_same ..)
  have hV1 : V.heap[w.heap.size + 1]? = some (.cells #[.slice none 0 0, .int .i64 0, .slice none 0 0, .int .i64 0, .slice none 0 0, .int .i64 0] 31 (0, 0)) := by rw [hV]; exact alloc_same1 ..
  obtain ⟨vb, hvb⟩ : ∃ vb, w.heap.size = vb := ⟨_, rfl⟩
  rw [hvb] at hV0 hV1 ⊢
  have hwv : w.heap.size ≤ vb := by omega
  have VE := Lib.hid hVE
  have V0 := Lib.hid hV0
  have V1 := Lib.hid hV1
  clear hV hVE hV0 hV1 hvb
  go_wp2
  go_loopw [5] (fun iv wr => ∃ (k : Nat) (sa' : Int → Option Addr) (sc' : Int → Nat), k ≤ 3 ∧ iv = .int .i64 k ∧ Hid (RcAt wr vb sa' sc' (downP f C k) r ∧ wr.heap[vb + 1]? = some (.cells #[.slice none 0 0, .int .i64 0, .slice none 0 0, .int .i64 0, .slice none 0 0, .int .i64 0] 31 (0, 0)) ∧ Ext w wr)) (fun iv _ => 3 - (intOf iv).toNat)
  case atStart => exact ⟨0, sa, sc, by omega, rfl, Lib.hid ⟨by rw [down_zero]; exact ⟨V0.out, H.out.ext VE.out⟩, V1.out, VE.out⟩⟩
  case round =>
    obtain ⟨k, sa', sc', hk, rfl, hR⟩ := hrel
    have hRc := hR.out.1
    have ZB := Lib.hid hR.out.2.1
    have EB := Lib.hid hR.out.2.2
    obtain ⟨D, hD⟩ : ∃ D, downP f C k = D := ⟨_, rfl⟩
    rw [hD] at hRc
    have hat := down_at f C k
    have hst := down_step f C k
    rw [hD] at hat hst
    have HD := Lib.hid hD
    clear hD hR
    obtain ⟨a4, ha4⟩ : ∃ a4, sa' 4 = a4 := ⟨_, rfl⟩
    obtain ⟨a3, ha3⟩ : ∃ a3, sa' 3 = a3 := ⟨_, rfl⟩
    obtain ⟨a2, ha2⟩ : ∃ a2, sa' 2 = a2 := ⟨_, rfl⟩
    obtain ⟨c4, hc4⟩ : ∃ c4, sc' 4 = c4 := ⟨_, rfl⟩
    obtain ⟨c3, hc3⟩ : ∃ c3, sc' 3 = c3 := ⟨_, rfl⟩
    obtain ⟨c2, hc2⟩ : ∃ c2, sc' 2 = c2 := ⟨_, rfl⟩
    obtain ⟨n4, hn4⟩ : ∃ n4, (D 4).length = n4 := ⟨_, rfl⟩
    obtain ⟨n3, hn3⟩ : ∃ n3, (D 3).length = n3 := ⟨_, rfl⟩
    obtain ⟨n2, hn2⟩ : ∃ n2, (D 2).length = n2 := ⟨_, rfl⟩
    have hpb := hRc.1
    rw [ha4, hc4, hn4, ha3, hc3, hn3, ha2, hc2, hn2] at hpb
    have PB := Lib.hid hpb
    have RC := Lib.hid hRc
    have HQ : Hid (sa' 4 = a4 ∧ sc' 4 = c4 ∧ (D 4).length = n4 ∧ sa' 3 = a3 ∧ sc' 3 = c3 ∧ (D 3).length = n3 ∧ sa' 2 = a2 ∧ sc' 2 = c2 ∧ (D 2).length = n2) := Lib.hid ⟨ha4, hc4, hn4, ha3, hc3, hn3, ha2, hc2, hn2⟩
    clear ha4 ha3 ha2 hc4 hc3 hc2 hn4 hn3 hn2 hpb hRc
    have x0 := (heap_cell PB.out 0).trans rfl
    have x1 := (heap_cell PB.out 1).trans rfl
    have x2 := (heap_cell PB.out 2).trans rfl
    have x3 := (heap_cell PB.out 3).trans rfl
    have x4 := (heap_cell PB.out 4).trans rfl
    have x5 := (heap_cell PB.out 5).trans rfl
    have xf := frozen_of PB.out
    have xl := heap_lt PB.out
    by_cases hlt : k < 3
    · have hk3 : k = 0 ∨ k = 1 ∨ k = 2 := by omega
      rcases hk3 with rfl | rfl | rfl
      · have hat4 : D 4 = C 4 := by simpa using hat
        have hst4 : upd D 4 (f 4 (C 4)) = downP f C 1 := by simpa using hst
        have HST := Lib.hid hst4
        have HAT := Lib.hid hat4
        clear hat hst hat4 hst4
        have RL : Hid (∀ w', Ext wr w' → RefAt w' (.slice a4 n4 c4) (C 4)) := Lib.hid (fun w' k => by
          have := RC.out.2.ext k 4 (by omega) (by omega)
          obtain ⟨e1, e2, e3, e4, e5, e6, e7, e8, e9⟩ := HQ.out
          simp only [e1, e2, e3, e4, e5, e6, e7, e8, e9] at this; rw [HAT.out] at this; exact this)
        have HOp := Lib.hid (fun w h => refDropOf_c (C 4) p (.slice a4 n4 c4) r w h)
        have HFL : Hid (filtL p (C 4) = f 4 (C 4)) := Lib.hid (by rw [← HF.out])
        rw [HFL.out] at HOp
        generalize f 4 (C 4) = LP at HOp HST
        go_upto_region 3 with (first | (go_at_call 55; refine (HOp.out _ (RL.out _ (Ext.refl _))).mono ?_; rintro e w4 hEa; obtain ⟨ax, cx, rfl, hrx, hba⟩ := hEa.form; have B4 := (hba.block _ (heap_lt PB.out)).trans PB.out; have d0 := (heap_cell B4 0).trans rfl; have d1 := (heap_cell B4 1).trans rfl; have df := frozen_of B4; have dl := heap_lt B4))
        have H5 := Lib.hid hba
        have HR5 := Lib.hid hrx
        clear hba hrx hEa B4 d0 d1 df dl x0 x1 x2 x3 x4 x5 xf xl
        go_wp2
        refine ⟨⟨1, upd sa' 4 ax, upd sc' 4 cx, by omega, by go_num, Lib.hid ⟨?_, ?_, Ext.setCell (Ext.setCell (EB.out.trans H5.out) hwv _) hwv _⟩⟩, by simp [intOf]⟩
        · rw [← HST.out]; exact (RC.out.ext H5.out).put (l := 4) (o := 0) (by simp) HR5.out
        · exact (setCell_heap _ _ _ _ _ (by omega)).trans ((setCell_heap _ _ _ _ _ (by omega)).trans ((H5.out.block _ (heap_lt ZB.out)).trans ZB.out))
      · have hat3 : D 3 = C 3 := by simpa using hat
        have hst3 : upd D 3 (f 3 (C 3)) = downP f C 2 := by simpa using hst
        have HST := Lib.hid hst3
        have HAT := Lib.hid hat3
        clear hat hst hat3 hst3
        have RL : Hid (∀ w', Ext wr w' → RefAt w' (.slice a3 n3 c3) (C 3)) := Lib.hid (fun w' k => by
          have := RC.out.2.ext k 3 (by omega) (by omega)
          obtain ⟨e1, e2, e3, e4, e5, e6, e7, e8, e9⟩ := HQ.out
          simp only [e1, e2, e3, e4, e5, e6, e7, e8, e9] at this; rw [HAT.out] at this; exact this)
        have HOp := Lib.hid (fun w h => refDropOf_c (C 3) p (.slice a3 n3 c3) r w h)
        have HFL : Hid (filtL p (C 3) = f 3 (C 3)) := Lib.hid (by rw [← HF.out])
        rw [HFL.out] at HOp
        generalize f 3 (C 3) = LP at HOp HST
        go_upto_region 3 with (first | (go_at_call 55; refine (HOp.out _ (RL.out _ (Ext.refl _))).mono ?_; rintro e w4 hEa; obtain ⟨ax, cx, rfl, hrx, hba⟩ := hEa.form; have B4 := (hba.block _ (heap_lt PB.out)).trans PB.out; have d2 := (heap_cell B4 2).trans rfl; have d3 := (heap_cell B4 3).trans rfl; have df := frozen_of B4; have dl := heap_lt B4))
        have H5 := Lib.hid hba
        have HR5 := Lib.hid hrx
        clear hba hrx hEa B4 d2 d3 df dl x0 x1 x2 x3 x4 x5 xf xl
        go_wp2
        refine ⟨⟨2, upd sa' 3 ax, upd sc' 3 cx, by omega, by go_num, Lib.hid ⟨?_, ?_, Ext.setCell (Ext.setCell (EB.out.trans H5.out) hwv _) hwv _⟩⟩, by simp [intOf]⟩
        · rw [← HST.out]; exact (RC.out.ext H5.out).put (l := 3) (o := 2) (by simp) HR5.out
        · exact (setCell_heap _ _ _ _ _ (by omega)).trans ((setCell_heap _ _ _ _ _ (by omega)).trans ((H5.out.block _ (heap_lt ZB.out)).trans ZB.out))
      · have hat2 : D 2 = C 2 := by simpa using hat
        have hst2 : upd D 2 (f 2 (C 2)) = downP f C 3 := by simpa using hst
        have HST := Lib.hid hst2
        have HAT := Lib.hid hat2
        clear hat hst hat2 hst2
        have RL : Hid (∀ w', Ext wr w' → RefAt w' (.slice a2 n2 c2) (C 2)) := Lib.hid (fun w' k => by
          have := RC.out.2.ext k 2 (by omega) (by omega)
          obtain ⟨e1, e2, e3, e4, e5, e6, e7, e8, e9⟩ := HQ.out
          simp only [e1, e2, e3, e4, e5, e6, e7, e8, e9] at this; rw [HAT.out] at this; exact this)
        have HOp := Lib.hid (fun w h => refDropOf_c (C 2) p (.slice a2 n2 c2) r w h)
        have HFL : Hid (filtL p (C 2) = f 2 (C 2)) := Lib.hid (by rw [← HF.out])
        rw [HFL.out] at HOp
        generalize f 2 (C 2) = LP at HOp HST
        go_upto_region 3 with (first | (go_at_call 55; refine (HOp.out _ (RL.out _ (Ext.refl _))).mono ?_; rintro e w4 hEa; obtain ⟨ax, cx, rfl, hrx, hba⟩ := hEa.form; have B4 := (hba.block _ (heap_lt PB.out)).trans PB.out; have d4 := (heap_cell B4 4).trans rfl; have d5 := (heap_cell B4 5).trans rfl; have df := frozen_of B4; have dl := heap_lt B4))
        have H5 := Lib.hid hba
        have HR5 := Lib.hid hrx
        clear hba hrx hEa B4 d4 d5 df dl x0 x1 x2 x3 x4 x5 xf xl
        go_wp2
        refine ⟨⟨3, upd sa' 2 ax, upd sc' 2 cx, by omega, by go_num, Lib.hid ⟨?_, ?_, Ext.setCell (Ext.setCell (EB.out.trans H5.out) hwv _) hwv _⟩⟩, by simp [intOf]⟩
        · rw [← HST.out]; exact (RC.out.ext H5.out).put (l := 2) (o := 4) (by simp) HR5.out
        · exact (setCell_heap _ _ _ _ _ (by omega)).trans ((setCell_heap _ _ _ _ _ (by omega)).trans ((H5.out.block _ (heap_lt ZB.out)).trans ZB.out))
    · obtain rfl : k = 3 := by omega
      have HC : Hid (eachP f C = D) := Lib.hid (by rw [← down_three f C]; exact HD.out)
      have y0 := (heap_cell ZB.out 0).trans rfl
      have y1 := (heap_cell ZB.out 1).trans rfl
      have y2 := (heap_cell ZB.out 2).trans rfl
      have y3 := (heap_cell ZB.out 3).trans rfl
      have y4 := (heap_cell ZB.out 4).trans rfl
      have y5 := (heap_cell ZB.out 5).trans rfl
      have yf := frozen_of ZB.out
      have yl := heap_lt ZB.out
      go_wp2
      refine post_gen (fun X => X.heap[vb + 1]? = some (.cells #[.slice a4 n4 c4, .int .i64 r, .slice a3 n3 c3, .int .i64 r, .slice a2 n2 c2, .int .i64 r] 31 (0, 0)) ∧ RpAt X sa' sc' D ∧ Ext w X) ⟨store6h ZB.out, RC.out.2.keepP ZB.out, ext6p EB.out (by omega)⟩ ?_
      rintro X ⟨m5, R5, E5⟩
      have v0 := (heap_cell m5 0).trans rfl
      have v1 := (heap_cell m5 1).trans rfl
      have v2 := (heap_cell m5 2).trans rfl
      have v3 := (heap_cell m5 3).trans rfl
      have v4 := (heap_cell m5 4).trans rfl
      have v5 := (heap_cell m5 5).trans rfl
      have RX := Lib.hid R5
      have HX := Lib.hid E5
      clear m5 R5 E5 y0 y1 y2 y3 y4 y5 yf x0 x1 x2 x3 x4 x5
      refine bodyPost_ret (by simp [results, Try.results23, go_sem, ↓IntWalk.iteOmega, *]; try rfl) rfl (by rw [← HE.out, HC.out]; obtain ⟨e1, e2, e3, e4, e5, e6, e7, e8, e9⟩ := HQ.out; exact ⟨sa', sc', by rw [e1, e2, e3, e4, e5, e6, e7, e8, e9], RX.out, HX.out⟩)
set_option maxHeartbeats 2000000 in
set_option maxRecDepth 20000 in
theorem rpClear_c (sa : Int → Option Addr) (sc : Int → Nat) (C : Int → Lines) (r : Nat) (w : World) (h : RpAt w sa sc C) :
    Calls Try.prog 25 #[.agg #[.slice (sa 4) (C 4).length (sc 4), .int .i64 r, .slice (sa 3) (C 3).length (sc 3), .int .i64 r, .slice (sa 2) (C 2).length (sc 2), .int .i64 r]] w (EndRp (eachP (fun _ _ => []) C) r w) := by
  have H := Lib.hid h
  obtain ⟨f, hf⟩ : ∃ f : Int → Lines → Lines, (fun _ _ => []) = f := ⟨_, rfl⟩
  rw [hf]
  have HF := Lib.hid hf
  generalize hE : EndRp (eachP f C) r w = E
  have HE := Lib.hid hE
  clear hE h hf
  go_enter Try.func25, Try.ntmps25
  go_upto_region 1 with (fail)
  refine wp_gen ?_; intro V hV
  have hVE : Ext w V := by rw [hV]; exact (by repeat (first | exact Ext.refl _ | assumption | refine Ext.alloc ?_ _ | refine Ext.drew ?_ | refine Ext.setCell ?_ (by first | (simp; done) | (dsimp only; omega)) _ | refine Ext.trans ?_ (by assumption)))
  have hV0 : V.heap[w.heap.size]? = some (.cells #[.slice (sa 4) (C 4).length (sc 4), .int .i64 r, .slice (sa 3) (C 3).length (sc 3), .int .i64 r, .slice (sa 2) (C 2).length (sc 2), .int .i64 r] 31 (0, 0)) := by rw [hV]; exact (alloc_other _ _ (by simp)).trans (alloc_same ..)
  have hV1 : V.heap[w.heap.size + 1]? = some (.cells #[.slice none 0 0, .int .i64 0, .slice none 0 0, .int .i64 0, .slice none 0 0, .int .i64 0] 31 (0, 0)) := by rw [hV]; exact alloc_same1 ..
  obtain ⟨vb, hvb⟩ : ∃ vb, w.heap.size = vb := ⟨_, rfl⟩
  rw [hvb] at hV0 hV1 ⊢
  have hwv : w.heap.size ≤ vb := by omega
  have VE := Lib.hid hVE
  have V0 := Lib.hid hV0
  have V1 := Lib.hid hV1
  clear hV hVE hV0 hV1 hvb
  go_wp2
  go_loopw [3] (fun iv wr => ∃ (k : Nat) (sa' : Int → Option Addr) (sc' : Int → Nat), k ≤ 3 ∧ iv = .int .i64 k ∧ Hid (RcAt wr vb sa' sc' (downP f C k) r ∧ wr.heap[vb + 1]? = some (.cells #[.slice none 0 0, .int .i64 0, .slice none 0 0, .int .i64 0, .slice none 0 0, .int .i64 0] 31 (0, 0)) ∧ Ext w wr)) (fun iv _ => 3 - (intOf iv).toNat)
  case atStart => exact ⟨0, sa, sc, by omega, rfl, Lib.hid ⟨by rw [down_zero]; exact ⟨V0.out, H.out.ext VE.out⟩, V1.out, VE.out⟩⟩
  case round =>
    obtain ⟨k, sa', sc', hk, rfl, hR⟩ := hrel
    have hRc := hR.out.1
    have ZB := Lib.hid hR.out.2.1
    have EB := Lib.hid hR.out.2.2
    obtain ⟨D, hD⟩ : ∃ D, downP f C k = D := ⟨_, rfl⟩
    rw [hD] at hRc
    have hat := down_at f C k
    have hst := down_step f C k
    rw [hD] at hat hst
    have HD := Lib.hid hD
    clear hD hR
    obtain ⟨a4, ha4⟩ : ∃ a4, sa' 4 = a4 := ⟨_, rfl⟩
    obtain ⟨a3, ha3⟩ : ∃ a3, sa' 3 = a3 := ⟨_, rfl⟩
    obtain ⟨a2, ha2⟩ : ∃ a2, sa' 2 = a2 := ⟨_, rfl⟩
    obtain ⟨c4, hc4⟩ : ∃ c4, sc' 4 = c4 := ⟨_, rfl⟩
    obtain ⟨c3, hc3⟩ : ∃ c3, sc' 3 = c3 := ⟨_, rfl⟩
    obtain ⟨c2, hc2⟩ : ∃ c2, sc' 2 = c2 := ⟨_, rfl⟩
    obtain ⟨n4, hn4⟩ : ∃ n4, (D 4).length = n4 := ⟨_, rfl⟩
    obtain ⟨n3, hn3⟩ : ∃ n3, (D 3).length = n3 := ⟨_, rfl⟩
    obtain ⟨n2, hn2⟩ : ∃ n2, (D 2).length = n2 := ⟨_, rfl⟩
    have hpb := hRc.1
    rw [ha4, hc4, hn4, ha3, hc3, hn3, ha2, hc2, hn2] at hpb
    have PB := Lib.hid hpb
    have RC := Lib.hid hRc
    have HQ : Hid (sa' 4 = a4 ∧ sc' 4 = c4 ∧ (D 4).length = n4 ∧ sa' 3 = a3 ∧ sc' 3 = c3 ∧ (D 3).length = n3 ∧ sa' 2 = a2 ∧ sc' 2 = c2 ∧ (D 2).length = n2) := Lib.hid ⟨ha4, hc4, hn4, ha3, hc3, hn3, ha2, hc2, hn2⟩
    clear ha4 ha3 ha2 hc4 hc3 hc2 hn4 hn3 hn2 hpb hRc
    have x0 := (heap_cell PB.out 0).trans rfl
    have x1 := (heap_cell PB.out 1).trans rfl
    have x2 := (heap_cell PB.out 2).trans rfl
    have x3 := (heap_cell PB.out 3).trans rfl
    have x4 := (heap_cell PB.out 4).trans rfl
    have x5 := (heap_cell PB.out 5).trans rfl
    have xf := frozen_of PB.out
    have xl := heap_lt PB.out
    by_cases hlt : k < 3
    · have hk3 : k = 0 ∨ k = 1 ∨ k = 2 := by omega
      rcases hk3 with rfl | rfl | rfl
      · have hat4 : D 4 = C 4 := by simpa using hat
        have hst4 : upd D 4 (f 4 (C 4)) = downP f C 1 := by simpa using hst
        have HST := Lib.hid hst4
        have HAT := Lib.hid hat4
        clear hat hst hat4 hst4
        have RL : Hid (∀ w', Ext wr w' → RefAt w' (.slice a4 n4 c4) (C 4)) := Lib.hid (fun w' k => by
          have := RC.out.2.ext k 4 (by omega) (by omega)
          obtain ⟨e1, e2, e3, e4, e5, e6, e7, e8, e9⟩ := HQ.out
          simp only [e1, e2, e3, e4, e5, e6, e7, e8, e9] at this; rw [HAT.out] at this; exact this)
        have HFL : Hid ([] = f 4 (C 4)) := Lib.hid (by rw [← HF.out])
        rw [← HFL.out] at HST
        go_wp2
        refine ⟨⟨1, upd sa' 4 none, upd sc' 4 0, by omega, by go_num, Lib.hid ⟨?_, ?_, Ext.setCell EB.out hwv _⟩⟩, by simp [intOf]⟩
        · rw [← HST.out]; exact RC.out.put1 (l := 4) (o := 0) (L' := []) (by simp) (RefAt.nil _)
        · exact (setCell_heap _ _ _ _ _ (by omega)).trans ZB.out
      · have hat3 : D 3 = C 3 := by simpa using hat
        have hst3 : upd D 3 (f 3 (C 3)) = downP f C 2 := by simpa using hst
        have HST := Lib.hid hst3
        have HAT := Lib.hid hat3
        clear hat hst hat3 hst3
        have RL : Hid (∀ w', Ext wr w' → RefAt w' (.slice a3 n3 c3) (C 3)) := Lib.hid (fun w' k => by
          have := RC.out.2.ext k 3 (by omega) (by omega)
          obtain ⟨e1, e2, e3, e4, e5, e6, e7, e8, e9⟩ := HQ.out
          simp only [e1, e2, e3, e4, e5, e6, e7, e8, e9] at this; rw [HAT.out] at this; exact this)
        have HFL : Hid ([] = f 3 (C 3)) := Lib.hid (by rw [← HF.out])
        rw [← HFL.out] at HST
        go_wp2
        refine ⟨⟨2, upd sa' 3 none, upd sc' 3 0, by omega, by go_num, Lib.hid ⟨?_, ?_, Ext.setCell EB.out hwv _⟩⟩, by simp [intOf]⟩
        · rw [← HST.out]; exact RC.out.put1 (l := 3) (o := 2) (L' := []) (by simp) (RefAt.nil _)
        · exact (setCell_heap _ _ _ _ _ (by omega)).trans ZB.out
      · have hat2 : D 2 = C 2 := by simpa using hat
        have hst2 : upd D 2 (f 2 (C 2)) = downP f C 3 := by simpa using hst
        have HST := Lib.hid hst2
        have HAT := Lib.hid hat2
        clear hat hst hat2 hst2
        have RL : Hid (∀ w', Ext wr w' → RefAt w' (.slice a2 n2 c2) (C 2)) := Lib.hid (fun w' k => by
          have := RC.out.2.ext k 2 (by omega) (by omega)
          obtain ⟨e1, e2, e3, e4, e5, e6, e7, e8, e9⟩ := HQ.out
          simp only [e1, e2, e3, e4, e5, e6, e7, e8, e9] at this; rw [HAT.out] at this; exact this)
        have HFL : Hid ([] = f 2 (C 2)) := Lib.hid (by rw [← HF.out])
        rw [← HFL.out] at HST
        go_wp2
        refine ⟨⟨3, upd sa' 2 none, upd sc' 2 0, by omega, by go_num, Lib.hid ⟨?_, ?_, Ext.setCell EB.out hwv _⟩⟩, by simp [intOf]⟩
        · rw [← HST.out]; exact RC.out.put1 (l := 2) (o := 4) (L' := []) (by simp) (RefAt.nil _)
        · exact (setCell_heap _ _ _ _ _ (by omega)).trans ZB.out
    · obtain rfl : k = 3 := by omega
      have HC : Hid (eachP f C = D) := Lib.hid (by rw [← down_three f C]; exact HD.out)
      have y0 := (heap_cell ZB.out 0).trans rfl
      have y1 := (heap_cell ZB.out 1).trans rfl
      have y2 := (heap_cell ZB.out 2).trans rfl
      have y3 := (heap_cell ZB.out 3).trans rfl
      have y4 := (heap_cell ZB.out 4).trans rfl
      have y5 := (heap_cell ZB.out 5).trans rfl
      have yf := frozen_of ZB.out
      have yl := heap_lt ZB.out
      go_wp2
      refine post_gen (fun X => X.heap[vb + 1]? = some (.cells #[.slice a4 n4 c4, .int .i64 r, .slice a3 n3 c3, .int .i64 r, .slice a2 n2 c2, .int .i64 r] 31 (0, 0)) ∧ RpAt X sa' sc' D ∧ Ext w X) ⟨store6h ZB.out, RC.out.2.keepP ZB.out, ext6p EB.out (by omega)⟩ ?_
      rintro X ⟨m5, R5, E5⟩
      have v0 := (heap_cell m5 0).trans rfl
      have v1 := (heap_cell m5 1).trans rfl
      have v2 := (heap_cell m5 2).trans rfl
      have v3 := (heap_cell m5 3).trans rfl
      have v4 := (heap_cell m5 4).trans rfl
      have v5 := (heap_cell m5 5).trans rfl
      have RX := Lib.hid R5
      have HX := Lib.hid E5
      clear m5 R5 E5 y0 y1 y2 y3 y4 y5 yf x0 x1 x2 x3 x4 x5
      refine bodyPost_ret (by simp [results, Try.results25, go_sem, ↓IntWalk.iteOmega, *]; try rfl) rfl (by rw [← HE.out, HC.out]; obtain ⟨e1, e2, e3, e4, e5, e6, e7, e8, e9⟩ := HQ.out; exact ⟨sa', sc', by rw [e1, e2, e3, e4, e5, e6, e7, e8, e9], RX.out, HX.out⟩)
set_option maxHeartbeats 2000000 in
set_option maxRecDepth 20000 in
theorem rpEvict_c (sa : Int → Option Addr) (sc : Int → Nat) (C : Int → Lines) (r : Nat) (l pick : Int) (w : World) (h : RpAt w sa sc C) (hp0 : -9223372036854775808 ≤ pick) (hp1 : pick ≤ 9223372036854775807) :
    Calls Try.prog 27 #[.agg #[.slice (sa 4) (C 4).length (sc 4), .int .i64 r, .slice (sa 3) (C 3).length (sc 3), .int .i64 r, .slice (sa 2) (C 2).length (sc 2), .int .i64 r], .int .i64 l, .int .i64 pick] w (EndRp (if 2 ≤ l ∧ l ≤ 4 then upd C l (evictL pick (C l)) else C) r w) := by
  have H := Lib.hid h
  generalize hE : EndRp (if 2 ≤ l ∧ l ≤ 4 then upd C l (evictL pick (C l)) else C) r w = E
  have HE := Lib.hid hE
  clear hE h
  go_enter Try.func27, Try.ntmps27
  go_upto_region 1 with (fail)
  refine wp_gen ?_; intro V hV
  have hVE : Ext w V := by rw [hV]; exact (by repeat (first | exact Ext.refl _ | assumption | refine Ext.alloc ?_ _ | refine Ext.drew ?_ | refine Ext.setCell ?_ (by first | (simp; done) | (dsimp only; omega)) _ | refine Ext.trans ?_ (by assumption)))
  have hV0 : V.heap[w.heap.size]? = some (.cells #[.slice (sa 4) (C 4).length (sc 4), .int .i64 r, .slice (sa 3) (C 3).length (sc 3), .int .i64 r, .slice (sa 2) (C 2).length (sc 2), .int .i64 r] 31 (0, 0)) := by rw [hV]; exact (alloc_other _ _ (by simp)).trans (alloc_same ..)
  have hV1 : V.heap[w.heap.size + 1]? = some (.cells #[.slice none 0 0, .int .i64 0, .slice none 0 0, .int .i64 0, .slice none 0 0, .int .i64 0] 31 (0, 0)) := by rw [hV]; exact alloc_same1 ..
  obtain ⟨vb, hvb⟩ : ∃ vb, w.heap.size = vb := ⟨_, rfl⟩
  rw [hvb] at hV0 hV1 ⊢
  have hwv : w.heap.size ≤ vb := by omega
  have VE := Lib.hid hVE
  have V0 := Lib.hid hV0
  have V1 := Lib.hid hV1
  clear hV hVE hV0 hV1 hvb
  have hRc : RcAt V vb sa sc C r := ⟨V0.out, H.out.ext VE.out⟩
  have ZB := V1
  have EB := VE
  obtain ⟨a4, ha4⟩ : ∃ a4, sa 4 = a4 := ⟨_, rfl⟩
  obtain ⟨a3, ha3⟩ : ∃ a3, sa 3 = a3 := ⟨_, rfl⟩
  obtain ⟨a2, ha2⟩ : ∃ a2, sa 2 = a2 := ⟨_, rfl⟩
  obtain ⟨c4, hc4⟩ : ∃ c4, sc 4 = c4 := ⟨_, rfl⟩
  obtain ⟨c3, hc3⟩ : ∃ c3, sc 3 = c3 := ⟨_, rfl⟩
  obtain ⟨c2, hc2⟩ : ∃ c2, sc 2 = c2 := ⟨_, rfl⟩
  obtain ⟨n4, hn4⟩ : ∃ n4, (C 4).length = n4 := ⟨_, rfl⟩
  obtain ⟨n3, hn3⟩ : ∃ n3, (C 3).length = n3 := ⟨_, rfl⟩
  obtain ⟨n2, hn2⟩ : ∃ n2, (C 2).length = n2 := ⟨_, rfl⟩
  have hpb := hRc.1
  rw [ha4, hc4, hn4, ha3, hc3, hn3, ha2, hc2, hn2] at hpb
  have PB := Lib.hid hpb
  have RC := Lib.hid hRc
  have HQ : Hid (sa 4 = a4 ∧ sc 4 = c4 ∧ (C 4).length = n4 ∧ sa 3 = a3 ∧ sc 3 = c3 ∧ (C 3).length = n3 ∧ sa 2 = a2 ∧ sc 2 = c2 ∧ (C 2).length = n2) := Lib.hid ⟨ha4, hc4, hn4, ha3, hc3, hn3, ha2, hc2, hn2⟩
  clear ha4 ha3 ha2 hc4 hc3 hc2 hn4 hn3 hn2 hpb hRc
  have x0 := (heap_cell PB.out 0).trans rfl
  have x1 := (heap_cell PB.out 1).trans rfl
  have x2 := (heap_cell PB.out 2).trans rfl
  have x3 := (heap_cell PB.out 3).trans rfl
  have x4 := (heap_cell PB.out 4).trans rfl
  have x5 := (heap_cell PB.out 5).trans rfl
  have xf := frozen_of PB.out
  have xl := heap_lt PB.out
  by_cases hl : 2 ≤ l ∧ l ≤ 4
  case neg =>
    have HC : Hid ((if 2 ≤ l ∧ l ≤ 4 then upd C l (evictL pick (C l)) else C) = C) := Lib.hid (if_neg hl)
    have hg : (decide (2 ≤ l) = false) ∨ (decide (2 ≤ l) = true ∧ decide (l ≤ 4) = false) := by
      by_cases h : 2 ≤ l
      · exact .inr ⟨by simpa using h, by simp; omega⟩
      · exact .inl (by simpa using h)
    clear hl
    rcases hg with hg | ⟨hg, hg2⟩
    all_goals
      have y0 := (heap_cell ZB.out 0).trans rfl
      have y1 := (heap_cell ZB.out 1).trans rfl
      have y2 := (heap_cell ZB.out 2).trans rfl
      have y3 := (heap_cell ZB.out 3).trans rfl
      have y4 := (heap_cell ZB.out 4).trans rfl
      have y5 := (heap_cell ZB.out 5).trans rfl
      have yf := frozen_of ZB.out
      have yl := heap_lt ZB.out
      go_wp2
      refine post_gen (fun X => X.heap[vb + 1]? = some (.cells #[.slice a4 n4 c4, .int .i64 r, .slice a3 n3 c3, .int .i64 r, .slice a2 n2 c2, .int .i64 r] 31 (0, 0)) ∧ RpAt X sa sc C ∧ Ext w X) ⟨store6h ZB.out, RC.out.2.keepP ZB.out, ext6p EB.out (by omega)⟩ ?_
      rintro X ⟨m5, R5, E5⟩
      have v0 := (heap_cell m5 0).trans rfl
      have v1 := (heap_cell m5 1).trans rfl
      have v2 := (heap_cell m5 2).trans rfl
      have v3 := (heap_cell m5 3).trans rfl
      have v4 := (heap_cell m5 4).trans rfl
      have v5 := (heap_cell m5 5).trans rfl
      have RX := Lib.hid R5
      have HX := Lib.hid E5
      clear m5 R5 E5 y0 y1 y2 y3 y4 y5 yf x0 x1 x2 x3 x4 x5
      refine bodyPost_ret (by simp [results, Try.results27, go_sem, ↓IntWalk.iteOmega, *]; try rfl) rfl (by rw [← HE.out, HC.out]; obtain ⟨e1, e2, e3, e4, e5, e6, e7, e8, e9⟩ := HQ.out; exact ⟨sa, sc, by rw [e1, e2, e3, e4, e5, e6, e7, e8, e9], RX.out, HX.out⟩)
  case pos =>
    have hg : decide (2 ≤ l) = true := by simp; omega
    have hg2 : decide (l ≤ 4) = true := by simp; omega
    have hl3 : l = 4 ∨ l = 3 ∨ l = 2 := by omega
    clear hl
    rcases hl3 with rfl | rfl | rfl
    · have HC : Hid ((if 2 ≤ (4 : Int) ∧ (4 : Int) ≤ 4 then upd C 4 (evictL pick (C 4)) else C) = upd C 4 (evictL pick (C 4))) := Lib.hid (if_pos (by omega))
      have RL : Hid (∀ w', Ext V w' → RefAt w' (.slice a4 n4 c4) (C 4)) := Lib.hid (fun w' k => by
        have := RC.out.2.ext k 4 (by omega) (by omega)
        obtain ⟨e1, e2, e3, e4, e5, e6, e7, e8, e9⟩ := HQ.out
        simp only [e1, e2, e3, e4, e5, e6, e7, e8, e9] at this; exact this)
      have HOp := Lib.hid (fun w h => refEvict_c (C 4) pick (.slice a4 n4 c4) r w h hp0 hp1)
      generalize evictL pick (C 4) = LP at HOp HC HE
      go_upto_region 3 with (first | (go_at_call 58; refine (HOp.out _ (RL.out _ (Ext.refl _))).mono ?_; rintro e w4 hEa; obtain ⟨ax, cx, rfl, hrx, hba⟩ := hEa.form; have B4 := (hba.block _ (heap_lt PB.out)).trans PB.out; have d0 := (heap_cell B4 0).trans rfl; have d1 := (heap_cell B4 1).trans rfl; have df := frozen_of B4; have dl := heap_lt B4))
      refine wp_gen ?_; intro W hW
      have hRc : RcAt W vb (upd sa 4 ax) (upd sc 4 cx) (upd C 4 LP) r := by rw [hW]; exact (RC.out.ext hba).put (l := 4) (o := 0) (by simp) hrx
      have ZB : Hid (W.heap[vb + 1]? = some (.cells #[.slice none 0 0, .int .i64 0, .slice none 0 0, .int .i64 0, .slice none 0 0, .int .i64 0] 31 (0, 0))) := Lib.hid (by rw [hW]; exact (setCell_heap _ _ _ _ _ (by omega)).trans ((setCell_heap _ _ _ _ _ (by omega)).trans ((hba.block _ (heap_lt V1.out)).trans V1.out)))
      have EB : Hid (Ext w W) := Lib.hid (by rw [hW]; exact Ext.setCell (Ext.setCell (VE.out.trans hba) hwv _) hwv _)
      clear hW hba hrx hEa B4 d0 d1 df dl x0 x1 x2 x3 x4 x5 xf xl
      obtain ⟨sa', hsa⟩ : ∃ sa', upd sa 4 ax = sa' := ⟨_, rfl⟩
      obtain ⟨sc', hsc⟩ : ∃ sc', upd sc 4 cx = sc' := ⟨_, rfl⟩
      obtain ⟨D, hD⟩ : ∃ D, upd C 4 LP = D := ⟨_, rfl⟩
      rw [hsa, hsc, hD] at hRc
      have HC := Lib.hid (HC.out.trans hD)
      clear hsa hsc hD PB RC HQ RL HOp
      obtain ⟨p4, hp4⟩ : ∃ p4, sa' 4 = p4 := ⟨_, rfl⟩
      obtain ⟨p3, hp3⟩ : ∃ p3, sa' 3 = p3 := ⟨_, rfl⟩
      obtain ⟨p2, hp2⟩ : ∃ p2, sa' 2 = p2 := ⟨_, rfl⟩
      obtain ⟨q4, hq4⟩ : ∃ q4, sc' 4 = q4 := ⟨_, rfl⟩
      obtain ⟨q3, hq3⟩ : ∃ q3, sc' 3 = q3 := ⟨_, rfl⟩
      obtain ⟨q2, hq2⟩ : ∃ q2, sc' 2 = q2 := ⟨_, rfl⟩
      obtain ⟨m4, hm4⟩ : ∃ m4, (D 4).length = m4 := ⟨_, rfl⟩
      obtain ⟨m3, hm3⟩ : ∃ m3, (D 3).length = m3 := ⟨_, rfl⟩
      obtain ⟨m2, hm2⟩ : ∃ m2, (D 2).length = m2 := ⟨_, rfl⟩
      have hpb := hRc.1
      rw [hp4, hq4, hm4, hp3, hq3, hm3, hp2, hq2, hm2] at hpb
      have PB := Lib.hid hpb
      have RC := Lib.hid hRc
      have HQ : Hid (sa' 4 = p4 ∧ sc' 4 = q4 ∧ (D 4).length = m4 ∧ sa' 3 = p3 ∧ sc' 3 = q3 ∧ (D 3).length = m3 ∧ sa' 2 = p2 ∧ sc' 2 = q2 ∧ (D 2).length = m2) := Lib.hid ⟨hp4, hq4, hm4, hp3, hq3, hm3, hp2, hq2, hm2⟩
      clear hp4 hp3 hp2 hq4 hq3 hq2 hm4 hm3 hm2 hpb hRc
      have x0 := (heap_cell PB.out 0).trans rfl
      have x1 := (heap_cell PB.out 1).trans rfl
      have x2 := (heap_cell PB.out 2).trans rfl
      have x3 := (heap_cell PB.out 3).trans rfl
      have x4 := (heap_cell PB.out 4).trans rfl
      have x5 := (heap_cell PB.out 5).trans rfl
      have xf := frozen_of PB.out
      have xl := heap_lt PB.out
      have y0 := (heap_cell ZB.out 0).trans rfl
      have y1 := (heap_cell ZB.out 1).trans rfl
      have y2 := (heap_cell ZB.out 2).trans rfl
      have y3 := (heap_cell ZB.out 3).trans rfl
      have y4 := (heap_cell ZB.out 4).trans rfl
      have y5 := (heap_cell ZB.out 5).trans rfl
      have yf := frozen_of ZB.out
      have yl := heap_lt ZB.out
      go_wp2
      refine post_gen (fun X => X.heap[vb + 1]? = some (.cells #[.slice p4 m4 q4, .int .i64 r, .slice p3 m3 q3, .int .i64 r, .slice p2 m2 q2, .int .i64 r] 31 (0, 0)) ∧ RpAt X sa' sc' D ∧ Ext w X) ⟨store6h ZB.out, RC.out.2.keepP ZB.out, ext6p EB.out (by omega)⟩ ?_
      rintro X ⟨m5, R5, E5⟩
      have v0 := (heap_cell m5 0).trans rfl
      have v1 := (heap_cell m5 1).trans rfl
      have v2 := (heap_cell m5 2).trans rfl
      have v3 := (heap_cell m5 3).trans rfl
      have v4 := (heap_cell m5 4).trans rfl
      have v5 := (heap_cell m5 5).trans rfl
      have RX := Lib.hid R5
      have HX := Lib.hid E5
      clear m5 R5 E5 y0 y1 y2 y3 y4 y5 yf x0 x1 x2 x3 x4 x5
      refine bodyPost_ret (by simp [results, Try.results27, go_sem, ↓IntWalk.iteOmega, *]; try rfl) rfl (by rw [← HE.out, HC.out]; obtain ⟨e1, e2, e3, e4, e5, e6, e7, e8, e9⟩ := HQ.out; exact ⟨sa', sc', by rw [e1, e2, e3, e4, e5, e6, e7, e8, e9], RX.out, HX.out⟩)
    · have HC : Hid ((if 2 ≤ (3 : Int) ∧ (3 : Int) ≤ 4 then upd C 3 (evictL pick (C 3)) else C) = upd C 3 (evictL pick (C 3))) := Lib.hid (if_pos (by omega))
      have RL : Hid (∀ w', Ext V w' → RefAt w' (.slice a3 n3 c3) (C 3)) := Lib.hid (fun w' k => by
        have := RC.out.2.ext k 3 (by omega) (by omega)
        obtain ⟨e1, e2, e3, e4, e5, e6, e7, e8, e9⟩ := HQ.out
        simp only [e1, e2, e3, e4, e5, e6, e7, e8, e9] at this; exact this)
      have HOp := Lib.hid (fun w h => refEvict_c (C 3) pick (.slice a3 n3 c3) r w h hp0 hp1)
      generalize evictL pick (C 3) = LP at HOp HC HE
      go_upto_region 3 with (first | (go_at_call 58; refine (HOp.out _ (RL.out _ (Ext.refl _))).mono ?_; rintro e w4 hEa; obtain ⟨ax, cx, rfl, hrx, hba⟩ := hEa.form; have B4 := (hba.block _ (heap_lt PB.out)).trans PB.out; have d2 := (heap_cell B4 2).trans rfl; have d3 := (heap_cell B4 3).trans rfl; have df := frozen_of B4; have dl := heap_lt B4))
      refine wp_gen ?_; intro W hW
      have hRc : RcAt W vb (upd sa 3 ax) (upd sc 3 cx) (upd C 3 LP) r := by rw [hW]; exact (RC.out.ext hba).put (l := 3) (o := 2) (by simp) hrx
      have ZB : Hid (W.heap[vb + 1]? = some (.cells #[.slice none 0 0, .int .i64 0, .slice none 0 0, .int .i64 0, .slice none 0 0, .int .i64 0] 31 (0, 0))) := Lib.hid (by rw [hW]; exact (setCell_heap _ _ _ _ _ (by omega)).trans ((setCell_heap _ _ _ _ _ (by omega)).trans ((hba.block _ (heap_lt V1.out)).trans V1.out)))
      have EB : Hid (Ext w W) := Lib.hid (by rw [hW]; exact Ext.setCell (Ext.setCell (VE.out.trans hba) hwv _) hwv _)
      clear hW hba hrx hEa B4 d2 d3 df dl x0 x1 x2 x3 x4 x5 xf xl
      obtain ⟨sa', hsa⟩ : ∃ sa', upd sa 3 ax = sa' := ⟨_, rfl⟩
      obtain ⟨sc', hsc⟩ : ∃ sc', upd sc 3 cx = sc' := ⟨_, rfl⟩
      obtain ⟨D, hD⟩ : ∃ D, upd C 3 LP = D := ⟨_, rfl⟩
      rw [hsa, hsc, hD] at hRc
      have HC := Lib.hid (HC.out.trans hD)
      clear hsa hsc hD PB RC HQ RL HOp
      obtain ⟨p4, hp4⟩ : ∃ p4, sa' 4 = p4 := ⟨_, rfl⟩
      obtain ⟨p3, hp3⟩ : ∃ p3, sa' 3 = p3 := ⟨_, rfl⟩
      obtain ⟨p2, hp2⟩ : ∃ p2, sa' 2 = p2 := ⟨_, rfl⟩
      obtain ⟨q4, hq4⟩ : ∃ q4, sc' 4 = q4 := ⟨_, rfl⟩
      obtain ⟨q3, hq3⟩ : ∃ q3, sc' 3 = q3 := ⟨_, rfl⟩
      obtain ⟨q2, hq2⟩ : ∃ q2, sc' 2 = q2 := ⟨_, rfl⟩
      obtain ⟨m4, hm4⟩ : ∃ m4, (D 4).length = m4 := ⟨_, rfl⟩
      obtain ⟨m3, hm3⟩ : ∃ m3, (D 3).length = m3 := ⟨_, rfl⟩
      obtain ⟨m2, hm2⟩ : ∃ m2, (D 2).length = m2 := ⟨_, rfl⟩
      have hpb := hRc.1
      rw [hp4, hq4, hm4, hp3, hq3, hm3, hp2, hq2, hm2] at hpb
      have PB := Lib.hid hpb
      have RC := Lib.hid hRc
      have HQ : Hid (sa' 4 = p4 ∧ sc' 4 = q4 ∧ (D 4).length = m4 ∧ sa' 3 = p3 ∧ sc' 3 = q3 ∧ (D 3).length = m3 ∧ sa' 2 = p2 ∧ sc' 2 = q2 ∧ (D 2).length = m2) := Lib.hid ⟨hp4, hq4, hm4, hp3, hq3, hm3, hp2, hq2, hm2⟩
      clear hp4 hp3 hp2 hq4 hq3 hq2 hm4 hm3 hm2 hpb hRc
      have x0 := (heap_cell PB.out 0).trans rfl
      have x1 := (heap_cell PB.out 1).trans rfl
      have x2 := (heap_cell PB.out 2).trans rfl
      have x3 := (heap_cell PB.out 3).trans rfl
      have x4 := (heap_cell PB.out 4).trans rfl
      have x5 := (heap_cell PB.out 5).trans rfl
      have xf := frozen_of PB.out
      have xl := heap_lt PB.out
      have y0 := (heap_cell ZB.out 0).trans rfl
      have y1 := (heap_cell ZB.out 1).trans rfl
      have y2 := (heap_cell ZB.out 2).trans rfl
      have y3 := (heap_cell ZB.out 3).trans rfl
      have y4 := (heap_cell ZB.out 4).trans rfl
      have y5 := (heap_cell ZB.out 5).trans rfl
      have yf := frozen_of ZB.out
      have yl := heap_lt ZB.out
      go_wp2
      refine post_gen (fun X => X.heap[vb + 1]? = some (.cells #[.slice p4 m4 q4, .int .i64 r, .slice p3 m3 q3, .int .i64 r, .slice p2 m2 q2, .int .i64 r] 31 (0, 0)) ∧ RpAt X sa' sc' D ∧ Ext w X) ⟨store6h ZB.out, RC.out.2.keepP ZB.out, ext6p EB.out (by omega)⟩ ?_
      rintro X ⟨m5, R5, E5⟩
      have v0 := (heap_cell m5 0).trans rfl
      have v1 := (heap_cell m5 1).trans rfl
      have v2 := (heap_cell m5 2).trans rfl
      have v3 := (heap_cell m5 3).trans rfl
      have v4 := (heap_cell m5 4).trans rfl
      have v5 := (heap_cell m5 5).trans rfl
      have RX := Lib.hid R5
      have HX := Lib.hid E5
      clear m5 R5 E5 y0 y1 y2 y3 y4 y5 yf x0 x1 x2 x3 x4 x5
      refine bodyPost_ret (by simp [results, Try.results27, go_sem, ↓IntWalk.iteOmega, *]; try rfl) rfl (by rw [← HE.out, HC.out]; obtain ⟨e1, e2, e3, e4, e5, e6, e7, e8, e9⟩ := HQ.out; exact ⟨sa', sc', by rw [e1, e2, e3, e4, e5, e6, e7, e8, e9], RX.out, HX.out⟩)
    · have HC : Hid ((if 2 ≤ (2 : Int) ∧ (2 : Int) ≤ 4 then upd C 2 (evictL pick (C 2)) else C) = upd C 2 (evictL pick (C 2))) := Lib.hid (if_pos (by omega))
      have RL : Hid (∀ w', Ext V w' → RefAt w' (.slice a2 n2 c2) (C 2)) := Lib.hid (fun w' k => by
        have := RC.out.2.ext k 2 (by omega) (by omega)
        obtain ⟨e1, e2, e3, e4, e5, e6, e7, e8, e9⟩ := HQ.out
        simp only [e1, e2, e3, e4, e5, e6, e7, e8, e9] at this; exact this)
      have HOp := Lib.hid (fun w h => refEvict_c (C 2) pick (.slice a2 n2 c2) r w h hp0 hp1)
      generalize evictL pick (C 2) = LP at HOp HC HE
      go_upto_region 3 with (first | (go_at_call 58; refine (HOp.out _ (RL.out _ (Ext.refl _))).mono ?_; rintro e w4 hEa; obtain ⟨ax, cx, rfl, hrx, hba⟩ := hEa.form; have B4 := (hba.block _ (heap_lt PB.out)).trans PB.out; have d4 := (heap_cell B4 4).trans rfl; have d5 := (heap_cell B4 5).trans rfl; have df := frozen_of B4; have dl := heap_lt B4))
      refine wp_gen ?_; intro W hW
      have hRc : RcAt W vb (upd sa 2 ax) (upd sc 2 cx) (upd C 2 LP) r := by rw [hW]; exact (RC.out.ext hba).put (l := 2) (o := 4) (by simp) hrx
      have ZB : Hid (W.heap[vb + 1]? = some (.cells #[.slice none 0 0, .int .i64 0, .slice none 0 0, .int .i64 0, .slice none 0 0, .int .i64 0] 31 (0, 0))) := Lib.hid (by rw [hW]; exact (setCell_heap _ _ _ _ _ (by omega)).trans ((setCell_heap _ _ _ _ _ (by omega)).trans ((hba.block _ (heap_lt V1.out)).trans V1.out)))
      have EB : Hid (Ext w W) := Lib.hid (by rw [hW]; exact Ext.setCell (Ext.setCell (VE.out.trans hba) hwv _) hwv _)
      clear hW hba hrx hEa B4 d4 d5 df dl x0 x1 x2 x3 x4 x5 xf xl
      obtain ⟨sa', hsa⟩ : ∃ sa', upd sa 2 ax = sa' := ⟨_, rfl⟩
      obtain ⟨sc', hsc⟩ : ∃ sc', upd sc 2 cx = sc' := ⟨_, rfl⟩
      obtain ⟨D, hD⟩ : ∃ D, upd C 2 LP = D := ⟨_, rfl⟩
      rw [hsa, hsc, hD] at hRc
      have HC := Lib.hid (HC.out.trans hD)
      clear hsa hsc hD PB RC HQ RL HOp
      obtain ⟨p4, hp4⟩ : ∃ p4, sa' 4 = p4 := ⟨_, rfl⟩
      obtain ⟨p3, hp3⟩ : ∃ p3, sa' 3 = p3 := ⟨_, rfl⟩
      obtain ⟨p2, hp2⟩ : ∃ p2, sa' 2 = p2 := ⟨_, rfl⟩
      obtain ⟨q4, hq4⟩ : ∃ q4, sc' 4 = q4 := ⟨_, rfl⟩
      obtain ⟨q3, hq3⟩ : ∃ q3, sc' 3 = q3 := ⟨_, rfl⟩
      obtain ⟨q2, hq2⟩ : ∃ q2, sc' 2 = q2 := ⟨_, rfl⟩
      obtain ⟨m4, hm4⟩ : ∃ m4, (D 4).length = m4 := ⟨_, rfl⟩
      obtain ⟨m3, hm3⟩ : ∃ m3, (D 3).length = m3 := ⟨_, rfl⟩
      obtain ⟨m2, hm2⟩ : ∃ m2, (D 2).length = m2 := ⟨_, rfl⟩
      have hpb := hRc.1
      rw [hp4, hq4, hm4, hp3, hq3, hm3, hp2, hq2, hm2] at hpb
      have PB := Lib.hid hpb
      have RC := Lib.hid hRc
      have HQ : Hid (sa' 4 = p4 ∧ sc' 4 = q4 ∧ (D 4).length = m4 ∧ sa' 3 = p3 ∧ sc' 3 = q3 ∧ (D 3).length = m3 ∧ sa' 2 = p2 ∧ sc' 2 = q2 ∧ (D 2).length = m2) := Lib.hid ⟨hp4, hq4, hm4, hp3, hq3, hm3, hp2, hq2, hm2⟩
      clear hp4 hp3 hp2 hq4 hq3 hq2 hm4 hm3 hm2 hpb hRc
      have x0 := (heap_cell PB.out 0).trans rfl
      have x1 := (heap_cell PB.out 1).trans rfl
      have x2 := (heap_cell PB.out 2).trans rfl
      have x3 := (heap_cell PB.out 3).trans rfl
      have x4 := (heap_cell PB.out 4).trans rfl
      have x5 := (heap_cell PB.out 5).trans rfl
      have xf := frozen_of PB.out
      have xl := heap_lt PB.out
      have y0 := (heap_cell ZB.out 0).trans rfl
      have y1 := (heap_cell ZB.out 1).trans rfl
      have y2 := (heap_cell ZB.out 2).trans rfl
      have y3 := (heap_cell ZB.out 3).trans rfl
      have y4 := (heap_cell ZB.out 4).trans rfl
      have y5 := (heap_cell ZB.out 5).trans rfl
      have yf := frozen_of ZB.out
      have yl := heap_lt ZB.out
      go_wp2
      refine post_gen (fun X => X.heap[vb + 1]? = some (.cells #[.slice p4 m4 q4, .int .i64 r, .slice p3 m3 q3, .int .i64 r, .slice p2 m2 q2, .int .i64 r] 31 (0, 0)) ∧ RpAt X sa' sc' D ∧ Ext w X) ⟨store6h ZB.out, RC.out.2.keepP ZB.out, ext6p EB.out (by omega)⟩ ?_
      rintro X ⟨m5, R5, E5⟩
      have v0 := (heap_cell m5 0).trans rfl
      have v1 := (heap_cell m5 1).trans rfl
      have v2 := (heap_cell m5 2).trans rfl
      have v3 := (heap_cell m5 3).trans rfl
      have v4 := (heap_cell m5 4).trans rfl
      have v5 := (heap_cell m5 5).trans rfl
      have RX := Lib.hid R5
      have HX := Lib.hid E5
      clear m5 R5 E5 y0 y1 y2 y3 y4 y5 yf x0 x1 x2 x3 x4 x5
      refine bodyPost_ret (by simp [results, Try.results27, go_sem, ↓IntWalk.iteOmega, *]; try rfl) rfl (by rw [← HE.out, HC.out]; obtain ⟨e1, e2, e3, e4, e5, e6, e7, e8, e9⟩ := HQ.out; exact ⟨sa', sc', by rw [e1, e2, e3, e4, e5, e6, e7, e8, e9], RX.out, HX.out⟩)
end Go.Proofs.Ytkfonacokamfiaa
