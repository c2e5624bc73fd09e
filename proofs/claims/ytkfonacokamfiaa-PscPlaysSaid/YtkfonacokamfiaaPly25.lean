/- Joined texts, part 25 of what the law stands on: each as its own head says. -/
import Derived.Test.YtkfonacokamfiaaPly24
import Derived.Test.YtkfonacokamfiaaPly17
import Derived.Test.YtkfonacokamfiaaPly11
import Derived.Test.YtkfonacokamfiaaPly2
import Derived.Test.YtkfonacokamfiaaPly23
import Derived.Test.YtkfonacokamfiaaPly14
/- The document's caches of tables: New, Deepest. Own text. -/
namespace Go.Proofs.Ytkfonacokamfiaa
set_option linter.unusedVariables false
set_option linter.unusedSimpArgs false
open Go.RowKit
attribute [local go_sem] wext_cell wext_frozen wext_heap alloc_cell alloc_frozen alloc_heap setCell_cell objCell_cells objFrozen_cells

theorem store6h {w : World} {b : Nat} {c0 c1 c2 c3 c4 c5 v0 v1 v2 v3 v4 v5 : Value} {e : TypeId} {f : Nat × Nat} (h : w.heap[b]? = some (.cells #[c0, c1, c2, c3, c4, c5] e f)) :
    ((((((w.setCell ⟨b, 0, none⟩ v0).setCell ⟨b, 1, none⟩ v1).setCell ⟨b, 2, none⟩ v2).setCell ⟨b, 3, none⟩ v3).setCell ⟨b, 4, none⟩ v4).setCell ⟨b, 5, none⟩ v5).heap[b]? = some (.cells #[v0, v1, v2, v3, v4, v5] e f) :=
  setCell_heap_same (setCell_heap_same (setCell_heap_same (setCell_heap_same (setCell_heap_same (setCell_heap_same h)))))
theorem ext6p {a w : World} {b : Nat} {v0 v1 v2 v3 v4 v5 : Value} (h : Ext a w) (hb : a.heap.size ≤ b) :
    Ext a ((((((w.setCell ⟨b, 0, none⟩ v0).setCell ⟨b, 1, none⟩ v1).setCell ⟨b, 2, none⟩ v2).setCell ⟨b, 3, none⟩ v3).setCell ⟨b, 4, none⟩ v4).setCell ⟨b, 5, none⟩ v5) :=
  Ext.setCell (Ext.setCell (Ext.setCell (Ext.setCell (Ext.setCell (Ext.setCell h hb _) hb _) hb _) hb _) hb _) hb _
theorem RpAt.nil (w : World) : RpAt w (fun _ => none) (fun _ => 0) (fun _ => []) := fun _ _ _ => RefAt.nil w

set_option maxHeartbeats 1000000 in
theorem rpNew_c (room : Int) (w : World) (h0 : -9223372036854775808 ≤ room) (h1 : room ≤ 9223372036854775807) :
    Calls Try.prog 6 #[.int .i64 room] w (EndRp (fun _ => []) (clampR room) w) := by
  have HN := Lib.hid (fun w => refNew_c room w h0 h1)
  generalize hE : EndRp (fun _ => []) (clampR room) w = E
  have HE := Lib.hid hE
  clear hE
  generalize clampR room = r at *
  go_enter Try.func6, Try.ntmps6
  go_upto_region 2 with (first | (go_at_call 17; refine (HN.out _).mono ?_; rintro e w1 ⟨rfl, hb1⟩))
  refine wp_gen ?_; intro V hV
  have hVE : Ext w V := by rw [hV]; exact (Ext.trans (by repeat (first | exact Ext.refl _ | assumption | refine Ext.alloc ?_ _ | refine Ext.drew ?_ | refine Ext.setCell ?_ (by first | (simp; done) | (dsimp only; omega)) _ | refine Ext.trans ?_ (by assumption))) hb1).alloc _
  have hVp : V.heap[w.heap.size]? = some (.cells #[.slice none 0 0, .int .i64 0, .slice none 0 0, .int .i64 0, .slice none 0 0, .int .i64 0] 31 (0, 0)) := by
    rw [hV]; exact (alloc_other _ _ (by have := hb1.size; simp at this; omega)).trans ((hb1.block _ (by simp)).trans (alloc_same ..))
  have hVc : V.heap[w1.heap.size]? = some (.cells #[.slice none 0 0, .int .i64 r] 28 (0, 0)) := by rw [hV]; exact alloc_same ..
  have hne : w1.heap.size ≠ w.heap.size := by have := hb1.size; simp at this; omega
  obtain ⟨qb, hqb⟩ : ∃ qb, w.heap.size = qb := ⟨_, rfl⟩
  obtain ⟨cb, hcb⟩ : ∃ cb, w1.heap.size = cb := ⟨_, rfl⟩
  have hwq : w.heap.size ≤ qb := by omega
  rw [hqb] at hVp hne ⊢
  rw [hcb] at hVc hne ⊢
  have VE := Lib.hid hVE
  have VP := Lib.hid hVp
  have VC := Lib.hid hVc
  clear hV hVE hVp hVc hqb hcb hb1
  have y0 := (heap_cell VP.out 0).trans rfl
  have y1 := (heap_cell VP.out 1).trans rfl
  have y2 := (heap_cell VP.out 2).trans rfl
  have y3 := (heap_cell VP.out 3).trans rfl
  have y4 := (heap_cell VP.out 4).trans rfl
  have y5 := (heap_cell VP.out 5).trans rfl
  have yf := frozen_of VP.out
  have yl := heap_lt VP.out
  have c0 := (heap_cell VC.out 0).trans rfl
  have c1 := (heap_cell VC.out 1).trans rfl
  have cl := heap_lt VC.out
  go_wp2
  refine post_gen (fun X => X.heap[qb]? = some (.cells #[.slice none 0 0, .int .i64 r, .slice none 0 0, .int .i64 r, .slice none 0 0, .int .i64 r] 31 (0, 0)) ∧ Ext w X) ⟨store6h VP.out, ext6p VE.out hwq⟩ ?_
  rintro X ⟨m5, E5⟩
  have v0 := (heap_cell m5 0).trans rfl
  have v1 := (heap_cell m5 1).trans rfl
  have v2 := (heap_cell m5 2).trans rfl
  have v3 := (heap_cell m5 3).trans rfl
  have v4 := (heap_cell m5 4).trans rfl
  have v5 := (heap_cell m5 5).trans rfl
  clear m5 y0 y1 y2 y3 y4 y5 yf c0 c1
  have HX := Lib.hid E5
  clear E5
  refine bodyPost_ret (by simp [results, Try.results6, go_sem, ↓IntWalk.iteOmega, *]; try rfl) rfl (by rw [← HE.out]; exact ⟨fun _ => none, fun _ => 0, rfl, RpAt.nil _, HX.out⟩)

set_option maxRecDepth 20000 in
set_option maxHeartbeats 1000000 in
theorem rDeep_c (sa : Int → Option Addr) (sc : Int → Nat) (C : Int → Lines) (r : Nat) (p a : Int) (w : World) (h : RpAt w sa sc C) (h0 : 0 ≤ a) (h1 : a ≤ 18446744073709551615) :
    Calls Try.prog 9 #[.agg #[.slice (sa 4) (C 4).length (sc 4), .int .i64 r, .slice (sa 3) (C 3).length (sc 3), .int .i64 r, .slice (sa 2) (C 2).length (sc 2), .int .i64 r], .int .i64 p, .int .u64 a] w (EndDeep (deepF C p a) w) := by
  have H := Lib.hid h
  generalize hE : EndDeep (deepF C p a) w = E
  have HE := Lib.hid hE
  clear hE h
  have HX : Hid (∀ L, 2 ≤ L → L ≤ 4 → (∀ l, 2 ≤ l → l < L → hasK (kP p l a) (C l) = false) → hasK (kP p L a) (C L) = true → deepF C p a = some (L, getLine (kP p L a) (C L))) := Lib.hid fun L l0 l1 hn hh => deepF_at l0 l1 hn hh
  have HG := Lib.hid (fun l w (h : RefAt w (.slice (sa l) (C l).length (sc l)) (C l)) => refGet_c (C l) (kP p l a) (.slice (sa l) (C l).length (sc l)) r w h)
  obtain ⟨a4, ha4⟩ : ∃ a4, sa 4 = a4 := ⟨_, rfl⟩
  obtain ⟨a3, ha3⟩ : ∃ a3, sa 3 = a3 := ⟨_, rfl⟩
  obtain ⟨a2, ha2⟩ : ∃ a2, sa 2 = a2 := ⟨_, rfl⟩
  obtain ⟨c4, hc4⟩ : ∃ c4, sc 4 = c4 := ⟨_, rfl⟩
  obtain ⟨c3, hc3⟩ : ∃ c3, sc 3 = c3 := ⟨_, rfl⟩
  obtain ⟨c2, hc2⟩ : ∃ c2, sc 2 = c2 := ⟨_, rfl⟩
  obtain ⟨n4, hn4⟩ : ∃ n4, (C 4).length = n4 := ⟨_, rfl⟩
  obtain ⟨n3, hn3⟩ : ∃ n3, (C 3).length = n3 := ⟨_, rfl⟩
  obtain ⟨n2, hn2⟩ : ∃ n2, (C 2).length = n2 := ⟨_, rfl⟩
  have HG4 := Lib.hid (HG.out 4)
  have HG3 := Lib.hid (HG.out 3)
  have HG2 := Lib.hid (HG.out 2)
  have R4 := Lib.hid (fun w' (k : Ext w w') => H.out.ext k 4 (by omega) (by omega))
  have R3 := Lib.hid (fun w' (k : Ext w w') => H.out.ext k 3 (by omega) (by omega))
  have R2 := Lib.hid (fun w' (k : Ext w w') => H.out.ext k 2 (by omega) (by omega))
  rw [ha4, hc4, hn4] at HG4 R4
  rw [ha3, hc3, hn3] at HG3 R3
  rw [ha2, hc2, hn2] at HG2 R2
  rw [ha4, hc4, hn4, ha3, hc3, hn3, ha2, hc2, hn2]
  clear ha4 ha3 ha2 hc4 hc3 hc2 hn4 hn3 hn2 HG
  go_enter Try.func9, Try.ntmps9
  go_wp2
  refine wp_gen ?_; intro V hV
  have hVE : Ext w V := by rw [hV]; exact (by repeat (first | exact Ext.refl _ | assumption | refine Ext.alloc ?_ _ | refine Ext.drew ?_ | refine Ext.setCell ?_ (by first | (simp; done) | (dsimp only; omega)) _ | refine Ext.trans ?_ (by assumption)))
  have hVb : V.heap[w.heap.size]? = some (.cells #[.slice a4 n4 c4, .int .i64 r, .slice a3 n3 c3, .int .i64 r, .slice a2 n2 c2, .int .i64 r] 31 (0, 0)) := by rw [hV]; exact (alloc_other _ _ (by simp)).trans (alloc_same ..)
  have hVp : V.heap[w.heap.size + 1]? = some (.cells #[.int .i64 0, .int .u64 0, .bool false, .bool false, .bool false] 49 (0, 0)) := by rw [hV]; exact alloc_same1 ..
  obtain ⟨vb, hvb⟩ : ∃ vb, w.heap.size = vb := ⟨_, rfl⟩
  rw [hvb] at hVb hVp ⊢
  have hwv : w.heap.size ≤ vb := by omega
  have VE := Lib.hid hVE
  have VB := Lib.hid hVb
  have VP := Lib.hid hVp
  clear hV hVE hVb hVp hvb
  go_loopw [8] (fun i wr => ∃ L : Int, 2 ≤ L ∧ L ≤ 5 ∧ i = .int .i64 L ∧ Hid ((∀ l, 2 ≤ l → l < L → hasK (kP p l a) (C l) = false) ∧ Ext V wr)) (fun i _ => (5 - intOf i).toNat)
  case atStart => exact ⟨2, by omega, by omega, rfl, Lib.hid ⟨fun l l0 l1 => by omega, Ext.refl _⟩⟩
  case round =>
    obtain ⟨L, hL0, hL, rfl, hR⟩ := hrel
    have hWb := (hR.out.2.block vb (heap_lt VB.out)).trans VB.out
    have hUq := (hR.out.2.block (vb + 1) (heap_lt VP.out)).trans VP.out
    have UQ := Lib.hid hUq
    have W := Lib.hid (VE.out.trans hR.out.2)
    by_cases hlt : L ≤ 4
    · have HT : Hid (hasK (kP p L a) (C L) = true → deepF C p a = some (L, getLine (kP p L a) (C L))) := Lib.hid fun hh => HX.out L hL0 hlt hR.out.1 hh
      have HN : Hid (hasK (kP p L a) (C L) = false → ∀ l, 2 ≤ l → l < L + 1 → hasK (kP p l a) (C l) = false) := Lib.hid fun hh l l0 l1 => by
        by_cases hll : l = L
        · subst hll; exact hh
        · exact hR.out.1 l l0 (by omega)
      have HKy := Lib.hid (fun w => rpKey_c p L a w (by omega) h0 h1)
      have x0 := (heap_cell hWb 0).trans rfl
      have x1 := (heap_cell hWb 1).trans rfl
      have x2 := (heap_cell hWb 2).trans rfl
      have x3 := (heap_cell hWb 3).trans rfl
      have x4 := (heap_cell hWb 4).trans rfl
      have x5 := (heap_cell hWb 5).trans rfl
      have xl := heap_lt hWb
      have yl := heap_lt hUq
      clear hWb hUq
      have hL3 : L = 2 ∨ L = 3 ∨ L = 4 := by omega
      rcases hL3 with rfl | rfl | rfl
      · skip
        generalize hasK (kP p 2 a) (C 2) = bb at HG2 HT HN
        generalize getLine (kP p 2 a) (C 2) = z at HG2 HT
        generalize kP p 2 a = kk at HKy HG2
        unfold Key.val Line.val at HG2
        unfold Key.val at HKy
        go_upto_region 4 with (fail)
        refine region_mixA 13 (.cells #[.int .u64 0, .bool false, .bool false, .bool false, .bool false, .int .u8 0] 90 (0, 0)) [.q [0, 1, 2, 3, 4, 5, 6, 7], .l 8 5, .l 9 5, .q [10, 11], .b [12], .l 13 4, .l 14 2, .b [15]] (by kernel_rfl) (by kernel_rfl) (alloc_runA rfl (by kernel_rfl : _ = some (some (Value.agg (#[.int .u64 0, .bool false, .bool false, .bool false, .bool false, .int .u8 0])))) rfl) ?_
        (repeat (unfold wpPlanA; simp only [pickL, List.map_cons, List.map_nil, List.getD_cons_succ, List.getD_cons_zero]; (repeat go_big_quiet_step (fail)); refine wpQuiet_nil ?_)); unfold wpPlanA; intro w1 hb1; (try simp only [pickL, List.map_cons, List.map_nil, List.getD_cons_succ, List.getD_cons_zero])
        go_wp2_with (first | (go_at_call 32; refine (HKy.out _).mono ?_; rintro e w2 ⟨rfl, hb2⟩))
        have z1 := hb1.size
        have z2 := hb2.size
        refine ⟨⟨by omega, fun _ => hb2, fun h => absurd h (by omega)⟩, ?_⟩
        have E2 := Lib.hid (W.out.trans (hb1.trans hb2))
        have V2 := Lib.hid (hb1.trans hb2)
        clear hb1 hb2
        (repeat (unfold wpPlanA; simp only [pickL, List.map_cons, List.map_nil, List.getD_cons_succ, List.getD_cons_zero]; (repeat go_big_quiet_step (fail)); refine wpQuiet_nil ?_)); unfold wpPlanA; intro w3 hb3; (try simp only [pickL, List.map_cons, List.map_nil, List.getD_cons_succ, List.getD_cons_zero])
        go_wp2_with (first | (go_at_call 31; refine (HG2.out _ (R2.out _ (E2.out.trans hb3))).mono ?_; rintro e w4 ⟨rfl, hb4⟩))
        have z3 := hb3.size
        have z4 := hb4.size
        refine ⟨⟨by omega, fun _ => hb4, fun h => absurd h (by omega)⟩, ?_⟩
        have E4 := Lib.hid (E2.out.trans (hb3.trans hb4))
        have V4 := Lib.hid (V2.out.trans (hb3.trans hb4))
        clear hb3 hb4 x0 x1 x2 x3 x4 x5
        (repeat (unfold wpPlanA; simp only [pickL, List.map_cons, List.map_nil, List.getD_cons_succ, List.getD_cons_zero]; (repeat go_big_quiet_step (fail)); refine wpQuiet_nil ?_)); unfold wpPlanA; intro zb w5 hb5 hb5B hb5O; simp only [List.getD_cons_succ, List.getD_cons_zero, ptrTo]; simp only [Act.put, Array.set!_eq_setIfInBounds, List.setIfInBounds_toArray, List.set_cons_succ, List.set_cons_zero]
        have E5 := Lib.hid (E4.out.trans hb5)
        have V5 := Lib.hid (V4.out.trans hb5)
        have O5 := Lib.hid hb5O
        have hzb := hb5B
        have hzl := heap_lt hb5O
        have z5 := hb5.size
        clear hb5 hb5O hb5B
        (repeat (unfold wpPlanA; simp only [pickL, List.map_cons, List.map_nil, List.getD_cons_succ, List.getD_cons_zero]; (repeat go_big_quiet_step (fail)); refine wpQuiet_nil ?_)); unfold wpPlanA; intro w6 hb6; (try simp only [pickL, List.map_cons, List.map_nil, List.getD_cons_succ, List.getD_cons_zero])
        have b6 := (hb6.block zb hzl).trans O5.out
        have g0 := (heap_cell b6 0).trans rfl
        have g1 := (heap_cell b6 1).trans rfl
        have g2 := (heap_cell b6 2).trans rfl
        have g3 := (heap_cell b6 3).trans rfl
        have g4 := (heap_cell b6 4).trans rfl
        have g5 := (heap_cell b6 5).trans rfl
        have gf := frozen_of b6
        have gl := heap_lt b6
        have B6 := Lib.hid b6
        have E6 := Lib.hid (E5.out.trans hb6)
        have V6 := Lib.hid (V5.out.trans hb6)
        have z6 := hb6.size
        clear b6 hb6
        go_wp2
        refine ⟨⟨by simp; omega, fun h => absurd h (by omega), fun h => absurd h (by omega)⟩, ?_⟩
        clear g0 g1 g2 g3 g4 g5 gf gl
        (repeat (unfold wpPlanA; simp only [pickL, List.map_cons, List.map_nil, List.getD_cons_succ, List.getD_cons_zero]; (repeat go_big_quiet_step (fail)); refine wpQuiet_nil ?_)); unfold wpPlanA; intro U hU; (try simp only [pickL, List.map_cons, List.map_nil, List.getD_cons_succ, List.getD_cons_zero])
        have hwz : w.heap.size ≤ zb := by have := W.out.size; omega
        have hvz : V.heap.size ≤ zb := by have := hR.out.2.size; omega
        have hUb := (hU.block zb (by simp; exact heap_lt B6.out)).trans (store6h B6.out)
        have EU := Lib.hid ((ext6p E6.out hwz).trans hU)
        have VU : Hid (Ext V U) := Lib.hid ((ext6p (hR.out.2.trans V6.out) hvz).trans hU)
        have UQ2 := Lib.hid ((VU.out.block (vb + 1) (heap_lt VP.out)).trans VP.out)
        have UB := Lib.hid hUb
        clear hU hUb
        cases bb
        · go_wp2
          refine ⟨⟨3, by omega, by omega, by go_num, Lib.hid ⟨HN.out (by first | rfl | trivial), VU.out⟩⟩, by simp [intOf]⟩
        · have q0 := (heap_cell UB.out 0).trans rfl
          have q1 := (heap_cell UB.out 1).trans rfl
          have q2 := (heap_cell UB.out 2).trans rfl
          have q3 := (heap_cell UB.out 3).trans rfl
          have ql := heap_lt UB.out
          have y0 := (heap_cell UQ2.out 0).trans rfl
          have y1 := (heap_cell UQ2.out 1).trans rfl
          have y2 := (heap_cell UQ2.out 2).trans rfl
          have y3 := (heap_cell UQ2.out 3).trans rfl
          have y4 := (heap_cell UQ2.out 4).trans rfl
          have yf := frozen_of UQ2.out
          have yl2 := heap_lt UQ2.out
          go_wp2
          refine post_gen (fun X => X.heap[vb + 1]? = some (.cells #[.int .i64 1, .int .u64 z.f, .bool z.a, .bool z.b, .bool z.c] 49 (0, 0)) ∧ Ext w X) ⟨store5_heap UQ2.out, ext5 EU.out (by omega)⟩ ?_
          rintro X ⟨m5, E5⟩
          have v0 := (heap_cell m5 0).trans rfl
          have v1 := (heap_cell m5 1).trans rfl
          have v2 := (heap_cell m5 2).trans rfl
          have v3 := (heap_cell m5 3).trans rfl
          have v4 := (heap_cell m5 4).trans rfl
          clear m5 y0 y1 y2 y3 y4 yf q0 q1 q2 q3
          rw [← HE.out, HT.out (by first | rfl | trivial), show EndDeep (some (2, z)) w = fun e w' => e = .returned (.tuple #[.agg #[.int .i64 1, .int .u64 z.f, .bool z.a, .bool z.b, .bool z.c], .bool true]) ∧ Ext w w' from rfl]
          refine bodyPost_ret (by simp [results, Try.results9, go_sem, ↓IntWalk.iteOmega, *]; try rfl) rfl ⟨rfl, E5⟩
      · skip
        generalize hasK (kP p 3 a) (C 3) = bb at HG3 HT HN
        generalize getLine (kP p 3 a) (C 3) = z at HG3 HT
        generalize kP p 3 a = kk at HKy HG3
        unfold Key.val Line.val at HG3
        unfold Key.val at HKy
        go_upto_region 4 with (fail)
        refine region_mixA 13 (.cells #[.int .u64 0, .bool false, .bool false, .bool false, .bool false, .int .u8 0] 90 (0, 0)) [.q [0, 1, 2, 3, 4, 5, 6, 7], .l 8 5, .l 9 5, .q [10, 11], .b [12], .l 13 4, .l 14 2, .b [15]] (by kernel_rfl) (by kernel_rfl) (alloc_runA rfl (by kernel_rfl : _ = some (some (Value.agg (#[.int .u64 0, .bool false, .bool false, .bool false, .bool false, .int .u8 0])))) rfl) ?_
        (repeat (unfold wpPlanA; simp only [pickL, List.map_cons, List.map_nil, List.getD_cons_succ, List.getD_cons_zero]; (repeat go_big_quiet_step (fail)); refine wpQuiet_nil ?_)); unfold wpPlanA; intro w1 hb1; (try simp only [pickL, List.map_cons, List.map_nil, List.getD_cons_succ, List.getD_cons_zero])
        go_wp2_with (first | (go_at_call 32; refine (HKy.out _).mono ?_; rintro e w2 ⟨rfl, hb2⟩))
        have z1 := hb1.size
        have z2 := hb2.size
        refine ⟨⟨by omega, fun _ => hb2, fun h => absurd h (by omega)⟩, ?_⟩
        have E2 := Lib.hid (W.out.trans (hb1.trans hb2))
        have V2 := Lib.hid (hb1.trans hb2)
        clear hb1 hb2
        (repeat (unfold wpPlanA; simp only [pickL, List.map_cons, List.map_nil, List.getD_cons_succ, List.getD_cons_zero]; (repeat go_big_quiet_step (fail)); refine wpQuiet_nil ?_)); unfold wpPlanA; intro w3 hb3; (try simp only [pickL, List.map_cons, List.map_nil, List.getD_cons_succ, List.getD_cons_zero])
        go_wp2_with (first | (go_at_call 31; refine (HG3.out _ (R3.out _ (E2.out.trans hb3))).mono ?_; rintro e w4 ⟨rfl, hb4⟩))
        have z3 := hb3.size
        have z4 := hb4.size
        refine ⟨⟨by omega, fun _ => hb4, fun h => absurd h (by omega)⟩, ?_⟩
        have E4 := Lib.hid (E2.out.trans (hb3.trans hb4))
        have V4 := Lib.hid (V2.out.trans (hb3.trans hb4))
        clear hb3 hb4 x0 x1 x2 x3 x4 x5
        (repeat (unfold wpPlanA; simp only [pickL, List.map_cons, List.map_nil, List.getD_cons_succ, List.getD_cons_zero]; (repeat go_big_quiet_step (fail)); refine wpQuiet_nil ?_)); unfold wpPlanA; intro zb w5 hb5 hb5B hb5O; simp only [List.getD_cons_succ, List.getD_cons_zero, ptrTo]; simp only [Act.put, Array.set!_eq_setIfInBounds, List.setIfInBounds_toArray, List.set_cons_succ, List.set_cons_zero]
        have E5 := Lib.hid (E4.out.trans hb5)
        have V5 := Lib.hid (V4.out.trans hb5)
        have O5 := Lib.hid hb5O
        have hzb := hb5B
        have hzl := heap_lt hb5O
        have z5 := hb5.size
        clear hb5 hb5O hb5B
        (repeat (unfold wpPlanA; simp only [pickL, List.map_cons, List.map_nil, List.getD_cons_succ, List.getD_cons_zero]; (repeat go_big_quiet_step (fail)); refine wpQuiet_nil ?_)); unfold wpPlanA; intro w6 hb6; (try simp only [pickL, List.map_cons, List.map_nil, List.getD_cons_succ, List.getD_cons_zero])
        have b6 := (hb6.block zb hzl).trans O5.out
        have g0 := (heap_cell b6 0).trans rfl
        have g1 := (heap_cell b6 1).trans rfl
        have g2 := (heap_cell b6 2).trans rfl
        have g3 := (heap_cell b6 3).trans rfl
        have g4 := (heap_cell b6 4).trans rfl
        have g5 := (heap_cell b6 5).trans rfl
        have gf := frozen_of b6
        have gl := heap_lt b6
        have B6 := Lib.hid b6
        have E6 := Lib.hid (E5.out.trans hb6)
        have V6 := Lib.hid (V5.out.trans hb6)
        have z6 := hb6.size
        clear b6 hb6
        go_wp2
        refine ⟨⟨by simp; omega, fun h => absurd h (by omega), fun h => absurd h (by omega)⟩, ?_⟩
        clear g0 g1 g2 g3 g4 g5 gf gl
        (repeat (unfold wpPlanA; simp only [pickL, List.map_cons, List.map_nil, List.getD_cons_succ, List.getD_cons_zero]; (repeat go_big_quiet_step (fail)); refine wpQuiet_nil ?_)); unfold wpPlanA; intro U hU; (try simp only [pickL, List.map_cons, List.map_nil, List.getD_cons_succ, List.getD_cons_zero])
        have hwz : w.heap.size ≤ zb := by have := W.out.size; omega
        have hvz : V.heap.size ≤ zb := by have := hR.out.2.size; omega
        have hUb := (hU.block zb (by simp; exact heap_lt B6.out)).trans (store6h B6.out)
        have EU := Lib.hid ((ext6p E6.out hwz).trans hU)
        have VU : Hid (Ext V U) := Lib.hid ((ext6p (hR.out.2.trans V6.out) hvz).trans hU)
        have UQ2 := Lib.hid ((VU.out.block (vb + 1) (heap_lt VP.out)).trans VP.out)
        have UB := Lib.hid hUb
        clear hU hUb
        cases bb
        · go_wp2
          refine ⟨⟨4, by omega, by omega, by go_num, Lib.hid ⟨HN.out (by first | rfl | trivial), VU.out⟩⟩, by simp [intOf]⟩
        · have q0 := (heap_cell UB.out 0).trans rfl
          have q1 := (heap_cell UB.out 1).trans rfl
          have q2 := (heap_cell UB.out 2).trans rfl
          have q3 := (heap_cell UB.out 3).trans rfl
          have ql := heap_lt UB.out
          have y0 := (heap_cell UQ2.out 0).trans rfl
          have y1 := (heap_cell UQ2.out 1).trans rfl
          have y2 := (heap_cell UQ2.out 2).trans rfl
          have y3 := (heap_cell UQ2.out 3).trans rfl
          have y4 := (heap_cell UQ2.out 4).trans rfl
          have yf := frozen_of UQ2.out
          have yl2 := heap_lt UQ2.out
          go_wp2
          refine post_gen (fun X => X.heap[vb + 1]? = some (.cells #[.int .i64 2, .int .u64 z.f, .bool z.a, .bool z.b, .bool z.c] 49 (0, 0)) ∧ Ext w X) ⟨store5_heap UQ2.out, ext5 EU.out (by omega)⟩ ?_
          rintro X ⟨m5, E5⟩
          have v0 := (heap_cell m5 0).trans rfl
          have v1 := (heap_cell m5 1).trans rfl
          have v2 := (heap_cell m5 2).trans rfl
          have v3 := (heap_cell m5 3).trans rfl
          have v4 := (heap_cell m5 4).trans rfl
          clear m5 y0 y1 y2 y3 y4 yf q0 q1 q2 q3
          rw [← HE.out, HT.out (by first | rfl | trivial), show EndDeep (some (3, z)) w = fun e w' => e = .returned (.tuple #[.agg #[.int .i64 2, .int .u64 z.f, .bool z.a, .bool z.b, .bool z.c], .bool true]) ∧ Ext w w' from rfl]
          refine bodyPost_ret (by simp [results, Try.results9, go_sem, ↓IntWalk.iteOmega, *]; try rfl) rfl ⟨rfl, E5⟩
      · skip
        generalize hasK (kP p 4 a) (C 4) = bb at HG4 HT HN
        generalize getLine (kP p 4 a) (C 4) = z at HG4 HT
        generalize kP p 4 a = kk at HKy HG4
        unfold Key.val Line.val at HG4
        unfold Key.val at HKy
        go_upto_region 4 with (fail)
        refine region_mixA 13 (.cells #[.int .u64 0, .bool false, .bool false, .bool false, .bool false, .int .u8 0] 90 (0, 0)) [.q [0, 1, 2, 3, 4, 5, 6, 7], .l 8 5, .l 9 5, .q [10, 11], .b [12], .l 13 4, .l 14 2, .b [15]] (by kernel_rfl) (by kernel_rfl) (alloc_runA rfl (by kernel_rfl : _ = some (some (Value.agg (#[.int .u64 0, .bool false, .bool false, .bool false, .bool false, .int .u8 0])))) rfl) ?_
        (repeat (unfold wpPlanA; simp only [pickL, List.map_cons, List.map_nil, List.getD_cons_succ, List.getD_cons_zero]; (repeat go_big_quiet_step (fail)); refine wpQuiet_nil ?_)); unfold wpPlanA; intro w1 hb1; (try simp only [pickL, List.map_cons, List.map_nil, List.getD_cons_succ, List.getD_cons_zero])
        go_wp2_with (first | (go_at_call 32; refine (HKy.out _).mono ?_; rintro e w2 ⟨rfl, hb2⟩))
        have z1 := hb1.size
        have z2 := hb2.size
        refine ⟨⟨by omega, fun _ => hb2, fun h => absurd h (by omega)⟩, ?_⟩
        have E2 := Lib.hid (W.out.trans (hb1.trans hb2))
        have V2 := Lib.hid (hb1.trans hb2)
        clear hb1 hb2
        (repeat (unfold wpPlanA; simp only [pickL, List.map_cons, List.map_nil, List.getD_cons_succ, List.getD_cons_zero]; (repeat go_big_quiet_step (fail)); refine wpQuiet_nil ?_)); unfold wpPlanA; intro w3 hb3; (try simp only [pickL, List.map_cons, List.map_nil, List.getD_cons_succ, List.getD_cons_zero])
        go_wp2_with (first | (go_at_call 31; refine (HG4.out _ (R4.out _ (E2.out.trans hb3))).mono ?_; rintro e w4 ⟨rfl, hb4⟩))
        have z3 := hb3.size
        have z4 := hb4.size
        refine ⟨⟨by omega, fun _ => hb4, fun h => absurd h (by omega)⟩, ?_⟩
        have E4 := Lib.hid (E2.out.trans (hb3.trans hb4))
        have V4 := Lib.hid (V2.out.trans (hb3.trans hb4))
        clear hb3 hb4 x0 x1 x2 x3 x4 x5
        (repeat (unfold wpPlanA; simp only [pickL, List.map_cons, List.map_nil, List.getD_cons_succ, List.getD_cons_zero]; (repeat go_big_quiet_step (fail)); refine wpQuiet_nil ?_)); unfold wpPlanA; intro zb w5 hb5 hb5B hb5O; simp only [List.getD_cons_succ, List.getD_cons_zero, ptrTo]; simp only [Act.put, Array.set!_eq_setIfInBounds, List.setIfInBounds_toArray, List.set_cons_succ, List.set_cons_zero]
        have E5 := Lib.hid (E4.out.trans hb5)
        have V5 := Lib.hid (V4.out.trans hb5)
        have O5 := Lib.hid hb5O
        have hzb := hb5B
        have hzl := heap_lt hb5O
        have z5 := hb5.size
        clear hb5 hb5O hb5B
        (repeat (unfold wpPlanA; simp only [pickL, List.map_cons, List.map_nil, List.getD_cons_succ, List.getD_cons_zero]; (repeat go_big_quiet_step (fail)); refine wpQuiet_nil ?_)); unfold wpPlanA; intro w6 hb6; (try simp only [pickL, List.map_cons, List.map_nil, List.getD_cons_succ, List.getD_cons_zero])
        have b6 := (hb6.block zb hzl).trans O5.out
        have g0 := (heap_cell b6 0).trans rfl
        have g1 := (heap_cell b6 1).trans rfl
        have g2 := (heap_cell b6 2).trans rfl
        have g3 := (heap_cell b6 3).trans rfl
        have g4 := (heap_cell b6 4).trans rfl
        have g5 := (heap_cell b6 5).trans rfl
        have gf := frozen_of b6
        have gl := heap_lt b6
        have B6 := Lib.hid b6
        have E6 := Lib.hid (E5.out.trans hb6)
        have V6 := Lib.hid (V5.out.trans hb6)
        have z6 := hb6.size
        clear b6 hb6
        go_wp2
        refine ⟨⟨by simp; omega, fun h => absurd h (by omega), fun h => absurd h (by omega)⟩, ?_⟩
        clear g0 g1 g2 g3 g4 g5 gf gl
        (repeat (unfold wpPlanA; simp only [pickL, List.map_cons, List.map_nil, List.getD_cons_succ, List.getD_cons_zero]; (repeat go_big_quiet_step (fail)); refine wpQuiet_nil ?_)); unfold wpPlanA; intro U hU; (try simp only [pickL, List.map_cons, List.map_nil, List.getD_cons_succ, List.getD_cons_zero])
        have hwz : w.heap.size ≤ zb := by have := W.out.size; omega
        have hvz : V.heap.size ≤ zb := by have := hR.out.2.size; omega
        have hUb := (hU.block zb (by simp; exact heap_lt B6.out)).trans (store6h B6.out)
        have EU := Lib.hid ((ext6p E6.out hwz).trans hU)
        have VU : Hid (Ext V U) := Lib.hid ((ext6p (hR.out.2.trans V6.out) hvz).trans hU)
        have UQ2 := Lib.hid ((VU.out.block (vb + 1) (heap_lt VP.out)).trans VP.out)
        have UB := Lib.hid hUb
        clear hU hUb
        cases bb
        · go_wp2
          refine ⟨⟨5, by omega, by omega, by go_num, Lib.hid ⟨HN.out (by first | rfl | trivial), VU.out⟩⟩, by simp [intOf]⟩
        · have q0 := (heap_cell UB.out 0).trans rfl
          have q1 := (heap_cell UB.out 1).trans rfl
          have q2 := (heap_cell UB.out 2).trans rfl
          have q3 := (heap_cell UB.out 3).trans rfl
          have ql := heap_lt UB.out
          have y0 := (heap_cell UQ2.out 0).trans rfl
          have y1 := (heap_cell UQ2.out 1).trans rfl
          have y2 := (heap_cell UQ2.out 2).trans rfl
          have y3 := (heap_cell UQ2.out 3).trans rfl
          have y4 := (heap_cell UQ2.out 4).trans rfl
          have yf := frozen_of UQ2.out
          have yl2 := heap_lt UQ2.out
          go_wp2
          refine post_gen (fun X => X.heap[vb + 1]? = some (.cells #[.int .i64 3, .int .u64 z.f, .bool z.a, .bool z.b, .bool z.c] 49 (0, 0)) ∧ Ext w X) ⟨store5_heap UQ2.out, ext5 EU.out (by omega)⟩ ?_
          rintro X ⟨m5, E5⟩
          have v0 := (heap_cell m5 0).trans rfl
          have v1 := (heap_cell m5 1).trans rfl
          have v2 := (heap_cell m5 2).trans rfl
          have v3 := (heap_cell m5 3).trans rfl
          have v4 := (heap_cell m5 4).trans rfl
          clear m5 y0 y1 y2 y3 y4 yf q0 q1 q2 q3
          rw [← HE.out, HT.out (by first | rfl | trivial), show EndDeep (some (4, z)) w = fun e w' => e = .returned (.tuple #[.agg #[.int .i64 3, .int .u64 z.f, .bool z.a, .bool z.b, .bool z.c], .bool true]) ∧ Ext w w' from rfl]
          refine bodyPost_ret (by simp [results, Try.results9, go_sem, ↓IntWalk.iteOmega, *]; try rfl) rfl ⟨rfl, E5⟩
    · obtain rfl : L = 5 := by omega
      have hd : deepF C p a = none := deepF_none.2 fun l l0 l1 => hR.out.1 l l0 (by omega)
      have HD := Lib.hid hd
      have y0 := (heap_cell hUq 0).trans rfl
      have y1 := (heap_cell hUq 1).trans rfl
      have y2 := (heap_cell hUq 2).trans rfl
      have y3 := (heap_cell hUq 3).trans rfl
      have y4 := (heap_cell hUq 4).trans rfl
      have yf := frozen_of hUq
      have yl := heap_lt hUq
      clear hd hUq hWb
      go_wp2
      refine post_gen (fun X => X.heap[vb + 1]? = some (.cells #[.int .i64 0, .int .u64 0, .bool false, .bool false, .bool false] 49 (0, 0)) ∧ Ext w X) ⟨store5_heap UQ.out, ext5 W.out (by omega)⟩ ?_
      rintro X ⟨m5, E5⟩
      have v0 := (heap_cell m5 0).trans rfl
      have v1 := (heap_cell m5 1).trans rfl
      have v2 := (heap_cell m5 2).trans rfl
      have v3 := (heap_cell m5 3).trans rfl
      have v4 := (heap_cell m5 4).trans rfl
      clear m5 y0 y1 y2 y3 y4 yf
      rw [← HE.out, HD.out, deepNone]
      refine bodyPost_ret (by simp [results, Try.results9, go_sem, ↓IntWalk.iteOmega, *]; try rfl) rfl ⟨rfl, E5⟩
end Go.Proofs.Ytkfonacokamfiaa
/- Stores of three cells. Own text. -/
namespace Go.Proofs.Ytkfonacokamfiaa
set_option linter.unusedVariables false
set_option linter.unusedSimpArgs false
open Go.RowKit
attribute [local go_sem] wext_cell wext_frozen wext_heap alloc_cell alloc_frozen alloc_heap setCell_cell objCell_cells objFrozen_cells

theorem Owns.ne {w : World} {e e' : TypeId} {k n : Nat} {v : Value} {xs : List Value} (h : Owns w e k v n xs) {b : Nat} {c : Array Value} (hb : w.heap[b]? = some (.cells c e' (0, 0))) (he : e ≠ e') : ∀ g, v.ownBlock = some g → b ≠ g := fun g hg hbg => by
  obtain ⟨c', hc⟩ := h.heap g hg
  rw [← hbg, hb] at hc
  simp only [Option.some.injEq, Obj.cells.injEq] at hc
  exact he hc.2.1.symm
theorem store3_heap {w : World} {b : Nat} {c0 c1 c2 v0 v1 v2 : Value} {e : TypeId} {f : Nat × Nat} (h : w.heap[b]? = some (.cells #[c0, c1, c2] e f)) :
    (((w.setCell ⟨b, 0, none⟩ v0).setCell ⟨b, 1, none⟩ v1).setCell ⟨b, 2, none⟩ v2).heap[b]? = some (.cells #[v0, v1, v2] e f) := setCell_heap_same (setCell_heap_same (setCell_heap_same h))
theorem store3_other {w : World} {b b' : Nat} {v0 v1 v2 : Value} (h : b ≠ b') : (((w.setCell ⟨b, 0, none⟩ v0).setCell ⟨b, 1, none⟩ v1).setCell ⟨b, 2, none⟩ v2).heap[b']? = w.heap[b']? :=
  (setCell_heap _ _ _ _ _ h).trans ((setCell_heap _ _ _ _ _ h).trans (setCell_heap _ _ _ _ _ h))
theorem ext3 {a w : World} {b : Nat} {v0 v1 v2 : Value} (h : Ext a w) (hb : a.heap.size ≤ b) : Ext a (((w.setCell ⟨b, 0, none⟩ v0).setCell ⟨b, 1, none⟩ v1).setCell ⟨b, 2, none⟩ v2) :=
  Ext.setCell (Ext.setCell (Ext.setCell h hb _) hb _) hb _
theorem alloc_same4 (w : World) (o o1 o2 o3 o4 : Obj) : (((((w.alloc o1).alloc o2).alloc o3).alloc o4).alloc o).heap[w.heap.size + 1 + 1 + 1 + 1]? = some o := by
  have := alloc_same3 (w.alloc o1) o o2 o3 o4
  rwa [World.size_alloc] at this
end Go.Proofs.Ytkfonacokamfiaa
/- The document's entries: slots, leaves, reserved bits, frames. -/
namespace Go.Proofs.Ytkfonacokamfiaa
set_option linter.unusedVariables false
set_option linter.unusedSimpArgs false
open Go.RowKit
attribute [local go_sem] wext_cell wext_frozen wext_heap alloc_cell alloc_frozen alloc_heap setCell_cell objCell_cells objFrozen_cells

theorem rLeaf_c (x l : Int) (w : World) (h0 : 0 ≤ x) (h1 : x ≤ 18446744073709551615) (hl0 : 1 ≤ l) (hl1 : l ≤ 4) :
    Calls Try.prog 48 #[.int .u64 x, .int .i64 l] w fun e w' => e = .returned (.bool (leafI x l)) ∧ Ext w w' := by
  have hb7 : ∀ w, Calls Try.prog 47 #[.int .u64 x, .int .i64 7] w fun e w' => e = .returned (.bool (bitB x 7)) ∧ Ext w w' := fun w => bit_c x 7 w h0 h1 (by omega) (by omega)
  have H7 := Lib.hid hb7
  have hd : Hid (leafI x l = (l == 1 || ((l == 2 || l == 3) && bitB x 7))) := Lib.hid rfl
  generalize leafI x l = r at hd ⊢
  generalize bitB x 7 = q at H7 hd
  clear hb7
  rcases (show l = 1 ∨ l = 2 ∨ l = 3 ∨ l = 4 by omega) with rfl | rfl | rfl | rfl
  all_goals
    go_enter Try.func48, Try.ntmps48
    go_wp2_with (first | (go_at_call 47; refine (H7.out _).mono ?_; rintro e w1 ⟨rfl, hb1⟩))
    go_ret
    exact ⟨by rw [hd.out]; simp, (by repeat (first | exact Ext.refl _ | assumption | refine Ext.alloc ?_ _ | refine Ext.drew ?_ | refine Ext.setCell ?_ (by first | (simp; done) | (dsimp only; omega)) _ | refine Ext.trans ?_ (by assumption)))⟩
end Go.Proofs.Ytkfonacokamfiaa
