/- Translations: Look. -/
import Derived.Test.YtnacgmmkmedpdaaTlbD
namespace Go.Proofs.Ytnacgmmkmedpdaa
set_option linter.unusedVariables false
set_option linter.unusedSimpArgs false
open Go.RowKit
attribute [local go_sem] wext_cell wext_frozen wext_heap alloc_cell alloc_frozen alloc_heap setCell_cell objCell_cells objFrozen_cells

/-- What a look finds: of the line of the small pages, the page's bit and frame, the lines of the great ones. -/
def resR (x1 : Line) (h1 b1 : Bool) (f1 : Int) (x2 : Line) (h2 : Bool) (x3 : Line) (h3 : Bool) : Hit × Bool :=
  if (h1 && b1) = true then (⟨f1, 1, x1.a, x1.b, x1.c, x1.d⟩, true)
  else if h2 = true then (⟨x2.f, 2, x2.a, x2.b, x2.c, x2.d⟩, true)
  else if h3 = true then (⟨x3.f, 3, x3.a, x3.b, x3.c, x3.d⟩, true)
  else (⟨0, 0, false, false, false, false⟩, false)
def lookR (p a : Int) (L : List (Key × Line)) : Hit × Bool :=
  resR (getLine (kT p 1 a) L) (hasK (kT p 1 a) L) (bitB (getLine (kT p 1 a) L).m (placeI a)) (hasF (getLine (kT p 1 a) L) (placeI a)) (getLine (kT p 2 a) L) (hasK (kT p 2 a) L) (getLine (kT p 3 a) L) (hasK (kT p 3 a) L)
def lookV (p a : Int) (L : List (Key × Line)) : Value := .tuple #[(lookR p a L).1.val, .bool (lookR p a L).2]

set_option maxHeartbeats 4000000 in
theorem look_c (tb cb : Nat) (F : List Nat) (L : List (Key × Line)) (r : Nat) (p a : Int) (w : World) (h : TAt w tb cb F L r) (hL : LOk L) (h0 : 0 ≤ a) (h1 : a ≤ 18446744073709551615) :
    Calls Try.prog 40 #[.pointer (some ⟨tb, 0, none⟩), .int .i64 p, .int .u64 a] w fun e w' => e = .returned (lookV p a L) ∧ Ext w w' := by
  have H := Lib.hid h
  have hk1 := fun w => tlbKey_c p 1 a w (.inl rfl) h0 h1
  have hk2 := fun w => tlbKey_c p 2 a w (.inr (.inl rfl)) h0 h1
  have hk3 := fun w => tlbKey_c p 3 a w (.inr (.inr rfl)) h0 h1
  have hpl := fun w => tlbPlace_c a w h0 h1
  obtain ⟨hpl0, hpl1⟩ := placeI_lt a h0
  have hg1 := fun w1 hx => get_c cb F L r (kT p 1 a) w1 ((h.ext (w' := w1) hx).2)
  have hg2 := fun w1 hx => get_c cb F L r (kT p 2 a) w1 ((h.ext (w' := w1) hx).2)
  have hg3 := fun w1 hx => get_c cb F L r (kT p 3 a) w1 ((h.ext (w' := w1) hx).2)
  have hhas := fun w => has_c (getLine (kT p 1 a) L) (placeI a) w (getLine_ok hL) hpl0 hpl1
  generalize hres : lookV p a L = R
  unfold lookV lookR at hres
  generalize kT p 1 a = k1 at *
  generalize kT p 2 a = k2 at *
  generalize kT p 3 a = k3 at *
  generalize placeI a = pl at *
  generalize hasF (getLine k1 L) pl = f1 at *
  generalize bitB (getLine k1 L).m pl = b1 at *
  generalize getLine k1 L = y1 at *
  generalize hasK k1 L = s1 at *
  generalize getLine k2 L = y2 at *
  generalize hasK k2 L = s2 at *
  generalize getLine k3 L = y3 at *
  generalize hasK k3 L = s3 at *
  obtain ⟨yf, ya, yb, yc, yd, ym⟩ := y1
  obtain ⟨uf, ua, ub, uc, ud, um⟩ := y2
  obtain ⟨vf, va, vb, vc, vd, vm⟩ := y3
  unfold Line.val at *
  dsimp only at *
  have HK1 := Lib.hid hk1
  have HK2 := Lib.hid hk2
  have HK3 := Lib.hid hk3
  have HPL := Lib.hid hpl
  have HG1 := Lib.hid hg1
  have HG2 := Lib.hid hg2
  have HG3 := Lib.hid hg3
  have HH := Lib.hid hhas
  have HRES := Aside.mk hres
  clear hk1 hk2 hk3 hpl hg1 hg2 hg3 hhas hres h hL
  go_enter Try.func40, Try.ntmps40
  go_upto_region 3 with (first | (go_at_call 88; refine (cached_c tb cb _ (H.out.ext (by repeat (first | exact Ext.refl _ | assumption | refine Ext.alloc ?_ _ | refine Ext.drew ?_ | refine Ext.setCell ?_ (by first | (simp; done) | (dsimp only; omega)) _ | refine Ext.trans ?_ (by assumption)))).1).mono ?_; rintro e w1 ⟨rfl, hb1⟩) | (go_at_call 89; refine (HK1.out _).mono ?_; rintro e w2 ⟨rfl, hb2⟩) | (go_at_call 29; refine (HG1.out _ ((Ext.trans (by repeat (first | exact Ext.refl _ | assumption | refine Ext.alloc ?_ _ | refine Ext.drew ?_ | refine Ext.setCell ?_ (by first | (simp; done) | (dsimp only; omega)) _ | refine Ext.trans ?_ (by assumption))) hb1).trans hb2)).mono ?_; rintro e w3 ⟨rfl, hb3⟩))
  refine wp_gen ?_; intro W hW
  have EW : Ext w W := by rw [hW]; exact (((Ext.trans (by repeat (first | exact Ext.refl _ | assumption | refine Ext.alloc ?_ _ | refine Ext.drew ?_ | refine Ext.setCell ?_ (by first | (simp; done) | (dsimp only; omega)) _ | refine Ext.trans ?_ (by assumption))) hb1).trans hb2).trans hb3).alloc _
  have r0 : W.heap[w.heap.size]? = some (.cells #[.int .u64 0, .int .i64 0, .bool false, .bool false, .bool false, .bool false] 70 (0, 0)) := by
    rw [hW]; exact (alloc_other _ _ (by have := ((hb1.trans hb2).trans hb3).size; simp at this; omega)).trans ((((hb1.trans hb2).trans hb3).block _ (by simp)).trans (alloc_same ..))
  have n8 : W.heap[w3.heap.size]? = some (.cells #[.int .u64 yf, .bool ya, .bool yb, .bool yc, .bool yd, .int .u8 ym] 38 (0, 0)) := by rw [hW]; exact alloc_same ..
  have hz : w.heap.size < w3.heap.size := by have := ((hb1.trans hb2).trans hb3).size; simp at this; omega
  have hl8 := heap_lt n8
  generalize w3.heap.size = b8 at n8 hz hl8 ⊢
  have N8 := Lib.hid n8
  have R0 := Lib.hid r0
  have HE := Lib.hid EW
  clear hW hb1 hb2 hb3 EW n8 r0
  go_upto_if 26 with (fail)
  go_cut [] (fun wx => Hid (Ext w wx ∧ wx.heap[w.heap.size]? = some (.cells #[.int .u64 0, .int .i64 0, .bool false, .bool false, .bool false, .bool false] 70 (0, 0)) ∧ (s1 && b1) = false))
  case first =>
    cases s1
    · go_wp2
      go_meet
      exact ⟨HE.out, R0.out, rfl⟩
    · have g0 := (heap_cell N8.out 0).trans rfl
      have g1 := (heap_cell N8.out 1).trans rfl
      have g2 := (heap_cell N8.out 2).trans rfl
      have g3 := (heap_cell N8.out 3).trans rfl
      have g4 := (heap_cell N8.out 4).trans rfl
      have g5 := (heap_cell N8.out 5).trans rfl
      go_upto_region 4 with (fail)
      refine region_ext (by kernel_rfl) (by kernel_rfl) ?_; (repeat (go_big_quiet_step (first | (go_at_call 90; exact calls_wext (HPL.out _)) | (go_at_call 46; exact calls_wext (HH.out _))))); refine wpQuiet_nil ?_; intro w1 hb; have ⟨hc, hf, hh, hs⟩ := hb.facts; try simp only [World.size_alloc, World.size_setCell, World.size_drew] at hs
      have EQ : Hid (Ext w w1) := Lib.hid (HE.out.trans hb)
      have RQ : Hid (w1.heap[w.heap.size]? = some (.cells #[.int .u64 0, .int .i64 0, .bool false, .bool false, .bool false, .bool false] 70 (0, 0))) := Lib.hid ((hb.block _ (by omega)).trans R0.out)
      have n9 := (hb.block _ hl8).trans N8.out
      clear hb hc hf hh hs g0 g1 g2 g3 g4 g5
      cases b1
      · go_wp2
        go_meet
        exact ⟨EQ.out, RQ.out, rfl⟩
      · have g0 := (heap_cell n9 0).trans rfl
        have g1 := (heap_cell n9 1).trans rfl
        have g2 := (heap_cell n9 2).trans rfl
        have g3 := (heap_cell n9 3).trans rfl
        have g4 := (heap_cell n9 4).trans rfl
        have g5 := (heap_cell n9 5).trans rfl
        have q0 := (heap_cell RQ.out 0).trans rfl
        have q1 := (heap_cell RQ.out 1).trans rfl
        have q2 := (heap_cell RQ.out 2).trans rfl
        have q3 := (heap_cell RQ.out 3).trans rfl
        have q4 := (heap_cell RQ.out 4).trans rfl
        have q5 := (heap_cell RQ.out 5).trans rfl
        have qf := frozen_of RQ.out
        clear n9
        go_wp2
        refine post_gen (fun U => U.heap[w.heap.size]? = some (.cells #[.int .u64 f1, .int .i64 1, .bool ya, .bool yb, .bool yc, .bool yd] 70 (0, 0)) ∧ Ext w U) ⟨?_, ?_⟩ ?_
        · exact store6_heap RQ.out
        · exact ext6 EQ.out (Nat.le_refl _)
        rintro U ⟨m5, E5⟩
        have v0 := (heap_cell m5 0).trans rfl
        have v1 := (heap_cell m5 1).trans rfl
        have v2 := (heap_cell m5 2).trans rfl
        have v3 := (heap_cell m5 3).trans rfl
        have v4 := (heap_cell m5 4).trans rfl
        have v5 := (heap_cell m5 5).trans rfl
        clear m5 g0 g1 g2 g3 g4 g5 q0 q1 q2 q3 q4 q5 qf
        rw [← HRES.out]
        refine bodyPost_ret (by simp [results, Try.results40, go_sem, ↓IntWalk.iteOmega, *]; try rfl) rfl ⟨by simp [resR, Hit.val], E5⟩
  case rest =>
    obtain ⟨hE1, hR1, hS⟩ := hcut.out
    have H1 := Lib.hid hE1
    have H2 := Lib.hid hR1
    clear hE1 hR1 hcut
    go_wp2
    go_loopw [13] (fun lv wr => ∃ j : Nat, j ≤ 2 ∧ lv = .int .i64 ((j : Int) + 2) ∧ Hid (Ext w wr ∧ wr.heap[w.heap.size]? = some (.cells #[.int .u64 0, .int .i64 0, .bool false, .bool false, .bool false, .bool false] 70 (0, 0)) ∧ (0 < j → s2 = false) ∧ (1 < j → s3 = false))) (fun lv _ => 4 - (intOf lv).toNat)
    case atStart => exact ⟨0, by omega, rfl, Lib.hid ⟨H1.out, H2.out, fun h => absurd h (by omega), fun h => absurd h (by omega)⟩⟩
    case round =>
    obtain ⟨j, hj, rfl, hR⟩ := hrel
    rcases (show j = 0 ∨ j = 1 ∨ j = 2 by omega) with rfl | rfl | rfl
    · skip
      have hl2 := HE
      go_upto_region 11 with (first | (go_at_call 89; refine (HK2.out _).mono ?_; rintro e w4 ⟨rfl, hb4⟩) | (go_at_call 29; refine (HG2.out _ (hR.out.1.trans hb4)).mono ?_; rintro e w5 ⟨rfl, hb5⟩))
      refine wp_gen ?_; intro V hV
      have EQ : Hid (Ext w V) := Lib.hid (by rw [hV]; exact ((hR.out.1.trans hb4).trans hb5).alloc _)
      have n9 : V.heap[w5.heap.size]? = some (.cells #[.int .u64 uf, .bool ua, .bool ub, .bool uc, .bool ud, .int .u8 um] 38 (0, 0)) := by rw [hV]; exact alloc_same ..
      have hlr := heap_lt hR.out.2.1
      have RQ : Hid (V.heap[w.heap.size]? = some (.cells #[.int .u64 0, .int .i64 0, .bool false, .bool false, .bool false, .bool false] 70 (0, 0))) := Lib.hid (by rw [hV]; exact (alloc_other _ _ (by have := (hb4.trans hb5).size; omega)).trans (((hb4.trans hb5).block _ hlr).trans hR.out.2.1))
      have hz9 : w.heap.size < w5.heap.size := by have := (hb4.trans hb5).size; omega
      have hl9 := heap_lt n9
      generalize w5.heap.size = b9 at n9 hz9 hl9 ⊢
      clear hV hb4 hb5
      cases s2
      · go_wp2
        refine ⟨⟨1, by omega, by go_num, Lib.hid ⟨EQ.out, RQ.out, fun _ => by simp, fun h => absurd h (by omega)⟩⟩, by simp [intOf]⟩
      · have g0 := (heap_cell n9 0).trans rfl
        have g1 := (heap_cell n9 1).trans rfl
        have g2 := (heap_cell n9 2).trans rfl
        have g3 := (heap_cell n9 3).trans rfl
        have g4 := (heap_cell n9 4).trans rfl
        have g5 := (heap_cell n9 5).trans rfl
        have q0 := (heap_cell RQ.out 0).trans rfl
        have q1 := (heap_cell RQ.out 1).trans rfl
        have q2 := (heap_cell RQ.out 2).trans rfl
        have q3 := (heap_cell RQ.out 3).trans rfl
        have q4 := (heap_cell RQ.out 4).trans rfl
        have q5 := (heap_cell RQ.out 5).trans rfl
        have qf := frozen_of RQ.out
        clear n9
        go_wp2
        refine post_gen (fun U => U.heap[w.heap.size]? = some (.cells #[.int .u64 uf, .int .i64 2, .bool ua, .bool ub, .bool uc, .bool ud] 70 (0, 0)) ∧ Ext w U) ⟨?_, ?_⟩ ?_
        · exact store6_heap RQ.out
        · exact ext6 EQ.out (Nat.le_refl _)
        rintro U ⟨m5, E5⟩
        have v0 := (heap_cell m5 0).trans rfl
        have v1 := (heap_cell m5 1).trans rfl
        have v2 := (heap_cell m5 2).trans rfl
        have v3 := (heap_cell m5 3).trans rfl
        have v4 := (heap_cell m5 4).trans rfl
        have v5 := (heap_cell m5 5).trans rfl
        clear m5 g0 g1 g2 g3 g4 g5 q0 q1 q2 q3 q4 q5 qf
        rw [← HRES.out]
        refine bodyPost_ret (by simp [results, Try.results40, go_sem, ↓IntWalk.iteOmega, *]; try rfl) rfl ⟨by simp [resR, Hit.val, hS], E5⟩
    · have hs2 := hR.out.2.2.1
      have hl3 := HE
      go_upto_region 11 with (first | (go_at_call 89; refine (HK3.out _).mono ?_; rintro e w4 ⟨rfl, hb4⟩) | (go_at_call 29; refine (HG3.out _ (hR.out.1.trans hb4)).mono ?_; rintro e w5 ⟨rfl, hb5⟩))
      refine wp_gen ?_; intro V hV
      have EQ : Hid (Ext w V) := Lib.hid (by rw [hV]; exact ((hR.out.1.trans hb4).trans hb5).alloc _)
      have n9 : V.heap[w5.heap.size]? = some (.cells #[.int .u64 vf, .bool va, .bool vb, .bool vc, .bool vd, .int .u8 vm] 38 (0, 0)) := by rw [hV]; exact alloc_same ..
      have hlr := heap_lt hR.out.2.1
      have RQ : Hid (V.heap[w.heap.size]? = some (.cells #[.int .u64 0, .int .i64 0, .bool false, .bool false, .bool false, .bool false] 70 (0, 0))) := Lib.hid (by rw [hV]; exact (alloc_other _ _ (by have := (hb4.trans hb5).size; omega)).trans (((hb4.trans hb5).block _ hlr).trans hR.out.2.1))
      have hz9 : w.heap.size < w5.heap.size := by have := (hb4.trans hb5).size; omega
      have hl9 := heap_lt n9
      generalize w5.heap.size = b9 at n9 hz9 hl9 ⊢
      clear hV hb4 hb5
      cases s3
      · go_wp2
        refine ⟨⟨2, by omega, by go_num, Lib.hid ⟨EQ.out, RQ.out, fun _ => hs2 (by omega), fun _ => by simp⟩⟩, by simp [intOf]⟩
      · have g0 := (heap_cell n9 0).trans rfl
        have g1 := (heap_cell n9 1).trans rfl
        have g2 := (heap_cell n9 2).trans rfl
        have g3 := (heap_cell n9 3).trans rfl
        have g4 := (heap_cell n9 4).trans rfl
        have g5 := (heap_cell n9 5).trans rfl
        have q0 := (heap_cell RQ.out 0).trans rfl
        have q1 := (heap_cell RQ.out 1).trans rfl
        have q2 := (heap_cell RQ.out 2).trans rfl
        have q3 := (heap_cell RQ.out 3).trans rfl
        have q4 := (heap_cell RQ.out 4).trans rfl
        have q5 := (heap_cell RQ.out 5).trans rfl
        have qf := frozen_of RQ.out
        clear n9
        go_wp2
        refine post_gen (fun U => U.heap[w.heap.size]? = some (.cells #[.int .u64 vf, .int .i64 3, .bool va, .bool vb, .bool vc, .bool vd] 70 (0, 0)) ∧ Ext w U) ⟨?_, ?_⟩ ?_
        · exact store6_heap RQ.out
        · exact ext6 EQ.out (Nat.le_refl _)
        rintro U ⟨m5, E5⟩
        have v0 := (heap_cell m5 0).trans rfl
        have v1 := (heap_cell m5 1).trans rfl
        have v2 := (heap_cell m5 2).trans rfl
        have v3 := (heap_cell m5 3).trans rfl
        have v4 := (heap_cell m5 4).trans rfl
        have v5 := (heap_cell m5 5).trans rfl
        clear m5 g0 g1 g2 g3 g4 g5 q0 q1 q2 q3 q4 q5 qf
        rw [← HRES.out]
        refine bodyPost_ret (by simp [results, Try.results40, go_sem, ↓IntWalk.iteOmega, *]; try rfl) rfl ⟨by simp [resR, Hit.val, hS, hs2 (by omega)], E5⟩
    · have hs2 := hR.out.2.2.1 (by omega)
      have hs3 := hR.out.2.2.2 (by omega)
      have RQ := Lib.hid hR.out.2.1
      have EQ := Lib.hid hR.out.1
      have q0 := (heap_cell RQ.out 0).trans rfl
      have q1 := (heap_cell RQ.out 1).trans rfl
      have q2 := (heap_cell RQ.out 2).trans rfl
      have q3 := (heap_cell RQ.out 3).trans rfl
      have q4 := (heap_cell RQ.out 4).trans rfl
      have q5 := (heap_cell RQ.out 5).trans rfl
      have qf := frozen_of RQ.out
      go_wp2
      refine post_gen (fun U => U.heap[w.heap.size]? = some (.cells #[.int .u64 0, .int .i64 0, .bool false, .bool false, .bool false, .bool false] 70 (0, 0)) ∧ Ext w U) ⟨?_, ?_⟩ ?_
      · exact store6_heap RQ.out
      · exact ext6 EQ.out (Nat.le_refl _)
      rintro U ⟨m5, E5⟩
      have v0 := (heap_cell m5 0).trans rfl
      have v1 := (heap_cell m5 1).trans rfl
      have v2 := (heap_cell m5 2).trans rfl
      have v3 := (heap_cell m5 3).trans rfl
      have v4 := (heap_cell m5 4).trans rfl
      have v5 := (heap_cell m5 5).trans rfl
      clear m5 q0 q1 q2 q3 q4 q5 qf
      rw [← HRES.out]
      refine bodyPost_ret (by simp [results, Try.results40, go_sem, ↓IntWalk.iteOmega, *]; try rfl) rfl ⟨by simp [resR, Hit.val, hS, hs2, hs3], E5⟩
end Go.Proofs.Ytnacgmmkmedpdaa
