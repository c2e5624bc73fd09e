/- Joined texts, part 33 of what the law stands on: each as its own head says. -/
import Derived.Test.YtakkjpdolkokfaaPln32
import Derived.Test.YtakkjpdolkokfaaPln11
import Derived.ChangeKeysEq
/- Translations: Look. -/
namespace Go.Proofs.Ytakkjpdolkokfaa
set_option linter.unusedVariables false
set_option linter.unusedSimpArgs false
open Go.RowKit
attribute [local go_sem] wext_cell wext_frozen wext_heap alloc_cell alloc_frozen alloc_heap setCell_cell objCell_cells objFrozen_cells

/-- What a look finds: of the line of the small pages, the page's bit and frame, the lines of the great ones. -/
def resR (x1 : Line) (h1 b1 : Bool) (f1 : Int) (x2 : Line) (h2 : Bool) (x3 : Line) (h3 : Bool) : Hit × Bool :=
  if (h1 && b1) = true then (⟨f1, 1, x1.a, x1.b, x1.c, x1.d⟩, true)
  else if h2 = true then (⟨x2.f, 2, x2.a, x2.b, x2.c, x2.d⟩, true)
  else if h3 = true then (⟨x3.f, 3, x3.a, x3.b, x3.c, x3.d⟩, true)
  else (⟨0, 0, false, false, false, false⟩, false)
def lookR (p a : Int) (L : List (Key × Line)) : Hit × Bool :=
  resR (getLine (kT p 1 a) L) (hasK (kT p 1 a) L) (bitB (getLine (kT p 1 a) L).m (placeI a)) (hasF (getLine (kT p 1 a) L) (placeI a)) (getLine (kT p 2 a) L) (hasK (kT p 2 a) L) (getLine (kT p 3 a) L) (hasK (kT p 3 a) L)
def lookV (p a : Int) (L : List (Key × Line)) : Value := .tuple #[(lookR p a L).1.val, .bool (lookR p a L).2]

set_option maxHeartbeats 4000000 in
theorem look_c (tb cb : Nat) (F : List Nat) (L : List (Key × Line)) (r : Nat) (p a : Int) (w : World) (h : TAt w tb cb F L r) (hL : LOk L) (h0 : 0 ≤ a) (h1 : a ≤ 18446744073709551615) :
    Calls Try.prog 91 #[.pointer (some ⟨tb, 0, none⟩), .int .i64 p, .int .u64 a] w fun e w' => e = .returned (lookV p a L) ∧ Ext w w' := by
  have H := Lib.hid h
  have hk1 := fun w => tlbKey_c p 1 a w (.inl rfl) h0 h1
  have hk2 := fun w => tlbKey_c p 2 a w (.inr (.inl rfl)) h0 h1
  have hk3 := fun w => tlbKey_c p 3 a w (.inr (.inr rfl)) h0 h1
  have hpl := fun w => tlbPlace_c a w h0 h1
  obtain ⟨hpl0, hpl1⟩ := placeI_lt a h0
  have hg1 := fun w1 hx => get_c cb F L r (kT p 1 a) w1 ((h.ext (w' := w1) hx).2)
  have hg2 := fun w1 hx => get_c cb F L r (kT p 2 a) w1 ((h.ext (w' := w1) hx).2)
  have hg3 := fun w1 hx => get_c cb F L r (kT p 3 a) w1 ((h.ext (w' := w1) hx).2)
  have hhas := fun w => has_c (getLine (kT p 1 a) L) (placeI a) w (getLine_ok hL) hpl0 hpl1
  generalize hres : lookV p a L = R
  unfold lookV lookR at hres
  generalize kT p 1 a = k1 at *
  generalize kT p 2 a = k2 at *
  generalize kT p 3 a = k3 at *
  generalize placeI a = pl at *
  generalize hasF (getLine k1 L) pl = f1 at *
  generalize bitB (getLine k1 L).m pl = b1 at *
  generalize getLine k1 L = y1 at *
  generalize hasK k1 L = s1 at *
  generalize getLine k2 L = y2 at *
  generalize hasK k2 L = s2 at *
  generalize getLine k3 L = y3 at *
  generalize hasK k3 L = s3 at *
  obtain ⟨yf, ya, yb, yc, yd, ym⟩ := y1
  obtain ⟨uf, ua, ub, uc, ud, um⟩ := y2
  obtain ⟨vf, va, vb, vc, vd, vm⟩ := y3
  unfold Line.val at *
  dsimp only at *
  have HK1 := Lib.hid hk1
  have HK2 := Lib.hid hk2
  have HK3 := Lib.hid hk3
  have HPL := Lib.hid hpl
  have HG1 := Lib.hid hg1
  have HG2 := Lib.hid hg2
  have HG3 := Lib.hid hg3
  have HH := Lib.hid hhas
  have HRES := Aside.mk hres
  clear hk1 hk2 hk3 hpl hg1 hg2 hg3 hhas hres h hL
  go_enter Try.func91, Try.ntmps91
  go_upto_region 3 with (first | (go_at_call 105; refine (cached_c tb cb _ (H.out.ext (by repeat (first | exact Ext.refl _ | assumption | refine Ext.alloc ?_ _ | refine Ext.drew ?_ | refine Ext.setCell ?_ (by first | (simp; done) | (dsimp only; omega)) _ | refine Ext.trans ?_ (by assumption)))).1).mono ?_; rintro e w1 ⟨rfl, hb1⟩) | (go_at_call 106; refine (HK1.out _).mono ?_; rintro e w2 ⟨rfl, hb2⟩) | (go_at_call 46; refine (HG1.out _ ((Ext.trans (by repeat (first | exact Ext.refl _ | assumption | refine Ext.alloc ?_ _ | refine Ext.drew ?_ | refine Ext.setCell ?_ (by first | (simp; done) | (dsimp only; omega)) _ | refine Ext.trans ?_ (by assumption))) hb1).trans hb2)).mono ?_; rintro e w3 ⟨rfl, hb3⟩))
  refine wp_gen ?_; intro W hW
  have EW : Ext w W := by rw [hW]; exact (((Ext.trans (by repeat (first | exact Ext.refl _ | assumption | refine Ext.alloc ?_ _ | refine Ext.drew ?_ | refine Ext.setCell ?_ (by first | (simp; done) | (dsimp only; omega)) _ | refine Ext.trans ?_ (by assumption))) hb1).trans hb2).trans hb3).alloc _
  have r0 : W.heap[w.heap.size]? = some (.cells #[.int .u64 0, .int .i64 0, .bool false, .bool false, .bool false, .bool false] 179 (0, 0)) := by
    rw [hW]; exact (alloc_other _ _ (by have := ((hb1.trans hb2).trans hb3).size; simp at this; omega)).trans ((((hb1.trans hb2).trans hb3).block _ (by simp)).trans (alloc_same ..))
  have n8 : W.heap[w3.heap.size]? = some (.cells #[.int .u64 yf, .bool ya, .bool yb, .bool yc, .bool yd, .int .u8 ym] 117 (0, 0)) := by rw [hW]; exact alloc_same ..
  have hz : w.heap.size < w3.heap.size := by have := ((hb1.trans hb2).trans hb3).size; simp at this; omega
  have hl8 := heap_lt n8
  generalize w3.heap.size = b8 at n8 hz hl8 ⊢
  have N8 := Lib.hid n8
  have R0 := Lib.hid r0
  have HE := Lib.hid EW
  clear hW hb1 hb2 hb3 EW n8 r0
  go_upto_if 26 with (fail)
  go_cut [] (fun wx => Hid (Ext w wx ∧ wx.heap[w.heap.size]? = some (.cells #[.int .u64 0, .int .i64 0, .bool false, .bool false, .bool false, .bool false] 179 (0, 0)) ∧ (s1 && b1) = false))
  case first =>
    cases s1
    · go_wp2
      go_meet
      exact ⟨HE.out, R0.out, rfl⟩
    · have g0 := (heap_cell N8.out 0).trans rfl
      have g1 := (heap_cell N8.out 1).trans rfl
      have g2 := (heap_cell N8.out 2).trans rfl
      have g3 := (heap_cell N8.out 3).trans rfl
      have g4 := (heap_cell N8.out 4).trans rfl
      have g5 := (heap_cell N8.out 5).trans rfl
      go_upto_region 4 with (fail)
      refine region_ext (by kernel_rfl) (by kernel_rfl) ?_; (repeat (go_big_quiet_step (first | (go_at_call 108; exact calls_wext (HPL.out _)) | (go_at_call 107; exact calls_wext (HH.out _))))); refine wpQuiet_nil ?_; intro w1 hb; have ⟨hc, hf, hh, hs⟩ := hb.facts; try simp only [World.size_alloc, World.size_setCell, World.size_drew] at hs
      have EQ : Hid (Ext w w1) := Lib.hid (HE.out.trans hb)
      have RQ : Hid (w1.heap[w.heap.size]? = some (.cells #[.int .u64 0, .int .i64 0, .bool false, .bool false, .bool false, .bool false] 179 (0, 0))) := Lib.hid ((hb.block _ (by omega)).trans R0.out)
      have n9 := (hb.block _ hl8).trans N8.out
      clear hb hc hf hh hs g0 g1 g2 g3 g4 g5
      cases b1
      · go_wp2
        go_meet
        exact ⟨EQ.out, RQ.out, rfl⟩
      · have g0 := (heap_cell n9 0).trans rfl
        have g1 := (heap_cell n9 1).trans rfl
        have g2 := (heap_cell n9 2).trans rfl
        have g3 := (heap_cell n9 3).trans rfl
        have g4 := (heap_cell n9 4).trans rfl
        have g5 := (heap_cell n9 5).trans rfl
        have q0 := (heap_cell RQ.out 0).trans rfl
        have q1 := (heap_cell RQ.out 1).trans rfl
        have q2 := (heap_cell RQ.out 2).trans rfl
        have q3 := (heap_cell RQ.out 3).trans rfl
        have q4 := (heap_cell RQ.out 4).trans rfl
        have q5 := (heap_cell RQ.out 5).trans rfl
        have qf := frozen_of RQ.out
        clear n9
        go_wp2
        refine post_gen (fun U => U.heap[w.heap.size]? = some (.cells #[.int .u64 f1, .int .i64 1, .bool ya, .bool yb, .bool yc, .bool yd] 179 (0, 0)) ∧ Ext w U) ⟨?_, ?_⟩ ?_
        · exact store6_heap RQ.out
        · exact ext6 EQ.out (Nat.le_refl _)
        rintro U ⟨m5, E5⟩
        have v0 := (heap_cell m5 0).trans rfl
        have v1 := (heap_cell m5 1).trans rfl
        have v2 := (heap_cell m5 2).trans rfl
        have v3 := (heap_cell m5 3).trans rfl
        have v4 := (heap_cell m5 4).trans rfl
        have v5 := (heap_cell m5 5).trans rfl
        clear m5 g0 g1 g2 g3 g4 g5 q0 q1 q2 q3 q4 q5 qf
        rw [← HRES.out]
        refine bodyPost_ret (by simp [results, Try.results91, go_sem, ↓IntWalk.iteOmega, *]; try rfl) rfl ⟨by simp [resR, Hit.val], E5⟩
  case rest =>
    obtain ⟨hE1, hR1, hS⟩ := hcut.out
    have H1 := Lib.hid hE1
    have H2 := Lib.hid hR1
    clear hE1 hR1 hcut
    go_wp2
    go_loopw [13] (fun lv wr => ∃ j : Nat, j ≤ 2 ∧ lv = .int .i64 ((j : Int) + 2) ∧ Hid (Ext w wr ∧ wr.heap[w.heap.size]? = some (.cells #[.int .u64 0, .int .i64 0, .bool false, .bool false, .bool false, .bool false] 179 (0, 0)) ∧ (0 < j → s2 = false) ∧ (1 < j → s3 = false))) (fun lv _ => 4 - (intOf lv).toNat)
    case atStart => exact ⟨0, by omega, rfl, Lib.hid ⟨H1.out, H2.out, fun h => absurd h (by omega), fun h => absurd h (by omega)⟩⟩
    case round =>
    obtain ⟨j, hj, rfl, hR⟩ := hrel
    rcases (show j = 0 ∨ j = 1 ∨ j = 2 by omega) with rfl | rfl | rfl
    · skip
      have hl2 := HE
      go_upto_region 11 with (first | (go_at_call 106; refine (HK2.out _).mono ?_; rintro e w4 ⟨rfl, hb4⟩) | (go_at_call 46; refine (HG2.out _ (hR.out.1.trans hb4)).mono ?_; rintro e w5 ⟨rfl, hb5⟩))
      refine wp_gen ?_; intro V hV
      have EQ : Hid (Ext w V) := Lib.hid (by rw [hV]; exact ((hR.out.1.trans hb4).trans hb5).alloc _)
      have n9 : V.heap[w5.heap.size]? = some (.cells #[.int .u64 uf, .bool ua, .bool ub, .bool uc, .bool ud, .int .u8 um] 117 (0, 0)) := by rw [hV]; exact alloc_same ..
      have hlr := heap_lt hR.out.2.1
      have RQ : Hid (V.heap[w.heap.size]? = some (.cells #[.int .u64 0, .int .i64 0, .bool false, .bool false, .bool false, .bool false] 179 (0, 0))) := Lib.hid (by rw [hV]; exact (alloc_other _ _ (by have := (hb4.trans hb5).size; omega)).trans (((hb4.trans hb5).block _ hlr).trans hR.out.2.1))
      have hz9 : w.heap.size < w5.heap.size := by have := (hb4.trans hb5).size; omega
      have hl9 := heap_lt n9
      generalize w5.heap.size = b9 at n9 hz9 hl9 ⊢
      clear hV hb4 hb5
      cases s2
      · go_wp2
        refine ⟨⟨1, by omega, by go_num, Lib.hid ⟨EQ.out, RQ.out, fun _ => by simp, fun h => absurd h (by omega)⟩⟩, by simp [intOf]⟩
      · have g0 := (heap_cell n9 0).trans rfl
        have g1 := (heap_cell n9 1).trans rfl
        have g2 := (heap_cell n9 2).trans rfl
        have g3 := (heap_cell n9 3).trans rfl
        have g4 := (heap_cell n9 4).trans rfl
        have g5 := (heap_cell n9 5).trans rfl
        have q0 := (heap_cell RQ.out 0).trans rfl
        have q1 := (heap_cell RQ.out 1).trans rfl
        have q2 := (heap_cell RQ.out 2).trans rfl
        have q3 := (heap_cell RQ.out 3).trans rfl
        have q4 := (heap_cell RQ.out 4).trans rfl
        have q5 := (heap_cell RQ.out 5).trans rfl
        have qf := frozen_of RQ.out
        clear n9
        go_wp2
        refine post_gen (fun U => U.heap[w.heap.size]? = some (.cells #[.int .u64 uf, .int .i64 2, .bool ua, .bool ub, .bool uc, .bool ud] 179 (0, 0)) ∧ Ext w U) ⟨?_, ?_⟩ ?_
        · exact store6_heap RQ.out
        · exact ext6 EQ.out (Nat.le_refl _)
        rintro U ⟨m5, E5⟩
        have v0 := (heap_cell m5 0).trans rfl
        have v1 := (heap_cell m5 1).trans rfl
        have v2 := (heap_cell m5 2).trans rfl
        have v3 := (heap_cell m5 3).trans rfl
        have v4 := (heap_cell m5 4).trans rfl
        have v5 := (heap_cell m5 5).trans rfl
        clear m5 g0 g1 g2 g3 g4 g5 q0 q1 q2 q3 q4 q5 qf
        rw [← HRES.out]
        refine bodyPost_ret (by simp [results, Try.results91, go_sem, ↓IntWalk.iteOmega, *]; try rfl) rfl ⟨by simp [resR, Hit.val, hS], E5⟩
    · have hs2 := hR.out.2.2.1
      have hl3 := HE
      go_upto_region 11 with (first | (go_at_call 106; refine (HK3.out _).mono ?_; rintro e w4 ⟨rfl, hb4⟩) | (go_at_call 46; refine (HG3.out _ (hR.out.1.trans hb4)).mono ?_; rintro e w5 ⟨rfl, hb5⟩))
      refine wp_gen ?_; intro V hV
      have EQ : Hid (Ext w V) := Lib.hid (by rw [hV]; exact ((hR.out.1.trans hb4).trans hb5).alloc _)
      have n9 : V.heap[w5.heap.size]? = some (.cells #[.int .u64 vf, .bool va, .bool vb, .bool vc, .bool vd, .int .u8 vm] 117 (0, 0)) := by rw [hV]; exact alloc_same ..
      have hlr := heap_lt hR.out.2.1
      have RQ : Hid (V.heap[w.heap.size]? = some (.cells #[.int .u64 0, .int .i64 0, .bool false, .bool false, .bool false, .bool false] 179 (0, 0))) := Lib.hid (by rw [hV]; exact (alloc_other _ _ (by have := (hb4.trans hb5).size; omega)).trans (((hb4.trans hb5).block _ hlr).trans hR.out.2.1))
      have hz9 : w.heap.size < w5.heap.size := by have := (hb4.trans hb5).size; omega
      have hl9 := heap_lt n9
      generalize w5.heap.size = b9 at n9 hz9 hl9 ⊢
      clear hV hb4 hb5
      cases s3
      · go_wp2
        refine ⟨⟨2, by omega, by go_num, Lib.hid ⟨EQ.out, RQ.out, fun _ => hs2 (by omega), fun _ => by simp⟩⟩, by simp [intOf]⟩
      · have g0 := (heap_cell n9 0).trans rfl
        have g1 := (heap_cell n9 1).trans rfl
        have g2 := (heap_cell n9 2).trans rfl
        have g3 := (heap_cell n9 3).trans rfl
        have g4 := (heap_cell n9 4).trans rfl
        have g5 := (heap_cell n9 5).trans rfl
        have q0 := (heap_cell RQ.out 0).trans rfl
        have q1 := (heap_cell RQ.out 1).trans rfl
        have q2 := (heap_cell RQ.out 2).trans rfl
        have q3 := (heap_cell RQ.out 3).trans rfl
        have q4 := (heap_cell RQ.out 4).trans rfl
        have q5 := (heap_cell RQ.out 5).trans rfl
        have qf := frozen_of RQ.out
        clear n9
        go_wp2
        refine post_gen (fun U => U.heap[w.heap.size]? = some (.cells #[.int .u64 vf, .int .i64 3, .bool va, .bool vb, .bool vc, .bool vd] 179 (0, 0)) ∧ Ext w U) ⟨?_, ?_⟩ ?_
        · exact store6_heap RQ.out
        · exact ext6 EQ.out (Nat.le_refl _)
        rintro U ⟨m5, E5⟩
        have v0 := (heap_cell m5 0).trans rfl
        have v1 := (heap_cell m5 1).trans rfl
        have v2 := (heap_cell m5 2).trans rfl
        have v3 := (heap_cell m5 3).trans rfl
        have v4 := (heap_cell m5 4).trans rfl
        have v5 := (heap_cell m5 5).trans rfl
        clear m5 g0 g1 g2 g3 g4 g5 q0 q1 q2 q3 q4 q5 qf
        rw [← HRES.out]
        refine bodyPost_ret (by simp [results, Try.results91, go_sem, ↓IntWalk.iteOmega, *]; try rfl) rfl ⟨by simp [resR, Hit.val, hS, hs2 (by omega)], E5⟩
    · have hs2 := hR.out.2.2.1 (by omega)
      have hs3 := hR.out.2.2.2 (by omega)
      have RQ := Lib.hid hR.out.2.1
      have EQ := Lib.hid hR.out.1
      have q0 := (heap_cell RQ.out 0).trans rfl
      have q1 := (heap_cell RQ.out 1).trans rfl
      have q2 := (heap_cell RQ.out 2).trans rfl
      have q3 := (heap_cell RQ.out 3).trans rfl
      have q4 := (heap_cell RQ.out 4).trans rfl
      have q5 := (heap_cell RQ.out 5).trans rfl
      have qf := frozen_of RQ.out
      go_wp2
      refine post_gen (fun U => U.heap[w.heap.size]? = some (.cells #[.int .u64 0, .int .i64 0, .bool false, .bool false, .bool false, .bool false] 179 (0, 0)) ∧ Ext w U) ⟨?_, ?_⟩ ?_
      · exact store6_heap RQ.out
      · exact ext6 EQ.out (Nat.le_refl _)
      rintro U ⟨m5, E5⟩
      have v0 := (heap_cell m5 0).trans rfl
      have v1 := (heap_cell m5 1).trans rfl
      have v2 := (heap_cell m5 2).trans rfl
      have v3 := (heap_cell m5 3).trans rfl
      have v4 := (heap_cell m5 4).trans rfl
      have v5 := (heap_cell m5 5).trans rfl
      clear m5 q0 q1 q2 q3 q4 q5 qf
      rw [← HRES.out]
      refine bodyPost_ret (by simp [results, Try.results91, go_sem, ↓IntWalk.iteOmega, *]; try rfl) rfl ⟨by simp [resR, Hit.val, hS, hs2, hs3], E5⟩
end Go.Proofs.Ytakkjpdolkokfaa
/- Diff: where two memories' slots differ. -/
namespace Go.Proofs.Ytakkjpdolkokfaa
set_option linter.unusedVariables false
set_option linter.unusedSimpArgs false
open Go.RowKit
attribute [local go_sem] wext_cell wext_frozen wext_heap alloc_cell alloc_frozen alloc_heap setCell_cell objCell_cells objFrozen_cells

/-- A page's cells. -/
def PageC (c : Array Value) (M : Int → Int) (n : Int) : Prop := c.size = 512 ∧ ∀ i : Nat, i < 512 → c[i]? = some (.int .u64 (M (n * 512 + i)))
def EndPage (M : Int → Int) (n : Int) (w : World) (e : Ending) (w' : World) : Prop := ∃ c, e = .returned (.agg c) ∧ PageC c M n ∧ Ext w w'
theorem pageC_one {c : Array Value} {M : Int → Int} {n : Int} (h : PageC c M n) : c.all (·.oneCell') = true := by
  rw [Array.all_eq_true]
  intro i hi
  have := h.2 i (by have := h.1; omega)
  rw [Array.getElem?_eq_getElem hi] at this
  injection this with this
  rw [this]; rfl
theorem setRow_ext {w U : World} (h : Ext w U) {g : Nat} (hg : w.heap.size ≤ g) (c : Array Value) : Ext w (U.setRow g c) := by
  refine ⟨?_, ?_, ?_, ?_, fun b hb => (setRow_other _ _ _ _ (by omega)).trans (h.block b hb)⟩
  · exact h.os
  · exact h.tape
  · exact h.output
  · have : (U.setRow g c).heap.size = U.heap.size := by simp [World.setRow]
    rw [this]; exact h.size
set_option maxHeartbeats 1000000 in
set_option maxRecDepth 20000 in
theorem page_c (mb : Nat) (F : List Nat) (B : Int) (M : Int → Int) (T : List Int) (n : Int) (w : World) (h : MemAt w mb F B M T) (h0 : 0 ≤ n) (h1 : n ≤ 1023) :
    Calls Try.prog 60 #[.pointer (some ⟨mb, 0, none⟩), .int .u64 n] w (EndPage M n w) := by
  obtain ⟨pb, tv, es, clock, PL, p1, p2, p3, -, -, p6, p7, -, -, -, -⟩ := h
  have c1 := (heap_cell p1 1).trans rfl
  have hlt := heap_lt p1
  have hlp := heap_lt p2
  have hlk := lookupP_run n (w.alloc (.cells Try.zeroCells148 148 (0, 0))) pb es clock PL ((alloc_other _ _ hlp).trans p2) p3
  generalize hE : EndPage M n w = E
  have HE := Lib.hid hE
  clear hE
  cases hf : findP n PL with
  | none =>
    have hz : PageC Try.zeroCells148 M n := ⟨zeros.1, fun i hi => by rw [zeros.2 i hi, p7 (n * 512 + i) (by rw [show (n * 512 + (i : Int)) / 512 = n by omega]; exact hf)]⟩
    have hbd : ∀ w, (Instr.build 148 #[]).run Try.prog w = .ok (.agg Try.zeroCells148) w := fun _ => run_build _ _ _ _ (by kernel_rfl)
    have HZ := Lib.hid hz
    rw [hf] at hlk
    dsimp only at hlk
    clear p1 p2 p3 p6 p7 hz
    go_enter Try.func60, Try.ntmps60
    go_wp2_with (first | (refine wpList_store_row rfl 148 _ _ rfl w.heap.size Try.zeroCells148 rfl rfl _ _ (alloc_same ..) (by kernel_rfl) rfl (pageC_one HZ.out) ?_))
    refine bodyPost_ret (v := .agg Try.zeroCells148) (results_cell_row rfl _ _ w.heap.size 148 Try.zeroCells148 (0, 0) _ rfl (setRow_heap _ _ _ _ _ _ (alloc_same ..)) Try.underlying148 rfl (by kernel_rfl)) rfl ?_
    rw [← HE.out]
    exact ⟨_, rfl, HZ.out, setRow_ext ((Ext.refl w).alloc _) (Nat.le_refl _) _⟩
  | some g =>
    obtain ⟨c, q1, q2, q3⟩ := p6 _ (findP_mem hf)
    rw [hf] at hlk
    dsimp only at hlk q3 q1
    have hz : PageC c M n := ⟨q2, q3⟩
    have hq1 := (alloc_other w (.cells Try.zeroCells148 148 (0, 0)) (heap_lt q1)).trans q1
    have hi512 : (Try.prog.info? 148).map (·.size) = some c.size := by rw [q2]; kernel_rfl
    have HZ := Lib.hid hz
    have HQ := Lib.hid hq1
    have HI := Lib.hid hi512
    clear p1 p2 p3 p6 p7 q1 q2 q3 hz hq1 hi512
    go_enter Try.func60, Try.ntmps60
    go_wp2_with (first | (refine wpList_load_row rfl 148 _ rfl g rfl _ c (0, 0) _ HQ.out Try.underlying148 rfl HI.out ?_) | (refine wpList_store_row rfl 148 _ _ rfl w.heap.size c rfl rfl _ _ (alloc_same ..) HI.out (by rw [HZ.out.1]; exact zeros.1) (pageC_one HZ.out) ?_))
    refine bodyPost_ret (v := .agg c) (results_cell_row rfl _ _ w.heap.size 148 c (0, 0) _ rfl (setRow_heap _ _ _ _ _ _ (alloc_same ..)) Try.underlying148 rfl HI.out) rfl ?_
    rw [← HE.out]
    exact ⟨_, rfl, HZ.out, setRow_ext ((Ext.refl w).alloc _) (Nat.le_refl _) _⟩

section
variable {P : Program}
theorem eqItems_ints {e : TypeId} (he : P.underlying e = some (.int .u64)) (hp : P.plainKey e = true) (hc : P.cellsOf e = 1) (d : Nat) (xs ys : Array Value) (f g : Nat → Int) (w : World) :
    ∀ is : List Nat, (∀ i ∈ is, xs[i]? = some (.int .u64 (f i)) ∧ ys[i]? = some (.int .u64 (g i))) → (Op.eqItems (d + 1) e (P.cellsOf e) xs ys is).run P w = .ok (is.all fun i => f i == g i) w
  | [], _ => by simp [Op.eqItems]
  | i :: is, h => by
    have ⟨h1, h2⟩ := h i (List.mem_cons_self ..)
    have ih := eqItems_ints he hp hc d xs ys f g w is fun j hj => h j (List.mem_cons_of_mem _ hj)
    rw [hc] at ih ⊢
    have hr : (Op.equalIn (d + 1) e (.int .u64 (f i)) (.int .u64 (g i))).run P w = .ok (f i == g i) w := by
      simp only [Op.equalIn, Sem.run_bind, run_underlying he, Result.andThen_ok]
      simp
    simp only [Op.eqItems, Sem.run_bind, Nat.mul_one, run_part_plain w hp h1, run_part_plain w hp h2, Result.andThen_ok, hr]
    cases hb : f i == g i
    · simp [hb]
    · simp only [Bool.not_true, Bool.false_eq_true, if_false, ih, List.all_cons, hb, Bool.true_and]
end
def pageB (M1 M2 : Int → Int) (n : Int) : Bool := (List.range 512).all fun i => M1 (n * 512 + i) == M2 (n * 512 + i)
theorem page_eql {c1 c2 : Array Value} {M1 M2 : Int → Int} {n : Int} (h1 : PageC c1 M1 n) (h2 : PageC c2 M2 n) (w : World) : (binOp .eql 148 (.agg c1) (.agg c2)).run Try.prog w = .ok (.bool (pageB M1 M2 n)) w := by
  rw [run_eql_struct]
  obtain ⟨i, hi⟩ : ∃ i, Try.prog.info? 34 = some i := by
    cases hh : Try.prog.info? 34 with
    | some i => exact ⟨i, rfl⟩
    | none => exact absurd hh (by have : (Try.prog.info? 34).isSome = true := by kernel_rfl
                                  intro e; rw [e] at this; cases this)
  rw [show (10000 : Nat) = 9998 + 1 + 1 from rfl, run_equalIn_array w (9998 + 1) c1 c2 Try.underlying148 hi,
    eqItems_ints (P := Try.prog) Try.underlying34 (by kernel_rfl) (by kernel_rfl) 9998 c1 c2 (fun i => M1 (n * 512 + i)) (fun i => M2 (n * 512 + i)) w (List.range 512) (fun i hi => ⟨h1.2 i (by simpa using hi), h2.2 i (by simpa using hi)⟩)]
  rfl

/-- Where the slots of a page differ, up to a place; where those of the pages do, up to a page. -/
def dIn (M1 M2 : Int → Int) (n : Int) (k : Nat) : List Int := ((List.range k).filter fun i : Nat => M1 (n * 512 + i) != M2 (n * 512 + i)).map fun i : Nat => n * 4096 + (i : Int) * 8
def dOut (M1 M2 : Int → Int) (n : Nat) : List Int := (List.range n).flatMap fun i : Nat => dIn M1 M2 i 512
theorem dIn_succ (M1 M2 : Int → Int) (n : Int) (k : Nat) : dIn M1 M2 n (k + 1) = if (M1 (n * 512 + k) != M2 (n * 512 + k)) = true then dIn M1 M2 n k ++ [n * 4096 + (k : Int) * 8] else dIn M1 M2 n k := by
  unfold dIn
  rw [List.range_succ, List.filter_append, List.map_append]
  split
  · rename_i h; simp [h]
  · rename_i h; simp [h]
theorem dOut_succ (M1 M2 : Int → Int) (n : Nat) : dOut M1 M2 (n + 1) = dOut M1 M2 n ++ dIn M1 M2 n 512 := by
  unfold dOut
  rw [List.range_succ, List.flatMap_append]; simp
theorem dIn_length (M1 M2 : Int → Int) (n : Int) (k : Nat) : (dIn M1 M2 n k).length ≤ k := by
  unfold dIn
  rw [List.length_map]
  exact Nat.le_trans (List.length_filter_le ..) (by simp)
theorem dOut_length (M1 M2 : Int → Int) (n : Nat) : (dOut M1 M2 n).length ≤ 512 * n := by
  induction n with
  | zero => simp [dOut]
  | succ n ih => rw [dOut_succ, List.length_append]; have := dIn_length M1 M2 n 512; omega
theorem dIn_none {M1 M2 : Int → Int} {n : Int} (h : pageB M1 M2 n = true) : dIn M1 M2 n 512 = [] := by
  unfold dIn
  rw [List.filter_eq_nil_iff.2, List.map_nil]
  intro i hi
  have := List.all_eq_true.1 h i hi
  simpa [bne] using this
theorem mem_dOut {M1 M2 : Int → Int} {N : Nat} {a : Int} (h : a ∈ dOut M1 M2 N) : 0 ≤ a ∧ a < N * 4096 ∧ a % 8 = 0 ∧ M1 (a / 8) ≠ M2 (a / 8) := by
  unfold dOut dIn at h
  obtain ⟨n, hn, h⟩ := List.mem_flatMap.1 h
  obtain ⟨i, hi, rfl⟩ := List.mem_map.1 h
  obtain ⟨h1, h2⟩ := List.mem_filter.1 hi
  have hn' : n < N := by simpa using hn
  have hi' : i < 512 := by simpa using h1
  have e : ((n : Int) * 4096 + (i : Int) * 8) / 8 = (n : Int) * 512 + i := by omega
  rw [e]
  refine ⟨by omega, by omega, by omega, by simpa using h2⟩
theorem dOut_nil {M1 M2 : Int → Int} {N : Nat} (h : ∀ s, M1 s = M2 s) : dOut M1 M2 N = [] := by
  unfold dOut dIn
  rw [List.flatMap_eq_nil_iff]
  intro n _
  rw [List.filter_eq_nil_iff.2, List.map_nil]
  intro i _
  simp [h]
end Go.Proofs.Ytakkjpdolkokfaa
