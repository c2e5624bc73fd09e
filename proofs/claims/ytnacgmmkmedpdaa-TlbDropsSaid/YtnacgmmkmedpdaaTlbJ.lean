/- The tlb laws' example and their run. -/
import Derived.Test.YtnacgmmkmedpdaaTlbI
import Derived.Test.YtnacgmmkmedpdaaRow
import Derived.OpenShut
namespace Go.Proofs.Ytnacgmmkmedpdaa
set_option linter.unusedVariables false
set_option linter.unusedSimpArgs false
open Go.RowKit
attribute [local go_sem] wext_cell wext_frozen wext_heap alloc_cell alloc_frozen alloc_heap setCell_cell objCell_cells objFrozen_cells
open Go.Proofs

theorem hit_equal (x y : Hit) (w : World) : (Op.equal 70 x.val y.val).run Try.prog w = .ok (decide (x = y)) w := by
  show (Op.equalIn 10000 _ _ _).run _ _ = _
  obtain ⟨p, l, t, a, b, c⟩ := x
  obtain ⟨p', l', t', a', b', c'⟩ := y
  simp [Hit.val, go_sem]
  by_cases h1 : p = p' <;> by_cases h2 : l = l' <;> by_cases h3 : t = t' <;> by_cases h4 : a = a' <;> by_cases h5 : b = b' <;> by_cases h6 : c = c' <;> simp [*]
def hitB (x y : Hit) : Bool := decide (x = y)
theorem hit_eql (p l : Int) (t a b c : Bool) (p' l' : Int) (t' a' b' c' : Bool) (w : World) : (binOp .eql 70 (.agg #[.int .u64 p, .int .i64 l, .bool t, .bool a, .bool b, .bool c]) (.agg #[.int .u64 p', .int .i64 l', .bool t', .bool a', .bool b', .bool c'])).run Try.prog w =
    .ok (.bool (hitB ⟨p, l, t, a, b, c⟩ ⟨p', l', t', a', b', c'⟩)) w := by
  have := hit_equal ⟨p, l, t, a, b, c⟩ ⟨p', l', t', a', b', c'⟩ w
  rw [run_eql_struct]
  show ((Op.equal _ _ _).run _ _).andThen _ = _
  simp only [Hit.val] at this
  rw [this]; rfl
theorem hit_neq (p l : Int) (t a b c : Bool) (p' l' : Int) (t' a' b' c' : Bool) (w : World) : (binOp .neq 70 (.agg #[.int .u64 p, .int .i64 l, .bool t, .bool a, .bool b, .bool c]) (.agg #[.int .u64 p', .int .i64 l', .bool t', .bool a', .bool b', .bool c'])).run Try.prog w =
    .ok (.bool (!hitB ⟨p, l, t, a, b, c⟩ ⟨p', l', t', a', b', c'⟩)) w := by
  have := hit_equal ⟨p, l, t, a, b, c⟩ ⟨p', l', t', a', b', c'⟩ w
  rw [run_neq_struct]
  show ((Op.equal _ _ _).run _ _).andThen _ = _
  simp only [Hit.val] at this
  rw [this]; rfl
attribute [local go_sem high] hit_eql

theorem all_c (w : World) : Calls Try.prog 74 #[] w fun e w' => e = .returned (.agg #[.bool true, .bool true, .bool true]) ∧ Ext w w' := by
  go_enter Try.func74, Try.ntmps74
  go_wp2
  refine bodyPost_ret (by simp [results, Try.results74, go_sem, ↓IntWalk.iteOmega, *]; try rfl) rfl ⟨rfl, (by repeat (first | exact Ext.refl _ | assumption | refine Ext.alloc ?_ _ | refine Ext.drew ?_ | refine Ext.setCell ?_ (by first | (simp; done) | (dsimp only; omega)) _ | refine Ext.trans ?_ (by assumption)))⟩

def exT1 : List (Key × Line) := smallL 1 32768 ⟨131072, true, true, true, false, 3⟩ 0 4 []
def exT2 : List (Key × Line) := dropPageL 1 32768 4 exT1
theorem exT1_ok : LOk exT1 := by
  unfold exT1 smallL
  rw [if_neg (by decide)]
  exact LOk.put (fun y hy => by cases hy) ⟨by decide, by decide⟩
theorem exT2_ok : LOk exT2 := exT1_ok.drop (by decide)
theorem exT_look1 : lookV 1 37155 exT1 = .tuple #[.agg #[.int .u64 135168, .int .i64 1, .bool true, .bool true, .bool true, .bool false], .bool true] := by
  have : lookR 1 37155 exT1 = (⟨135168, 1, true, true, true, false⟩, true) := by decide +kernel
  unfold lookV; rw [this]; rfl
theorem exT_look2 : lookV 1 32768 exT2 = .tuple #[.agg #[.int .u64 0, .int .i64 0, .bool false, .bool false, .bool false, .bool false], .bool false] := by
  have : lookR 1 32768 exT2 = (⟨0, 0, false, false, false, false⟩, false) := by decide +kernel
  unfold lookV; rw [this]; rfl
theorem exT_look3 : lookV 1 36864 exT2 = .tuple #[.agg #[.int .u64 135168, .int .i64 1, .bool true, .bool true, .bool true, .bool false], .bool true] := by
  have : lookR 1 36864 exT2 = (⟨135168, 1, true, true, true, false⟩, true) := by decide +kernel
  unfold lookV; rw [this]; rfl
theorem exT_len : exT2.length = 1 := by decide +kernel

set_option maxHeartbeats 2000000 in
theorem awake13_c (w : World) : Calls Try.prog 37 #[] w fun e w' => e = .returned (.bool true) ∧ Ext w w' := by
  have hnew : ∀ w, Calls Try.prog 38 #[.int .i64 4] w fun e w' => ∃ tb cb F, e = .returned (.pointer (some ⟨tb, 0, none⟩)) ∧ TAt w' tb cb F [] 4 ∧ Ext w w' ∧ w.heap.size ≤ tb ∧ ∀ x ∈ F, w.heap.size ≤ x := fun w => tnew_c 4 w (by omega) (by omega)
  have hsm : ∀ tb cb F w, TAt w tb cb F [] 4 → Calls Try.prog 45 #[.pointer (some ⟨tb, 0, none⟩), .int .i64 1, .int .u64 32768, .agg #[.int .u64 131072, .bool true, .bool true, .bool true, .bool false, .int .u8 3], .int .i64 0] w (EndT tb cb F w exT1 4) :=
    fun tb cb F w h => small_c tb cb F [] 4 1 32768 ⟨131072, true, true, true, false, 3⟩ 0 w h (by omega) (by omega) (by omega) (by omega)
  have hl1 : ∀ tb cb F w, TAt w tb cb F exT1 4 → Calls Try.prog 40 #[.pointer (some ⟨tb, 0, none⟩), .int .i64 1, .int .u64 37155] w fun e w' => e = .returned (.tuple #[.agg #[.int .u64 135168, .int .i64 1, .bool true, .bool true, .bool true, .bool false], .bool true]) ∧ Ext w w' := fun tb cb F w h => by
    rw [← exT_look1]; exact look_c tb cb F exT1 4 1 37155 w h exT1_ok (by omega) (by omega)
  have hl2 : ∀ tb cb F w, TAt w tb cb F exT2 4 → Calls Try.prog 40 #[.pointer (some ⟨tb, 0, none⟩), .int .i64 1, .int .u64 32768] w fun e w' => e = .returned (.tuple #[.agg #[.int .u64 0, .int .i64 0, .bool false, .bool false, .bool false, .bool false], .bool false]) ∧ Ext w w' := fun tb cb F w h => by
    rw [← exT_look2]; exact look_c tb cb F exT2 4 1 32768 w h exT2_ok (by omega) (by omega)
  have hl3 : ∀ tb cb F w, TAt w tb cb F exT2 4 → Calls Try.prog 40 #[.pointer (some ⟨tb, 0, none⟩), .int .i64 1, .int .u64 36864] w fun e w' => e = .returned (.tuple #[.agg #[.int .u64 135168, .int .i64 1, .bool true, .bool true, .bool true, .bool false], .bool true]) ∧ Ext w w' := fun tb cb F w h => by
    rw [← exT_look3]; exact look_c tb cb F exT2 4 1 36864 w h exT2_ok (by omega) (by omega)
  have hdr : ∀ tb cb F w, TAt w tb cb F exT1 4 → Calls Try.prog 49 #[.pointer (some ⟨tb, 0, none⟩), .int .i64 1, .int .u64 32768] w (EndT tb cb F w exT2 4) := fun tb cb F w h => dropPage_c tb cb F exT1 4 1 32768 w h exT1_ok (by omega) (by omega)
  have hle : ∀ tb cb F w, TAt w tb cb F exT2 4 → Calls Try.prog 43 #[.pointer (some ⟨tb, 0, none⟩)] w fun e w' => e = .returned (.int .i64 1) ∧ Ext w w' := fun tb cb F w h => by
    have := len_c tb cb F exT2 4 w h
    rw [exT_len] at this
    exact this
  generalize exT1 = X1 at *
  generalize exT2 = X2 at *
  have HN := Lib.hid hnew
  have HS := Lib.hid hsm
  have H1 := Lib.hid hl1
  have H2 := Lib.hid hl2
  have H3 := Lib.hid hl3
  have HD := Lib.hid hdr
  have HL := Lib.hid hle
  clear hnew hsm hl1 hl2 hl3 hdr hle
  go_enter Try.func37, Try.ntmps37
  go_upto_region 4 with (first | (go_at_call 38; refine (HN.out _).mono ?_; rintro e w1 ⟨tb, cb, F, rfl, q1, q2, q3, q4⟩))
  have C1 := Lib.hid q1
  have E1 := Lib.hid q2
  have F1 := Lib.hid q4
  clear q1 q2 q3 q4
  go_upto_region 5 with (first | (go_at_call 74; refine (all_c _).mono ?_; rintro e w2 ⟨rfl, hb2⟩) | (go_at_call 45; refine (HS.out tb cb F _ (C1.out.ext hb2)).mono ?_; rintro e w3 ⟨rfl, F3, q1, q2, q3⟩))
  have C3 := Lib.hid q1
  have E3 : Hid (Ext w w3) := Lib.hid (Keeps.to_ext (E1.out.trans hb2) q2 F1.out)
  have F3h : Hid (∀ x ∈ F3, w.heap.size ≤ x) := Lib.hid fun x hx => (q3 x hx).elim (F1.out x) fun h => Nat.le_trans (E1.out.trans hb2).size h
  clear q1 q2 q3 hb2
  go_upto_region 6 with (first | (go_at_call 40; refine (H1.out tb cb F3 _ (C3.out.ext (by repeat (first | exact Ext.refl _ | assumption | refine Ext.alloc ?_ _ | refine Ext.drew ?_ | refine Ext.setCell ?_ (by first | (simp; done) | (dsimp only; omega)) _ | refine Ext.trans ?_ (by assumption))))).mono ?_; rintro e w4 ⟨rfl, hb4⟩))
  refine wp_gen ?_; intro W hW
  have EW : Ext w3 W := by rw [hW]; exact (Ext.trans (by repeat (first | exact Ext.refl _ | assumption | refine Ext.alloc ?_ _ | refine Ext.drew ?_ | refine Ext.setCell ?_ (by first | (simp; done) | (dsimp only; omega)) _ | refine Ext.trans ?_ (by assumption))) hb4).alloc _
  have n4 : W.heap[w4.heap.size]? = some (.cells #[.int .u64 135168, .int .i64 1, .bool true, .bool true, .bool true, .bool false] 70 (0, 0)) := by rw [hW]; exact alloc_same ..
  have hz4 : w3.heap.size ≤ w4.heap.size := (Ext.trans (by repeat (first | exact Ext.refl _ | assumption | refine Ext.alloc ?_ _ | refine Ext.drew ?_ | refine Ext.setCell ?_ (by first | (simp; done) | (dsimp only; omega)) _ | refine Ext.trans ?_ (by assumption))) hb4 : Ext w3 w4).size
  have hl4 := heap_lt n4
  generalize w4.heap.size = b4 at n4 hz4 hl4 ⊢
  have N4 := Lib.hid n4
  have CW := Lib.hid (C3.out.ext EW)
  have EWW := Lib.hid (E3.out.trans EW)
  have hlt3 := Lib.hid (fun x (hx : x ∈ F3) => C3.out.2.lt x hx)
  clear hW hb4 EW n4
  go_upto_region 7 with (first | (go_at_call 49; refine (HD.out tb cb F3 _ (CW.out.ext (by repeat (first | exact Ext.refl _ | assumption | refine Ext.alloc ?_ _ | refine Ext.drew ?_ | refine Ext.setCell ?_ (by first | (simp; done) | (dsimp only; omega)) _ | refine Ext.trans ?_ (by assumption))))).mono ?_; rintro e w5 ⟨rfl, F5, q1, q2, q3⟩))
  have C5 := Lib.hid q1
  have E5 : Hid (Ext w w5) := Lib.hid (Keeps.to_ext EWW.out q2 F3h.out)
  have N5 := Lib.hid ((q2.block b4 hl4 (fun h => by have := hlt3.out _ h; omega)).trans N4.out)
  clear q1 q2 q3
  go_upto_region 8 with (first | (go_at_call 40; refine (H2.out tb cb F5 _ (C5.out.ext (by repeat (first | exact Ext.refl _ | assumption | refine Ext.alloc ?_ _ | refine Ext.drew ?_ | refine Ext.setCell ?_ (by first | (simp; done) | (dsimp only; omega)) _ | refine Ext.trans ?_ (by assumption))))).mono ?_; rintro e w6 ⟨rfl, hb6⟩))
  have E6 := Ext.trans (Ext.refl w5) hb6
  go_upto_region 9 with (first | (go_at_call 40; refine (H3.out tb cb F5 _ (C5.out.ext (E6.alloc _))).mono ?_; rintro e w7 ⟨rfl, hb7⟩))
  refine wp_gen ?_; intro V hV
  have EV : Ext w5 V := by rw [hV]; exact ((E6.alloc _).trans hb7).alloc _
  have n7 : V.heap[w7.heap.size]? = some (.cells #[.int .u64 135168, .int .i64 1, .bool true, .bool true, .bool true, .bool false] 70 (0, 0)) := by rw [hV]; exact alloc_same ..
  have n4 := (EV.block _ (heap_lt N5.out)).trans N5.out
  have x0 := (heap_cell n7 0).trans rfl
  have x1 := (heap_cell n7 1).trans rfl
  have x2 := (heap_cell n7 2).trans rfl
  have x3 := (heap_cell n7 3).trans rfl
  have x4 := (heap_cell n7 4).trans rfl
  have x5 := (heap_cell n7 5).trans rfl
  have y0 := (heap_cell n4 0).trans rfl
  have y1 := (heap_cell n4 1).trans rfl
  have y2 := (heap_cell n4 2).trans rfl
  have y3 := (heap_cell n4 3).trans rfl
  have y4 := (heap_cell n4 4).trans rfl
  have y5 := (heap_cell n4 5).trans rfl
  have hB : hitB ⟨135168, 1, true, true, true, false⟩ ⟨135168, 1, true, true, true, false⟩ = true := by decide
  have CV := Lib.hid (C5.out.ext EV)
  have EE := Lib.hid (E5.out.trans EV)
  clear hV hb6 hb7 E6 n7 n4 EV
  go_wp2_with (first | (go_at_call 43; refine (HL.out tb cb F5 _ (CV.out.ext (by repeat (first | exact Ext.refl _ | assumption | refine Ext.alloc ?_ _ | refine Ext.drew ?_ | refine Ext.setCell ?_ (by first | (simp; done) | (dsimp only; omega)) _ | refine Ext.trans ?_ (by assumption))))).mono ?_; rintro e w8 ⟨rfl, hb8⟩))
  go_ret
  exact ⟨rfl, EE.out.trans (by repeat (first | exact Ext.refl _ | assumption | refine Ext.alloc ?_ _ | refine Ext.drew ?_ | refine Ext.setCell ?_ (by first | (simp; done) | (dsimp only; omega)) _ | refine Ext.trans ?_ (by assumption)))⟩

def tAt (ds : List TDeed) (i : Nat) : TDeed := ds.getD i default
def TDeedsAt (w : World) (v : Value) (ds : List TDeed) : Prop :=
  ∃ a cap, v = .slice a ds.length cap ∧ ds.length ≤ cap ∧ cap ≤ maxLen ∧ (∀ i, i < ds.length → (tAt ds i).ok) ∧
    ∀ i, i < ds.length → ∃ g o, a = some ⟨g, o, none⟩ ∧ g < w.heap.size ∧ ∀ j u, (tAt ds i).cells[j]? = some u → w.cell? ⟨g, o + i * 16 + j, none⟩ = some u
theorem TDeedsAt.ext {w w' : World} {v : Value} {ds : List TDeed} (h : TDeedsAt w v ds) (k : Ext w w') : TDeedsAt w' v ds := by
  obtain ⟨a, cap, h1, h2, h3, h4, h5⟩ := h
  refine ⟨a, cap, h1, h2, h3, h4, fun i hi => ?_⟩
  obtain ⟨g, o, e1, e2, e3⟩ := h5 i hi
  exact ⟨g, o, e1, Nat.lt_of_lt_of_le e2 k.size, fun j u hu => k.someCell (e3 j u hu)⟩
def foldT (r : Nat) (ds : List TDeed) : List (Key × Line) := ds.foldl (fun L d => stepT d r L) []
theorem foldT_take (r : Nat) (ds : List TDeed) (j : Nat) (h : j < ds.length) : foldT r (ds.take (j + 1)) = stepT (tAt ds j) r (foldT r (ds.take j)) := by
  have e : ds.take (j + 1) = ds.take j ++ [tAt ds j] := by rw [List.take_add_one, List.getElem?_eq_getElem h]; simp [tAt, List.getD, h]
  rw [e, foldT, List.foldl_append]; rfl

def hitD : Dsc := .row [.int .u64, .int .i64, .row [.bool, .bool, .bool], .bool]
def line13D : Dsc := .row [.int .u64, .row [.bool, .bool, .bool], .bool, .int .u8]
def tdeedD : Dsc := .row [.int .i64, .int .i64, .int .i64, .int .u64, line13D, hitD]
theorem len16 {α : Type} {l : List α} (h : l.length = 16) : ∃ a b c d e f g i j k m n o p q r, l = [a, b, c, d, e, f, g, i, j, k, m, n, o, p, q, r] := by
  match l, h with
  | [a, b, c, d, e, f, g, i, j, k, m, n, o, p, q, r], _ => exact ⟨a, b, c, d, e, f, g, i, j, k, m, n, o, p, q, r, rfl⟩
theorem tdeed_is {W : World} {cs : List Value} (hl : cs.length = 16) (h : tdeedD.Is W cs) : ∃ d : TDeed, d.ok ∧ cs = d.cells := by
  obtain ⟨a, b, c, d, e, f, g, i, j, k, m, n, o, p, q, r, rfl⟩ := len16 hl
  simp only [tdeedD, line13D, hitD, Dsc.Is, Dsc.IsAll, Dsc.size, Dsc.sizes, List.take_succ_cons, List.take_zero, List.drop_succ_cons, List.drop_zero, List.cons.injEq, and_true] at h
  obtain ⟨⟨n0, rfl, w0⟩, ⟨n1, rfl, w1⟩, ⟨n2, rfl, w2⟩, ⟨n3, rfl, w3⟩, ⟨⟨n5, rfl, _⟩, ⟨⟨b1, rfl⟩, ⟨b2, rfl⟩, ⟨b3, rfl⟩⟩, ⟨b4, rfl⟩, ⟨n6, rfl, w6⟩⟩, ⟨m1, rfl, _⟩, ⟨m2, rfl, _⟩, ⟨⟨c1, rfl⟩, ⟨c2, rfl⟩, ⟨c3, rfl⟩⟩, ⟨c4, rfl⟩⟩ := h
  exact ⟨⟨n0, n1, n2, n3, ⟨n5, b1, b2, b3, b4, n6⟩, ⟨m1, m2, c1, c2, c3, c4⟩⟩, ⟨bounds_i64 w2, bounds_u64 w3, bounds_u8 w6⟩, rfl⟩
theorem tdeeds_of {W : World} {v : Value} (h : (Dsc.slice tdeedD).Is W [v]) : ∃ ds, TDeedsAt W v ds := by
  simp only [Dsc.Is, List.cons.injEq, and_true] at h
  rcases h with rfl | ⟨a, n, cap, rfl, hn, hm, hall⟩
  · exact ⟨[], none, 0, rfl, by simp, by simp, fun i hi => by simp at hi, fun i hi => by simp at hi⟩
  · by_cases hc : 0 < cap
    · obtain ⟨b, off, rfl, hb, hcell⟩ := slice_open (e := tdeedD) (by decide) hc hall
      have hall2 : ∀ i, i < cap → ∃ d : TDeed, d.ok ∧ ∀ j u, d.cells[j]? = some u → W.cell? ⟨b, off + i * 16 + j, none⟩ = some u := fun i hi => by
        obtain ⟨vs, hl, hc, hI⟩ := hcell i hi
        obtain ⟨d, hd, rfl⟩ := tdeed_is hl hI
        exact ⟨d, hd, fun j u hu => (hc j (by have := (List.getElem?_eq_some_iff.1 hu).1; simpa [TDeed.cells, tdeedD, line13D, hitD, Dsc.size, Dsc.sizes] using this)).trans hu⟩
      have : ∃ f : Nat → TDeed, ∀ i, i < cap → (f i).ok ∧ ∀ j u, (f i).cells[j]? = some u → W.cell? ⟨b, off + i * 16 + j, none⟩ = some u :=
        ⟨fun i => if h : i < cap then Classical.choose (hall2 i h) else default, fun i hi => by
          simp only [hi, dite_true]
          exact Classical.choose_spec (hall2 i hi)⟩
      obtain ⟨f, hf⟩ := this
      have hd : ∀ i, i < n → tAt ((List.range n).map f) i = f i := fun i hi => by simp [tAt, List.getD, hi]
      refine ⟨(List.range n).map f, some ⟨b, off, none⟩, cap, by simp, by simpa using hn, hm, fun i hi => ?_, fun i hi => ⟨b, off, rfl, hb, fun j u hu => ?_⟩⟩
      · have hi : i < n := by simpa using hi
        rw [hd i hi]; exact (hf i (by omega)).1
      · have hi : i < n := by simpa using hi
        rw [hd i hi] at hu; exact (hf i (by omega)).2 j u hu
    · obtain rfl : cap = 0 := by omega
      obtain rfl : n = 0 := by omega
      exact ⟨[], some a, 0, rfl, by simp, by simp, fun i hi => by simp at hi, fun i hi => by simp at hi⟩
end Go.Proofs.Ytnacgmmkmedpdaa
