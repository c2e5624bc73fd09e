/- Joined texts, part 17 of what the law stands on: each as its own head says. -/
import Derived.Test.YtkfonacokamfiaaPly15
import Derived.Test.YtkfonacokamfiaaPly16
import Derived.Test.YtkfonacokamfiaaPly14
/- Caches of tables: Deepest, New. -/
namespace Go.Proofs.Ytkfonacokamfiaa
set_option linter.unusedVariables false
set_option linter.unusedSimpArgs false
open Go.RowKit
attribute [local go_sem] wext_cell wext_frozen wext_heap alloc_cell alloc_frozen alloc_heap setCell_cell objCell_cells objFrozen_cells

theorem deepF_at {C : Int → Lines} {p a l : Int} (h0 : 2 ≤ l) (h1 : l ≤ 4) (hn : ∀ j, 2 ≤ j → j < l → hasK (kP p j a) (C j) = false) (hl : hasK (kP p l a) (C l) = true) : deepF C p a = some (l, getLine (kP p l a) (C l)) := by
  unfold deepF
  obtain rfl | rfl | rfl : l = 2 ∨ l = 3 ∨ l = 4 := by omega
  · rw [if_pos hl]
  · rw [if_neg (by rw [hn 2 (by omega) (by omega)]; simp), if_pos hl]
  · rw [if_neg (by rw [hn 2 (by omega) (by omega)]; simp), if_neg (by rw [hn 3 (by omega) (by omega)]; simp), if_pos hl]
def EndDeep (d : Option (Int × Line)) (w : World) (e : Ending) (w' : World) : Prop :=
  e = .returned (.tuple #[.agg #[.int .i64 (placeF d).1, .int .u64 (placeF d).2.1, .bool (placeF d).2.2.1, .bool (placeF d).2.2.2.1, .bool (placeF d).2.2.2.2], .bool d.isSome]) ∧ Ext w w'
theorem deepNone {w : World} : EndDeep none w = fun e w' => e = .returned (.tuple #[.agg #[.int .i64 0, .int .u64 0, .bool false, .bool false, .bool false], .bool false]) ∧ Ext w w' := rfl
theorem store5_heap {w : World} {b : Nat} {c0 c1 c2 c3 c4 v0 v1 v2 v3 v4 : Value} {e : TypeId} {f : Nat × Nat} (h : w.heap[b]? = some (.cells #[c0, c1, c2, c3, c4] e f)) :
    (((((w.setCell ⟨b, 0, none⟩ v0).setCell ⟨b, 1, none⟩ v1).setCell ⟨b, 2, none⟩ v2).setCell ⟨b, 3, none⟩ v3).setCell ⟨b, 4, none⟩ v4).heap[b]? = some (.cells #[v0, v1, v2, v3, v4] e f) :=
  setCell_heap_same (setCell_heap_same (setCell_heap_same (setCell_heap_same (setCell_heap_same h))))
theorem ext5 {a w : World} {b : Nat} {v0 v1 v2 v3 v4 : Value} (h : Ext a w) (hb : a.heap.size ≤ b) :
    Ext a (((((w.setCell ⟨b, 0, none⟩ v0).setCell ⟨b, 1, none⟩ v1).setCell ⟨b, 2, none⟩ v2).setCell ⟨b, 3, none⟩ v3).setCell ⟨b, 4, none⟩ v4) :=
  Ext.setCell (Ext.setCell (Ext.setCell (Ext.setCell (Ext.setCell h hb _) hb _) hb _) hb _) hb _

set_option maxHeartbeats 1000000 in
theorem deepest_c (pb : Nat) (cb : Int → Nat) (F : Int → List Nat) (C : Int → Lines) (r : Nat) (p a : Int) (w : World) (h : PscAt w pb cb F C r) (h0 : 0 ≤ a) (h1 : a ≤ 18446744073709551615) :
    Calls Try.prog 8 #[.pointer (some ⟨pb, 0, none⟩), .int .i64 p, .int .u64 a] w (EndDeep (deepF C p a) w) := by
  have H := Lib.hid h
  generalize hE : EndDeep (deepF C p a) w = E
  have HE := Lib.hid hE
  clear hE h
  go_enter Try.func8, Try.ntmps8
  go_wp2
  refine wp_gen ?_; intro V hV
  have hVE : Ext w V := by rw [hV]; exact (by repeat (first | exact Ext.refl _ | assumption | refine Ext.alloc ?_ _ | refine Ext.drew ?_ | refine Ext.setCell ?_ (by first | (simp; done) | (dsimp only; omega)) _ | refine Ext.trans ?_ (by assumption)))
  have hVp : V.heap[w.heap.size]? = some (.cells #[.int .i64 0, .int .u64 0, .bool false, .bool false, .bool false] 41 (0, 0)) := by rw [hV]; exact alloc_same ..
  obtain ⟨qb, hqb⟩ : ∃ qb, w.heap.size = qb := ⟨_, rfl⟩
  rw [hqb] at hVp ⊢
  have hwq : w.heap.size ≤ qb := by omega
  have VE := Lib.hid hVE
  have VP := Lib.hid hVp
  clear hV hVE hVp hqb
  go_loopw [12] (fun i wr => ∃ j : Nat, j ≤ 3 ∧ i = .int .i64 j ∧ Hid ((∀ l, 2 ≤ l → l < 2 + (j : Int) → hasK (kP p l a) (C l) = false) ∧ Ext V wr)) (fun i _ => 3 - (intOf i).toNat)
  case atStart => exact ⟨0, by omega, rfl, Lib.hid ⟨fun l l0 l1 => by omega, Ext.refl _⟩⟩
  case round =>
    obtain ⟨j, hj, rfl, hR⟩ := hrel
    by_cases hlt : j < 3
    · have hl : 2 + (j : Int) = 2 ∨ 2 + (j : Int) = 3 ∨ 2 + (j : Int) = 4 := by omega
      have hP := (H.out.ext VE.out).ext hR.out.2
      have HP := Lib.hid hP
      have HO := Lib.hid (fun w h => of_c pb cb F C r (2 + (j : Int)) w h hl)
      have HKy := Lib.hid (fun w => pscKey_c p (2 + (j : Int)) a w hl h0 h1)
      have HG := Lib.hid (fun w (h : PscAt w pb cb F C r) => get_c (cb (2 + (j : Int))) (F (2 + (j : Int))) (C (2 + (j : Int))) r (kP p (2 + (j : Int)) a) w (h.cache _ (by omega) (by omega)))
      have HT : Hid (hasK (kP p (2 + (j : Int)) a) (C (2 + (j : Int))) = true → deepF C p a = some (2 + (j : Int), getLine (kP p (2 + (j : Int)) a) (C (2 + (j : Int))))) := Lib.hid fun hh => deepF_at (by omega) (by omega) hR.out.1 hh
      have HN : Hid (hasK (kP p (2 + (j : Int)) a) (C (2 + (j : Int))) = false → ∀ l, 2 ≤ l → l < 2 + ((j + 1 : Nat) : Int) → hasK (kP p l a) (C l) = false) := Lib.hid fun hh l l0 l1 => by
        by_cases hll : l = 2 + (j : Int)
        · subst hll; exact hh
        · exact hR.out.1 l l0 (by omega)
      generalize hasK (kP p (2 + (j : Int)) a) (C (2 + (j : Int))) = bb at HG HT HN
      generalize getLine (kP p (2 + (j : Int)) a) (C (2 + (j : Int))) = z at HG HT
      generalize kP p (2 + (j : Int)) a = kk at HKy HG
      unfold Key.val Line.val at HG
      unfold Key.val at HKy
      clear hl hP
      have hwE := hR.out.2
      have HW := Lib.hid hwE
      clear hwE
      cases bb
      · go_wp2_with (first | (go_at_call 28; refine (HO.out _ (HP.out.ext (by repeat (first | exact Ext.refl _ | assumption | refine Ext.alloc ?_ _ | refine Ext.drew ?_ | refine Ext.setCell ?_ (by first | (simp; done) | (dsimp only; omega)) _ | refine Ext.trans ?_ (by assumption))))).mono ?_; rintro e w1 ⟨rfl, hb1⟩) | (go_at_call 30; refine (HKy.out _).mono ?_; rintro e w2 ⟨rfl, hb2⟩) | (go_at_call 29; refine (HG.out _ (HP.out.ext (hb1.trans (Ext.trans (by repeat (first | exact Ext.refl _ | assumption | refine Ext.alloc ?_ _ | refine Ext.drew ?_ | refine Ext.setCell ?_ (by first | (simp; done) | (dsimp only; omega)) _ | refine Ext.trans ?_ (by assumption))) hb2)))).mono ?_; rintro e w3 ⟨rfl, hb3⟩))
        refine ⟨⟨j + 1, by omega, by go_num, Lib.hid ⟨HN.out (by first | rfl | trivial), HW.out.trans ((hb1.trans ((Ext.trans (by repeat (first | exact Ext.refl _ | assumption | refine Ext.alloc ?_ _ | refine Ext.drew ?_ | refine Ext.setCell ?_ (by first | (simp; done) | (dsimp only; omega)) _ | refine Ext.trans ?_ (by assumption))) hb2).trans hb3)).trans (by repeat (first | exact Ext.refl _ | assumption | refine Ext.alloc ?_ _ | refine Ext.drew ?_ | refine Ext.setCell ?_ (by first | (simp; done) | (dsimp only; omega)) _ | refine Ext.trans ?_ (by assumption))))⟩⟩, by simp [intOf]; omega⟩
      · go_upto_region 7 with (first | (go_at_call 28; refine (HO.out _ (HP.out.ext (by repeat (first | exact Ext.refl _ | assumption | refine Ext.alloc ?_ _ | refine Ext.drew ?_ | refine Ext.setCell ?_ (by first | (simp; done) | (dsimp only; omega)) _ | refine Ext.trans ?_ (by assumption))))).mono ?_; rintro e w1 ⟨rfl, hb1⟩) | (go_at_call 30; refine (HKy.out _).mono ?_; rintro e w2 ⟨rfl, hb2⟩) | (go_at_call 29; refine (HG.out _ (HP.out.ext (hb1.trans (Ext.trans (by repeat (first | exact Ext.refl _ | assumption | refine Ext.alloc ?_ _ | refine Ext.drew ?_ | refine Ext.setCell ?_ (by first | (simp; done) | (dsimp only; omega)) _ | refine Ext.trans ?_ (by assumption))) hb2)))).mono ?_; rintro e w3 ⟨rfl, hb3⟩))
        refine wp_gen ?_; intro U hU
        have hEU : Ext V U := by rw [hU]; exact HW.out.trans ((hb1.trans ((Ext.trans (by repeat (first | exact Ext.refl _ | assumption | refine Ext.alloc ?_ _ | refine Ext.drew ?_ | refine Ext.setCell ?_ (by first | (simp; done) | (dsimp only; omega)) _ | refine Ext.trans ?_ (by assumption))) hb2).trans hb3)).alloc _)
        have hUb : U.heap[w3.heap.size]? = some (.cells #[.int .u64 z.f, .bool z.a, .bool z.b, .bool z.c, .bool z.d, .int .u8 z.m] 83 (0, 0)) := by rw [hU]; exact alloc_same ..
        obtain ⟨zb, hzb⟩ : ∃ zb, w3.heap.size = zb := ⟨_, rfl⟩
        rw [hzb] at hUb ⊢
        have hUq := (hEU.block qb (heap_lt VP.out)).trans VP.out
        have z0 := (heap_cell hUb 0).trans rfl
        have z1 := (heap_cell hUb 1).trans rfl
        have z2 := (heap_cell hUb 2).trans rfl
        have z3 := (heap_cell hUb 3).trans rfl
        have zl := heap_lt hUb
        have y0 := (heap_cell hUq 0).trans rfl
        have y1 := (heap_cell hUq 1).trans rfl
        have y2 := (heap_cell hUq 2).trans rfl
        have y3 := (heap_cell hUq 3).trans rfl
        have y4 := (heap_cell hUq 4).trans rfl
        have yf := frozen_of hUq
        have yl := heap_lt hUq
        have UQ := Lib.hid hUq
        have UE := Lib.hid hEU
        clear hU hEU hUb hUq hzb hb1 hb2 hb3
        go_wp2
        refine post_gen (fun X => X.heap[qb]? = some (.cells #[.int .i64 (2 + (j : Int) - 1), .int .u64 z.f, .bool z.a, .bool z.b, .bool z.c] 41 (0, 0)) ∧ Ext w X) ⟨store5_heap UQ.out, ext5 (VE.out.trans UE.out) hwq⟩ ?_
        rintro X ⟨m5, E5⟩
        have v0 := (heap_cell m5 0).trans rfl
        have v1 := (heap_cell m5 1).trans rfl
        have v2 := (heap_cell m5 2).trans rfl
        have v3 := (heap_cell m5 3).trans rfl
        have v4 := (heap_cell m5 4).trans rfl
        clear m5 y0 y1 y2 y3 y4 yf z0 z1 z2 z3
        rw [← HE.out, HT.out (by first | rfl | trivial), show EndDeep (some (2 + (j : Int), z)) w = fun e w' => e = .returned (.tuple #[.agg #[.int .i64 (2 + (j : Int) - 1), .int .u64 z.f, .bool z.a, .bool z.b, .bool z.c], .bool true]) ∧ Ext w w' from rfl]
        refine bodyPost_ret (by simp [results, Try.results8, go_sem, ↓IntWalk.iteOmega, *]; try rfl) rfl ⟨rfl, E5⟩
    · obtain rfl : j = 3 := by omega
      have hd : deepF C p a = none := deepF_none.2 fun l l0 l1 => hR.out.1 l l0 (by omega)
      have HD := Lib.hid hd
      have hUq := (hR.out.2.block qb (heap_lt VP.out)).trans VP.out
      have y0 := (heap_cell hUq 0).trans rfl
      have y1 := (heap_cell hUq 1).trans rfl
      have y2 := (heap_cell hUq 2).trans rfl
      have y3 := (heap_cell hUq 3).trans rfl
      have y4 := (heap_cell hUq 4).trans rfl
      have yf := frozen_of hUq
      have yl := heap_lt hUq
      have UQ := Lib.hid hUq
      clear hd hUq
      go_wp2
      refine post_gen (fun X => X.heap[qb]? = some (.cells #[.int .i64 0, .int .u64 0, .bool false, .bool false, .bool false] 41 (0, 0)) ∧ Ext w X) ⟨store5_heap UQ.out, ext5 (VE.out.trans hR.out.2) hwq⟩ ?_
      rintro X ⟨m5, E5⟩
      have v0 := (heap_cell m5 0).trans rfl
      have v1 := (heap_cell m5 1).trans rfl
      have v2 := (heap_cell m5 2).trans rfl
      have v3 := (heap_cell m5 3).trans rfl
      have v4 := (heap_cell m5 4).trans rfl
      clear m5 y0 y1 y2 y3 y4 yf
      rw [← HE.out, HD.out, deepNone]
      refine bodyPost_ret (by simp [results, Try.results8, go_sem, ↓IntWalk.iteOmega, *]; try rfl) rfl ⟨rfl, E5⟩
set_option maxHeartbeats 1000000 in
theorem deepestNil_c (p a : Int) (w : World) (h0 : 0 ≤ a) (h1 : a ≤ 18446744073709551615) :
    Calls Try.prog 8 #[.pointer none, .int .i64 p, .int .u64 a] w (EndDeep none w) := by
  generalize hE : EndDeep none w = E
  have HE := Lib.hid hE
  clear hE
  go_enter Try.func8, Try.ntmps8
  go_wp2
  refine wp_gen ?_; intro V hV
  have hVE : Ext w V := by rw [hV]; exact (by repeat (first | exact Ext.refl _ | assumption | refine Ext.alloc ?_ _ | refine Ext.drew ?_ | refine Ext.setCell ?_ (by first | (simp; done) | (dsimp only; omega)) _ | refine Ext.trans ?_ (by assumption)))
  have hVp : V.heap[w.heap.size]? = some (.cells #[.int .i64 0, .int .u64 0, .bool false, .bool false, .bool false] 41 (0, 0)) := by rw [hV]; exact alloc_same ..
  obtain ⟨qb, hqb⟩ : ∃ qb, w.heap.size = qb := ⟨_, rfl⟩
  rw [hqb] at hVp ⊢
  have hwq : w.heap.size ≤ qb := by omega
  have VE := Lib.hid hVE
  have VP := Lib.hid hVp
  clear hV hVE hVp hqb
  go_loopw [12] (fun i wr => ∃ j : Nat, j ≤ 3 ∧ i = .int .i64 j ∧ Hid (Ext V wr)) (fun i _ => 3 - (intOf i).toNat)
  case atStart => exact ⟨0, by omega, rfl, Lib.hid (Ext.refl _)⟩
  case round =>
    obtain ⟨j, hj, rfl, hR⟩ := hrel
    by_cases hlt : j < 3
    · have hl : 2 + (j : Int) = 2 ∨ 2 + (j : Int) = 3 ∨ 2 + (j : Int) = 4 := by omega
      have HO := Lib.hid (fun w => ofNo_c none (2 + (j : Int)) w (.inl rfl))
      have HKy := Lib.hid (fun w => pscKey_c p (2 + (j : Int)) a w hl h0 h1)
      generalize kP p (2 + (j : Int)) a = kk at HKy
      have HG := Lib.hid (fun w => nil_get kk w)
      unfold Key.val Line.val noLine at HG
      dsimp only at HG
      unfold Key.val at HKy
      clear hl
      go_wp2_with (first | (go_at_call 28; refine (HO.out _).mono ?_; rintro e w1 ⟨rfl, hb1⟩) | (go_at_call 30; refine (HKy.out _).mono ?_; rintro e w2 ⟨rfl, hb2⟩) | (go_at_call 29; refine (HG.out _).mono ?_; rintro e w3 ⟨rfl, hb3⟩))
      refine ⟨⟨j + 1, by omega, by go_num, Lib.hid (hR.out.trans ((hb1.trans ((Ext.trans (by repeat (first | exact Ext.refl _ | assumption | refine Ext.alloc ?_ _ | refine Ext.drew ?_ | refine Ext.setCell ?_ (by first | (simp; done) | (dsimp only; omega)) _ | refine Ext.trans ?_ (by assumption))) hb2).trans hb3)).trans (by repeat (first | exact Ext.refl _ | assumption | refine Ext.alloc ?_ _ | refine Ext.drew ?_ | refine Ext.setCell ?_ (by first | (simp; done) | (dsimp only; omega)) _ | refine Ext.trans ?_ (by assumption)))))⟩, by simp [intOf]; omega⟩
    · obtain rfl : j = 3 := by omega
      have hUq := (hR.out.block qb (heap_lt VP.out)).trans VP.out
      have y0 := (heap_cell hUq 0).trans rfl
      have y1 := (heap_cell hUq 1).trans rfl
      have y2 := (heap_cell hUq 2).trans rfl
      have y3 := (heap_cell hUq 3).trans rfl
      have y4 := (heap_cell hUq 4).trans rfl
      have yf := frozen_of hUq
      have yl := heap_lt hUq
      have UQ := Lib.hid hUq
      clear hUq
      go_wp2
      refine post_gen (fun X => X.heap[qb]? = some (.cells #[.int .i64 0, .int .u64 0, .bool false, .bool false, .bool false] 41 (0, 0)) ∧ Ext w X) ⟨store5_heap UQ.out, ext5 (VE.out.trans hR.out) hwq⟩ ?_
      rintro X ⟨m5, E5⟩
      have v0 := (heap_cell m5 0).trans rfl
      have v1 := (heap_cell m5 1).trans rfl
      have v2 := (heap_cell m5 2).trans rfl
      have v3 := (heap_cell m5 3).trans rfl
      have v4 := (heap_cell m5 4).trans rfl
      clear m5 y0 y1 y2 y3 y4 yf
      rw [← HE.out, deepNone]
      refine bodyPost_ret (by simp [results, Try.results8, go_sem, ↓IntWalk.iteOmega, *]; try rfl) rfl ⟨rfl, E5⟩

/-! ### New -/
def ptrB (b : Nat) : Value := .pointer (some ⟨b, 0, none⟩)
def headN (cb : Int → Nat) : Nat → Array Value
  | 0 => #[.pointer none, .pointer none, .pointer none]
  | 1 => #[ptrB (cb 4), .pointer none, .pointer none]
  | 2 => #[ptrB (cb 4), ptrB (cb 3), .pointer none]
  | _ => #[ptrB (cb 4), ptrB (cb 3), ptrB (cb 2)]
structure NewTo (w : World) (pb : Nat) (cb : Int → Nat) (F : Int → List Nat) (r j : Nat) (wr : World) : Prop where
  head : wr.heap[pb]? = some (.cells (headN cb j) 67 (0, 0))
  cache : ∀ l, 5 - (j : Int) ≤ l → l ≤ 4 → CAt wr (cb l) (F l) [] r ∧ ∀ x ∈ F l, w.heap.size ≤ x
  apart : ∀ l k, 5 - (j : Int) ≤ l → l ≤ 4 → 5 - (j : Int) ≤ k → k ≤ 4 → l ≠ k → ∀ x ∈ F l, x ∉ F k
  ext : Ext w wr
theorem NewTo.lt {w wr : World} {pb r j : Nat} {cb : Int → Nat} {F : Int → List Nat} (h : NewTo w pb cb F r j wr) {l : Int} (l0 : 5 - (j : Int) ≤ l) (l1 : l ≤ 4) : ∀ x ∈ F l, x < wr.heap.size := fun x hx => (h.cache l l0 l1).1.lt x hx
theorem NewTo.step {w wr X w2 w3 : World} {pb r j c1 : Nat} {cb : Int → Nat} {F : Int → List Nat} {F1 : List Nat} (h : NewTo w pb cb F r j wr) (hj : j < 3) (hp : w.heap.size ≤ pb) (k1 : Ext wr X) (hE : Ext X w2) (hC : CAt w2 c1 F1 [] r) (hF : ∀ x ∈ F1, X.heap.size ≤ x) (k3 : Ext w2 w3) {w4 : World} (k4 : Ext (w3.setCell ⟨pb, j, none⟩ (ptrB c1)) w4) :
    NewTo w pb (upd cb (4 - (j : Int)) c1) (upd F (4 - (j : Int)) F1) r (j + 1) w4 := by
  have hXs := k1.size
  have hb3 : w3.heap[pb]? = some (.cells (headN cb j) 67 (0, 0)) := (((k1.trans hE).trans k3).block pb (heap_lt h.head)).trans h.head
  have hpl := heap_lt h.head
  have keep : ∀ {c : Nat} {G : List Nat}, CAt w3 c G [] r → CAt w4 c G [] r := fun hc => by
    refine (hc.keeps (G := [pb]) (w' := w3.setCell ⟨pb, j, none⟩ (ptrB c1)) ((Keeps.refl _ _).setCell (.inl (by simp)) _) fun x hx hm => ?_).ext k4
    simp only [List.mem_singleton] at hm
    subst hm
    exact hc.apart hb3 (by decide) (by decide) hx
  refine ⟨?_, fun l l0 l1 => ?_, fun l k l0 l1 k0 k1' hlk x hx => ?_, (h.ext.trans ((k1.trans hE).trans k3)).setCell hp _ |>.trans k4⟩
  · refine (k4.block pb (by simp only [World.size_setCell]; exact heap_lt hb3)).trans ((setCell_heap_same hb3).trans ?_)
    obtain rfl | rfl | rfl : j = 0 ∨ j = 1 ∨ j = 2 := by omega
    all_goals rfl
  · by_cases hl : l = 4 - (j : Int)
    · subst hl
      rw [upd_same, upd_same]
      exact ⟨keep (hC.ext k3), fun x hx => by have := hF x hx; have := h.ext.size; omega⟩
    · rw [upd_other _ _ hl, upd_other _ _ hl]
      have := h.cache l (by omega) l1
      exact ⟨keep (this.1.ext ((k1.trans hE).trans k3)), this.2⟩
  · by_cases hl : l = 4 - (j : Int)
    · subst hl
      rw [upd_same] at hx
      rw [upd_other _ _ (Ne.symm hlk)]
      intro hm
      have := h.lt (l := k) (by omega) k1' x hm
      have := hF x hx
      omega
    · rw [upd_other _ _ hl] at hx
      by_cases hk : k = 4 - (j : Int)
      · subst hk
        rw [upd_same]
        intro hm
        have := h.lt (l := l) (by omega) l1 x hx
        have := hF x hm
        omega
      · rw [upd_other _ _ hk]
        exact h.apart l k (by omega) l1 (by omega) k1' hlk x hx
def EndPNew (room : Int) (w : World) (e : Ending) (w' : World) : Prop :=
  ∃ pb cb F, e = .returned (.pointer (some ⟨pb, 0, none⟩)) ∧ PscAt w' pb cb F (fun _ => []) (clampR room) ∧ Ext w w' ∧ w.heap.size ≤ pb ∧ ∀ x ∈ allF F, w.heap.size ≤ x
set_option maxHeartbeats 1000000 in
theorem pscNew_c (room : Int) (w : World) (h0 : -9223372036854775808 ≤ room) (h1 : room ≤ 9223372036854775807) :
    Calls Try.prog 5 #[.int .i64 room] w (EndPNew room w) := by
  have HN := Lib.hid (fun w => new_c room w h0 h1)
  generalize hr : clampR room = r
  have HRm := Lib.hid hr
  generalize hE : EndPNew room w = E
  have HE := Lib.hid hE
  clear hE hr
  go_enter Try.func5, Try.ntmps5
  go_wp2
  refine wp_gen ?_; intro V hV
  have hVE : Ext w V := by rw [hV]; exact (by repeat (first | exact Ext.refl _ | assumption | refine Ext.alloc ?_ _ | refine Ext.drew ?_ | refine Ext.setCell ?_ (by first | (simp; done) | (dsimp only; omega)) _ | refine Ext.trans ?_ (by assumption)))
  have hVp : V.heap[w.heap.size]? = some (.cells (headN (fun _ => 0) 0) 67 (0, 0)) := by rw [hV]; exact alloc_same ..
  obtain ⟨pb, hpb⟩ : ∃ pb, w.heap.size = pb := ⟨_, rfl⟩
  rw [hpb] at hVp ⊢
  have hwp : w.heap.size ≤ pb := by omega
  have VN : Hid (NewTo w pb (fun _ => 0) (fun _ => []) r 0 V) := Lib.hid ⟨hVp, fun l l0 l1 => by omega, fun l k l0 l1 => by omega, hVE⟩
  clear hV hVE hVp hpb
  go_loopw [7] (fun i wr => ∃ (j : Nat) (cb : Int → Nat) (F : Int → List Nat), j ≤ 3 ∧ i = .int .i64 j ∧ Hid (NewTo w pb cb F r j wr)) (fun i _ => 3 - (intOf i).toNat)
  case atStart => exact ⟨0, _, _, by omega, rfl, VN⟩
  case round =>
    obtain ⟨j, cb, F, hj, rfl, hR⟩ := hrel
    by_cases hlt : j < 3
    · have hh := hR.out.head
      have hpl := heap_lt hh
      have hcell : ∃ v, wr.cell? ⟨pb, j, none⟩ = some v := by
        refine ⟨(headN cb j).getD j undef, ?_⟩
        rw [heap_cell hh]
        obtain rfl | rfl | rfl : j = 0 ∨ j = 1 ∨ j = 2 := by omega
        all_goals rfl
      obtain ⟨pv, hcell⟩ := hcell
      have HC := Lib.hid hcell
      have HF := Lib.hid (frozen_of hh)
      have hj3 : (j : Int) < 3 := by omega
      have hj0 : (0 : Int) ≤ (j : Int) := by omega
      clear hcell hh
      go_upto_region 5 with (fail)
      refine region_mix [.q [0, 1, 2], .b [4, 5], .l 3 3, .b [6], .l 7 2] (by kernel_rfl) (by kernel_rfl) ?_
      (try refine ⟨fun h => absurd h (by simp), ?_⟩); (repeat (unfold wpPlan; simp only [pickL, List.map_cons, List.map_nil, List.getD_cons_succ, List.getD_cons_zero]; (repeat go_big_quiet_step (fail)); refine wpQuiet_nil ?_)); unfold wpPlan; intro w1 hb1; (try simp only [pickL, List.map_cons, List.map_nil, List.getD_cons_succ, List.getD_cons_zero])
      have HB1 := Lib.hid hb1
      clear hb1
      go_wp2_with (first | (go_at_call 16; refine (HN.out _).mono ?_; rintro e w2 ⟨c1, F1, rfl, hC, hE2, hF2⟩))
      refine ⟨fun _ => HB1.out.trans hE2, ?_⟩
      (try refine ⟨fun h => absurd h (by simp), ?_⟩); (repeat (unfold wpPlan; simp only [pickL, List.map_cons, List.map_nil, List.getD_cons_succ, List.getD_cons_zero]; (repeat go_big_quiet_step (fail)); refine wpQuiet_nil ?_)); unfold wpPlan; intro w3 hb3; (try simp only [pickL, List.map_cons, List.map_nil, List.getD_cons_succ, List.getD_cons_zero])
      have e3 := (HB1.out.trans hE2).trans hb3
      have d0 := e3.someCell HC.out
      have df := fun o => (e3.frozen pb o hpl).trans (HF.out o)
      have dl := Nat.lt_of_lt_of_le hpl e3.size
      have HC2 := Lib.hid hC
      have HE2 := Lib.hid hE2
      have HF2 := Lib.hid hF2
      have HB3 := Lib.hid hb3
      clear hC hE2 hF2 hb3 e3
      go_wp2
      (try refine ⟨fun h => absurd h (by simp), ?_⟩); (repeat (unfold wpPlan; simp only [pickL, List.map_cons, List.map_nil, List.getD_cons_succ, List.getD_cons_zero]; (repeat go_big_quiet_step (fail)); refine wpQuiet_nil ?_)); unfold wpPlan; intro w4 hb4; (try simp only [pickL, List.map_cons, List.map_nil, List.getD_cons_succ, List.getD_cons_zero])
      have HB4 := Lib.hid hb4
      clear hb4 d0 df dl
      go_wp2
      rw [HRm.out] at HC2
      refine ⟨⟨j + 1, _, _, by omega, by go_num, Lib.hid (hR.out.step hlt hwp HB1.out HE2.out HC2.out HF2.out HB3.out HB4.out)⟩, by simp [intOf]; omega⟩
    · obtain rfl : j = 3 := by omega
      go_wp2
      (try go_ret)
      rw [← HE.out]
      have hN := hR.out
      refine ⟨pb, cb, F, rfl, ⟨hN.head, fun l l0 l1 => by rw [HRm.out]; exact (hN.cache l (by omega) l1).1, fun l k l0 l1 k0 k1 => hN.apart l k (by omega) l1 (by omega) k1⟩, hN.ext, hwp, fun x hx => ?_⟩
      obtain ⟨l, l0, l1, hx⟩ := mem_allF.1 hx
      exact (hN.cache l (by omega) l1).2 x hx
end Go.Proofs.Ytkfonacokamfiaa
/- Entries: reserved bits. -/
namespace Go.Proofs.Ytkfonacokamfiaa
set_option linter.unusedVariables false
set_option linter.unusedSimpArgs false
open Go.RowKit
attribute [local go_sem] wext_cell wext_frozen wext_heap alloc_cell alloc_frozen alloc_heap setCell_cell objCell_cells objFrozen_cells

def gI (x lo n : Int) : Int := x / pow2 lo % pow2 n
theorem fieldGetE_c (x lo n : Int) (w : World) (hx : 0 ≤ x) (hx1 : x ≤ 18446744073709551615) (h0 : 0 ≤ lo) (h1 : 1 ≤ n) (h2 : lo ≤ 63) (h3 : n ≤ 64 - lo) (h4 : n ≤ 63) :
    Calls Try.prog 67 #[.int .u64 x, .int .i64 lo, .int .i64 n] w fun e w' => e = .returned (.int .u64 (gI x lo n)) ∧ Ext w w' := fieldGet_c x lo n w hx hx1 h0 h1 h2 h3 h4
def resJ (x l B : Int) (nxe : Bool) (q7 q63 : Bool) : Bool := gI x B (52 - B) != 0 || (q63 && !nxe) || (l == 4 && q7) || (l == 2 && q7 && gI x 13 8 != 0) || (l == 3 && q7 && gI x 13 17 != 0)
theorem resJ_is (x l B : Int) (nxe : Bool) : resI x l B nxe = resJ x l B nxe (bitB x 7) (bitB x 63) := rfl
theorem entReserved_c (x l B : Int) (nxe : Bool) (w : World) (hl0 : 1 ≤ l) (hl1 : l ≤ 4) (h0 : 0 ≤ x) (h1 : x ≤ 18446744073709551615) (hB0 : 14 ≤ B) (hB1 : B ≤ 22) :
    Calls Try.prog 44 #[.int .u64 x, .int .i64 l, .int .i64 B, .bool nxe] w fun e w' => e = .returned (.bool (resI x l B nxe)) ∧ Ext w w' := by
  have b3 : (bits BinOp.and IntKind.u64 x 9223372036854775808 != 0) = bitB x 63 := bitE 63 (by omega) h0 h1
  have b7 : (bits BinOp.and IntKind.u64 x 128 != 0) = bitB x 7 := bitE 7 (by omega) h0 h1
  have f1 : ∀ w, Calls Try.prog 39 #[.int .u64 x, .int .i64 1] w fun e w' => e = .returned (.bool true) ∧ Ext w w' := fun w => entLeaf_c x 1 w h0 h1
  have f2 : ∀ w, Calls Try.prog 39 #[.int .u64 x, .int .i64 2] w fun e w' => e = .returned (.bool (bitB x 7)) ∧ Ext w w' := fun w => entLeaf_c x 2 w h0 h1
  have f3 : ∀ w, Calls Try.prog 39 #[.int .u64 x, .int .i64 3] w fun e w' => e = .returned (.bool (bitB x 7)) ∧ Ext w w' := fun w => entLeaf_c x 3 w h0 h1
  have f4 : ∀ w, Calls Try.prog 39 #[.int .u64 x, .int .i64 4] w fun e w' => e = .returned (.bool false) ∧ Ext w w' := fun w => entLeaf_c x 4 w h0 h1
  rw [resJ_is]
  generalize bitB x 63 = q63 at *
  generalize bitB x 7 = q7 at *
  rcases (show l = 1 ∨ l = 2 ∨ l = 3 ∨ l = 4 by omega) with rfl | rfl | rfl | rfl
  · have HF := Lib.hid f1
    clear f1 f2 f3 f4 hl0 hl1
    go_enter Try.func44, Try.ntmps44
    go_wp2_with (first | (go_at_call 39; refine (HF.out _).mono ?_; rintro e w1 ⟨rfl, hb⟩) | (go_at_call 67; refine (fieldGetE_c x _ _ _ h0 h1 (by omega) (by omega) (by omega) (by omega) (by omega)).mono ?_; rintro e w1 ⟨rfl, hb⟩))
    all_goals
      go_ret
      exact ⟨by unfold resJ; simp_all, (by repeat (first | exact Ext.refl _ | assumption | refine Ext.alloc ?_ _ | refine Ext.drew ?_ | refine Ext.setCell ?_ (by first | (simp; done) | (dsimp only; omega)) _ | refine Ext.trans ?_ (by assumption)))⟩
  · have HF := Lib.hid f2
    clear f1 f2 f3 f4 hl0 hl1
    go_enter Try.func44, Try.ntmps44
    go_wp2_with (first | (go_at_call 39; refine (HF.out _).mono ?_; rintro e w1 ⟨rfl, hb⟩) | (go_at_call 67; refine (fieldGetE_c x _ _ _ h0 h1 (by omega) (by omega) (by omega) (by omega) (by omega)).mono ?_; rintro e w1 ⟨rfl, hb⟩))
    all_goals
      go_ret
      exact ⟨by unfold resJ; simp_all, (by repeat (first | exact Ext.refl _ | assumption | refine Ext.alloc ?_ _ | refine Ext.drew ?_ | refine Ext.setCell ?_ (by first | (simp; done) | (dsimp only; omega)) _ | refine Ext.trans ?_ (by assumption)))⟩
  · have HF := Lib.hid f3
    clear f1 f2 f3 f4 hl0 hl1
    go_enter Try.func44, Try.ntmps44
    go_wp2_with (first | (go_at_call 39; refine (HF.out _).mono ?_; rintro e w1 ⟨rfl, hb⟩) | (go_at_call 67; refine (fieldGetE_c x _ _ _ h0 h1 (by omega) (by omega) (by omega) (by omega) (by omega)).mono ?_; rintro e w1 ⟨rfl, hb⟩))
    all_goals
      go_ret
      exact ⟨by unfold resJ; simp_all, (by repeat (first | exact Ext.refl _ | assumption | refine Ext.alloc ?_ _ | refine Ext.drew ?_ | refine Ext.setCell ?_ (by first | (simp; done) | (dsimp only; omega)) _ | refine Ext.trans ?_ (by assumption)))⟩
  · have HF := Lib.hid f4
    clear f1 f2 f3 f4 hl0 hl1
    go_enter Try.func44, Try.ntmps44
    go_wp2_with (first | (go_at_call 39; refine (HF.out _).mono ?_; rintro e w1 ⟨rfl, hb⟩) | (go_at_call 67; refine (fieldGetE_c x _ _ _ h0 h1 (by omega) (by omega) (by omega) (by omega) (by omega)).mono ?_; rintro e w1 ⟨rfl, hb⟩))
    all_goals
      go_ret
      exact ⟨by unfold resJ; simp_all, (by repeat (first | exact Ext.refl _ | assumption | refine Ext.alloc ?_ _ | refine Ext.drew ?_ | refine Ext.setCell ?_ (by first | (simp; done) | (dsimp only; omega)) _ | refine Ext.trans ?_ (by assumption)))⟩
end Go.Proofs.Ytkfonacokamfiaa
