/- Joined texts, part 18 of what the law stands on: each as its own head says. -/
import Derived.Test.YtkfonacokamfiaaPly14
import Derived.Test.YtkfonacokamfiaaPly17
import Derived.Test.YtkfonacokamfiaaPly4
/- A walk through the tables: From. -/
namespace Go.Proofs.Ytkfonacokamfiaa
set_option linter.unusedVariables false
set_option linter.unusedSimpArgs false
open Go.RowKit
attribute [local go_sem] wext_cell wext_frozen wext_heap alloc_cell alloc_frozen alloc_heap setCell_cell objCell_cells objFrozen_cells

theorem rowS_one (s : Stp) : rowS [s] = s.cells := by simp [rowS]
theorem EndMem.puts {w U U' : World} {mb : Nat} {F G : List Nat} {B : Int} {M : Int → Int} {T : List Int} (h : EndMem mb F w B M T U) (k : Keeps G U U')
    (hG : ∀ x ∈ G, w.heap.size ≤ x ∧ ∃ c e, U.heap[x]? = some (.cells c e (0, 0)) ∧ e ≠ 133 ∧ e ≠ 34 ∧ e ≠ 144) : EndMem mb F w B M T U' := by
  obtain ⟨F', m, k1, k2⟩ := h
  refine ⟨F', m.keeps k (fun x hx hg => ?_), k1.trans k (fun x hx => .inr (hG x hx).1), k2⟩
  obtain ⟨-, c, e, h1, h2, h3, h4⟩ := hG x hg
  exact m.apart h1 h2 h3 h4 hx
theorem EndMem.from {w wr w1 w2 : World} {mb : Nat} {F F' : List Nat} {B : Int} {M M' : Int → Int} {T T' : List Int} (h : MemAt wr mb F' B M T ∧ Keeps F w wr ∧ ∀ y ∈ F', y ∈ F ∨ w.heap.size ≤ y) (k : Ext wr w1) (e : EndMem mb F' w1 B M' T' w2) : EndMem mb F w B M' T' w2 := by
  obtain ⟨F2, m2, k2, f2⟩ := e
  refine ⟨F2, m2, (h.2.1.ext k).trans k2 h.2.2, fun y hy => ?_⟩
  rcases f2 y hy with q | q
  · exact h.2.2 y q
  · exact .inr (Nat.le_trans (h.2.1.size) (Nat.le_trans k.size q))
theorem Fr.keeps {w w' : World} {p q o : Nat} {lv t : Int} {r : Rt} {sv : Value} {mb : Nat} {F : List Nat} {B : Int} {M : Int → Int} {T : List Int} (h : Fr w p q o lv t r sv) (m : MemAt w mb F B M T) (k : Keeps F w w') : Fr w' p q o lv t r sv :=
  h.keep (k.block _ h.lt.1 (m.apart h.1 (by decide) (by decide) (by decide))) (k.block _ h.lt.2.1 (m.apart h.2.1 (by decide) (by decide) (by decide))) (k.block _ h.lt.2.2 (m.apart h.2.2 (by decide) (by decide) (by decide)))
theorem Owns.keepsS {w w' : World} {n : Nat} {xs : List Value} {sv : Value} {mb : Nat} {F : List Nat} {B : Int} {M : Int → Int} {T : List Int} (h : Owns w 105 3 sv n xs) (m : MemAt w mb F B M T) (k : Keeps F w w') : Owns w' 105 3 sv n xs :=
  h.keep fun g hg => by
    obtain ⟨c, hc⟩ := h.heap g hg
    exact k.block g (heap_lt hc) (m.apart hc (by decide) (by decide) (by decide))
theorem keepsQ {U : World} {q : Nat} {v0 v1 v2 v3 v4 v5 v6 : Value} : Keeps [q] U (((((((U.setCell ⟨q, 0, none⟩ v0).setCell ⟨q, 1, none⟩ v1).setCell ⟨q, 2, none⟩ v2).setCell ⟨q, 3, none⟩ v3).setCell ⟨q, 4, none⟩ v4).setCell ⟨q, 5, none⟩ v5).setCell ⟨q, 6, none⟩ v6) :=
  Keeps.setCell (Keeps.setCell (Keeps.setCell (Keeps.setCell (Keeps.setCell (Keeps.setCell (Keeps.setCell (Keeps.refl [q] U) (.inl (by simp)) _) (.inl (by simp)) _) (.inl (by simp)) _) (.inl (by simp)) _) (.inl (by simp)) _) (.inl (by simp)) _) (.inl (by simp)) _
section
variable {M : Int → Int} {B : Int} {nxe : Bool} {a : Int} {j : Nat} {t : Int} {r : Rt} {s x : Int}
theorem walkJ_bad (hj : 1 ≤ j) (hs : slotI t a j = s) (h : errM B s ≠ 0) : walkF M B nxe a j t r = ([], 2, noRt, 0, 0) := by
  obtain ⟨k, rfl⟩ : ∃ k, j = k + 1 := ⟨j - 1, by omega⟩
  exact walkF_bad (by rw [show ((k : Int) + 1) = ((k + 1 : Nat) : Int) by omega, hs]; exact h)
theorem walkJ_absent (hj : 1 ≤ j) (hs : slotI t a j = s) (hx : M (s / 8) = x) (h : errM B s = 0) (hp : bitB x 0 = false) : walkF M B nxe a j t r = ([((j : Int), s, x)], 1, noRt, 0, 0) := by
  obtain ⟨k, rfl⟩ : ∃ k, j = k + 1 := ⟨j - 1, by omega⟩
  exact walkF_absent hs hx h hp
theorem walkJ_res (hj : 1 ≤ j) (hs : slotI t a j = s) (hx : M (s / 8) = x) (h : errM B s = 0) (hp : bitB x 0 = true) (hr : resI x j B nxe = true) : walkF M B nxe a j t r = ([((j : Int), s, x)], 2, noRt, 0, 0) := by
  obtain ⟨k, rfl⟩ : ∃ k, j = k + 1 := ⟨j - 1, by omega⟩
  exact walkF_res hs hx h hp hr
theorem walkJ_leaf (hj : 1 ≤ j) (hs : slotI t a j = s) (hx : M (s / 8) = x) (h : errM B s = 0) (hp : bitB x 0 = true) (hr : resI x j B nxe = false) (hl : leafI x j = true) : walkF M B nxe a j t r = ([((j : Int), s, x)], 0, andR r x, (j : Int), frameI x j) := by
  obtain ⟨k, rfl⟩ : ∃ k, j = k + 1 := ⟨j - 1, by omega⟩
  exact walkF_leaf hs hx h hp hr hl
theorem walkJ_on (hj : 1 ≤ j) (hs : slotI t a j = s) (hx : M (s / 8) = x) (h : errM B s = 0) (hp : bitB x 0 = true) (hr : resI x j B nxe = false) (hl : leafI x j = false) :
    walkF M B nxe a j t r = (((j : Int), s, x) :: (walkF M B nxe a (j - 1) (tabI x) (andR r x)).1, (walkF M B nxe a (j - 1) (tabI x) (andR r x)).2) := by
  obtain ⟨k, rfl⟩ : ∃ k, j = k + 1 := ⟨j - 1, by omega⟩
  exact walkF_on hs hx h hp hr hl
end
set_option maxHeartbeats 4000000 in
set_option maxRecDepth 20000 in
theorem from_c (mb : Nat) (F : List Nat) (B : Int) (M : Int → Int) (T : List Int) (n : Nat) (t : Int) (ra rb rc : Bool) (a : Int) (nxe : Bool) (w : World) (h : MemAt w mb F B M T)
    (hl1 : n ≤ 4) (ht0 : 0 ≤ t) (ht1 : t ≤ 18446744073709551615) (ha0 : 0 ≤ a) (ha1 : a ≤ 18446744073709551615) (hT : T.length ≤ 900000) :
    Calls Try.prog 15 #[.pointer (some ⟨mb, 0, none⟩), .agg #[.int .i64 n, .int .u64 t, .bool ra, .bool rb, .bool rc], .int .u64 a, .bool nxe] w
      (EndWalk mb F B M T (walkF M B nxe a n t (ra, rb, rc)) w) := by
  have HM := Lib.hid h
  have hrng : ∀ s, 0 ≤ M s ∧ M s ≤ 18446744073709551615 := by obtain ⟨pb, tv, es, clock, PL, p1, p2, p3, p4, p5, p6, p7, p8, p9, rfl, p10⟩ := h; exact p8
  have HR := Lib.hid hrng
  obtain ⟨-, -, hB0, hB1⟩ := h.head
  have HLT := Lib.hid h.lt
  clear h hrng
  generalize hE : EndWalk mb F B M T _ w = E
  have HE := Lib.hid hE
  clear hE
  go_enter Try.func15, Try.ntmps15
  go_wp2
  go_step3
  go_wp2
  go_step3
  go_wp2
  refine wp_gen ?_; intro V hV
  obtain ⟨p, hp⟩ : ∃ p, p = w.heap.size := ⟨_, rfl⟩
  obtain ⟨q, hq⟩ : ∃ q, q = w.heap.size + 1 := ⟨_, rfl⟩
  obtain ⟨o, ho⟩ : ∃ o, o = w.heap.size + 1 + 1 := ⟨_, rfl⟩
  have vx : Ext w V := by rw [hV]; exact (by repeat (first | exact Ext.refl _ | assumption | refine Ext.alloc ?_ _ | refine Ext.drew ?_ | refine Ext.setCell ?_ (by first | (simp; done) | (dsimp only; omega)) _ | refine Ext.trans ?_ (by assumption)))
  have vF : Fr V p q o n t (ra, rb, rc) (.slice none 0 0) := by
    subst hp hq ho
    rw [hV]
    exact ⟨(alloc_other _ _ (by simp; omega)).trans ((alloc_other _ _ (by simp)).trans (alloc_same ..)), (alloc_other _ _ (by simp)).trans (alloc_same1 ..), alloc_same2 ..⟩
  have VF := Lib.hid vF
  have VX := Lib.hid vx
  clear hV vF vx
  rw [← ho, ← hq, ← hp]
  have hwp : w.heap.size ≤ p ∧ w.heap.size ≤ q ∧ w.heap.size ≤ o ∧ p ≠ q ∧ p ≠ o ∧ q ≠ o := by omega
  obtain ⟨wp0, wq0, wo0, npq, npo, nqo⟩ := hwp
  clear hp hq ho
  go_loopw [10] (fun lv wr => ∃ (j : Nat) (t' : Int) (r' : Rt) (L : List Stp) (sa : Option Addr) (sc : Nat), j ≤ 4 ∧ lv = .int .i64 j ∧ 0 ≤ t' ∧ t' ≤ 18446744073709551615 ∧ L.length + j ≤ 4 ∧ Hid (Fr wr p q o n t' r' (.slice sa L.length sc) ∧
    walkF M B nxe a n t (ra, rb, rc) = (L ++ (walkF M B nxe a j t' r').1, (walkF M B nxe a j t' r').2) ∧ Owns wr 105 3 (.slice sa L.length sc) L.length (rowS L) ∧ (∀ g, (Value.slice sa L.length sc).ownBlock = some g → w.heap.size ≤ g) ∧
    EndMem mb F w B M (T ++ L.map (·.2.1)) wr)) (fun lv _ => (intOf lv).toNat)
  case atStart => exact ⟨n, t, (ra, rb, rc), [], none, 0, hl1, rfl, ht0, ht1, by simpa using hl1, Lib.hid ⟨VF.out, by simp, by simpa [rowS] using Owns.nil _ _ _, fun g hg => by simp [Value.ownBlock] at hg, by simpa using EndMem.refl HM.out VX.out⟩⟩
  case round =>
    obtain ⟨j, t', r', L, sa, sc, hj, rfl, ht0', ht1', hLj, hR⟩ := hrel
    by_cases hj0 : j = 0
    · subst hj0
      obtain ⟨L1, hL1⟩ : ∃ L1, L1 = L := ⟨_, rfl⟩
      obtain ⟨a1, ha1'⟩ : ∃ a1, a1 = sa := ⟨_, rfl⟩
      obtain ⟨e1, hc1'⟩ : ∃ e1, e1 = sc := ⟨_, rfl⟩
      subst hL1 ha1' hc1'
      have O1 := Lib.hid hR.out.1.2.2
      have Q1 := Lib.hid hR.out.1.2.1
      have S1 := Lib.hid hR.out.2.2.1
      have G1 := Lib.hid hR.out.2.2.2.1
      have M1 := Lib.hid hR.out.2.2.2.2
      have W1 : Hid (walkF M B nxe a n t (ra, rb, rc) = (L1, 2, (false, false, false), 0, 0)) := Lib.hid (by rw [hR.out.2.1]; simp [walkF, noRt])
      have y0 := (heap_cell O1.out 0).trans rfl
      have y1 := (heap_cell O1.out 1).trans rfl
      have y2 := (heap_cell O1.out 2).trans rfl
      have y3 := (heap_cell O1.out 3).trans rfl
      have y4 := (heap_cell O1.out 4).trans rfl
      have y5 := (heap_cell O1.out 5).trans rfl
      have y6 := (heap_cell O1.out 6).trans rfl
      have k0 := (heap_cell Q1.out 0).trans rfl
      have k1 := (heap_cell Q1.out 1).trans rfl
      have k2 := (heap_cell Q1.out 2).trans rfl
      have k3 := (heap_cell Q1.out 3).trans rfl
      have k4 := (heap_cell Q1.out 4).trans rfl
      have k5 := (heap_cell Q1.out 5).trans rfl
      have k6 := (heap_cell Q1.out 6).trans rfl
      have kf := frozen_of Q1.out
      have hql := heap_lt Q1.out
      have hol := heap_lt O1.out
      go_wp2
      (try rw [Exit.noGoto_ret])
      refine post_gen (fun X => X.heap[q]? = some (.cells #[.slice a1 L1.length e1, .int .i64 2, .bool false, .bool false, .bool false, .int .i64 0, .int .u64 0] 39 (0, 0)) ∧ Owns X 105 3 (.slice a1 L1.length e1) L1.length (rowS L1) ∧ EndMem mb F w B M (T ++ L1.map (·.2.1)) X) ⟨store7_heap Q1.out, ?_, ?_⟩ ?_
      · refine S1.out.keep fun g hg => ?_
        obtain ⟨c, hc⟩ := S1.out.heap g hg
        exact store7_other (fun e => by rw [← e, Q1.out] at hc; simp at hc)
      · exact M1.out.puts keepsQ (fun x hx => by simp only [List.mem_singleton] at hx; subst hx; exact ⟨wq0, _, _, Q1.out, by decide, by decide, by decide⟩)
      rintro X ⟨m5, o5, e5⟩
      have v0 := (heap_cell m5 0).trans rfl
      have v1 := (heap_cell m5 1).trans rfl
      have v2 := (heap_cell m5 2).trans rfl
      have v3 := (heap_cell m5 3).trans rfl
      have v4 := (heap_cell m5 4).trans rfl
      have v5 := (heap_cell m5 5).trans rfl
      have v6 := (heap_cell m5 6).trans rfl
      have O5 := Lib.hid o5
      have E5 := Lib.hid e5
      clear m5 o5 e5 y0 y1 y2 y3 y4 y5 y6 k0 k1 k2 k3 k4 k5 k6 kf
      rw [← HE.out, W1.out]
      refine bodyPost_ret (by simp [results, Try.results15, go_sem, ↓IntWalk.iteOmega, *]; try rfl) rfl ⟨.slice a1 L1.length e1, rfl, O5.out, E5.out, G1.out⟩
    have hj1 : 1 ≤ j := by omega
    have hSl := fun w => entSlot_c t' a j w ht0' ht1' (by omega) (by omega) ha0 ha1
    have hs3 := slotI_le (t := t') (a := a) (l := (j : Int)) ht0'
    obtain ⟨s, hs⟩ : ∃ s, slotI t' a j = s := ⟨_, rfl⟩
    rw [hs] at hSl hs3
    have HS := Aside.mk hs
    have HSl := Lib.hid hSl
    obtain ⟨hs0, hs1, -⟩ := hs3
    have ⟨x0, x1⟩ := HR.out (s / 8)
    obtain ⟨x, hx⟩ : ∃ x, M (s / 8) = x := ⟨_, rfl⟩
    rw [hx] at x0 x1
    have HX := Aside.mk hx
    obtain ⟨F', hm', hk', hf'⟩ := hR.out.2.2.2.2
    have hTl : (T ++ L.map (·.2.1)).length ≤ 1000000 := by simp; omega
    obtain ⟨T', hT'⟩ : ∃ T', T ++ L.map (·.2.1) = T' := ⟨_, rfl⟩
    rw [hT'] at hm' hTl
    have HT' := Aside.mk hT'
    have HLo := Lib.hid (fun w1 (k : Ext wr w1) => load_c mb F' B M T' s w1 (hm'.ext k) hs0 (by omega) hTl)
    have HM' := Lib.hid hm'
    have HK' := Lib.hid hk'
    have HF' := Lib.hid hf'
    clear hs hx hSl hm' hk' hf' hT'
    obtain ⟨⟨c0, c1, c2, c3, c4, c5⟩, -, -⟩ := hR.out.1.facts
    obtain ⟨hpl, hql, hol⟩ := hR.out.1.lt
    by_cases he : errM B s ≠ 0
    · have heb : (errM B s != 0) = true := by simpa using he
      have W0 : Hid (walkF M B nxe a n t (ra, rb, rc) = (L, 2, (false, false, false), 0, 0)) := Lib.hid (by rw [hR.out.2.1, walkJ_bad hj1 HS.out he]; simp [noRt])
      have HLe : Hid (∀ w1, Ext wr w1 → Calls Try.prog 43 #[.pointer (some ⟨mb, 0, none⟩), .int .u64 s] w1 fun e w' => e = .returned (.tuple #[.int .u64 0, .int .i64 (errM B s)]) ∧ EndMem mb F' w1 B M T' w') := Lib.hid (fun w1 k => by have := HLo.out w1 k; rw [if_neg he, if_neg he] at this; exact this)
      generalize errM B s = er at *
      clear he
      go_upto_if 37 with (first | (go_at_call 42; refine (HSl.out _).mono ?_; rintro e w1 ⟨rfl, hb1⟩) | (go_at_call 43; refine (HLe.out _ (by repeat (first | exact Ext.refl _ | assumption | refine Ext.alloc ?_ _ | refine Ext.drew ?_ | refine Ext.setCell ?_ (by first | (simp; done) | (dsimp only; omega)) _ | refine Ext.trans ?_ (by assumption)))).mono ?_; rintro e w2 ⟨rfl, hE2⟩))
      obtain ⟨L1, hL1⟩ : ∃ L1, L1 = L := ⟨_, rfl⟩
      obtain ⟨a1, ha1'⟩ : ∃ a1, a1 = sa := ⟨_, rfl⟩
      obtain ⟨e1, hc1'⟩ : ∃ e1, e1 = sc := ⟨_, rfl⟩
      subst hL1 ha1' hc1'
      have hR' := hR.out
      obtain ⟨F2, m2, k2, f2⟩ := hE2
      have hMx := HM'.out.ext hb1
      have hFr := (hR'.1.ext hb1).keeps hMx k2
      have O1 := Lib.hid hFr.2.2
      have Q1 := Lib.hid hFr.2.1
      have S1 := Lib.hid ((hR'.2.2.1.ext hb1).keepsS hMx k2)
      have G1 := Lib.hid hR'.2.2.2.1
      clear hR'
      have M1 : Hid (EndMem mb F w B M (T ++ L1.map (·.2.1)) w2) := Lib.hid (by rw [HT'.out]; exact EndMem.from ⟨HM'.out, HK'.out, HF'.out⟩ hb1 ⟨F2, m2, k2, f2⟩)
      have W1 := W0
      clear c0 c1 c2 c3 c4 c5 k2 f2 m2 hFr hMx hb1
      have y0 := (heap_cell O1.out 0).trans rfl
      have y1 := (heap_cell O1.out 1).trans rfl
      have y2 := (heap_cell O1.out 2).trans rfl
      have y3 := (heap_cell O1.out 3).trans rfl
      have y4 := (heap_cell O1.out 4).trans rfl
      have y5 := (heap_cell O1.out 5).trans rfl
      have y6 := (heap_cell O1.out 6).trans rfl
      have k0 := (heap_cell Q1.out 0).trans rfl
      have k1 := (heap_cell Q1.out 1).trans rfl
      have k2 := (heap_cell Q1.out 2).trans rfl
      have k3 := (heap_cell Q1.out 3).trans rfl
      have k4 := (heap_cell Q1.out 4).trans rfl
      have k5 := (heap_cell Q1.out 5).trans rfl
      have k6 := (heap_cell Q1.out 6).trans rfl
      have kf := frozen_of Q1.out
      have hql := heap_lt Q1.out
      have hol := heap_lt O1.out
      go_wp2
      (try rw [Exit.noGoto_ret])
      refine post_gen (fun X => X.heap[q]? = some (.cells #[.slice a1 L1.length e1, .int .i64 2, .bool false, .bool false, .bool false, .int .i64 0, .int .u64 0] 39 (0, 0)) ∧ Owns X 105 3 (.slice a1 L1.length e1) L1.length (rowS L1) ∧ EndMem mb F w B M (T ++ L1.map (·.2.1)) X) ⟨store7_heap Q1.out, ?_, ?_⟩ ?_
      · refine S1.out.keep fun g hg => ?_
        obtain ⟨c, hc⟩ := S1.out.heap g hg
        exact store7_other (fun e => by rw [← e, Q1.out] at hc; simp at hc)
      · exact M1.out.puts keepsQ (fun x hx => by simp only [List.mem_singleton] at hx; subst hx; exact ⟨wq0, _, _, Q1.out, by decide, by decide, by decide⟩)
      rintro X ⟨m5, o5, e5⟩
      have v0 := (heap_cell m5 0).trans rfl
      have v1 := (heap_cell m5 1).trans rfl
      have v2 := (heap_cell m5 2).trans rfl
      have v3 := (heap_cell m5 3).trans rfl
      have v4 := (heap_cell m5 4).trans rfl
      have v5 := (heap_cell m5 5).trans rfl
      have v6 := (heap_cell m5 6).trans rfl
      have O5 := Lib.hid o5
      have E5 := Lib.hid e5
      clear m5 o5 e5 y0 y1 y2 y3 y4 y5 y6 k0 k1 k2 k3 k4 k5 k6 kf
      rw [← HE.out, W1.out]
      refine bodyPost_ret (by simp [results, Try.results15, go_sem, ↓IntWalk.iteOmega, *]; try rfl) rfl ⟨.slice a1 L1.length e1, rfl, O5.out, E5.out, G1.out⟩
    have he0 : errM B s = 0 := by omega
    clear he
    have HL0 : Hid (∀ w1, Ext wr w1 → Calls Try.prog 43 #[.pointer (some ⟨mb, 0, none⟩), .int .u64 s] w1 fun e w' => e = .returned (.tuple #[.int .u64 x, .int .i64 0]) ∧ EndMem mb F' w1 B M (T' ++ [s]) w') := Lib.hid (fun w1 k => by have := HLo.out w1 k; rw [if_pos he0, if_pos he0, he0, HX.out] at this; exact this)
    have HE0 := Lib.hid he0
    clear he0
    go_upto_region 10 with (first | (go_at_call 42; refine (HSl.out _).mono ?_; rintro e w1 ⟨rfl, hb1⟩) | (go_at_call 43; refine (HL0.out _ (by repeat (first | exact Ext.refl _ | assumption | refine Ext.alloc ?_ _ | refine Ext.drew ?_ | refine Ext.setCell ?_ (by first | (simp; done) | (dsimp only; omega)) _ | refine Ext.trans ?_ (by assumption)))).mono ?_; rintro e w2 ⟨rfl, hE2⟩))
    have M2 : Hid (EndMem mb F w B M (T' ++ [s]) w2) := Lib.hid (EndMem.from ⟨HM'.out, HK'.out, HF'.out⟩ hb1 hE2)
    obtain ⟨F2, m2, k2, f2⟩ := hE2
    have hMx := HM'.out.ext hb1
    have hFr := (hR.out.1.ext hb1).keeps hMx k2
    have hS2 := (hR.out.2.2.1.ext hb1).keepsS hMx k2
    have hz2 := k2.size
    have hz1 := hb1.size
    have ho2 := heap_lt hFr.2.2
    have hp2 := heap_lt hFr.1
    have hq2 := heap_lt hFr.2.1
    have HSB : Hid (∀ (b : Nat) (c : Array Value) (e : TypeId), w2.heap[b]? = some (.cells c e (0, 0)) → e ≠ 105 → (Value.slice sa L.length sc).ownBlock ≠ some b) := Lib.hid (fun b c e hb he h => by
      obtain ⟨c', hc'⟩ := hS2.heap b h
      rw [hb] at hc'; simp only [Option.some.injEq, Obj.cells.injEq] at hc'; exact he hc'.2.1)
    have FR := Lib.hid hFr
    have HZ : Hid (∀ (b : Nat) (c : Array Value) (e : TypeId), w2.heap[b]? = some (.cells c e (0, 0)) → e ≠ 105 → ∀ w9 : World, World.grownBy (w2.alloc (.cells #[.int .i64 j, .int .u64 s, .int .u64 x] 105 (0, 0))) w9 (Value.slice sa L.length sc).ownBlock → w9.heap[b]? = some (.cells c e (0, 0))) := Lib.hid (fun b c e hb he w9 k9 =>
      (k9.block b (by rw [World.size_alloc]; have := heap_lt hb; omega) (fun h => HSB.out b c e hb he h.symm)).trans ((alloc_other _ _ (heap_lt hb)).trans hb))
    have HA := Lib.hid (hS2.ext ((Ext.refl w2).alloc (.cells #[.int .i64 j, .int .u64 s, .int .u64 x] 105 (0, 0))))
    have y0 := (heap_cell hFr.2.2 0).trans rfl
    have yf := frozen_of hFr.2.2
    clear hb1 k2 f2 m2 hMx hFr hS2 c0 c1 c2 c3 c4 c5
    go_upto_region 11 with (first | (at_builtin; refine wpList_append_owns rfl _ _ _ _ 3 24 stepRow rfl _ rfl L.length (rowS L) HA.out _ 1 1 rfl (Stp.cells ((j : Int), s, x)) rfl (fun j' u hu => by rw [add0, heap_cell (alloc_same w2 _) j']; simpa [Stp.cells] using hu) (by simp [Stp.cells, Value.oneCell']) (by unfold maxLen; omega) (by omega) ?_; intro v9 w9 q1 q2 q3; replace q2 : World.grownBy (w2.alloc (.cells #[.int .i64 j, .int .u64 s, .int .u64 x] 105 (0, 0))) w9 (Value.slice sa L.length sc).ownBlock := q2; replace q3 : v9.ownBlock = (Value.slice sa L.length sc).ownBlock ∨ v9.ownBlock = some (w2.alloc (.cells #[.int .i64 j, .int .u64 s, .int .u64 x] 105 (0, 0))).heap.size := q3; obtain ⟨a9, c9, rfl, -, -⟩ := q1.form; have z1 := HZ.out o _ _ FR.out.2.2 (by decide) w9 q2; have x2 := (heap_cell z1 0).trans rfl; have x3 := frozen_of z1; have ZO := Lib.hid z1; clear z1 y0 yf; simp only [Act.put, Array.set!_eq_setIfInBounds, List.setIfInBounds_toArray, List.set_cons_succ, List.set_cons_zero]))
    refine wp_gen ?_; intro U hU
    have ZP := HZ.out p _ _ FR.out.1 (by decide) w9 q2
    have ZQ := HZ.out q _ _ FR.out.2.1 (by decide) w9 q2
    have hUF : Fr U p q o n t' r' (.slice a9 (L.length + 1) c9) := by
      rw [hU]
      exact ⟨(setCell_heap _ _ _ _ _ npo.symm).trans ZP, (setCell_heap _ _ _ _ _ nqo.symm).trans ZQ, setCell_heap_same ZO.out⟩
    have hgo : ∀ g, (Value.slice a9 (L.length + 1) c9).ownBlock = some g → o ≠ g := fun g hg e => by
      obtain ⟨c, hc⟩ := q1.heap g hg
      rw [← e, ZO.out] at hc; simp at hc
    have hUS : Owns U 105 3 (.slice a9 (L.length + 1) c9) (L.length + 1) (rowS (L ++ [((j : Int), s, x)])) := by
      rw [hU, rowS_append, rowS_one]
      exact q1.keep fun g hg => setCell_heap _ _ _ _ _ (hgo g hg)
    have hUG : ∀ g, (Value.slice a9 (L.length + 1) c9).ownBlock = some g → w.heap.size ≤ g := fun g hg => by
      rcases q3 with q3 | q3 <;> rw [q3] at hg
      · exact hR.out.2.2.2.1 g hg
      · have := hR.out.2.2.2.2
        obtain ⟨_, _, kk, _⟩ := this
        have := kk.size
        simp only [World.size_alloc, Option.some.injEq] at hg; omega
    have hUM : EndMem mb F w B M (T' ++ [s]) U := by
      have e1 : EndMem mb F w B M (T' ++ [s]) (w2.alloc (.cells #[.int .i64 j, .int .u64 s, .int .u64 x] 105 (0, 0))) := M2.out.after ((Ext.refl _).alloc _)
      have e2 : EndMem mb F w B M (T' ++ [s]) w9 := e1.puts (G := (Value.slice sa L.length sc).ownBlock.toList) ((Keeps.refl _ _).grown q2 (fun x hx => .inl (by simpa using hx))) (fun x hx => by
        simp only [Option.mem_toList] at hx
        obtain ⟨c, hc⟩ := HA.out.heap x hx
        exact ⟨hR.out.2.2.2.1 x hx, c, _, hc, by decide, by decide, by decide⟩)
      rw [hU]
      exact e2.puts (G := [o]) ((Keeps.refl _ _).setCell (.inl (by simp)) _) (fun x hx => by simp only [List.mem_singleton] at hx; subst hx; exact ⟨wo0, _, _, ZO.out, by decide, by decide, by decide⟩)
    have UF := Lib.hid hUF
    have US := Lib.hid hUS
    have UG := Lib.hid hUG
    have UM := Lib.hid hUM
    clear hU hUF hUS hUG hUM q1 q2 q3 ZP ZQ ZO hgo FR HZ HSB HA M2 HLo HL0 HSl x2 x3 hz2 hz1 ho2 hp2 hq2 hpl hql hol
    obtain ⟨⟨c0, c1, c2, c3, c4, cf⟩, ⟨k0, k1, k2, k3, k4, k5, k6, kf⟩, ⟨y0, y1, y2, y3, y4, y5, y6, yf⟩⟩ := UF.out.facts
    obtain ⟨hpl, hql, hol⟩ := UF.out.lt
    have hb0 : (bits BinOp.and IntKind.u64 x 1 == 0) = !bitB x 0 := by
      have := bitE 0 (by omega) x0 x1
      have e : (bits BinOp.and IntKind.u64 x 1 != 0) = bitB x 0 := this
      rw [← e]; simp [bne]
    have hLU : ((L ++ [((j : Int), s, x)]).length : Int) = (L.length : Int) + 1 := by simp
    obtain ⟨L1, hL1⟩ : ∃ L1, L1 = L ++ [((j : Int), s, x)] := ⟨_, rfl⟩
    have HL1 := Aside.mk hL1
    have hLn : L.length + 1 = L1.length := by rw [hL1]; simp
    rw [← hL1] at US
    rw [hLn] at US UG
    have UM1 : Hid (EndMem mb F w B M (T ++ L1.map (·.2.1)) U) := Lib.hid (by rw [HL1.out, List.map_append, ← List.append_assoc, HT'.out]; exact UM.out)
    have O0 : Hid (U.heap[o]? = some (.cells #[.slice a9 L1.length c9, .int .i64 2, .bool false, .bool false, .bool false, .int .i64 0, .int .u64 0] 39 (0, 0))) := Lib.hid (by rw [← hLn]; exact UF.out.2.2)
    have Q0 : Hid (U.heap[q]? = some (.cells #[.slice none 0 0, .int .i64 0, .bool false, .bool false, .bool false, .int .i64 0, .int .u64 0] 39 (0, 0))) := Lib.hid UF.out.2.1
    clear hL1 hLU
    cases hp : bitB x 0
    · rw [hp] at hb0
      have W1 : Hid (walkF M B nxe a n t (ra, rb, rc) = (L1, 1, (false, false, false), 0, 0)) := Lib.hid (by rw [hR.out.2.1, walkJ_absent hj1 HS.out HX.out HE0.out hp, HL1.out]; rfl)
      have O1 : Hid ((U.setCell ⟨o, 1, none⟩ (.int .i64 1)).heap[o]? = some (.cells #[.slice a9 L1.length c9, .int .i64 1, .bool false, .bool false, .bool false, .int .i64 0, .int .u64 0] 39 (0, 0))) := Lib.hid (setCell_heap_same O0.out)
      have Q1 : Hid ((U.setCell ⟨o, 1, none⟩ (.int .i64 1)).heap[q]? = some (.cells #[.slice none 0 0, .int .i64 0, .bool false, .bool false, .bool false, .int .i64 0, .int .u64 0] 39 (0, 0))) := Lib.hid ((setCell_heap _ _ _ _ _ nqo.symm).trans Q0.out)
      have S1 : Hid (Owns (U.setCell ⟨o, 1, none⟩ (.int .i64 1)) 105 3 (.slice a9 L1.length c9) L1.length (rowS L1)) := Lib.hid (US.out.keep fun g hg => setCell_heap _ o 1 g _ (fun e => by
        obtain ⟨c, hc⟩ := US.out.heap g hg
        rw [← e, O0.out] at hc; simp at hc))
      have M1 : Hid (EndMem mb F w B M (T ++ L1.map (·.2.1)) (U.setCell ⟨o, 1, none⟩ (.int .i64 1))) := Lib.hid (UM1.out.puts (G := [o]) ((Keeps.refl _ _).setCell (.inl (by simp)) _) (fun x hx => by simp only [List.mem_singleton] at hx; subst hx; exact ⟨wo0, _, _, O0.out, by decide, by decide, by decide⟩))
      have G1 := UG
      clear hp c0 c1 c2 c3 c4 cf k0 k1 k2 k3 k4 k5 k6 kf y2 y3 y4 y5 y6
      obtain ⟨a1, ha1'⟩ : ∃ a1, a1 = a9 := ⟨_, rfl⟩
      obtain ⟨e1, he1'⟩ : ∃ e1, e1 = c9 := ⟨_, rfl⟩
      subst ha1' he1'
      clear y0 y1 yf
      have y1 := (heap_cell O0.out 1).trans rfl
      have yf := frozen_of O0.out
      go_upto_region 18 with (fail)
      refine wp_gen ?_; intro U1 hU1
      rw [← hU1] at O1 Q1 S1 M1
      clear hU1 y1 yf hpl hql hol
      have y0 := (heap_cell O1.out 0).trans rfl
      have y1 := (heap_cell O1.out 1).trans rfl
      have y2 := (heap_cell O1.out 2).trans rfl
      have y3 := (heap_cell O1.out 3).trans rfl
      have y4 := (heap_cell O1.out 4).trans rfl
      have y5 := (heap_cell O1.out 5).trans rfl
      have y6 := (heap_cell O1.out 6).trans rfl
      have k0 := (heap_cell Q1.out 0).trans rfl
      have k1 := (heap_cell Q1.out 1).trans rfl
      have k2 := (heap_cell Q1.out 2).trans rfl
      have k3 := (heap_cell Q1.out 3).trans rfl
      have k4 := (heap_cell Q1.out 4).trans rfl
      have k5 := (heap_cell Q1.out 5).trans rfl
      have k6 := (heap_cell Q1.out 6).trans rfl
      have kf := frozen_of Q1.out
      have hql := heap_lt Q1.out
      have hol := heap_lt O1.out
      go_wp2
      (try rw [Exit.noGoto_ret])
      refine post_gen (fun X => X.heap[q]? = some (.cells #[.slice a1 L1.length e1, .int .i64 1, .bool false, .bool false, .bool false, .int .i64 0, .int .u64 0] 39 (0, 0)) ∧ Owns X 105 3 (.slice a1 L1.length e1) L1.length (rowS L1) ∧ EndMem mb F w B M (T ++ L1.map (·.2.1)) X) ⟨store7_heap Q1.out, ?_, ?_⟩ ?_
      · refine S1.out.keep fun g hg => ?_
        obtain ⟨c, hc⟩ := S1.out.heap g hg
        exact store7_other (fun e => by rw [← e, Q1.out] at hc; simp at hc)
      · exact M1.out.puts keepsQ (fun x hx => by simp only [List.mem_singleton] at hx; subst hx; exact ⟨wq0, _, _, Q1.out, by decide, by decide, by decide⟩)
      rintro X ⟨m5, o5, e5⟩
      have v0 := (heap_cell m5 0).trans rfl
      have v1 := (heap_cell m5 1).trans rfl
      have v2 := (heap_cell m5 2).trans rfl
      have v3 := (heap_cell m5 3).trans rfl
      have v4 := (heap_cell m5 4).trans rfl
      have v5 := (heap_cell m5 5).trans rfl
      have v6 := (heap_cell m5 6).trans rfl
      have O5 := Lib.hid o5
      have E5 := Lib.hid e5
      clear m5 o5 e5 y0 y1 y2 y3 y4 y5 y6 k0 k1 k2 k3 k4 k5 k6 kf
      rw [← HE.out, W1.out]
      refine bodyPost_ret (by simp [results, Try.results15, go_sem, ↓IntWalk.iteOmega, *]; try rfl) rfl ⟨.slice a1 L1.length e1, rfl, O5.out, E5.out, G1.out⟩
    · rw [hp] at hb0
      have HRs := Lib.hid (fun w => entReserved_c x j B nxe w (by omega) (by omega) x0 x1 hB0 hB1)
      have HBi : Hid (∀ w1, Ext U w1 → Calls Try.prog 45 #[.pointer (some ⟨mb, 0, none⟩)] w1 fun e w' => e = .returned (.int .i64 B) ∧ Ext w1 w') := Lib.hid (fun w1 k => by
        obtain ⟨F3, m3, _, _⟩ := UM1.out
        exact bits_c mb F3 B M _ w1 (m3.ext k))
      cases hr : resI x j B nxe
      · rw [hr] at HRs
        have HLf := Lib.hid (fun w => entLeaf_c x j w x0 x1)
        have HTb := Lib.hid (fun w => entTable_c x w x0 x1)
        have HFm := Lib.hid (fun w => entFrame_c x j w (by omega) (by omega) x0 x1)
        obtain ⟨r0, r1, r2⟩ := r'
        have HAn := Lib.hid (fun w => rightAndE_c r0 r1 r2 x w x0 x1)
        have HR0 := Lib.hid hr
        have HP0 := Lib.hid hp
        clear hp
        have htl := tabI_le x0
        have HAR : Hid (andR (r0, r1, r2) x = (r0 && bitB x 1, r1 && bitB x 2, r2 && !bitB x 63)) := Lib.hid rfl
        generalize (r0 && bitB x 1) = s0 at HAn HAR
        generalize (r1 && bitB x 2) = s1 at HAn HAR
        generalize (r2 && !bitB x 63) = s2 at HAn HAR
        clear hr cf k0 k1 k2 k3 k4 k5 k6 kf y0 y1 y2 y3 y4 y5 y6 yf c0 c1 c2 c3 c4
        go_upto_region 14 with (first | (go_at_call 45; refine (HBi.out _ (by repeat (first | exact Ext.refl _ | assumption | refine Ext.alloc ?_ _ | refine Ext.drew ?_ | refine Ext.setCell ?_ (by first | (simp; done) | (dsimp only; omega)) _ | refine Ext.trans ?_ (by assumption)))).mono ?_; rintro e w3 ⟨rfl, hb3⟩) | (go_at_call 44; refine (HRs.out _).mono ?_; rintro e w4 ⟨rfl, hb4⟩))
        have E4 : Ext U w4 := Ext.trans (by repeat (first | exact Ext.refl _ | assumption | refine Ext.alloc ?_ _ | refine Ext.drew ?_ | refine Ext.setCell ?_ (by first | (simp; done) | (dsimp only; omega)) _ | refine Ext.trans ?_ (by assumption))) hb4
        rw [hLn] at UF
        have UF4 : Hid (Fr w4 p q o n t' (r0, r1, r2) (.slice a9 L1.length c9)) := Lib.hid (UF.out.ext E4)
        have US4 := Lib.hid (US.out.ext E4)
        have UM4 := Lib.hid (UM1.out.after E4)
        obtain ⟨⟨-, -, c2, c3, c4, -⟩, -, -⟩ := UF4.out.facts
        have hpl4 := UF4.out.lt.1
        clear hb3 hb4 E4 hpl hql hol
        go_upto_region 15 with (first | (go_at_call 40; refine (HAn.out _).mono ?_; rintro e w5 ⟨rfl, hb5⟩; have z5 := (UF4.out.ext hb5).1; have d2 := (heap_cell z5 2).trans rfl; have d3 := (heap_cell z5 3).trans rfl; have d4 := (heap_cell z5 4).trans rfl; have df := frozen_of z5; have hpl5 := heap_lt z5; have Z5 := Lib.hid (UF4.out.ext hb5); clear z5))
        refine wp_gen ?_; intro U5 hU5
        have UF5 : Hid (Fr U5 p q o n t' (s0, s1, s2) (.slice a9 L1.length c9)) := Lib.hid (by
          rw [hU5]
          exact ⟨setCell_heap_same (setCell_heap_same (setCell_heap_same Z5.out.1)), (setCell_heap _ _ _ _ _ npq).trans ((setCell_heap _ _ _ _ _ npq).trans ((setCell_heap _ _ _ _ _ npq).trans Z5.out.2.1)), (setCell_heap _ _ _ _ _ npo).trans ((setCell_heap _ _ _ _ _ npo).trans ((setCell_heap _ _ _ _ _ npo).trans Z5.out.2.2))⟩)
        have US5 : Hid (Owns U5 105 3 (.slice a9 L1.length c9) L1.length (rowS L1)) := Lib.hid (by
          rw [hU5]
          refine (US4.out.ext hb5).keep fun g hg => ?_
          have hne : p ≠ g := fun e => by
            obtain ⟨c, hc⟩ := (US4.out.ext hb5).heap g hg
            rw [← e, Z5.out.1] at hc; simp at hc
          exact (setCell_heap _ _ _ _ _ hne).trans ((setCell_heap _ _ _ _ _ hne).trans (setCell_heap _ _ _ _ _ hne))
          )
        have UM5 : Hid (EndMem mb F w B M (T ++ L1.map (·.2.1)) U5) := Lib.hid (by
          rw [hU5]
          exact (UM4.out.after hb5).puts (G := [p]) ((((Keeps.refl _ _).setCell (.inl (by simp)) _).setCell (.inl (by simp)) _).setCell (.inl (by simp)) _) (fun x hx => by simp only [List.mem_singleton] at hx; subst hx; exact ⟨wp0, _, _, Z5.out.1, by decide, by decide, by decide⟩))
        clear hU5 hb5 Z5 d2 d3 d4 df c2 c3 c4 hpl4 hpl5 UF4 US4 UM4 UM US UF UM1
        cases hl : leafI x j
        · have WO : Hid (walkF M B nxe a n t (ra, rb, rc) = (L1 ++ (walkF M B nxe a (j - 1) (tabI x) (andR (r0, r1, r2) x)).1, (walkF M B nxe a (j - 1) (tabI x) (andR (r0, r1, r2) x)).2)) := Lib.hid (by rw [hR.out.2.1, walkJ_on hj1 HS.out HX.out HE0.out HP0.out HR0.out hl, HL1.out]; simp)
          rw [hl] at HLf
          generalize andR (r0, r1, r2) x = rr at WO HAR
          generalize tabI x = tb at WO HTb htl
          obtain ⟨tb0, tb1, -, -⟩ := htl
          clear hl
          go_upto_region 16 with (first | (go_at_call 39; refine (HLf.out _).mono ?_; rintro e w6 ⟨rfl, hb6⟩))
          have UF6 : Hid (Fr w6 p q o n t' (s0, s1, s2) (.slice a9 L1.length c9)) := Lib.hid (UF5.out.ext hb6)
          have US6 := Lib.hid (US5.out.ext hb6)
          have UM6 := Lib.hid (UM5.out.after hb6)
          clear hb6
          go_wp2_with (first | (go_at_call 37; refine (HTb.out _).mono ?_; rintro e w7 ⟨rfl, hb7⟩; have z7 := (UF6.out.ext hb7).1; have d1 := (heap_cell z7 1).trans rfl; have df := frozen_of z7; have hpl7 := heap_lt z7; have Z7 := Lib.hid (UF6.out.ext hb7); clear z7))
          refine ⟨⟨j - 1, tb, (s0, s1, s2), L1, a9, c9, by omega, by rw [show ((j - 1 : Nat) : Int) = (j : Int) - 1 by omega], tb0, by omega, by omega, Lib.hid ⟨⟨setCell_heap_same Z7.out.1, (setCell_heap _ _ _ _ _ npq).trans Z7.out.2.1, (setCell_heap _ _ _ _ _ npo).trans Z7.out.2.2⟩, by rw [WO.out, HAR.out], (US6.out.ext hb7).keep fun g hg => setCell_heap _ p 1 g _ (fun e => by
            obtain ⟨c, hc⟩ := (US6.out.ext hb7).heap g hg
            rw [← e, Z7.out.1] at hc; simp at hc), UG.out, (UM6.out.after hb7).puts (G := [p]) ((Keeps.refl _ _).setCell (.inl (by simp)) _) (fun x hx => by simp only [List.mem_singleton] at hx; subst hx; exact ⟨wp0, _, _, Z7.out.1, by decide, by decide, by decide⟩)⟩⟩, by simp [intOf]; omega⟩
        · have W1 : Hid (walkF M B nxe a n t (ra, rb, rc) = (L1, 0, (s0, s1, s2), (j : Int), frameI x j)) := Lib.hid (by rw [hR.out.2.1, walkJ_leaf hj1 HS.out HX.out HE0.out HP0.out HR0.out hl, HL1.out, HAR.out])
          rw [hl] at HLf
          generalize frameI x j = fr at HFm W1
          clear hl
          go_upto_region 16 with (first | (go_at_call 39; refine (HLf.out _).mono ?_; rintro e w6 ⟨rfl, hb6⟩))
          have UF6 : Hid (Fr w6 p q o n t' (s0, s1, s2) (.slice a9 L1.length c9)) := Lib.hid (UF5.out.ext hb6)
          have US6 := Lib.hid (US5.out.ext hb6)
          have UM6 := Lib.hid (UM5.out.after hb6)
          obtain ⟨⟨-, -, c2, c3, c4, -⟩, -, ⟨y0, -, -, -, -, -, -, -⟩⟩ := UF6.out.facts
          obtain ⟨hpl6, hql6, hol6⟩ := UF6.out.lt
          clear hb6
          refine region_ext_tail 9 (by kernel_rfl) (by kernel_rfl) ?_; simp only [List.take_succ_cons, List.take_zero, List.drop_succ_cons, List.drop_zero]; (repeat (go_big_quiet_step (first | (go_at_call 46; exact calls_wext (HFm.out _))))); refine wpQuiet_nil ?_; intro w1 hb; have ⟨hc, hf, hh, hs⟩ := hb.facts; try simp only [World.size_alloc, World.size_setCell, World.size_drew] at hs
          have E8 := Lib.hid hb
          have Z8 := (hb.block _ hql6).trans UF6.out.2.1
          have k0 := (heap_cell Z8 0).trans rfl
          have k1 := (heap_cell Z8 1).trans rfl
          have k2 := (heap_cell Z8 2).trans rfl
          have k3 := (heap_cell Z8 3).trans rfl
          have k4 := (heap_cell Z8 4).trans rfl
          have k5 := (heap_cell Z8 5).trans rfl
          have k6 := (heap_cell Z8 6).trans rfl
          have kf := frozen_of Z8
          have hql8 := heap_lt Z8
          have Q8 := Lib.hid Z8
          clear Z8 hb hc hf hh c2 c3 c4 y0
          go_wp2
          (try rw [Exit.noGoto_ret])
          refine post_gen (fun X => X.heap[q]? = some (.cells #[.slice a9 L1.length c9, .int .i64 0, .bool s0, .bool s1, .bool s2, .int .i64 j, .int .u64 fr] 39 (0, 0)) ∧ Owns X 105 3 (.slice a9 L1.length c9) L1.length (rowS L1) ∧ EndMem mb F w B M (T ++ L1.map (·.2.1)) X) ⟨store7_heap Q8.out, ?_, ?_⟩ ?_
          · refine (US6.out.ext E8.out).keep fun g hg => ?_
            obtain ⟨c, hc⟩ := (US6.out.ext E8.out).heap g hg
            exact store7_other (fun e => by rw [← e, Q8.out] at hc; simp at hc)
          · exact (UM6.out.after E8.out).puts keepsQ (fun x hx => by simp only [List.mem_singleton] at hx; subst hx; exact ⟨wq0, _, _, Q8.out, by decide, by decide, by decide⟩)
          rintro X ⟨m5, o5, e5⟩
          have v0 := (heap_cell m5 0).trans rfl
          have v1 := (heap_cell m5 1).trans rfl
          have v2 := (heap_cell m5 2).trans rfl
          have v3 := (heap_cell m5 3).trans rfl
          have v4 := (heap_cell m5 4).trans rfl
          have v5 := (heap_cell m5 5).trans rfl
          have v6 := (heap_cell m5 6).trans rfl
          have O5 := Lib.hid o5
          have E5 := Lib.hid e5
          clear m5 o5 e5 k0 k1 k2 k3 k4 k5 k6 kf
          rw [← HE.out, W1.out]
          refine bodyPost_ret (by simp [results, Try.results15, go_sem, ↓IntWalk.iteOmega, *]; try rfl) rfl ⟨.slice a9 L1.length c9, rfl, O5.out, E5.out, UG.out⟩
      · rw [hr] at HRs
        have W1 : Hid (walkF M B nxe a n t (ra, rb, rc) = (L1, 2, (false, false, false), 0, 0)) := Lib.hid (by rw [hR.out.2.1, walkJ_res hj1 HS.out HX.out HE0.out hp hr, HL1.out]; rfl)
        clear hp hr c0 c1 c2 c3 c4 cf k0 k1 k2 k3 k4 k5 k6 kf y0 y1 y2 y3 y4 y5 y6 yf
        go_upto_region 18 with (first | (go_at_call 45; refine (HBi.out _ (by repeat (first | exact Ext.refl _ | assumption | refine Ext.alloc ?_ _ | refine Ext.drew ?_ | refine Ext.setCell ?_ (by first | (simp; done) | (dsimp only; omega)) _ | refine Ext.trans ?_ (by assumption)))).mono ?_; rintro e w3 ⟨rfl, hb3⟩) | (go_at_call 44; refine (HRs.out _).mono ?_; rintro e w4 ⟨rfl, hb4⟩))
        have E4 : Ext U w4 := Ext.trans (by repeat (first | exact Ext.refl _ | assumption | refine Ext.alloc ?_ _ | refine Ext.drew ?_ | refine Ext.setCell ?_ (by first | (simp; done) | (dsimp only; omega)) _ | refine Ext.trans ?_ (by assumption))) hb4
        have O1 := Lib.hid ((E4.block _ hol).trans O0.out)
        have Q1 := Lib.hid ((E4.block _ hql).trans Q0.out)
        have S1 := Lib.hid (US.out.ext E4)
        have M1 := Lib.hid (UM1.out.after E4)
        have G1 := UG
        clear hb3 hb4 E4 hpl hql hol
        obtain ⟨a1, ha1'⟩ : ∃ a1, a1 = a9 := ⟨_, rfl⟩
        obtain ⟨e1, he1'⟩ : ∃ e1, e1 = c9 := ⟨_, rfl⟩
        subst ha1' he1'
        have y0 := (heap_cell O1.out 0).trans rfl
        have y1 := (heap_cell O1.out 1).trans rfl
        have y2 := (heap_cell O1.out 2).trans rfl
        have y3 := (heap_cell O1.out 3).trans rfl
        have y4 := (heap_cell O1.out 4).trans rfl
        have y5 := (heap_cell O1.out 5).trans rfl
        have y6 := (heap_cell O1.out 6).trans rfl
        have k0 := (heap_cell Q1.out 0).trans rfl
        have k1 := (heap_cell Q1.out 1).trans rfl
        have k2 := (heap_cell Q1.out 2).trans rfl
        have k3 := (heap_cell Q1.out 3).trans rfl
        have k4 := (heap_cell Q1.out 4).trans rfl
        have k5 := (heap_cell Q1.out 5).trans rfl
        have k6 := (heap_cell Q1.out 6).trans rfl
        have kf := frozen_of Q1.out
        have hql := heap_lt Q1.out
        have hol := heap_lt O1.out
        go_wp2
        (try rw [Exit.noGoto_ret])
        refine post_gen (fun X => X.heap[q]? = some (.cells #[.slice a1 L1.length e1, .int .i64 2, .bool false, .bool false, .bool false, .int .i64 0, .int .u64 0] 39 (0, 0)) ∧ Owns X 105 3 (.slice a1 L1.length e1) L1.length (rowS L1) ∧ EndMem mb F w B M (T ++ L1.map (·.2.1)) X) ⟨store7_heap Q1.out, ?_, ?_⟩ ?_
        · refine S1.out.keep fun g hg => ?_
          obtain ⟨c, hc⟩ := S1.out.heap g hg
          exact store7_other (fun e => by rw [← e, Q1.out] at hc; simp at hc)
        · exact M1.out.puts keepsQ (fun x hx => by simp only [List.mem_singleton] at hx; subst hx; exact ⟨wq0, _, _, Q1.out, by decide, by decide, by decide⟩)
        rintro X ⟨m5, o5, e5⟩
        have v0 := (heap_cell m5 0).trans rfl
        have v1 := (heap_cell m5 1).trans rfl
        have v2 := (heap_cell m5 2).trans rfl
        have v3 := (heap_cell m5 3).trans rfl
        have v4 := (heap_cell m5 4).trans rfl
        have v5 := (heap_cell m5 5).trans rfl
        have v6 := (heap_cell m5 6).trans rfl
        have O5 := Lib.hid o5
        have E5 := Lib.hid e5
        clear m5 o5 e5 y0 y1 y2 y3 y4 y5 y6 k0 k1 k2 k3 k4 k5 k6 kf
        rw [← HE.out, W1.out]
        refine bodyPost_ret (by simp [results, Try.results15, go_sem, ↓IntWalk.iteOmega, *]; try rfl) rfl ⟨.slice a1 L1.length e1, rfl, O5.out, E5.out, G1.out⟩

end Go.Proofs.Ytkfonacokamfiaa
