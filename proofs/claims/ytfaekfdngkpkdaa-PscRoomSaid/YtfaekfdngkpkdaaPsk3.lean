/- Joined texts, part 3 of what the law stands on: each as its own head says. -/
import Derived.Test.YtfaekfdngkpkdaaRows
import Derived.ProofKit
import Derived.SizedLaws
import Derived.OpenShut
import Derived.Test.YtfaekfdngkpkdaaPsk2
/- A walk through the tables: From. -/
namespace Go.Proofs.Ytfaekfdngkpkdaa
set_option linter.unusedVariables false
set_option linter.unusedSimpArgs false
open Go.RowKit
attribute [local go_sem] wext_cell wext_frozen wext_heap alloc_cell alloc_frozen alloc_heap setCell_cell objCell_cells objFrozen_cells

theorem rowS_one (s : Stp) : rowS [s] = s.cells := by simp [rowS]
theorem EndMem.puts {w U U' : World} {mb : Nat} {F G : List Nat} {B : Int} {M : Int → Int} {T : List Int} (h : EndMem mb F w B M T U) (k : Keeps G U U')
    (hG : ∀ x ∈ G, w.heap.size ≤ x ∧ ∃ c e, U.heap[x]? = some (.cells c e (0, 0)) ∧ e ≠ 187 ∧ e ≠ 23 ∧ e ≠ 191) : EndMem mb F w B M T U' := by
  obtain ⟨F', m, k1, k2⟩ := h
  refine ⟨F', m.keeps k (fun x hx hg => ?_), k1.trans k (fun x hx => .inr (hG x hx).1), k2⟩
  obtain ⟨-, c, e, h1, h2, h3, h4⟩ := hG x hg
  exact m.apart h1 h2 h3 h4 hx
theorem EndMem.from {w wr w1 w2 : World} {mb : Nat} {F F' : List Nat} {B : Int} {M M' : Int → Int} {T T' : List Int} (h : MemAt wr mb F' B M T ∧ Keeps F w wr ∧ ∀ y ∈ F', y ∈ F ∨ w.heap.size ≤ y) (k : Ext wr w1) (e : EndMem mb F' w1 B M' T' w2) : EndMem mb F w B M' T' w2 := by
  obtain ⟨F2, m2, k2, f2⟩ := e
  refine ⟨F2, m2, (h.2.1.ext k).trans k2 h.2.2, fun y hy => ?_⟩
  rcases f2 y hy with q | q
  · exact h.2.2 y q
  · exact .inr (Nat.le_trans (h.2.1.size) (Nat.le_trans k.size q))
theorem Fr.keeps {w w' : World} {p q o : Nat} {lv t : Int} {r : Rt} {sv : Value} {mb : Nat} {F : List Nat} {B : Int} {M : Int → Int} {T : List Int} (h : Fr w p q o lv t r sv) (m : MemAt w mb F B M T) (k : Keeps F w w') : Fr w' p q o lv t r sv :=
  h.keep (k.block _ h.lt.1 (m.apart h.1 (by decide) (by decide) (by decide))) (k.block _ h.lt.2.1 (m.apart h.2.1 (by decide) (by decide) (by decide))) (k.block _ h.lt.2.2 (m.apart h.2.2 (by decide) (by decide) (by decide)))
theorem Owns.keepsS {w w' : World} {n : Nat} {xs : List Value} {sv : Value} {mb : Nat} {F : List Nat} {B : Int} {M : Int → Int} {T : List Int} (h : Owns w 65 3 sv n xs) (m : MemAt w mb F B M T) (k : Keeps F w w') : Owns w' 65 3 sv n xs :=
  h.keep fun g hg => by
    obtain ⟨c, hc⟩ := h.heap g hg
    exact k.block g (heap_lt hc) (m.apart hc (by decide) (by decide) (by decide))
theorem keepsQ {U : World} {q : Nat} {v0 v1 v2 v3 v4 v5 v6 : Value} : Keeps [q] U (((((((U.setCell ⟨q, 0, none⟩ v0).setCell ⟨q, 1, none⟩ v1).setCell ⟨q, 2, none⟩ v2).setCell ⟨q, 3, none⟩ v3).setCell ⟨q, 4, none⟩ v4).setCell ⟨q, 5, none⟩ v5).setCell ⟨q, 6, none⟩ v6) :=
  Keeps.setCell (Keeps.setCell (Keeps.setCell (Keeps.setCell (Keeps.setCell (Keeps.setCell (Keeps.setCell (Keeps.refl [q] U) (.inl (by simp)) _) (.inl (by simp)) _) (.inl (by simp)) _) (.inl (by simp)) _) (.inl (by simp)) _) (.inl (by simp)) _) (.inl (by simp)) _
section
variable {M : Int → Int} {B : Int} {nxe : Bool} {a : Int} {j : Nat} {t : Int} {r : Rt} {s x : Int}
theorem walkJ_bad (hj : 1 ≤ j) (hs : slotI t a j = s) (h : errM B s ≠ 0) : walkF M B nxe a j t r = ([], 2, noRt, 0, 0) := by
  obtain ⟨k, rfl⟩ : ∃ k, j = k + 1 := ⟨j - 1, by omega⟩
  exact walkF_bad (by rw [show ((k : Int) + 1) = ((k + 1 : Nat) : Int) by omega, hs]; exact h)
theorem walkJ_absent (hj : 1 ≤ j) (hs : slotI t a j = s) (hx : M (s / 8) = x) (h : errM B s = 0) (hp : bitB x 0 = false) : walkF M B nxe a j t r = ([((j : Int), s, x)], 1, noRt, 0, 0) := by
  obtain ⟨k, rfl⟩ : ∃ k, j = k + 1 := ⟨j - 1, by omega⟩
  exact walkF_absent hs hx h hp
theorem walkJ_res (hj : 1 ≤ j) (hs : slotI t a j = s) (hx : M (s / 8) = x) (h : errM B s = 0) (hp : bitB x 0 = true) (hr : resI x j B nxe = true) : walkF M B nxe a j t r = ([((j : Int), s, x)], 2, noRt, 0, 0) := by
  obtain ⟨k, rfl⟩ : ∃ k, j = k + 1 := ⟨j - 1, by omega⟩
  exact walkF_res hs hx h hp hr
theorem walkJ_leaf (hj : 1 ≤ j) (hs : slotI t a j = s) (hx : M (s / 8) = x) (h : errM B s = 0) (hp : bitB x 0 = true) (hr : resI x j B nxe = false) (hl : leafI x j = true) : walkF M B nxe a j t r = ([((j : Int), s, x)], 0, andR r x, (j : Int), frameI x j) := by
  obtain ⟨k, rfl⟩ : ∃ k, j = k + 1 := ⟨j - 1, by omega⟩
  exact walkF_leaf hs hx h hp hr hl
theorem walkJ_on (hj : 1 ≤ j) (hs : slotI t a j = s) (hx : M (s / 8) = x) (h : errM B s = 0) (hp : bitB x 0 = true) (hr : resI x j B nxe = false) (hl : leafI x j = false) :
    walkF M B nxe a j t r = (((j : Int), s, x) :: (walkF M B nxe a (j - 1) (tabI x) (andR r x)).1, (walkF M B nxe a (j - 1) (tabI x) (andR r x)).2) := by
  obtain ⟨k, rfl⟩ : ∃ k, j = k + 1 := ⟨j - 1, by omega⟩
  exact walkF_on hs hx h hp hr hl
end
set_option maxHeartbeats 4000000 in
set_option maxRecDepth 20000 in
theorem from_c (mb : Nat) (F : List Nat) (B : Int) (M : Int → Int) (T : List Int) (n : Nat) (t : Int) (ra rb rc : Bool) (a : Int) (nxe : Bool) (w : World) (h : MemAt w mb F B M T)
    (hl1 : n ≤ 4) (ht0 : 0 ≤ t) (ht1 : t ≤ 18446744073709551615) (ha0 : 0 ≤ a) (ha1 : a ≤ 18446744073709551615) (hT : T.length ≤ 900000) :
    Calls Try.prog 16 #[.pointer (some ⟨mb, 0, none⟩), .agg #[.int .i64 n, .int .u64 t, .bool ra, .bool rb, .bool rc], .int .u64 a, .bool nxe] w
      (EndWalk mb F B M T (walkF M B nxe a n t (ra, rb, rc)) w) := by
  have HM := Lib.hid h
  have hrng : ∀ s, 0 ≤ M s ∧ M s ≤ 18446744073709551615 := by obtain ⟨pb, tv, es, clock, PL, p1, p2, p3, p4, p5, p6, p7, p8, p9, rfl, p10⟩ := h; exact p8
  have HR := Lib.hid hrng
  obtain ⟨-, -, hB0, hB1⟩ := h.head
  have HLT := Lib.hid h.lt
  clear h hrng
  generalize hE : EndWalk mb F B M T _ w = E
  have HE := Lib.hid hE
  clear hE
  go_enter Try.func16, Try.ntmps16
  go_wp2
  go_step3
  go_wp2
  go_step3
  go_wp2
  refine wp_gen ?_; intro V hV
  obtain ⟨p, hp⟩ : ∃ p, p = w.heap.size := ⟨_, rfl⟩
  obtain ⟨q, hq⟩ : ∃ q, q = w.heap.size + 1 := ⟨_, rfl⟩
  obtain ⟨o, ho⟩ : ∃ o, o = w.heap.size + 1 + 1 := ⟨_, rfl⟩
  have vx : Ext w V := by rw [hV]; exact (by repeat (first | exact Ext.refl _ | assumption | refine Ext.alloc ?_ _ | refine Ext.drew ?_ | refine Ext.setCell ?_ (by first | (simp; done) | (dsimp only; omega)) _ | refine Ext.trans ?_ (by assumption)))
  have vF : Fr V p q o n t (ra, rb, rc) (.slice none 0 0) := by
    subst hp hq ho
    rw [hV]
    exact ⟨(alloc_other _ _ (by simp; omega)).trans ((alloc_other _ _ (by simp)).trans (alloc_same ..)), (alloc_other _ _ (by simp)).trans (alloc_same1 ..), alloc_same2 ..⟩
  have VF := Lib.hid vF
  have VX := Lib.hid vx
  clear hV vF vx
  rw [← ho, ← hq, ← hp]
  have hwp : w.heap.size ≤ p ∧ w.heap.size ≤ q ∧ w.heap.size ≤ o ∧ p ≠ q ∧ p ≠ o ∧ q ≠ o := by omega
  obtain ⟨wp0, wq0, wo0, npq, npo, nqo⟩ := hwp
  clear hp hq ho
  go_loopw [10] (fun lv wr => ∃ (j : Nat) (t' : Int) (r' : Rt) (L : List Stp) (sa : Option Addr) (sc : Nat), j ≤ 4 ∧ lv = .int .i64 j ∧ 0 ≤ t' ∧ t' ≤ 18446744073709551615 ∧ L.length + j ≤ 4 ∧ Hid (Fr wr p q o n t' r' (.slice sa L.length sc) ∧
    walkF M B nxe a n t (ra, rb, rc) = (L ++ (walkF M B nxe a j t' r').1, (walkF M B nxe a j t' r').2) ∧ Owns wr 65 3 (.slice sa L.length sc) L.length (rowS L) ∧ (∀ g, (Value.slice sa L.length sc).ownBlock = some g → w.heap.size ≤ g) ∧
    EndMem mb F w B M (T ++ L.map (·.2.1)) wr)) (fun lv _ => (intOf lv).toNat)
  case atStart => exact ⟨n, t, (ra, rb, rc), [], none, 0, hl1, rfl, ht0, ht1, by simpa using hl1, Lib.hid ⟨VF.out, by simp, by simpa [rowS] using Owns.nil _ _ _, fun g hg => by simp [Value.ownBlock] at hg, by simpa using EndMem.refl HM.out VX.out⟩⟩
  case round =>
    obtain ⟨j, t', r', L, sa, sc, hj, rfl, ht0', ht1', hLj, hR⟩ := hrel
    by_cases hj0 : j = 0
    · subst hj0
      obtain ⟨L1, hL1⟩ : ∃ L1, L1 = L := ⟨_, rfl⟩
      obtain ⟨a1, ha1'⟩ : ∃ a1, a1 = sa := ⟨_, rfl⟩
      obtain ⟨e1, hc1'⟩ : ∃ e1, e1 = sc := ⟨_, rfl⟩
      subst hL1 ha1' hc1'
      have O1 := Lib.hid hR.out.1.2.2
      have Q1 := Lib.hid hR.out.1.2.1
      have S1 := Lib.hid hR.out.2.2.1
      have G1 := Lib.hid hR.out.2.2.2.1
      have M1 := Lib.hid hR.out.2.2.2.2
      have W1 : Hid (walkF M B nxe a n t (ra, rb, rc) = (L1, 2, (false, false, false), 0, 0)) := Lib.hid (by rw [hR.out.2.1]; simp [walkF, noRt])
      have y0 := (heap_cell O1.out 0).trans rfl
      have y1 := (heap_cell O1.out 1).trans rfl
      have y2 := (heap_cell O1.out 2).trans rfl
      have y3 := (heap_cell O1.out 3).trans rfl
      have y4 := (heap_cell O1.out 4).trans rfl
      have y5 := (heap_cell O1.out 5).trans rfl
      have y6 := (heap_cell O1.out 6).trans rfl
      have k0 := (heap_cell Q1.out 0).trans rfl
      have k1 := (heap_cell Q1.out 1).trans rfl
      have k2 := (heap_cell Q1.out 2).trans rfl
      have k3 := (heap_cell Q1.out 3).trans rfl
      have k4 := (heap_cell Q1.out 4).trans rfl
      have k5 := (heap_cell Q1.out 5).trans rfl
      have k6 := (heap_cell Q1.out 6).trans rfl
      have kf := frozen_of Q1.out
      have hql := heap_lt Q1.out
      have hol := heap_lt O1.out
      go_wp2
      (try rw [Exit.noGoto_ret])
      refine post_gen (fun X => X.heap[q]? = some (.cells #[.slice a1 L1.length e1, .int .i64 2, .bool false, .bool false, .bool false, .int .i64 0, .int .u64 0] 38 (0, 0)) ∧ Owns X 65 3 (.slice a1 L1.length e1) L1.length (rowS L1) ∧ EndMem mb F w B M (T ++ L1.map (·.2.1)) X) ⟨store7_heap Q1.out, ?_, ?_⟩ ?_
      · refine S1.out.keep fun g hg => ?_
        obtain ⟨c, hc⟩ := S1.out.heap g hg
        exact store7_other (fun e => by rw [← e, Q1.out] at hc; simp at hc)
      · exact M1.out.puts keepsQ (fun x hx => by simp only [List.mem_singleton] at hx; subst hx; exact ⟨wq0, _, _, Q1.out, by decide, by decide, by decide⟩)
      rintro X ⟨m5, o5, e5⟩
      have v0 := (heap_cell m5 0).trans rfl
      have v1 := (heap_cell m5 1).trans rfl
      have v2 := (heap_cell m5 2).trans rfl
      have v3 := (heap_cell m5 3).trans rfl
      have v4 := (heap_cell m5 4).trans rfl
      have v5 := (heap_cell m5 5).trans rfl
      have v6 := (heap_cell m5 6).trans rfl
      have O5 := Lib.hid o5
      have E5 := Lib.hid e5
      clear m5 o5 e5 y0 y1 y2 y3 y4 y5 y6 k0 k1 k2 k3 k4 k5 k6 kf
      rw [← HE.out, W1.out]
      refine bodyPost_ret (by simp [results, Try.results16, go_sem, ↓IntWalk.iteOmega, *]; try rfl) rfl ⟨.slice a1 L1.length e1, rfl, O5.out, E5.out, G1.out⟩
    have hj1 : 1 ≤ j := by omega
    have hSl := fun w => entSlot_c t' a j w ht0' ht1' (by omega) (by omega) ha0 ha1
    have hs3 := slotI_le (t := t') (a := a) (l := (j : Int)) ht0'
    obtain ⟨s, hs⟩ : ∃ s, slotI t' a j = s := ⟨_, rfl⟩
    rw [hs] at hSl hs3
    have HS := Aside.mk hs
    have HSl := Lib.hid hSl
    obtain ⟨hs0, hs1, -⟩ := hs3
    have ⟨x0, x1⟩ := HR.out (s / 8)
    obtain ⟨x, hx⟩ : ∃ x, M (s / 8) = x := ⟨_, rfl⟩
    rw [hx] at x0 x1
    have HX := Aside.mk hx
    obtain ⟨F', hm', hk', hf'⟩ := hR.out.2.2.2.2
    have hTl : (T ++ L.map (·.2.1)).length ≤ 1000000 := by simp; omega
    obtain ⟨T', hT'⟩ : ∃ T', T ++ L.map (·.2.1) = T' := ⟨_, rfl⟩
    rw [hT'] at hm' hTl
    have HT' := Aside.mk hT'
    have HLo := Lib.hid (fun w1 (k : Ext wr w1) => load_c mb F' B M T' s w1 (hm'.ext k) hs0 (by omega) hTl)
    have HM' := Lib.hid hm'
    have HK' := Lib.hid hk'
    have HF' := Lib.hid hf'
    clear hs hx hSl hm' hk' hf' hT'
    obtain ⟨⟨c0, c1, c2, c3, c4, c5⟩, -, -⟩ := hR.out.1.facts
    obtain ⟨hpl, hql, hol⟩ := hR.out.1.lt
    by_cases he : errM B s ≠ 0
    · have heb : (errM B s != 0) = true := by simpa using he
      have W0 : Hid (walkF M B nxe a n t (ra, rb, rc) = (L, 2, (false, false, false), 0, 0)) := Lib.hid (by rw [hR.out.2.1, walkJ_bad hj1 HS.out he]; simp [noRt])
      have HLe : Hid (∀ w1, Ext wr w1 → Calls Try.prog 62 #[.pointer (some ⟨mb, 0, none⟩), .int .u64 s] w1 fun e w' => e = .returned (.tuple #[.int .u64 0, .int .i64 (errM B s)]) ∧ EndMem mb F' w1 B M T' w') := Lib.hid (fun w1 k => by have := HLo.out w1 k; rw [if_neg he, if_neg he] at this; exact this)
      generalize errM B s = er at *
      clear he
      go_upto_if 37 with (first | (go_at_call 61; refine (HSl.out _).mono ?_; rintro e w1 ⟨rfl, hb1⟩) | (go_at_call 62; refine (HLe.out _ (by repeat (first | exact Ext.refl _ | assumption | refine Ext.alloc ?_ _ | refine Ext.drew ?_ | refine Ext.setCell ?_ (by first | (simp; done) | (dsimp only; omega)) _ | refine Ext.trans ?_ (by assumption)))).mono ?_; rintro e w2 ⟨rfl, hE2⟩))
      obtain ⟨L1, hL1⟩ : ∃ L1, L1 = L := ⟨_, rfl⟩
      obtain ⟨a1, ha1'⟩ : ∃ a1, a1 = sa := ⟨_, rfl⟩
      obtain ⟨e1, hc1'⟩ : ∃ e1, e1 = sc := ⟨_, rfl⟩
      subst hL1 ha1' hc1'
      have hR' := hR.out
      obtain ⟨F2, m2, k2, f2⟩ := hE2
      have hMx := HM'.out.ext hb1
      have hFr := (hR'.1.ext hb1).keeps hMx k2
      have O1 := Lib.hid hFr.2.2
      have Q1 := Lib.hid hFr.2.1
      have S1 := Lib.hid ((hR'.2.2.1.ext hb1).keepsS hMx k2)
      have G1 := Lib.hid hR'.2.2.2.1
      clear hR'
      have M1 : Hid (EndMem mb F w B M (T ++ L1.map (·.2.1)) w2) := Lib.hid (by rw [HT'.out]; exact EndMem.from ⟨HM'.out, HK'.out, HF'.out⟩ hb1 ⟨F2, m2, k2, f2⟩)
      have W1 := W0
      clear c0 c1 c2 c3 c4 c5 k2 f2 m2 hFr hMx hb1
      have y0 := (heap_cell O1.out 0).trans rfl
      have y1 := (heap_cell O1.out 1).trans rfl
      have y2 := (heap_cell O1.out 2).trans rfl
      have y3 := (heap_cell O1.out 3).trans rfl
      have y4 := (heap_cell O1.out 4).trans rfl
      have y5 := (heap_cell O1.out 5).trans rfl
      have y6 := (heap_cell O1.out 6).trans rfl
      have k0 := (heap_cell Q1.out 0).trans rfl
      have k1 := (heap_cell Q1.out 1).trans rfl
      have k2 := (heap_cell Q1.out 2).trans rfl
      have k3 := (heap_cell Q1.out 3).trans rfl
      have k4 := (heap_cell Q1.out 4).trans rfl
      have k5 := (heap_cell Q1.out 5).trans rfl
      have k6 := (heap_cell Q1.out 6).trans rfl
      have kf := frozen_of Q1.out
      have hql := heap_lt Q1.out
      have hol := heap_lt O1.out
      go_wp2
      (try rw [Exit.noGoto_ret])
      refine post_gen (fun X => X.heap[q]? = some (.cells #[.slice a1 L1.length e1, .int .i64 2, .bool false, .bool false, .bool false, .int .i64 0, .int .u64 0] 38 (0, 0)) ∧ Owns X 65 3 (.slice a1 L1.length e1) L1.length (rowS L1) ∧ EndMem mb F w B M (T ++ L1.map (·.2.1)) X) ⟨store7_heap Q1.out, ?_, ?_⟩ ?_
      · refine S1.out.keep fun g hg => ?_
        obtain ⟨c, hc⟩ := S1.out.heap g hg
        exact store7_other (fun e => by rw [← e, Q1.out] at hc; simp at hc)
      · exact M1.out.puts keepsQ (fun x hx => by simp only [List.mem_singleton] at hx; subst hx; exact ⟨wq0, _, _, Q1.out, by decide, by decide, by decide⟩)
      rintro X ⟨m5, o5, e5⟩
      have v0 := (heap_cell m5 0).trans rfl
      have v1 := (heap_cell m5 1).trans rfl
      have v2 := (heap_cell m5 2).trans rfl
      have v3 := (heap_cell m5 3).trans rfl
      have v4 := (heap_cell m5 4).trans rfl
      have v5 := (heap_cell m5 5).trans rfl
      have v6 := (heap_cell m5 6).trans rfl
      have O5 := Lib.hid o5
      have E5 := Lib.hid e5
      clear m5 o5 e5 y0 y1 y2 y3 y4 y5 y6 k0 k1 k2 k3 k4 k5 k6 kf
      rw [← HE.out, W1.out]
      refine bodyPost_ret (by simp [results, Try.results16, go_sem, ↓IntWalk.iteOmega, *]; try rfl) rfl ⟨.slice a1 L1.length e1, rfl, O5.out, E5.out, G1.out⟩
    have he0 : errM B s = 0 := by omega
    clear he
    have HL0 : Hid (∀ w1, Ext wr w1 → Calls Try.prog 62 #[.pointer (some ⟨mb, 0, none⟩), .int .u64 s] w1 fun e w' => e = .returned (.tuple #[.int .u64 x, .int .i64 0]) ∧ EndMem mb F' w1 B M (T' ++ [s]) w') := Lib.hid (fun w1 k => by have := HLo.out w1 k; rw [if_pos he0, if_pos he0, he0, HX.out] at this; exact this)
    have HE0 := Lib.hid he0
    clear he0
    go_upto_region 10 with (first | (go_at_call 61; refine (HSl.out _).mono ?_; rintro e w1 ⟨rfl, hb1⟩) | (go_at_call 62; refine (HL0.out _ (by repeat (first | exact Ext.refl _ | assumption | refine Ext.alloc ?_ _ | refine Ext.drew ?_ | refine Ext.setCell ?_ (by first | (simp; done) | (dsimp only; omega)) _ | refine Ext.trans ?_ (by assumption)))).mono ?_; rintro e w2 ⟨rfl, hE2⟩))
    have M2 : Hid (EndMem mb F w B M (T' ++ [s]) w2) := Lib.hid (EndMem.from ⟨HM'.out, HK'.out, HF'.out⟩ hb1 hE2)
    obtain ⟨F2, m2, k2, f2⟩ := hE2
    have hMx := HM'.out.ext hb1
    have hFr := (hR.out.1.ext hb1).keeps hMx k2
    have hS2 := (hR.out.2.2.1.ext hb1).keepsS hMx k2
    have hz2 := k2.size
    have hz1 := hb1.size
    have ho2 := heap_lt hFr.2.2
    have hp2 := heap_lt hFr.1
    have hq2 := heap_lt hFr.2.1
    have HSB : Hid (∀ (b : Nat) (c : Array Value) (e : TypeId), w2.heap[b]? = some (.cells c e (0, 0)) → e ≠ 65 → (Value.slice sa L.length sc).ownBlock ≠ some b) := Lib.hid (fun b c e hb he h => by
      obtain ⟨c', hc'⟩ := hS2.heap b h
      rw [hb] at hc'; simp only [Option.some.injEq, Obj.cells.injEq] at hc'; exact he hc'.2.1)
    have FR := Lib.hid hFr
    have HZ : Hid (∀ (b : Nat) (c : Array Value) (e : TypeId), w2.heap[b]? = some (.cells c e (0, 0)) → e ≠ 65 → ∀ w9 : World, World.grownBy (w2.alloc (.cells #[.int .i64 j, .int .u64 s, .int .u64 x] 65 (0, 0))) w9 (Value.slice sa L.length sc).ownBlock → w9.heap[b]? = some (.cells c e (0, 0))) := Lib.hid (fun b c e hb he w9 k9 =>
      (k9.block b (by rw [World.size_alloc]; have := heap_lt hb; omega) (fun h => HSB.out b c e hb he h.symm)).trans ((alloc_other _ _ (heap_lt hb)).trans hb))
    have HA := Lib.hid (hS2.ext ((Ext.refl w2).alloc (.cells #[.int .i64 j, .int .u64 s, .int .u64 x] 65 (0, 0))))
    have y0 := (heap_cell hFr.2.2 0).trans rfl
    have yf := frozen_of hFr.2.2
    clear hb1 k2 f2 m2 hMx hFr hS2 c0 c1 c2 c3 c4 c5
    go_upto_region 11 with (first | (at_builtin; refine wpList_append_owns rfl _ _ _ _ 3 24 stepRow rfl _ rfl L.length (rowS L) HA.out _ 1 1 rfl (Stp.cells ((j : Int), s, x)) rfl (fun j' u hu => by rw [add0, heap_cell (alloc_same w2 _) j']; simpa [Stp.cells] using hu) (by simp [Stp.cells, Value.oneCell']) (by unfold maxLen; omega) (by omega) ?_; intro v9 w9 q1 q2 q3; replace q2 : World.grownBy (w2.alloc (.cells #[.int .i64 j, .int .u64 s, .int .u64 x] 65 (0, 0))) w9 (Value.slice sa L.length sc).ownBlock := q2; replace q3 : v9.ownBlock = (Value.slice sa L.length sc).ownBlock ∨ v9.ownBlock = some (w2.alloc (.cells #[.int .i64 j, .int .u64 s, .int .u64 x] 65 (0, 0))).heap.size := q3; obtain ⟨a9, c9, rfl, -, -⟩ := q1.form; have z1 := HZ.out o _ _ FR.out.2.2 (by decide) w9 q2; have x2 := (heap_cell z1 0).trans rfl; have x3 := frozen_of z1; have ZO := Lib.hid z1; clear z1 y0 yf; simp only [Act.put, Array.set!_eq_setIfInBounds, List.setIfInBounds_toArray, List.set_cons_succ, List.set_cons_zero]))
    refine wp_gen ?_; intro U hU
    have ZP := HZ.out p _ _ FR.out.1 (by decide) w9 q2
    have ZQ := HZ.out q _ _ FR.out.2.1 (by decide) w9 q2
    have hUF : Fr U p q o n t' r' (.slice a9 (L.length + 1) c9) := by
      rw [hU]
      exact ⟨(setCell_heap _ _ _ _ _ npo.symm).trans ZP, (setCell_heap _ _ _ _ _ nqo.symm).trans ZQ, setCell_heap_same ZO.out⟩
    have hgo : ∀ g, (Value.slice a9 (L.length + 1) c9).ownBlock = some g → o ≠ g := fun g hg e => by
      obtain ⟨c, hc⟩ := q1.heap g hg
      rw [← e, ZO.out] at hc; simp at hc
    have hUS : Owns U 65 3 (.slice a9 (L.length + 1) c9) (L.length + 1) (rowS (L ++ [((j : Int), s, x)])) := by
      rw [hU, rowS_append, rowS_one]
      exact q1.keep fun g hg => setCell_heap _ _ _ _ _ (hgo g hg)
    have hUG : ∀ g, (Value.slice a9 (L.length + 1) c9).ownBlock = some g → w.heap.size ≤ g := fun g hg => by
      rcases q3 with q3 | q3 <;> rw [q3] at hg
      · exact hR.out.2.2.2.1 g hg
      · have := hR.out.2.2.2.2
        obtain ⟨_, _, kk, _⟩ := this
        have := kk.size
        simp only [World.size_alloc, Option.some.injEq] at hg; omega
    have hUM : EndMem mb F w B M (T' ++ [s]) U := by
      have e1 : EndMem mb F w B M (T' ++ [s]) (w2.alloc (.cells #[.int .i64 j, .int .u64 s, .int .u64 x] 65 (0, 0))) := M2.out.after ((Ext.refl _).alloc _)
      have e2 : EndMem mb F w B M (T' ++ [s]) w9 := e1.puts (G := (Value.slice sa L.length sc).ownBlock.toList) ((Keeps.refl _ _).grown q2 (fun x hx => .inl (by simpa using hx))) (fun x hx => by
        simp only [Option.mem_toList] at hx
        obtain ⟨c, hc⟩ := HA.out.heap x hx
        exact ⟨hR.out.2.2.2.1 x hx, c, _, hc, by decide, by decide, by decide⟩)
      rw [hU]
      exact e2.puts (G := [o]) ((Keeps.refl _ _).setCell (.inl (by simp)) _) (fun x hx => by simp only [List.mem_singleton] at hx; subst hx; exact ⟨wo0, _, _, ZO.out, by decide, by decide, by decide⟩)
    have UF := Lib.hid hUF
    have US := Lib.hid hUS
    have UG := Lib.hid hUG
    have UM := Lib.hid hUM
    clear hU hUF hUS hUG hUM q1 q2 q3 ZP ZQ ZO hgo FR HZ HSB HA M2 HLo HL0 HSl x2 x3 hz2 hz1 ho2 hp2 hq2 hpl hql hol
    obtain ⟨⟨c0, c1, c2, c3, c4, cf⟩, ⟨k0, k1, k2, k3, k4, k5, k6, kf⟩, ⟨y0, y1, y2, y3, y4, y5, y6, yf⟩⟩ := UF.out.facts
    obtain ⟨hpl, hql, hol⟩ := UF.out.lt
    have hb0 : (bits BinOp.and IntKind.u64 x 1 == 0) = !bitB x 0 := by
      have := bitE 0 (by omega) x0 x1
      have e : (bits BinOp.and IntKind.u64 x 1 != 0) = bitB x 0 := this
      rw [← e]; simp [bne]
    have hLU : ((L ++ [((j : Int), s, x)]).length : Int) = (L.length : Int) + 1 := by simp
    obtain ⟨L1, hL1⟩ : ∃ L1, L1 = L ++ [((j : Int), s, x)] := ⟨_, rfl⟩
    have HL1 := Aside.mk hL1
    have hLn : L.length + 1 = L1.length := by rw [hL1]; simp
    rw [← hL1] at US
    rw [hLn] at US UG
    have UM1 : Hid (EndMem mb F w B M (T ++ L1.map (·.2.1)) U) := Lib.hid (by rw [HL1.out, List.map_append, ← List.append_assoc, HT'.out]; exact UM.out)
    have O0 : Hid (U.heap[o]? = some (.cells #[.slice a9 L1.length c9, .int .i64 2, .bool false, .bool false, .bool false, .int .i64 0, .int .u64 0] 38 (0, 0))) := Lib.hid (by rw [← hLn]; exact UF.out.2.2)
    have Q0 : Hid (U.heap[q]? = some (.cells #[.slice none 0 0, .int .i64 0, .bool false, .bool false, .bool false, .int .i64 0, .int .u64 0] 38 (0, 0))) := Lib.hid UF.out.2.1
    clear hL1 hLU
    cases hp : bitB x 0
    · rw [hp] at hb0
      have W1 : Hid (walkF M B nxe a n t (ra, rb, rc) = (L1, 1, (false, false, false), 0, 0)) := Lib.hid (by rw [hR.out.2.1, walkJ_absent hj1 HS.out HX.out HE0.out hp, HL1.out]; rfl)
      have O1 : Hid ((U.setCell ⟨o, 1, none⟩ (.int .i64 1)).heap[o]? = some (.cells #[.slice a9 L1.length c9, .int .i64 1, .bool false, .bool false, .bool false, .int .i64 0, .int .u64 0] 38 (0, 0))) := Lib.hid (setCell_heap_same O0.out)
      have Q1 : Hid ((U.setCell ⟨o, 1, none⟩ (.int .i64 1)).heap[q]? = some (.cells #[.slice none 0 0, .int .i64 0, .bool false, .bool false, .bool false, .int .i64 0, .int .u64 0] 38 (0, 0))) := Lib.hid ((setCell_heap _ _ _ _ _ nqo.symm).trans Q0.out)
      have S1 : Hid (Owns (U.setCell ⟨o, 1, none⟩ (.int .i64 1)) 65 3 (.slice a9 L1.length c9) L1.length (rowS L1)) := Lib.hid (US.out.keep fun g hg => setCell_heap _ o 1 g _ (fun e => by
        obtain ⟨c, hc⟩ := US.out.heap g hg
        rw [← e, O0.out] at hc; simp at hc))
      have M1 : Hid (EndMem mb F w B M (T ++ L1.map (·.2.1)) (U.setCell ⟨o, 1, none⟩ (.int .i64 1))) := Lib.hid (UM1.out.puts (G := [o]) ((Keeps.refl _ _).setCell (.inl (by simp)) _) (fun x hx => by simp only [List.mem_singleton] at hx; subst hx; exact ⟨wo0, _, _, O0.out, by decide, by decide, by decide⟩))
      have G1 := UG
      clear hp c0 c1 c2 c3 c4 cf k0 k1 k2 k3 k4 k5 k6 kf y2 y3 y4 y5 y6
      obtain ⟨a1, ha1'⟩ : ∃ a1, a1 = a9 := ⟨_, rfl⟩
      obtain ⟨e1, he1'⟩ : ∃ e1, e1 = c9 := ⟨_, rfl⟩
      subst ha1' he1'
      clear y0 y1 yf
      have y1 := (heap_cell O0.out 1).trans rfl
      have yf := frozen_of O0.out
      go_upto_region 18 with (fail)
      refine wp_gen ?_; intro U1 hU1
      rw [← hU1] at O1 Q1 S1 M1
      clear hU1 y1 yf hpl hql hol
      have y0 := (heap_cell O1.out 0).trans rfl
      have y1 := (heap_cell O1.out 1).trans rfl
      have y2 := (heap_cell O1.out 2).trans rfl
      have y3 := (heap_cell O1.out 3).trans rfl
      have y4 := (heap_cell O1.out 4).trans rfl
      have y5 := (heap_cell O1.out 5).trans rfl
      have y6 := (heap_cell O1.out 6).trans rfl
      have k0 := (heap_cell Q1.out 0).trans rfl
      have k1 := (heap_cell Q1.out 1).trans rfl
      have k2 := (heap_cell Q1.out 2).trans rfl
      have k3 := (heap_cell Q1.out 3).trans rfl
      have k4 := (heap_cell Q1.out 4).trans rfl
      have k5 := (heap_cell Q1.out 5).trans rfl
      have k6 := (heap_cell Q1.out 6).trans rfl
      have kf := frozen_of Q1.out
      have hql := heap_lt Q1.out
      have hol := heap_lt O1.out
      go_wp2
      (try rw [Exit.noGoto_ret])
      refine post_gen (fun X => X.heap[q]? = some (.cells #[.slice a1 L1.length e1, .int .i64 1, .bool false, .bool false, .bool false, .int .i64 0, .int .u64 0] 38 (0, 0)) ∧ Owns X 65 3 (.slice a1 L1.length e1) L1.length (rowS L1) ∧ EndMem mb F w B M (T ++ L1.map (·.2.1)) X) ⟨store7_heap Q1.out, ?_, ?_⟩ ?_
      · refine S1.out.keep fun g hg => ?_
        obtain ⟨c, hc⟩ := S1.out.heap g hg
        exact store7_other (fun e => by rw [← e, Q1.out] at hc; simp at hc)
      · exact M1.out.puts keepsQ (fun x hx => by simp only [List.mem_singleton] at hx; subst hx; exact ⟨wq0, _, _, Q1.out, by decide, by decide, by decide⟩)
      rintro X ⟨m5, o5, e5⟩
      have v0 := (heap_cell m5 0).trans rfl
      have v1 := (heap_cell m5 1).trans rfl
      have v2 := (heap_cell m5 2).trans rfl
      have v3 := (heap_cell m5 3).trans rfl
      have v4 := (heap_cell m5 4).trans rfl
      have v5 := (heap_cell m5 5).trans rfl
      have v6 := (heap_cell m5 6).trans rfl
      have O5 := Lib.hid o5
      have E5 := Lib.hid e5
      clear m5 o5 e5 y0 y1 y2 y3 y4 y5 y6 k0 k1 k2 k3 k4 k5 k6 kf
      rw [← HE.out, W1.out]
      refine bodyPost_ret (by simp [results, Try.results16, go_sem, ↓IntWalk.iteOmega, *]; try rfl) rfl ⟨.slice a1 L1.length e1, rfl, O5.out, E5.out, G1.out⟩
    · rw [hp] at hb0
      have HRs := Lib.hid (fun w => entReserved_c x j B nxe w (by omega) (by omega) x0 x1 hB0 hB1)
      have HBi : Hid (∀ w1, Ext U w1 → Calls Try.prog 64 #[.pointer (some ⟨mb, 0, none⟩)] w1 fun e w' => e = .returned (.int .i64 B) ∧ Ext w1 w') := Lib.hid (fun w1 k => by
        obtain ⟨F3, m3, _, _⟩ := UM1.out
        exact bits_c mb F3 B M _ w1 (m3.ext k))
      cases hr : resI x j B nxe
      · rw [hr] at HRs
        have HLf := Lib.hid (fun w => entLeaf_c x j w x0 x1)
        have HTb := Lib.hid (fun w => entTable_c x w x0 x1)
        have HFm := Lib.hid (fun w => entFrame_c x j w (by omega) (by omega) x0 x1)
        obtain ⟨r0, r1, r2⟩ := r'
        have HAn := Lib.hid (fun w => rightAndE_c r0 r1 r2 x w x0 x1)
        have HR0 := Lib.hid hr
        have HP0 := Lib.hid hp
        clear hp
        have htl := tabI_le x0
        have HAR : Hid (andR (r0, r1, r2) x = (r0 && bitB x 1, r1 && bitB x 2, r2 && !bitB x 63)) := Lib.hid rfl
        generalize (r0 && bitB x 1) = s0 at HAn HAR
        generalize (r1 && bitB x 2) = s1 at HAn HAR
        generalize (r2 && !bitB x 63) = s2 at HAn HAR
        clear hr cf k0 k1 k2 k3 k4 k5 k6 kf y0 y1 y2 y3 y4 y5 y6 yf c0 c1 c2 c3 c4
        go_upto_region 14 with (first | (go_at_call 64; refine (HBi.out _ (by repeat (first | exact Ext.refl _ | assumption | refine Ext.alloc ?_ _ | refine Ext.drew ?_ | refine Ext.setCell ?_ (by first | (simp; done) | (dsimp only; omega)) _ | refine Ext.trans ?_ (by assumption)))).mono ?_; rintro e w3 ⟨rfl, hb3⟩) | (go_at_call 63; refine (HRs.out _).mono ?_; rintro e w4 ⟨rfl, hb4⟩))
        have E4 : Ext U w4 := Ext.trans (by repeat (first | exact Ext.refl _ | assumption | refine Ext.alloc ?_ _ | refine Ext.drew ?_ | refine Ext.setCell ?_ (by first | (simp; done) | (dsimp only; omega)) _ | refine Ext.trans ?_ (by assumption))) hb4
        rw [hLn] at UF
        have UF4 : Hid (Fr w4 p q o n t' (r0, r1, r2) (.slice a9 L1.length c9)) := Lib.hid (UF.out.ext E4)
        have US4 := Lib.hid (US.out.ext E4)
        have UM4 := Lib.hid (UM1.out.after E4)
        obtain ⟨⟨-, -, c2, c3, c4, -⟩, -, -⟩ := UF4.out.facts
        have hpl4 := UF4.out.lt.1
        clear hb3 hb4 E4 hpl hql hol
        go_upto_region 15 with (first | (go_at_call 65; refine (HAn.out _).mono ?_; rintro e w5 ⟨rfl, hb5⟩; have z5 := (UF4.out.ext hb5).1; have d2 := (heap_cell z5 2).trans rfl; have d3 := (heap_cell z5 3).trans rfl; have d4 := (heap_cell z5 4).trans rfl; have df := frozen_of z5; have hpl5 := heap_lt z5; have Z5 := Lib.hid (UF4.out.ext hb5); clear z5))
        refine wp_gen ?_; intro U5 hU5
        have UF5 : Hid (Fr U5 p q o n t' (s0, s1, s2) (.slice a9 L1.length c9)) := Lib.hid (by
          rw [hU5]
          exact ⟨setCell_heap_same (setCell_heap_same (setCell_heap_same Z5.out.1)), (setCell_heap _ _ _ _ _ npq).trans ((setCell_heap _ _ _ _ _ npq).trans ((setCell_heap _ _ _ _ _ npq).trans Z5.out.2.1)), (setCell_heap _ _ _ _ _ npo).trans ((setCell_heap _ _ _ _ _ npo).trans ((setCell_heap _ _ _ _ _ npo).trans Z5.out.2.2))⟩)
        have US5 : Hid (Owns U5 65 3 (.slice a9 L1.length c9) L1.length (rowS L1)) := Lib.hid (by
          rw [hU5]
          refine (US4.out.ext hb5).keep fun g hg => ?_
          have hne : p ≠ g := fun e => by
            obtain ⟨c, hc⟩ := (US4.out.ext hb5).heap g hg
            rw [← e, Z5.out.1] at hc; simp at hc
          exact (setCell_heap _ _ _ _ _ hne).trans ((setCell_heap _ _ _ _ _ hne).trans (setCell_heap _ _ _ _ _ hne))
          )
        have UM5 : Hid (EndMem mb F w B M (T ++ L1.map (·.2.1)) U5) := Lib.hid (by
          rw [hU5]
          exact (UM4.out.after hb5).puts (G := [p]) ((((Keeps.refl _ _).setCell (.inl (by simp)) _).setCell (.inl (by simp)) _).setCell (.inl (by simp)) _) (fun x hx => by simp only [List.mem_singleton] at hx; subst hx; exact ⟨wp0, _, _, Z5.out.1, by decide, by decide, by decide⟩))
        clear hU5 hb5 Z5 d2 d3 d4 df c2 c3 c4 hpl4 hpl5 UF4 US4 UM4 UM US UF UM1
        cases hl : leafI x j
        · have WO : Hid (walkF M B nxe a n t (ra, rb, rc) = (L1 ++ (walkF M B nxe a (j - 1) (tabI x) (andR (r0, r1, r2) x)).1, (walkF M B nxe a (j - 1) (tabI x) (andR (r0, r1, r2) x)).2)) := Lib.hid (by rw [hR.out.2.1, walkJ_on hj1 HS.out HX.out HE0.out HP0.out HR0.out hl, HL1.out]; simp)
          rw [hl] at HLf
          generalize andR (r0, r1, r2) x = rr at WO HAR
          generalize tabI x = tb at WO HTb htl
          obtain ⟨tb0, tb1, -, -⟩ := htl
          clear hl
          go_upto_region 16 with (first | (go_at_call 66; refine (HLf.out _).mono ?_; rintro e w6 ⟨rfl, hb6⟩))
          have UF6 : Hid (Fr w6 p q o n t' (s0, s1, s2) (.slice a9 L1.length c9)) := Lib.hid (UF5.out.ext hb6)
          have US6 := Lib.hid (US5.out.ext hb6)
          have UM6 := Lib.hid (UM5.out.after hb6)
          clear hb6
          go_wp2_with (first | (go_at_call 68; refine (HTb.out _).mono ?_; rintro e w7 ⟨rfl, hb7⟩; have z7 := (UF6.out.ext hb7).1; have d1 := (heap_cell z7 1).trans rfl; have df := frozen_of z7; have hpl7 := heap_lt z7; have Z7 := Lib.hid (UF6.out.ext hb7); clear z7))
          refine ⟨⟨j - 1, tb, (s0, s1, s2), L1, a9, c9, by omega, by rw [show ((j - 1 : Nat) : Int) = (j : Int) - 1 by omega], tb0, by omega, by omega, Lib.hid ⟨⟨setCell_heap_same Z7.out.1, (setCell_heap _ _ _ _ _ npq).trans Z7.out.2.1, (setCell_heap _ _ _ _ _ npo).trans Z7.out.2.2⟩, by rw [WO.out, HAR.out], (US6.out.ext hb7).keep fun g hg => setCell_heap _ p 1 g _ (fun e => by
            obtain ⟨c, hc⟩ := (US6.out.ext hb7).heap g hg
            rw [← e, Z7.out.1] at hc; simp at hc), UG.out, (UM6.out.after hb7).puts (G := [p]) ((Keeps.refl _ _).setCell (.inl (by simp)) _) (fun x hx => by simp only [List.mem_singleton] at hx; subst hx; exact ⟨wp0, _, _, Z7.out.1, by decide, by decide, by decide⟩)⟩⟩, by simp [intOf]; omega⟩
        · have W1 : Hid (walkF M B nxe a n t (ra, rb, rc) = (L1, 0, (s0, s1, s2), (j : Int), frameI x j)) := Lib.hid (by rw [hR.out.2.1, walkJ_leaf hj1 HS.out HX.out HE0.out HP0.out HR0.out hl, HL1.out, HAR.out])
          rw [hl] at HLf
          generalize frameI x j = fr at HFm W1
          clear hl
          go_upto_region 16 with (first | (go_at_call 66; refine (HLf.out _).mono ?_; rintro e w6 ⟨rfl, hb6⟩))
          have UF6 : Hid (Fr w6 p q o n t' (s0, s1, s2) (.slice a9 L1.length c9)) := Lib.hid (UF5.out.ext hb6)
          have US6 := Lib.hid (US5.out.ext hb6)
          have UM6 := Lib.hid (UM5.out.after hb6)
          obtain ⟨⟨-, -, c2, c3, c4, -⟩, -, ⟨y0, -, -, -, -, -, -, -⟩⟩ := UF6.out.facts
          obtain ⟨hpl6, hql6, hol6⟩ := UF6.out.lt
          clear hb6
          refine region_ext_tail 9 (by kernel_rfl) (by kernel_rfl) ?_; simp only [List.take_succ_cons, List.take_zero, List.drop_succ_cons, List.drop_zero]; (repeat (go_big_quiet_step (first | (go_at_call 67; exact calls_wext (HFm.out _))))); refine wpQuiet_nil ?_; intro w1 hb; have ⟨hc, hf, hh, hs⟩ := hb.facts; try simp only [World.size_alloc, World.size_setCell, World.size_drew] at hs
          have E8 := Lib.hid hb
          have Z8 := (hb.block _ hql6).trans UF6.out.2.1
          have k0 := (heap_cell Z8 0).trans rfl
          have k1 := (heap_cell Z8 1).trans rfl
          have k2 := (heap_cell Z8 2).trans rfl
          have k3 := (heap_cell Z8 3).trans rfl
          have k4 := (heap_cell Z8 4).trans rfl
          have k5 := (heap_cell Z8 5).trans rfl
          have k6 := (heap_cell Z8 6).trans rfl
          have kf := frozen_of Z8
          have hql8 := heap_lt Z8
          have Q8 := Lib.hid Z8
          clear Z8 hb hc hf hh c2 c3 c4 y0
          go_wp2
          (try rw [Exit.noGoto_ret])
          refine post_gen (fun X => X.heap[q]? = some (.cells #[.slice a9 L1.length c9, .int .i64 0, .bool s0, .bool s1, .bool s2, .int .i64 j, .int .u64 fr] 38 (0, 0)) ∧ Owns X 65 3 (.slice a9 L1.length c9) L1.length (rowS L1) ∧ EndMem mb F w B M (T ++ L1.map (·.2.1)) X) ⟨store7_heap Q8.out, ?_, ?_⟩ ?_
          · refine (US6.out.ext E8.out).keep fun g hg => ?_
            obtain ⟨c, hc⟩ := (US6.out.ext E8.out).heap g hg
            exact store7_other (fun e => by rw [← e, Q8.out] at hc; simp at hc)
          · exact (UM6.out.after E8.out).puts keepsQ (fun x hx => by simp only [List.mem_singleton] at hx; subst hx; exact ⟨wq0, _, _, Q8.out, by decide, by decide, by decide⟩)
          rintro X ⟨m5, o5, e5⟩
          have v0 := (heap_cell m5 0).trans rfl
          have v1 := (heap_cell m5 1).trans rfl
          have v2 := (heap_cell m5 2).trans rfl
          have v3 := (heap_cell m5 3).trans rfl
          have v4 := (heap_cell m5 4).trans rfl
          have v5 := (heap_cell m5 5).trans rfl
          have v6 := (heap_cell m5 6).trans rfl
          have O5 := Lib.hid o5
          have E5 := Lib.hid e5
          clear m5 o5 e5 k0 k1 k2 k3 k4 k5 k6 kf
          rw [← HE.out, W1.out]
          refine bodyPost_ret (by simp [results, Try.results16, go_sem, ↓IntWalk.iteOmega, *]; try rfl) rfl ⟨.slice a9 L1.length c9, rfl, O5.out, E5.out, UG.out⟩
      · rw [hr] at HRs
        have W1 : Hid (walkF M B nxe a n t (ra, rb, rc) = (L1, 2, (false, false, false), 0, 0)) := Lib.hid (by rw [hR.out.2.1, walkJ_res hj1 HS.out HX.out HE0.out hp hr, HL1.out]; rfl)
        clear hp hr c0 c1 c2 c3 c4 cf k0 k1 k2 k3 k4 k5 k6 kf y0 y1 y2 y3 y4 y5 y6 yf
        go_upto_region 18 with (first | (go_at_call 64; refine (HBi.out _ (by repeat (first | exact Ext.refl _ | assumption | refine Ext.alloc ?_ _ | refine Ext.drew ?_ | refine Ext.setCell ?_ (by first | (simp; done) | (dsimp only; omega)) _ | refine Ext.trans ?_ (by assumption)))).mono ?_; rintro e w3 ⟨rfl, hb3⟩) | (go_at_call 63; refine (HRs.out _).mono ?_; rintro e w4 ⟨rfl, hb4⟩))
        have E4 : Ext U w4 := Ext.trans (by repeat (first | exact Ext.refl _ | assumption | refine Ext.alloc ?_ _ | refine Ext.drew ?_ | refine Ext.setCell ?_ (by first | (simp; done) | (dsimp only; omega)) _ | refine Ext.trans ?_ (by assumption))) hb4
        have O1 := Lib.hid ((E4.block _ hol).trans O0.out)
        have Q1 := Lib.hid ((E4.block _ hql).trans Q0.out)
        have S1 := Lib.hid (US.out.ext E4)
        have M1 := Lib.hid (UM1.out.after E4)
        have G1 := UG
        clear hb3 hb4 E4 hpl hql hol
        obtain ⟨a1, ha1'⟩ : ∃ a1, a1 = a9 := ⟨_, rfl⟩
        obtain ⟨e1, he1'⟩ : ∃ e1, e1 = c9 := ⟨_, rfl⟩
        subst ha1' he1'
        have y0 := (heap_cell O1.out 0).trans rfl
        have y1 := (heap_cell O1.out 1).trans rfl
        have y2 := (heap_cell O1.out 2).trans rfl
        have y3 := (heap_cell O1.out 3).trans rfl
        have y4 := (heap_cell O1.out 4).trans rfl
        have y5 := (heap_cell O1.out 5).trans rfl
        have y6 := (heap_cell O1.out 6).trans rfl
        have k0 := (heap_cell Q1.out 0).trans rfl
        have k1 := (heap_cell Q1.out 1).trans rfl
        have k2 := (heap_cell Q1.out 2).trans rfl
        have k3 := (heap_cell Q1.out 3).trans rfl
        have k4 := (heap_cell Q1.out 4).trans rfl
        have k5 := (heap_cell Q1.out 5).trans rfl
        have k6 := (heap_cell Q1.out 6).trans rfl
        have kf := frozen_of Q1.out
        have hql := heap_lt Q1.out
        have hol := heap_lt O1.out
        go_wp2
        (try rw [Exit.noGoto_ret])
        refine post_gen (fun X => X.heap[q]? = some (.cells #[.slice a1 L1.length e1, .int .i64 2, .bool false, .bool false, .bool false, .int .i64 0, .int .u64 0] 38 (0, 0)) ∧ Owns X 65 3 (.slice a1 L1.length e1) L1.length (rowS L1) ∧ EndMem mb F w B M (T ++ L1.map (·.2.1)) X) ⟨store7_heap Q1.out, ?_, ?_⟩ ?_
        · refine S1.out.keep fun g hg => ?_
          obtain ⟨c, hc⟩ := S1.out.heap g hg
          exact store7_other (fun e => by rw [← e, Q1.out] at hc; simp at hc)
        · exact M1.out.puts keepsQ (fun x hx => by simp only [List.mem_singleton] at hx; subst hx; exact ⟨wq0, _, _, Q1.out, by decide, by decide, by decide⟩)
        rintro X ⟨m5, o5, e5⟩
        have v0 := (heap_cell m5 0).trans rfl
        have v1 := (heap_cell m5 1).trans rfl
        have v2 := (heap_cell m5 2).trans rfl
        have v3 := (heap_cell m5 3).trans rfl
        have v4 := (heap_cell m5 4).trans rfl
        have v5 := (heap_cell m5 5).trans rfl
        have v6 := (heap_cell m5 6).trans rfl
        have O5 := Lib.hid o5
        have E5 := Lib.hid e5
        clear m5 o5 e5 y0 y1 y2 y3 y4 y5 y6 k0 k1 k2 k3 k4 k5 k6 kf
        rw [← HE.out, W1.out]
        refine bodyPost_ret (by simp [results, Try.results16, go_sem, ↓IntWalk.iteOmega, *]; try rfl) rfl ⟨.slice a1 L1.length e1, rfl, O5.out, E5.out, G1.out⟩

end Go.Proofs.Ytfaekfdngkpkdaa
/- What was loaded: a copy of it; where a walk begins. -/
namespace Go.Proofs.Ytfaekfdngkpkdaa
set_option linter.unusedVariables false
set_option linter.unusedSimpArgs false
open Go.RowKit
attribute [local go_sem] wext_cell wext_frozen wext_heap alloc_cell alloc_frozen alloc_heap setCell_cell objCell_cells objFrozen_cells

/-- A copy of these words. -/
def EndWords (w : World) (ks : List Int) (e : Ending) (w' : World) : Prop :=
  ∃ v', e = .returned v' ∧ Owns w' 23 1 v' ks.length (ks.map (.int .u64 ·)) ∧ Ext w w' ∧ ∀ g, v'.ownBlock = some g → w.heap.size ≤ g

theorem cloneW_c (ks : List Int) (v : Value) (w : World) (ho : Owns w 23 1 v ks.length (ks.map (.int .u64 ·))) (hl : ks.length ≤ 1000000) :
    Calls Try.prog 104 #[v] w (EndWords w ks) := by
  have HO := Lib.hid ho
  have qT : ∀ (w : World) (a : Option Addr) (n c n' c' : Nat), (binOp .eql 32 (.slice a n c) (.slice none n' c')).run Try.prog w = .ok (.bool a.isNone) w := fun w a n c n' c' => Lib.run_eql_slice_nil w _ _ a n c n' c' Try.underlying32
  rcases ho.2 with ⟨rfl, h0⟩ | ⟨g, cap, cur, rfl, hg, hn, hm, hcs, htake⟩
  · go_enter Try.func104, Try.ntmps104
    clear ho h0
    go_wp2
    all_goals
      go_ret
      exact ⟨_, rfl, HO.out, (by repeat (first | exact Ext.refl _ | assumption | refine Ext.alloc ?_ _ | refine Ext.drew ?_ | refine Ext.setCell ?_ (by first | (simp; done) | (dsimp only; omega)) _ | refine Ext.trans ?_ (by assumption))), fun g hg => by cases hg⟩
  · go_enter Try.func104, Try.ntmps104
    unfold maxLen at hm
    clear ho htake hcs hg
    have hcl : ∀ j u, (ks.map (Value.int .u64 ·))[j]? = some u → (w.alloc (.cells #[] 23)).cell? ((⟨g, 0, none⟩ : Addr).add j) = some u := fun j u hu => by
      rw [add0, alloc_cell, if_pos (HO.out.lt g rfl)]; exact HO.out.cells rfl j u hu
    go_wp2_with (first | (at_builtin; refine wpList_append_owns rfl _ _ _ _ 1 8 wordRow rfl _ rfl 0 [] (Owns.fresh (c := #[]) (by rw [alloc_heap]; simp)) _ _ _ rfl (ks.map (Value.int .u64 ·)) (by simp) hcl (by simp [Value.oneCell']) (by unfold maxLen; omega) (by omega) ?_; intro v1 w1 q1 q2 q3; replace q2 : (w.alloc (.cells #[] 23)).grownBy w1 (some w.heap.size) := q2; replace q3 : v1.ownBlock = some w.heap.size ∨ v1.ownBlock = some (w.alloc (.cells #[] 23)).heap.size := q3))
    all_goals
      go_ret
      refine ⟨_, rfl, ?_, ?_, ?_⟩
      · show Owns w1 _ 1 v1 _ _
        simpa using q1
      · refine Keeps.to_ext (F := []) (Ext.refl w) ?_ (by simp)
        exact ((Keeps.of_ext ((Ext.refl w).alloc _)).grown q2 (fun x hx => .inr (by cases hx; exact Nat.le_refl _)))
      · intro g hg
        replace hg : v1.ownBlock = some g := hg
        rcases q3 with q3 | q3 <;> rw [q3] at hg <;> cases hg <;> simp
theorem trace_c (mb : Nat) (F : List Nat) (B : Int) (M : Int → Int) (T : List Int) (w : World) (h : MemAt w mb F B M T) (hT : T.length ≤ 1000000) :
    Calls Try.prog 51 #[.pointer (some ⟨mb, 0, none⟩)] w (EndWords w T) := by
  obtain ⟨pb, tv, es, clock, PL, p1, -, -, -, -, -, -, -, p9, -, -⟩ := h
  obtain ⟨ta, tc, rfl, -, -⟩ := p9.form
  have c2 := (heap_cell p1 2).trans rfl
  have hlt := heap_lt p1
  have HC := Lib.hid (fun w' (k : Ext w w') => cloneW_c T _ w' (p9.ext k) hT)
  generalize hE : EndWords w T = E
  have HE := Lib.hid hE
  clear hE p1 p9
  go_enter Try.func51, Try.ntmps51
  go_wp2_with (first | (go_at_call 104; refine (HC.out _ (by repeat (first | exact Ext.refl _ | assumption | refine Ext.alloc ?_ _ | refine Ext.drew ?_ | refine Ext.setCell ?_ (by first | (simp; done) | (dsimp only; omega)) _ | refine Ext.trans ?_ (by assumption)))).mono ?_; rintro e w1 ⟨v', rfl, q1, q2, q3⟩))
  all_goals
    (try go_ret)
    rw [← HE.out]
    exact ⟨v', rfl, q1, q2, q3⟩
theorem wTop_c (root : Int) (w : World) (h0 : 0 ≤ root) (h1 : root ≤ 18446744073709551615) :
    Calls Try.prog 28 #[.int .u64 root] w fun e w' => e = .returned (.agg #[.int .i64 4, .int .u64 (tabI root), .bool true, .bool true, .bool true]) ∧ Ext w w' := by
  have HT := Lib.hid (fun w => entTable_c root w h0 h1)
  generalize tabI root = tb at HT
  go_enter Try.func28, Try.ntmps28
  go_wp2_with (first | (go_at_call 68; refine (HT.out _).mono ?_; rintro e w1 ⟨rfl, hb1⟩; have ⟨hc, hf, hh, hs⟩ := hb1.facts; try simp only [World.size_alloc, World.size_setCell, World.size_drew] at hs) | (go_at_call 42; refine (rightAllE_c _).mono ?_; rintro e w2 ⟨rfl, hb2⟩; have ⟨hc, hf, hh, hs2⟩ := hb2.facts; try simp only [World.size_alloc, World.size_setCell, World.size_drew] at hs2))
  have B1 := (hb1.block w.heap.size (by simp)).trans (alloc_same ..)
  have B2 := (hb2.block w.heap.size (heap_lt B1)).trans B1
  have E2 : Ext w w2 := Ext.trans (by repeat (first | exact Ext.refl _ | assumption | refine Ext.alloc ?_ _ | refine Ext.drew ?_ | refine Ext.setCell ?_ (by first | (simp; done) | (dsimp only; omega)) _ | refine Ext.trans ?_ (by assumption))) hb2
  refine post_gen (fun U => U.heap[w.heap.size]? = some (.cells #[.int .i64 4, .int .u64 tb, .bool true, .bool true, .bool true] 41 (0, 0)) ∧ Ext w U) ⟨setCell_heap_same (setCell_heap_same (setCell_heap_same (setCell_heap_same (setCell_heap_same B2)))), Ext.setCell (Ext.setCell (Ext.setCell (Ext.setCell (Ext.setCell E2 (by simp) _) (by simp) _) (by simp) _) (by simp) _) (by simp) _⟩ ?_
  clear hc hf hh hs hs2 hb1 hb2 B1 B2 E2
  rintro U ⟨m5, e5⟩
  have v0 := (heap_cell m5 0).trans rfl
  have v1 := (heap_cell m5 1).trans rfl
  have v2 := (heap_cell m5 2).trans rfl
  have v3 := (heap_cell m5 3).trans rfl
  have v4 := (heap_cell m5 4).trans rfl
  clear m5
  refine bodyPost_ret (by simp [results, Try.results28, go_sem, ↓IntWalk.iteOmega, *]; try rfl) rfl ⟨rfl, e5⟩
end Go.Proofs.Ytfaekfdngkpkdaa
/- A law's own memory: what its operations leave alone; paths in blocks. -/
namespace Go.Proofs.Ytfaekfdngkpkdaa
set_option linter.unusedVariables false
set_option linter.unusedSimpArgs false
open Go.RowKit
attribute [local go_sem] wext_cell wext_frozen wext_heap alloc_cell alloc_frozen alloc_heap setCell_cell objCell_cells objFrozen_cells

/-- What came before a base, and what is no memory's, is as it was. -/
def Sep (base : Nat) (U V : World) : Prop :=
  Below base U V ∧ ∀ (b : Nat) (c : Array Value) (e : TypeId), U.heap[b]? = some (.cells c e (0, 0)) → e ≠ 187 → e ≠ 23 → e ≠ 191 → V.heap[b]? = some (.cells c e (0, 0))
theorem Sep.of_ext {base : Nat} {U V : World} (k : Ext U V) (hb : base ≤ U.heap.size) : Sep base U V :=
  ⟨Below.mono k hb, fun b c e h _ _ _ => (k.block b (heap_lt h)).trans h⟩
theorem Sep.size {base : Nat} {U V : World} (h : Sep base U V) : U.heap.size ≤ V.heap.size := Below.size h.1
theorem Sep.trans {base : Nat} {U V W : World} (h : Sep base U V) (k : Sep base V W) : Sep base U W :=
  ⟨Below.trans h.1 k.1, fun b c e hb h1 h2 h3 => k.2 b c e (h.2 b c e hb h1 h2 h3) h1 h2 h3⟩
theorem Sep.ext {base : Nat} {U V W : World} (h : Sep base U V) (k : Ext V W) (hb : base ≤ U.heap.size) : Sep base U W := h.trans (Sep.of_ext k (Nat.le_trans hb h.size))
theorem Sep.to_ext {U V : World} (h : Sep U.heap.size U V) : Ext U V := h.1

/-- A memory all whose blocks lie from a base on. -/
def MemIn (base : Nat) (U : World) (mb : Nat) (B : Int) (M : Int → Int) (T : List Int) : Prop := ∃ F, MemAt U mb F B M T ∧ ∀ x ∈ F, base ≤ x
theorem MemIn.ext {base : Nat} {U V : World} {mb : Nat} {B : Int} {M : Int → Int} {T : List Int} (h : MemIn base U mb B M T) (k : Ext U V) : MemIn base V mb B M T := by
  obtain ⟨F, h1, h2⟩ := h; exact ⟨F, h1.ext k, h2⟩
theorem MemIn.mono {base base' : Nat} {U : World} {mb : Nat} {B : Int} {M : Int → Int} {T : List Int} (h : MemIn base U mb B M T) (k : base' ≤ base) : MemIn base' U mb B M T := by
  obtain ⟨F, h1, h2⟩ := h; exact ⟨F, h1, fun x hx => Nat.le_trans k (h2 x hx)⟩
theorem MemIn.lt {base : Nat} {U : World} {mb : Nat} {B : Int} {M : Int → Int} {T : List Int} (h : MemIn base U mb B M T) : mb < U.heap.size := by
  obtain ⟨F, h1, h2⟩ := h; exact h1.head.2.1
theorem MemIn.wide {base : Nat} {U : World} {mb : Nat} {B : Int} {M : Int → Int} {T : List Int} (h : MemIn base U mb B M T) : ∀ s, 0 ≤ M s ∧ M s ≤ 18446744073709551615 := by
  obtain ⟨F, ⟨pb, tv, es, clock, PL, p1, p2, p3, p4, p5, p6, p7, p8, p9, -, p10⟩, -⟩ := h; exact p8
/-- Another memory, whose blocks lie below the base. -/
theorem MemAt.sep {base : Nat} {U V : World} {mb : Nat} {F : List Nat} {B : Int} {M : Int → Int} {T : List Int} (h : MemAt U mb F B M T) (k : Sep base U V) (hF : ∀ x ∈ F, x < base) : MemAt V mb F B M T :=
  h.keeps (G := (List.range U.heap.size).filter fun b => decide (base ≤ b)) ⟨k.1.os, k.1.tape, k.1.output, k.size, fun b hb hn => by
    have : b < base := by
      rcases Nat.lt_or_ge b base with q | q
      · exact q
      · exact absurd (List.mem_filter.2 ⟨List.mem_range.2 hb, by simpa using q⟩) hn
    exact Below.block k.1 b this⟩ (fun x hx hm => by
    have := hF x hx
    have h2 := (List.mem_filter.1 hm).2
    simp only [decide_eq_true_eq] at h2; omega)
theorem MemIn.sep {base base' : Nat} {U V : World} {mb : Nat} {B : Int} {M : Int → Int} {T : List Int} (h : MemIn base' U mb B M T) (k : Sep base U V) (hF : U.heap.size ≤ base) : MemIn base' V mb B M T := by
  obtain ⟨F, h1, h2⟩ := h
  exact ⟨F, h1.sep k fun x hx => Nat.lt_of_lt_of_le (h1.lt x hx) hF, h2⟩
theorem EndMem.sep {base : Nat} {U V : World} {mb : Nat} {F : List Nat} {B : Int} {M M' : Int → Int} {T T' : List Int} (m : MemAt U mb F B M T) (h : EndMem mb F U B M' T' V) (hF : ∀ x ∈ F, base ≤ x) (hb : base ≤ U.heap.size) : MemIn base V mb B M' T' ∧ Sep base U V := by
  obtain ⟨F', h1, h2, h3⟩ := h
  refine ⟨⟨F', h1, fun x hx => ?_⟩, ⟨h2.os, h2.tape, h2.output, h2.size, fun b hb => h2.block b (by omega) (fun hm => by have := hF b hm; omega)⟩, fun b c e hbb q1 q2 q3 => (h2.block b (heap_lt hbb) (m.apart hbb q1 q2 q3)).trans hbb⟩
  rcases h3 x hx with q | q
  · exact hF x q
  · omega

/-- A path as a value; in a block. -/
def PathV (U : World) (v : Value) (q : List Stp × WRes) : Prop :=
  ∃ sa sc, v = .agg #[.slice sa q.1.length sc, .int .i64 q.2.1, .bool q.2.2.1.1, .bool q.2.2.1.2.1, .bool q.2.2.1.2.2, .int .i64 q.2.2.2.1, .int .u64 q.2.2.2.2] ∧ Owns U 65 3 (.slice sa q.1.length sc) q.1.length (rowS q.1)
def PathAt (U : World) (b : Nat) (sa : Option Addr) (sc : Nat) (q : List Stp × WRes) : Prop :=
  U.heap[b]? = some (.cells #[.slice sa q.1.length sc, .int .i64 q.2.1, .bool q.2.2.1.1, .bool q.2.2.1.2.1, .bool q.2.2.1.2.2, .int .i64 q.2.2.2.1, .int .u64 q.2.2.2.2] 38 (0, 0)) ∧
    Owns U 65 3 (.slice sa q.1.length sc) q.1.length (rowS q.1)
theorem PathAt.ext {U V : World} {b : Nat} {sa : Option Addr} {sc : Nat} {q : List Stp × WRes} (h : PathAt U b sa sc q) (k : Ext U V) : PathAt V b sa sc q := ⟨(k.block b (heap_lt h.1)).trans h.1, h.2.ext k⟩
theorem PathAt.sep {base : Nat} {U V : World} {b : Nat} {sa : Option Addr} {sc : Nat} {q : List Stp × WRes} (h : PathAt U b sa sc q) (k : Sep base U V) : PathAt V b sa sc q :=
  ⟨k.2 _ _ _ h.1 (by decide) (by decide) (by decide), h.2.keep fun g hg => by
    obtain ⟨c, hc⟩ := h.2.heap g hg
    rw [hc]; exact k.2 _ _ _ hc (by decide) (by decide) (by decide)⟩
theorem PathAt.facts {U : World} {b : Nat} {sa : Option Addr} {sc : Nat} {q : List Stp × WRes} (h : PathAt U b sa sc q) :
    (U.cell? ⟨b, 0, none⟩ = some (.slice sa q.1.length sc) ∧ U.cell? ⟨b, 1, none⟩ = some (.int .i64 q.2.1) ∧ U.cell? ⟨b, 2, none⟩ = some (.bool q.2.2.1.1) ∧ U.cell? ⟨b, 3, none⟩ = some (.bool q.2.2.1.2.1) ∧ U.cell? ⟨b, 4, none⟩ = some (.bool q.2.2.1.2.2) ∧
      U.cell? ⟨b, 5, none⟩ = some (.int .i64 q.2.2.2.1) ∧ U.cell? ⟨b, 6, none⟩ = some (.int .u64 q.2.2.2.2)) ∧ b < U.heap.size :=
  ⟨⟨(heap_cell h.1 0).trans rfl, (heap_cell h.1 1).trans rfl, (heap_cell h.1 2).trans rfl, (heap_cell h.1 3).trans rfl, (heap_cell h.1 4).trans rfl, (heap_cell h.1 5).trans rfl, (heap_cell h.1 6).trans rfl⟩, heap_lt h.1⟩
def stpAt (L : List Stp) (i : Nat) : Stp := L.getD i (0, 0, 0)
theorem rowS_at : ∀ (L : List Stp) (i : Nat), i < L.length → ∀ j, j < 3 → (rowS L)[i * 3 + j]? = (Stp.cells (stpAt L i))[j]?
  | [], i, h, _, _ => by simp at h
  | x :: L, 0, h, j, hj => by
    simp only [rowS, List.flatMap_cons, Nat.zero_mul, Nat.zero_add]
    rw [List.getElem?_append_left (by simpa [Stp.cells] using hj)]; rfl
  | x :: L, i + 1, h, j, hj => by
    have h2 : i < L.length := by simpa using h
    have := rowS_at L i h2 j hj
    have e2 : stpAt (x :: L) (i + 1) = stpAt L i := by simp [stpAt]
    rw [e2, ← this, show (i + 1) * 3 + j = (i * 3 + j) + 3 by omega]
    simp [rowS, Stp.cells]
/-- The three cells of a step. -/
theorem Owns.step {U : World} {sa : Option Addr} {n sc : Nat} {L : List Stp} (h : Owns U 65 3 (.slice sa n sc) n (rowS L)) {i : Nat} (hi : i < L.length) (hn : n = L.length) :
    ∃ g, sa = some ⟨g, 0, none⟩ ∧ g < U.heap.size ∧ U.cell? ⟨g, i * 3, none⟩ = some (.int .i64 (stpAt L i).1) ∧ U.cell? ⟨g, i * 3 + 1, none⟩ = some (.int .u64 (stpAt L i).2.1) ∧ U.cell? ⟨g, i * 3 + 2, none⟩ = some (.int .u64 (stpAt L i).2.2) := by
  obtain ⟨g, hg⟩ : ∃ g, sa = some ⟨g, 0, none⟩ := by
    rcases h.2 with ⟨h1, h0⟩ | ⟨g, _, _, he, _⟩
    · omega
    · exact ⟨g, by injection he⟩
  subst hg
  have H := fun j hj u hu => h.cells (g := g) rfl (i * 3 + j) u ((rowS_at L i hi j hj).trans hu)
  exact ⟨g, rfl, h.lt g rfl, H 0 (by omega) _ rfl, H 1 (by omega) _ rfl, H 2 (by omega) _ rfl⟩

/-- A walk, for a law. -/
def EndWalkM (base mb : Nat) (B : Int) (M : Int → Int) (T : List Int) (q : List Stp × WRes) (U : World) (e : Ending) (V : World) : Prop :=
  ∃ sa sc, e = .returned (.agg #[.slice sa q.1.length sc, .int .i64 q.2.1, .bool q.2.2.1.1, .bool q.2.2.1.2.1, .bool q.2.2.1.2.2, .int .i64 q.2.2.2.1, .int .u64 q.2.2.2.2]) ∧ Owns V 65 3 (.slice sa q.1.length sc) q.1.length (rowS q.1) ∧
    MemIn base V mb B M (T ++ q.1.map (·.2.1)) ∧ Sep base U V
theorem from_m (base mb : Nat) (B : Int) (M : Int → Int) (T : List Int) (n : Nat) (t : Int) (r : Rt) (a : Int) (nxe : Bool) (U : World) (h : MemIn base U mb B M T) (hb : base ≤ U.heap.size)
    (hl1 : n ≤ 4) (ht0 : 0 ≤ t) (ht1 : t ≤ 18446744073709551615) (ha0 : 0 ≤ a) (ha1 : a ≤ 18446744073709551615) (hT : T.length ≤ 900000) :
    Calls Try.prog 16 #[.pointer (some ⟨mb, 0, none⟩), .agg #[.int .i64 n, .int .u64 t, .bool r.1, .bool r.2.1, .bool r.2.2], .int .u64 a, .bool nxe] U (EndWalkM base mb B M T (walkF M B nxe a n t r) U) := by
  obtain ⟨F, h1, h2⟩ := h
  obtain ⟨r0, r1, r2⟩ := r
  refine (from_c mb F B M T n t r0 r1 r2 a nxe U h1 hl1 ht0 ht1 ha0 ha1 hT).mono fun e V h => ?_
  obtain ⟨v, q1, q2, q3, q4⟩ := h
  have ⟨k1, k2⟩ := EndMem.sep h1 q3 h2 hb
  obtain ⟨sa, sc, rfl, -, -⟩ := q2.form
  exact ⟨sa, sc, q1, q2, k1, k2⟩
theorem new_m (B : Int) (U : World) (hB : 14 ≤ B ∧ B ≤ 22) : Calls Try.prog 56 #[.int .i64 B] U fun e V => ∃ mb, e = .returned (.pointer (some ⟨mb, 0, none⟩)) ∧ MemIn U.heap.size V mb B (fun _ => 0) [] ∧ Ext U V :=
  (memNew_c B U hB).mono fun e V h => by
    obtain ⟨mb, F, q1, q2, q3, q4⟩ := h
    exact ⟨mb, q1, ⟨F, q2, q4⟩, q3⟩
theorem trace_m (base mb : Nat) (B : Int) (M : Int → Int) (T : List Int) (U : World) (h : MemIn base U mb B M T) (hT : T.length ≤ 1000000) : Calls Try.prog 51 #[.pointer (some ⟨mb, 0, none⟩)] U (EndWords U T) := by
  obtain ⟨F, h1, h2⟩ := h
  exact trace_c mb F B M T U h1 hT
theorem peek_m (base mb : Nat) (B : Int) (M : Int → Int) (T : List Int) (a : Int) (U : World) (h : MemIn base U mb B M T) (h0 : 0 ≤ a) (h1 : a ≤ 18446744073709551615) :
    Calls Try.prog 55 #[.pointer (some ⟨mb, 0, none⟩), .int .u64 a] U fun e w' => e = .returned (.tuple #[.int .u64 (if errM B a = 0 then M (a / 8) else 0), .int .i64 (errM B a)]) ∧ Ext U w' := by
  obtain ⟨F, k1, k2⟩ := h
  exact peek_c mb F B M T a U k1 h0 h1
end Go.Proofs.Ytfaekfdngkpkdaa
/- Memories of a law's own, side by side: what the operations of one leave alone, by a set of blocks. -/
namespace Go.Proofs.Ytfaekfdngkpkdaa
set_option linter.unusedVariables false
set_option linter.unusedSimpArgs false
open Go.RowKit
attribute [local go_sem] wext_cell wext_frozen wext_heap alloc_cell alloc_frozen alloc_heap setCell_cell objCell_cells objFrozen_cells

/-- All blocks from n on. -/
def Up (P : Nat → Prop) (n : Nat) : Prop := ∀ x, n ≤ x → P x
theorem Up.mono {P : Nat → Prop} {n m : Nat} (h : Up P n) (k : n ≤ m) : Up P m := fun x hx => h x (Nat.le_trans k hx)
/-- What is not of the set, and what is no memory's, is as it was. -/
def SepP (P : Nat → Prop) (U V : World) : Prop :=
  (V.os = U.os ∧ V.tape = U.tape ∧ V.output = U.output ∧ U.heap.size ≤ V.heap.size ∧ ∀ b, b < U.heap.size → ¬ P b → V.heap[b]? = U.heap[b]?) ∧
    ∀ (b : Nat) (c : Array Value) (e : TypeId), U.heap[b]? = some (.cells c e (0, 0)) → e ≠ 187 → e ≠ 23 → e ≠ 191 → V.heap[b]? = some (.cells c e (0, 0))
theorem SepP.of_ext {P : Nat → Prop} {U V : World} (k : Ext U V) : SepP P U V :=
  ⟨⟨k.os, k.tape, k.output, k.size, fun b hb _ => k.block b hb⟩, fun b c e h _ _ _ => (k.block b (heap_lt h)).trans h⟩
theorem SepP.size {P : Nat → Prop} {U V : World} (h : SepP P U V) : U.heap.size ≤ V.heap.size := h.1.2.2.2.1
theorem SepP.trans {P : Nat → Prop} {U V W : World} (h : SepP P U V) (k : SepP P V W) : SepP P U W :=
  ⟨⟨k.1.1.trans h.1.1, k.1.2.1.trans h.1.2.1, k.1.2.2.1.trans h.1.2.2.1, Nat.le_trans h.size k.size, fun b hb hp => (k.1.2.2.2.2 b (Nat.lt_of_lt_of_le hb h.size) hp).trans (h.1.2.2.2.2 b hb hp)⟩,
    fun b c e hb h1 h2 h3 => k.2 b c e (h.2 b c e hb h1 h2 h3) h1 h2 h3⟩
theorem SepP.ext {P : Nat → Prop} {U V W : World} (h : SepP P U V) (k : Ext V W) : SepP P U W := h.trans (SepP.of_ext k)
theorem SepP.mono {P Q : Nat → Prop} {U V : World} (h : SepP P U V) (k : ∀ x, P x → Q x) : SepP Q U V :=
  ⟨⟨h.1.1, h.1.2.1, h.1.2.2.1, h.size, fun b hb hq => h.1.2.2.2.2 b hb fun hp => hq (k b hp)⟩, h.2⟩
theorem SepP.sep {base : Nat} {U V : World} (h : SepP (base ≤ ·) U V) (hb : base ≤ U.heap.size) : Sep base U V :=
  ⟨⟨h.1.1, h.1.2.1, h.1.2.2.1, h.size, fun b hbb => h.1.2.2.2.2 b (Nat.lt_of_lt_of_le hbb hb) (by omega)⟩, h.2⟩
theorem SepP.to_ext {w U V : World} (h : SepP (w.heap.size ≤ ·) U V) (k : Ext w U) : Ext w V :=
  ⟨h.1.1.trans k.os, h.1.2.1.trans k.tape, h.1.2.2.1.trans k.output, Nat.le_trans k.size h.size, fun b hb => (h.1.2.2.2.2 b (Nat.lt_of_lt_of_le hb k.size) (by omega)).trans (k.block b hb)⟩

theorem SepP.to_ext' {w U V : World} (h : SepP (U.heap.size ≤ ·) U V) (k : Ext w U) : Ext w V :=
  (h.mono fun _ hx => Nat.le_trans k.size hx : SepP (w.heap.size ≤ ·) U V).to_ext k
def MemP (P : Nat → Prop) (U : World) (mb : Nat) (B : Int) (M : Int → Int) (T : List Int) : Prop := ∃ F, MemAt U mb F B M T ∧ ∀ x ∈ F, P x
theorem MemP.ext {P : Nat → Prop} {U V : World} {mb : Nat} {B : Int} {M : Int → Int} {T : List Int} (h : MemP P U mb B M T) (k : Ext U V) : MemP P V mb B M T := by
  obtain ⟨F, h1, h2⟩ := h; exact ⟨F, h1.ext k, h2⟩
theorem MemP.wide {P : Nat → Prop} {U : World} {mb : Nat} {B : Int} {M : Int → Int} {T : List Int} (h : MemP P U mb B M T) : ∀ s, 0 ≤ M s ∧ M s ≤ 18446744073709551615 := by
  obtain ⟨F, ⟨pb, tv, es, clock, PL, p1, p2, p3, p4, p5, p6, p7, p8, p9, -, p10⟩, -⟩ := h; exact p8
theorem MemP.bits {P : Nat → Prop} {U : World} {mb : Nat} {B : Int} {M : Int → Int} {T : List Int} (h : MemP P U mb B M T) : 14 ≤ B ∧ B ≤ 22 := by
  obtain ⟨F, h1, -⟩ := h; exact h1.head.2.2
/-- Another memory, none of whose blocks is of the set. -/
theorem MemP.sep {P Q : Nat → Prop} {U V : World} {mb : Nat} {B : Int} {M : Int → Int} {T : List Int} (h : MemP Q U mb B M T) (k : SepP P U V) (hd : ∀ x, x < U.heap.size → Q x → ¬ P x) : MemP Q V mb B M T := by
  obtain ⟨F, h1, h2⟩ := h
  classical
  refine ⟨F, h1.keeps (G := (List.range U.heap.size).filter fun b => decide (P b)) ⟨k.1.1, k.1.2.1, k.1.2.2.1, k.size, fun b hb hn => ?_⟩ (fun x hx hm => ?_), h2⟩
  · refine k.1.2.2.2.2 b hb fun hp => hn (List.mem_filter.2 ⟨List.mem_range.2 hb, by simpa using hp⟩)
  · have h3 := (List.mem_filter.1 hm).2
    exact hd x (h1.lt x hx) (h2 x hx) (by simpa using h3)
theorem EndMem.sepP {P : Nat → Prop} {U V : World} {mb : Nat} {F : List Nat} {B : Int} {M M' : Int → Int} {T T' : List Int} (m : MemAt U mb F B M T) (h : EndMem mb F U B M' T' V) (hF : ∀ x ∈ F, P x) (hb : Up P U.heap.size) : MemP P V mb B M' T' ∧ SepP P U V := by
  obtain ⟨F', h1, h2, h3⟩ := h
  refine ⟨⟨F', h1, fun x hx => ?_⟩, ⟨h2.os, h2.tape, h2.output, h2.size, fun b hb hp => h2.block b hb (fun hm => hp (hF b hm))⟩, fun b c e hbb q1 q2 q3 => (h2.block b (heap_lt hbb) (m.apart hbb q1 q2 q3)).trans hbb⟩
  rcases h3 x hx with q | q
  · exact hF x q
  · exact hb x q
theorem PathAt.sepP {P : Nat → Prop} {U V : World} {b : Nat} {sa : Option Addr} {sc : Nat} {q : List Stp × WRes} (h : PathAt U b sa sc q) (k : SepP P U V) : PathAt V b sa sc q :=
  ⟨k.2 _ _ _ h.1 (by decide) (by decide) (by decide), h.2.keep fun g hg => by
    obtain ⟨c, hc⟩ := h.2.heap g hg
    rw [hc]; exact k.2 _ _ _ hc (by decide) (by decide) (by decide)⟩
/-- The blocks that two worlds' growth has left to one of two memories that lie side by side: from n on, but for those of the other one. -/
theorem MemP.two {P : Nat → Prop} {U : World} {mb : Nat} {B : Int} {M : Int → Int} {T : List Int} (h : MemP P U mb B M T) : ∃ F : List Nat, (∀ x ∈ F, P x ∧ x < U.heap.size) ∧ MemP (· ∈ F) U mb B M T := by
  obtain ⟨F, h1, h2⟩ := h
  exact ⟨F, fun x hx => ⟨h2 x hx, h1.lt x hx⟩, F, h1, fun x hx => hx⟩
theorem MemP.mono {P Q : Nat → Prop} {U : World} {mb : Nat} {B : Int} {M : Int → Int} {T : List Int} (h : MemP P U mb B M T) (k : ∀ x, P x → Q x) : MemP Q U mb B M T := by
  obtain ⟨F, h1, h2⟩ := h; exact ⟨F, h1, fun x hx => k x (h2 x hx)⟩

def EndWalkP (P : Nat → Prop) (mb : Nat) (B : Int) (M : Int → Int) (T : List Int) (q : List Stp × WRes) (U : World) (e : Ending) (V : World) : Prop :=
  ∃ sa sc, e = .returned (.agg #[.slice sa q.1.length sc, .int .i64 q.2.1, .bool q.2.2.1.1, .bool q.2.2.1.2.1, .bool q.2.2.1.2.2, .int .i64 q.2.2.2.1, .int .u64 q.2.2.2.2]) ∧ Owns V 65 3 (.slice sa q.1.length sc) q.1.length (rowS q.1) ∧
    MemP P V mb B M (T ++ q.1.map (·.2.1)) ∧ SepP P U V
theorem from_p (P : Nat → Prop) (mb : Nat) (B : Int) (M : Int → Int) (T : List Int) (n : Nat) (t : Int) (r : Rt) (a : Int) (nxe : Bool) (U : World) (h : MemP P U mb B M T) (hb : Up P U.heap.size)
    (hl1 : n ≤ 4) (ht0 : 0 ≤ t) (ht1 : t ≤ 18446744073709551615) (ha0 : 0 ≤ a) (ha1 : a ≤ 18446744073709551615) (hT : T.length ≤ 900000) :
    Calls Try.prog 16 #[.pointer (some ⟨mb, 0, none⟩), .agg #[.int .i64 n, .int .u64 t, .bool r.1, .bool r.2.1, .bool r.2.2], .int .u64 a, .bool nxe] U (EndWalkP P mb B M T (walkF M B nxe a n t r) U) := by
  obtain ⟨F, h1, h2⟩ := h
  obtain ⟨r0, r1, r2⟩ := r
  refine (from_c mb F B M T n t r0 r1 r2 a nxe U h1 hl1 ht0 ht1 ha0 ha1 hT).mono fun e V h => ?_
  obtain ⟨v, q1, q2, q3, q4⟩ := h
  have ⟨k1, k2⟩ := EndMem.sepP h1 q3 h2 hb
  obtain ⟨sa, sc, rfl, -, -⟩ := q2.form
  exact ⟨sa, sc, q1, q2, k1, k2⟩
theorem peek_p (P : Nat → Prop) (mb : Nat) (B : Int) (M : Int → Int) (T : List Int) (a : Int) (U : World) (h : MemP P U mb B M T) (h0 : 0 ≤ a) (h1 : a ≤ 18446744073709551615) :
    Calls Try.prog 55 #[.pointer (some ⟨mb, 0, none⟩), .int .u64 a] U fun e w' => e = .returned (.tuple #[.int .u64 (if errM B a = 0 then M (a / 8) else 0), .int .i64 (errM B a)]) ∧ Ext U w' := by
  obtain ⟨F, k1, k2⟩ := h
  exact peek_c mb F B M T a U k1 h0 h1
theorem store_p (P : Nat → Prop) (mb : Nat) (B : Int) (M : Int → Int) (T : List Int) (a x : Int) (U : World) (h : MemP P U mb B M T) (hb : Up P U.heap.size) (h0 : 0 ≤ a) (h1 : a ≤ 18446744073709551615) (hx0 : 0 ≤ x) (hx1 : x ≤ 18446744073709551615) :
    Calls Try.prog 59 #[.pointer (some ⟨mb, 0, none⟩), .int .u64 a, .int .u64 x] U fun e V => e = .returned (.int .i64 (errM B a)) ∧ MemP P V mb B (setIf B M a x) T ∧ SepP P U V := by
  obtain ⟨F, k1, k2⟩ := h
  refine (store_c mb F B M T a x U k1 h0 h1 hx0 hx1).mono fun e V hh => ?_
  obtain ⟨q1, q2⟩ := hh
  have ⟨z1, z2⟩ := EndMem.sepP k1 q2 k2 hb
  exact ⟨q1, z1, z2⟩
theorem trace_p (P : Nat → Prop) (mb : Nat) (B : Int) (M : Int → Int) (T : List Int) (U : World) (h : MemP P U mb B M T) (hT : T.length ≤ 1000000) : Calls Try.prog 51 #[.pointer (some ⟨mb, 0, none⟩)] U (EndWords U T) := by
  obtain ⟨F, h1, h2⟩ := h
  exact trace_c mb F B M T U h1 hT
end Go.Proofs.Ytfaekfdngkpkdaa
/- A and D, plainly: words with these bits, without them. -/
namespace Go.Proofs.Ytfaekfdngkpkdaa
set_option linter.unusedVariables false
set_option linter.unusedSimpArgs false
open Go.RowKit
attribute [local go_sem] wext_cell wext_frozen wext_heap alloc_cell alloc_frozen alloc_heap setCell_cell objCell_cells objFrozen_cells

/-- A word with A; with A and D. -/
def orA (x : Int) : Int := x + (1 - x / 32 % 2) * 32
def orD (x : Int) : Int := x + (3 - x / 32 % 4) * 32
theorem nat_or32 (n : Nat) : n ||| 32 = n + (1 - n / 32 % 2) * 32 := by
  have h := Nat.div_add_mod (n ||| 32) 64
  have h1 : (n ||| 32) / 64 = n / 64 := by
    have := Nat.or_div_two_pow (a := n) (b := 32) (n := 6); simpa using this
  have h2 : (n ||| 32) % 64 = n % 64 ||| 32 := by
    have := Nat.or_mod_two_pow (a := n) (b := 32) (n := 6); simpa using this
  have h3 : ∀ i : Fin 64, i.val ||| 32 = i.val + (1 - i.val / 32 % 2) * 32 := by decide +kernel
  have h4 := h3 ⟨n % 64, Nat.mod_lt _ (by omega)⟩
  simp only at h4
  omega
theorem nat_or96 (n : Nat) : n ||| 96 = n + (3 - n / 32 % 4) * 32 := by
  have h := Nat.div_add_mod (n ||| 96) 128
  have h1 : (n ||| 96) / 128 = n / 128 := by
    have := Nat.or_div_two_pow (a := n) (b := 96) (n := 7); simpa using this
  have h2 : (n ||| 96) % 128 = n % 128 ||| 96 := by
    have := Nat.or_mod_two_pow (a := n) (b := 96) (n := 7); simpa using this
  have h3 : ∀ i : Fin 128, i.val ||| 96 = i.val + (3 - i.val / 32 % 4) * 32 := by decide +kernel
  have h4 := h3 ⟨n % 128, Nat.mod_lt _ (by omega)⟩
  simp only at h4
  omega
theorem nat_and96 (n : Nat) : n &&& 96 = n / 32 % 4 * 32 := by
  have h := Nat.div_add_mod (n &&& 96) 128
  have h1 : (n &&& 96) / 128 = 0 := by
    have := Nat.and_div_two_pow (a := n) (b := 96) (n := 7); simpa using this
  have h2 : (n &&& 96) % 128 = n % 128 &&& 96 := by
    have := Nat.and_mod_two_pow (a := n) (b := 96) (n := 7); simpa using this
  have h3 : ∀ i : Fin 128, i.val &&& 96 = i.val / 32 % 4 * 32 := by decide +kernel
  have h4 := h3 ⟨n % 128, Nat.mod_lt _ (by omega)⟩
  simp only at h4
  omega
theorem nat_and32 (n : Nat) : n &&& 32 = n / 32 % 2 * 32 := by
  have h := Nat.div_add_mod (n &&& 32) 64
  have h1 : (n &&& 32) / 64 = 0 := by
    have := Nat.and_div_two_pow (a := n) (b := 32) (n := 6); simpa using this
  have h2 : (n &&& 32) % 64 = n % 64 &&& 32 := by
    have := Nat.and_mod_two_pow (a := n) (b := 32) (n := 6); simpa using this
  have h3 : ∀ i : Fin 64, i.val &&& 32 = i.val / 32 % 2 * 32 := by decide +kernel
  have h4 := h3 ⟨n % 64, Nat.mod_lt _ (by omega)⟩
  simp only at h4
  omega
theorem or32 {x : Int} (h0 : 0 ≤ x) (h1 : x ≤ 18446744073709551615) : bits BinOp.or IntKind.u64 x 32 = orA x := by
  rw [u64_or _ _ h0 (by omega) (by omega) (by omega), show (32 : Int).toNat = 32 from rfl, nat_or32]
  unfold orA; omega
theorem or96 {x : Int} (h0 : 0 ≤ x) (h1 : x ≤ 18446744073709551615) : bits BinOp.or IntKind.u64 x 96 = orD x := by
  rw [u64_or _ _ h0 (by omega) (by omega) (by omega), show (96 : Int).toNat = 96 from rfl, nat_or96]
  unfold orD; omega
theorem and32 {x : Int} (h0 : 0 ≤ x) (h1 : x ≤ 18446744073709551615) : bits BinOp.and IntKind.u64 x 32 = x / 32 % 2 * 32 := by
  rw [u64_and _ _ h0 (by omega) (by omega) (by omega), show (32 : Int).toNat = 32 from rfl, nat_and32]; omega
theorem and96 {x : Int} (h0 : 0 ≤ x) (h1 : x ≤ 18446744073709551615) : bits BinOp.and IntKind.u64 x 96 = x / 32 % 4 * 32 := by
  rw [u64_and _ _ h0 (by omega) (by omega) (by omega), show (96 : Int).toNat = 96 from rfl, nat_and96]; omega
theorem orA_le {x : Int} (h0 : 0 ≤ x) (h1 : x ≤ 18446744073709551615) : 0 ≤ orA x ∧ orA x ≤ 18446744073709551615 := by unfold orA; omega
theorem orD_le {x : Int} (h0 : 0 ≤ x) (h1 : x ≤ 18446744073709551615) : 0 ≤ orD x ∧ orD x ≤ 18446744073709551615 := by unfold orD; omega

/-- The same word but for A and D. -/
def eqv (x y : Int) : Prop := x / 128 = y / 128 ∧ x % 32 = y % 32
theorem eqv_refl (x : Int) : eqv x x := ⟨rfl, rfl⟩
theorem eqv_symm {x y : Int} (h : eqv x y) : eqv y x := ⟨h.1.symm, h.2.symm⟩
theorem eqv_trans {x y z : Int} (h : eqv x y) (k : eqv y z) : eqv x z := ⟨h.1.trans k.1, h.2.trans k.2⟩
theorem eqv_orA (x : Int) : eqv x (orA x) := by unfold eqv orA; omega
theorem eqv_orD (x : Int) : eqv x (orD x) := by unfold eqv orD; omega
theorem orD_eq (x : Int) : orD x = x / 128 * 128 + 96 + x % 32 := by unfold orD; omega
theorem orD_div (x : Int) : orD x / 128 = x / 128 := by rw [orD_eq]; omega
theorem orD_mod (x : Int) : orD x % 32 = x % 32 := by rw [orD_eq]; omega
theorem eqv_or {x y : Int} : orD x = orD y ↔ eqv x y :=
  ⟨fun h => ⟨by rw [← orD_div, h, orD_div], by rw [← orD_mod, h, orD_mod]⟩, fun h => by rw [orD_eq, orD_eq, h.1, h.2]⟩
theorem div_63 (x : Int) : x / 9223372036854775808 = x / 128 / 72057594037927936 := by rw [Int.ediv_ediv_of_nonneg (by omega)]; rfl
theorem div_12 (x : Int) : x / 4096 = x / 128 / 32 := by rw [Int.ediv_ediv_of_nonneg (by omega)]; rfl
theorem eqv_bit {x y : Int} (h : eqv x y) (i : Int) (hi : i = 0 ∨ i = 1 ∨ i = 2 ∨ i = 7 ∨ i = 63) : bitB x i = bitB y i := by
  unfold eqv at h
  have : x / pow2 i % 2 = y / pow2 i % 2 := by
    rcases hi with rfl | rfl | rfl | rfl | rfl
    · show x / 1 % 2 = y / 1 % 2; omega
    · show x / 2 % 2 = y / 2 % 2; omega
    · show x / 4 % 2 = y / 4 % 2; omega
    · show x / 128 % 2 = y / 128 % 2; omega
    · show x / 9223372036854775808 % 2 = y / 9223372036854775808 % 2; rw [div_63, div_63, h.1]
  unfold bitB; rw [this]
theorem tab_d (x : Int) : tabI x = x / 4096 % 1099511627776 * 4096 := by unfold tabI; omega
theorem eqv_tab {x y : Int} (h : eqv x y) : tabI x = tabI y := by rw [tab_d, tab_d, div_12, div_12, h.1]
theorem eqv_leaf {x y : Int} (h : eqv x y) (l : Int) : leafI x l = leafI y l := by unfold leafI; rw [eqv_bit h 7 (by omega)]
theorem eqv_frame {x y : Int} (h : eqv x y) (l : Int) : frameI x l = frameI y l := by unfold frameI; rw [eqv_leaf h, eqv_tab h]
theorem eqv_res {x y : Int} (h : eqv x y) (l B : Int) (nxe : Bool) (hB : 14 ≤ B ∧ B ≤ 22) : resI x l B nxe = resI y l B nxe := by
  have h1 : x / pow2 B = y / pow2 B := by
    have hp : ∀ z : Int, z / pow2 B = z / 128 / pow2 (B - 7) := fun z => by
      have e : pow2 B = 128 * pow2 (B - 7) := by
        unfold pow2
        rw [show B.toNat = 7 + (B - 7).toNat by omega, Nat.pow_add]; simp
      rw [e, Int.ediv_ediv_of_nonneg (by omega)]
    rw [hp, hp, h.1]
  have h2 : x / 8192 = y / 8192 := by unfold eqv at h; omega
  unfold resI
  rw [h1, h2, eqv_bit h 7 (by omega), eqv_bit h 63 (by omega)]
end Go.Proofs.Ytfaekfdngkpkdaa
/- Marks, plainly: what a path's marks leave; a walk hangs on no A and no D. -/
namespace Go.Proofs.Ytfaekfdngkpkdaa
set_option linter.unusedVariables false
set_option linter.unusedSimpArgs false
open Go.RowKit
attribute [local go_sem] wext_cell wext_frozen wext_heap alloc_cell alloc_frozen alloc_heap setCell_cell objCell_cells objFrozen_cells

def markS (B : Int) (M : Int → Int) (s : Int) (d : Bool) : Int → Int :=
  if errM B s = 0 then setM M (s / 8) (if d then orD (M (s / 8)) else orA (M (s / 8))) else M
/-- A path's slots, marked in turn; df: is it found, and dirty? -/
def markL (B : Int) (df : Bool) : List Stp → (Int → Int) → Int → Int
  | [], M => M
  | s :: L, M => markL B df L (markS B M s.2.1 (df && L.isEmpty))

theorem setM_self (M : Int → Int) (s : Int) : setM M s (M s) = M := by
  funext t; unfold setM; split
  · rename_i h; rw [h]
  · rfl
theorem markS_wide {B : Int} {M : Int → Int} (h : ∀ t, 0 ≤ M t ∧ M t ≤ 18446744073709551615) (s : Int) (d : Bool) : ∀ t, 0 ≤ markS B M s d t ∧ markS B M s d t ≤ 18446744073709551615 := by
  unfold markS
  split
  · cases d
    · exact setM_range h (orA_le (h _).1 (h _).2).1 (orA_le (h _).1 (h _).2).2
    · exact setM_range h (orD_le (h _).1 (h _).2).1 (orD_le (h _).1 (h _).2).2
  · exact h
theorem markL_wide {B : Int} {df : Bool} : ∀ (L : List Stp) {M : Int → Int}, (∀ t, 0 ≤ M t ∧ M t ≤ 18446744073709551615) → ∀ t, 0 ≤ markL B df L M t ∧ markL B df L M t ≤ 18446744073709551615
  | [], _, h => h
  | s :: L, _, h => markL_wide L (markS_wide h _ _)

/-- Has a word A, and D? -/
def hasA (x : Int) : Bool := x / 32 % 2 == 1
def hasD (x : Int) : Bool := x / 64 % 2 == 1
/-- y is x with A or D more, perhaps. -/
def more (x y : Int) : Prop := eqv x y ∧ (hasA x = true → hasA y = true) ∧ (hasD x = true → hasD y = true)
theorem more_refl (x : Int) : more x x := ⟨eqv_refl x, id, id⟩
theorem more_trans {x y z : Int} (h : more x y) (k : more y z) : more x z := ⟨eqv_trans h.1 k.1, fun q => k.2.1 (h.2.1 q), fun q => k.2.2 (h.2.2 q)⟩
theorem more_orA (x : Int) : more x (orA x) := ⟨eqv_orA x, fun h => by unfold hasA orA at *; simp only [beq_iff_eq] at *; omega, fun h => by unfold hasD orA at *; simp only [beq_iff_eq] at *; omega⟩
theorem more_orD (x : Int) : more x (orD x) := ⟨eqv_orD x, fun h => by unfold hasA orD at *; simp only [beq_iff_eq] at *; omega, fun h => by unfold hasD orD at *; simp only [beq_iff_eq] at *; omega⟩
theorem hasA_orA (x : Int) : hasA (orA x) = true := by unfold hasA orA; simp only [beq_iff_eq]; omega
theorem hasA_orD (x : Int) : hasA (orD x) = true := by unfold hasA orD; simp only [beq_iff_eq]; omega
theorem hasD_orD (x : Int) : hasD (orD x) = true := by unfold hasD orD; simp only [beq_iff_eq]; omega
theorem orA_of {x : Int} (h : hasA x = true) : orA x = x := by unfold hasA at h; unfold orA; simp only [beq_iff_eq] at h; omega
theorem orD_of {x : Int} (h : hasA x = true) (k : hasD x = true) : orD x = x := by unfold hasA at h; unfold hasD at k; unfold orD; simp only [beq_iff_eq] at h k; omega

theorem markS_more (B : Int) (M : Int → Int) (s : Int) (d : Bool) (t : Int) : more (M t) (markS B M s d t) := by
  unfold markS
  split
  · unfold setM
    split
    · rename_i h; rw [h]; cases d
      · exact more_orA _
      · exact more_orD _
    · exact more_refl _
  · exact more_refl _
theorem markL_more (B : Int) (df : Bool) : ∀ (L : List Stp) (M : Int → Int) (t : Int), more (M t) (markL B df L M t)
  | [], M, t => more_refl _
  | s :: L, M, t => more_trans (markS_more B M _ _ t) (markL_more B df L _ t)
theorem markS_has {B : Int} {M : Int → Int} {s : Int} {d : Bool} (h : errM B s = 0) : hasA (markS B M s d (s / 8)) = true ∧ (d = true → hasD (markS B M s d (s / 8)) = true) := by
  unfold markS
  rw [if_pos h]
  unfold setM
  rw [if_pos rfl]
  cases d
  · exact ⟨hasA_orA _, fun h => by cases h⟩
  · exact ⟨hasA_orD _, fun _ => hasD_orD _⟩
theorem markS_other {B : Int} {M : Int → Int} {s t : Int} {d : Bool} (h : t ≠ s / 8) : markS B M s d t = M t := by
  unfold markS
  split
  · unfold setM; rw [if_neg h]
  · rfl
theorem markL_other {B : Int} {df : Bool} : ∀ (L : List Stp) (M : Int → Int) (t : Int), (∀ s ∈ L, t ≠ s.2.1 / 8) → markL B df L M t = M t
  | [], M, t, _ => rfl
  | s :: L, M, t, h => by
    show markL B df L _ t = _
    rw [markL_other L _ t fun s hs => h s (List.mem_cons_of_mem _ hs)]
    exact markS_other (h s (List.mem_cons_self ..))
/-- Marked, each slot of a path has A; the last one, if it is found, and dirty, D. -/
theorem markL_has {B : Int} {df : Bool} : ∀ (L : List Stp) (M : Int → Int), (∀ s ∈ L, errM B s.2.1 = 0) → (∀ s ∈ L, hasA (markL B df L M (s.2.1 / 8)) = true) ∧ ∀ s, L.getLast? = some s → df = true → hasD (markL B df L M (s.2.1 / 8)) = true
  | [], M, _ => ⟨(fun s h => by cases h), (fun s h => by cases h)⟩
  | s :: L, M, h => by
    have ih := markL_has (df := df) L (markS B M s.2.1 (df && L.isEmpty)) fun s hs => h s (List.mem_cons_of_mem _ hs)
    have h1 := markS_has (M := M) (d := df && L.isEmpty) (h s (List.mem_cons_self ..))
    have hm := markL_more B df L (markS B M s.2.1 (df && L.isEmpty)) (s.2.1 / 8)
    refine ⟨fun y hy => ?_, fun y hy hd => ?_⟩
    · rcases List.mem_cons.1 hy with rfl | hy
      · exact hm.2.1 h1.1
      · exact ih.1 y hy
    · cases L with
      | nil =>
        simp only [List.getLast?_singleton, Option.some.injEq] at hy
        subst hy
        exact hm.2.2 (h1.2 (by simp [hd]))
      | cons z L =>
        rw [List.getLast?_cons_cons] at hy
        exact ih.2 y hy hd
/-- Marked twice is as once. -/
theorem markL_again {B : Int} {df : Bool} : ∀ (L : List Stp) (M : Int → Int), (∀ s ∈ L, errM B s.2.1 = 0 → hasA (M (s.2.1 / 8)) = true) → (∀ s, L.getLast? = some s → df = true → errM B s.2.1 = 0 → hasD (M (s.2.1 / 8)) = true) → markL B df L M = M
  | [], M, _, _ => rfl
  | s :: L, M, h, k => by
    have hs : markS B M s.2.1 (df && L.isEmpty) = M := by
      unfold markS
      split
      · rename_i he
        have hA := h s (List.mem_cons_self ..) he
        cases hd : df && L.isEmpty
        · simp only [Bool.false_eq_true, if_false]; rw [orA_of hA, setM_self]
        · simp only [Bool.and_eq_true, List.isEmpty_iff] at hd
          simp only [if_true]
          rw [orD_of hA (k s (by rw [hd.2]; rfl) hd.1 he), setM_self]
      · rfl
    show markL B df L (markS B M s.2.1 (df && L.isEmpty)) = M
    rw [hs]
    refine markL_again L M (fun s hs => h s (List.mem_cons_of_mem _ hs)) fun y hy => ?_
    cases L with
    | nil => cases hy
    | cons z L => exact k y (by rw [List.getLast?_cons_cons]; exact hy)

/-- Steps that are the same but for A and D. -/
def eqvS : List Stp → List Stp → Prop
  | [], [] => True
  | a :: L, b :: K => a.1 = b.1 ∧ a.2.1 = b.2.1 ∧ eqv a.2.2 b.2.2 ∧ eqvS L K
  | _, _ => False
theorem eqvS_refl : ∀ L, eqvS L L
  | [] => trivial
  | a :: L => ⟨rfl, rfl, eqv_refl _, eqvS_refl L⟩
theorem eqvS_length : ∀ {L K : List Stp}, eqvS L K → L.length = K.length
  | [], [], _ => rfl
  | a :: L, b :: K, h => by simp [eqvS_length h.2.2.2]
  | [], b :: K, h => by cases h
  | a :: L, [], h => by cases h
theorem walk_eqv {M M' : Int → Int} {B : Int} {nxe : Bool} {a : Int} (hB : 14 ≤ B ∧ B ≤ 22) (h : ∀ t, eqv (M t) (M' t)) : ∀ (n : Nat) (t : Int) (r : Rt),
    eqvS (walkF M B nxe a n t r).1 (walkF M' B nxe a n t r).1 ∧ (walkF M B nxe a n t r).2 = (walkF M' B nxe a n t r).2
  | 0, t, r => ⟨trivial, rfl⟩
  | n + 1, t, r => by
    obtain ⟨s, hs⟩ : ∃ s, slotI t a ((n : Int) + 1) = s := ⟨_, rfl⟩
    obtain ⟨x, hx⟩ : ∃ x, M (s / 8) = x := ⟨_, rfl⟩
    obtain ⟨y, hy⟩ : ∃ y, M' (s / 8) = y := ⟨_, rfl⟩
    have e : eqv x y := by rw [← hx, ← hy]; exact h _
    by_cases hne : errM B s ≠ 0
    · rw [walkF_bad (by rw [hs]; exact hne), walkF_bad (by rw [hs]; exact hne)]; exact ⟨trivial, rfl⟩
    have he : errM B s = 0 := by omega
    cases hp : bitB x 0 with
    | false =>
      rw [walkF_absent hs hx he hp, walkF_absent hs hy he ((eqv_bit e 0 (by omega)).symm.trans hp)]
      exact ⟨⟨rfl, rfl, e, trivial⟩, rfl⟩
    | true =>
      have hp' : bitB y 0 = true := (eqv_bit e 0 (by omega)).symm.trans hp
      have er := eqv_res e ((n : Int) + 1) B nxe hB
      have el := eqv_leaf e ((n : Int) + 1)
      have ea : andR r x = andR r y := by unfold andR; rw [eqv_bit e 1 (by omega), eqv_bit e 2 (by omega), eqv_bit e 63 (by omega)]
      cases hr : resI x ((n : Int) + 1) B nxe with
      | true =>
        rw [walkF_res hs hx he hp hr, walkF_res hs hy he hp' (er.symm.trans hr)]
        exact ⟨⟨rfl, rfl, e, trivial⟩, rfl⟩
      | false =>
        cases hl : leafI x ((n : Int) + 1) with
        | true =>
          rw [walkF_leaf hs hx he hp hr hl, walkF_leaf hs hy he hp' (er.symm.trans hr) (el.symm.trans hl), ea, eqv_frame e]
          exact ⟨⟨rfl, rfl, e, trivial⟩, rfl⟩
        | false =>
          have ih := walk_eqv (nxe := nxe) (a := a) hB h n (tabI x) (andR r x)
          rw [walkF_on hs hx he hp hr hl, walkF_on hs hy he hp' (er.symm.trans hr) (el.symm.trans hl), ← ea, ← eqv_tab e]
          exact ⟨⟨rfl, rfl, e, ih.1⟩, ih.2⟩
end Go.Proofs.Ytfaekfdngkpkdaa
/- Mark: a path's slots' flags. -/
namespace Go.Proofs.Ytfaekfdngkpkdaa
set_option linter.unusedVariables false
set_option linter.unusedSimpArgs false
open Go.RowKit
attribute [local go_sem] wext_cell wext_frozen wext_heap alloc_cell alloc_frozen alloc_heap setCell_cell objCell_cells objFrozen_cells

/-- Three cells of a step in a slice of steps. -/
def StepsAt (U : World) (sa : Option Addr) (L : List Stp) : Prop :=
  ∀ i, i < L.length → ∃ g o, sa = some ⟨g, o, none⟩ ∧ g < U.heap.size ∧ U.cell? ⟨g, o + i * 3, none⟩ = some (.int .i64 (stpAt L i).1) ∧ U.cell? ⟨g, o + i * 3 + 1, none⟩ = some (.int .u64 (stpAt L i).2.1) ∧ U.cell? ⟨g, o + i * 3 + 2, none⟩ = some (.int .u64 (stpAt L i).2.2)
theorem StepsAt.ext {U V : World} {sa : Option Addr} {L : List Stp} (h : StepsAt U sa L) (k : Ext U V) : StepsAt V sa L := fun i hi => by
  obtain ⟨g, o, h1, h2, h3, h4, h5⟩ := h i hi
  exact ⟨g, o, h1, Nat.lt_of_lt_of_le h2 k.size, k.someCell h3, k.someCell h4, k.someCell h5⟩
theorem StepsAt.of {U : World} {sa : Option Addr} {sc : Nat} {L : List Stp} (h : Owns U 65 3 (.slice sa L.length sc) L.length (rowS L)) : StepsAt U sa L := fun i hi => by
  obtain ⟨g, h1, h2, h3, h4, h5⟩ := h.step hi rfl
  exact ⟨g, 0, h1, h2, by rw [Nat.zero_add]; exact h3, by rw [Nat.zero_add]; exact h4, by rw [Nat.zero_add]; exact h5⟩
theorem markL_drop (B : Int) (df : Bool) (L : List Stp) (j : Nat) (h : j < L.length) (M : Int → Int) : markL B df (L.drop j) M = markL B df (L.drop (j + 1)) (markS B M (stpAt L j).2.1 (df && decide (j + 1 = L.length))) := by
  have e : L.drop j = stpAt L j :: L.drop (j + 1) := by
    rw [List.drop_eq_getElem_cons h]
    congr 1
    simp [stpAt, List.getD, h]
  rw [e]
  show markL B df _ (markS B M _ (df && (L.drop (j + 1)).isEmpty)) = _
  have : (L.drop (j + 1)).isEmpty = decide (j + 1 = L.length) := by
    rw [Bool.eq_iff_iff, List.isEmpty_iff, List.drop_eq_nil_iff, decide_eq_true_eq]; omega
  rw [this]
def EndMark (P : Nat → Prop) (mb : Nat) (B : Int) (M : Int → Int) (T : List Int) (U : World) (e : Ending) (V : World) : Prop := e = .returned (.tuple #[]) ∧ MemP P V mb B M T ∧ SepP P U V

set_option maxHeartbeats 4000000 in
set_option maxRecDepth 100000 in
theorem mark_p (P : Nat → Prop) (mb : Nat) (B : Int) (M : Int → Int) (T : List Int) (L : List Stp) (sa : Option Addr) (sc : Nat) (why : Int) (rr : Rt) (lv fr : Int) (dirty : Bool) (U : World) (h : MemP P U mb B M T) (hb : Up P U.heap.size)
    (hS : StepsAt U sa L) (hSb : ∀ V, SepP P U V → StepsAt V sa L) (hL : L.length ≤ 1000000) (hok : ∀ i, i < L.length → 0 ≤ (stpAt L i).2.1 ∧ (stpAt L i).2.1 ≤ 18446744073709551615) :
    Calls Try.prog 21 #[.pointer (some ⟨mb, 0, none⟩), .agg #[.slice sa L.length sc, .int .i64 why, .bool rr.1, .bool rr.2.1, .bool rr.2.2, .int .i64 lv, .int .u64 fr], .bool dirty] U
      (EndMark P mb B (markL B (dirty && why == 0) L M) T U) := by
  have HM := Lib.hid h
  have HS := Lib.hid hSb
  have HO := Lib.hid hok
  have hW := h.wide
  have HW := Lib.hid hW
  generalize hE : EndMark P mb B (markL B (dirty && why == 0) L M) T U = E
  have HE := Lib.hid hE
  clear hE hS hSb h hok hW
  go_enter Try.func21, Try.ntmps21
  go_wp2
  refine wp_gen ?_; intro V hV
  have hVE : Ext U V := by rw [hV]; exact (by repeat (first | exact Ext.refl _ | assumption | refine Ext.alloc ?_ _ | refine Ext.drew ?_ | refine Ext.setCell ?_ (by first | (simp; done) | (dsimp only; omega)) _ | refine Ext.trans ?_ (by assumption)))
  have hVp : V.heap[U.heap.size]? = some (.cells #[.slice sa L.length sc, .int .i64 why, .bool rr.1, .bool rr.2.1, .bool rr.2.2, .int .i64 lv, .int .u64 fr] 38 (0, 0)) := by rw [hV]; exact alloc_same ..
  have VE := Lib.hid hVE
  have VP := Lib.hid hVp
  clear hV hVE hVp
  go_wp2
  go_loopw [14] (fun i wr => ∃ (j : Nat) (M' : Int → Int), j ≤ L.length ∧ i = .int .i64 j ∧ Hid (MemP P wr mb B M' T ∧ SepP P V wr ∧ markL B (dirty && why == 0) (L.drop j) M' = markL B (dirty && why == 0) L M ∧
    wr.heap[U.heap.size]? = some (.cells #[.slice sa L.length sc, .int .i64 why, .bool rr.1, .bool rr.2.1, .bool rr.2.2, .int .i64 lv, .int .u64 fr] 38 (0, 0)))) (fun i _ => L.length - (intOf i).toNat)
  case atStart => exact ⟨0, M, by omega, rfl, Lib.hid ⟨HM.out.ext VE.out, SepP.of_ext (Ext.refl _), by simp, VP.out⟩⟩
  case round =>
    obtain ⟨j, M', hj, rfl, hR⟩ := hrel
    by_cases hlt : j < L.length
    · have hSU : SepP P U wr := (SepP.of_ext VE.out).trans hR.out.2.1
      obtain ⟨g, o, rfl, hgl, s0, s1, s2⟩ := HS.out wr hSU j hlt
      obtain ⟨ha0, ha1⟩ := HO.out j hlt
      have hst := markL_drop B (dirty && why == 0) L j hlt M'
      have HSU := Lib.hid hSU
      generalize stpAt L j = sj at s0 s1 s2 ha0 ha1 hst
      obtain ⟨lj, aj, xj⟩ := sj
      dsimp only at s0 s1 s2 ha0 ha1 hst
      have HST := Lib.hid hst
      have c0 := (heap_cell hR.out.2.2.2 0).trans rfl
      have c1 := (heap_cell hR.out.2.2.2 1).trans rfl
      have hul := heap_lt hR.out.2.2.2
      have HP := Lib.hid (fun w1 (k : Ext wr w1) => peek_p P mb B M' T aj w1 (hR.out.1.ext k) ha0 ha1)
      have ⟨m0, m1⟩ := hR.out.1.wide (aj / 8)
      obtain ⟨x, hx⟩ : ∃ x, M' (aj / 8) = x := ⟨_, rfl⟩
      rw [hx] at m0 m1
      have HX := Lib.hid hx
      have HWS := Lib.hid (fun w1 (k : Ext wr w1) y (hy0 : 0 ≤ y) (hy1 : y ≤ 18446744073709551615) => store_p P mb B M' T aj y w1 (hR.out.1.ext k) (hb.mono (Nat.le_trans HSU.out.size k.size)) ha0 ha1 hy0 hy1)
      clear hst hSU hx
      cases dirty
      · have DF : Hid ((false && why == 0 && decide (j + 1 = L.length)) = false) := Lib.hid rfl
        have hand := and32 m0 m1
        have hor := or32 m0 m1
        have hle := orA_le m0 m1
        by_cases he : errM B aj = 0
        · have HPe : Hid (∀ w1, Ext wr w1 → Calls Try.prog 55 #[.pointer (some ⟨mb, 0, none⟩), .int .u64 aj] w1 fun e w' => e = .returned (.tuple #[.int .u64 x, .int .i64 0]) ∧ Ext w1 w') := Lib.hid (fun w1 k => by have := HP.out w1 k; rw [if_pos he, he, HX.out] at this; exact this)
          have hsame : orA x = x → markS B M' aj false = M' := fun e => by unfold markS; rw [if_pos he, HX.out]; simp only [Bool.false_eq_true, if_false]; rw [e, ← HX.out]; exact setM_self M' (aj / 8)
          have hnew : setIf B M' aj (orA x) = markS B M' aj false := by unfold setIf markS; rw [if_pos he, if_pos he, HX.out]; rfl
          have HE0 := Lib.hid he
          have HSA := Lib.hid hsame
          have HNW := Lib.hid hnew
          clear he hsame hnew
          by_cases hx9 : x / 32 % 2 = 1
          · have hfix : orA x = x := by unfold orA; omega
            have hxe : (x / 32 % 2 * 32 != 32) = false := by rw [hx9]; rfl
            have HFX := Lib.hid hfix
            clear hx9 hfix hor
            go_wp2_with (first | (go_at_call 55; refine (HPe.out _ (by repeat (first | exact Ext.refl _ | assumption | refine Ext.alloc ?_ _ | refine Ext.drew ?_ | refine Ext.setCell ?_ (by first | (simp; done) | (dsimp only; omega)) _ | refine Ext.trans ?_ (by assumption)))).mono ?_; rintro e w5 ⟨rfl, hb5⟩; have ⟨hc, hf, hh, hs⟩ := hb5.facts; try simp only [World.size_alloc, World.size_setCell, World.size_drew] at hs))
            refine ⟨⟨j + 1, M', by omega, by go_num, Lib.hid ⟨hR.out.1.ext (by repeat (first | exact Ext.refl _ | assumption | refine Ext.alloc ?_ _ | refine Ext.drew ?_ | refine Ext.setCell ?_ (by first | (simp; done) | (dsimp only; omega)) _ | refine Ext.trans ?_ (by assumption))), hR.out.2.1.ext (by repeat (first | exact Ext.refl _ | assumption | refine Ext.alloc ?_ _ | refine Ext.drew ?_ | refine Ext.setCell ?_ (by first | (simp; done) | (dsimp only; omega)) _ | refine Ext.trans ?_ (by assumption))), ?_, ((Ext.trans (by repeat (first | exact Ext.refl _ | assumption | refine Ext.alloc ?_ _ | refine Ext.drew ?_ | refine Ext.setCell ?_ (by first | (simp; done) | (dsimp only; omega)) _ | refine Ext.trans ?_ (by assumption))) hb5 : Ext wr w5).block _ hul).trans hR.out.2.2.2⟩⟩, by simp [intOf]; omega⟩
            have := HST.out
            rw [DF.out, HSA.out HFX.out] at this
            rw [← hR.out.2.2.1, this]
          · have hxe : (x / 32 % 2 * 32 != 32) = true := by rw [bne_iff_ne]; omega
            clear hx9
            go_wp2_with (first | (go_at_call 55; refine (HPe.out _ (by repeat (first | exact Ext.refl _ | assumption | refine Ext.alloc ?_ _ | refine Ext.drew ?_ | refine Ext.setCell ?_ (by first | (simp; done) | (dsimp only; omega)) _ | refine Ext.trans ?_ (by assumption)))).mono ?_; rintro e w5 ⟨rfl, hb5⟩; have ⟨hc, hf, hh, hs⟩ := hb5.facts; try simp only [World.size_alloc, World.size_setCell, World.size_drew] at hs) | (go_at_call 59; refine (HWS.out _ (Ext.trans (by repeat (first | exact Ext.refl _ | assumption | refine Ext.alloc ?_ _ | refine Ext.drew ?_ | refine Ext.setCell ?_ (by first | (simp; done) | (dsimp only; omega)) _ | refine Ext.trans ?_ (by assumption))) hb5) _ hle.1 hle.2).mono ?_; rintro e w6 ⟨rfl, hM6, hP6⟩))
            refine ⟨⟨j + 1, markS B M' aj false, by omega, by go_num, Lib.hid ⟨by rw [← HNW.out]; exact hM6, ?_, ?_, ?_⟩⟩, by simp [intOf]; omega⟩
            · exact (hR.out.2.1.ext (Ext.trans (by repeat (first | exact Ext.refl _ | assumption | refine Ext.alloc ?_ _ | refine Ext.drew ?_ | refine Ext.setCell ?_ (by first | (simp; done) | (dsimp only; omega)) _ | refine Ext.trans ?_ (by assumption))) hb5)).trans hP6
            · have := HST.out
              rw [DF.out] at this
              rw [← hR.out.2.2.1, this]
            · exact hP6.2 _ _ _ (((Ext.trans (by repeat (first | exact Ext.refl _ | assumption | refine Ext.alloc ?_ _ | refine Ext.drew ?_ | refine Ext.setCell ?_ (by first | (simp; done) | (dsimp only; omega)) _ | refine Ext.trans ?_ (by assumption))) hb5 : Ext wr w5).block _ hul).trans hR.out.2.2.2) (by decide) (by decide) (by decide)
        · have heb : (errM B aj == 0) = false := by simpa using he
          have hsame : markS B M' aj false = M' := by unfold markS; rw [if_neg he]
          have HPe : Hid (∀ w1, Ext wr w1 → Calls Try.prog 55 #[.pointer (some ⟨mb, 0, none⟩), .int .u64 aj] w1 fun e w' => e = .returned (.tuple #[.int .u64 0, .int .i64 (errM B aj)]) ∧ Ext w1 w') := Lib.hid (fun w1 k => by have := HP.out w1 k; rw [if_neg he] at this; exact this)
          have HSA := Lib.hid hsame
          generalize errM B aj = er at HPe heb
          clear he hsame
          go_wp2_with (first | (go_at_call 55; refine (HPe.out _ (by repeat (first | exact Ext.refl _ | assumption | refine Ext.alloc ?_ _ | refine Ext.drew ?_ | refine Ext.setCell ?_ (by first | (simp; done) | (dsimp only; omega)) _ | refine Ext.trans ?_ (by assumption)))).mono ?_; rintro e w5 ⟨rfl, hb5⟩; have ⟨hc, hf, hh, hs⟩ := hb5.facts; try simp only [World.size_alloc, World.size_setCell, World.size_drew] at hs))
          refine ⟨⟨j + 1, M', by omega, by go_num, Lib.hid ⟨hR.out.1.ext (by repeat (first | exact Ext.refl _ | assumption | refine Ext.alloc ?_ _ | refine Ext.drew ?_ | refine Ext.setCell ?_ (by first | (simp; done) | (dsimp only; omega)) _ | refine Ext.trans ?_ (by assumption))), hR.out.2.1.ext (by repeat (first | exact Ext.refl _ | assumption | refine Ext.alloc ?_ _ | refine Ext.drew ?_ | refine Ext.setCell ?_ (by first | (simp; done) | (dsimp only; omega)) _ | refine Ext.trans ?_ (by assumption))), ?_, ((Ext.trans (by repeat (first | exact Ext.refl _ | assumption | refine Ext.alloc ?_ _ | refine Ext.drew ?_ | refine Ext.setCell ?_ (by first | (simp; done) | (dsimp only; omega)) _ | refine Ext.trans ?_ (by assumption))) hb5 : Ext wr w5).block _ hul).trans hR.out.2.2.2⟩⟩, by simp [intOf]; omega⟩
          have := HST.out
          rw [DF.out, HSA.out] at this
          rw [← hR.out.2.2.1, this]
      · by_cases hw : why = 0
        · have hwb : (why == 0) = true := by simpa using hw
          by_cases hl : j + 1 = L.length
          · have hlb : ((j : Int) == (L.length : Int) - 1) = true := by rw [beq_iff_eq]; omega
            have DF : Hid ((true && why == 0 && decide (j + 1 = L.length)) = true) := Lib.hid (by simp [hw, hl])
            clear hl hw
            have hand := and96 m0 m1
            have hor := or96 m0 m1
            have hle := orD_le m0 m1
            by_cases he : errM B aj = 0
            · have HPe : Hid (∀ w1, Ext wr w1 → Calls Try.prog 55 #[.pointer (some ⟨mb, 0, none⟩), .int .u64 aj] w1 fun e w' => e = .returned (.tuple #[.int .u64 x, .int .i64 0]) ∧ Ext w1 w') := Lib.hid (fun w1 k => by have := HP.out w1 k; rw [if_pos he, he, HX.out] at this; exact this)
              have hsame : orD x = x → markS B M' aj true = M' := fun e => by unfold markS; rw [if_pos he, HX.out]; simp only [if_true]; rw [e, ← HX.out]; exact setM_self M' (aj / 8)
              have hnew : setIf B M' aj (orD x) = markS B M' aj true := by unfold setIf markS; rw [if_pos he, if_pos he, HX.out]; rfl
              have HE0 := Lib.hid he
              have HSA := Lib.hid hsame
              have HNW := Lib.hid hnew
              clear he hsame hnew
              by_cases hx9 : x / 32 % 4 = 3
              · have hfix : orD x = x := by unfold orD; omega
                have hxe : (x / 32 % 4 * 32 != 96) = false := by rw [hx9]; rfl
                have HFX := Lib.hid hfix
                clear hx9 hfix hor
                go_wp2_with (first | (go_at_call 55; refine (HPe.out _ (by repeat (first | exact Ext.refl _ | assumption | refine Ext.alloc ?_ _ | refine Ext.drew ?_ | refine Ext.setCell ?_ (by first | (simp; done) | (dsimp only; omega)) _ | refine Ext.trans ?_ (by assumption)))).mono ?_; rintro e w5 ⟨rfl, hb5⟩; have ⟨hc, hf, hh, hs⟩ := hb5.facts; try simp only [World.size_alloc, World.size_setCell, World.size_drew] at hs))
                refine ⟨⟨j + 1, M', by omega, by go_num, Lib.hid ⟨hR.out.1.ext (by repeat (first | exact Ext.refl _ | assumption | refine Ext.alloc ?_ _ | refine Ext.drew ?_ | refine Ext.setCell ?_ (by first | (simp; done) | (dsimp only; omega)) _ | refine Ext.trans ?_ (by assumption))), hR.out.2.1.ext (by repeat (first | exact Ext.refl _ | assumption | refine Ext.alloc ?_ _ | refine Ext.drew ?_ | refine Ext.setCell ?_ (by first | (simp; done) | (dsimp only; omega)) _ | refine Ext.trans ?_ (by assumption))), ?_, ((Ext.trans (by repeat (first | exact Ext.refl _ | assumption | refine Ext.alloc ?_ _ | refine Ext.drew ?_ | refine Ext.setCell ?_ (by first | (simp; done) | (dsimp only; omega)) _ | refine Ext.trans ?_ (by assumption))) hb5 : Ext wr w5).block _ hul).trans hR.out.2.2.2⟩⟩, by simp [intOf]; omega⟩
                have := HST.out
                rw [DF.out, HSA.out HFX.out] at this
                rw [← hR.out.2.2.1, this]
              · have hxe : (x / 32 % 4 * 32 != 96) = true := by rw [bne_iff_ne]; omega
                clear hx9
                go_wp2_with (first | (go_at_call 55; refine (HPe.out _ (by repeat (first | exact Ext.refl _ | assumption | refine Ext.alloc ?_ _ | refine Ext.drew ?_ | refine Ext.setCell ?_ (by first | (simp; done) | (dsimp only; omega)) _ | refine Ext.trans ?_ (by assumption)))).mono ?_; rintro e w5 ⟨rfl, hb5⟩; have ⟨hc, hf, hh, hs⟩ := hb5.facts; try simp only [World.size_alloc, World.size_setCell, World.size_drew] at hs) | (go_at_call 59; refine (HWS.out _ (Ext.trans (by repeat (first | exact Ext.refl _ | assumption | refine Ext.alloc ?_ _ | refine Ext.drew ?_ | refine Ext.setCell ?_ (by first | (simp; done) | (dsimp only; omega)) _ | refine Ext.trans ?_ (by assumption))) hb5) _ hle.1 hle.2).mono ?_; rintro e w6 ⟨rfl, hM6, hP6⟩))
                refine ⟨⟨j + 1, markS B M' aj true, by omega, by go_num, Lib.hid ⟨by rw [← HNW.out]; exact hM6, ?_, ?_, ?_⟩⟩, by simp [intOf]; omega⟩
                · exact (hR.out.2.1.ext (Ext.trans (by repeat (first | exact Ext.refl _ | assumption | refine Ext.alloc ?_ _ | refine Ext.drew ?_ | refine Ext.setCell ?_ (by first | (simp; done) | (dsimp only; omega)) _ | refine Ext.trans ?_ (by assumption))) hb5)).trans hP6
                · have := HST.out
                  rw [DF.out] at this
                  rw [← hR.out.2.2.1, this]
                · exact hP6.2 _ _ _ (((Ext.trans (by repeat (first | exact Ext.refl _ | assumption | refine Ext.alloc ?_ _ | refine Ext.drew ?_ | refine Ext.setCell ?_ (by first | (simp; done) | (dsimp only; omega)) _ | refine Ext.trans ?_ (by assumption))) hb5 : Ext wr w5).block _ hul).trans hR.out.2.2.2) (by decide) (by decide) (by decide)
            · have heb : (errM B aj == 0) = false := by simpa using he
              have hsame : markS B M' aj true = M' := by unfold markS; rw [if_neg he]
              have HPe : Hid (∀ w1, Ext wr w1 → Calls Try.prog 55 #[.pointer (some ⟨mb, 0, none⟩), .int .u64 aj] w1 fun e w' => e = .returned (.tuple #[.int .u64 0, .int .i64 (errM B aj)]) ∧ Ext w1 w') := Lib.hid (fun w1 k => by have := HP.out w1 k; rw [if_neg he] at this; exact this)
              have HSA := Lib.hid hsame
              generalize errM B aj = er at HPe heb
              clear he hsame
              go_wp2_with (first | (go_at_call 55; refine (HPe.out _ (by repeat (first | exact Ext.refl _ | assumption | refine Ext.alloc ?_ _ | refine Ext.drew ?_ | refine Ext.setCell ?_ (by first | (simp; done) | (dsimp only; omega)) _ | refine Ext.trans ?_ (by assumption)))).mono ?_; rintro e w5 ⟨rfl, hb5⟩; have ⟨hc, hf, hh, hs⟩ := hb5.facts; try simp only [World.size_alloc, World.size_setCell, World.size_drew] at hs))
              refine ⟨⟨j + 1, M', by omega, by go_num, Lib.hid ⟨hR.out.1.ext (by repeat (first | exact Ext.refl _ | assumption | refine Ext.alloc ?_ _ | refine Ext.drew ?_ | refine Ext.setCell ?_ (by first | (simp; done) | (dsimp only; omega)) _ | refine Ext.trans ?_ (by assumption))), hR.out.2.1.ext (by repeat (first | exact Ext.refl _ | assumption | refine Ext.alloc ?_ _ | refine Ext.drew ?_ | refine Ext.setCell ?_ (by first | (simp; done) | (dsimp only; omega)) _ | refine Ext.trans ?_ (by assumption))), ?_, ((Ext.trans (by repeat (first | exact Ext.refl _ | assumption | refine Ext.alloc ?_ _ | refine Ext.drew ?_ | refine Ext.setCell ?_ (by first | (simp; done) | (dsimp only; omega)) _ | refine Ext.trans ?_ (by assumption))) hb5 : Ext wr w5).block _ hul).trans hR.out.2.2.2⟩⟩, by simp [intOf]; omega⟩
              have := HST.out
              rw [DF.out, HSA.out] at this
              rw [← hR.out.2.2.1, this]
          · have hlb : ((j : Int) == (L.length : Int) - 1) = false := by rw [beq_eq_false_iff_ne]; omega
            have DF : Hid ((true && why == 0 && decide (j + 1 = L.length)) = false) := Lib.hid (by simp [hl])
            clear hl hw
            have hand := and32 m0 m1
            have hor := or32 m0 m1
            have hle := orA_le m0 m1
            by_cases he : errM B aj = 0
            · have HPe : Hid (∀ w1, Ext wr w1 → Calls Try.prog 55 #[.pointer (some ⟨mb, 0, none⟩), .int .u64 aj] w1 fun e w' => e = .returned (.tuple #[.int .u64 x, .int .i64 0]) ∧ Ext w1 w') := Lib.hid (fun w1 k => by have := HP.out w1 k; rw [if_pos he, he, HX.out] at this; exact this)
              have hsame : orA x = x → markS B M' aj false = M' := fun e => by unfold markS; rw [if_pos he, HX.out]; simp only [Bool.false_eq_true, if_false]; rw [e, ← HX.out]; exact setM_self M' (aj / 8)
              have hnew : setIf B M' aj (orA x) = markS B M' aj false := by unfold setIf markS; rw [if_pos he, if_pos he, HX.out]; rfl
              have HE0 := Lib.hid he
              have HSA := Lib.hid hsame
              have HNW := Lib.hid hnew
              clear he hsame hnew
              by_cases hx9 : x / 32 % 2 = 1
              · have hfix : orA x = x := by unfold orA; omega
                have hxe : (x / 32 % 2 * 32 != 32) = false := by rw [hx9]; rfl
                have HFX := Lib.hid hfix
                clear hx9 hfix hor
                go_wp2_with (first | (go_at_call 55; refine (HPe.out _ (by repeat (first | exact Ext.refl _ | assumption | refine Ext.alloc ?_ _ | refine Ext.drew ?_ | refine Ext.setCell ?_ (by first | (simp; done) | (dsimp only; omega)) _ | refine Ext.trans ?_ (by assumption)))).mono ?_; rintro e w5 ⟨rfl, hb5⟩; have ⟨hc, hf, hh, hs⟩ := hb5.facts; try simp only [World.size_alloc, World.size_setCell, World.size_drew] at hs))
                refine ⟨⟨j + 1, M', by omega, by go_num, Lib.hid ⟨hR.out.1.ext (by repeat (first | exact Ext.refl _ | assumption | refine Ext.alloc ?_ _ | refine Ext.drew ?_ | refine Ext.setCell ?_ (by first | (simp; done) | (dsimp only; omega)) _ | refine Ext.trans ?_ (by assumption))), hR.out.2.1.ext (by repeat (first | exact Ext.refl _ | assumption | refine Ext.alloc ?_ _ | refine Ext.drew ?_ | refine Ext.setCell ?_ (by first | (simp; done) | (dsimp only; omega)) _ | refine Ext.trans ?_ (by assumption))), ?_, ((Ext.trans (by repeat (first | exact Ext.refl _ | assumption | refine Ext.alloc ?_ _ | refine Ext.drew ?_ | refine Ext.setCell ?_ (by first | (simp; done) | (dsimp only; omega)) _ | refine Ext.trans ?_ (by assumption))) hb5 : Ext wr w5).block _ hul).trans hR.out.2.2.2⟩⟩, by simp [intOf]; omega⟩
                have := HST.out
                rw [DF.out, HSA.out HFX.out] at this
                rw [← hR.out.2.2.1, this]
              · have hxe : (x / 32 % 2 * 32 != 32) = true := by rw [bne_iff_ne]; omega
                clear hx9
                go_wp2_with (first | (go_at_call 55; refine (HPe.out _ (by repeat (first | exact Ext.refl _ | assumption | refine Ext.alloc ?_ _ | refine Ext.drew ?_ | refine Ext.setCell ?_ (by first | (simp; done) | (dsimp only; omega)) _ | refine Ext.trans ?_ (by assumption)))).mono ?_; rintro e w5 ⟨rfl, hb5⟩; have ⟨hc, hf, hh, hs⟩ := hb5.facts; try simp only [World.size_alloc, World.size_setCell, World.size_drew] at hs) | (go_at_call 59; refine (HWS.out _ (Ext.trans (by repeat (first | exact Ext.refl _ | assumption | refine Ext.alloc ?_ _ | refine Ext.drew ?_ | refine Ext.setCell ?_ (by first | (simp; done) | (dsimp only; omega)) _ | refine Ext.trans ?_ (by assumption))) hb5) _ hle.1 hle.2).mono ?_; rintro e w6 ⟨rfl, hM6, hP6⟩))
                refine ⟨⟨j + 1, markS B M' aj false, by omega, by go_num, Lib.hid ⟨by rw [← HNW.out]; exact hM6, ?_, ?_, ?_⟩⟩, by simp [intOf]; omega⟩
                · exact (hR.out.2.1.ext (Ext.trans (by repeat (first | exact Ext.refl _ | assumption | refine Ext.alloc ?_ _ | refine Ext.drew ?_ | refine Ext.setCell ?_ (by first | (simp; done) | (dsimp only; omega)) _ | refine Ext.trans ?_ (by assumption))) hb5)).trans hP6
                · have := HST.out
                  rw [DF.out] at this
                  rw [← hR.out.2.2.1, this]
                · exact hP6.2 _ _ _ (((Ext.trans (by repeat (first | exact Ext.refl _ | assumption | refine Ext.alloc ?_ _ | refine Ext.drew ?_ | refine Ext.setCell ?_ (by first | (simp; done) | (dsimp only; omega)) _ | refine Ext.trans ?_ (by assumption))) hb5 : Ext wr w5).block _ hul).trans hR.out.2.2.2) (by decide) (by decide) (by decide)
            · have heb : (errM B aj == 0) = false := by simpa using he
              have hsame : markS B M' aj false = M' := by unfold markS; rw [if_neg he]
              have HPe : Hid (∀ w1, Ext wr w1 → Calls Try.prog 55 #[.pointer (some ⟨mb, 0, none⟩), .int .u64 aj] w1 fun e w' => e = .returned (.tuple #[.int .u64 0, .int .i64 (errM B aj)]) ∧ Ext w1 w') := Lib.hid (fun w1 k => by have := HP.out w1 k; rw [if_neg he] at this; exact this)
              have HSA := Lib.hid hsame
              generalize errM B aj = er at HPe heb
              clear he hsame
              go_wp2_with (first | (go_at_call 55; refine (HPe.out _ (by repeat (first | exact Ext.refl _ | assumption | refine Ext.alloc ?_ _ | refine Ext.drew ?_ | refine Ext.setCell ?_ (by first | (simp; done) | (dsimp only; omega)) _ | refine Ext.trans ?_ (by assumption)))).mono ?_; rintro e w5 ⟨rfl, hb5⟩; have ⟨hc, hf, hh, hs⟩ := hb5.facts; try simp only [World.size_alloc, World.size_setCell, World.size_drew] at hs))
              refine ⟨⟨j + 1, M', by omega, by go_num, Lib.hid ⟨hR.out.1.ext (by repeat (first | exact Ext.refl _ | assumption | refine Ext.alloc ?_ _ | refine Ext.drew ?_ | refine Ext.setCell ?_ (by first | (simp; done) | (dsimp only; omega)) _ | refine Ext.trans ?_ (by assumption))), hR.out.2.1.ext (by repeat (first | exact Ext.refl _ | assumption | refine Ext.alloc ?_ _ | refine Ext.drew ?_ | refine Ext.setCell ?_ (by first | (simp; done) | (dsimp only; omega)) _ | refine Ext.trans ?_ (by assumption))), ?_, ((Ext.trans (by repeat (first | exact Ext.refl _ | assumption | refine Ext.alloc ?_ _ | refine Ext.drew ?_ | refine Ext.setCell ?_ (by first | (simp; done) | (dsimp only; omega)) _ | refine Ext.trans ?_ (by assumption))) hb5 : Ext wr w5).block _ hul).trans hR.out.2.2.2⟩⟩, by simp [intOf]; omega⟩
              have := HST.out
              rw [DF.out, HSA.out] at this
              rw [← hR.out.2.2.1, this]
        · have hwb : (why == 0) = false := by simpa using hw
          have DF : Hid ((true && why == 0 && decide (j + 1 = L.length)) = false) := Lib.hid (by simp [hw])
          clear hw
          have hand := and32 m0 m1
          have hor := or32 m0 m1
          have hle := orA_le m0 m1
          by_cases he : errM B aj = 0
          · have HPe : Hid (∀ w1, Ext wr w1 → Calls Try.prog 55 #[.pointer (some ⟨mb, 0, none⟩), .int .u64 aj] w1 fun e w' => e = .returned (.tuple #[.int .u64 x, .int .i64 0]) ∧ Ext w1 w') := Lib.hid (fun w1 k => by have := HP.out w1 k; rw [if_pos he, he, HX.out] at this; exact this)
            have hsame : orA x = x → markS B M' aj false = M' := fun e => by unfold markS; rw [if_pos he, HX.out]; simp only [Bool.false_eq_true, if_false]; rw [e, ← HX.out]; exact setM_self M' (aj / 8)
            have hnew : setIf B M' aj (orA x) = markS B M' aj false := by unfold setIf markS; rw [if_pos he, if_pos he, HX.out]; rfl
            have HE0 := Lib.hid he
            have HSA := Lib.hid hsame
            have HNW := Lib.hid hnew
            clear he hsame hnew
            by_cases hx9 : x / 32 % 2 = 1
            · have hfix : orA x = x := by unfold orA; omega
              have hxe : (x / 32 % 2 * 32 != 32) = false := by rw [hx9]; rfl
              have HFX := Lib.hid hfix
              clear hx9 hfix hor
              go_wp2_with (first | (go_at_call 55; refine (HPe.out _ (by repeat (first | exact Ext.refl _ | assumption | refine Ext.alloc ?_ _ | refine Ext.drew ?_ | refine Ext.setCell ?_ (by first | (simp; done) | (dsimp only; omega)) _ | refine Ext.trans ?_ (by assumption)))).mono ?_; rintro e w5 ⟨rfl, hb5⟩; have ⟨hc, hf, hh, hs⟩ := hb5.facts; try simp only [World.size_alloc, World.size_setCell, World.size_drew] at hs))
              refine ⟨⟨j + 1, M', by omega, by go_num, Lib.hid ⟨hR.out.1.ext (by repeat (first | exact Ext.refl _ | assumption | refine Ext.alloc ?_ _ | refine Ext.drew ?_ | refine Ext.setCell ?_ (by first | (simp; done) | (dsimp only; omega)) _ | refine Ext.trans ?_ (by assumption))), hR.out.2.1.ext (by repeat (first | exact Ext.refl _ | assumption | refine Ext.alloc ?_ _ | refine Ext.drew ?_ | refine Ext.setCell ?_ (by first | (simp; done) | (dsimp only; omega)) _ | refine Ext.trans ?_ (by assumption))), ?_, ((Ext.trans (by repeat (first | exact Ext.refl _ | assumption | refine Ext.alloc ?_ _ | refine Ext.drew ?_ | refine Ext.setCell ?_ (by first | (simp; done) | (dsimp only; omega)) _ | refine Ext.trans ?_ (by assumption))) hb5 : Ext wr w5).block _ hul).trans hR.out.2.2.2⟩⟩, by simp [intOf]; omega⟩
              have := HST.out
              rw [DF.out, HSA.out HFX.out] at this
              rw [← hR.out.2.2.1, this]
            · have hxe : (x / 32 % 2 * 32 != 32) = true := by rw [bne_iff_ne]; omega
              clear hx9
              go_wp2_with (first | (go_at_call 55; refine (HPe.out _ (by repeat (first | exact Ext.refl _ | assumption | refine Ext.alloc ?_ _ | refine Ext.drew ?_ | refine Ext.setCell ?_ (by first | (simp; done) | (dsimp only; omega)) _ | refine Ext.trans ?_ (by assumption)))).mono ?_; rintro e w5 ⟨rfl, hb5⟩; have ⟨hc, hf, hh, hs⟩ := hb5.facts; try simp only [World.size_alloc, World.size_setCell, World.size_drew] at hs) | (go_at_call 59; refine (HWS.out _ (Ext.trans (by repeat (first | exact Ext.refl _ | assumption | refine Ext.alloc ?_ _ | refine Ext.drew ?_ | refine Ext.setCell ?_ (by first | (simp; done) | (dsimp only; omega)) _ | refine Ext.trans ?_ (by assumption))) hb5) _ hle.1 hle.2).mono ?_; rintro e w6 ⟨rfl, hM6, hP6⟩))
              refine ⟨⟨j + 1, markS B M' aj false, by omega, by go_num, Lib.hid ⟨by rw [← HNW.out]; exact hM6, ?_, ?_, ?_⟩⟩, by simp [intOf]; omega⟩
              · exact (hR.out.2.1.ext (Ext.trans (by repeat (first | exact Ext.refl _ | assumption | refine Ext.alloc ?_ _ | refine Ext.drew ?_ | refine Ext.setCell ?_ (by first | (simp; done) | (dsimp only; omega)) _ | refine Ext.trans ?_ (by assumption))) hb5)).trans hP6
              · have := HST.out
                rw [DF.out] at this
                rw [← hR.out.2.2.1, this]
              · exact hP6.2 _ _ _ (((Ext.trans (by repeat (first | exact Ext.refl _ | assumption | refine Ext.alloc ?_ _ | refine Ext.drew ?_ | refine Ext.setCell ?_ (by first | (simp; done) | (dsimp only; omega)) _ | refine Ext.trans ?_ (by assumption))) hb5 : Ext wr w5).block _ hul).trans hR.out.2.2.2) (by decide) (by decide) (by decide)
          · have heb : (errM B aj == 0) = false := by simpa using he
            have hsame : markS B M' aj false = M' := by unfold markS; rw [if_neg he]
            have HPe : Hid (∀ w1, Ext wr w1 → Calls Try.prog 55 #[.pointer (some ⟨mb, 0, none⟩), .int .u64 aj] w1 fun e w' => e = .returned (.tuple #[.int .u64 0, .int .i64 (errM B aj)]) ∧ Ext w1 w') := Lib.hid (fun w1 k => by have := HP.out w1 k; rw [if_neg he] at this; exact this)
            have HSA := Lib.hid hsame
            generalize errM B aj = er at HPe heb
            clear he hsame
            go_wp2_with (first | (go_at_call 55; refine (HPe.out _ (by repeat (first | exact Ext.refl _ | assumption | refine Ext.alloc ?_ _ | refine Ext.drew ?_ | refine Ext.setCell ?_ (by first | (simp; done) | (dsimp only; omega)) _ | refine Ext.trans ?_ (by assumption)))).mono ?_; rintro e w5 ⟨rfl, hb5⟩; have ⟨hc, hf, hh, hs⟩ := hb5.facts; try simp only [World.size_alloc, World.size_setCell, World.size_drew] at hs))
            refine ⟨⟨j + 1, M', by omega, by go_num, Lib.hid ⟨hR.out.1.ext (by repeat (first | exact Ext.refl _ | assumption | refine Ext.alloc ?_ _ | refine Ext.drew ?_ | refine Ext.setCell ?_ (by first | (simp; done) | (dsimp only; omega)) _ | refine Ext.trans ?_ (by assumption))), hR.out.2.1.ext (by repeat (first | exact Ext.refl _ | assumption | refine Ext.alloc ?_ _ | refine Ext.drew ?_ | refine Ext.setCell ?_ (by first | (simp; done) | (dsimp only; omega)) _ | refine Ext.trans ?_ (by assumption))), ?_, ((Ext.trans (by repeat (first | exact Ext.refl _ | assumption | refine Ext.alloc ?_ _ | refine Ext.drew ?_ | refine Ext.setCell ?_ (by first | (simp; done) | (dsimp only; omega)) _ | refine Ext.trans ?_ (by assumption))) hb5 : Ext wr w5).block _ hul).trans hR.out.2.2.2⟩⟩, by simp [intOf]; omega⟩
            have := HST.out
            rw [DF.out, HSA.out] at this
            rw [← hR.out.2.2.1, this]
    · obtain rfl : j = L.length := by omega
      go_wp2
      all_goals
        (try refine ⟨rfl, .tuple #[], (by simp [results, Try.results21, go_sem]), ?_⟩)
        rw [← HE.out]
        refine ⟨rfl, ?_, (SepP.of_ext VE.out).trans hR.out.2.1⟩
        have := hR.out.2.2.1
        rw [List.drop_of_length_le (Nat.le_refl _)] at this
        rw [← this]; exact hR.out.1
end Go.Proofs.Ytfaekfdngkpkdaa
/- Caches of tables: Fill. -/
namespace Go.Proofs.Ytfaekfdngkpkdaa
set_option linter.unusedVariables false
set_option linter.unusedSimpArgs false
open Go.RowKit
attribute [local go_sem] wext_cell wext_frozen wext_heap alloc_cell alloc_frozen alloc_heap setCell_cell objCell_cells objFrozen_cells

def pkF (k4 k3 k2 : Int) (l : Int) : Int := if l = 4 then k4 else if l = 3 then k3 else k2
def goesOn (s : Stp) : Prop := (2 ≤ s.1 ∧ s.1 ≤ 4) ∧ bitB s.2.2 0 = true ∧ leafI s.2.2 s.1 = false
instance (s : Stp) : Decidable (goesOn s) := by unfold goesOn; infer_instance
theorem fill_drop {p a : Int} {pk : Int → Int} {r : Nat} {L : List Stp} {rt : Rt} {C : Int → Lines} {i : Nat} (h : i < L.length) : fillF p a pk r (L.drop i) rt C =
    if i + 1 = L.length then C else if goesOn (stpAt L i) then fillF p a pk r (L.drop (i + 1)) (andR rt (stpAt L i).2.2) (upd C (stpAt L i).1 (putC (kP p (stpAt L i).1 a) (lineP (tabI (stpAt L i).2.2) (andR rt (stpAt L i).2.2)) (pk (stpAt L i).1) r (C (stpAt L i).1))) else C := by
  have e : L.drop i = stpAt L i :: L.drop (i + 1) := by
    rw [List.drop_eq_getElem_cons h]
    congr 1
    simp [stpAt, List.getD, h]
  rw [e]
  simp only [fillF, List.drop_eq_nil_iff]
  by_cases hl : i + 1 = L.length
  · rw [if_pos (by omega), if_pos hl]
  · rw [if_neg (by omega), if_neg hl]
    rfl
theorem StepsAt.keeps {U V : World} {sa : Option Addr} {L : List Stp} {G : List Nat} (h : StepsAt U sa L) (k : Keeps G U V) (hg : ∀ g o, sa = some ⟨g, o, none⟩ → g ∉ G) : StepsAt V sa L := fun i hi => by
  obtain ⟨g, o, e, h1, h2, h3, h4⟩ := h i hi
  have hb := k.block g h1 (hg g o e)
  have c : ∀ j, V.cell? ⟨g, j, none⟩ = U.cell? ⟨g, j, none⟩ := fun j => by rw [cell_heap, cell_heap, hb]
  exact ⟨g, o, e, Nat.lt_of_lt_of_le h1 k.size, by rw [c]; exact h2, by rw [c]; exact h3, by rw [c]; exact h4⟩
/-- Within Fill. -/
structure FillTo (w : World) (vb pb : Nat) (cb : Int → Nat) (F : Int → List Nat) (r : Nat) (L : List Stp) (sa : Option Addr) (sc : Nat) (why : Int) (rr : Rt) (lv fr k4 k3 k2 p a : Int) (D : Int → Lines) (i : Nat) (rt : Rt) (C : Int → Lines) (wr : World) : Prop where
  psc : PscTo pb cb F C r w wr
  eq : fillF p a (pkF k4 k3 k2) r (L.drop i) rt C = D
  path : wr.heap[vb]? = some (.cells #[.slice sa L.length sc, .int .i64 why, .bool rr.1, .bool rr.2.1, .bool rr.2.2, .int .i64 lv, .int .u64 fr] 38 (0, 0))
  picks : wr.heap[vb + 1 + 1]? = some (.cells #[.int .i64 k4, .int .i64 k3, .int .i64 k2] 69 (0, 0))
  right : wr.heap[vb + 1 + 1 + 1]? = some (.cells #[.bool rt.1, .bool rt.2.1, .bool rt.2.2] 25 (0, 0))
  steps : StepsAt wr sa L

theorem PscTo.keepsAt {w wr w' : World} {pb : Nat} {cb : Int → Nat} {F F2 : Int → List Nat} {C : Int → Lines} {r : Nat} {G : List Nat} (h : PscAt wr pb cb F2 C r ∧ Keeps (allF F) w wr ∧ ∀ x ∈ allF F2, x ∈ allF F ∨ w.heap.size ≤ x) (k : Keeps G wr w')
    (hG : ∀ x ∈ G, w.heap.size ≤ x ∧ ∃ c e, wr.heap[x]? = some (.cells c e (0, 0)) ∧ e ≠ 204 ∧ e ≠ 159 ∧ e ≠ 163) : PscAt w' pb cb F2 C r ∧ Keeps (allF F) w w' ∧ ∀ x ∈ allF F2, x ∈ allF F ∨ w.heap.size ≤ x := by
  refine ⟨h.1.keeps k (fun x hx hg => ?_) (fun hg => ?_), h.2.1.trans k fun x hx => .inr (hG x hx).1, h.2.2⟩
  · obtain ⟨-, c, e, h1, h2, h3, -⟩ := hG x hg
    exact h.1.out h1 h2 h3 hx
  · obtain ⟨-, c, e, h1, -, -, h4⟩ := hG pb hg
    rw [h.1.head] at h1
    simp only [Option.some.injEq, Obj.cells.injEq] at h1
    exact h4 h1.2.1.symm
theorem FillTo.step {w wr U X Y Z : World} {vb pb : Nat} {cb : Int → Nat} {F F2 : Int → List Nat} {r : Nat} {L : List Stp} {sa : Option Addr} {sc : Nat} {why : Int} {rr : Rt} {lv fr k4 k3 k2 p a l : Int} {D : Int → Lines} {i : Nat} {rt u : Rt} {C : Int → Lines} {LP : Lines} {F1 : List Nat}
    (h : FillTo w vb pb cb F r L sa sc why rr lv fr k4 k3 k2 p a D i rt C wr) (hwv : w.heap.size ≤ vb) (hSb : ∀ g o, sa = some ⟨g, o, none⟩ → g ∉ allF F) (hLT : ∀ g o, sa = some ⟨g, o, none⟩ → g < w.heap.size)
    (hP : PscAt wr pb cb F2 C r ∧ Keeps (allF F) w wr ∧ ∀ x ∈ allF F2, x ∈ allF F ∨ w.heap.size ≤ x) (l0 : 2 ≤ l) (l1 : l ≤ 4) (k1 : Keeps [vb + 1 + 1 + 1] wr U) (hU : U.heap[vb + 1 + 1 + 1]? = some (.cells #[.bool u.1, .bool u.2.1, .bool u.2.2] 25 (0, 0)))
    (e2 : Ext U X) (c : CAt Y (cb l) F1 LP r) (kk : Keeps (F2 l) X Y) (f : ∀ x ∈ F1, x ∈ F2 l ∨ X.heap.size ≤ x) (e3 : Ext Y Z) (hD : D = fillF p a (pkF k4 k3 k2) r (L.drop (i + 1)) u (upd C l LP)) :
    FillTo w vb pb cb F r L sa sc why rr lv fr k4 k3 k2 p a D (i + 1) u (upd C l LP) Z := by
  have PU := PscTo.keepsAt hP k1 (fun x hx => by
    simp only [List.mem_singleton] at hx
    subst hx
    exact ⟨by omega, _, _, h.right, by decide, by decide, by decide⟩)
  have PX : PscAt X pb cb F2 C r ∧ Keeps (allF F) w X ∧ ∀ x ∈ allF F2, x ∈ allF F ∨ w.heap.size ≤ x := ⟨PU.1.ext e2, PU.2.1.ext e2, PU.2.2⟩
  have keep : ∀ {b : Nat} {cs : Array Value} {e : TypeId}, X.heap[b]? = some (.cells cs e (0, 0)) → e ≠ 204 → e ≠ 159 → Z.heap[b]? = some (.cells cs e (0, 0)) := fun hb h1 h2 => by
    have hy := (kk.block _ (heap_lt hb) (fun hm => PX.1.out hb h1 h2 (mem_allF.2 ⟨l, l0, l1, hm⟩))).trans hb
    exact (e3.block _ (heap_lt hy)).trans hy
  have stay : ∀ {b : Nat} {cs : Array Value} {e : TypeId}, wr.heap[b]? = some (.cells cs e (0, 0)) → b ≠ vb + 1 + 1 + 1 → X.heap[b]? = some (.cells cs e (0, 0)) := fun hb hne => by
    have hu := (k1.block _ (heap_lt hb) (by simpa using hne)).trans hb
    exact (e2.block _ (heap_lt hu)).trans hu
  refine ⟨(PscTo.trans PX ⟨_, PX.1.op l0 l1 c kk f⟩).ext e3, hD.symm, keep (stay h.path (by omega)) (by decide) (by decide), keep (stay h.picks (by omega)) (by decide) (by decide), keep ((e2.block _ (heap_lt hU)).trans hU) (by decide) (by decide), ?_⟩
  refine (((h.steps.keeps k1 fun g o e hm => ?_).ext e2).keeps kk fun g o e hm => ?_).ext e3
  · simp only [List.mem_singleton] at hm
    have := hLT g o e; omega
  · rcases hP.2.2 g (mem_allF.2 ⟨l, l0, l1, hm⟩) with q | q
    · exact hSb g o e q
    · have := hLT g o e; omega

set_option maxHeartbeats 4000000 in
set_option maxRecDepth 100000 in
theorem fill_c (pb : Nat) (cb : Int → Nat) (F : Int → List Nat) (C : Int → Lines) (r : Nat) (p a : Int) (L : List Stp) (sa : Option Addr) (sc : Nat) (why : Int) (rr : Rt) (lv fr : Int) (n t : Int) (rt : Rt) (k4 k3 k2 : Int) (w : World) (h : PscAt w pb cb F C r)
    (hS : StepsAt w sa L) (hSb : ∀ g o, sa = some ⟨g, o, none⟩ → g ∉ allF F) (hL : L.length ≤ 5864062014634) (hok : ∀ i, i < L.length → 0 ≤ (stpAt L i).2.2 ∧ (stpAt L i).2.2 ≤ 18446744073709551615) (h0 : 0 ≤ a) (h1 : a ≤ 18446744073709551615)
    (hk : ∀ l, -9223372036854775808 ≤ pkF k4 k3 k2 l ∧ pkF k4 k3 k2 l ≤ 9223372036854775807) :
    Calls Try.prog 30 #[.pointer (some ⟨pb, 0, none⟩), .int .i64 p, .int .u64 a, .agg #[.slice sa L.length sc, .int .i64 why, .bool rr.1, .bool rr.2.1, .bool rr.2.2, .int .i64 lv, .int .u64 fr], .agg #[.int .i64 n, .int .u64 t, .bool rt.1, .bool rt.2.1, .bool rt.2.2], .agg #[.int .i64 k4, .int .i64 k3, .int .i64 k2]] w
      (EndP pb cb F (fillF p a (pkF k4 k3 k2) r L rt C) r w) := by
  have H := Lib.hid h
  have HS := Lib.hid hS
  have HSb := Lib.hid hSb
  have HO := Lib.hid hok
  have HK := Lib.hid hk
  obtain ⟨D, hD⟩ : ∃ D, fillF p a (pkF k4 k3 k2) r L rt C = D := ⟨_, rfl⟩
  rw [hD]
  have HD := Lib.hid hD
  generalize hE : EndP pb cb F D r w = E
  have HE := Lib.hid hE
  have hlt0 : ∀ i, i < L.length → ∀ g o, sa = some ⟨g, o, none⟩ → g < w.heap.size := fun i hi g o e => by
    obtain ⟨g', o', e', hg, -⟩ := hS i hi
    rw [e] at e'
    injection e' with e'
    injection e' with e1
    omega
  have HLT := Lib.hid hlt0
  clear hE h hS hSb hok hD hlt0 hk
  obtain ⟨r0, r1, r2⟩ := rt
  obtain ⟨q0, q1, q2⟩ := rr
  go_enter Try.func30, Try.ntmps30
  go_wp2
  refine wp_gen ?_; intro V hV
  have hVE : Ext w V := by rw [hV]; exact (by repeat (first | exact Ext.refl _ | assumption | refine Ext.alloc ?_ _ | refine Ext.drew ?_ | refine Ext.setCell ?_ (by first | (simp; done) | (dsimp only; omega)) _ | refine Ext.trans ?_ (by assumption)))
  have hV0 : V.heap[w.heap.size]? = some (.cells #[.slice sa L.length sc, .int .i64 why, .bool q0, .bool q1, .bool q2, .int .i64 lv, .int .u64 fr] 38 (0, 0)) := by
    rw [hV]; exact (alloc_other _ _ (by first | (simp; done) | (simp; omega))).trans ((alloc_other _ _ (by first | (simp; done) | (simp; omega))).trans ((alloc_other _ _ (by simp)).trans (alloc_same ..)))
  have hV2 : V.heap[w.heap.size + 1 + 1]? = some (.cells #[.int .i64 k4, .int .i64 k3, .int .i64 k2] 69 (0, 0)) := by
    rw [hV]; exact (alloc_other _ _ (by simp)).trans (alloc_same2 ..)
  have hV3 : V.heap[w.heap.size + 1 + 1 + 1]? = some (.cells #[.bool r0, .bool r1, .bool r2] 25 (0, 0)) := by
    rw [hV]; exact alloc_same3 ..
  obtain ⟨vb, hvb⟩ : ∃ vb, w.heap.size = vb := ⟨_, rfl⟩
  rw [hvb] at hV0 hV2 hV3 ⊢
  have hwv : w.heap.size ≤ vb := by omega
  have VT : Hid (FillTo w vb pb cb F r L sa sc why (q0, q1, q2) lv fr k4 k3 k2 p a D 0 (r0, r1, r2) C V) := Lib.hid ⟨(PscTo.refl H.out).ext hVE, by rw [← HD.out]; rfl, hV0, hV2, hV3, HS.out.ext hVE⟩
  have p0 := (heap_cell hV0 0).trans rfl
  have pl := heap_lt hV0
  clear hV hVE hV0 hV2 hV3 hvb
  go_upto_region 3 with (fail)
  clear p0 pl
  go_loopw [21] (fun iv wr => ∃ (i : Nat) (rt' : Rt) (C' : Int → Lines), i ≤ L.length ∧ iv = .int .i64 i ∧ Hid (FillTo w vb pb cb F r L sa sc why (q0, q1, q2) lv fr k4 k3 k2 p a D i rt' C' wr)) (fun iv _ => L.length - (intOf iv).toNat)
  case atStart => exact ⟨0, _, _, by omega, rfl, VT⟩
  case round =>
    obtain ⟨i, rt', C', hi, rfl, hR⟩ := hrel
    by_cases hlt : i < L.length
    · obtain ⟨g, o, hsa, hgl, s0, s1, s2⟩ := hR.out.steps i hlt
      subst hsa
      obtain ⟨x0, x1⟩ := HO.out i hlt
      have hfd := fill_drop (p := p) (a := a) (pk := pkF k4 k3 k2) (r := r) (rt := rt') (C := C') hlt
      rw [hR.out.eq] at hfd
      have c0 := (heap_cell hR.out.path 0).trans rfl
      have pl := heap_lt hR.out.path
      have bl := heap_lt hR.out.right
      generalize stpAt L i = sj at s0 s1 s2 x0 x1 hfd
      obtain ⟨l, s, x⟩ := sj
      dsimp only at s0 s1 s2 x0 x1 hfd
      by_cases hlast : i + 1 = L.length
      · have hlb : ((i : Int) == (L.length : Int) - 1) = true := by rw [beq_iff_eq]; omega
        rw [if_pos hlast] at hfd
        have HFD := Lib.hid hfd
        clear hfd hlast
        go_wp2
        refine ⟨rfl, .tuple #[], (by simp [results, Try.results30, go_sem]), ?_⟩
        rw [← HE.out, HFD.out]
        exact ⟨rfl, hR.out.psc.ext (by repeat (first | exact Ext.refl _ | assumption | refine Ext.alloc ?_ _ | refine Ext.drew ?_ | refine Ext.setCell ?_ (by first | (simp; done) | (dsimp only; omega)) _ | refine Ext.trans ?_ (by assumption)))⟩
      · have hlb : ((i : Int) == (L.length : Int) - 1) = false := by rw [beq_eq_false_iff_ne]; omega
        rw [if_neg hlast] at hfd
        clear hlast
        have HFD := Lib.hid hfd
        clear hfd
        by_cases hl : 2 ≤ l ∧ l ≤ 4
        · obtain ⟨F2, hP, hK, hf⟩ := hR.out.psc
          have hl' : l = 2 ∨ l = 3 ∨ l = 4 := by omega
          have HP := Lib.hid hP
          have HPK := Lib.hid hK
          have HPf := Lib.hid hf
          have HOf := Lib.hid (fun w h => of_c pb cb F2 C' r l w h hl')
          have hb0 : (bits BinOp.and IntKind.u64 x 1 == 0) = !bitB x 0 := by
            have := bitE 0 (by omega) x0 x1
            have e : (bits BinOp.and IntKind.u64 x 1 != 0) = bitB x 0 := this
            rw [← e]; simp [bne]
          clear hP hK hf
          cases hp : bitB x 0 with
          | false =>
            rw [hp] at hb0
            have HC : Hid (D = C') := Lib.hid (by rw [HFD.out, if_neg]; rintro ⟨-, h2, -⟩; rw [hp] at h2; cases h2)
            clear hp hl hl'
            go_wp2_with (first | (go_at_call 80; refine (HOf.out _ (HP.out.ext (by repeat (first | exact Ext.refl _ | assumption | refine Ext.alloc ?_ _ | refine Ext.drew ?_ | refine Ext.setCell ?_ (by first | (simp; done) | (dsimp only; omega)) _ | refine Ext.trans ?_ (by assumption))))).mono ?_; rintro e w1 ⟨rfl, hb1⟩; have ⟨hc, hf, hh, hs⟩ := hb1.facts; try simp only [World.size_alloc, World.size_setCell, World.size_drew] at hs))
            refine ⟨rfl, .tuple #[], (by simp [results, Try.results30, go_sem]), ?_⟩
            rw [← HE.out, HC.out]
            exact ⟨rfl, hR.out.psc.ext (by repeat (first | exact Ext.refl _ | assumption | refine Ext.alloc ?_ _ | refine Ext.drew ?_ | refine Ext.setCell ?_ (by first | (simp; done) | (dsimp only; omega)) _ | refine Ext.trans ?_ (by assumption)))⟩
          | true =>
            rw [hp] at hb0
            have HLf := Lib.hid (fun w => entLeaf_c x l w x0 x1)
            cases hlf : leafI x l with
            | true =>
              rw [hlf] at HLf
              have HC : Hid (D = C') := Lib.hid (by rw [HFD.out, if_neg]; rintro ⟨-, -, h2⟩; rw [hlf] at h2; cases h2)
              clear hp hl hl' hlf
              go_wp2_with (first | (go_at_call 80; refine (HOf.out _ (HP.out.ext (by repeat (first | exact Ext.refl _ | assumption | refine Ext.alloc ?_ _ | refine Ext.drew ?_ | refine Ext.setCell ?_ (by first | (simp; done) | (dsimp only; omega)) _ | refine Ext.trans ?_ (by assumption))))).mono ?_; rintro e w1 ⟨rfl, hb1⟩; have ⟨hc, hf, hh, hs⟩ := hb1.facts; try simp only [World.size_alloc, World.size_setCell, World.size_drew] at hs) | (go_at_call 66; refine (HLf.out _).mono ?_; rintro e w2 ⟨rfl, hb2⟩))
              refine ⟨rfl, .tuple #[], (by simp [results, Try.results30, go_sem]), ?_⟩
              rw [← HE.out, HC.out]
              exact ⟨rfl, hR.out.psc.ext (by repeat (first | exact Ext.refl _ | assumption | refine Ext.alloc ?_ _ | refine Ext.drew ?_ | refine Ext.setCell ?_ (by first | (simp; done) | (dsimp only; omega)) _ | refine Ext.trans ?_ (by assumption)))⟩
            | false =>
              rw [hlf] at HLf
              obtain ⟨a0, a1, a2⟩ := rt'
              obtain ⟨u, hu⟩ : ∃ u, andR (a0, a1, a2) x = u := ⟨_, rfl⟩
              have HA : Hid (∀ w, Calls Try.prog 65 #[.agg #[.bool a0, .bool a1, .bool a2], .int .u64 x] w fun e w' => e = .returned (.agg #[.bool u.1, .bool u.2.1, .bool u.2.2]) ∧ Ext w w') := Lib.hid (fun w => by rw [← hu]; exact rightAndE_c a0 a1 a2 x w x0 x1)
              have HTb := Lib.hid (fun w => entTable_c x w x0 x1)
              have HKy := Lib.hid (fun w => pscKey_c p l a w hl' h0 h1)
              have HPu := Lib.hid (fun w (h : PscAt w pb cb F2 C' r) => put_c (cb l) (F2 l) (C' l) r (kP p l a) (lineP (tabI x) u) (pkF k4 k3 k2 l) w (h.cache l hl.1 hl.2) (HK.out l).1 (HK.out l).2)
              have HC : Hid (D = fillF p a (pkF k4 k3 k2) r (L.drop (i + 1)) u (upd C' l (putC (kP p l a) (lineP (tabI x) u) (pkF k4 k3 k2 l) r (C' l)))) := Lib.hid (by rw [HFD.out, if_pos ⟨hl, hp, hlf⟩, hu])
              generalize tabI x = tb at HTb HPu HC
              generalize putC (kP p l a) (lineP tb u) (pkF k4 k3 k2 l) r (C' l) = LP at HPu HC
              generalize kP p l a = kk at HKy HPu
              obtain ⟨u0, u1, u2⟩ := u
              unfold Key.val at HKy HPu
              unfold Line.val lineP at HPu
              dsimp only at HPu HA
              have HBL : ∃ b0 b1 b2, (b0, b1, b2) = (vb, vb + 1 + 1, vb + 1 + 1 + 1) := ⟨_, _, _, rfl⟩
              have R0 := Lib.hid hR.out.right
              have P0 := Lib.hid hR.out.picks
              have A0 := Lib.hid hR.out.path
              have e0 := (heap_cell R0.out 0).trans rfl
              have e1 := (heap_cell R0.out 1).trans rfl
              have e2 := (heap_cell R0.out 2).trans rfl
              have ef := frozen_of R0.out
              have hgv : g < w.heap.size := HLT.out i hlt g o rfl
              clear hp hlf HFD hu HBL
              go_upto_region 8 with (first | (go_at_call 80; refine (HOf.out _ (HP.out.ext (by repeat (first | exact Ext.refl _ | assumption | refine Ext.alloc ?_ _ | refine Ext.drew ?_ | refine Ext.setCell ?_ (by first | (simp; done) | (dsimp only; omega)) _ | refine Ext.trans ?_ (by assumption))))).mono ?_; rintro e w1 ⟨rfl, hb1⟩; have ⟨hc, hf, hh, hs⟩ := hb1.facts; try simp only [World.size_alloc, World.size_setCell, World.size_drew] at hs) | (go_at_call 66; refine (HLf.out _).mono ?_; rintro e w2 ⟨rfl, hb2⟩))
              have hE2 : Ext wr w2 := Ext.trans (by repeat (first | exact Ext.refl _ | assumption | refine Ext.alloc ?_ _ | refine Ext.drew ?_ | refine Ext.setCell ?_ (by first | (simp; done) | (dsimp only; omega)) _ | refine Ext.trans ?_ (by assumption))) hb2
              have hs8 : w2.heap[wr.heap.size]? = some (.cells #[.int .i64 l, .int .u64 s, .int .u64 x] 65 (0, 0)) := (hb2.block _ (by have := hb1.size; simp only [World.size_alloc] at this; omega)).trans ((hb1.block _ (by simp)).trans (alloc_same ..))
              obtain ⟨sb, hsb⟩ : ∃ sb, wr.heap.size = sb := ⟨_, rfl⟩
              rw [hsb] at hs8 ⊢
              have hsv : vb + 1 + 1 + 1 < sb := by omega
              have HE2 := Lib.hid hE2
              have HS8 := Lib.hid hs8
              clear hc hf hh hs hb1 hb2 hE2 hs8 c0 e0 e1 e2 ef s0 s1 s2 hsb
              have RR := Lib.hid ((HE2.out.block _ (heap_lt R0.out)).trans R0.out)
              have d0 := (heap_cell RR.out 0).trans rfl
              have d1 := (heap_cell RR.out 1).trans rfl
              have d2 := (heap_cell RR.out 2).trans rfl
              have dl := heap_lt RR.out
              have f2 := (heap_cell HS8.out 2).trans rfl
              have fl := heap_lt HS8.out
              go_upto_region 9 with (first | (go_at_call 65; refine (HA.out _).mono ?_; rintro e w3 ⟨rfl, hb3⟩; have RW3 := (hb3.block _ (heap_lt RR.out)).trans RR.out; have g0 := (heap_cell RW3 0).trans rfl; have g1 := (heap_cell RW3 1).trans rfl; have g2 := (heap_cell RW3 2).trans rfl; have gf := frozen_of RW3; have gl := heap_lt RW3))
              refine wp_gen ?_; intro U hU
              have hUk : Keeps [vb + 1 + 1 + 1] wr U := by
                rw [hU]
                exact Keeps.setCell (Keeps.setCell (Keeps.setCell (Keeps.of_ext (HE2.out.trans hb3)) (.inl (by simp)) _) (.inl (by simp)) _) (.inl (by simp)) _
              have hUr : U.heap[vb + 1 + 1 + 1]? = some (.cells #[.bool u0, .bool u1, .bool u2] 25 (0, 0)) := by
                rw [hU]; exact setCell_heap_same (setCell_heap_same (setCell_heap_same RW3))
              have hUo : ∀ b o, b ≠ vb + 1 + 1 + 1 → w2.heap[b]? = some o → U.heap[b]? = some o := fun b o hne hb => by
                rw [hU]
                exact (setCell_heap _ _ _ _ _ (Ne.symm hne)).trans ((setCell_heap _ _ _ _ _ (Ne.symm hne)).trans ((setCell_heap _ _ _ _ _ (Ne.symm hne)).trans ((hb3.block _ (heap_lt hb)).trans hb)))
              have hUs := hUo _ _ (by omega) HS8.out
              have hUp := hUo _ _ (by omega) ((HE2.out.block _ (heap_lt P0.out)).trans P0.out)
              have UK := Lib.hid hUk
              have UR := Lib.hid hUr
              have hPU : PscAt U pb cb F2 C' r := (PscTo.keepsAt (F := F) ⟨HP.out, HPK.out, HPf.out⟩ hUk (fun x hx => by
                simp only [List.mem_singleton] at hx
                subst hx
                exact ⟨by omega, _, _, R0.out, by decide, by decide, by decide⟩)).1
              have UP := Lib.hid hPU
              clear hU hUk hUo hPU RW3 g0 g1 g2 gf gl d0 d1 d2 dl f2 fl hb3
              have m0 := (heap_cell hUs 0).trans rfl
              have m1 := (heap_cell hUs 1).trans rfl
              have m2 := (heap_cell hUs 2).trans rfl
              have ml := heap_lt hUs
              have k0 := (heap_cell hUp 0).trans rfl
              have k1 := (heap_cell hUp 1).trans rfl
              have k2 := (heap_cell hUp 2).trans rfl
              have kl := heap_lt hUp
              have n0 := (heap_cell hUr 0).trans rfl
              have n1 := (heap_cell hUr 1).trans rfl
              have n2 := (heap_cell hUr 2).trans rfl
              have nl := heap_lt hUr
              clear hUs hUp hUr
              have hg2 : ∀ g' o', some (⟨g, o, none⟩ : Addr) = some ⟨g', o', none⟩ → g' < w.heap.size := fun g' o' e => HLT.out i hlt g' o' e
              have HG2 := Lib.hid hg2
              clear hg2
              rcases hl' with rfl | rfl | rfl
              all_goals
                simp only [pkF, Int.reduceEq, if_true, if_false, reduceIte] at HPu
                refine region_mix [.q [0, 1, 2, 3, 4, 6, 7, 9, 11, 12, 13, 14, 15], .l 5 3, .l 8 3, .b [10], .l 16 2] (by kernel_rfl) (by kernel_rfl) ?_
                (try refine ⟨fun h => absurd h (by simp), ?_⟩); (repeat (unfold wpPlan; simp only [pickL, List.map_cons, List.map_nil, List.getD_cons_succ, List.getD_cons_zero]; (repeat go_big_quiet_step (fail)); refine wpQuiet_nil ?_)); unfold wpPlan; intro w4 hb4; (try simp only [pickL, List.map_cons, List.map_nil, List.getD_cons_succ, List.getD_cons_zero])
                have HB4 := Lib.hid hb4
                clear hb4
                go_wp2_with (first | (go_at_call 82; refine (HKy.out _).mono ?_; rintro e w5 ⟨rfl, hb5⟩))
                refine ⟨fun _ => HB4.out.trans (Ext.trans (by repeat (first | exact Ext.refl _ | assumption | refine Ext.alloc ?_ _ | refine Ext.drew ?_ | refine Ext.setCell ?_ (by first | (simp; done) | (dsimp only; omega)) _ | refine Ext.trans ?_ (by assumption))) hb5), ?_⟩
                (try refine ⟨fun h => absurd h (by simp), ?_⟩); (repeat (unfold wpPlan; simp only [pickL, List.map_cons, List.map_nil, List.getD_cons_succ, List.getD_cons_zero]; (repeat go_big_quiet_step (fail)); refine wpQuiet_nil ?_)); unfold wpPlan; intro w6 hb6; (try simp only [pickL, List.map_cons, List.map_nil, List.getD_cons_succ, List.getD_cons_zero])
                have HB6 : Hid (Ext U w6) := Lib.hid ((HB4.out.trans (Ext.trans (by repeat (first | exact Ext.refl _ | assumption | refine Ext.alloc ?_ _ | refine Ext.drew ?_ | refine Ext.setCell ?_ (by first | (simp; done) | (dsimp only; omega)) _ | refine Ext.trans ?_ (by assumption))) hb5)).trans hb6)
                clear hb5
                go_wp2_with (first | (go_at_call 68; refine (HTb.out _).mono ?_; rintro e w7 ⟨rfl, hb7⟩))
                refine ⟨fun _ => hb6.trans (Ext.trans (by repeat (first | exact Ext.refl _ | assumption | refine Ext.alloc ?_ _ | refine Ext.drew ?_ | refine Ext.setCell ?_ (by first | (simp; done) | (dsimp only; omega)) _ | refine Ext.trans ?_ (by assumption))) hb7), ?_⟩
                (try refine ⟨fun h => absurd h (by simp), ?_⟩); (repeat (unfold wpPlan; simp only [pickL, List.map_cons, List.map_nil, List.getD_cons_succ, List.getD_cons_zero]; (repeat go_big_quiet_step (fail)); refine wpQuiet_nil ?_)); unfold wpPlan; intro w8 hb8; (try simp only [pickL, List.map_cons, List.map_nil, List.getD_cons_succ, List.getD_cons_zero])
                have HB8 : Hid (Ext U w8) := Lib.hid ((HB6.out.trans (Ext.trans (by repeat (first | exact Ext.refl _ | assumption | refine Ext.alloc ?_ _ | refine Ext.drew ?_ | refine Ext.setCell ?_ (by first | (simp; done) | (dsimp only; omega)) _ | refine Ext.trans ?_ (by assumption))) hb7)).trans hb8)
                clear hb6 hb7 hb8
                go_wp2_with (first | (go_at_call 84; refine (HPu.out _ (UP.out.ext (HB8.out.trans (by repeat (first | exact Ext.refl _ | assumption | refine Ext.alloc ?_ _ | refine Ext.drew ?_ | refine Ext.setCell ?_ (by first | (simp; done) | (dsimp only; omega)) _ | refine Ext.trans ?_ (by assumption)))))).mono ?_; rintro e w9 ⟨rfl, F1, q1, q2, q3⟩))
                (try refine ⟨fun h => absurd h (by simp), ?_⟩); (repeat (unfold wpPlan; simp only [pickL, List.map_cons, List.map_nil, List.getD_cons_succ, List.getD_cons_zero]; (repeat go_big_quiet_step (fail)); refine wpQuiet_nil ?_)); unfold wpPlan; intro w10 hb10; (try simp only [pickL, List.map_cons, List.map_nil, List.getD_cons_succ, List.getD_cons_zero])
                have Q1 := Lib.hid q1
                have Q2 := Lib.hid q2
                have Q3 := Lib.hid q3
                have HB10 := Lib.hid hb10
                clear q1 q2 q3 hb10
                go_wp2
                refine ⟨⟨i + 1, (u0, u1, u2), _, by omega, by go_num, Lib.hid (hR.out.step hwv HSb.out HG2.out ⟨HP.out, HPK.out, HPf.out⟩ hl.1 hl.2 UK.out UR.out (HB8.out.trans (by repeat (first | exact Ext.refl _ | assumption | refine Ext.alloc ?_ _ | refine Ext.drew ?_ | refine Ext.setCell ?_ (by first | (simp; done) | (dsimp only; omega)) _ | refine Ext.trans ?_ (by assumption)))) Q1.out Q2.out Q3.out HB10.out HC.out)⟩, by simp [intOf]; omega⟩
        · have HOf := Lib.hid (fun w => ofNo_c (some ⟨pb, 0, none⟩) l w (by omega))
          have HC : Hid (D = C') := Lib.hid (by rw [HFD.out, if_neg]; rintro ⟨h2, -⟩; exact hl h2)
          clear hl HFD
          go_wp2_with (first | (go_at_call 80; refine (HOf.out _).mono ?_; rintro e w1 ⟨rfl, hb1⟩; have ⟨hc, hf, hh, hs⟩ := hb1.facts; try simp only [World.size_alloc, World.size_setCell, World.size_drew] at hs))
          refine ⟨rfl, .tuple #[], (by simp [results, Try.results30, go_sem]), ?_⟩
          rw [← HE.out, HC.out]
          exact ⟨rfl, hR.out.psc.ext (by repeat (first | exact Ext.refl _ | assumption | refine Ext.alloc ?_ _ | refine Ext.drew ?_ | refine Ext.setCell ?_ (by first | (simp; done) | (dsimp only; omega)) _ | refine Ext.trans ?_ (by assumption)))⟩
    · obtain rfl : i = L.length := by omega
      have heq := hR.out.eq
      rw [List.drop_length] at heq
      have HQ : Hid (C' = D) := Lib.hid heq
      clear heq
      go_wp2
      refine ⟨rfl, .tuple #[], (by simp [results, Try.results30, go_sem]), ?_⟩
      rw [← HE.out, ← HQ.out]
      exact ⟨rfl, hR.out.psc.ext (by repeat (first | exact Ext.refl _ | assumption | refine Ext.alloc ?_ _ | refine Ext.drew ?_ | refine Ext.setCell ?_ (by first | (simp; done) | (dsimp only; omega)) _ | refine Ext.trans ?_ (by assumption)))⟩
end Go.Proofs.Ytfaekfdngkpkdaa
/- A walk's words are the memory's; its slots are slots. -/
namespace Go.Proofs.Ytfaekfdngkpkdaa
set_option linter.unusedVariables false
set_option linter.unusedSimpArgs false
open Go.RowKit
attribute [local go_sem] wext_cell wext_frozen wext_heap alloc_cell alloc_frozen alloc_heap setCell_cell objCell_cells objFrozen_cells

theorem walk_word {M : Int → Int} {B : Int} {nxe : Bool} {a : Int} : ∀ (n : Nat) (t : Int) (r : Rt), ∀ s ∈ (walkF M B nxe a n t r).1, s.2.2 = M (s.2.1 / 8) ∧ errM B s.2.1 = 0
  | 0, t, r, s, h => by simp [walkF] at h
  | n + 1, t, r, y, h => by
    obtain ⟨s, hs⟩ : ∃ s, slotI t a ((n : Int) + 1) = s := ⟨_, rfl⟩
    obtain ⟨x, hx⟩ : ∃ x, M (s / 8) = x := ⟨_, rfl⟩
    by_cases hne : errM B s ≠ 0
    · rw [walkF_bad (by rw [hs]; exact hne)] at h; simp at h
    have he : errM B s = 0 := by omega
    have one : y = ((n : Int) + 1, s, x) → y.2.2 = M (y.2.1 / 8) ∧ errM B y.2.1 = 0 := fun e => by subst e; exact ⟨hx.symm, he⟩
    cases hp : bitB x 0 with
    | false => rw [walkF_absent hs hx he hp] at h; exact one (by simpa using h)
    | true =>
      cases hr : resI x ((n : Int) + 1) B nxe with
      | true => rw [walkF_res hs hx he hp hr] at h; exact one (by simpa using h)
      | false =>
        cases hl : leafI x ((n : Int) + 1) with
        | true => rw [walkF_leaf hs hx he hp hr hl] at h; exact one (by simpa using h)
        | false =>
          rw [walkF_on hs hx he hp hr hl] at h
          rcases List.mem_cons.1 h with h | h
          · exact one h
          · exact walk_word n _ _ y h
theorem walk_at {M : Int → Int} {B : Int} {nxe : Bool} {a : Int} {n : Nat} {t : Int} {r : Rt} (hM : ∀ s, 0 ≤ M s ∧ M s ≤ 18446744073709551615) {i : Nat} {s : Stp} (h : (walkF M B nxe a n t r).1[i]? = some s) :
    s.2.2 = M (s.2.1 / 8) ∧ errM B s.2.1 = 0 ∧ 0 ≤ s.2.2 ∧ s.2.2 ≤ 18446744073709551615 := by
  have := walk_word n t r s (List.mem_of_getElem? h)
  exact ⟨this.1, this.2, by rw [this.1]; exact (hM _).1, by rw [this.1]; exact (hM _).2⟩
end Go.Proofs.Ytfaekfdngkpkdaa
/- From a law's statement to its walk: what arguments that read as data are, by the shape of their types; and what a call that returns true and only lays new memory leaves. Own text. -/
namespace Go.Proofs.Ytfaekfdngkpkdaa
open Go.RowKit Go.ChangeShapes Go.WideShapes Go.ChangeAt

/-- The shape of a type of plain data. -/
inductive Dsc where
  | bool
  | int (k : IntKind)
  | slice (e : Dsc)
  | row (ds : List Dsc)

mutual
def Dsc.size : Dsc → Nat
  | .row ds => Dsc.sizes ds
  | .bool => 1
  | .int _ => 1
  | .slice _ => 1
def Dsc.sizes : List Dsc → Nat
  | [] => 0
  | d :: ds => d.size + Dsc.sizes ds
end

mutual
def Dsc.ok (P : Program) : Dsc → TypeId → Bool
  | .bool, t => match P.underlying t with | some .bool => true | _ => false
  | .int k, t => match P.underlying t with | some (.int q) => decide (q = k) | _ => false
  | .slice d, t => match P.underlying t with | some (.slice e) => d.ok P e && decide (P.cellsOf e = d.size) | _ => false
  | .row ds, t => match P.underlying t with
    | some (.struct fs) => Dsc.okFields P ds fs.toList 0
    | some (.array n e) => decide (ds.length = n) && Dsc.okElems P ds e
    | _ => false
def Dsc.okFields (P : Program) : List Dsc → List Field → Nat → Bool
  | [], [], _ => true
  | d :: ds, f :: fs, off => decide (f.offset = off) && decide (P.cellsOf f.type = d.size) && d.ok P f.type && Dsc.okFields P ds fs (off + d.size)
  | _, _, _ => false
def Dsc.okElems (P : Program) : List Dsc → TypeId → Bool
  | [], _ => true
  | d :: ds, e => decide (P.cellsOf e = d.size) && d.ok P e && Dsc.okElems P ds e
end

mutual
/-- What cells that read as such data are. -/
def Dsc.Is (w : World) : Dsc → List Value → Prop
  | .bool, cs => ∃ b, cs = [.bool b]
  | .int k, cs => ∃ n, cs = [.int k n] ∧ (Lit.int k n).wf = true
  | .slice d, cs => cs = [.slice none 0 0] ∨ ∃ a len cap, cs = [.slice (some a) len cap] ∧ len ≤ cap ∧ cap ≤ maxLen ∧
      ∀ i, i < cap → ∃ vs, w.cells? 0 (a.add (i * d.size)) d.size = some vs ∧ Dsc.Is w d vs
  | .row ds, cs => Dsc.IsAll w ds cs
def Dsc.IsAll (w : World) : List Dsc → List Value → Prop
  | [], _ => True
  | d :: ds, cs => Dsc.Is w d (cs.take d.size) ∧ Dsc.IsAll w ds (cs.drop d.size)
end

theorem mapM_some_mem {α β : Type} {f : α → Option β} : ∀ {l : List α} {r : List β}, l.mapM f = some r → ∀ x ∈ l, ∃ y, f x = some y
  | [], _, _, x, hx => by cases hx
  | a :: l, r, h, x, hx => by
    simp only [List.mapM_cons] at h
    cases ha : f a with
    | none => simp [ha] at h
    | some b =>
      simp only [ha] at h
      cases hl : l.mapM f with
      | none => simp [hl] at h
      | some s =>
        rcases List.mem_cons.1 hx with rfl | hx
        · exact ⟨b, ha⟩
        · exact mapM_some_mem hl x hx

section
variable {H : Type} {enc : TypeId × Value → H} {P : Program} {w : World}

theorem Dsc.fields_is {n : Nat} (ih : ∀ (d : Dsc) (t : TypeId) (cs : List Value) (x : DataW H × List MemPlace), d.ok P t = true → DataW.trod enc P w 0 (fun _ => true) true n t cs = some x → d.Is w cs) (all : List Value) :
    ∀ (ds : List Dsc) (fs : List Field) (off : Nat), Dsc.okFields P ds fs off = true →
      (∀ f ∈ fs, ∃ x, DataW.trod enc P w 0 (fun _ => true) true n f.type ((all.drop f.offset).take (P.cellsOf f.type)) = some x) → Dsc.IsAll w ds (all.drop off)
  | [], _, _, _, _ => trivial
  | d :: ds, [], _, hok, _ => by simp [Dsc.okFields] at hok
  | d :: ds, f :: fs, off, hok, h => by
    simp only [Dsc.okFields, Bool.and_eq_true, decide_eq_true_eq] at hok
    obtain ⟨⟨⟨h1, h2⟩, h3⟩, h4⟩ := hok
    obtain ⟨x, hx⟩ := h f (List.mem_cons_self ..)
    refine ⟨?_, ?_⟩
    · rw [h1, h2] at hx
      exact ih d f.type _ x h3 hx
    · rw [List.drop_drop]
      exact Dsc.fields_is ih all ds fs (off + d.size) h4 (fun g hg => h g (List.mem_cons_of_mem _ hg))

theorem Dsc.elems_is {n : Nat} (ih : ∀ (d : Dsc) (t : TypeId) (cs : List Value) (x : DataW H × List MemPlace), d.ok P t = true → DataW.trod enc P w 0 (fun _ => true) true n t cs = some x → d.Is w cs) (all : List Value) (e : TypeId) :
    ∀ (ds : List Dsc) (k : Nat), Dsc.okElems P ds e = true →
      (∀ i, k ≤ i → i < k + ds.length → ∃ x, DataW.trod enc P w 0 (fun _ => true) true n e ((all.drop (i * P.cellsOf e)).take (P.cellsOf e)) = some x) → Dsc.IsAll w ds (all.drop (k * P.cellsOf e))
  | [], _, _, _ => trivial
  | d :: ds, k, hok, h => by
    simp only [Dsc.okElems, Bool.and_eq_true, decide_eq_true_eq] at hok
    obtain ⟨⟨h2, h3⟩, h4⟩ := hok
    obtain ⟨x, hx⟩ := h k (Nat.le_refl _) (by simp)
    refine ⟨?_, ?_⟩
    · have := ih d e _ x h3 hx
      rw [← h2]; exact this
    · rw [List.drop_drop, ← h2, show k * P.cellsOf e + P.cellsOf e = (k + 1) * P.cellsOf e by rw [Nat.add_mul, Nat.one_mul]]
      exact Dsc.elems_is ih all e ds (k + 1) h4 (fun i h1 h2 => h i (by omega) (by simp only [List.length_cons]; omega))

/-- Cells that read as data of a type are of its shape. -/
theorem Dsc.is_of_trod : ∀ (n : Nat) (d : Dsc) (t : TypeId) (cs : List Value) (x : DataW H × List MemPlace), d.ok P t = true → DataW.trod enc P w 0 (fun _ => true) true n t cs = some x → d.Is w cs
  | 0, _, _, _, _, _, h => by simp [DataW.trod] at h
  | n + 1, .bool, t, cs, x, hok, h => by
    simp only [Dsc.ok] at hok
    unfold DataW.trod at h
    split at hok
    · rename_i hu
      rw [hu] at h
      split at h <;> simp_all [Dsc.Is]
    · cases hok
  | n + 1, .int k, t, cs, x, hok, h => by
    simp only [Dsc.ok] at hok
    unfold DataW.trod at h
    split at hok
    · rename_i q hu
      simp only [decide_eq_true_eq] at hok
      subst hok
      rw [hu] at h
      split at h <;> try simp_all [Dsc.Is]
    · cases hok
  | n + 1, .slice d, t, cs, x, hok, h => by
    simp only [Dsc.ok] at hok
    unfold DataW.trod at h
    split at hok
    · rename_i e hu
      simp only [Bool.and_eq_true, decide_eq_true_eq] at hok
      obtain ⟨h1, h2⟩ := hok
      rw [hu] at h
      split at h <;> try (first | (rename_i hh _; cases hh; done) | (rename_i hh; cases hh; done))
      all_goals first
        | (left; rfl)
        | skip
      all_goals try (simp at *; done)
      rename_i e' a len cap he
      obtain rfl : e = e' := by injection he with he; injection he
      split at h
      · rename_i hc
        obtain ⟨h3, h4, h5⟩ := hc
        right
        refine ⟨a, len, cap, rfl, h4, h5, fun i hi => ?_⟩
        cases h6 : (List.range len).mapM fun i => (w.cells? 0 (a.add (i * P.cellsOf e)) (P.cellsOf e)).bind (DataW.trod enc P w 0 (fun _ => true) true n e) with
        | none => simp [h6] at h
        | some els =>
          simp only [h6, Option.bind_some, if_true] at h
          cases h7 : (List.range (cap - len)).mapM fun j => (w.cells? 0 (a.add ((len + j) * P.cellsOf e)) (P.cellsOf e)).bind (DataW.trod enc P w 0 (fun _ => true) true n e) with
          | none => simp [h7] at h
          | some sps =>
            have key : ∃ y, (w.cells? 0 (a.add (i * P.cellsOf e)) (P.cellsOf e)).bind (DataW.trod enc P w 0 (fun _ => true) true n e) = some y := by
              by_cases hil : i < len
              · exact mapM_some_mem h6 i (List.mem_range.2 hil)
              · have := mapM_some_mem h7 (i - len) (List.mem_range.2 (by omega))
                rw [show len + (i - len) = i by omega] at this
                exact this
            obtain ⟨y, hy⟩ := key
            rw [h2] at hy
            cases h8 : w.cells? 0 (a.add (i * d.size)) d.size with
            | none => simp [h8] at hy
            | some vs =>
              simp only [h8, Option.bind_some] at hy
              exact ⟨vs, rfl, Dsc.is_of_trod n d e vs y h1 hy⟩
      · cases h
    · cases hok
  | n + 1, .row ds, t, cs, x, hok, h => by
    simp only [Dsc.ok] at hok
    unfold DataW.trod at h
    split at hok
    · rename_i fs hu
      rw [hu] at h
      simp only at h
      split at h
      · cases h6 : fs.toList.mapM fun f => DataW.trod enc P w 0 (fun _ => true) true n f.type ((cs.drop f.offset).take (P.cellsOf f.type)) with
        | none => simp [h6] at h
        | some r =>
          have := Dsc.fields_is (Dsc.is_of_trod n) cs ds fs.toList 0 hok (fun f hf => mapM_some_mem h6 f hf)
          simpa [Dsc.Is] using this
      · cases h
    · rename_i m e hu
      rw [hu] at h
      simp only at h
      simp only [Bool.and_eq_true, decide_eq_true_eq] at hok
      split at h
      · cases h6 : (List.range m).mapM fun i => DataW.trod enc P w 0 (fun _ => true) true n e ((cs.drop (i * P.cellsOf e)).take (P.cellsOf e)) with
        | none => simp [h6] at h
        | some r =>
          have := Dsc.elems_is (Dsc.is_of_trod n) cs e ds 0 hok.2 (fun i _ hi => mapM_some_mem h6 i (List.mem_range.2 (by omega)))
          simpa [Dsc.Is] using this
      · cases h
    · cases hok

theorem len1 {α : Type} {l : List α} (h : l.length = 1) : ∃ a, l = [a] := by
  match l, h with | [a], _ => exact ⟨a, rfl⟩
theorem len2 {α : Type} {l : List α} (h : l.length = 2) : ∃ a b, l = [a, b] := by
  match l, h with | [a, b], _ => exact ⟨a, b, rfl⟩
theorem len3 {α : Type} {l : List α} (h : l.length = 3) : ∃ a b c, l = [a, b, c] := by
  match l, h with | [a, b, c], _ => exact ⟨a, b, c, rfl⟩
theorem len4 {α : Type} {l : List α} (h : l.length = 4) : ∃ a b c d, l = [a, b, c, d] := by
  match l, h with | [a, b, c, d], _ => exact ⟨a, b, c, d, rfl⟩
theorem len6 {α : Type} {l : List α} (h : l.length = 6) : ∃ a b c d e f, l = [a, b, c, d, e, f] := by
  match l, h with | [a, b, c, d, e, f], _ => exact ⟨a, b, c, d, e, f, rfl⟩

/-- An argument of such a shape. -/
def ArgIs (w : World) : Dsc → Value → Prop
  | .row ds, v => ∃ cs : List Value, v = .agg cs.toArray ∧ cs.length = Dsc.sizes ds ∧ Dsc.IsAll w ds cs
  | d, v => d.Is w [v]
def ArgsAre (w : World) : List Dsc → List Value → Prop
  | [], vs => vs = []
  | d :: ds, vs => ∃ v r, vs = v :: r ∧ ArgIs w d v ∧ ArgsAre w ds r

theorem arg_is {base : Nat} {d : Dsc} {t : TypeId} {v : Value} {x : DataW H} {ps : List MemPlace} (hok : d.ok P t = true) (hc : P.cellsOf t = d.size) (hv : Value.okWide P w .any base t v)
    (h : DataW.Trod enc P w 0 (fun _ => true) true t v x ps) : ArgIs w d v := by
  obtain ⟨n, hn⟩ := h
  have his := Dsc.is_of_trod n d t _ _ hok hn
  cases d with
  | row ds =>
    have hu : ∃ cs, v = .agg cs ∧ cs.size = P.cellsOf t := by
      unfold Value.okWide at hv
      simp only [Dsc.ok] at hok
      split at hok
      · rename_i fs hu; rw [hu] at hv; obtain ⟨cs, h1, h2, _⟩ := hv; exact ⟨cs, h1, h2⟩
      · rename_i m e hu; rw [hu] at hv; obtain ⟨cs, h1, h2, _⟩ := hv; exact ⟨cs, h1, h2⟩
      · cases hok
    obtain ⟨cs, rfl, hsz⟩ := hu
    exact ⟨cs.toList, by simp, by simp [hsz, hc, Dsc.size], by simpa [Dsc.Is, Value.cells] using his⟩
  | bool =>
    simp only [Dsc.ok] at hok
    split at hok
    · rename_i hu
      obtain ⟨b, rfl, _⟩ := open_bool hu hv ⟨n, hn⟩
      exact ⟨b, rfl⟩
    · cases hok
  | int k =>
    simp only [Dsc.ok] at hok
    split at hok
    · rename_i q hu
      obtain rfl : q = k := by simpa using hok
      obtain ⟨b, rfl, _, _, hb⟩ := open_int hu hv ⟨n, hn⟩
      exact ⟨b, rfl, hb⟩
    · cases hok
  | slice e =>
    simp only [Dsc.ok] at hok
    split at hok
    · rename_i q hu
      obtain ⟨a, len, cap, rfl⟩ := okWide_slice hu hv
      exact his
    · cases hok

def okParams (P : Program) : List Dsc → List TypeId → Bool
  | [], [] => true
  | d :: ds, t :: ts => d.ok P t && decide (P.cellsOf t = d.size) && P.readableRec t && decide (t < P.types.size) && okParams P ds ts
  | _, _ => false

theorem args_are {base : Nat} : ∀ (dscs : List Dsc) (ts : List TypeId) (vs : List Value) (xs : List (DataW H)) (ps : List MemPlace), okParams P dscs ts = true →
    (∀ (j : Nat) t v, ts[j]? = some t → vs[j]? = some v → Value.okWide P w .any base t v) → DataW.TrodAll enc P w 0 (fun _ => true) true ts vs xs ps → ArgsAre w dscs vs ∧ xs.length = dscs.length
  | [], ts, vs, xs, ps, hok, hv, h => by
    cases ts with
    | nil => obtain ⟨h1, h2, _⟩ := trodAll_nil h; exact ⟨h1, by rw [h2]; rfl⟩
    | cons t ts => simp [okParams] at hok
  | d :: ds, ts, vs, xs, ps, hok, hv, h => by
    cases ts with
    | nil => simp [okParams] at hok
    | cons t ts =>
      simp only [okParams, Bool.and_eq_true, decide_eq_true_eq] at hok
      obtain ⟨⟨⟨⟨h1, h2⟩, h3⟩, h4⟩, h5⟩ := hok
      obtain ⟨v, vs1, x, xs1, a, b, rfl, rfl, rfl, hx, hr⟩ := trodAll_cons h
      have ⟨r1, r2⟩ := args_are ds ts vs1 xs1 b h5 (fun j t' v' hj hv' => hv (j + 1) t' v' (by simpa using hj) (by simpa using hv')) hr
      exact ⟨⟨v, vs1, rfl, arg_is h1 h2 (hv 0 t v rfl rfl) hx, r1⟩, by simp [r2]⟩

theorem trodAll_kept (hl : laidOutB P = true) {W W' : World} (hb : Below W.heap.size W W') : ∀ (dscs : List Dsc) (ts : List TypeId) (vs : List Value) (xs : List (DataW H)) (ps : List MemPlace), okParams P dscs ts = true →
    DataW.TrodAll enc P W 0 (fun _ => true) true ts vs xs ps → (∀ p ∈ ps, p.block < W.heap.size) → DataW.TrodAll enc P W' 0 (fun b => decide (b < W.heap.size)) true ts vs xs ps
  | [], ts, vs, xs, ps, hok, h, hlt => by
    cases ts with
    | nil => obtain ⟨rfl, rfl, rfl⟩ := trodAll_nil h; rfl
    | cons t ts => simp [okParams] at hok
  | d :: ds, ts, vs, xs, ps, hok, h, hlt => by
    cases ts with
    | nil => simp [okParams] at hok
    | cons t ts =>
      simp only [okParams, Bool.and_eq_true, decide_eq_true_eq] at hok
      obtain ⟨⟨⟨⟨h1, h2⟩, h3⟩, h4⟩, h5⟩ := hok
      obtain ⟨v, vs1, x, xs1, a, b, rfl, rfl, rfl, hx, hr⟩ := trodAll_cons h
      exact ⟨a, b, Below.trod hl h3 h4 hx hb (fun p hp => hlt p (List.mem_append.2 (.inl hp))), trodAll_kept hl hb ds ts vs1 xs1 b h5 hr (fun p hp => hlt p (List.mem_append.2 (.inr hp))), rfl⟩

theorem mapM_range {α : Type} {f : Nat → Option α} : ∀ (n : Nat) {r : List α}, (List.range n).mapM f = some r → r.length = n ∧ ∀ j, j < n → f j = r[j]?
  | 0, r, h => by simp at h; subst h; simp
  | n + 1, r, h => by
    rw [List.range_succ, List.mapM_append] at h
    cases h1 : (List.range n).mapM f with
    | none => simp [h1] at h
    | some a =>
      simp only [h1] at h
      cases h2 : f n with
      | none => simp [h2] at h
      | some b =>
        simp [h2] at h
        subst h
        have ⟨e1, e2⟩ := mapM_range n h1
        refine ⟨by simp [e1], fun j hj => ?_⟩
        by_cases hjn : j < n
        · rw [e2 j hjn, List.getElem?_append_left (by omega)]
        · obtain rfl : j = n := by omega
          rw [h2, List.getElem?_append_right (by omega)]
          simp [e1]

/-- A slice that is not empty, cell by cell. -/
theorem slice_open {w : World} {e : Dsc} {a : Addr} {cap : Nat} (hs : 0 < e.size) (hcap : 0 < cap) (h : ∀ i, i < cap → ∃ vs, w.cells? 0 (a.add (i * e.size)) e.size = some vs ∧ e.Is w vs) :
    ∃ b off, a = ⟨b, off, none⟩ ∧ b < w.heap.size ∧ ∀ i, i < cap → ∃ vs, vs.length = e.size ∧ (∀ j, j < e.size → w.cell? ⟨b, off + i * e.size + j, none⟩ = vs[j]?) ∧ e.Is w vs := by
  obtain ⟨b, off, spot⟩ := a
  have key : ∀ i, i < cap → ∃ vs, vs.length = e.size ∧ (∀ j, j < e.size → w.cell? ((Addr.add ⟨b, off, spot⟩ (i * e.size)).add j) = vs[j]?) ∧ e.Is w vs := fun i hi => by
    obtain ⟨vs, h1, h2⟩ := h i hi
    unfold World.cells? at h1
    rw [if_pos (Nat.zero_le _)] at h1
    have ⟨e1, e2⟩ := mapM_range _ h1
    exact ⟨vs, e1, e2, h2⟩
  obtain ⟨vs0, l0, c0, _⟩ := key 0 hcap
  have c00 := c0 0 hs
  have hv : ∃ v, vs0[0]? = some v := ⟨vs0[0]'(by omega), by simp⟩
  obtain ⟨v, hv⟩ := hv
  rw [hv] at c00
  simp only [Nat.zero_mul, Addr.add, if_true] at c00
  cases spot with
  | some s =>
    simp only [World.cell?] at c00
    split at c00
    · simp at c00
    · cases c00
  | none =>
    refine ⟨b, off, rfl, World.block_lt_of_cell? _ _ c00, fun i hi => ?_⟩
    obtain ⟨vs, l, c, hI⟩ := key i hi
    refine ⟨vs, l, fun j hj => ?_, hI⟩
    rw [← c j hj]
    congr 1
    unfold Addr.add
    split <;> split <;> simp_all <;> omega

/-- What the row asks of a law that returns true and only lays new memory. -/
theorem law_post {f : Func} {s : ChangeSpec} {W W' : World} {args : Array Value} {xs gs : List (DataW H)} {before : List MemPlace} {tb : TypeId} (dscs : List Dsc)
    (hl : laidOutB P = true) (hpar : okParams P dscs f.params.toList = true) (hres : f.resultTypes = #[tb]) (htb : P.underlying tb = some .bool) (hvars : s.vars = [])
    (hspec : ∀ ds : List (DataW H), ds.length = dscs.length → s.fn H ds = { results := [.lit (.bool true)], args := ds })
    (hlen : xs.length = dscs.length) (hW : DataW.Whole enc P f.params.toList s.vars false W args.toList xs gs before) (hb : Ext W W') :
    s.post enc P f false true false false W args (.bool true) W' := by
  have hlt := hW.lt
  have hW0 := hW
  obtain ⟨p, q, hA, hV, rfl, _, _⟩ := hW
  rw [hvars] at hV
  obtain ⟨rfl, rfl⟩ := trodVars_none hV
  simp only [List.append_nil] at hW0 hlt
  have e1 : s.fn H (xs ++ []) = { results := [.lit (.bool true)], args := xs } := by rw [List.append_nil]; exact hspec xs hlen
  refine ⟨xs, [], p, [], p, [], hW0, ?_, ?_, ?_, Below.frame hb _, fun h => by cases h⟩
  · rw [e1, hres]; exact trodAll_mk1 (shut_bool htb true)
  · rw [e1]; exact trodAll_kept hl hb dscs _ _ _ _ hpar hA hlt
  · rw [e1, hvars]; rfl

/-- A law's row, from its walk. -/
theorem law_lift {C : Checked} {os : Os} {n : FuncId} {f : Func} {s : ChangeSpec} {tb : TypeId} (dscs : List Dsc)
    (own : ownKnob C.prog.godebug = none) (started : os.Started) (noInit : C.prog.inits.idxOf? n = none) (hfn : C.prog.funcs[n]? = some f)
    (witness : ∃ (w : World) (tape : Tape) (i : Input), w.os = os ∧ (w.forCall tape i).Shaped C.prog ∧ i.vars = [] ∧ Input.okWide C.prog (w.forCall tape i) .any w.heap.size n i ∧
      s.pre6 enc C.prog f [] false (w.forCall tape i).memory i.args ∧ Assume.holds ({} : Assume) C.prog (lone (Frame.enter C.prog n i.args .normal) [] (w.forCall tape i)))
    (hl : laidOutB C.prog = true) (hpar : okParams C.prog dscs f.params.toList = true) (hres : f.resultTypes = #[tb]) (htb : C.prog.underlying tb = some .bool) (hvars : s.vars = [])
    (hspec : ∀ ds : List (DataW H), ds.length = dscs.length → s.fn H ds = { results := [.lit (.bool true)], args := ds })
    (walk : ∀ (W : World) (args : List Value), ArgsAre W dscs args → Calls C.prog n args.toArray W fun e w' => e = .returned (.bool true) ∧ Ext W w') :
    ReturnsInHanded {} C os n .any (s.pre6 enc C.prog f [] false) (s.post enc C.prog f false true false false) := by
  refine returnsInHanded_of_change own started noInit hfn witness ?_
  intro W base args ds gs before hval hW _ _
  have hW0 := hW
  obtain ⟨p, q, hA, hV, _⟩ := hW
  have ⟨h1, h2⟩ := args_are dscs _ _ _ _ hpar (fun j t v hj hv => hval j t v (by simpa using hj) (by simpa using hv)) hA
  have := walk W args.toList h1
  simp only [Array.toArray_toList] at this
  exact this.mono fun e w' ⟨he, hb⟩ => ⟨_, he, law_post dscs hl hpar hres htb hvars hspec h2 hW0 hb⟩
end

end Go.Proofs.Ytfaekfdngkpkdaa
/- Lists that a slice of plain data holds. -/
namespace Go.Proofs.Ytfaekfdngkpkdaa
set_option linter.unusedVariables false
set_option linter.unusedSimpArgs false
open Go.RowKit
attribute [local go_sem] wext_cell wext_frozen wext_heap alloc_cell alloc_frozen alloc_heap setCell_cell objCell_cells objFrozen_cells
open Go.Proofs

/-- v holds these, each of so many cells. -/
def ListAt {α : Type} [Inhabited α] (w : World) (v : Value) (size : Nat) (cells : α → List Value) (ok : α → Prop) (ds : List α) : Prop :=
  ∃ a cap, v = .slice a ds.length cap ∧ ds.length ≤ cap ∧ cap ≤ maxLen ∧ (∀ i, i < ds.length → ok (ds.getD i default)) ∧
    ∀ i, i < ds.length → ∃ g o, a = some ⟨g, o, none⟩ ∧ g < w.heap.size ∧ ∀ j u, (cells (ds.getD i default))[j]? = some u → w.cell? ⟨g, o + i * size + j, none⟩ = some u
theorem ListAt.ext {α : Type} [Inhabited α] {w w' : World} {v : Value} {size : Nat} {cells : α → List Value} {ok : α → Prop} {ds : List α} (h : ListAt w v size cells ok ds) (k : Ext w w') : ListAt w' v size cells ok ds := by
  obtain ⟨a, cap, h1, h2, h3, h4, h5⟩ := h
  refine ⟨a, cap, h1, h2, h3, h4, fun i hi => ?_⟩
  obtain ⟨g, o, e1, e2, e3⟩ := h5 i hi
  exact ⟨g, o, e1, Nat.lt_of_lt_of_le e2 k.size, fun j u hu => k.someCell (e3 j u hu)⟩
theorem list_of {α : Type} [Inhabited α] {W : World} {v : Value} {size : Nat} {cells : α → List Value} {ok : α → Prop} {d : Dsc} (hs : d.size = size) (h0 : 0 < d.size) (hc : ∀ x, (cells x).length = size)
    (his : ∀ cs : List Value, cs.length = size → d.Is W cs → ∃ x, ok x ∧ cs = cells x) (h : (Dsc.slice d).Is W [v]) : ∃ ds, ListAt W v size cells ok ds := by
  simp only [Dsc.Is, List.cons.injEq, and_true] at h
  rcases h with rfl | ⟨a, n, cap, rfl, hn, hm, hall⟩
  · exact ⟨[], none, 0, rfl, by simp, by simp, fun i hi => by simp at hi, fun i hi => by simp at hi⟩
  · by_cases hcp : 0 < cap
    · obtain ⟨b, off, rfl, hb, hcell⟩ := slice_open (e := d) h0 hcp hall
      have hall2 : ∀ i, i < cap → ∃ x : α, ok x ∧ ∀ j u, (cells x)[j]? = some u → W.cell? ⟨b, off + i * size + j, none⟩ = some u := fun i hi => by
        obtain ⟨vs, hl, hcc, hI⟩ := hcell i hi
        obtain ⟨x, hx, rfl⟩ := his vs (by rw [← hs]; exact hl) hI
        refine ⟨x, hx, fun j u hu => ?_⟩
        have hj := (List.getElem?_eq_some_iff.1 hu).1
        rw [hc] at hj
        have := hcc j (by omega)
        rw [hs] at this
        exact this.trans hu
      have : ∃ f : Nat → α, ∀ i, i < cap → ok (f i) ∧ ∀ j u, (cells (f i))[j]? = some u → W.cell? ⟨b, off + i * size + j, none⟩ = some u :=
        ⟨fun i => if h : i < cap then Classical.choose (hall2 i h) else default, fun i hi => by
          simp only [hi, dite_true]
          exact Classical.choose_spec (hall2 i hi)⟩
      obtain ⟨f, hf⟩ := this
      have hd : ∀ i, i < n → ((List.range n).map f).getD i default = f i := fun i hi => by simp [List.getD, hi]
      refine ⟨(List.range n).map f, some ⟨b, off, none⟩, cap, by simp, by simpa using hn, hm, fun i hi => ?_, fun i hi => ⟨b, off, rfl, hb, fun j u hu => ?_⟩⟩
      · have hi : i < n := by simpa using hi
        rw [hd i hi]; exact (hf i (by omega)).1
      · have hi : i < n := by simpa using hi
        rw [hd i hi] at hu; exact (hf i (by omega)).2 j u hu
    · obtain rfl : cap = 0 := by omega
      obtain rfl : n = 0 := by omega
      exact ⟨[], some a, 0, rfl, by simp, by simp, fun i hi => by simp at hi, fun i hi => by simp at hi⟩
end Go.Proofs.Ytfaekfdngkpkdaa
/- Words that are written: their slots, the memory with them; addresses of few places. -/
namespace Go.Proofs.Ytfaekfdngkpkdaa
set_option linter.unusedVariables false
set_option linter.unusedSimpArgs false
open Go.RowKit
attribute [local go_sem] wext_cell wext_frozen wext_heap alloc_cell alloc_frozen alloc_heap setCell_cell objCell_cells objFrozen_cells

structure PutD where
  s : Int
  f : Int
  g : Int
  m : Int
deriving Inhabited
def PutD.cells (d : PutD) : List Value := [.int .u16 d.s, .int .u16 d.f, .int .u8 d.g, .int .u64 d.m]
def PutD.ok (d : PutD) : Prop := (0 ≤ d.s ∧ d.s ≤ 65535) ∧ (0 ≤ d.f ∧ d.f ≤ 65535) ∧ (0 ≤ d.g ∧ d.g ≤ 255) ∧ (0 ≤ d.m ∧ d.m ≤ 18446744073709551615)
def atS (d : PutD) : Int := d.s / 8 % 16 * 4096 + 8 * (d.s % 8)
def atB (d : PutD) : Int := d.f % 16 * 4096 + d.g % 8 + (if 24 ≤ d.g % 32 then 128 else 0)
def atX (d : PutD) : Int := bits BinOp.xor IntKind.u64 (atB d) d.m
theorem atS_le {d : PutD} (h : d.ok) : 0 ≤ atS d ∧ atS d ≤ 61496 ∧ atS d % 8 = 0 := by
  obtain ⟨⟨a, b⟩, -⟩ := h; unfold atS; omega
theorem atB_le {d : PutD} (h : d.ok) : 0 ≤ atB d ∧ atB d ≤ 65535 := by
  obtain ⟨-, ⟨a, b⟩, ⟨c, e⟩, -⟩ := h; unfold atB; split <;> omega
theorem atX_le {d : PutD} (h : d.ok) : 0 ≤ atX d ∧ atX d ≤ 18446744073709551615 := by
  have hb := atB_le h
  obtain ⟨-, -, -, hm0, hm1⟩ := h
  unfold atX
  rw [u64_xor _ _ hb.1 (by omega) hm0 (by omega)]
  have : (atB d).toNat ^^^ d.m.toNat < 2 ^ 64 := Nat.xor_lt_two_pow (by omega) (by omega)
  omega
def builtM (ds : List PutD) : Int → Int := ds.foldl (fun M d => setIf 16 M (atS d) (atX d)) (fun _ => 0)
theorem builtM_take (ds : List PutD) (j : Nat) (h : j < ds.length) : builtM (ds.take (j + 1)) = setIf 16 (builtM (ds.take j)) (atS (ds.getD j default)) (atX (ds.getD j default)) := by
  have e : ds.take (j + 1) = ds.take j ++ [ds.getD j default] := by rw [List.take_add_one, List.getElem?_eq_getElem h]; simp [List.getD, h]
  rw [e, builtM, List.foldl_append]; rfl

theorem at8_c (d : PutD) (w : World) (h : d.ok) :
    Calls Try.prog 58 #[.agg #[.int .u16 d.s, .int .u16 d.f, .int .u8 d.g, .int .u64 d.m]] w fun e w' => e = .returned (.tuple #[.int .u64 (atS d), .int .u64 (atX d)]) ∧ Ext w w' := by
  obtain ⟨s, f, g, m⟩ := d
  have hB := atB_le h
  obtain ⟨⟨s0, s1⟩, ⟨f0, f1⟩, ⟨g0, g1⟩, m0, m1⟩ := h
  dsimp only at s0 s1
  have eq1 : IntKind.u64.wrap (IntKind.u16.wrap (s.tdiv 8)) = s / 8 := by rw [Int.tdiv_eq_ediv_of_nonneg s0, IntKind.wrap_u16, IntKind.wrap_u64]; omega
  have eq2 : (s / 8).tmod 16 = s / 8 % 16 := Int.tmod_eq_emod_of_nonneg (by omega)
  have eq3 : IntKind.u64.wrap (s / 8 % 16 * 4096) = s / 8 % 16 * 4096 := by rw [IntKind.wrap_u64]; omega
  have eq4 : IntKind.u64.wrap (s / 8 % 16 * 4096 + 8 * (s % 8)) = s / 8 % 16 * 4096 + 8 * (s % 8) := by rw [IntKind.wrap_u64]; omega
  unfold atX atS
  unfold atB at *
  dsimp only at *
  by_cases h24 : 24 ≤ g % 32
  · rw [if_pos h24] at *
    obtain ⟨hB0, hB1⟩ := hB
    go_enter Try.func58, Try.ntmps58
    go_upto_region 6 with (fail)
    refine region_ext (by kernel_rfl) (by kernel_rfl) ?_; (repeat (go_big_quiet_step (fail))); refine wpQuiet_nil ?_; intro w1 hb; have ⟨hc, hf, hh, hs⟩ := hb.facts; try simp only [World.size_alloc, World.size_setCell, World.size_drew] at hs
    go_wp2
    go_ret2
    exact ⟨rfl, (by repeat (first | exact Ext.refl _ | assumption | refine Ext.alloc ?_ _ | refine Ext.drew ?_ | refine Ext.setCell ?_ (by first | (simp; done) | (dsimp only; omega)) _ | refine Ext.trans ?_ (by assumption)))⟩
  · rw [if_neg h24] at *
    obtain ⟨hB0, hB1⟩ := hB
    go_enter Try.func58, Try.ntmps58
    go_upto_region 6 with (fail)
    refine region_ext (by kernel_rfl) (by kernel_rfl) ?_; (repeat (go_big_quiet_step (fail))); refine wpQuiet_nil ?_; intro w1 hb; have ⟨hc, hf, hh, hs⟩ := hb.facts; try simp only [World.size_alloc, World.size_setCell, World.size_drew] at hs
    go_wp2
    go_ret2
    exact ⟨by simp, (by repeat (first | exact Ext.refl _ | assumption | refine Ext.alloc ?_ _ | refine Ext.drew ?_ | refine Ext.setCell ?_ (by first | (simp; done) | (dsimp only; omega)) _ | refine Ext.trans ?_ (by assumption)))⟩
def nearI (n : Int) : Int := n % 8 * 549755813888 + n / 8 % 8 * 1073741824 + n / 64 % 8 * 2097152 + n / 512 % 8 * 4096 + n / 4096 % 4096
theorem nearI_le {n : Int} (h : 0 ≤ n) : 0 ≤ nearI n ∧ nearI n ≤ 4398046511103 := by unfold nearI; omega
theorem near_c (n : Int) (w : World) (h0 : 0 ≤ n) (h1 : n ≤ 4294967295) : Calls Try.prog 26 #[.int .u32 n] w fun e w' => e = .returned (.int .u64 (nearI n)) ∧ Ext w w' := by
  go_enter Try.func26, Try.ntmps26
  go_wp2
  go_ret
  exact ⟨rfl, (by repeat (first | exact Ext.refl _ | assumption | refine Ext.alloc ?_ _ | refine Ext.drew ?_ | refine Ext.setCell ?_ (by first | (simp; done) | (dsimp only; omega)) _ | refine Ext.trans ?_ (by assumption)))⟩
def putD : Dsc := .row [.int .u16, .int .u16, .int .u8, .int .u64]
theorem puts_of {W : World} {v : Value} (h : (Dsc.slice putD).Is W [v]) : ∃ ds, ListAt W v 4 PutD.cells PutD.ok ds :=
  list_of (d := putD) rfl (by decide) (fun _ => rfl) (fun cs hl hI => by
    match cs, hl with
    | [a, b, c, d], _ =>
      simp only [putD, Dsc.Is, Dsc.IsAll, Dsc.size, Dsc.sizes, List.take_succ_cons, List.take_zero, List.drop_succ_cons, List.drop_zero, List.cons.injEq, and_true] at hI
      obtain ⟨⟨n0, rfl, w0⟩, ⟨n1, rfl, w1⟩, ⟨n2, rfl, w2⟩, ⟨n3, rfl, w3⟩⟩ := hI
      exact ⟨⟨n0, n1, n2, n3⟩, ⟨bounds_u16 w0, bounds_u16 w1, bounds_u8 w2, bounds_u64 w3⟩, rfl⟩) h
end Go.Proofs.Ytfaekfdngkpkdaa
/- Caches of tables behind walks to some addresses, plainly. -/
namespace Go.Proofs.Ytfaekfdngkpkdaa
set_option linter.unusedVariables false
set_option linter.unusedSimpArgs false
open Go.RowKit
attribute [local go_sem] wext_cell wext_frozen wext_heap alloc_cell alloc_frozen alloc_heap setCell_cell objCell_cells objFrozen_cells

def LineOk (M : Int → Int) (l : Int) (y : Key × Line) : Prop := y.1.p = 1 ∧ y.1.l = l ∧ ∀ b, tagP b l = y.1.t → Leads M b l y.2.f y.2.rt
def InvC (M : Int → Int) (C : Int → Lines) : Prop := ∀ l, 2 ≤ l → l ≤ 4 → ∀ y ∈ C l, LineOk M l y
/-- Where a walk begins. -/
def startF (d : Option (Int × Line)) : Int × Int × Rt := match d with | some y => (y.1 - 1, y.2.f, y.2.rt) | none => (4, 0, allRt)
theorem line_ok {M : Int → Int} {a l t : Int} {rt : Rt} (h : Good M a l t rt) : LineOk M l (kP 1 l a, lineP t rt) := ⟨rfl, rfl, fun b hb => h b hb⟩
theorem deep_good {M : Int → Int} {C : Int → Lines} {a l : Int} {x : Line} (h : InvC M C) (hd : deepF C 1 a = some (l, x)) : 2 ≤ l ∧ l ≤ 4 ∧ Good M a l x.f x.rt := by
  obtain ⟨l0, l1, hm, -⟩ := deepF_some hd
  refine ⟨l0, l1, fun b hb => (h l l0 l1 _ hm).2.2 b hb⟩
theorem start_good {M : Int → Int} {C : Int → Lines} {a : Int} (h : InvC M C) : ∃ n : Nat, 1 ≤ n ∧ n ≤ 4 ∧ (startF (deepF C 1 a)).1 = n ∧ Good M a ((n : Int) + 1) (startF (deepF C 1 a)).2.1 (startF (deepF C 1 a)).2.2 := by
  cases hd : deepF C 1 a with
  | none => exact ⟨4, by omega, by omega, rfl, good_top M a⟩
  | some y =>
    obtain ⟨l, x⟩ := y
    obtain ⟨l0, l1, hg⟩ := deep_good h hd
    refine ⟨(l - 1).toNat, by omega, by omega, ?_, ?_⟩
    · show l - 1 = _; omega
    · have : (((l - 1).toNat : Nat) : Int) + 1 = l := by omega
      rw [this]; exact hg
def warmStep (M : Int → Int) (r : Nat) (C : Int → Lines) (i : Nat) (n : Int) : Int → Lines :=
  fillF 1 (nearI n) (pkF n i 0) r (walkF M 16 true (nearI n) (startF (deepF C 1 (nearI n))).1.toNat (startF (deepF C 1 (nearI n))).2.1 (startF (deepF C 1 (nearI n))).2.2).1 (startF (deepF C 1 (nearI n))).2.2 C
def warmP (M : Int → Int) (r : Nat) (ns : List Int) : Nat → Int → Lines
  | 0 => fun _ => []
  | i + 1 => warmStep M r (warmP M r ns i) i (ns.getD i 0)
theorem warm_all {M : Int → Int} (hM : ∀ s, 0 ≤ M s ∧ M s ≤ 18446744073709551615) {r : Nat} {ns : List Int} {k : Nat} {Q : Int → Key × Line → Prop} (hQ : ∀ l y, Q l y → LineOk M l y)
    (hN : ∀ i, i < k → ∀ l t rt, 2 ≤ l → l ≤ 4 → Good M (nearI (ns.getD i 0)) l t rt → Q l (kP 1 l (nearI (ns.getD i 0)), lineP t rt)) : ∀ i, i ≤ k → ∀ l, 2 ≤ l → l ≤ 4 → ∀ y ∈ warmP M r ns i l, Q l y
  | 0, _, l, _, _, y, hy => by cases hy
  | i + 1, hi, l, l0, l1, y, hy => by
    have ih := warm_all hM (r := r) hQ hN i (by omega)
    obtain ⟨n, n1, n4, hn, hg⟩ := start_good (a := nearI (ns.getD i 0)) (C := warmP M r ns i) (M := M) (fun l l0 l1 y hy => hQ l y (ih l l0 l1 y hy))
    refine fill_all hM (pk := pkF (ns.getD i 0) i 0) (r := r) (fun l t rt l0 l1 _ _ hgd => hN i (by omega) l t rt l0 l1 hgd) n _ _ _ n4 hg ih l l0 l1 y ?_
    have : n = (startF (deepF (warmP M r ns i) 1 (nearI (ns.getD i 0)))).1.toNat := by rw [hn]; simp
    rw [this]
    exact hy
theorem warm_inv {M : Int → Int} (hM : ∀ s, 0 ≤ M s ∧ M s ≤ 18446744073709551615) {r : Nat} {ns : List Int} (i : Nat) : InvC M (warmP M r ns i) :=
  warm_all hM (k := i) (Q := LineOk M) (fun _ _ h => h) (fun _ _ l t rt _ _ h => line_ok h) i (Nat.le_refl _)
theorem warm_from {M : Int → Int} (hM : ∀ s, 0 ≤ M s ∧ M s ≤ 18446744073709551615) {r : Nat} {ns : List Int} (i : Nat) : ∀ l, 2 ≤ l → l ≤ 4 → ∀ y ∈ warmP M r ns i l, LineOk M l y ∧ ∃ j, j < i ∧ y.1.t = tagP (nearI (ns.getD j 0)) l :=
  warm_all hM (k := i) (Q := fun l y => LineOk M l y ∧ ∃ j, j < i ∧ y.1.t = tagP (nearI (ns.getD j 0)) l) (fun _ _ h => h.1) (fun j hj l t rt _ _ h => ⟨line_ok h, j, hj, rfl⟩) i (Nat.le_refl _)
/-- Lines of one PCID are not found for another one. -/
theorem deep_other {M : Int → Int} {C : Int → Lines} {p a : Int} (h : InvC M C) (hp : p ≠ 1) : deepF C p a = none :=
  deepF_none.2 fun l l0 l1 => by
    cases hh : hasK (kP p l a) (C l) with
    | false => rfl
    | true =>
      have := (h l l0 l1 _ (getLine_mem hh)).1
      exact absurd this hp
/-- From where Deepest says, a walk ends as a whole one does. -/
theorem deep_walk {M : Int → Int} {C : Int → Lines} {a l : Int} {x : Line} (h : InvC M C) (hd : deepF C 1 a = some (l, x)) : 2 ≤ l ∧ l ≤ 4 ∧ 0 ≤ x.f ∧ x.f ≤ 18446744073709551615 ∧
    ∃ pre : List Stp, (pre.length : Int) = 5 - l ∧ walkF M 16 true a 4 0 allRt = (pre ++ (walkF M 16 true a (l - 1).toNat x.f x.rt).1, (walkF M 16 true a (l - 1).toNat x.f x.rt).2) := by
  obtain ⟨l0, l1, hg⟩ := deep_good h hd
  have := hg a rfl
  exact ⟨l0, l1, this.wide.1, this.wide.2, this.way⟩
end Go.Proofs.Ytfaekfdngkpkdaa
/- The laws' helper: a memory with some words written. -/
namespace Go.Proofs.Ytfaekfdngkpkdaa
set_option linter.unusedVariables false
set_option linter.unusedSimpArgs false
open Go.RowKit
attribute [local go_sem] wext_cell wext_frozen wext_heap alloc_cell alloc_frozen alloc_heap setCell_cell objCell_cells objFrozen_cells

def EndBuilt (ds : List PutD) (w : World) (e : Ending) (w' : World) : Prop :=
  ∃ mb F, e = .returned (.pointer (some ⟨mb, 0, none⟩)) ∧ MemAt w' mb F 16 (builtM (ds.take 100)) [] ∧ Ext w w' ∧ (∀ x ∈ F, w.heap.size ≤ x) ∧ w.heap.size ≤ mb
theorem MemAt.mem {w : World} {mb : Nat} {F : List Nat} {B : Int} {M : Int → Int} {T : List Int} (h : MemAt w mb F B M T) : mb ∈ F := by
  obtain ⟨pb, tv, es, clock, PL, p1, p2, p3, p4, p5, p6, p7, p8, p9, rfl, p10⟩ := h
  simp
set_option maxHeartbeats 2000000 in
set_option maxRecDepth 20000 in
theorem built_c (v : Value) (ds : List PutD) (w : World) (h : ListAt w v 4 PutD.cells PutD.ok ds) :
    Calls Try.prog 14 #[v] w (EndBuilt ds w) := by
  have HD := Lib.hid h
  obtain ⟨a, cap, rfl, hn, hm, hok, -⟩ := h
  unfold maxLen at hm
  have HK := Lib.hid hok
  have HN := Lib.hid (fun w => memNew_c 16 w ⟨by omega, by omega⟩)
  generalize hEnd : EndBuilt ds w = E
  have HEND := Aside.mk hEnd
  clear hEnd hok
  go_enter Try.func14, Try.ntmps14
  go_upto_region 2 with (first | (go_at_call 56; refine (HN.out _).mono ?_; rintro e w1 ⟨mb, F, rfl, hC, hE, hF⟩))
  have HC := Lib.hid hC
  have HE := Lib.hid hE
  have HF := Lib.hid hF
  clear hC hE hF
  go_wp2
  go_loopw [4] (fun i wr => ∃ (j : Nat) (F' : List Nat), j ≤ ds.length ∧ j ≤ 100 ∧ i = .int .i64 j ∧ Hid (MemAt wr mb F' 16 (builtM (ds.take j)) [] ∧ (∀ x ∈ F', w.heap.size ≤ x) ∧ Ext w wr)) (fun i _ => ds.length - (intOf i).toNat)
  case atStart => exact ⟨0, F, by omega, by omega, rfl, Lib.hid ⟨HC.out, HF.out, HE.out⟩⟩
  case round =>
    obtain ⟨j, F', hj, hj2, rfl, hR⟩ := hrel
    by_cases hlt : j < ds.length
    · by_cases h120 : j < 100
      · obtain ⟨a', cap', he, -, -, -, hcl⟩ := HD.out
        obtain ⟨g, o, e1, e2, e3⟩ := hcl j hlt
        have he' : a = a' := by injection he
        have hstep := builtM_take ds j hlt
        have hdok := HK.out j hlt
        generalize ds.getD j default = d at e3 hstep hdok
        subst he'
        subst e1
        have hsw := hR.out.2.2.size
        have e3w : ∀ i u, d.cells[i]? = some u → wr.cell? ⟨g, o + j * 4 + i, none⟩ = some u := fun i u hu => hR.out.2.2.someCell (e3 i u hu)
        have d0 : wr.cell? ⟨g, o + j * 4, none⟩ = some (.int .u16 d.s) := e3w 0 _ rfl
        have d1 := e3w 1 _ rfl
        have d2 := e3w 2 _ rfl
        have d3 := e3w 3 _ rfl
        have hgr : g < wr.heap.size := by omega
        have HS := Aside.mk hstep
        have HAT := Lib.hid (fun w => at8_c d w hdok)
        have hs := atS_le hdok
        have hx := atX_le hdok
        have HST := Lib.hid (fun w' (k : Ext wr w') => store_c mb F' 16 (builtM (ds.take j)) [] (atS d) (atX d) w' (hR.out.1.ext k) (by omega) (by omega) hx.1 hx.2)
        clear he hcl e3 e3w hstep hs hx
        generalize atS d = s at *
        generalize atX d = x at *
        go_wp2_with (first | (go_at_call 58; refine (HAT.out _).mono ?_; rintro e w2 ⟨rfl, hb2⟩) | (go_at_call 59; refine (HST.out _ (by repeat (first | exact Ext.refl _ | assumption | refine Ext.alloc ?_ _ | refine Ext.drew ?_ | refine Ext.setCell ?_ (by first | (simp; done) | (dsimp only; omega)) _ | refine Ext.trans ?_ (by assumption)))).mono ?_; rintro e w3 ⟨rfl, F3, q1, q2, q3⟩))
        have hFw := hR.out.2.1
        refine ⟨⟨j + 1, F3, by omega, by omega, by go_num, Lib.hid ⟨?_, ?_, ?_⟩⟩, by simp [intOf]; omega⟩
        · rw [HS.out]; exact q1
        · intro y hy
          rcases q3 y hy with k | k
          · exact hFw y k
          · have := hb2.size; omega
        · exact Keeps.to_ext (hR.out.2.2.trans (by repeat (first | exact Ext.refl _ | assumption | refine Ext.alloc ?_ _ | refine Ext.drew ?_ | refine Ext.setCell ?_ (by first | (simp; done) | (dsimp only; omega)) _ | refine Ext.trans ?_ (by assumption)))) q2 hFw
      · obtain rfl : j = 100 := by omega
        go_wp2
        (try go_ret)
        rw [← HEND.out]
        exact ⟨mb, F', rfl, hR.out.1, hR.out.2.2, hR.out.2.1, hR.out.2.1 _ hR.out.1.mem⟩
    · obtain rfl : j = ds.length := by omega
      go_wp2
      (try go_ret)
      rw [← HEND.out]
      refine ⟨mb, F', rfl, ?_, hR.out.2.2, hR.out.2.1, hR.out.2.1 _ hR.out.1.mem⟩
      have := hR.out.1
      rw [List.take_of_length_le (Nat.le_refl _)] at this
      rw [List.take_of_length_le hj2]
      exact this
end Go.Proofs.Ytfaekfdngkpkdaa
/- The laws' helper: a memory with some words written. -/
namespace Go.Proofs.Ytfaekfdngkpkdaa
set_option linter.unusedVariables false
set_option linter.unusedSimpArgs false
open Go.RowKit
attribute [local go_sem] wext_cell wext_frozen wext_heap alloc_cell alloc_frozen alloc_heap setCell_cell objCell_cells objFrozen_cells

set_option maxHeartbeats 2000000 in
set_option maxRecDepth 20000 in
theorem built11_c (v : Value) (ds : List PutD) (w : World) (h : ListAt w v 4 PutD.cells PutD.ok ds) :
    Calls Try.prog 24 #[v] w (EndBuilt ds w) := by
  have HD := Lib.hid h
  obtain ⟨a, cap, rfl, hn, hm, hok, -⟩ := h
  unfold maxLen at hm
  have HK := Lib.hid hok
  have HN := Lib.hid (fun w => memNew_c 16 w ⟨by omega, by omega⟩)
  generalize hEnd : EndBuilt ds w = E
  have HEND := Aside.mk hEnd
  clear hEnd hok
  go_enter Try.func24, Try.ntmps24
  go_upto_region 2 with (first | (go_at_call 56; refine (HN.out _).mono ?_; rintro e w1 ⟨mb, F, rfl, hC, hE, hF⟩))
  have HC := Lib.hid hC
  have HE := Lib.hid hE
  have HF := Lib.hid hF
  clear hC hE hF
  go_wp2
  go_loopw [4] (fun i wr => ∃ (j : Nat) (F' : List Nat), j ≤ ds.length ∧ j ≤ 100 ∧ i = .int .i64 j ∧ Hid (MemAt wr mb F' 16 (builtM (ds.take j)) [] ∧ (∀ x ∈ F', w.heap.size ≤ x) ∧ Ext w wr)) (fun i _ => ds.length - (intOf i).toNat)
  case atStart => exact ⟨0, F, by omega, by omega, rfl, Lib.hid ⟨HC.out, HF.out, HE.out⟩⟩
  case round =>
    obtain ⟨j, F', hj, hj2, rfl, hR⟩ := hrel
    by_cases hlt : j < ds.length
    · by_cases h120 : j < 100
      · obtain ⟨a', cap', he, -, -, -, hcl⟩ := HD.out
        obtain ⟨g, o, e1, e2, e3⟩ := hcl j hlt
        have he' : a = a' := by injection he
        have hstep := builtM_take ds j hlt
        have hdok := HK.out j hlt
        generalize ds.getD j default = d at e3 hstep hdok
        subst he'
        subst e1
        have hsw := hR.out.2.2.size
        have e3w : ∀ i u, d.cells[i]? = some u → wr.cell? ⟨g, o + j * 4 + i, none⟩ = some u := fun i u hu => hR.out.2.2.someCell (e3 i u hu)
        have d0 : wr.cell? ⟨g, o + j * 4, none⟩ = some (.int .u16 d.s) := e3w 0 _ rfl
        have d1 := e3w 1 _ rfl
        have d2 := e3w 2 _ rfl
        have d3 := e3w 3 _ rfl
        have hgr : g < wr.heap.size := by omega
        have HS := Aside.mk hstep
        have HAT := Lib.hid (fun w => at8_c d w hdok)
        have hs := atS_le hdok
        have hx := atX_le hdok
        have HST := Lib.hid (fun w' (k : Ext wr w') => store_c mb F' 16 (builtM (ds.take j)) [] (atS d) (atX d) w' (hR.out.1.ext k) (by omega) (by omega) hx.1 hx.2)
        clear he hcl e3 e3w hstep hs hx
        generalize atS d = s at *
        generalize atX d = x at *
        go_wp2_with (first | (go_at_call 58; refine (HAT.out _).mono ?_; rintro e w2 ⟨rfl, hb2⟩) | (go_at_call 59; refine (HST.out _ (by repeat (first | exact Ext.refl _ | assumption | refine Ext.alloc ?_ _ | refine Ext.drew ?_ | refine Ext.setCell ?_ (by first | (simp; done) | (dsimp only; omega)) _ | refine Ext.trans ?_ (by assumption)))).mono ?_; rintro e w3 ⟨rfl, F3, q1, q2, q3⟩))
        have hFw := hR.out.2.1
        refine ⟨⟨j + 1, F3, by omega, by omega, by go_num, Lib.hid ⟨?_, ?_, ?_⟩⟩, by simp [intOf]; omega⟩
        · rw [HS.out]; exact q1
        · intro y hy
          rcases q3 y hy with k | k
          · exact hFw y k
          · have := hb2.size; omega
        · exact Keeps.to_ext (hR.out.2.2.trans (by repeat (first | exact Ext.refl _ | assumption | refine Ext.alloc ?_ _ | refine Ext.drew ?_ | refine Ext.setCell ?_ (by first | (simp; done) | (dsimp only; omega)) _ | refine Ext.trans ?_ (by assumption)))) q2 hFw
      · obtain rfl : j = 100 := by omega
        go_wp2
        (try go_ret)
        rw [← HEND.out]
        exact ⟨mb, F', rfl, hR.out.1, hR.out.2.2, hR.out.2.1, hR.out.2.1 _ hR.out.1.mem⟩
    · obtain rfl : j = ds.length := by omega
      go_wp2
      (try go_ret)
      rw [← HEND.out]
      refine ⟨mb, F', rfl, ?_, hR.out.2.2, hR.out.2.1, hR.out.2.1 _ hR.out.1.mem⟩
      have := hR.out.1
      rw [List.take_of_length_le (Nat.le_refl _)] at this
      rw [List.take_of_length_le hj2]
      exact this
end Go.Proofs.Ytfaekfdngkpkdaa
/- The walk laws' helpers: the example's memory; awake. -/
namespace Go.Proofs.Ytfaekfdngkpkdaa
set_option linter.unusedVariables false
set_option linter.unusedSimpArgs false
open Go.RowKit
attribute [local go_sem] wext_cell wext_frozen wext_heap alloc_cell alloc_frozen alloc_heap setCell_cell objCell_cells objFrozen_cells

theorem built_m (v : Value) (ds : List PutD) (w : World) (h : ListAt w v 4 PutD.cells PutD.ok ds) :
    Calls Try.prog 14 #[v] w fun e w' => ∃ mb, e = .returned (.pointer (some ⟨mb, 0, none⟩)) ∧ MemIn w.heap.size w' mb 16 (builtM (ds.take 100)) [] ∧ Ext w w' :=
  (built_c v ds w h).mono fun e w' h => by
    obtain ⟨mb, F, q1, q2, q3, q4, q5⟩ := h
    exact ⟨mb, q1, ⟨F, q2, q4⟩, q3⟩
def tinyL : List PutD := [⟨0, 1, 7, 0⟩, ⟨8, 2, 7, 0⟩, ⟨16, 3, 7, 0⟩, ⟨24, 4, 7, 0⟩]
theorem tiny_at {W : World} {g : Nat} {e : TypeId} (h : W.heap[g]? = some (.cells #[.int .u16 0, .int .u16 1, .int .u8 7, .int .u64 0, .int .u16 8, .int .u16 2, .int .u8 7, .int .u64 0, .int .u16 16, .int .u16 3, .int .u8 7, .int .u64 0, .int .u16 24, .int .u16 4, .int .u8 7, .int .u64 0] e (0, 0))) :
    ListAt W (.slice (some ⟨g, 0, none⟩) 4 4) 4 PutD.cells PutD.ok tinyL := by
  refine ⟨some ⟨g, 0, none⟩, 4, rfl, by simp [tinyL], by simp [maxLen], fun i hi => ?_, fun i hi => ⟨g, 0, rfl, heap_lt h, fun j u hu => ?_⟩⟩
  · have : i = 0 ∨ i = 1 ∨ i = 2 ∨ i = 3 := by simp [tinyL] at hi; omega
    rcases this with rfl | rfl | rfl | rfl <;> (simp only [tinyL, List.getD_cons_zero, List.getD_cons_succ, PutD.ok]; omega)
  · have hj : j < 4 := by have := (List.getElem?_eq_some_iff.1 hu).1; simpa [PutD.cells] using this
    have hi' : i = 0 ∨ i = 1 ∨ i = 2 ∨ i = 3 := by simp [tinyL] at hi; omega
    have hj' : j = 0 ∨ j = 1 ∨ j = 2 ∨ j = 3 := by omega
    rw [heap_cell h]
    rcases hi' with rfl | rfl | rfl | rfl <;> rcases hj' with rfl | rfl | rfl | rfl <;> exact hu
theorem tiny_c (w : World) : Calls Try.prog 57 #[] w fun e w' => ∃ v, e = .returned v ∧ ListAt w' v 4 PutD.cells PutD.ok tinyL ∧ Ext w w' := by
  generalize hE : (fun (e : Ending) (w' : World) => ∃ v, e = .returned v ∧ ListAt w' v 4 PutD.cells PutD.ok tinyL ∧ Ext w w') = E
  have HE := Lib.hid hE
  clear hE
  go_enter Try.func57, Try.ntmps57
  go_wp2
  all_goals
    (try go_ret)
    rw [← HE.out]
    exact ⟨_, rfl, tiny_at (alloc_same ..), (by repeat (first | exact Ext.refl _ | assumption | refine Ext.alloc ?_ _ | refine Ext.drew ?_ | refine Ext.setCell ?_ (by first | (simp; done) | (dsimp only; omega)) _ | refine Ext.trans ?_ (by assumption)))⟩
theorem ex8_1 : walkF (fun _ => 0) 16 true 0 4 4096 allRt = ([((4 : Int), (4096 : Int), (0 : Int))], 1, noRt, 0, 0) := by decide +kernel
theorem ex8_2 : (walkF (builtM (tinyL.take 100)) 16 true 0 4 0 allRt).1.length = 4 ∧ (walkF (builtM (tinyL.take 100)) 16 true 0 4 0 allRt).2 = (0, allRt, 1, 16384) := by decide +kernel
set_option maxHeartbeats 1000000 in
set_option maxRecDepth 20000 in
theorem awake08_c (w : World) : Calls Try.prog 13 #[] w fun e w' => e = .returned (.bool true) ∧ Ext w w' := by
  have HN := Lib.hid (fun w => new_m 16 w ⟨by omega, by omega⟩)
  have t1 : ∀ w, Calls Try.prog 28 #[.int .u64 4096] w fun e w' => e = .returned (.agg #[.int .i64 4, .int .u64 4096, .bool true, .bool true, .bool true]) ∧ Ext w w' := fun w => wTop_c 4096 w (by omega) (by omega)
  have t2 : ∀ w, Calls Try.prog 28 #[.int .u64 0] w fun e w' => e = .returned (.agg #[.int .i64 4, .int .u64 0, .bool true, .bool true, .bool true]) ∧ Ext w w' := fun w => wTop_c 0 w (by omega) (by omega)
  have T1 := Lib.hid t1
  have T2 := Lib.hid t2
  clear t1 t2
  go_enter Try.func13, Try.ntmps13
  go_upto_region 4 with (first | (go_at_call 56; refine (HN.out _).mono ?_; rintro e w1 ⟨mb, rfl, hM, hE⟩))
  have M1 := Lib.hid hM
  have E1 := Lib.hid hE
  clear hM hE
  go_upto_region 5 with (first | (go_at_call 28; refine (T1.out _).mono ?_; rintro e w2 ⟨rfl, hb2⟩) | (go_at_call 16; refine (from_m w.heap.size mb 16 (fun _ => 0) [] 4 4096 allRt 0 true _ (M1.out.ext (by repeat (first | exact Ext.refl _ | assumption | refine Ext.alloc ?_ _ | refine Ext.drew ?_ | refine Ext.setCell ?_ (by first | (simp; done) | (dsimp only; omega)) _ | refine Ext.trans ?_ (by assumption)))) (E1.out.trans (by repeat (first | exact Ext.refl _ | assumption | refine Ext.alloc ?_ _ | refine Ext.drew ?_ | refine Ext.setCell ?_ (by first | (simp; done) | (dsimp only; omega)) _ | refine Ext.trans ?_ (by assumption)))).size (by omega) (by omega) (by omega) (by omega) (by omega) (by simp)).mono ?_; rw [ex8_1]; rintro e w3 ⟨sa, sc, rfl, hS, hM3, hP3⟩))
  refine wp_gen ?_; intro U hU
  have hP := Ext.trans (E1.out.trans (Ext.trans (by repeat (first | exact Ext.refl _ | assumption | refine Ext.alloc ?_ _ | refine Ext.drew ?_ | refine Ext.setCell ?_ (by first | (simp; done) | (dsimp only; omega)) _ | refine Ext.trans ?_ (by assumption))) hb2)) (Ext.refl _)
  have hEW : Ext w U := by rw [hU]; exact (Sep.to_ext ((Sep.of_ext (hP) (Nat.le_refl _)).trans hP3)).alloc _
  have hMU : MemIn w.heap.size U mb 16 (fun _ => 0) [4096] := by rw [hU]; exact hM3.ext ((Ext.refl _).alloc _)
  have hPU : PathAt U w3.heap.size sa sc ([((4 : Int), (4096 : Int), (0 : Int))], 1, noRt, 0, 0) := by rw [hU]; exact ⟨alloc_same .., hS.ext ((Ext.refl _).alloc _)⟩
  obtain ⟨pb, hpb⟩ : ∃ pb, w3.heap.size = pb := ⟨_, rfl⟩
  rw [hpb] at hPU ⊢
  have EU := Lib.hid hEW
  have MU := Lib.hid hMU
  have PU := Lib.hid hPU
  clear hU hP hEW hMU hPU hpb hS hM3 hP3 hb2
  go_upto_region 6 with (first | (go_at_call 57; refine (tiny_c _).mono ?_; rintro e w4 ⟨tv, rfl, hTl, hb4⟩) | (go_at_call 14; refine (built_m tv tinyL _ hTl).mono ?_; rintro e w5 ⟨kb, rfl, hK, hb5⟩))
  have K5 := Lib.hid hK
  have E5 : Hid (Ext U w5) := Lib.hid (Ext.trans (by repeat (first | exact Ext.refl _ | assumption | refine Ext.alloc ?_ _ | refine Ext.drew ?_ | refine Ext.setCell ?_ (by first | (simp; done) | (dsimp only; omega)) _ | refine Ext.trans ?_ (by assumption))) hb5)
  have hz4 : Hid (U.heap.size ≤ w4.heap.size) := Lib.hid (Ext.size (Ext.trans (by repeat (first | exact Ext.refl _ | assumption | refine Ext.alloc ?_ _ | refine Ext.drew ?_ | refine Ext.setCell ?_ (by first | (simp; done) | (dsimp only; omega)) _ | refine Ext.trans ?_ (by assumption))) hb4))
  clear hK hb5 hb4 hTl
  go_upto_region 7 with (first | (go_at_call 28; refine (T2.out _).mono ?_; rintro e w6 ⟨rfl, hb6⟩) | (go_at_call 16; refine (from_m U.heap.size kb 16 (builtM (tinyL.take 100)) [] 4 0 allRt 0 true _ ((K5.out.mono hz4.out).ext (by repeat (first | exact Ext.refl _ | assumption | refine Ext.alloc ?_ _ | refine Ext.drew ?_ | refine Ext.setCell ?_ (by first | (simp; done) | (dsimp only; omega)) _ | refine Ext.trans ?_ (by assumption)))) (Nat.le_trans E5.out.size (Ext.size (Ext.trans (by repeat (first | exact Ext.refl _ | assumption | refine Ext.alloc ?_ _ | refine Ext.drew ?_ | refine Ext.setCell ?_ (by first | (simp; done) | (dsimp only; omega)) _ | refine Ext.trans ?_ (by assumption))) hb6))) (by omega) (by omega) (by omega) (by omega) (by omega) (by simp)).mono ?_; rintro e w7 ⟨sa7, sc7, rfl, hS7, hM7, hP7⟩))
  refine wp_gen ?_; intro U2 hU2
  have hs6 : Ext w5 w6 := Ext.trans (by repeat (first | exact Ext.refl _ | assumption | refine Ext.alloc ?_ _ | refine Ext.drew ?_ | refine Ext.setCell ?_ (by first | (simp; done) | (dsimp only; omega)) _ | refine Ext.trans ?_ (by assumption))) hb6
  have hSep : Sep U.heap.size U U2 := by rw [hU2]; exact ((Sep.of_ext (E5.out.trans hs6) (Nat.le_refl _)).trans hP7).ext ((Ext.refl _).alloc _) (Nat.le_refl _)
  obtain ⟨q7, hq7⟩ : ∃ q7, walkF (builtM (tinyL.take 100)) 16 true 0 4 0 allRt = q7 := ⟨_, rfl⟩
  rw [hq7] at hS7
  have hQ : PathAt U2 w7.heap.size sa7 sc7 q7 := by rw [hU2, hq7]; exact ⟨alloc_same .., hS7.ext ((Ext.refl _).alloc _)⟩
  have hP := PU.out.sep hSep
  have hM2 := MU.out.sep hSep (Nat.le_refl _)
  have hE2 : Ext w U2 := EU.out.trans hSep.to_ext
  have ⟨hl4, hr4⟩ := ex8_2
  rw [hq7] at hl4 hr4
  obtain ⟨ql, qr⟩ := q7
  dsimp only at hl4 hr4
  subst hr4
  obtain ⟨⟨c0, c1, -⟩, hpl⟩ := hP.facts
  obtain ⟨⟨k0, k1, -, -, -, k5, k6⟩, hql⟩ := hQ.facts
  obtain ⟨g, rfl, hg, -, s1, -⟩ := hP.2.step (i := 0) (by simp) rfl
  have HM2 := Lib.hid hM2
  have HE2 := Lib.hid hE2
  rw [hl4] at k0
  dsimp only at c1 k1 k5 k6
  clear hU2 hs6 hSep hQ hP hM2 hE2 hS7 hM7 hP7 hb6 hq7
  go_wp2_with (first | (go_at_call 51; refine (trace_m w.heap.size mb 16 _ [4096] _ (HM2.out.ext (by repeat (first | exact Ext.refl _ | assumption | refine Ext.alloc ?_ _ | refine Ext.drew ?_ | refine Ext.setCell ?_ (by first | (simp; done) | (dsimp only; omega)) _ | refine Ext.trans ?_ (by assumption)))) (by simp)).mono ?_; rintro e w8 ⟨v8, rfl, hS8, hE8, -⟩; obtain ⟨a8, c8, rfl, -, -⟩ := hS8.form; have ⟨hc, hf, hh, hs⟩ := hE8.facts))
  go_ret
  exact ⟨rfl, HE2.out.trans (by repeat (first | exact Ext.refl _ | assumption | refine Ext.alloc ?_ _ | refine Ext.drew ?_ | refine Ext.setCell ?_ (by first | (simp; done) | (dsimp only; omega)) _ | refine Ext.trans ?_ (by assumption)))⟩
end Go.Proofs.Ytfaekfdngkpkdaa
/- Plans whose loud operations may be guarded. -/
namespace Go.Proofs.Ytfaekfdngkpkdaa
open Go

def segG (l : List Oper) : Seg → Bool
  | .b is => calmB l is
  | .q is => calmB l is
  | .l i k => decide (i < l.length) && decide (2 ≤ k)
section
variable {P : Program} {l : List Oper} {Q : Exit → Act → World → Prop}
theorem mix_loudG {U : List (Nat × Nat)} {i k : Nat} {a : Act} {w : World} (hi : i < l.length) (hk : 2 ≤ k)
    (h : ∀ w1, Ext w w1 → wpList P l.toArray (Exit.then (fun a3 w3 => (k = 3 → Ext w w3) ∧ wpMix P l.toArray Q U a3 w3) (fun _ _ _ => False)) (pickL l [i]) a w1) : wpMix P l.toArray Q ((i, k) :: U) a w := by
  refine ⟨_, getD_some hi, fun hw => ⟨fun _ w1 hx => ?_, fun h2 => absurd h2 (by omega)⟩, fun hw => ?_⟩
  · have := h w1 hx
    simp only [pickL, List.map_cons, List.map_nil, wpList] at this
    rw [if_pos hw] at this
    rcases this with this | ⟨_, _, _, hf⟩
    · exact upon_mono (fun _ _ h' => h') (fun e _ _ h' => by cases e <;> first | exact h' | exact h'.elim) (upon_normal this)
    · exact hf.elim
  · have := h w (Ext.refl w)
    simp only [pickL, List.map_cons, List.map_nil, wpList] at this
    rw [if_neg (by rw [hw]; simp)] at this
    exact this.2
theorem plan_mixG : ∀ (t : List Seg) (a : Act) (w : World), t.all (segG l) = true → wpPlan P l Q t a w → wpMix P l.toArray Q (planOf t) a w
  | [], a, w, _, h => h
  | .b is :: t, a, w, hB, h => by
    simp only [List.all_cons, segG, Bool.and_eq_true] at hB
    exact mix_calm 0 (by omega) (C := fun _ => True) (fun _ _ => trivial) is a hB.1 (wpQuiet_post (fun a1 h1 => plan_mixG t a1 w hB.2 h1) _ _ h)
  | .q is :: t, a, w, hB, h => by
    simp only [List.all_cons, segG, Bool.and_eq_true] at hB
    exact mix_calm 1 (by omega) (C := fun w' => ∃ d, w' = wext w d) (fun w' h => grown_iff.2 (h.resolve_left (by omega))) is a hB.1 (wpQuiet_post (fun a1 h1 => plan_mixG t a1 w hB.2 h1) _ _ h)
  | .l i k :: t, a, w, hB, h => by
    simp only [List.all_cons, segG, Bool.and_eq_true, decide_eq_true_eq] at hB
    exact mix_loudG hB.1.1 hB.1.2 fun w1 hx => wpList_post (fun a3 w3 h3 => ⟨h3.1, plan_mixG t a3 w3 hB.2 h3.2⟩) _ _ _ (h w1 hx)
def planG (l : List Oper) (t : List Seg) : Bool :=
  let U := planOf t
  Region.noSelect l.toArray && t.all (segG l) && decide (U.length = l.length) && ((List.range l.length).all fun j => U.any fun x => x.1 == j) &&
    (U.all fun x => oneB1 l.toArray x) && pairB (relB l.toArray ((U.map (·.1)).foldl (closeStep l.toArray) [])) U
theorem region_mixG {id : Nat} {a : Act} {w : World} (t : List Seg) (hm : P.follows .mixedOrders = true) (hB : planG l t = true)
    (h : wpPlan P l Q t a w) : (Code.region id l.toArray true).wp P Q a w := by
  simp only [planG, Bool.and_eq_true, decide_eq_true_eq] at hB
  obtain ⟨⟨⟨⟨⟨h1, h2⟩, h4⟩, h5⟩, h6⟩, h7⟩ := hB
  refine wp_region_any hm ?_
  refine mix_any (n := l.toArray.size) h1 _ (planOf t) _ a w (by simpa using h4) (by simp) ?_ ?_ (pairB_ok h7) (fun x hx => List.all_eq_true.1 h6 x hx) (plan_mixG t a w h2 h) _ (Ext.drew (Ext.refl w))
  · intro j hj
    rw [getD_replicate_false] at hj; cases hj
  · intro j hj
    rw [getD_replicate_false]
    simp only [true_iff]
    have := List.all_eq_true.1 h5 j (List.mem_range.2 (by simpa using hj))
    obtain ⟨x, hx, hx2⟩ := List.any_eq_true.1 this
    exact ⟨x.2, by rw [beq_iff_eq] at hx2; rw [← hx2]; exact hx⟩
end
end Go.Proofs.Ytfaekfdngkpkdaa
/- Regions with several loud operations, of which some write blocks that the quiet ones do not look at: the quiet ones hold in all worlds of a relation. -/
namespace Go.Proofs.Ytfaekfdngkpkdaa
open Go.RowKit
section
variable {P : Program} {ops : Array Oper} {Q : Exit → Act → World → Prop} {Rw : World → World → Prop}
/-- The mixed walk. -/
def wpMixR (Rw : World → World → Prop) (P : Program) (ops : Array Oper) (Q : Exit → Act → World → Prop) : List (Nat × Nat) → Act → World → Prop
  | [], a, w => ∀ w1, Ext w w1 → Q .normal a w1
  | (i, k) :: U, a, w => ∃ o, ops[i]? = some o ∧
    (Region.wanted o (yielded ops a.tmps) = true →
      (2 ≤ k → ∀ w1, Ext w w1 → o.wp P a w1 (fun a' w' => (k = 3 → Rw w w') ∧ wpMixR Rw P ops Q U a' w') (fun _ _ _ => False)) ∧
      (k < 2 → ∃ v, (∀ w', (k = 0 ∨ Rw w w') → (execOp a.eval o).run P w' = .ok (.value v) w') ∧ wpMixR Rw P ops Q U (a.put o.dst v) w)) ∧
    (Region.wanted o (yielded ops a.tmps) = false → wpMixR Rw P ops Q U (a.put o.dst undef) w)

theorem mix_congR {x : Nat × Nat} {L L' : List (Nat × Nat)} (h : ∀ a w, wpMixR Rw P ops Q L a w → wpMixR Rw P ops Q L' a w) (a : Act) (w : World) (hm : wpMixR Rw P ops Q (x :: L) a w) : wpMixR Rw P ops Q (x :: L') a w := by
  obtain ⟨i, k⟩ := x
  obtain ⟨o, ho, h1, h2⟩ := hm
  refine ⟨o, ho, fun hw => ⟨fun hk w1 hx => upon_mono (fun a w hh => ⟨hh.1, h a w hh.2⟩) (fun _ _ _ hf => hf) ((h1 hw).1 hk w1 hx), fun hk => ?_⟩, fun hw => h _ _ (h2 hw)⟩
  obtain ⟨v, a1, a3⟩ := (h1 hw).2 hk
  exact ⟨v, a1, h _ _ a3⟩

variable (Rr : ∀ {a b}, Ext a b → Rw a b) (Rt : ∀ {a b c}, Rw a b → Rw b c → Rw a c)
include Rr Rt
/-- Two that stand side by side and do not look at each other, the first one not loud, and blind if the second one is loud. -/
theorem mix_swapR {q kq i k : Nat} {R : List (Nat × Nat)} {oq oi : Oper} (hsel : Region.noSelect ops = true) (hq : ops[q]? = some oq) (hi : ops[i]? = some oi) (hap : oq.apart ops oi = true) (hkq : kq < 2) (hk : k = 2 → kq = 0) (hk3 : k ≤ 3)
    (a : Act) (w : World) (hm : wpMixR Rw P ops Q ((q, kq) :: (i, k) :: R) a w) : wpMixR Rw P ops Q ((i, k) :: (q, kq) :: R) a w := by
  obtain ⟨p1, p2, p3⟩ := Oper.apart_spec hap
  have si := fun cs b => Region.noSelect_spec hsel i oi cs b hi
  have sq := fun cs b => Region.noSelect_spec hsel q oq cs b hq
  have wi : ∀ (a : Act) v, Region.wanted oi (yielded ops (a.put oq.dst v).tmps) = Region.wanted oi (yielded ops a.tmps) := fun a v => wanted_put oi a oq.dst v p1
  have wq : ∀ (a : Act) v, Region.wanted oq (yielded ops (a.put oi.dst v).tmps) = Region.wanted oq (yielded ops a.tmps) := fun a v => wanted_put oq a oi.dst v p3
  have ei : ∀ (a : Act) v, execOp (a.put oq.dst v).eval oi = execOp a.eval oi := fun a v => execOp_put oi si a oq.dst v p1
  have eq : ∀ (a : Act) v, execOp (a.put oi.dst v).eval oq = execOp a.eval oq := fun a v => execOp_put oq sq a oi.dst v p3
  have pc : ∀ (a : Act) v u, (a.put oq.dst v).put oi.dst u = (a.put oi.dst u).put oq.dst v := fun a v u => Act.put_comm a v u p2
  obtain ⟨oq', hq', h1, h2⟩ := hm
  obtain rfl : oq' = oq := Option.some.inj (hq'.symm.trans hq)
  -- what the first one leaves, and that it leaves it from any frame that has the second one's value too
  have key : ∃ vq, wpMixR Rw P ops Q ((i, k) :: R) (a.put oq'.dst vq) w ∧ ∀ (u : Value) (D : List Deferred) (w' : World), (kq = 0 ∨ Rw w w') →
      wpMixR Rw P ops Q R ({ (a.put oi.dst u).put oq'.dst vq with defers := D }) w' → wpMixR Rw P ops Q ((q, kq) :: R) ({ a.put oi.dst u with defers := D }) w' := by
    cases hw : Region.wanted oq' (yielded ops a.tmps) with
    | true =>
      obtain ⟨vq, b0, hmix⟩ := (h1 hw).2 hkq
      refine ⟨vq, hmix, fun u D w' hw' hR => ⟨oq', hq, fun _ => ⟨fun h => absurd h (by omega), fun _ => ⟨vq, fun w2 h0 => ?_, ?_⟩⟩, fun hf => ?_⟩⟩
      · have := b0 w2 (by
          rcases h0 with h0 | h0
          · exact .inl h0
          · rcases hw' with h1 | h1
            · exact .inl h1
            · exact .inr (Rt h1 h0))
        rw [← eq a u] at this
        exact this
      · rw [put_defers]; exact hR
      · exfalso
        have : Region.wanted oq' (yielded ops (a.put oi.dst u).tmps) = false := hf
        rw [wq, hw] at this; cases this
    | false =>
      refine ⟨undef, h2 hw, fun u D w' _ hR => ⟨oq', hq, fun ht => ?_, fun _ => ?_⟩⟩
      · exfalso
        have : Region.wanted oq' (yielded ops (a.put oi.dst u).tmps) = true := ht
        rw [wq, hw] at this; cases this
      · rw [put_defers]; exact hR
  obtain ⟨vq, hmix, hback⟩ := key
  obtain ⟨oi', hi', g1, g2⟩ := hmix
  obtain rfl : oi' = oi := Option.some.inj (hi'.symm.trans hi)
  refine ⟨oi', hi, fun hw => ⟨fun h2 w1 hx => ?_, fun h2 => ?_⟩, fun hw => ?_⟩
  · -- loud
    have hl := (g1 (by rw [wi]; exact hw)).1 h2 w1 hx
    unfold Oper.wp at hl ⊢
    rw [ei] at hl
    generalize (execOp a.eval oi').run P w1 = r at hl ⊢
    have bk : ∀ (u : Value) (D : List Deferred) (w' : World), ((k = 3 → Rw w w') ∧ wpMixR Rw P ops Q R ({ (a.put oq'.dst vq).put oi'.dst u with defers := D }) w') →
        (k = 3 → Rw w w') ∧ wpMixR Rw P ops Q ((q, kq) :: R) ({ a.put oi'.dst u with defers := D }) w' := fun u D w' hR => by
      refine ⟨hR.1, ?_⟩
      have hR := hR.2
      rw [pc] at hR
      refine hback u D w' ?_ hR
      by_cases h3 : k = 3
      · exact .inr (‹(k = 3 → Rw w w') ∧ _›.1 h3)
      · exact .inl (hk (by omega))
    cases r with
    | ok nx w2 =>
      cases nx with
      | value v => exact bk v (a.put oi'.dst v).defers w2 (by have : (a.put oi'.dst v).defers = ((a.put oq'.dst vq).put oi'.dst v).defers := (by cases oi'.dst <;> cases oq'.dst <;> rfl); rw [this]; exact hl)
      | skip => exact bk undef (a.put oi'.dst undef).defers w2 (by have : (a.put oi'.dst undef).defers = ((a.put oq'.dst vq).put oi'.dst undef).defers := (by cases oi'.dst <;> cases oq'.dst <;> rfl); rw [this]; exact hl)
      | defer d =>
        have hl' : (k = 3 → Rw w w2) ∧ wpMixR Rw P ops Q R (({ a.put oq'.dst vq with defers := d :: (a.put oq'.dst vq).defers } : Act).put oi'.dst undef) w2 := hl
        rw [put_defers] at hl'
        have hd : (a.put oq'.dst vq).defers = a.defers := by cases oq'.dst <;> rfl
        rw [hd] at hl'
        show (k = 3 → Rw w w2) ∧ wpMixR Rw P ops Q ((q, kq) :: R) (({ a with defers := d :: a.defers } : Act).put oi'.dst undef) w2
        rw [put_defers]
        exact bk undef (d :: a.defers) w2 hl'
      | enter f args =>
        exact Calls.mono hl fun e w3 h3 => by
          cases e with
          | returned v => exact bk v (a.put oi'.dst v).defers w3 (by have : (a.put oi'.dst v).defers = ((a.put oq'.dst vq).put oi'.dst v).defers := (by cases oi'.dst <;> cases oq'.dst <;> rfl); rw [this]; exact h3)
          | panicked c => exact h3
          | outgrown => exact h3
      | row rw args => exact Rows.mono hl fun v w3 h3 => bk v (a.put oi'.dst v).defers w3 (by have : (a.put oi'.dst v).defers = ((a.put oq'.dst vq).put oi'.dst v).defers := (by cases oi'.dst <;> cases oq'.dst <;> rfl); rw [this]; exact h3)
      | _ => exact hl
    | halt x w2 =>
      cases x with
      | panic v => exact hl
      | _ => exact hl
  · obtain ⟨v, c0, hR⟩ := (g1 (by rw [wi]; exact hw)).2 h2
    refine ⟨v, fun w' h0 => ?_, ?_⟩
    · have := c0 w' h0; rwa [ei] at this
    · rw [pc] at hR
      exact hback v (a.put oi'.dst v).defers w (.inr (Rr (Ext.refl w))) (by
        have : (a.put oi'.dst v).defers = ((a.put oi'.dst v).put oq'.dst vq).defers := (by cases oi'.dst <;> cases oq'.dst <;> rfl)
        rw [this]; exact hR)
  · have hR := g2 (by rw [wi]; exact hw)
    rw [pc] at hR
    exact hback undef (a.put oi'.dst undef).defers w (.inr (Rr (Ext.refl w))) (by
      have : (a.put oi'.dst undef).defers = ((a.put oi'.dst undef).put oq'.dst vq).defers := (by cases oi'.dst <;> cases oq'.dst <;> rfl)
      rw [this]; exact hR)

theorem mix_pullR (hsel : Region.noSelect ops = true) {i k : Nat} {oi : Oper} (hk3 : k ≤ 3) (hi : ops[i]? = some oi) {post : List (Nat × Nat)} : ∀ (pre : List (Nat × Nat)),
    (∀ q ∈ pre, q.2 < 2 ∧ (k = 2 → q.2 = 0) ∧ ∃ oq, ops[q.1]? = some oq ∧ oq.apart ops oi = true) → ∀ a w, wpMixR Rw P ops Q (pre ++ (i, k) :: post) a w → wpMixR Rw P ops Q ((i, k) :: (pre ++ post)) a w
  | [], _, _, _, h => h
  | (q, kq) :: pre, hp, a, w, h => by
    obtain ⟨h1, h2, oq, h3, h4⟩ := hp (q, kq) (List.mem_cons_self ..)
    exact mix_swapR Rr Rt hsel h3 hi h4 h1 h2 hk3 a w (mix_congR (mix_pullR hsel hk3 hi pre (fun x hx => hp x (List.mem_cons_of_mem _ hx))) a w h)

theorem mix_anyR (hsel : Region.noSelect ops = true) (ord : List Nat) : ∀ (n : Nat) (U : List (Nat × Nat)) (seen : Array Bool) (a : Act) (w : World), U.length = n → seen.size = ops.size → Shut ops seen →
    (∀ j, j < ops.size → (seen.getD j false = false ↔ ∃ k, (j, k) ∈ U)) → U.Pairwise (fun x y => relB ops (ord.foldl (closeStep ops) []) x y = true) → (∀ x ∈ U, oneB1 ops x = true) →
    wpMixR Rw P ops Q U a w → ∀ w1, Ext w w1 → wpAny P .any ops Q n seen a w1 := by
  intro n
  induction n with
  | zero =>
    intro U seen a w hU hsz _ hin _ _ hm w1 hx
    obtain rfl : U = [] := List.length_eq_zero_iff.1 hU
    refine ⟨?_, hm w1 hx⟩
    apply List.eq_nil_iff_forall_not_mem.2
    intro j hj
    obtain ⟨h0, o, ho, _⟩ := mem_ready.1 hj
    obtain ⟨k, hk⟩ := (hin j (Array.getElem?_eq_some_iff.1 ho).1).1 (getD_both h0)
    cases hk
  | succ n ih =>
    intro U seen a w hU hsz hshut hin hpw hone hm w1 hx
    have listed : ∀ j, j < ops.size → (¬ ∃ k, (j, k) ∈ U) → seen.getD j false = true := fun j hj hn => by
      cases h : seen.getD j false with
      | true => rfl
      | false => exact absurd ((hin j hj).1 h) hn
    constructor
    · intro h0
      exfalso
      match U, hU, hm with
      | (i, k) :: U', _, hm =>
        obtain ⟨o, ho, _⟩ := hm
        have hil : i < ops.size := (Array.getElem?_eq_some_iff.1 ho).1
        have : i ∈ Region.ready .any ops seen := mem_ready.2 ⟨getD_in (by omega) ((hin i hil).2 ⟨k, List.mem_cons_self ..⟩), o, ho, fun e he hb => by
          have h1 := hone (i, k) (List.mem_cons_self ..)
          simp only [oneB1, List.all_eq_true, Bool.and_eq_true, decide_eq_true_eq, bne_iff_ne] at h1
          replace h1 := h1.1
          have hd : e.on ∈ depsOf ops i := (mem_depsOf ho).2 ⟨e, he, hb, rfl⟩
          refine listed e.on (h1 _ hd).1 fun ⟨k', hk'⟩ => ?_
          rcases List.mem_cons.1 hk' with hk' | hk'
          · exact (h1 _ hd).2 (Prod.mk.inj hk').1
          · have := (List.pairwise_cons.1 hpw).1 _ hk'
            simp only [relB, Bool.and_eq_true, Bool.not_eq_true'] at this
            have h2 := this.1.1.1.2
            rw [List.contains_eq_mem] at h2
            simp [hd] at h2⟩
        rw [h0] at this; cases this
    · intro i hi
      obtain ⟨hun, oi, hoi, hall⟩ := mem_ready.1 hi
      have hil : i < ops.size := (Array.getElem?_eq_some_iff.1 hoi).1
      obtain ⟨k, hk⟩ := (hin i hil).1 (getD_both hun)
      obtain ⟨pre, post, rfl⟩ := List.append_of_mem hk
      have hdeps : ∀ d ∈ depsOf ops i, seen.getD d false = true := fun d hd => by
        obtain ⟨e, he, hb, rfl⟩ := (mem_depsOf hoi).1 hd
        exact hall e he hb
      have hpre : ∀ q ∈ pre, q.2 < 2 ∧ (k = 2 → q.2 = 0) ∧ ∃ oq, ops[q.1]? = some oq ∧ oq.apart ops oi = true := fun q hq => by
        have hrel := (List.pairwise_append.1 hpw).2.2 q hq (i, k) (List.mem_cons_self ..)
        simp only [relB, Bool.and_eq_true, Bool.or_eq_true, Bool.not_eq_true', bne_iff_ne, ne_eq, beq_iff_eq, decide_eq_true_eq] at hrel
        obtain ⟨⟨⟨⟨r1, r2⟩, r3⟩, r4⟩, _⟩ := hrel
        have hqun : seen.getD q.1 false = false := by
          cases h : ops[q.1]? with
          | none =>
            rw [h] at r1
            rcases r1 with r1 | r1
            · have : q.1 ∈ depsOf ops i := by simpa using r1
              have h1 := hone (i, k) (by simp)
              simp only [oneB1, List.all_eq_true, Bool.and_eq_true, decide_eq_true_eq] at h1
              replace h1 := h1.1
              have := (h1 _ this).1
              exact (hin q.1 this).2 ⟨q.2, by simp [hq]⟩
            · cases r1
          | some oq => exact (hin q.1 (Array.getElem?_eq_some_iff.1 h).1).2 ⟨q.2, by simp [hq]⟩
        have hnd : q.1 ∉ depsOf ops i := fun hd => by rw [hdeps _ hd] at hqun; cases hqun
        have hnw : ¬ waitsB (ord.foldl (closeStep ops) []) i q.1 = true := fun hw => by
          rw [waitsB_ok hw seen hshut hdeps] at hqun; cases hqun
        refine ⟨?_, fun h2 => ?_, ?_⟩
        · rcases r3 with r3 | r3
          · exact r3
          · exact absurd r3 hnw
        · rcases r4 with (r4 | r4) | r4
          · exact absurd h2 r4
          · exact r4
          · exact absurd r4 hnw
        · rcases r1 with r1 | r1
          · exact absurd (by simpa using r1) hnd
          · cases h : ops[q.1]? with
            | none => rw [h] at r1; cases r1
            | some oq => rw [h, hoi] at r1; exact ⟨oq, rfl, r1⟩
      have hk3 : k ≤ 3 := by
        have h1 := hone (i, k) hk
        simp only [oneB1, Bool.and_eq_true, decide_eq_true_eq] at h1
        exact h1.2
      have hpull := mix_pullR Rr Rt hsel hk3 hoi pre hpre a w hm
      obtain ⟨o', ho', b1, b2⟩ := hpull
      obtain rfl : o' = oi := Option.some.inj (ho'.symm.trans hoi)
      have hsub : (pre ++ post).Sublist (pre ++ (i, k) :: post) := List.Sublist.append_left (List.sublist_cons_self _ _) _
      have cont : ∀ a' w', wpMixR Rw P ops Q (pre ++ post) a' w' → ∀ w2, Ext w' w2 → wpAny P .any ops Q n (seen.setIfInBounds i true) a' w2 := fun a' w' h' w2 hx2 => by
        refine ih (pre ++ post) _ a' w' (by simp at hU ⊢; omega) (by simp [hsz]) (fun j hj d hd => ?_) (fun j hj => ?_) (hpw.sublist hsub) (fun x hx => hone x (hsub.subset hx)) h' w2 hx2
        · by_cases hij : i = j
          · subst hij; exact getD_set_true (hdeps d hd)
          · rw [getD_set_ne false hij] at hj
            exact getD_set_true (hshut j hj d hd)
        · by_cases hij : i = j
          · subst hij
            constructor
            · intro hf
              exfalso
              have : (seen.setIfInBounds i true).getD i false = true := by simp [show i < seen.size by omega]
              rw [this] at hf; cases hf
            · rintro ⟨k', hk'⟩
              exfalso
              have hp2 := List.pairwise_append.1 hpw
              rcases List.mem_append.1 hk' with hk' | hk'
              · have := hp2.2.2 _ hk' (i, k) (List.mem_cons_self ..)
                simp [relB] at this
              · have := (List.pairwise_cons.1 hp2.2.1).1 _ hk'
                simp [relB] at this
          · rw [getD_set_ne false hij, hin j hj]
            constructor
            · rintro ⟨k', hk'⟩
              refine ⟨k', ?_⟩
              rcases List.mem_append.1 hk' with hk' | hk'
              · exact List.mem_append.2 (.inl hk')
              · rcases List.mem_cons.1 hk' with hk' | hk'
                · exact absurd (Prod.mk.inj hk').1.symm hij
                · exact List.mem_append.2 (.inr hk')
            · rintro ⟨k', hk'⟩; exact ⟨k', hsub.subset hk'⟩
      unfold wpOp
      simp only [hoi]
      cases hw : Region.wanted o' (yielded ops a.tmps) with
      | false =>
        simp only [Bool.false_eq_true, if_false]
        exact cont _ _ (b2 hw) w1 hx
      | true =>
        simp only [if_true]
        refine .inl ?_
        by_cases h2 : 2 ≤ k
        · exact upon_mono (fun a' w' h' => cont a' w' h'.2 w' (Ext.refl _)) (fun _ _ _ hf => hf.elim) ((b1 hw).1 h2 w1 hx)
        · obtain ⟨v, c0, hR⟩ := (b1 hw).2 (by omega)
          unfold Oper.wp
          rw [c0 w1 (.inr (Rr hx))]
          exact cont _ _ hR w1 hx
end
def wpPlanR (Rw : World → World → Prop) (P : Program) (l : List Oper) (Q : Exit → Act → World → Prop) : List Seg → Act → World → Prop
  | [], a, w => ∀ w1, Ext w w1 → Q .normal a w1
  | .b is :: t, a, w => wpQuiet P l.toArray (fun _ => True) (fun a1 => wpPlanR Rw P l Q t a1 w) (pickL l is) a
  | .q is :: t, a, w => wpQuiet P l.toArray (fun w' => Rw w w') (fun a1 => wpPlanR Rw P l Q t a1 w) (pickL l is) a
  | .l i k :: t, a, w => ∀ w1, Ext w w1 → wpList P l.toArray (Exit.then (fun a3 w3 => (k = 3 → Rw w w3) ∧ wpPlanR Rw P l Q t a3 w3) (fun _ _ _ => False)) (pickL l [i]) a w1

section
variable {P : Program} {l : List Oper} {Q : Exit → Act → World → Prop} {Rw : World → World → Prop} (Rr : ∀ {a b}, Ext a b → Rw a b) (Rt : ∀ {a b c}, Rw a b → Rw b c → Rw a c)
include Rr Rt
omit Rr Rt in
theorem mix_calmR {U : List (Nat × Nat)} (k : Nat) (hk : k < 2) {w : World} {C : World → Prop} (hC : ∀ w', (k = 0 ∨ Rw w w') → C w') : ∀ (is : List Nat) (a : Act), calmB l is = true →
    wpQuiet P l.toArray C (fun a' => wpMixR Rw P l.toArray Q U a' w) (pickL l is) a → wpMixR Rw P l.toArray Q (is.map (·, k) ++ U) a w
  | [], a, _, h => h
  | i :: is, a, hB, h => by
    simp only [calmB, List.all_cons, Bool.and_eq_true, decide_eq_true_eq] at hB
    refine ⟨_, getD_some hB.1.1, fun hw => ⟨fun h2 => absurd h2 (by omega), fun _ => ?_⟩, fun hw => ?_⟩
    · simp only [pickL, List.map_cons, wpQuiet] at h
      rw [if_pos hw] at h
      obtain ⟨v, h1, h2⟩ := h
      exact ⟨v, fun w' h0 => calm_run hB.1.2 (h1 w' (hC w' h0)), mix_calmR k hk hC is _ hB.2 h2⟩
    · simp only [pickL, List.map_cons, wpQuiet] at h
      rw [if_neg (by rw [hw]; simp)] at h
      exact mix_calmR k hk hC is _ hB.2 h

omit Rr Rt in
theorem mix_loudGR {U : List (Nat × Nat)} {i k : Nat} {a : Act} {w : World} (hi : i < l.length) (hk : 2 ≤ k)
    (h : ∀ w1, Ext w w1 → wpList P l.toArray (Exit.then (fun a3 w3 => (k = 3 → Rw w w3) ∧ wpMixR Rw P l.toArray Q U a3 w3) (fun _ _ _ => False)) (pickL l [i]) a w1) : wpMixR Rw P l.toArray Q ((i, k) :: U) a w := by
  refine ⟨_, getD_some hi, fun hw => ⟨fun _ w1 hx => ?_, fun h2 => absurd h2 (by omega)⟩, fun hw => ?_⟩
  · have := h w1 hx
    simp only [pickL, List.map_cons, List.map_nil, wpList] at this
    rw [if_pos hw] at this
    rcases this with this | ⟨_, _, _, hf⟩
    · exact upon_mono (fun _ _ h' => h') (fun e _ _ h' => by cases e <;> first | exact h' | exact h'.elim) (upon_normal this)
    · exact hf.elim
  · have := h w (Ext.refl w)
    simp only [pickL, List.map_cons, List.map_nil, wpList] at this
    rw [if_neg (by rw [hw]; simp)] at this
    exact this.2
omit Rr Rt in
theorem plan_mixGR : ∀ (t : List Seg) (a : Act) (w : World), t.all (segG l) = true → wpPlanR Rw P l Q t a w → wpMixR Rw P l.toArray Q (planOf t) a w
  | [], a, w, _, h => h
  | .b is :: t, a, w, hB, h => by
    simp only [List.all_cons, segG, Bool.and_eq_true] at hB
    exact mix_calmR 0 (by omega) (C := fun _ => True) (fun _ _ => trivial) is a hB.1 (wpQuiet_post (fun a1 h1 => plan_mixGR t a1 w hB.2 h1) _ _ h)
  | .q is :: t, a, w, hB, h => by
    simp only [List.all_cons, segG, Bool.and_eq_true] at hB
    exact mix_calmR 1 (by omega) (C := fun w' => Rw w w') (fun w' h => h.resolve_left (by omega)) is a hB.1 (wpQuiet_post (fun a1 h1 => plan_mixGR t a1 w hB.2 h1) _ _ h)
  | .l i k :: t, a, w, hB, h => by
    simp only [List.all_cons, segG, Bool.and_eq_true, decide_eq_true_eq] at hB
    exact mix_loudGR hB.1.1 hB.1.2 fun w1 hx => wpList_post (fun a3 w3 h3 => ⟨h3.1, plan_mixGR t a3 w3 hB.2 h3.2⟩) _ _ _ (h w1 hx)
theorem region_mixGR {id : Nat} {a : Act} {w : World} (t : List Seg) (hm : P.follows .mixedOrders = true) (hB : planG l t = true)
    (h : wpPlanR Rw P l Q t a w) : (Code.region id l.toArray true).wp P Q a w := by
  simp only [planG, Bool.and_eq_true, decide_eq_true_eq] at hB
  obtain ⟨⟨⟨⟨⟨h1, h2⟩, h4⟩, h5⟩, h6⟩, h7⟩ := hB
  refine wp_region_any hm ?_
  refine mix_anyR Rr Rt (n := l.toArray.size) h1 _ (planOf t) _ a w (by simpa using h4) (by simp) ?_ ?_ (pairB_ok h7) (fun x hx => List.all_eq_true.1 h6 x hx) (plan_mixGR t a w h2 h) _ (Ext.drew (Ext.refl w))
  · intro j hj
    rw [getD_replicate_false] at hj; cases hj
  · intro j hj
    rw [getD_replicate_false]
    simp only [true_iff]
    have := List.all_eq_true.1 h5 j (List.mem_range.2 (by simpa using hj))
    obtain ⟨x, hx, hx2⟩ := List.any_eq_true.1 this
    exact ⟨x.2, by rw [beq_iff_eq] at hx2; rw [← hx2]; exact hx⟩
end
end Go.Proofs.Ytfaekfdngkpkdaa
/- Regions of which a loud operation writes a list of blocks that the quiet ones do not look at. -/
namespace Go.Proofs.Ytfaekfdngkpkdaa
open Go.RowKit
/-- d, if of w's blocks at most those of F have changed; else w. -/
noncomputable def wk (F : List Nat) (w d : World) : World := open Classical in if Keeps F w d then d else w
theorem wk_keeps (F : List Nat) (w d : World) : Keeps F w (wk F w d) := by
  unfold wk; split
  · assumption
  · exact Keeps.refl F w
theorem wk_of {F : List Nat} {w d : World} (h : Keeps F w d) : d = wk F w d := by unfold wk; rw [if_pos h]
theorem wk_cell {F : List Nat} {w : World} {b o : Nat} {v : Value} (hb : b < w.heap.size) (hn : b ∉ F) (h : w.cell? ⟨b, o, none⟩ = some v) : ∀ d, (wk F w d).cell? ⟨b, o, none⟩ = some v := fun d => by
  rw [cell_heap, (wk_keeps F w d).block b hb hn, ← cell_heap]; exact h
theorem quiet_wk {P : Program} {ops : Array Oper} {F : List Nat} {w : World} {Q : Act → Prop} {l : List Oper} {a : Act} (h : wpQuiet P ops (fun w' => ∃ d, w' = wk F w d) Q l a) : wpQuiet P ops (fun w' => Keeps F w w') Q l a := by
  have : (fun w' => Keeps F w w') = fun w' => ∃ d, w' = wk F w d := by
    funext w'
    exact propext ⟨fun h => ⟨w', wk_of h⟩, fun ⟨d, h⟩ => h ▸ wk_keeps F w d⟩
  rw [this]; exact h
end Go.Proofs.Ytfaekfdngkpkdaa
