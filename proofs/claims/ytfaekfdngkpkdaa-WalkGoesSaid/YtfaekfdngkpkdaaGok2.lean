/- Joined texts, part 2 of what the law stands on: each as its own head says. -/
import Derived.Maps.RangeRun
import Derived.Maps.RangeWalk
import Derived.ChangeKeysEq
import Derived.Test.YtfaekfdngkpkdaaGok1
/- A walk through the tables: From. -/
namespace Go.Proofs.Ytfaekfdngkpkdaa
set_option linter.unusedVariables false
set_option linter.unusedSimpArgs false
open Go.RowKit
attribute [local go_sem] wext_cell wext_frozen wext_heap alloc_cell alloc_frozen alloc_heap setCell_cell objCell_cells objFrozen_cells

theorem rowS_one (s : Stp) : rowS [s] = s.cells := by simp [rowS]
theorem EndMem.puts {w U U' : World} {mb : Nat} {F G : List Nat} {B : Int} {M : Int → Int} {T : List Int} (h : EndMem mb F w B M T U) (k : Keeps G U U')
    (hG : ∀ x ∈ G, w.heap.size ≤ x ∧ ∃ c e, U.heap[x]? = some (.cells c e (0, 0)) ∧ e ≠ 187 ∧ e ≠ 23 ∧ e ≠ 191) : EndMem mb F w B M T U' := by
  obtain ⟨F', m, k1, k2⟩ := h
  refine ⟨F', m.keeps k (fun x hx hg => ?_), k1.trans k (fun x hx => .inr (hG x hx).1), k2⟩
  obtain ⟨-, c, e, h1, h2, h3, h4⟩ := hG x hg
  exact m.apart h1 h2 h3 h4 hx
theorem EndMem.from {w wr w1 w2 : World} {mb : Nat} {F F' : List Nat} {B : Int} {M M' : Int → Int} {T T' : List Int} (h : MemAt wr mb F' B M T ∧ Keeps F w wr ∧ ∀ y ∈ F', y ∈ F ∨ w.heap.size ≤ y) (k : Ext wr w1) (e : EndMem mb F' w1 B M' T' w2) : EndMem mb F w B M' T' w2 := by
  obtain ⟨F2, m2, k2, f2⟩ := e
  refine ⟨F2, m2, (h.2.1.ext k).trans k2 h.2.2, fun y hy => ?_⟩
  rcases f2 y hy with q | q
  · exact h.2.2 y q
  · exact .inr (Nat.le_trans (h.2.1.size) (Nat.le_trans k.size q))
theorem Fr.keeps {w w' : World} {p q o : Nat} {lv t : Int} {r : Rt} {sv : Value} {mb : Nat} {F : List Nat} {B : Int} {M : Int → Int} {T : List Int} (h : Fr w p q o lv t r sv) (m : MemAt w mb F B M T) (k : Keeps F w w') : Fr w' p q o lv t r sv :=
  h.keep (k.block _ h.lt.1 (m.apart h.1 (by decide) (by decide) (by decide))) (k.block _ h.lt.2.1 (m.apart h.2.1 (by decide) (by decide) (by decide))) (k.block _ h.lt.2.2 (m.apart h.2.2 (by decide) (by decide) (by decide)))
theorem Owns.keepsS {w w' : World} {n : Nat} {xs : List Value} {sv : Value} {mb : Nat} {F : List Nat} {B : Int} {M : Int → Int} {T : List Int} (h : Owns w 65 3 sv n xs) (m : MemAt w mb F B M T) (k : Keeps F w w') : Owns w' 65 3 sv n xs :=
  h.keep fun g hg => by
    obtain ⟨c, hc⟩ := h.heap g hg
    exact k.block g (heap_lt hc) (m.apart hc (by decide) (by decide) (by decide))
theorem keepsQ {U : World} {q : Nat} {v0 v1 v2 v3 v4 v5 v6 : Value} : Keeps [q] U (((((((U.setCell ⟨q, 0, none⟩ v0).setCell ⟨q, 1, none⟩ v1).setCell ⟨q, 2, none⟩ v2).setCell ⟨q, 3, none⟩ v3).setCell ⟨q, 4, none⟩ v4).setCell ⟨q, 5, none⟩ v5).setCell ⟨q, 6, none⟩ v6) :=
  Keeps.setCell (Keeps.setCell (Keeps.setCell (Keeps.setCell (Keeps.setCell (Keeps.setCell (Keeps.setCell (Keeps.refl [q] U) (.inl (by simp)) _) (.inl (by simp)) _) (.inl (by simp)) _) (.inl (by simp)) _) (.inl (by simp)) _) (.inl (by simp)) _) (.inl (by simp)) _
section
variable {M : Int → Int} {B : Int} {nxe : Bool} {a : Int} {j : Nat} {t : Int} {r : Rt} {s x : Int}
theorem walkJ_bad (hj : 1 ≤ j) (hs : slotI t a j = s) (h : errM B s ≠ 0) : walkF M B nxe a j t r = ([], 2, noRt, 0, 0) := by
  obtain ⟨k, rfl⟩ : ∃ k, j = k + 1 := ⟨j - 1, by omega⟩
  exact walkF_bad (by rw [show ((k : Int) + 1) = ((k + 1 : Nat) : Int) by omega, hs]; exact h)
theorem walkJ_absent (hj : 1 ≤ j) (hs : slotI t a j = s) (hx : M (s / 8) = x) (h : errM B s = 0) (hp : bitB x 0 = false) : walkF M B nxe a j t r = ([((j : Int), s, x)], 1, noRt, 0, 0) := by
  obtain ⟨k, rfl⟩ : ∃ k, j = k + 1 := ⟨j - 1, by omega⟩
  exact walkF_absent hs hx h hp
theorem walkJ_res (hj : 1 ≤ j) (hs : slotI t a j = s) (hx : M (s / 8) = x) (h : errM B s = 0) (hp : bitB x 0 = true) (hr : resI x j B nxe = true) : walkF M B nxe a j t r = ([((j : Int), s, x)], 2, noRt, 0, 0) := by
  obtain ⟨k, rfl⟩ : ∃ k, j = k + 1 := ⟨j - 1, by omega⟩
  exact walkF_res hs hx h hp hr
theorem walkJ_leaf (hj : 1 ≤ j) (hs : slotI t a j = s) (hx : M (s / 8) = x) (h : errM B s = 0) (hp : bitB x 0 = true) (hr : resI x j B nxe = false) (hl : leafI x j = true) : walkF M B nxe a j t r = ([((j : Int), s, x)], 0, andR r x, (j : Int), frameI x j) := by
  obtain ⟨k, rfl⟩ : ∃ k, j = k + 1 := ⟨j - 1, by omega⟩
  exact walkF_leaf hs hx h hp hr hl
theorem walkJ_on (hj : 1 ≤ j) (hs : slotI t a j = s) (hx : M (s / 8) = x) (h : errM B s = 0) (hp : bitB x 0 = true) (hr : resI x j B nxe = false) (hl : leafI x j = false) :
    walkF M B nxe a j t r = (((j : Int), s, x) :: (walkF M B nxe a (j - 1) (tabI x) (andR r x)).1, (walkF M B nxe a (j - 1) (tabI x) (andR r x)).2) := by
  obtain ⟨k, rfl⟩ : ∃ k, j = k + 1 := ⟨j - 1, by omega⟩
  exact walkF_on hs hx h hp hr hl
end
set_option maxHeartbeats 4000000 in
set_option maxRecDepth 20000 in
theorem from_c (mb : Nat) (F : List Nat) (B : Int) (M : Int → Int) (T : List Int) (n : Nat) (t : Int) (ra rb rc : Bool) (a : Int) (nxe : Bool) (w : World) (h : MemAt w mb F B M T)
    (hl1 : n ≤ 4) (ht0 : 0 ≤ t) (ht1 : t ≤ 18446744073709551615) (ha0 : 0 ≤ a) (ha1 : a ≤ 18446744073709551615) (hT : T.length ≤ 900000) :
    Calls Try.prog 16 #[.pointer (some ⟨mb, 0, none⟩), .agg #[.int .i64 n, .int .u64 t, .bool ra, .bool rb, .bool rc], .int .u64 a, .bool nxe] w
      (EndWalk mb F B M T (walkF M B nxe a n t (ra, rb, rc)) w) := by
  have HM := Lib.hid h
  have hrng : ∀ s, 0 ≤ M s ∧ M s ≤ 18446744073709551615 := by obtain ⟨pb, tv, es, clock, PL, p1, p2, p3, p4, p5, p6, p7, p8, p9, rfl, p10⟩ := h; exact p8
  have HR := Lib.hid hrng
  obtain ⟨-, -, hB0, hB1⟩ := h.head
  have HLT := Lib.hid h.lt
  clear h hrng
  generalize hE : EndWalk mb F B M T _ w = E
  have HE := Lib.hid hE
  clear hE
  go_enter Try.func16, Try.ntmps16
  go_wp2
  go_step3
  go_wp2
  go_step3
  go_wp2
  refine wp_gen ?_; intro V hV
  obtain ⟨p, hp⟩ : ∃ p, p = w.heap.size := ⟨_, rfl⟩
  obtain ⟨q, hq⟩ : ∃ q, q = w.heap.size + 1 := ⟨_, rfl⟩
  obtain ⟨o, ho⟩ : ∃ o, o = w.heap.size + 1 + 1 := ⟨_, rfl⟩
  have vx : Ext w V := by rw [hV]; exact (by repeat (first | exact Ext.refl _ | assumption | refine Ext.alloc ?_ _ | refine Ext.drew ?_ | refine Ext.setCell ?_ (by first | (simp; done) | (dsimp only; omega)) _ | refine Ext.trans ?_ (by assumption)))
  have vF : Fr V p q o n t (ra, rb, rc) (.slice none 0 0) := by
    subst hp hq ho
    rw [hV]
    exact ⟨(alloc_other _ _ (by simp; omega)).trans ((alloc_other _ _ (by simp)).trans (alloc_same ..)), (alloc_other _ _ (by simp)).trans (alloc_same1 ..), alloc_same2 ..⟩
  have VF := Lib.hid vF
  have VX := Lib.hid vx
  clear hV vF vx
  rw [← ho, ← hq, ← hp]
  have hwp : w.heap.size ≤ p ∧ w.heap.size ≤ q ∧ w.heap.size ≤ o ∧ p ≠ q ∧ p ≠ o ∧ q ≠ o := by omega
  obtain ⟨wp0, wq0, wo0, npq, npo, nqo⟩ := hwp
  clear hp hq ho
  go_loopw [10] (fun lv wr => ∃ (j : Nat) (t' : Int) (r' : Rt) (L : List Stp) (sa : Option Addr) (sc : Nat), j ≤ 4 ∧ lv = .int .i64 j ∧ 0 ≤ t' ∧ t' ≤ 18446744073709551615 ∧ L.length + j ≤ 4 ∧ Hid (Fr wr p q o n t' r' (.slice sa L.length sc) ∧
    walkF M B nxe a n t (ra, rb, rc) = (L ++ (walkF M B nxe a j t' r').1, (walkF M B nxe a j t' r').2) ∧ Owns wr 65 3 (.slice sa L.length sc) L.length (rowS L) ∧ (∀ g, (Value.slice sa L.length sc).ownBlock = some g → w.heap.size ≤ g) ∧
    EndMem mb F w B M (T ++ L.map (·.2.1)) wr)) (fun lv _ => (intOf lv).toNat)
  case atStart => exact ⟨n, t, (ra, rb, rc), [], none, 0, hl1, rfl, ht0, ht1, by simpa using hl1, Lib.hid ⟨VF.out, by simp, by simpa [rowS] using Owns.nil _ _ _, fun g hg => by simp [Value.ownBlock] at hg, by simpa using EndMem.refl HM.out VX.out⟩⟩
  case round =>
    obtain ⟨j, t', r', L, sa, sc, hj, rfl, ht0', ht1', hLj, hR⟩ := hrel
    by_cases hj0 : j = 0
    · subst hj0
      obtain ⟨L1, hL1⟩ : ∃ L1, L1 = L := ⟨_, rfl⟩
      obtain ⟨a1, ha1'⟩ : ∃ a1, a1 = sa := ⟨_, rfl⟩
      obtain ⟨e1, hc1'⟩ : ∃ e1, e1 = sc := ⟨_, rfl⟩
      subst hL1 ha1' hc1'
      have O1 := Lib.hid hR.out.1.2.2
      have Q1 := Lib.hid hR.out.1.2.1
      have S1 := Lib.hid hR.out.2.2.1
      have G1 := Lib.hid hR.out.2.2.2.1
      have M1 := Lib.hid hR.out.2.2.2.2
      have W1 : Hid (walkF M B nxe a n t (ra, rb, rc) = (L1, 2, (false, false, false), 0, 0)) := Lib.hid (by rw [hR.out.2.1]; simp [walkF, noRt])
      have y0 := (heap_cell O1.out 0).trans rfl
      have y1 := (heap_cell O1.out 1).trans rfl
      have y2 := (heap_cell O1.out 2).trans rfl
      have y3 := (heap_cell O1.out 3).trans rfl
      have y4 := (heap_cell O1.out 4).trans rfl
      have y5 := (heap_cell O1.out 5).trans rfl
      have y6 := (heap_cell O1.out 6).trans rfl
      have k0 := (heap_cell Q1.out 0).trans rfl
      have k1 := (heap_cell Q1.out 1).trans rfl
      have k2 := (heap_cell Q1.out 2).trans rfl
      have k3 := (heap_cell Q1.out 3).trans rfl
      have k4 := (heap_cell Q1.out 4).trans rfl
      have k5 := (heap_cell Q1.out 5).trans rfl
      have k6 := (heap_cell Q1.out 6).trans rfl
      have kf := frozen_of Q1.out
      have hql := heap_lt Q1.out
      have hol := heap_lt O1.out
      go_wp2
      (try rw [Exit.noGoto_ret])
      refine post_gen (fun X => X.heap[q]? = some (.cells #[.slice a1 L1.length e1, .int .i64 2, .bool false, .bool false, .bool false, .int .i64 0, .int .u64 0] 38 (0, 0)) ∧ Owns X 65 3 (.slice a1 L1.length e1) L1.length (rowS L1) ∧ EndMem mb F w B M (T ++ L1.map (·.2.1)) X) ⟨store7_heap Q1.out, ?_, ?_⟩ ?_
      · refine S1.out.keep fun g hg => ?_
        obtain ⟨c, hc⟩ := S1.out.heap g hg
        exact store7_other (fun e => by rw [← e, Q1.out] at hc; simp at hc)
      · exact M1.out.puts keepsQ (fun x hx => by simp only [List.mem_singleton] at hx; subst hx; exact ⟨wq0, _, _, Q1.out, by decide, by decide, by decide⟩)
      rintro X ⟨m5, o5, e5⟩
      have v0 := (heap_cell m5 0).trans rfl
      have v1 := (heap_cell m5 1).trans rfl
      have v2 := (heap_cell m5 2).trans rfl
      have v3 := (heap_cell m5 3).trans rfl
      have v4 := (heap_cell m5 4).trans rfl
      have v5 := (heap_cell m5 5).trans rfl
      have v6 := (heap_cell m5 6).trans rfl
      have O5 := Lib.hid o5
      have E5 := Lib.hid e5
      clear m5 o5 e5 y0 y1 y2 y3 y4 y5 y6 k0 k1 k2 k3 k4 k5 k6 kf
      rw [← HE.out, W1.out]
      refine bodyPost_ret (by simp [results, Try.results16, go_sem, ↓IntWalk.iteOmega, *]; try rfl) rfl ⟨.slice a1 L1.length e1, rfl, O5.out, E5.out, G1.out⟩
    have hj1 : 1 ≤ j := by omega
    have hSl := fun w => entSlot_c t' a j w ht0' ht1' (by omega) (by omega) ha0 ha1
    have hs3 := slotI_le (t := t') (a := a) (l := (j : Int)) ht0'
    obtain ⟨s, hs⟩ : ∃ s, slotI t' a j = s := ⟨_, rfl⟩
    rw [hs] at hSl hs3
    have HS := Aside.mk hs
    have HSl := Lib.hid hSl
    obtain ⟨hs0, hs1, -⟩ := hs3
    have ⟨x0, x1⟩ := HR.out (s / 8)
    obtain ⟨x, hx⟩ : ∃ x, M (s / 8) = x := ⟨_, rfl⟩
    rw [hx] at x0 x1
    have HX := Aside.mk hx
    obtain ⟨F', hm', hk', hf'⟩ := hR.out.2.2.2.2
    have hTl : (T ++ L.map (·.2.1)).length ≤ 1000000 := by simp; omega
    obtain ⟨T', hT'⟩ : ∃ T', T ++ L.map (·.2.1) = T' := ⟨_, rfl⟩
    rw [hT'] at hm' hTl
    have HT' := Aside.mk hT'
    have HLo := Lib.hid (fun w1 (k : Ext wr w1) => load_c mb F' B M T' s w1 (hm'.ext k) hs0 (by omega) hTl)
    have HM' := Lib.hid hm'
    have HK' := Lib.hid hk'
    have HF' := Lib.hid hf'
    clear hs hx hSl hm' hk' hf' hT'
    obtain ⟨⟨c0, c1, c2, c3, c4, c5⟩, -, -⟩ := hR.out.1.facts
    obtain ⟨hpl, hql, hol⟩ := hR.out.1.lt
    by_cases he : errM B s ≠ 0
    · have heb : (errM B s != 0) = true := by simpa using he
      have W0 : Hid (walkF M B nxe a n t (ra, rb, rc) = (L, 2, (false, false, false), 0, 0)) := Lib.hid (by rw [hR.out.2.1, walkJ_bad hj1 HS.out he]; simp [noRt])
      have HLe : Hid (∀ w1, Ext wr w1 → Calls Try.prog 62 #[.pointer (some ⟨mb, 0, none⟩), .int .u64 s] w1 fun e w' => e = .returned (.tuple #[.int .u64 0, .int .i64 (errM B s)]) ∧ EndMem mb F' w1 B M T' w') := Lib.hid (fun w1 k => by have := HLo.out w1 k; rw [if_neg he, if_neg he] at this; exact this)
      generalize errM B s = er at *
      clear he
      go_upto_if 37 with (first | (go_at_call 61; refine (HSl.out _).mono ?_; rintro e w1 ⟨rfl, hb1⟩) | (go_at_call 62; refine (HLe.out _ (by repeat (first | exact Ext.refl _ | assumption | refine Ext.alloc ?_ _ | refine Ext.drew ?_ | refine Ext.setCell ?_ (by first | (simp; done) | (dsimp only; omega)) _ | refine Ext.trans ?_ (by assumption)))).mono ?_; rintro e w2 ⟨rfl, hE2⟩))
      obtain ⟨L1, hL1⟩ : ∃ L1, L1 = L := ⟨_, rfl⟩
      obtain ⟨a1, ha1'⟩ : ∃ a1, a1 = sa := ⟨_, rfl⟩
      obtain ⟨e1, hc1'⟩ : ∃ e1, e1 = sc := ⟨_, rfl⟩
      subst hL1 ha1' hc1'
      have hR' := hR.out
      obtain ⟨F2, m2, k2, f2⟩ := hE2
      have hMx := HM'.out.ext hb1
      have hFr := (hR'.1.ext hb1).keeps hMx k2
      have O1 := Lib.hid hFr.2.2
      have Q1 := Lib.hid hFr.2.1
      have S1 := Lib.hid ((hR'.2.2.1.ext hb1).keepsS hMx k2)
      have G1 := Lib.hid hR'.2.2.2.1
      clear hR'
      have M1 : Hid (EndMem mb F w B M (T ++ L1.map (·.2.1)) w2) := Lib.hid (by rw [HT'.out]; exact EndMem.from ⟨HM'.out, HK'.out, HF'.out⟩ hb1 ⟨F2, m2, k2, f2⟩)
      have W1 := W0
      clear c0 c1 c2 c3 c4 c5 k2 f2 m2 hFr hMx hb1
      have y0 := (heap_cell O1.out 0).trans rfl
      have y1 := (heap_cell O1.out 1).trans rfl
      have y2 := (heap_cell O1.out 2).trans rfl
      have y3 := (heap_cell O1.out 3).trans rfl
      have y4 := (heap_cell O1.out 4).trans rfl
      have y5 := (heap_cell O1.out 5).trans rfl
      have y6 := (heap_cell O1.out 6).trans rfl
      have k0 := (heap_cell Q1.out 0).trans rfl
      have k1 := (heap_cell Q1.out 1).trans rfl
      have k2 := (heap_cell Q1.out 2).trans rfl
      have k3 := (heap_cell Q1.out 3).trans rfl
      have k4 := (heap_cell Q1.out 4).trans rfl
      have k5 := (heap_cell Q1.out 5).trans rfl
      have k6 := (heap_cell Q1.out 6).trans rfl
      have kf := frozen_of Q1.out
      have hql := heap_lt Q1.out
      have hol := heap_lt O1.out
      go_wp2
      (try rw [Exit.noGoto_ret])
      refine post_gen (fun X => X.heap[q]? = some (.cells #[.slice a1 L1.length e1, .int .i64 2, .bool false, .bool false, .bool false, .int .i64 0, .int .u64 0] 38 (0, 0)) ∧ Owns X 65 3 (.slice a1 L1.length e1) L1.length (rowS L1) ∧ EndMem mb F w B M (T ++ L1.map (·.2.1)) X) ⟨store7_heap Q1.out, ?_, ?_⟩ ?_
      · refine S1.out.keep fun g hg => ?_
        obtain ⟨c, hc⟩ := S1.out.heap g hg
        exact store7_other (fun e => by rw [← e, Q1.out] at hc; simp at hc)
      · exact M1.out.puts keepsQ (fun x hx => by simp only [List.mem_singleton] at hx; subst hx; exact ⟨wq0, _, _, Q1.out, by decide, by decide, by decide⟩)
      rintro X ⟨m5, o5, e5⟩
      have v0 := (heap_cell m5 0).trans rfl
      have v1 := (heap_cell m5 1).trans rfl
      have v2 := (heap_cell m5 2).trans rfl
      have v3 := (heap_cell m5 3).trans rfl
      have v4 := (heap_cell m5 4).trans rfl
      have v5 := (heap_cell m5 5).trans rfl
      have v6 := (heap_cell m5 6).trans rfl
      have O5 := Lib.hid o5
      have E5 := Lib.hid e5
      clear m5 o5 e5 y0 y1 y2 y3 y4 y5 y6 k0 k1 k2 k3 k4 k5 k6 kf
      rw [← HE.out, W1.out]
      refine bodyPost_ret (by simp [results, Try.results16, go_sem, ↓IntWalk.iteOmega, *]; try rfl) rfl ⟨.slice a1 L1.length e1, rfl, O5.out, E5.out, G1.out⟩
    have he0 : errM B s = 0 := by omega
    clear he
    have HL0 : Hid (∀ w1, Ext wr w1 → Calls Try.prog 62 #[.pointer (some ⟨mb, 0, none⟩), .int .u64 s] w1 fun e w' => e = .returned (.tuple #[.int .u64 x, .int .i64 0]) ∧ EndMem mb F' w1 B M (T' ++ [s]) w') := Lib.hid (fun w1 k => by have := HLo.out w1 k; rw [if_pos he0, if_pos he0, he0, HX.out] at this; exact this)
    have HE0 := Lib.hid he0
    clear he0
    go_upto_region 10 with (first | (go_at_call 61; refine (HSl.out _).mono ?_; rintro e w1 ⟨rfl, hb1⟩) | (go_at_call 62; refine (HL0.out _ (by repeat (first | exact Ext.refl _ | assumption | refine Ext.alloc ?_ _ | refine Ext.drew ?_ | refine Ext.setCell ?_ (by first | (simp; done) | (dsimp only; omega)) _ | refine Ext.trans ?_ (by assumption)))).mono ?_; rintro e w2 ⟨rfl, hE2⟩))
    have M2 : Hid (EndMem mb F w B M (T' ++ [s]) w2) := Lib.hid (EndMem.from ⟨HM'.out, HK'.out, HF'.out⟩ hb1 hE2)
    obtain ⟨F2, m2, k2, f2⟩ := hE2
    have hMx := HM'.out.ext hb1
    have hFr := (hR.out.1.ext hb1).keeps hMx k2
    have hS2 := (hR.out.2.2.1.ext hb1).keepsS hMx k2
    have hz2 := k2.size
    have hz1 := hb1.size
    have ho2 := heap_lt hFr.2.2
    have hp2 := heap_lt hFr.1
    have hq2 := heap_lt hFr.2.1
    have HSB : Hid (∀ (b : Nat) (c : Array Value) (e : TypeId), w2.heap[b]? = some (.cells c e (0, 0)) → e ≠ 65 → (Value.slice sa L.length sc).ownBlock ≠ some b) := Lib.hid (fun b c e hb he h => by
      obtain ⟨c', hc'⟩ := hS2.heap b h
      rw [hb] at hc'; simp only [Option.some.injEq, Obj.cells.injEq] at hc'; exact he hc'.2.1)
    have FR := Lib.hid hFr
    have HZ : Hid (∀ (b : Nat) (c : Array Value) (e : TypeId), w2.heap[b]? = some (.cells c e (0, 0)) → e ≠ 65 → ∀ w9 : World, World.grownBy (w2.alloc (.cells #[.int .i64 j, .int .u64 s, .int .u64 x] 65 (0, 0))) w9 (Value.slice sa L.length sc).ownBlock → w9.heap[b]? = some (.cells c e (0, 0))) := Lib.hid (fun b c e hb he w9 k9 =>
      (k9.block b (by rw [World.size_alloc]; have := heap_lt hb; omega) (fun h => HSB.out b c e hb he h.symm)).trans ((alloc_other _ _ (heap_lt hb)).trans hb))
    have HA := Lib.hid (hS2.ext ((Ext.refl w2).alloc (.cells #[.int .i64 j, .int .u64 s, .int .u64 x] 65 (0, 0))))
    have y0 := (heap_cell hFr.2.2 0).trans rfl
    have yf := frozen_of hFr.2.2
    clear hb1 k2 f2 m2 hMx hFr hS2 c0 c1 c2 c3 c4 c5
    go_upto_region 11 with (first | (at_builtin; refine wpList_append_owns rfl _ _ _ _ 3 24 stepRow rfl _ rfl L.length (rowS L) HA.out _ 1 1 rfl (Stp.cells ((j : Int), s, x)) rfl (fun j' u hu => by rw [add0, heap_cell (alloc_same w2 _) j']; simpa [Stp.cells] using hu) (by simp [Stp.cells, Value.oneCell']) (by unfold maxLen; omega) (by omega) ?_; intro v9 w9 q1 q2 q3; replace q2 : World.grownBy (w2.alloc (.cells #[.int .i64 j, .int .u64 s, .int .u64 x] 65 (0, 0))) w9 (Value.slice sa L.length sc).ownBlock := q2; replace q3 : v9.ownBlock = (Value.slice sa L.length sc).ownBlock ∨ v9.ownBlock = some (w2.alloc (.cells #[.int .i64 j, .int .u64 s, .int .u64 x] 65 (0, 0))).heap.size := q3; obtain ⟨a9, c9, rfl, -, -⟩ := q1.form; have z1 := HZ.out o _ _ FR.out.2.2 (by decide) w9 q2; have x2 := (heap_cell z1 0).trans rfl; have x3 := frozen_of z1; have ZO := Lib.hid z1; clear z1 y0 yf; simp only [Act.put, Array.set!_eq_setIfInBounds, List.setIfInBounds_toArray, List.set_cons_succ, List.set_cons_zero]))
    refine wp_gen ?_; intro U hU
    have ZP := HZ.out p _ _ FR.out.1 (by decide) w9 q2
    have ZQ := HZ.out q _ _ FR.out.2.1 (by decide) w9 q2
    have hUF : Fr U p q o n t' r' (.slice a9 (L.length + 1) c9) := by
      rw [hU]
      exact ⟨(setCell_heap _ _ _ _ _ npo.symm).trans ZP, (setCell_heap _ _ _ _ _ nqo.symm).trans ZQ, setCell_heap_same ZO.out⟩
    have hgo : ∀ g, (Value.slice a9 (L.length + 1) c9).ownBlock = some g → o ≠ g := fun g hg e => by
      obtain ⟨c, hc⟩ := q1.heap g hg
      rw [← e, ZO.out] at hc; simp at hc
    have hUS : Owns U 65 3 (.slice a9 (L.length + 1) c9) (L.length + 1) (rowS (L ++ [((j : Int), s, x)])) := by
      rw [hU, rowS_append, rowS_one]
      exact q1.keep fun g hg => setCell_heap _ _ _ _ _ (hgo g hg)
    have hUG : ∀ g, (Value.slice a9 (L.length + 1) c9).ownBlock = some g → w.heap.size ≤ g := fun g hg => by
      rcases q3 with q3 | q3 <;> rw [q3] at hg
      · exact hR.out.2.2.2.1 g hg
      · have := hR.out.2.2.2.2
        obtain ⟨_, _, kk, _⟩ := this
        have := kk.size
        simp only [World.size_alloc, Option.some.injEq] at hg; omega
    have hUM : EndMem mb F w B M (T' ++ [s]) U := by
      have e1 : EndMem mb F w B M (T' ++ [s]) (w2.alloc (.cells #[.int .i64 j, .int .u64 s, .int .u64 x] 65 (0, 0))) := M2.out.after ((Ext.refl _).alloc _)
      have e2 : EndMem mb F w B M (T' ++ [s]) w9 := e1.puts (G := (Value.slice sa L.length sc).ownBlock.toList) ((Keeps.refl _ _).grown q2 (fun x hx => .inl (by simpa using hx))) (fun x hx => by
        simp only [Option.mem_toList] at hx
        obtain ⟨c, hc⟩ := HA.out.heap x hx
        exact ⟨hR.out.2.2.2.1 x hx, c, _, hc, by decide, by decide, by decide⟩)
      rw [hU]
      exact e2.puts (G := [o]) ((Keeps.refl _ _).setCell (.inl (by simp)) _) (fun x hx => by simp only [List.mem_singleton] at hx; subst hx; exact ⟨wo0, _, _, ZO.out, by decide, by decide, by decide⟩)
    have UF := Lib.hid hUF
    have US := Lib.hid hUS
    have UG := Lib.hid hUG
    have UM := Lib.hid hUM
    clear hU hUF hUS hUG hUM q1 q2 q3 ZP ZQ ZO hgo FR HZ HSB HA M2 HLo HL0 HSl x2 x3 hz2 hz1 ho2 hp2 hq2 hpl hql hol
    obtain ⟨⟨c0, c1, c2, c3, c4, cf⟩, ⟨k0, k1, k2, k3, k4, k5, k6, kf⟩, ⟨y0, y1, y2, y3, y4, y5, y6, yf⟩⟩ := UF.out.facts
    obtain ⟨hpl, hql, hol⟩ := UF.out.lt
    have hb0 : (bits BinOp.and IntKind.u64 x 1 == 0) = !bitB x 0 := by
      have := bitE 0 (by omega) x0 x1
      have e : (bits BinOp.and IntKind.u64 x 1 != 0) = bitB x 0 := this
      rw [← e]; simp [bne]
    have hLU : ((L ++ [((j : Int), s, x)]).length : Int) = (L.length : Int) + 1 := by simp
    obtain ⟨L1, hL1⟩ : ∃ L1, L1 = L ++ [((j : Int), s, x)] := ⟨_, rfl⟩
    have HL1 := Aside.mk hL1
    have hLn : L.length + 1 = L1.length := by rw [hL1]; simp
    rw [← hL1] at US
    rw [hLn] at US UG
    have UM1 : Hid (EndMem mb F w B M (T ++ L1.map (·.2.1)) U) := Lib.hid (by rw [HL1.out, List.map_append, ← List.append_assoc, HT'.out]; exact UM.out)
    have O0 : Hid (U.heap[o]? = some (.cells #[.slice a9 L1.length c9, .int .i64 2, .bool false, .bool false, .bool false, .int .i64 0, .int .u64 0] 38 (0, 0))) := Lib.hid (by rw [← hLn]; exact UF.out.2.2)
    have Q0 : Hid (U.heap[q]? = some (.cells #[.slice none 0 0, .int .i64 0, .bool false, .bool false, .bool false, .int .i64 0, .int .u64 0] 38 (0, 0))) := Lib.hid UF.out.2.1
    clear hL1 hLU
    cases hp : bitB x 0
    · rw [hp] at hb0
      have W1 : Hid (walkF M B nxe a n t (ra, rb, rc) = (L1, 1, (false, false, false), 0, 0)) := Lib.hid (by rw [hR.out.2.1, walkJ_absent hj1 HS.out HX.out HE0.out hp, HL1.out]; rfl)
      have O1 : Hid ((U.setCell ⟨o, 1, none⟩ (.int .i64 1)).heap[o]? = some (.cells #[.slice a9 L1.length c9, .int .i64 1, .bool false, .bool false, .bool false, .int .i64 0, .int .u64 0] 38 (0, 0))) := Lib.hid (setCell_heap_same O0.out)
      have Q1 : Hid ((U.setCell ⟨o, 1, none⟩ (.int .i64 1)).heap[q]? = some (.cells #[.slice none 0 0, .int .i64 0, .bool false, .bool false, .bool false, .int .i64 0, .int .u64 0] 38 (0, 0))) := Lib.hid ((setCell_heap _ _ _ _ _ nqo.symm).trans Q0.out)
      have S1 : Hid (Owns (U.setCell ⟨o, 1, none⟩ (.int .i64 1)) 65 3 (.slice a9 L1.length c9) L1.length (rowS L1)) := Lib.hid (US.out.keep fun g hg => setCell_heap _ o 1 g _ (fun e => by
        obtain ⟨c, hc⟩ := US.out.heap g hg
        rw [← e, O0.out] at hc; simp at hc))
      have M1 : Hid (EndMem mb F w B M (T ++ L1.map (·.2.1)) (U.setCell ⟨o, 1, none⟩ (.int .i64 1))) := Lib.hid (UM1.out.puts (G := [o]) ((Keeps.refl _ _).setCell (.inl (by simp)) _) (fun x hx => by simp only [List.mem_singleton] at hx; subst hx; exact ⟨wo0, _, _, O0.out, by decide, by decide, by decide⟩))
      have G1 := UG
      clear hp c0 c1 c2 c3 c4 cf k0 k1 k2 k3 k4 k5 k6 kf y2 y3 y4 y5 y6
      obtain ⟨a1, ha1'⟩ : ∃ a1, a1 = a9 := ⟨_, rfl⟩
      obtain ⟨e1, he1'⟩ : ∃ e1, e1 = c9 := ⟨_, rfl⟩
      subst ha1' he1'
      clear y0 y1 yf
      have y1 := (heap_cell O0.out 1).trans rfl
      have yf := frozen_of O0.out
      go_upto_region 18 with (fail)
      refine wp_gen ?_; intro U1 hU1
      rw [← hU1] at O1 Q1 S1 M1
      clear hU1 y1 yf hpl hql hol
      have y0 := (heap_cell O1.out 0).trans rfl
      have y1 := (heap_cell O1.out 1).trans rfl
      have y2 := (heap_cell O1.out 2).trans rfl
      have y3 := (heap_cell O1.out 3).trans rfl
      have y4 := (heap_cell O1.out 4).trans rfl
      have y5 := (heap_cell O1.out 5).trans rfl
      have y6 := (heap_cell O1.out 6).trans rfl
      have k0 := (heap_cell Q1.out 0).trans rfl
      have k1 := (heap_cell Q1.out 1).trans rfl
      have k2 := (heap_cell Q1.out 2).trans rfl
      have k3 := (heap_cell Q1.out 3).trans rfl
      have k4 := (heap_cell Q1.out 4).trans rfl
      have k5 := (heap_cell Q1.out 5).trans rfl
      have k6 := (heap_cell Q1.out 6).trans rfl
      have kf := frozen_of Q1.out
      have hql := heap_lt Q1.out
      have hol := heap_lt O1.out
      go_wp2
      (try rw [Exit.noGoto_ret])
      refine post_gen (fun X => X.heap[q]? = some (.cells #[.slice a1 L1.length e1, .int .i64 1, .bool false, .bool false, .bool false, .int .i64 0, .int .u64 0] 38 (0, 0)) ∧ Owns X 65 3 (.slice a1 L1.length e1) L1.length (rowS L1) ∧ EndMem mb F w B M (T ++ L1.map (·.2.1)) X) ⟨store7_heap Q1.out, ?_, ?_⟩ ?_
      · refine S1.out.keep fun g hg => ?_
        obtain ⟨c, hc⟩ := S1.out.heap g hg
        exact store7_other (fun e => by rw [← e, Q1.out] at hc; simp at hc)
      · exact M1.out.puts keepsQ (fun x hx => by simp only [List.mem_singleton] at hx; subst hx; exact ⟨wq0, _, _, Q1.out, by decide, by decide, by decide⟩)
      rintro X ⟨m5, o5, e5⟩
      have v0 := (heap_cell m5 0).trans rfl
      have v1 := (heap_cell m5 1).trans rfl
      have v2 := (heap_cell m5 2).trans rfl
      have v3 := (heap_cell m5 3).trans rfl
      have v4 := (heap_cell m5 4).trans rfl
      have v5 := (heap_cell m5 5).trans rfl
      have v6 := (heap_cell m5 6).trans rfl
      have O5 := Lib.hid o5
      have E5 := Lib.hid e5
      clear m5 o5 e5 y0 y1 y2 y3 y4 y5 y6 k0 k1 k2 k3 k4 k5 k6 kf
      rw [← HE.out, W1.out]
      refine bodyPost_ret (by simp [results, Try.results16, go_sem, ↓IntWalk.iteOmega, *]; try rfl) rfl ⟨.slice a1 L1.length e1, rfl, O5.out, E5.out, G1.out⟩
    · rw [hp] at hb0
      have HRs := Lib.hid (fun w => entReserved_c x j B nxe w (by omega) (by omega) x0 x1 hB0 hB1)
      have HBi : Hid (∀ w1, Ext U w1 → Calls Try.prog 64 #[.pointer (some ⟨mb, 0, none⟩)] w1 fun e w' => e = .returned (.int .i64 B) ∧ Ext w1 w') := Lib.hid (fun w1 k => by
        obtain ⟨F3, m3, _, _⟩ := UM1.out
        exact bits_c mb F3 B M _ w1 (m3.ext k))
      cases hr : resI x j B nxe
      · rw [hr] at HRs
        have HLf := Lib.hid (fun w => entLeaf_c x j w x0 x1)
        have HTb := Lib.hid (fun w => entTable_c x w x0 x1)
        have HFm := Lib.hid (fun w => entFrame_c x j w (by omega) (by omega) x0 x1)
        obtain ⟨r0, r1, r2⟩ := r'
        have HAn := Lib.hid (fun w => rightAndE_c r0 r1 r2 x w x0 x1)
        have HR0 := Lib.hid hr
        have HP0 := Lib.hid hp
        clear hp
        have htl := tabI_le x0
        have HAR : Hid (andR (r0, r1, r2) x = (r0 && bitB x 1, r1 && bitB x 2, r2 && !bitB x 63)) := Lib.hid rfl
        generalize (r0 && bitB x 1) = s0 at HAn HAR
        generalize (r1 && bitB x 2) = s1 at HAn HAR
        generalize (r2 && !bitB x 63) = s2 at HAn HAR
        clear hr cf k0 k1 k2 k3 k4 k5 k6 kf y0 y1 y2 y3 y4 y5 y6 yf c0 c1 c2 c3 c4
        go_upto_region 14 with (first | (go_at_call 64; refine (HBi.out _ (by repeat (first | exact Ext.refl _ | assumption | refine Ext.alloc ?_ _ | refine Ext.drew ?_ | refine Ext.setCell ?_ (by first | (simp; done) | (dsimp only; omega)) _ | refine Ext.trans ?_ (by assumption)))).mono ?_; rintro e w3 ⟨rfl, hb3⟩) | (go_at_call 63; refine (HRs.out _).mono ?_; rintro e w4 ⟨rfl, hb4⟩))
        have E4 : Ext U w4 := Ext.trans (by repeat (first | exact Ext.refl _ | assumption | refine Ext.alloc ?_ _ | refine Ext.drew ?_ | refine Ext.setCell ?_ (by first | (simp; done) | (dsimp only; omega)) _ | refine Ext.trans ?_ (by assumption))) hb4
        rw [hLn] at UF
        have UF4 : Hid (Fr w4 p q o n t' (r0, r1, r2) (.slice a9 L1.length c9)) := Lib.hid (UF.out.ext E4)
        have US4 := Lib.hid (US.out.ext E4)
        have UM4 := Lib.hid (UM1.out.after E4)
        obtain ⟨⟨-, -, c2, c3, c4, -⟩, -, -⟩ := UF4.out.facts
        have hpl4 := UF4.out.lt.1
        clear hb3 hb4 E4 hpl hql hol
        go_upto_region 15 with (first | (go_at_call 65; refine (HAn.out _).mono ?_; rintro e w5 ⟨rfl, hb5⟩; have z5 := (UF4.out.ext hb5).1; have d2 := (heap_cell z5 2).trans rfl; have d3 := (heap_cell z5 3).trans rfl; have d4 := (heap_cell z5 4).trans rfl; have df := frozen_of z5; have hpl5 := heap_lt z5; have Z5 := Lib.hid (UF4.out.ext hb5); clear z5))
        refine wp_gen ?_; intro U5 hU5
        have UF5 : Hid (Fr U5 p q o n t' (s0, s1, s2) (.slice a9 L1.length c9)) := Lib.hid (by
          rw [hU5]
          exact ⟨setCell_heap_same (setCell_heap_same (setCell_heap_same Z5.out.1)), (setCell_heap _ _ _ _ _ npq).trans ((setCell_heap _ _ _ _ _ npq).trans ((setCell_heap _ _ _ _ _ npq).trans Z5.out.2.1)), (setCell_heap _ _ _ _ _ npo).trans ((setCell_heap _ _ _ _ _ npo).trans ((setCell_heap _ _ _ _ _ npo).trans Z5.out.2.2))⟩)
        have US5 : Hid (Owns U5 65 3 (.slice a9 L1.length c9) L1.length (rowS L1)) := Lib.hid (by
          rw [hU5]
          refine (US4.out.ext hb5).keep fun g hg => ?_
          have hne : p ≠ g := fun e => by
            obtain ⟨c, hc⟩ := (US4.out.ext hb5).heap g hg
            rw [← e, Z5.out.1] at hc; simp at hc
          exact (setCell_heap _ _ _ _ _ hne).trans ((setCell_heap _ _ _ _ _ hne).trans (setCell_heap _ _ _ _ _ hne))
          )
        have UM5 : Hid (EndMem mb F w B M (T ++ L1.map (·.2.1)) U5) := Lib.hid (by
          rw [hU5]
          exact (UM4.out.after hb5).puts (G := [p]) ((((Keeps.refl _ _).setCell (.inl (by simp)) _).setCell (.inl (by simp)) _).setCell (.inl (by simp)) _) (fun x hx => by simp only [List.mem_singleton] at hx; subst hx; exact ⟨wp0, _, _, Z5.out.1, by decide, by decide, by decide⟩))
        clear hU5 hb5 Z5 d2 d3 d4 df c2 c3 c4 hpl4 hpl5 UF4 US4 UM4 UM US UF UM1
        cases hl : leafI x j
        · have WO : Hid (walkF M B nxe a n t (ra, rb, rc) = (L1 ++ (walkF M B nxe a (j - 1) (tabI x) (andR (r0, r1, r2) x)).1, (walkF M B nxe a (j - 1) (tabI x) (andR (r0, r1, r2) x)).2)) := Lib.hid (by rw [hR.out.2.1, walkJ_on hj1 HS.out HX.out HE0.out HP0.out HR0.out hl, HL1.out]; simp)
          rw [hl] at HLf
          generalize andR (r0, r1, r2) x = rr at WO HAR
          generalize tabI x = tb at WO HTb htl
          obtain ⟨tb0, tb1, -, -⟩ := htl
          clear hl
          go_upto_region 16 with (first | (go_at_call 66; refine (HLf.out _).mono ?_; rintro e w6 ⟨rfl, hb6⟩))
          have UF6 : Hid (Fr w6 p q o n t' (s0, s1, s2) (.slice a9 L1.length c9)) := Lib.hid (UF5.out.ext hb6)
          have US6 := Lib.hid (US5.out.ext hb6)
          have UM6 := Lib.hid (UM5.out.after hb6)
          clear hb6
          go_wp2_with (first | (go_at_call 68; refine (HTb.out _).mono ?_; rintro e w7 ⟨rfl, hb7⟩; have z7 := (UF6.out.ext hb7).1; have d1 := (heap_cell z7 1).trans rfl; have df := frozen_of z7; have hpl7 := heap_lt z7; have Z7 := Lib.hid (UF6.out.ext hb7); clear z7))
          refine ⟨⟨j - 1, tb, (s0, s1, s2), L1, a9, c9, by omega, by rw [show ((j - 1 : Nat) : Int) = (j : Int) - 1 by omega], tb0, by omega, by omega, Lib.hid ⟨⟨setCell_heap_same Z7.out.1, (setCell_heap _ _ _ _ _ npq).trans Z7.out.2.1, (setCell_heap _ _ _ _ _ npo).trans Z7.out.2.2⟩, by rw [WO.out, HAR.out], (US6.out.ext hb7).keep fun g hg => setCell_heap _ p 1 g _ (fun e => by
            obtain ⟨c, hc⟩ := (US6.out.ext hb7).heap g hg
            rw [← e, Z7.out.1] at hc; simp at hc), UG.out, (UM6.out.after hb7).puts (G := [p]) ((Keeps.refl _ _).setCell (.inl (by simp)) _) (fun x hx => by simp only [List.mem_singleton] at hx; subst hx; exact ⟨wp0, _, _, Z7.out.1, by decide, by decide, by decide⟩)⟩⟩, by simp [intOf]; omega⟩
        · have W1 : Hid (walkF M B nxe a n t (ra, rb, rc) = (L1, 0, (s0, s1, s2), (j : Int), frameI x j)) := Lib.hid (by rw [hR.out.2.1, walkJ_leaf hj1 HS.out HX.out HE0.out HP0.out HR0.out hl, HL1.out, HAR.out])
          rw [hl] at HLf
          generalize frameI x j = fr at HFm W1
          clear hl
          go_upto_region 16 with (first | (go_at_call 66; refine (HLf.out _).mono ?_; rintro e w6 ⟨rfl, hb6⟩))
          have UF6 : Hid (Fr w6 p q o n t' (s0, s1, s2) (.slice a9 L1.length c9)) := Lib.hid (UF5.out.ext hb6)
          have US6 := Lib.hid (US5.out.ext hb6)
          have UM6 := Lib.hid (UM5.out.after hb6)
          obtain ⟨⟨-, -, c2, c3, c4, -⟩, -, ⟨y0, -, -, -, -, -, -, -⟩⟩ := UF6.out.facts
          obtain ⟨hpl6, hql6, hol6⟩ := UF6.out.lt
          clear hb6
          refine region_ext_tail 9 (by kernel_rfl) (by kernel_rfl) ?_; simp only [List.take_succ_cons, List.take_zero, List.drop_succ_cons, List.drop_zero]; (repeat (go_big_quiet_step (first | (go_at_call 67; exact calls_wext (HFm.out _))))); refine wpQuiet_nil ?_; intro w1 hb; have ⟨hc, hf, hh, hs⟩ := hb.facts; try simp only [World.size_alloc, World.size_setCell, World.size_drew] at hs
          have E8 := Lib.hid hb
          have Z8 := (hb.block _ hql6).trans UF6.out.2.1
          have k0 := (heap_cell Z8 0).trans rfl
          have k1 := (heap_cell Z8 1).trans rfl
          have k2 := (heap_cell Z8 2).trans rfl
          have k3 := (heap_cell Z8 3).trans rfl
          have k4 := (heap_cell Z8 4).trans rfl
          have k5 := (heap_cell Z8 5).trans rfl
          have k6 := (heap_cell Z8 6).trans rfl
          have kf := frozen_of Z8
          have hql8 := heap_lt Z8
          have Q8 := Lib.hid Z8
          clear Z8 hb hc hf hh c2 c3 c4 y0
          go_wp2
          (try rw [Exit.noGoto_ret])
          refine post_gen (fun X => X.heap[q]? = some (.cells #[.slice a9 L1.length c9, .int .i64 0, .bool s0, .bool s1, .bool s2, .int .i64 j, .int .u64 fr] 38 (0, 0)) ∧ Owns X 65 3 (.slice a9 L1.length c9) L1.length (rowS L1) ∧ EndMem mb F w B M (T ++ L1.map (·.2.1)) X) ⟨store7_heap Q8.out, ?_, ?_⟩ ?_
          · refine (US6.out.ext E8.out).keep fun g hg => ?_
            obtain ⟨c, hc⟩ := (US6.out.ext E8.out).heap g hg
            exact store7_other (fun e => by rw [← e, Q8.out] at hc; simp at hc)
          · exact (UM6.out.after E8.out).puts keepsQ (fun x hx => by simp only [List.mem_singleton] at hx; subst hx; exact ⟨wq0, _, _, Q8.out, by decide, by decide, by decide⟩)
          rintro X ⟨m5, o5, e5⟩
          have v0 := (heap_cell m5 0).trans rfl
          have v1 := (heap_cell m5 1).trans rfl
          have v2 := (heap_cell m5 2).trans rfl
          have v3 := (heap_cell m5 3).trans rfl
          have v4 := (heap_cell m5 4).trans rfl
          have v5 := (heap_cell m5 5).trans rfl
          have v6 := (heap_cell m5 6).trans rfl
          have O5 := Lib.hid o5
          have E5 := Lib.hid e5
          clear m5 o5 e5 k0 k1 k2 k3 k4 k5 k6 kf
          rw [← HE.out, W1.out]
          refine bodyPost_ret (by simp [results, Try.results16, go_sem, ↓IntWalk.iteOmega, *]; try rfl) rfl ⟨.slice a9 L1.length c9, rfl, O5.out, E5.out, UG.out⟩
      · rw [hr] at HRs
        have W1 : Hid (walkF M B nxe a n t (ra, rb, rc) = (L1, 2, (false, false, false), 0, 0)) := Lib.hid (by rw [hR.out.2.1, walkJ_res hj1 HS.out HX.out HE0.out hp hr, HL1.out]; rfl)
        clear hp hr c0 c1 c2 c3 c4 cf k0 k1 k2 k3 k4 k5 k6 kf y0 y1 y2 y3 y4 y5 y6 yf
        go_upto_region 18 with (first | (go_at_call 64; refine (HBi.out _ (by repeat (first | exact Ext.refl _ | assumption | refine Ext.alloc ?_ _ | refine Ext.drew ?_ | refine Ext.setCell ?_ (by first | (simp; done) | (dsimp only; omega)) _ | refine Ext.trans ?_ (by assumption)))).mono ?_; rintro e w3 ⟨rfl, hb3⟩) | (go_at_call 63; refine (HRs.out _).mono ?_; rintro e w4 ⟨rfl, hb4⟩))
        have E4 : Ext U w4 := Ext.trans (by repeat (first | exact Ext.refl _ | assumption | refine Ext.alloc ?_ _ | refine Ext.drew ?_ | refine Ext.setCell ?_ (by first | (simp; done) | (dsimp only; omega)) _ | refine Ext.trans ?_ (by assumption))) hb4
        have O1 := Lib.hid ((E4.block _ hol).trans O0.out)
        have Q1 := Lib.hid ((E4.block _ hql).trans Q0.out)
        have S1 := Lib.hid (US.out.ext E4)
        have M1 := Lib.hid (UM1.out.after E4)
        have G1 := UG
        clear hb3 hb4 E4 hpl hql hol
        obtain ⟨a1, ha1'⟩ : ∃ a1, a1 = a9 := ⟨_, rfl⟩
        obtain ⟨e1, he1'⟩ : ∃ e1, e1 = c9 := ⟨_, rfl⟩
        subst ha1' he1'
        have y0 := (heap_cell O1.out 0).trans rfl
        have y1 := (heap_cell O1.out 1).trans rfl
        have y2 := (heap_cell O1.out 2).trans rfl
        have y3 := (heap_cell O1.out 3).trans rfl
        have y4 := (heap_cell O1.out 4).trans rfl
        have y5 := (heap_cell O1.out 5).trans rfl
        have y6 := (heap_cell O1.out 6).trans rfl
        have k0 := (heap_cell Q1.out 0).trans rfl
        have k1 := (heap_cell Q1.out 1).trans rfl
        have k2 := (heap_cell Q1.out 2).trans rfl
        have k3 := (heap_cell Q1.out 3).trans rfl
        have k4 := (heap_cell Q1.out 4).trans rfl
        have k5 := (heap_cell Q1.out 5).trans rfl
        have k6 := (heap_cell Q1.out 6).trans rfl
        have kf := frozen_of Q1.out
        have hql := heap_lt Q1.out
        have hol := heap_lt O1.out
        go_wp2
        (try rw [Exit.noGoto_ret])
        refine post_gen (fun X => X.heap[q]? = some (.cells #[.slice a1 L1.length e1, .int .i64 2, .bool false, .bool false, .bool false, .int .i64 0, .int .u64 0] 38 (0, 0)) ∧ Owns X 65 3 (.slice a1 L1.length e1) L1.length (rowS L1) ∧ EndMem mb F w B M (T ++ L1.map (·.2.1)) X) ⟨store7_heap Q1.out, ?_, ?_⟩ ?_
        · refine S1.out.keep fun g hg => ?_
          obtain ⟨c, hc⟩ := S1.out.heap g hg
          exact store7_other (fun e => by rw [← e, Q1.out] at hc; simp at hc)
        · exact M1.out.puts keepsQ (fun x hx => by simp only [List.mem_singleton] at hx; subst hx; exact ⟨wq0, _, _, Q1.out, by decide, by decide, by decide⟩)
        rintro X ⟨m5, o5, e5⟩
        have v0 := (heap_cell m5 0).trans rfl
        have v1 := (heap_cell m5 1).trans rfl
        have v2 := (heap_cell m5 2).trans rfl
        have v3 := (heap_cell m5 3).trans rfl
        have v4 := (heap_cell m5 4).trans rfl
        have v5 := (heap_cell m5 5).trans rfl
        have v6 := (heap_cell m5 6).trans rfl
        have O5 := Lib.hid o5
        have E5 := Lib.hid e5
        clear m5 o5 e5 y0 y1 y2 y3 y4 y5 y6 k0 k1 k2 k3 k4 k5 k6 kf
        rw [← HE.out, W1.out]
        refine bodyPost_ret (by simp [results, Try.results16, go_sem, ↓IntWalk.iteOmega, *]; try rfl) rfl ⟨.slice a1 L1.length e1, rfl, O5.out, E5.out, G1.out⟩

end Go.Proofs.Ytfaekfdngkpkdaa
/- What was loaded: a copy of it; where a walk begins. -/
namespace Go.Proofs.Ytfaekfdngkpkdaa
set_option linter.unusedVariables false
set_option linter.unusedSimpArgs false
open Go.RowKit
attribute [local go_sem] wext_cell wext_frozen wext_heap alloc_cell alloc_frozen alloc_heap setCell_cell objCell_cells objFrozen_cells

/-- A copy of these words. -/
def EndWords (w : World) (ks : List Int) (e : Ending) (w' : World) : Prop :=
  ∃ v', e = .returned v' ∧ Owns w' 23 1 v' ks.length (ks.map (.int .u64 ·)) ∧ Ext w w' ∧ ∀ g, v'.ownBlock = some g → w.heap.size ≤ g

theorem cloneW_c (ks : List Int) (v : Value) (w : World) (ho : Owns w 23 1 v ks.length (ks.map (.int .u64 ·))) (hl : ks.length ≤ 1000000) :
    Calls Try.prog 104 #[v] w (EndWords w ks) := by
  have HO := Lib.hid ho
  have qT : ∀ (w : World) (a : Option Addr) (n c n' c' : Nat), (binOp .eql 32 (.slice a n c) (.slice none n' c')).run Try.prog w = .ok (.bool a.isNone) w := fun w a n c n' c' => Lib.run_eql_slice_nil w _ _ a n c n' c' Try.underlying32
  rcases ho.2 with ⟨rfl, h0⟩ | ⟨g, cap, cur, rfl, hg, hn, hm, hcs, htake⟩
  · go_enter Try.func104, Try.ntmps104
    clear ho h0
    go_wp2
    all_goals
      go_ret
      exact ⟨_, rfl, HO.out, (by repeat (first | exact Ext.refl _ | assumption | refine Ext.alloc ?_ _ | refine Ext.drew ?_ | refine Ext.setCell ?_ (by first | (simp; done) | (dsimp only; omega)) _ | refine Ext.trans ?_ (by assumption))), fun g hg => by cases hg⟩
  · go_enter Try.func104, Try.ntmps104
    unfold maxLen at hm
    clear ho htake hcs hg
    have hcl : ∀ j u, (ks.map (Value.int .u64 ·))[j]? = some u → (w.alloc (.cells #[] 23)).cell? ((⟨g, 0, none⟩ : Addr).add j) = some u := fun j u hu => by
      rw [add0, alloc_cell, if_pos (HO.out.lt g rfl)]; exact HO.out.cells rfl j u hu
    go_wp2_with (first | (at_builtin; refine wpList_append_owns rfl _ _ _ _ 1 8 wordRow rfl _ rfl 0 [] (Owns.fresh (c := #[]) (by rw [alloc_heap]; simp)) _ _ _ rfl (ks.map (Value.int .u64 ·)) (by simp) hcl (by simp [Value.oneCell']) (by unfold maxLen; omega) (by omega) ?_; intro v1 w1 q1 q2 q3; replace q2 : (w.alloc (.cells #[] 23)).grownBy w1 (some w.heap.size) := q2; replace q3 : v1.ownBlock = some w.heap.size ∨ v1.ownBlock = some (w.alloc (.cells #[] 23)).heap.size := q3))
    all_goals
      go_ret
      refine ⟨_, rfl, ?_, ?_, ?_⟩
      · show Owns w1 _ 1 v1 _ _
        simpa using q1
      · refine Keeps.to_ext (F := []) (Ext.refl w) ?_ (by simp)
        exact ((Keeps.of_ext ((Ext.refl w).alloc _)).grown q2 (fun x hx => .inr (by cases hx; exact Nat.le_refl _)))
      · intro g hg
        replace hg : v1.ownBlock = some g := hg
        rcases q3 with q3 | q3 <;> rw [q3] at hg <;> cases hg <;> simp
theorem trace_c (mb : Nat) (F : List Nat) (B : Int) (M : Int → Int) (T : List Int) (w : World) (h : MemAt w mb F B M T) (hT : T.length ≤ 1000000) :
    Calls Try.prog 51 #[.pointer (some ⟨mb, 0, none⟩)] w (EndWords w T) := by
  obtain ⟨pb, tv, es, clock, PL, p1, -, -, -, -, -, -, -, p9, -, -⟩ := h
  obtain ⟨ta, tc, rfl, -, -⟩ := p9.form
  have c2 := (heap_cell p1 2).trans rfl
  have hlt := heap_lt p1
  have HC := Lib.hid (fun w' (k : Ext w w') => cloneW_c T _ w' (p9.ext k) hT)
  generalize hE : EndWords w T = E
  have HE := Lib.hid hE
  clear hE p1 p9
  go_enter Try.func51, Try.ntmps51
  go_wp2_with (first | (go_at_call 104; refine (HC.out _ (by repeat (first | exact Ext.refl _ | assumption | refine Ext.alloc ?_ _ | refine Ext.drew ?_ | refine Ext.setCell ?_ (by first | (simp; done) | (dsimp only; omega)) _ | refine Ext.trans ?_ (by assumption)))).mono ?_; rintro e w1 ⟨v', rfl, q1, q2, q3⟩))
  all_goals
    (try go_ret)
    rw [← HE.out]
    exact ⟨v', rfl, q1, q2, q3⟩
theorem wTop_c (root : Int) (w : World) (h0 : 0 ≤ root) (h1 : root ≤ 18446744073709551615) :
    Calls Try.prog 28 #[.int .u64 root] w fun e w' => e = .returned (.agg #[.int .i64 4, .int .u64 (tabI root), .bool true, .bool true, .bool true]) ∧ Ext w w' := by
  have HT := Lib.hid (fun w => entTable_c root w h0 h1)
  generalize tabI root = tb at HT
  go_enter Try.func28, Try.ntmps28
  go_wp2_with (first | (go_at_call 68; refine (HT.out _).mono ?_; rintro e w1 ⟨rfl, hb1⟩; have ⟨hc, hf, hh, hs⟩ := hb1.facts; try simp only [World.size_alloc, World.size_setCell, World.size_drew] at hs) | (go_at_call 42; refine (rightAllE_c _).mono ?_; rintro e w2 ⟨rfl, hb2⟩; have ⟨hc, hf, hh, hs2⟩ := hb2.facts; try simp only [World.size_alloc, World.size_setCell, World.size_drew] at hs2))
  have B1 := (hb1.block w.heap.size (by simp)).trans (alloc_same ..)
  have B2 := (hb2.block w.heap.size (heap_lt B1)).trans B1
  have E2 : Ext w w2 := Ext.trans (by repeat (first | exact Ext.refl _ | assumption | refine Ext.alloc ?_ _ | refine Ext.drew ?_ | refine Ext.setCell ?_ (by first | (simp; done) | (dsimp only; omega)) _ | refine Ext.trans ?_ (by assumption))) hb2
  refine post_gen (fun U => U.heap[w.heap.size]? = some (.cells #[.int .i64 4, .int .u64 tb, .bool true, .bool true, .bool true] 41 (0, 0)) ∧ Ext w U) ⟨setCell_heap_same (setCell_heap_same (setCell_heap_same (setCell_heap_same (setCell_heap_same B2)))), Ext.setCell (Ext.setCell (Ext.setCell (Ext.setCell (Ext.setCell E2 (by simp) _) (by simp) _) (by simp) _) (by simp) _) (by simp) _⟩ ?_
  clear hc hf hh hs hs2 hb1 hb2 B1 B2 E2
  rintro U ⟨m5, e5⟩
  have v0 := (heap_cell m5 0).trans rfl
  have v1 := (heap_cell m5 1).trans rfl
  have v2 := (heap_cell m5 2).trans rfl
  have v3 := (heap_cell m5 3).trans rfl
  have v4 := (heap_cell m5 4).trans rfl
  clear m5
  refine bodyPost_ret (by simp [results, Try.results28, go_sem, ↓IntWalk.iteOmega, *]; try rfl) rfl ⟨rfl, e5⟩
end Go.Proofs.Ytfaekfdngkpkdaa
/- A law's own memory: what its operations leave alone; paths in blocks. -/
namespace Go.Proofs.Ytfaekfdngkpkdaa
set_option linter.unusedVariables false
set_option linter.unusedSimpArgs false
open Go.RowKit
attribute [local go_sem] wext_cell wext_frozen wext_heap alloc_cell alloc_frozen alloc_heap setCell_cell objCell_cells objFrozen_cells

/-- What came before a base, and what is no memory's, is as it was. -/
def Sep (base : Nat) (U V : World) : Prop :=
  Below base U V ∧ ∀ (b : Nat) (c : Array Value) (e : TypeId), U.heap[b]? = some (.cells c e (0, 0)) → e ≠ 187 → e ≠ 23 → e ≠ 191 → V.heap[b]? = some (.cells c e (0, 0))
theorem Sep.of_ext {base : Nat} {U V : World} (k : Ext U V) (hb : base ≤ U.heap.size) : Sep base U V :=
  ⟨Below.mono k hb, fun b c e h _ _ _ => (k.block b (heap_lt h)).trans h⟩
theorem Sep.size {base : Nat} {U V : World} (h : Sep base U V) : U.heap.size ≤ V.heap.size := Below.size h.1
theorem Sep.trans {base : Nat} {U V W : World} (h : Sep base U V) (k : Sep base V W) : Sep base U W :=
  ⟨Below.trans h.1 k.1, fun b c e hb h1 h2 h3 => k.2 b c e (h.2 b c e hb h1 h2 h3) h1 h2 h3⟩
theorem Sep.ext {base : Nat} {U V W : World} (h : Sep base U V) (k : Ext V W) (hb : base ≤ U.heap.size) : Sep base U W := h.trans (Sep.of_ext k (Nat.le_trans hb h.size))
theorem Sep.to_ext {U V : World} (h : Sep U.heap.size U V) : Ext U V := h.1

/-- A memory all whose blocks lie from a base on. -/
def MemIn (base : Nat) (U : World) (mb : Nat) (B : Int) (M : Int → Int) (T : List Int) : Prop := ∃ F, MemAt U mb F B M T ∧ ∀ x ∈ F, base ≤ x
theorem MemIn.ext {base : Nat} {U V : World} {mb : Nat} {B : Int} {M : Int → Int} {T : List Int} (h : MemIn base U mb B M T) (k : Ext U V) : MemIn base V mb B M T := by
  obtain ⟨F, h1, h2⟩ := h; exact ⟨F, h1.ext k, h2⟩
theorem MemIn.mono {base base' : Nat} {U : World} {mb : Nat} {B : Int} {M : Int → Int} {T : List Int} (h : MemIn base U mb B M T) (k : base' ≤ base) : MemIn base' U mb B M T := by
  obtain ⟨F, h1, h2⟩ := h; exact ⟨F, h1, fun x hx => Nat.le_trans k (h2 x hx)⟩
theorem MemIn.lt {base : Nat} {U : World} {mb : Nat} {B : Int} {M : Int → Int} {T : List Int} (h : MemIn base U mb B M T) : mb < U.heap.size := by
  obtain ⟨F, h1, h2⟩ := h; exact h1.head.2.1
theorem MemIn.wide {base : Nat} {U : World} {mb : Nat} {B : Int} {M : Int → Int} {T : List Int} (h : MemIn base U mb B M T) : ∀ s, 0 ≤ M s ∧ M s ≤ 18446744073709551615 := by
  obtain ⟨F, ⟨pb, tv, es, clock, PL, p1, p2, p3, p4, p5, p6, p7, p8, p9, -, p10⟩, -⟩ := h; exact p8
/-- Another memory, whose blocks lie below the base. -/
theorem MemAt.sep {base : Nat} {U V : World} {mb : Nat} {F : List Nat} {B : Int} {M : Int → Int} {T : List Int} (h : MemAt U mb F B M T) (k : Sep base U V) (hF : ∀ x ∈ F, x < base) : MemAt V mb F B M T :=
  h.keeps (G := (List.range U.heap.size).filter fun b => decide (base ≤ b)) ⟨k.1.os, k.1.tape, k.1.output, k.size, fun b hb hn => by
    have : b < base := by
      rcases Nat.lt_or_ge b base with q | q
      · exact q
      · exact absurd (List.mem_filter.2 ⟨List.mem_range.2 hb, by simpa using q⟩) hn
    exact Below.block k.1 b this⟩ (fun x hx hm => by
    have := hF x hx
    have h2 := (List.mem_filter.1 hm).2
    simp only [decide_eq_true_eq] at h2; omega)
theorem MemIn.sep {base base' : Nat} {U V : World} {mb : Nat} {B : Int} {M : Int → Int} {T : List Int} (h : MemIn base' U mb B M T) (k : Sep base U V) (hF : U.heap.size ≤ base) : MemIn base' V mb B M T := by
  obtain ⟨F, h1, h2⟩ := h
  exact ⟨F, h1.sep k fun x hx => Nat.lt_of_lt_of_le (h1.lt x hx) hF, h2⟩
theorem EndMem.sep {base : Nat} {U V : World} {mb : Nat} {F : List Nat} {B : Int} {M M' : Int → Int} {T T' : List Int} (m : MemAt U mb F B M T) (h : EndMem mb F U B M' T' V) (hF : ∀ x ∈ F, base ≤ x) (hb : base ≤ U.heap.size) : MemIn base V mb B M' T' ∧ Sep base U V := by
  obtain ⟨F', h1, h2, h3⟩ := h
  refine ⟨⟨F', h1, fun x hx => ?_⟩, ⟨h2.os, h2.tape, h2.output, h2.size, fun b hb => h2.block b (by omega) (fun hm => by have := hF b hm; omega)⟩, fun b c e hbb q1 q2 q3 => (h2.block b (heap_lt hbb) (m.apart hbb q1 q2 q3)).trans hbb⟩
  rcases h3 x hx with q | q
  · exact hF x q
  · omega

/-- A path as a value; in a block. -/
def PathV (U : World) (v : Value) (q : List Stp × WRes) : Prop :=
  ∃ sa sc, v = .agg #[.slice sa q.1.length sc, .int .i64 q.2.1, .bool q.2.2.1.1, .bool q.2.2.1.2.1, .bool q.2.2.1.2.2, .int .i64 q.2.2.2.1, .int .u64 q.2.2.2.2] ∧ Owns U 65 3 (.slice sa q.1.length sc) q.1.length (rowS q.1)
def PathAt (U : World) (b : Nat) (sa : Option Addr) (sc : Nat) (q : List Stp × WRes) : Prop :=
  U.heap[b]? = some (.cells #[.slice sa q.1.length sc, .int .i64 q.2.1, .bool q.2.2.1.1, .bool q.2.2.1.2.1, .bool q.2.2.1.2.2, .int .i64 q.2.2.2.1, .int .u64 q.2.2.2.2] 38 (0, 0)) ∧
    Owns U 65 3 (.slice sa q.1.length sc) q.1.length (rowS q.1)
theorem PathAt.ext {U V : World} {b : Nat} {sa : Option Addr} {sc : Nat} {q : List Stp × WRes} (h : PathAt U b sa sc q) (k : Ext U V) : PathAt V b sa sc q := ⟨(k.block b (heap_lt h.1)).trans h.1, h.2.ext k⟩
theorem PathAt.sep {base : Nat} {U V : World} {b : Nat} {sa : Option Addr} {sc : Nat} {q : List Stp × WRes} (h : PathAt U b sa sc q) (k : Sep base U V) : PathAt V b sa sc q :=
  ⟨k.2 _ _ _ h.1 (by decide) (by decide) (by decide), h.2.keep fun g hg => by
    obtain ⟨c, hc⟩ := h.2.heap g hg
    rw [hc]; exact k.2 _ _ _ hc (by decide) (by decide) (by decide)⟩
theorem PathAt.facts {U : World} {b : Nat} {sa : Option Addr} {sc : Nat} {q : List Stp × WRes} (h : PathAt U b sa sc q) :
    (U.cell? ⟨b, 0, none⟩ = some (.slice sa q.1.length sc) ∧ U.cell? ⟨b, 1, none⟩ = some (.int .i64 q.2.1) ∧ U.cell? ⟨b, 2, none⟩ = some (.bool q.2.2.1.1) ∧ U.cell? ⟨b, 3, none⟩ = some (.bool q.2.2.1.2.1) ∧ U.cell? ⟨b, 4, none⟩ = some (.bool q.2.2.1.2.2) ∧
      U.cell? ⟨b, 5, none⟩ = some (.int .i64 q.2.2.2.1) ∧ U.cell? ⟨b, 6, none⟩ = some (.int .u64 q.2.2.2.2)) ∧ b < U.heap.size :=
  ⟨⟨(heap_cell h.1 0).trans rfl, (heap_cell h.1 1).trans rfl, (heap_cell h.1 2).trans rfl, (heap_cell h.1 3).trans rfl, (heap_cell h.1 4).trans rfl, (heap_cell h.1 5).trans rfl, (heap_cell h.1 6).trans rfl⟩, heap_lt h.1⟩
def stpAt (L : List Stp) (i : Nat) : Stp := L.getD i (0, 0, 0)
theorem rowS_at : ∀ (L : List Stp) (i : Nat), i < L.length → ∀ j, j < 3 → (rowS L)[i * 3 + j]? = (Stp.cells (stpAt L i))[j]?
  | [], i, h, _, _ => by simp at h
  | x :: L, 0, h, j, hj => by
    simp only [rowS, List.flatMap_cons, Nat.zero_mul, Nat.zero_add]
    rw [List.getElem?_append_left (by simpa [Stp.cells] using hj)]; rfl
  | x :: L, i + 1, h, j, hj => by
    have h2 : i < L.length := by simpa using h
    have := rowS_at L i h2 j hj
    have e2 : stpAt (x :: L) (i + 1) = stpAt L i := by simp [stpAt]
    rw [e2, ← this, show (i + 1) * 3 + j = (i * 3 + j) + 3 by omega]
    simp [rowS, Stp.cells]
/-- The three cells of a step. -/
theorem Owns.step {U : World} {sa : Option Addr} {n sc : Nat} {L : List Stp} (h : Owns U 65 3 (.slice sa n sc) n (rowS L)) {i : Nat} (hi : i < L.length) (hn : n = L.length) :
    ∃ g, sa = some ⟨g, 0, none⟩ ∧ g < U.heap.size ∧ U.cell? ⟨g, i * 3, none⟩ = some (.int .i64 (stpAt L i).1) ∧ U.cell? ⟨g, i * 3 + 1, none⟩ = some (.int .u64 (stpAt L i).2.1) ∧ U.cell? ⟨g, i * 3 + 2, none⟩ = some (.int .u64 (stpAt L i).2.2) := by
  obtain ⟨g, hg⟩ : ∃ g, sa = some ⟨g, 0, none⟩ := by
    rcases h.2 with ⟨h1, h0⟩ | ⟨g, _, _, he, _⟩
    · omega
    · exact ⟨g, by injection he⟩
  subst hg
  have H := fun j hj u hu => h.cells (g := g) rfl (i * 3 + j) u ((rowS_at L i hi j hj).trans hu)
  exact ⟨g, rfl, h.lt g rfl, H 0 (by omega) _ rfl, H 1 (by omega) _ rfl, H 2 (by omega) _ rfl⟩

/-- A walk, for a law. -/
def EndWalkM (base mb : Nat) (B : Int) (M : Int → Int) (T : List Int) (q : List Stp × WRes) (U : World) (e : Ending) (V : World) : Prop :=
  ∃ sa sc, e = .returned (.agg #[.slice sa q.1.length sc, .int .i64 q.2.1, .bool q.2.2.1.1, .bool q.2.2.1.2.1, .bool q.2.2.1.2.2, .int .i64 q.2.2.2.1, .int .u64 q.2.2.2.2]) ∧ Owns V 65 3 (.slice sa q.1.length sc) q.1.length (rowS q.1) ∧
    MemIn base V mb B M (T ++ q.1.map (·.2.1)) ∧ Sep base U V
theorem from_m (base mb : Nat) (B : Int) (M : Int → Int) (T : List Int) (n : Nat) (t : Int) (r : Rt) (a : Int) (nxe : Bool) (U : World) (h : MemIn base U mb B M T) (hb : base ≤ U.heap.size)
    (hl1 : n ≤ 4) (ht0 : 0 ≤ t) (ht1 : t ≤ 18446744073709551615) (ha0 : 0 ≤ a) (ha1 : a ≤ 18446744073709551615) (hT : T.length ≤ 900000) :
    Calls Try.prog 16 #[.pointer (some ⟨mb, 0, none⟩), .agg #[.int .i64 n, .int .u64 t, .bool r.1, .bool r.2.1, .bool r.2.2], .int .u64 a, .bool nxe] U (EndWalkM base mb B M T (walkF M B nxe a n t r) U) := by
  obtain ⟨F, h1, h2⟩ := h
  obtain ⟨r0, r1, r2⟩ := r
  refine (from_c mb F B M T n t r0 r1 r2 a nxe U h1 hl1 ht0 ht1 ha0 ha1 hT).mono fun e V h => ?_
  obtain ⟨v, q1, q2, q3, q4⟩ := h
  have ⟨k1, k2⟩ := EndMem.sep h1 q3 h2 hb
  obtain ⟨sa, sc, rfl, -, -⟩ := q2.form
  exact ⟨sa, sc, q1, q2, k1, k2⟩
theorem new_m (B : Int) (U : World) (hB : 14 ≤ B ∧ B ≤ 22) : Calls Try.prog 56 #[.int .i64 B] U fun e V => ∃ mb, e = .returned (.pointer (some ⟨mb, 0, none⟩)) ∧ MemIn U.heap.size V mb B (fun _ => 0) [] ∧ Ext U V :=
  (memNew_c B U hB).mono fun e V h => by
    obtain ⟨mb, F, q1, q2, q3, q4⟩ := h
    exact ⟨mb, q1, ⟨F, q2, q4⟩, q3⟩
theorem trace_m (base mb : Nat) (B : Int) (M : Int → Int) (T : List Int) (U : World) (h : MemIn base U mb B M T) (hT : T.length ≤ 1000000) : Calls Try.prog 51 #[.pointer (some ⟨mb, 0, none⟩)] U (EndWords U T) := by
  obtain ⟨F, h1, h2⟩ := h
  exact trace_c mb F B M T U h1 hT
theorem peek_m (base mb : Nat) (B : Int) (M : Int → Int) (T : List Int) (a : Int) (U : World) (h : MemIn base U mb B M T) (h0 : 0 ≤ a) (h1 : a ≤ 18446744073709551615) :
    Calls Try.prog 55 #[.pointer (some ⟨mb, 0, none⟩), .int .u64 a] U fun e w' => e = .returned (.tuple #[.int .u64 (if errM B a = 0 then M (a / 8) else 0), .int .i64 (errM B a)]) ∧ Ext U w' := by
  obtain ⟨F, k1, k2⟩ := h
  exact peek_c mb F B M T a U k1 h0 h1
end Go.Proofs.Ytfaekfdngkpkdaa
/- Memories of a law's own, side by side: what the operations of one leave alone, by a set of blocks. -/
namespace Go.Proofs.Ytfaekfdngkpkdaa
set_option linter.unusedVariables false
set_option linter.unusedSimpArgs false
open Go.RowKit
attribute [local go_sem] wext_cell wext_frozen wext_heap alloc_cell alloc_frozen alloc_heap setCell_cell objCell_cells objFrozen_cells

/-- All blocks from n on. -/
def Up (P : Nat → Prop) (n : Nat) : Prop := ∀ x, n ≤ x → P x
theorem Up.mono {P : Nat → Prop} {n m : Nat} (h : Up P n) (k : n ≤ m) : Up P m := fun x hx => h x (Nat.le_trans k hx)
/-- What is not of the set, and what is no memory's, is as it was. -/
def SepP (P : Nat → Prop) (U V : World) : Prop :=
  (V.os = U.os ∧ V.tape = U.tape ∧ V.output = U.output ∧ U.heap.size ≤ V.heap.size ∧ ∀ b, b < U.heap.size → ¬ P b → V.heap[b]? = U.heap[b]?) ∧
    ∀ (b : Nat) (c : Array Value) (e : TypeId), U.heap[b]? = some (.cells c e (0, 0)) → e ≠ 187 → e ≠ 23 → e ≠ 191 → V.heap[b]? = some (.cells c e (0, 0))
theorem SepP.of_ext {P : Nat → Prop} {U V : World} (k : Ext U V) : SepP P U V :=
  ⟨⟨k.os, k.tape, k.output, k.size, fun b hb _ => k.block b hb⟩, fun b c e h _ _ _ => (k.block b (heap_lt h)).trans h⟩
theorem SepP.size {P : Nat → Prop} {U V : World} (h : SepP P U V) : U.heap.size ≤ V.heap.size := h.1.2.2.2.1
theorem SepP.trans {P : Nat → Prop} {U V W : World} (h : SepP P U V) (k : SepP P V W) : SepP P U W :=
  ⟨⟨k.1.1.trans h.1.1, k.1.2.1.trans h.1.2.1, k.1.2.2.1.trans h.1.2.2.1, Nat.le_trans h.size k.size, fun b hb hp => (k.1.2.2.2.2 b (Nat.lt_of_lt_of_le hb h.size) hp).trans (h.1.2.2.2.2 b hb hp)⟩,
    fun b c e hb h1 h2 h3 => k.2 b c e (h.2 b c e hb h1 h2 h3) h1 h2 h3⟩
theorem SepP.ext {P : Nat → Prop} {U V W : World} (h : SepP P U V) (k : Ext V W) : SepP P U W := h.trans (SepP.of_ext k)
theorem SepP.mono {P Q : Nat → Prop} {U V : World} (h : SepP P U V) (k : ∀ x, P x → Q x) : SepP Q U V :=
  ⟨⟨h.1.1, h.1.2.1, h.1.2.2.1, h.size, fun b hb hq => h.1.2.2.2.2 b hb fun hp => hq (k b hp)⟩, h.2⟩
theorem SepP.sep {base : Nat} {U V : World} (h : SepP (base ≤ ·) U V) (hb : base ≤ U.heap.size) : Sep base U V :=
  ⟨⟨h.1.1, h.1.2.1, h.1.2.2.1, h.size, fun b hbb => h.1.2.2.2.2 b (Nat.lt_of_lt_of_le hbb hb) (by omega)⟩, h.2⟩
theorem SepP.to_ext {w U V : World} (h : SepP (w.heap.size ≤ ·) U V) (k : Ext w U) : Ext w V :=
  ⟨h.1.1.trans k.os, h.1.2.1.trans k.tape, h.1.2.2.1.trans k.output, Nat.le_trans k.size h.size, fun b hb => (h.1.2.2.2.2 b (Nat.lt_of_lt_of_le hb k.size) (by omega)).trans (k.block b hb)⟩

theorem SepP.to_ext' {w U V : World} (h : SepP (U.heap.size ≤ ·) U V) (k : Ext w U) : Ext w V :=
  (h.mono fun _ hx => Nat.le_trans k.size hx : SepP (w.heap.size ≤ ·) U V).to_ext k
def MemP (P : Nat → Prop) (U : World) (mb : Nat) (B : Int) (M : Int → Int) (T : List Int) : Prop := ∃ F, MemAt U mb F B M T ∧ ∀ x ∈ F, P x
theorem MemP.ext {P : Nat → Prop} {U V : World} {mb : Nat} {B : Int} {M : Int → Int} {T : List Int} (h : MemP P U mb B M T) (k : Ext U V) : MemP P V mb B M T := by
  obtain ⟨F, h1, h2⟩ := h; exact ⟨F, h1.ext k, h2⟩
theorem MemP.wide {P : Nat → Prop} {U : World} {mb : Nat} {B : Int} {M : Int → Int} {T : List Int} (h : MemP P U mb B M T) : ∀ s, 0 ≤ M s ∧ M s ≤ 18446744073709551615 := by
  obtain ⟨F, ⟨pb, tv, es, clock, PL, p1, p2, p3, p4, p5, p6, p7, p8, p9, -, p10⟩, -⟩ := h; exact p8
theorem MemP.bits {P : Nat → Prop} {U : World} {mb : Nat} {B : Int} {M : Int → Int} {T : List Int} (h : MemP P U mb B M T) : 14 ≤ B ∧ B ≤ 22 := by
  obtain ⟨F, h1, -⟩ := h; exact h1.head.2.2
/-- Another memory, none of whose blocks is of the set. -/
theorem MemP.sep {P Q : Nat → Prop} {U V : World} {mb : Nat} {B : Int} {M : Int → Int} {T : List Int} (h : MemP Q U mb B M T) (k : SepP P U V) (hd : ∀ x, x < U.heap.size → Q x → ¬ P x) : MemP Q V mb B M T := by
  obtain ⟨F, h1, h2⟩ := h
  classical
  refine ⟨F, h1.keeps (G := (List.range U.heap.size).filter fun b => decide (P b)) ⟨k.1.1, k.1.2.1, k.1.2.2.1, k.size, fun b hb hn => ?_⟩ (fun x hx hm => ?_), h2⟩
  · refine k.1.2.2.2.2 b hb fun hp => hn (List.mem_filter.2 ⟨List.mem_range.2 hb, by simpa using hp⟩)
  · have h3 := (List.mem_filter.1 hm).2
    exact hd x (h1.lt x hx) (h2 x hx) (by simpa using h3)
theorem EndMem.sepP {P : Nat → Prop} {U V : World} {mb : Nat} {F : List Nat} {B : Int} {M M' : Int → Int} {T T' : List Int} (m : MemAt U mb F B M T) (h : EndMem mb F U B M' T' V) (hF : ∀ x ∈ F, P x) (hb : Up P U.heap.size) : MemP P V mb B M' T' ∧ SepP P U V := by
  obtain ⟨F', h1, h2, h3⟩ := h
  refine ⟨⟨F', h1, fun x hx => ?_⟩, ⟨h2.os, h2.tape, h2.output, h2.size, fun b hb hp => h2.block b hb (fun hm => hp (hF b hm))⟩, fun b c e hbb q1 q2 q3 => (h2.block b (heap_lt hbb) (m.apart hbb q1 q2 q3)).trans hbb⟩
  rcases h3 x hx with q | q
  · exact hF x q
  · exact hb x q
theorem PathAt.sepP {P : Nat → Prop} {U V : World} {b : Nat} {sa : Option Addr} {sc : Nat} {q : List Stp × WRes} (h : PathAt U b sa sc q) (k : SepP P U V) : PathAt V b sa sc q :=
  ⟨k.2 _ _ _ h.1 (by decide) (by decide) (by decide), h.2.keep fun g hg => by
    obtain ⟨c, hc⟩ := h.2.heap g hg
    rw [hc]; exact k.2 _ _ _ hc (by decide) (by decide) (by decide)⟩
/-- The blocks that two worlds' growth has left to one of two memories that lie side by side: from n on, but for those of the other one. -/
theorem MemP.two {P : Nat → Prop} {U : World} {mb : Nat} {B : Int} {M : Int → Int} {T : List Int} (h : MemP P U mb B M T) : ∃ F : List Nat, (∀ x ∈ F, P x ∧ x < U.heap.size) ∧ MemP (· ∈ F) U mb B M T := by
  obtain ⟨F, h1, h2⟩ := h
  exact ⟨F, fun x hx => ⟨h2 x hx, h1.lt x hx⟩, F, h1, fun x hx => hx⟩
theorem MemP.mono {P Q : Nat → Prop} {U : World} {mb : Nat} {B : Int} {M : Int → Int} {T : List Int} (h : MemP P U mb B M T) (k : ∀ x, P x → Q x) : MemP Q U mb B M T := by
  obtain ⟨F, h1, h2⟩ := h; exact ⟨F, h1, fun x hx => k x (h2 x hx)⟩

def EndWalkP (P : Nat → Prop) (mb : Nat) (B : Int) (M : Int → Int) (T : List Int) (q : List Stp × WRes) (U : World) (e : Ending) (V : World) : Prop :=
  ∃ sa sc, e = .returned (.agg #[.slice sa q.1.length sc, .int .i64 q.2.1, .bool q.2.2.1.1, .bool q.2.2.1.2.1, .bool q.2.2.1.2.2, .int .i64 q.2.2.2.1, .int .u64 q.2.2.2.2]) ∧ Owns V 65 3 (.slice sa q.1.length sc) q.1.length (rowS q.1) ∧
    MemP P V mb B M (T ++ q.1.map (·.2.1)) ∧ SepP P U V
theorem from_p (P : Nat → Prop) (mb : Nat) (B : Int) (M : Int → Int) (T : List Int) (n : Nat) (t : Int) (r : Rt) (a : Int) (nxe : Bool) (U : World) (h : MemP P U mb B M T) (hb : Up P U.heap.size)
    (hl1 : n ≤ 4) (ht0 : 0 ≤ t) (ht1 : t ≤ 18446744073709551615) (ha0 : 0 ≤ a) (ha1 : a ≤ 18446744073709551615) (hT : T.length ≤ 900000) :
    Calls Try.prog 16 #[.pointer (some ⟨mb, 0, none⟩), .agg #[.int .i64 n, .int .u64 t, .bool r.1, .bool r.2.1, .bool r.2.2], .int .u64 a, .bool nxe] U (EndWalkP P mb B M T (walkF M B nxe a n t r) U) := by
  obtain ⟨F, h1, h2⟩ := h
  obtain ⟨r0, r1, r2⟩ := r
  refine (from_c mb F B M T n t r0 r1 r2 a nxe U h1 hl1 ht0 ht1 ha0 ha1 hT).mono fun e V h => ?_
  obtain ⟨v, q1, q2, q3, q4⟩ := h
  have ⟨k1, k2⟩ := EndMem.sepP h1 q3 h2 hb
  obtain ⟨sa, sc, rfl, -, -⟩ := q2.form
  exact ⟨sa, sc, q1, q2, k1, k2⟩
theorem peek_p (P : Nat → Prop) (mb : Nat) (B : Int) (M : Int → Int) (T : List Int) (a : Int) (U : World) (h : MemP P U mb B M T) (h0 : 0 ≤ a) (h1 : a ≤ 18446744073709551615) :
    Calls Try.prog 55 #[.pointer (some ⟨mb, 0, none⟩), .int .u64 a] U fun e w' => e = .returned (.tuple #[.int .u64 (if errM B a = 0 then M (a / 8) else 0), .int .i64 (errM B a)]) ∧ Ext U w' := by
  obtain ⟨F, k1, k2⟩ := h
  exact peek_c mb F B M T a U k1 h0 h1
theorem store_p (P : Nat → Prop) (mb : Nat) (B : Int) (M : Int → Int) (T : List Int) (a x : Int) (U : World) (h : MemP P U mb B M T) (hb : Up P U.heap.size) (h0 : 0 ≤ a) (h1 : a ≤ 18446744073709551615) (hx0 : 0 ≤ x) (hx1 : x ≤ 18446744073709551615) :
    Calls Try.prog 59 #[.pointer (some ⟨mb, 0, none⟩), .int .u64 a, .int .u64 x] U fun e V => e = .returned (.int .i64 (errM B a)) ∧ MemP P V mb B (setIf B M a x) T ∧ SepP P U V := by
  obtain ⟨F, k1, k2⟩ := h
  refine (store_c mb F B M T a x U k1 h0 h1 hx0 hx1).mono fun e V hh => ?_
  obtain ⟨q1, q2⟩ := hh
  have ⟨z1, z2⟩ := EndMem.sepP k1 q2 k2 hb
  exact ⟨q1, z1, z2⟩
theorem trace_p (P : Nat → Prop) (mb : Nat) (B : Int) (M : Int → Int) (T : List Int) (U : World) (h : MemP P U mb B M T) (hT : T.length ≤ 1000000) : Calls Try.prog 51 #[.pointer (some ⟨mb, 0, none⟩)] U (EndWords U T) := by
  obtain ⟨F, h1, h2⟩ := h
  exact trace_c mb F B M T U h1 hT
end Go.Proofs.Ytfaekfdngkpkdaa
/- A and D, plainly: words with these bits, without them. -/
namespace Go.Proofs.Ytfaekfdngkpkdaa
set_option linter.unusedVariables false
set_option linter.unusedSimpArgs false
open Go.RowKit
attribute [local go_sem] wext_cell wext_frozen wext_heap alloc_cell alloc_frozen alloc_heap setCell_cell objCell_cells objFrozen_cells

/-- A word with A; with A and D. -/
def orA (x : Int) : Int := x + (1 - x / 32 % 2) * 32
def orD (x : Int) : Int := x + (3 - x / 32 % 4) * 32
theorem nat_or32 (n : Nat) : n ||| 32 = n + (1 - n / 32 % 2) * 32 := by
  have h := Nat.div_add_mod (n ||| 32) 64
  have h1 : (n ||| 32) / 64 = n / 64 := by
    have := Nat.or_div_two_pow (a := n) (b := 32) (n := 6); simpa using this
  have h2 : (n ||| 32) % 64 = n % 64 ||| 32 := by
    have := Nat.or_mod_two_pow (a := n) (b := 32) (n := 6); simpa using this
  have h3 : ∀ i : Fin 64, i.val ||| 32 = i.val + (1 - i.val / 32 % 2) * 32 := by decide +kernel
  have h4 := h3 ⟨n % 64, Nat.mod_lt _ (by omega)⟩
  simp only at h4
  omega
theorem nat_or96 (n : Nat) : n ||| 96 = n + (3 - n / 32 % 4) * 32 := by
  have h := Nat.div_add_mod (n ||| 96) 128
  have h1 : (n ||| 96) / 128 = n / 128 := by
    have := Nat.or_div_two_pow (a := n) (b := 96) (n := 7); simpa using this
  have h2 : (n ||| 96) % 128 = n % 128 ||| 96 := by
    have := Nat.or_mod_two_pow (a := n) (b := 96) (n := 7); simpa using this
  have h3 : ∀ i : Fin 128, i.val ||| 96 = i.val + (3 - i.val / 32 % 4) * 32 := by decide +kernel
  have h4 := h3 ⟨n % 128, Nat.mod_lt _ (by omega)⟩
  simp only at h4
  omega
theorem nat_and96 (n : Nat) : n &&& 96 = n / 32 % 4 * 32 := by
  have h := Nat.div_add_mod (n &&& 96) 128
  have h1 : (n &&& 96) / 128 = 0 := by
    have := Nat.and_div_two_pow (a := n) (b := 96) (n := 7); simpa using this
  have h2 : (n &&& 96) % 128 = n % 128 &&& 96 := by
    have := Nat.and_mod_two_pow (a := n) (b := 96) (n := 7); simpa using this
  have h3 : ∀ i : Fin 128, i.val &&& 96 = i.val / 32 % 4 * 32 := by decide +kernel
  have h4 := h3 ⟨n % 128, Nat.mod_lt _ (by omega)⟩
  simp only at h4
  omega
theorem nat_and32 (n : Nat) : n &&& 32 = n / 32 % 2 * 32 := by
  have h := Nat.div_add_mod (n &&& 32) 64
  have h1 : (n &&& 32) / 64 = 0 := by
    have := Nat.and_div_two_pow (a := n) (b := 32) (n := 6); simpa using this
  have h2 : (n &&& 32) % 64 = n % 64 &&& 32 := by
    have := Nat.and_mod_two_pow (a := n) (b := 32) (n := 6); simpa using this
  have h3 : ∀ i : Fin 64, i.val &&& 32 = i.val / 32 % 2 * 32 := by decide +kernel
  have h4 := h3 ⟨n % 64, Nat.mod_lt _ (by omega)⟩
  simp only at h4
  omega
theorem or32 {x : Int} (h0 : 0 ≤ x) (h1 : x ≤ 18446744073709551615) : bits BinOp.or IntKind.u64 x 32 = orA x := by
  rw [u64_or _ _ h0 (by omega) (by omega) (by omega), show (32 : Int).toNat = 32 from rfl, nat_or32]
  unfold orA; omega
theorem or96 {x : Int} (h0 : 0 ≤ x) (h1 : x ≤ 18446744073709551615) : bits BinOp.or IntKind.u64 x 96 = orD x := by
  rw [u64_or _ _ h0 (by omega) (by omega) (by omega), show (96 : Int).toNat = 96 from rfl, nat_or96]
  unfold orD; omega
theorem and32 {x : Int} (h0 : 0 ≤ x) (h1 : x ≤ 18446744073709551615) : bits BinOp.and IntKind.u64 x 32 = x / 32 % 2 * 32 := by
  rw [u64_and _ _ h0 (by omega) (by omega) (by omega), show (32 : Int).toNat = 32 from rfl, nat_and32]; omega
theorem and96 {x : Int} (h0 : 0 ≤ x) (h1 : x ≤ 18446744073709551615) : bits BinOp.and IntKind.u64 x 96 = x / 32 % 4 * 32 := by
  rw [u64_and _ _ h0 (by omega) (by omega) (by omega), show (96 : Int).toNat = 96 from rfl, nat_and96]; omega
theorem orA_le {x : Int} (h0 : 0 ≤ x) (h1 : x ≤ 18446744073709551615) : 0 ≤ orA x ∧ orA x ≤ 18446744073709551615 := by unfold orA; omega
theorem orD_le {x : Int} (h0 : 0 ≤ x) (h1 : x ≤ 18446744073709551615) : 0 ≤ orD x ∧ orD x ≤ 18446744073709551615 := by unfold orD; omega

/-- The same word but for A and D. -/
def eqv (x y : Int) : Prop := x / 128 = y / 128 ∧ x % 32 = y % 32
theorem eqv_refl (x : Int) : eqv x x := ⟨rfl, rfl⟩
theorem eqv_symm {x y : Int} (h : eqv x y) : eqv y x := ⟨h.1.symm, h.2.symm⟩
theorem eqv_trans {x y z : Int} (h : eqv x y) (k : eqv y z) : eqv x z := ⟨h.1.trans k.1, h.2.trans k.2⟩
theorem eqv_orA (x : Int) : eqv x (orA x) := by unfold eqv orA; omega
theorem eqv_orD (x : Int) : eqv x (orD x) := by unfold eqv orD; omega
theorem orD_eq (x : Int) : orD x = x / 128 * 128 + 96 + x % 32 := by unfold orD; omega
theorem orD_div (x : Int) : orD x / 128 = x / 128 := by rw [orD_eq]; omega
theorem orD_mod (x : Int) : orD x % 32 = x % 32 := by rw [orD_eq]; omega
theorem eqv_or {x y : Int} : orD x = orD y ↔ eqv x y :=
  ⟨fun h => ⟨by rw [← orD_div, h, orD_div], by rw [← orD_mod, h, orD_mod]⟩, fun h => by rw [orD_eq, orD_eq, h.1, h.2]⟩
theorem div_63 (x : Int) : x / 9223372036854775808 = x / 128 / 72057594037927936 := by rw [Int.ediv_ediv_of_nonneg (by omega)]; rfl
theorem div_12 (x : Int) : x / 4096 = x / 128 / 32 := by rw [Int.ediv_ediv_of_nonneg (by omega)]; rfl
theorem eqv_bit {x y : Int} (h : eqv x y) (i : Int) (hi : i = 0 ∨ i = 1 ∨ i = 2 ∨ i = 7 ∨ i = 63) : bitB x i = bitB y i := by
  unfold eqv at h
  have : x / pow2 i % 2 = y / pow2 i % 2 := by
    rcases hi with rfl | rfl | rfl | rfl | rfl
    · show x / 1 % 2 = y / 1 % 2; omega
    · show x / 2 % 2 = y / 2 % 2; omega
    · show x / 4 % 2 = y / 4 % 2; omega
    · show x / 128 % 2 = y / 128 % 2; omega
    · show x / 9223372036854775808 % 2 = y / 9223372036854775808 % 2; rw [div_63, div_63, h.1]
  unfold bitB; rw [this]
theorem tab_d (x : Int) : tabI x = x / 4096 % 1099511627776 * 4096 := by unfold tabI; omega
theorem eqv_tab {x y : Int} (h : eqv x y) : tabI x = tabI y := by rw [tab_d, tab_d, div_12, div_12, h.1]
theorem eqv_leaf {x y : Int} (h : eqv x y) (l : Int) : leafI x l = leafI y l := by unfold leafI; rw [eqv_bit h 7 (by omega)]
theorem eqv_frame {x y : Int} (h : eqv x y) (l : Int) : frameI x l = frameI y l := by unfold frameI; rw [eqv_leaf h, eqv_tab h]
theorem eqv_res {x y : Int} (h : eqv x y) (l B : Int) (nxe : Bool) (hB : 14 ≤ B ∧ B ≤ 22) : resI x l B nxe = resI y l B nxe := by
  have h1 : x / pow2 B = y / pow2 B := by
    have hp : ∀ z : Int, z / pow2 B = z / 128 / pow2 (B - 7) := fun z => by
      have e : pow2 B = 128 * pow2 (B - 7) := by
        unfold pow2
        rw [show B.toNat = 7 + (B - 7).toNat by omega, Nat.pow_add]; simp
      rw [e, Int.ediv_ediv_of_nonneg (by omega)]
    rw [hp, hp, h.1]
  have h2 : x / 8192 = y / 8192 := by unfold eqv at h; omega
  unfold resI
  rw [h1, h2, eqv_bit h 7 (by omega), eqv_bit h 63 (by omega)]
end Go.Proofs.Ytfaekfdngkpkdaa
/- A walk's laws, plainly: its steps in a memory of 16 bits; from a step on. -/
namespace Go.Proofs.Ytfaekfdngkpkdaa
set_option linter.unusedVariables false
set_option linter.unusedSimpArgs false
open Go.RowKit
attribute [local go_sem] wext_cell wext_frozen wext_heap alloc_cell alloc_frozen alloc_heap setCell_cell objCell_cells objFrozen_cells

theorem tab_slot {t a l : Int} (h : 0 ≤ t) : tabI (slotI t a l) = tabI t := by
  have := idxI_le a l
  unfold slotI tabI; omega
theorem slotI_tab {t t' a l : Int} (h : tabI t = tabI t') : slotI t a l = slotI t' a l := by unfold slotI; rw [h]
theorem walkF_tab {M : Int → Int} {B : Int} {nxe : Bool} {a : Int} {n : Nat} {t t' : Int} {r : Rt} (h : tabI t = tabI t') : walkF M B nxe a n t r = walkF M B nxe a n t' r := by
  cases n with
  | zero => rfl
  | succ n => unfold walkF; rw [slotI_tab h]
theorem tab_tab {x : Int} : tabI (tabI x) = tabI x := by unfold tabI; omega
theorem res16 {x l : Int} {nxe : Bool} (h0 : 0 ≤ x) (h : resI x l 16 nxe = false) : tabI x ≤ 61440 := by
  unfold resI at h
  simp only [Bool.or_eq_false_iff] at h
  have h1 := h.1.1.1.1
  have : x / 65536 % 68719476736 = 0 := by simpa [pow2] using h1
  unfold tabI; omega
theorem err16 {s : Int} (h : s < 65536) (h8 : s % 8 = 0) : errM 16 s = 0 := by
  unfold errM
  rw [if_pos (by unfold limB; simp; exact h), if_pos h8]
theorem frame_le {x l : Int} (h0 : 0 ≤ x) : 0 ≤ frameI x l ∧ frameI x l ≤ tabI x := by
  have := tabI_le h0
  unfold frameI
  split
  · have hs : 0 < sizeE l := by unfold sizeE; split; omega; split; omega; split <;> omega
    have h1 := Int.emod_nonneg (tabI x) (show sizeE l ≠ 0 by omega)
    have h2 := emod_le this.1 hs
    omega
  · omega
theorem leaf_le {x l : Int} (h : leafI x l = true) : l ≤ 3 := by
  unfold leafI at h
  simp only [Bool.or_eq_true, beq_iff_eq, Bool.and_eq_true] at h
  omega

/-- What a walk through a memory of 16 bits is like. -/
structure OkW (n : Nat) (q : List Stp × WRes) : Prop where
  len : 1 ≤ q.1.length ∧ q.1.length ≤ n
  lev : ∀ (i : Nat) (s : Stp), q.1[i]? = some s → s.1 = (n : Int) - i
  low : ∀ (i : Nat) (s : Stp), q.1[i]? = some s → 0 ≤ s.2.1 ∧ s.2.1 < 65536 ∧ s.2.1 % 8 = 0
  bit : ∀ (i : Nat) (s : Stp), q.1[i]? = some s → bitB s.2.2 0 = (!decide (i + 1 = q.1.length) || q.2.1 != 1)
  why : q.2.1 = 0 ∨ q.2.1 = 1 ∨ q.2.1 = 2
  bad : q.2.1 ≠ 0 → q.2.2 = (noRt, 0, 0)
  good : q.2.1 = 0 → q.2.2.2.1 = (n : Int) + 1 - q.1.length ∧ q.2.2.2.1 ≤ 3 ∧ 0 ≤ q.2.2.2.2 ∧ q.2.2.2.2 < 65536
theorem walk_ok {M : Int → Int} (hM : ∀ s, 0 ≤ M s ∧ M s ≤ 18446744073709551615) {nxe : Bool} {a : Int} : ∀ (n : Nat) (t : Int) (r : Rt), 1 ≤ n → 0 ≤ t → tabI t ≤ 61440 → OkW n (walkF M 16 nxe a n t r)
  | n + 1, t, r, _, ht, hti => by
    have hsl := slotI_le (t := t) (a := a) (l := (n : Int) + 1) ht
    have hti0 := tabI_le ht
    have hidx := idxI_le a ((n : Int) + 1)
    have hslt : slotI t a ((n : Int) + 1) < 65536 := by unfold slotI; omega
    have he := err16 hslt hsl.2.2
    obtain ⟨s, hs⟩ : ∃ s, slotI t a ((n : Int) + 1) = s := ⟨_, rfl⟩
    obtain ⟨x, hx⟩ : ∃ x, M (s / 8) = x := ⟨_, rfl⟩
    have hx0 : 0 ≤ x := hx ▸ (hM _).1
    rw [hs] at hsl hslt he
    cases hp : bitB x 0 with
    | false =>
      rw [walkF_absent hs hx he hp]
      exact ⟨by simp, fun i y h => by cases i <;> simp at h; subst h; simp, fun i y h => by cases i <;> simp at h; subst h; exact ⟨hsl.1, hslt, hsl.2.2⟩, fun i y h => by cases i <;> simp at h; subst h; simpa using hp, .inr (.inl rfl), fun _ => rfl, fun h => by cases h⟩
    | true =>
      cases hr : resI x ((n : Int) + 1) 16 nxe with
      | true =>
        rw [walkF_res hs hx he hp hr]
        exact ⟨by simp, fun i y h => by cases i <;> simp at h; subst h; simp, fun i y h => by cases i <;> simp at h; subst h; exact ⟨hsl.1, hslt, hsl.2.2⟩, fun i y h => by cases i <;> simp at h; subst h; simpa using hp, .inr (.inr rfl), fun _ => rfl, fun h => by cases h⟩
      | false =>
        have hti2 := res16 hx0 hr
        cases hl : leafI x ((n : Int) + 1) with
        | true =>
          rw [walkF_leaf hs hx he hp hr hl]
          have hfr := frame_le (l := (n : Int) + 1) hx0
          have hlv := leaf_le hl
          exact ⟨by simp, fun i y h => by cases i <;> simp at h; subst h; simp, fun i y h => by cases i <;> simp at h; subst h; exact ⟨hsl.1, hslt, hsl.2.2⟩, fun i y h => by cases i <;> simp at h; subst h; simpa using hp, .inl rfl, fun h => absurd rfl h, fun _ => ⟨by simp, by simpa using hlv, by simpa using hfr.1, by simp; omega⟩⟩
        | false =>
          have hn : 1 ≤ n := by
            rcases n with _ | n
            · unfold leafI at hl; simp at hl
            · omega
          have ih := walk_ok hM n (tabI x) (andR r x) hn (tabI_le hx0).1 (by rw [tab_tab]; exact hti2) (nxe := nxe) (a := a)
          rw [walkF_on hs hx he hp hr hl]
          have hlen := ih.len
          refine ⟨by simp; omega, fun i y h => ?_, fun i y h => ?_, fun i y h => ?_, ih.why, ih.bad, fun h => ?_⟩
          · cases i with
            | zero => simp at h; subst h; simp
            | succ i => simp at h; have := ih.lev i y h; omega
          · cases i with
            | zero => simp at h; subst h; exact ⟨hsl.1, hslt, hsl.2.2⟩
            | succ i => simp at h; exact ih.low i y h
          · cases i with
            | zero =>
              simp at h; subst h
              have : ¬ (0 + 1 = (walkF M 16 nxe a n (tabI x) (andR r x)).1.length + 1) := by omega
              simp only [List.length_cons, this, decide_false, Bool.not_false, Bool.true_or, hp]
            | succ i =>
              simp at h
              have := ih.bit i y h
              rw [this]
              simp
          · have := ih.good h
            simp only [List.length_cons] at *
            omega

def foldR (r : Rt) (L : List Stp) : Rt := L.foldl (fun r s => andR r s.2.2) r
theorem walk_drop {M : Int → Int} {B : Int} {nxe : Bool} {a : Int} (hM : ∀ s, 0 ≤ M s) : ∀ (k n : Nat) (t : Int) (r : Rt), 0 ≤ t → k < (walkF M B nxe a n t r).1.length →
    ∃ t', 0 ≤ t' ∧ k < n ∧ (walkF M B nxe a n t r).1[k]?.map (fun s => (s.1, s.2.1)) = some ((n : Int) - k, slotI t' a ((n : Int) - k)) ∧
      walkF M B nxe a (n - k) t' (foldR r ((walkF M B nxe a n t r).1.take k)) = ((walkF M B nxe a n t r).1.drop k, (walkF M B nxe a n t r).2)
  | k, 0, t, r, _, h => by simp [walkF] at h
  | k, n + 1, t, r, ht, h => by
    obtain ⟨s, hs⟩ : ∃ s, slotI t a ((n : Int) + 1) = s := ⟨_, rfl⟩
    obtain ⟨x, hx⟩ : ∃ x, M (s / 8) = x := ⟨_, rfl⟩
    have hx0 : 0 ≤ x := hx ▸ hM _
    by_cases hne : errM B s ≠ 0
    · rw [walkF_bad (by rw [hs]; exact hne)] at h; simp at h
    have he : errM B s = 0 := by omega
    have one : ∀ q : WRes, walkF M B nxe a (n + 1) t r = ([((n : Int) + 1, s, x)], q) → ∃ t', 0 ≤ t' ∧ k < n + 1 ∧ (walkF M B nxe a (n + 1) t r).1[k]?.map (fun s => (s.1, s.2.1)) = some (((n + 1 : Nat) : Int) - k, slotI t' a (((n + 1 : Nat) : Int) - k)) ∧
      walkF M B nxe a (n + 1 - k) t' (foldR r ((walkF M B nxe a (n + 1) t r).1.take k)) = ((walkF M B nxe a (n + 1) t r).1.drop k, (walkF M B nxe a (n + 1) t r).2) := fun q hq => by
      have hk : k = 0 := by rw [hq] at h; simp at h; exact h
      subst hk
      exact ⟨t, ht, by omega, by rw [hq]; simp [← hs], rfl⟩
    cases hp : bitB x 0 with
    | false => exact one _ (walkF_absent hs hx he hp)
    | true =>
      cases hr : resI x ((n : Int) + 1) B nxe with
      | true => exact one _ (walkF_res hs hx he hp hr)
      | false =>
        cases hl : leafI x ((n : Int) + 1) with
        | true => exact one _ (walkF_leaf hs hx he hp hr hl)
        | false =>
          have ho := walkF_on (r := r) hs hx he hp hr hl
          cases k with
          | zero => exact ⟨t, ht, by omega, by rw [ho]; simp [← hs], rfl⟩
          | succ k =>
            rw [ho] at h ⊢
            simp only [List.length_cons] at h
            obtain ⟨t', h0, h1, h2, h3⟩ := walk_drop hM k n (tabI x) (andR r x) (tabI_le hx0).1 (by omega : k < (walkF M B nxe a n (tabI x) (andR r x)).1.length)
            refine ⟨t', h0, by omega, ?_, ?_⟩
            · simp only [List.getElem?_cons_succ]
              rw [h2, show ((n + 1 : Nat) : Int) - ((k + 1 : Nat) : Int) = (n : Int) - k by omega]
            · simp only [List.take_succ_cons, List.drop_succ_cons]
              rw [show n + 1 - (k + 1) = n - k by omega, ← h3]
              rfl
end Go.Proofs.Ytfaekfdngkpkdaa
/- Marks, plainly: what a path's marks leave; a walk hangs on no A and no D. -/
namespace Go.Proofs.Ytfaekfdngkpkdaa
set_option linter.unusedVariables false
set_option linter.unusedSimpArgs false
open Go.RowKit
attribute [local go_sem] wext_cell wext_frozen wext_heap alloc_cell alloc_frozen alloc_heap setCell_cell objCell_cells objFrozen_cells

def markS (B : Int) (M : Int → Int) (s : Int) (d : Bool) : Int → Int :=
  if errM B s = 0 then setM M (s / 8) (if d then orD (M (s / 8)) else orA (M (s / 8))) else M
/-- A path's slots, marked in turn; df: is it found, and dirty? -/
def markL (B : Int) (df : Bool) : List Stp → (Int → Int) → Int → Int
  | [], M => M
  | s :: L, M => markL B df L (markS B M s.2.1 (df && L.isEmpty))

theorem setM_self (M : Int → Int) (s : Int) : setM M s (M s) = M := by
  funext t; unfold setM; split
  · rename_i h; rw [h]
  · rfl
theorem markS_wide {B : Int} {M : Int → Int} (h : ∀ t, 0 ≤ M t ∧ M t ≤ 18446744073709551615) (s : Int) (d : Bool) : ∀ t, 0 ≤ markS B M s d t ∧ markS B M s d t ≤ 18446744073709551615 := by
  unfold markS
  split
  · cases d
    · exact setM_range h (orA_le (h _).1 (h _).2).1 (orA_le (h _).1 (h _).2).2
    · exact setM_range h (orD_le (h _).1 (h _).2).1 (orD_le (h _).1 (h _).2).2
  · exact h
theorem markL_wide {B : Int} {df : Bool} : ∀ (L : List Stp) {M : Int → Int}, (∀ t, 0 ≤ M t ∧ M t ≤ 18446744073709551615) → ∀ t, 0 ≤ markL B df L M t ∧ markL B df L M t ≤ 18446744073709551615
  | [], _, h => h
  | s :: L, _, h => markL_wide L (markS_wide h _ _)

/-- Has a word A, and D? -/
def hasA (x : Int) : Bool := x / 32 % 2 == 1
def hasD (x : Int) : Bool := x / 64 % 2 == 1
/-- y is x with A or D more, perhaps. -/
def more (x y : Int) : Prop := eqv x y ∧ (hasA x = true → hasA y = true) ∧ (hasD x = true → hasD y = true)
theorem more_refl (x : Int) : more x x := ⟨eqv_refl x, id, id⟩
theorem more_trans {x y z : Int} (h : more x y) (k : more y z) : more x z := ⟨eqv_trans h.1 k.1, fun q => k.2.1 (h.2.1 q), fun q => k.2.2 (h.2.2 q)⟩
theorem more_orA (x : Int) : more x (orA x) := ⟨eqv_orA x, fun h => by unfold hasA orA at *; simp only [beq_iff_eq] at *; omega, fun h => by unfold hasD orA at *; simp only [beq_iff_eq] at *; omega⟩
theorem more_orD (x : Int) : more x (orD x) := ⟨eqv_orD x, fun h => by unfold hasA orD at *; simp only [beq_iff_eq] at *; omega, fun h => by unfold hasD orD at *; simp only [beq_iff_eq] at *; omega⟩
theorem hasA_orA (x : Int) : hasA (orA x) = true := by unfold hasA orA; simp only [beq_iff_eq]; omega
theorem hasA_orD (x : Int) : hasA (orD x) = true := by unfold hasA orD; simp only [beq_iff_eq]; omega
theorem hasD_orD (x : Int) : hasD (orD x) = true := by unfold hasD orD; simp only [beq_iff_eq]; omega
theorem orA_of {x : Int} (h : hasA x = true) : orA x = x := by unfold hasA at h; unfold orA; simp only [beq_iff_eq] at h; omega
theorem orD_of {x : Int} (h : hasA x = true) (k : hasD x = true) : orD x = x := by unfold hasA at h; unfold hasD at k; unfold orD; simp only [beq_iff_eq] at h k; omega

theorem markS_more (B : Int) (M : Int → Int) (s : Int) (d : Bool) (t : Int) : more (M t) (markS B M s d t) := by
  unfold markS
  split
  · unfold setM
    split
    · rename_i h; rw [h]; cases d
      · exact more_orA _
      · exact more_orD _
    · exact more_refl _
  · exact more_refl _
theorem markL_more (B : Int) (df : Bool) : ∀ (L : List Stp) (M : Int → Int) (t : Int), more (M t) (markL B df L M t)
  | [], M, t => more_refl _
  | s :: L, M, t => more_trans (markS_more B M _ _ t) (markL_more B df L _ t)
theorem markS_has {B : Int} {M : Int → Int} {s : Int} {d : Bool} (h : errM B s = 0) : hasA (markS B M s d (s / 8)) = true ∧ (d = true → hasD (markS B M s d (s / 8)) = true) := by
  unfold markS
  rw [if_pos h]
  unfold setM
  rw [if_pos rfl]
  cases d
  · exact ⟨hasA_orA _, fun h => by cases h⟩
  · exact ⟨hasA_orD _, fun _ => hasD_orD _⟩
theorem markS_other {B : Int} {M : Int → Int} {s t : Int} {d : Bool} (h : t ≠ s / 8) : markS B M s d t = M t := by
  unfold markS
  split
  · unfold setM; rw [if_neg h]
  · rfl
theorem markL_other {B : Int} {df : Bool} : ∀ (L : List Stp) (M : Int → Int) (t : Int), (∀ s ∈ L, t ≠ s.2.1 / 8) → markL B df L M t = M t
  | [], M, t, _ => rfl
  | s :: L, M, t, h => by
    show markL B df L _ t = _
    rw [markL_other L _ t fun s hs => h s (List.mem_cons_of_mem _ hs)]
    exact markS_other (h s (List.mem_cons_self ..))
/-- Marked, each slot of a path has A; the last one, if it is found, and dirty, D. -/
theorem markL_has {B : Int} {df : Bool} : ∀ (L : List Stp) (M : Int → Int), (∀ s ∈ L, errM B s.2.1 = 0) → (∀ s ∈ L, hasA (markL B df L M (s.2.1 / 8)) = true) ∧ ∀ s, L.getLast? = some s → df = true → hasD (markL B df L M (s.2.1 / 8)) = true
  | [], M, _ => ⟨(fun s h => by cases h), (fun s h => by cases h)⟩
  | s :: L, M, h => by
    have ih := markL_has (df := df) L (markS B M s.2.1 (df && L.isEmpty)) fun s hs => h s (List.mem_cons_of_mem _ hs)
    have h1 := markS_has (M := M) (d := df && L.isEmpty) (h s (List.mem_cons_self ..))
    have hm := markL_more B df L (markS B M s.2.1 (df && L.isEmpty)) (s.2.1 / 8)
    refine ⟨fun y hy => ?_, fun y hy hd => ?_⟩
    · rcases List.mem_cons.1 hy with rfl | hy
      · exact hm.2.1 h1.1
      · exact ih.1 y hy
    · cases L with
      | nil =>
        simp only [List.getLast?_singleton, Option.some.injEq] at hy
        subst hy
        exact hm.2.2 (h1.2 (by simp [hd]))
      | cons z L =>
        rw [List.getLast?_cons_cons] at hy
        exact ih.2 y hy hd
/-- Marked twice is as once. -/
theorem markL_again {B : Int} {df : Bool} : ∀ (L : List Stp) (M : Int → Int), (∀ s ∈ L, errM B s.2.1 = 0 → hasA (M (s.2.1 / 8)) = true) → (∀ s, L.getLast? = some s → df = true → errM B s.2.1 = 0 → hasD (M (s.2.1 / 8)) = true) → markL B df L M = M
  | [], M, _, _ => rfl
  | s :: L, M, h, k => by
    have hs : markS B M s.2.1 (df && L.isEmpty) = M := by
      unfold markS
      split
      · rename_i he
        have hA := h s (List.mem_cons_self ..) he
        cases hd : df && L.isEmpty
        · simp only [Bool.false_eq_true, if_false]; rw [orA_of hA, setM_self]
        · simp only [Bool.and_eq_true, List.isEmpty_iff] at hd
          simp only [if_true]
          rw [orD_of hA (k s (by rw [hd.2]; rfl) hd.1 he), setM_self]
      · rfl
    show markL B df L (markS B M s.2.1 (df && L.isEmpty)) = M
    rw [hs]
    refine markL_again L M (fun s hs => h s (List.mem_cons_of_mem _ hs)) fun y hy => ?_
    cases L with
    | nil => cases hy
    | cons z L => exact k y (by rw [List.getLast?_cons_cons]; exact hy)

/-- Steps that are the same but for A and D. -/
def eqvS : List Stp → List Stp → Prop
  | [], [] => True
  | a :: L, b :: K => a.1 = b.1 ∧ a.2.1 = b.2.1 ∧ eqv a.2.2 b.2.2 ∧ eqvS L K
  | _, _ => False
theorem eqvS_refl : ∀ L, eqvS L L
  | [] => trivial
  | a :: L => ⟨rfl, rfl, eqv_refl _, eqvS_refl L⟩
theorem eqvS_length : ∀ {L K : List Stp}, eqvS L K → L.length = K.length
  | [], [], _ => rfl
  | a :: L, b :: K, h => by simp [eqvS_length h.2.2.2]
  | [], b :: K, h => by cases h
  | a :: L, [], h => by cases h
theorem walk_eqv {M M' : Int → Int} {B : Int} {nxe : Bool} {a : Int} (hB : 14 ≤ B ∧ B ≤ 22) (h : ∀ t, eqv (M t) (M' t)) : ∀ (n : Nat) (t : Int) (r : Rt),
    eqvS (walkF M B nxe a n t r).1 (walkF M' B nxe a n t r).1 ∧ (walkF M B nxe a n t r).2 = (walkF M' B nxe a n t r).2
  | 0, t, r => ⟨trivial, rfl⟩
  | n + 1, t, r => by
    obtain ⟨s, hs⟩ : ∃ s, slotI t a ((n : Int) + 1) = s := ⟨_, rfl⟩
    obtain ⟨x, hx⟩ : ∃ x, M (s / 8) = x := ⟨_, rfl⟩
    obtain ⟨y, hy⟩ : ∃ y, M' (s / 8) = y := ⟨_, rfl⟩
    have e : eqv x y := by rw [← hx, ← hy]; exact h _
    by_cases hne : errM B s ≠ 0
    · rw [walkF_bad (by rw [hs]; exact hne), walkF_bad (by rw [hs]; exact hne)]; exact ⟨trivial, rfl⟩
    have he : errM B s = 0 := by omega
    cases hp : bitB x 0 with
    | false =>
      rw [walkF_absent hs hx he hp, walkF_absent hs hy he ((eqv_bit e 0 (by omega)).symm.trans hp)]
      exact ⟨⟨rfl, rfl, e, trivial⟩, rfl⟩
    | true =>
      have hp' : bitB y 0 = true := (eqv_bit e 0 (by omega)).symm.trans hp
      have er := eqv_res e ((n : Int) + 1) B nxe hB
      have el := eqv_leaf e ((n : Int) + 1)
      have ea : andR r x = andR r y := by unfold andR; rw [eqv_bit e 1 (by omega), eqv_bit e 2 (by omega), eqv_bit e 63 (by omega)]
      cases hr : resI x ((n : Int) + 1) B nxe with
      | true =>
        rw [walkF_res hs hx he hp hr, walkF_res hs hy he hp' (er.symm.trans hr)]
        exact ⟨⟨rfl, rfl, e, trivial⟩, rfl⟩
      | false =>
        cases hl : leafI x ((n : Int) + 1) with
        | true =>
          rw [walkF_leaf hs hx he hp hr hl, walkF_leaf hs hy he hp' (er.symm.trans hr) (el.symm.trans hl), ea, eqv_frame e]
          exact ⟨⟨rfl, rfl, e, trivial⟩, rfl⟩
        | false =>
          have ih := walk_eqv (nxe := nxe) (a := a) hB h n (tabI x) (andR r x)
          rw [walkF_on hs hx he hp hr hl, walkF_on hs hy he hp' (er.symm.trans hr) (el.symm.trans hl), ← ea, ← eqv_tab e]
          exact ⟨⟨rfl, rfl, e, ih.1⟩, ih.2⟩
end Go.Proofs.Ytfaekfdngkpkdaa
/- Mark: a path's slots' flags. -/
namespace Go.Proofs.Ytfaekfdngkpkdaa
set_option linter.unusedVariables false
set_option linter.unusedSimpArgs false
open Go.RowKit
attribute [local go_sem] wext_cell wext_frozen wext_heap alloc_cell alloc_frozen alloc_heap setCell_cell objCell_cells objFrozen_cells

/-- Three cells of a step in a slice of steps. -/
def StepsAt (U : World) (sa : Option Addr) (L : List Stp) : Prop :=
  ∀ i, i < L.length → ∃ g o, sa = some ⟨g, o, none⟩ ∧ g < U.heap.size ∧ U.cell? ⟨g, o + i * 3, none⟩ = some (.int .i64 (stpAt L i).1) ∧ U.cell? ⟨g, o + i * 3 + 1, none⟩ = some (.int .u64 (stpAt L i).2.1) ∧ U.cell? ⟨g, o + i * 3 + 2, none⟩ = some (.int .u64 (stpAt L i).2.2)
theorem StepsAt.ext {U V : World} {sa : Option Addr} {L : List Stp} (h : StepsAt U sa L) (k : Ext U V) : StepsAt V sa L := fun i hi => by
  obtain ⟨g, o, h1, h2, h3, h4, h5⟩ := h i hi
  exact ⟨g, o, h1, Nat.lt_of_lt_of_le h2 k.size, k.someCell h3, k.someCell h4, k.someCell h5⟩
theorem StepsAt.of {U : World} {sa : Option Addr} {sc : Nat} {L : List Stp} (h : Owns U 65 3 (.slice sa L.length sc) L.length (rowS L)) : StepsAt U sa L := fun i hi => by
  obtain ⟨g, h1, h2, h3, h4, h5⟩ := h.step hi rfl
  exact ⟨g, 0, h1, h2, by rw [Nat.zero_add]; exact h3, by rw [Nat.zero_add]; exact h4, by rw [Nat.zero_add]; exact h5⟩
theorem markL_drop (B : Int) (df : Bool) (L : List Stp) (j : Nat) (h : j < L.length) (M : Int → Int) : markL B df (L.drop j) M = markL B df (L.drop (j + 1)) (markS B M (stpAt L j).2.1 (df && decide (j + 1 = L.length))) := by
  have e : L.drop j = stpAt L j :: L.drop (j + 1) := by
    rw [List.drop_eq_getElem_cons h]
    congr 1
    simp [stpAt, List.getD, h]
  rw [e]
  show markL B df _ (markS B M _ (df && (L.drop (j + 1)).isEmpty)) = _
  have : (L.drop (j + 1)).isEmpty = decide (j + 1 = L.length) := by
    rw [Bool.eq_iff_iff, List.isEmpty_iff, List.drop_eq_nil_iff, decide_eq_true_eq]; omega
  rw [this]
def EndMark (P : Nat → Prop) (mb : Nat) (B : Int) (M : Int → Int) (T : List Int) (U : World) (e : Ending) (V : World) : Prop := e = .returned (.tuple #[]) ∧ MemP P V mb B M T ∧ SepP P U V

set_option maxHeartbeats 4000000 in
set_option maxRecDepth 100000 in
theorem mark_p (P : Nat → Prop) (mb : Nat) (B : Int) (M : Int → Int) (T : List Int) (L : List Stp) (sa : Option Addr) (sc : Nat) (why : Int) (rr : Rt) (lv fr : Int) (dirty : Bool) (U : World) (h : MemP P U mb B M T) (hb : Up P U.heap.size)
    (hS : StepsAt U sa L) (hSb : ∀ V, SepP P U V → StepsAt V sa L) (hL : L.length ≤ 1000000) (hok : ∀ i, i < L.length → 0 ≤ (stpAt L i).2.1 ∧ (stpAt L i).2.1 ≤ 18446744073709551615) :
    Calls Try.prog 21 #[.pointer (some ⟨mb, 0, none⟩), .agg #[.slice sa L.length sc, .int .i64 why, .bool rr.1, .bool rr.2.1, .bool rr.2.2, .int .i64 lv, .int .u64 fr], .bool dirty] U
      (EndMark P mb B (markL B (dirty && why == 0) L M) T U) := by
  have HM := Lib.hid h
  have HS := Lib.hid hSb
  have HO := Lib.hid hok
  have hW := h.wide
  have HW := Lib.hid hW
  generalize hE : EndMark P mb B (markL B (dirty && why == 0) L M) T U = E
  have HE := Lib.hid hE
  clear hE hS hSb h hok hW
  go_enter Try.func21, Try.ntmps21
  go_wp2
  refine wp_gen ?_; intro V hV
  have hVE : Ext U V := by rw [hV]; exact (by repeat (first | exact Ext.refl _ | assumption | refine Ext.alloc ?_ _ | refine Ext.drew ?_ | refine Ext.setCell ?_ (by first | (simp; done) | (dsimp only; omega)) _ | refine Ext.trans ?_ (by assumption)))
  have hVp : V.heap[U.heap.size]? = some (.cells #[.slice sa L.length sc, .int .i64 why, .bool rr.1, .bool rr.2.1, .bool rr.2.2, .int .i64 lv, .int .u64 fr] 38 (0, 0)) := by rw [hV]; exact alloc_same ..
  have VE := Lib.hid hVE
  have VP := Lib.hid hVp
  clear hV hVE hVp
  go_wp2
  go_loopw [14] (fun i wr => ∃ (j : Nat) (M' : Int → Int), j ≤ L.length ∧ i = .int .i64 j ∧ Hid (MemP P wr mb B M' T ∧ SepP P V wr ∧ markL B (dirty && why == 0) (L.drop j) M' = markL B (dirty && why == 0) L M ∧
    wr.heap[U.heap.size]? = some (.cells #[.slice sa L.length sc, .int .i64 why, .bool rr.1, .bool rr.2.1, .bool rr.2.2, .int .i64 lv, .int .u64 fr] 38 (0, 0)))) (fun i _ => L.length - (intOf i).toNat)
  case atStart => exact ⟨0, M, by omega, rfl, Lib.hid ⟨HM.out.ext VE.out, SepP.of_ext (Ext.refl _), by simp, VP.out⟩⟩
  case round =>
    obtain ⟨j, M', hj, rfl, hR⟩ := hrel
    by_cases hlt : j < L.length
    · have hSU : SepP P U wr := (SepP.of_ext VE.out).trans hR.out.2.1
      obtain ⟨g, o, rfl, hgl, s0, s1, s2⟩ := HS.out wr hSU j hlt
      obtain ⟨ha0, ha1⟩ := HO.out j hlt
      have hst := markL_drop B (dirty && why == 0) L j hlt M'
      have HSU := Lib.hid hSU
      generalize stpAt L j = sj at s0 s1 s2 ha0 ha1 hst
      obtain ⟨lj, aj, xj⟩ := sj
      dsimp only at s0 s1 s2 ha0 ha1 hst
      have HST := Lib.hid hst
      have c0 := (heap_cell hR.out.2.2.2 0).trans rfl
      have c1 := (heap_cell hR.out.2.2.2 1).trans rfl
      have hul := heap_lt hR.out.2.2.2
      have HP := Lib.hid (fun w1 (k : Ext wr w1) => peek_p P mb B M' T aj w1 (hR.out.1.ext k) ha0 ha1)
      have ⟨m0, m1⟩ := hR.out.1.wide (aj / 8)
      obtain ⟨x, hx⟩ : ∃ x, M' (aj / 8) = x := ⟨_, rfl⟩
      rw [hx] at m0 m1
      have HX := Lib.hid hx
      have HWS := Lib.hid (fun w1 (k : Ext wr w1) y (hy0 : 0 ≤ y) (hy1 : y ≤ 18446744073709551615) => store_p P mb B M' T aj y w1 (hR.out.1.ext k) (hb.mono (Nat.le_trans HSU.out.size k.size)) ha0 ha1 hy0 hy1)
      clear hst hSU hx
      cases dirty
      · have DF : Hid ((false && why == 0 && decide (j + 1 = L.length)) = false) := Lib.hid rfl
        have hand := and32 m0 m1
        have hor := or32 m0 m1
        have hle := orA_le m0 m1
        by_cases he : errM B aj = 0
        · have HPe : Hid (∀ w1, Ext wr w1 → Calls Try.prog 55 #[.pointer (some ⟨mb, 0, none⟩), .int .u64 aj] w1 fun e w' => e = .returned (.tuple #[.int .u64 x, .int .i64 0]) ∧ Ext w1 w') := Lib.hid (fun w1 k => by have := HP.out w1 k; rw [if_pos he, he, HX.out] at this; exact this)
          have hsame : orA x = x → markS B M' aj false = M' := fun e => by unfold markS; rw [if_pos he, HX.out]; simp only [Bool.false_eq_true, if_false]; rw [e, ← HX.out]; exact setM_self M' (aj / 8)
          have hnew : setIf B M' aj (orA x) = markS B M' aj false := by unfold setIf markS; rw [if_pos he, if_pos he, HX.out]; rfl
          have HE0 := Lib.hid he
          have HSA := Lib.hid hsame
          have HNW := Lib.hid hnew
          clear he hsame hnew
          by_cases hx9 : x / 32 % 2 = 1
          · have hfix : orA x = x := by unfold orA; omega
            have hxe : (x / 32 % 2 * 32 != 32) = false := by rw [hx9]; rfl
            have HFX := Lib.hid hfix
            clear hx9 hfix hor
            go_wp2_with (first | (go_at_call 55; refine (HPe.out _ (by repeat (first | exact Ext.refl _ | assumption | refine Ext.alloc ?_ _ | refine Ext.drew ?_ | refine Ext.setCell ?_ (by first | (simp; done) | (dsimp only; omega)) _ | refine Ext.trans ?_ (by assumption)))).mono ?_; rintro e w5 ⟨rfl, hb5⟩; have ⟨hc, hf, hh, hs⟩ := hb5.facts; try simp only [World.size_alloc, World.size_setCell, World.size_drew] at hs))
            refine ⟨⟨j + 1, M', by omega, by go_num, Lib.hid ⟨hR.out.1.ext (by repeat (first | exact Ext.refl _ | assumption | refine Ext.alloc ?_ _ | refine Ext.drew ?_ | refine Ext.setCell ?_ (by first | (simp; done) | (dsimp only; omega)) _ | refine Ext.trans ?_ (by assumption))), hR.out.2.1.ext (by repeat (first | exact Ext.refl _ | assumption | refine Ext.alloc ?_ _ | refine Ext.drew ?_ | refine Ext.setCell ?_ (by first | (simp; done) | (dsimp only; omega)) _ | refine Ext.trans ?_ (by assumption))), ?_, ((Ext.trans (by repeat (first | exact Ext.refl _ | assumption | refine Ext.alloc ?_ _ | refine Ext.drew ?_ | refine Ext.setCell ?_ (by first | (simp; done) | (dsimp only; omega)) _ | refine Ext.trans ?_ (by assumption))) hb5 : Ext wr w5).block _ hul).trans hR.out.2.2.2⟩⟩, by simp [intOf]; omega⟩
            have := HST.out
            rw [DF.out, HSA.out HFX.out] at this
            rw [← hR.out.2.2.1, this]
          · have hxe : (x / 32 % 2 * 32 != 32) = true := by rw [bne_iff_ne]; omega
            clear hx9
            go_wp2_with (first | (go_at_call 55; refine (HPe.out _ (by repeat (first | exact Ext.refl _ | assumption | refine Ext.alloc ?_ _ | refine Ext.drew ?_ | refine Ext.setCell ?_ (by first | (simp; done) | (dsimp only; omega)) _ | refine Ext.trans ?_ (by assumption)))).mono ?_; rintro e w5 ⟨rfl, hb5⟩; have ⟨hc, hf, hh, hs⟩ := hb5.facts; try simp only [World.size_alloc, World.size_setCell, World.size_drew] at hs) | (go_at_call 59; refine (HWS.out _ (Ext.trans (by repeat (first | exact Ext.refl _ | assumption | refine Ext.alloc ?_ _ | refine Ext.drew ?_ | refine Ext.setCell ?_ (by first | (simp; done) | (dsimp only; omega)) _ | refine Ext.trans ?_ (by assumption))) hb5) _ hle.1 hle.2).mono ?_; rintro e w6 ⟨rfl, hM6, hP6⟩))
            refine ⟨⟨j + 1, markS B M' aj false, by omega, by go_num, Lib.hid ⟨by rw [← HNW.out]; exact hM6, ?_, ?_, ?_⟩⟩, by simp [intOf]; omega⟩
            · exact (hR.out.2.1.ext (Ext.trans (by repeat (first | exact Ext.refl _ | assumption | refine Ext.alloc ?_ _ | refine Ext.drew ?_ | refine Ext.setCell ?_ (by first | (simp; done) | (dsimp only; omega)) _ | refine Ext.trans ?_ (by assumption))) hb5)).trans hP6
            · have := HST.out
              rw [DF.out] at this
              rw [← hR.out.2.2.1, this]
            · exact hP6.2 _ _ _ (((Ext.trans (by repeat (first | exact Ext.refl _ | assumption | refine Ext.alloc ?_ _ | refine Ext.drew ?_ | refine Ext.setCell ?_ (by first | (simp; done) | (dsimp only; omega)) _ | refine Ext.trans ?_ (by assumption))) hb5 : Ext wr w5).block _ hul).trans hR.out.2.2.2) (by decide) (by decide) (by decide)
        · have heb : (errM B aj == 0) = false := by simpa using he
          have hsame : markS B M' aj false = M' := by unfold markS; rw [if_neg he]
          have HPe : Hid (∀ w1, Ext wr w1 → Calls Try.prog 55 #[.pointer (some ⟨mb, 0, none⟩), .int .u64 aj] w1 fun e w' => e = .returned (.tuple #[.int .u64 0, .int .i64 (errM B aj)]) ∧ Ext w1 w') := Lib.hid (fun w1 k => by have := HP.out w1 k; rw [if_neg he] at this; exact this)
          have HSA := Lib.hid hsame
          generalize errM B aj = er at HPe heb
          clear he hsame
          go_wp2_with (first | (go_at_call 55; refine (HPe.out _ (by repeat (first | exact Ext.refl _ | assumption | refine Ext.alloc ?_ _ | refine Ext.drew ?_ | refine Ext.setCell ?_ (by first | (simp; done) | (dsimp only; omega)) _ | refine Ext.trans ?_ (by assumption)))).mono ?_; rintro e w5 ⟨rfl, hb5⟩; have ⟨hc, hf, hh, hs⟩ := hb5.facts; try simp only [World.size_alloc, World.size_setCell, World.size_drew] at hs))
          refine ⟨⟨j + 1, M', by omega, by go_num, Lib.hid ⟨hR.out.1.ext (by repeat (first | exact Ext.refl _ | assumption | refine Ext.alloc ?_ _ | refine Ext.drew ?_ | refine Ext.setCell ?_ (by first | (simp; done) | (dsimp only; omega)) _ | refine Ext.trans ?_ (by assumption))), hR.out.2.1.ext (by repeat (first | exact Ext.refl _ | assumption | refine Ext.alloc ?_ _ | refine Ext.drew ?_ | refine Ext.setCell ?_ (by first | (simp; done) | (dsimp only; omega)) _ | refine Ext.trans ?_ (by assumption))), ?_, ((Ext.trans (by repeat (first | exact Ext.refl _ | assumption | refine Ext.alloc ?_ _ | refine Ext.drew ?_ | refine Ext.setCell ?_ (by first | (simp; done) | (dsimp only; omega)) _ | refine Ext.trans ?_ (by assumption))) hb5 : Ext wr w5).block _ hul).trans hR.out.2.2.2⟩⟩, by simp [intOf]; omega⟩
          have := HST.out
          rw [DF.out, HSA.out] at this
          rw [← hR.out.2.2.1, this]
      · by_cases hw : why = 0
        · have hwb : (why == 0) = true := by simpa using hw
          by_cases hl : j + 1 = L.length
          · have hlb : ((j : Int) == (L.length : Int) - 1) = true := by rw [beq_iff_eq]; omega
            have DF : Hid ((true && why == 0 && decide (j + 1 = L.length)) = true) := Lib.hid (by simp [hw, hl])
            clear hl hw
            have hand := and96 m0 m1
            have hor := or96 m0 m1
            have hle := orD_le m0 m1
            by_cases he : errM B aj = 0
            · have HPe : Hid (∀ w1, Ext wr w1 → Calls Try.prog 55 #[.pointer (some ⟨mb, 0, none⟩), .int .u64 aj] w1 fun e w' => e = .returned (.tuple #[.int .u64 x, .int .i64 0]) ∧ Ext w1 w') := Lib.hid (fun w1 k => by have := HP.out w1 k; rw [if_pos he, he, HX.out] at this; exact this)
              have hsame : orD x = x → markS B M' aj true = M' := fun e => by unfold markS; rw [if_pos he, HX.out]; simp only [if_true]; rw [e, ← HX.out]; exact setM_self M' (aj / 8)
              have hnew : setIf B M' aj (orD x) = markS B M' aj true := by unfold setIf markS; rw [if_pos he, if_pos he, HX.out]; rfl
              have HE0 := Lib.hid he
              have HSA := Lib.hid hsame
              have HNW := Lib.hid hnew
              clear he hsame hnew
              by_cases hx9 : x / 32 % 4 = 3
              · have hfix : orD x = x := by unfold orD; omega
                have hxe : (x / 32 % 4 * 32 != 96) = false := by rw [hx9]; rfl
                have HFX := Lib.hid hfix
                clear hx9 hfix hor
                go_wp2_with (first | (go_at_call 55; refine (HPe.out _ (by repeat (first | exact Ext.refl _ | assumption | refine Ext.alloc ?_ _ | refine Ext.drew ?_ | refine Ext.setCell ?_ (by first | (simp; done) | (dsimp only; omega)) _ | refine Ext.trans ?_ (by assumption)))).mono ?_; rintro e w5 ⟨rfl, hb5⟩; have ⟨hc, hf, hh, hs⟩ := hb5.facts; try simp only [World.size_alloc, World.size_setCell, World.size_drew] at hs))
                refine ⟨⟨j + 1, M', by omega, by go_num, Lib.hid ⟨hR.out.1.ext (by repeat (first | exact Ext.refl _ | assumption | refine Ext.alloc ?_ _ | refine Ext.drew ?_ | refine Ext.setCell ?_ (by first | (simp; done) | (dsimp only; omega)) _ | refine Ext.trans ?_ (by assumption))), hR.out.2.1.ext (by repeat (first | exact Ext.refl _ | assumption | refine Ext.alloc ?_ _ | refine Ext.drew ?_ | refine Ext.setCell ?_ (by first | (simp; done) | (dsimp only; omega)) _ | refine Ext.trans ?_ (by assumption))), ?_, ((Ext.trans (by repeat (first | exact Ext.refl _ | assumption | refine Ext.alloc ?_ _ | refine Ext.drew ?_ | refine Ext.setCell ?_ (by first | (simp; done) | (dsimp only; omega)) _ | refine Ext.trans ?_ (by assumption))) hb5 : Ext wr w5).block _ hul).trans hR.out.2.2.2⟩⟩, by simp [intOf]; omega⟩
                have := HST.out
                rw [DF.out, HSA.out HFX.out] at this
                rw [← hR.out.2.2.1, this]
              · have hxe : (x / 32 % 4 * 32 != 96) = true := by rw [bne_iff_ne]; omega
                clear hx9
                go_wp2_with (first | (go_at_call 55; refine (HPe.out _ (by repeat (first | exact Ext.refl _ | assumption | refine Ext.alloc ?_ _ | refine Ext.drew ?_ | refine Ext.setCell ?_ (by first | (simp; done) | (dsimp only; omega)) _ | refine Ext.trans ?_ (by assumption)))).mono ?_; rintro e w5 ⟨rfl, hb5⟩; have ⟨hc, hf, hh, hs⟩ := hb5.facts; try simp only [World.size_alloc, World.size_setCell, World.size_drew] at hs) | (go_at_call 59; refine (HWS.out _ (Ext.trans (by repeat (first | exact Ext.refl _ | assumption | refine Ext.alloc ?_ _ | refine Ext.drew ?_ | refine Ext.setCell ?_ (by first | (simp; done) | (dsimp only; omega)) _ | refine Ext.trans ?_ (by assumption))) hb5) _ hle.1 hle.2).mono ?_; rintro e w6 ⟨rfl, hM6, hP6⟩))
                refine ⟨⟨j + 1, markS B M' aj true, by omega, by go_num, Lib.hid ⟨by rw [← HNW.out]; exact hM6, ?_, ?_, ?_⟩⟩, by simp [intOf]; omega⟩
                · exact (hR.out.2.1.ext (Ext.trans (by repeat (first | exact Ext.refl _ | assumption | refine Ext.alloc ?_ _ | refine Ext.drew ?_ | refine Ext.setCell ?_ (by first | (simp; done) | (dsimp only; omega)) _ | refine Ext.trans ?_ (by assumption))) hb5)).trans hP6
                · have := HST.out
                  rw [DF.out] at this
                  rw [← hR.out.2.2.1, this]
                · exact hP6.2 _ _ _ (((Ext.trans (by repeat (first | exact Ext.refl _ | assumption | refine Ext.alloc ?_ _ | refine Ext.drew ?_ | refine Ext.setCell ?_ (by first | (simp; done) | (dsimp only; omega)) _ | refine Ext.trans ?_ (by assumption))) hb5 : Ext wr w5).block _ hul).trans hR.out.2.2.2) (by decide) (by decide) (by decide)
            · have heb : (errM B aj == 0) = false := by simpa using he
              have hsame : markS B M' aj true = M' := by unfold markS; rw [if_neg he]
              have HPe : Hid (∀ w1, Ext wr w1 → Calls Try.prog 55 #[.pointer (some ⟨mb, 0, none⟩), .int .u64 aj] w1 fun e w' => e = .returned (.tuple #[.int .u64 0, .int .i64 (errM B aj)]) ∧ Ext w1 w') := Lib.hid (fun w1 k => by have := HP.out w1 k; rw [if_neg he] at this; exact this)
              have HSA := Lib.hid hsame
              generalize errM B aj = er at HPe heb
              clear he hsame
              go_wp2_with (first | (go_at_call 55; refine (HPe.out _ (by repeat (first | exact Ext.refl _ | assumption | refine Ext.alloc ?_ _ | refine Ext.drew ?_ | refine Ext.setCell ?_ (by first | (simp; done) | (dsimp only; omega)) _ | refine Ext.trans ?_ (by assumption)))).mono ?_; rintro e w5 ⟨rfl, hb5⟩; have ⟨hc, hf, hh, hs⟩ := hb5.facts; try simp only [World.size_alloc, World.size_setCell, World.size_drew] at hs))
              refine ⟨⟨j + 1, M', by omega, by go_num, Lib.hid ⟨hR.out.1.ext (by repeat (first | exact Ext.refl _ | assumption | refine Ext.alloc ?_ _ | refine Ext.drew ?_ | refine Ext.setCell ?_ (by first | (simp; done) | (dsimp only; omega)) _ | refine Ext.trans ?_ (by assumption))), hR.out.2.1.ext (by repeat (first | exact Ext.refl _ | assumption | refine Ext.alloc ?_ _ | refine Ext.drew ?_ | refine Ext.setCell ?_ (by first | (simp; done) | (dsimp only; omega)) _ | refine Ext.trans ?_ (by assumption))), ?_, ((Ext.trans (by repeat (first | exact Ext.refl _ | assumption | refine Ext.alloc ?_ _ | refine Ext.drew ?_ | refine Ext.setCell ?_ (by first | (simp; done) | (dsimp only; omega)) _ | refine Ext.trans ?_ (by assumption))) hb5 : Ext wr w5).block _ hul).trans hR.out.2.2.2⟩⟩, by simp [intOf]; omega⟩
              have := HST.out
              rw [DF.out, HSA.out] at this
              rw [← hR.out.2.2.1, this]
          · have hlb : ((j : Int) == (L.length : Int) - 1) = false := by rw [beq_eq_false_iff_ne]; omega
            have DF : Hid ((true && why == 0 && decide (j + 1 = L.length)) = false) := Lib.hid (by simp [hl])
            clear hl hw
            have hand := and32 m0 m1
            have hor := or32 m0 m1
            have hle := orA_le m0 m1
            by_cases he : errM B aj = 0
            · have HPe : Hid (∀ w1, Ext wr w1 → Calls Try.prog 55 #[.pointer (some ⟨mb, 0, none⟩), .int .u64 aj] w1 fun e w' => e = .returned (.tuple #[.int .u64 x, .int .i64 0]) ∧ Ext w1 w') := Lib.hid (fun w1 k => by have := HP.out w1 k; rw [if_pos he, he, HX.out] at this; exact this)
              have hsame : orA x = x → markS B M' aj false = M' := fun e => by unfold markS; rw [if_pos he, HX.out]; simp only [Bool.false_eq_true, if_false]; rw [e, ← HX.out]; exact setM_self M' (aj / 8)
              have hnew : setIf B M' aj (orA x) = markS B M' aj false := by unfold setIf markS; rw [if_pos he, if_pos he, HX.out]; rfl
              have HE0 := Lib.hid he
              have HSA := Lib.hid hsame
              have HNW := Lib.hid hnew
              clear he hsame hnew
              by_cases hx9 : x / 32 % 2 = 1
              · have hfix : orA x = x := by unfold orA; omega
                have hxe : (x / 32 % 2 * 32 != 32) = false := by rw [hx9]; rfl
                have HFX := Lib.hid hfix
                clear hx9 hfix hor
                go_wp2_with (first | (go_at_call 55; refine (HPe.out _ (by repeat (first | exact Ext.refl _ | assumption | refine Ext.alloc ?_ _ | refine Ext.drew ?_ | refine Ext.setCell ?_ (by first | (simp; done) | (dsimp only; omega)) _ | refine Ext.trans ?_ (by assumption)))).mono ?_; rintro e w5 ⟨rfl, hb5⟩; have ⟨hc, hf, hh, hs⟩ := hb5.facts; try simp only [World.size_alloc, World.size_setCell, World.size_drew] at hs))
                refine ⟨⟨j + 1, M', by omega, by go_num, Lib.hid ⟨hR.out.1.ext (by repeat (first | exact Ext.refl _ | assumption | refine Ext.alloc ?_ _ | refine Ext.drew ?_ | refine Ext.setCell ?_ (by first | (simp; done) | (dsimp only; omega)) _ | refine Ext.trans ?_ (by assumption))), hR.out.2.1.ext (by repeat (first | exact Ext.refl _ | assumption | refine Ext.alloc ?_ _ | refine Ext.drew ?_ | refine Ext.setCell ?_ (by first | (simp; done) | (dsimp only; omega)) _ | refine Ext.trans ?_ (by assumption))), ?_, ((Ext.trans (by repeat (first | exact Ext.refl _ | assumption | refine Ext.alloc ?_ _ | refine Ext.drew ?_ | refine Ext.setCell ?_ (by first | (simp; done) | (dsimp only; omega)) _ | refine Ext.trans ?_ (by assumption))) hb5 : Ext wr w5).block _ hul).trans hR.out.2.2.2⟩⟩, by simp [intOf]; omega⟩
                have := HST.out
                rw [DF.out, HSA.out HFX.out] at this
                rw [← hR.out.2.2.1, this]
              · have hxe : (x / 32 % 2 * 32 != 32) = true := by rw [bne_iff_ne]; omega
                clear hx9
                go_wp2_with (first | (go_at_call 55; refine (HPe.out _ (by repeat (first | exact Ext.refl _ | assumption | refine Ext.alloc ?_ _ | refine Ext.drew ?_ | refine Ext.setCell ?_ (by first | (simp; done) | (dsimp only; omega)) _ | refine Ext.trans ?_ (by assumption)))).mono ?_; rintro e w5 ⟨rfl, hb5⟩; have ⟨hc, hf, hh, hs⟩ := hb5.facts; try simp only [World.size_alloc, World.size_setCell, World.size_drew] at hs) | (go_at_call 59; refine (HWS.out _ (Ext.trans (by repeat (first | exact Ext.refl _ | assumption | refine Ext.alloc ?_ _ | refine Ext.drew ?_ | refine Ext.setCell ?_ (by first | (simp; done) | (dsimp only; omega)) _ | refine Ext.trans ?_ (by assumption))) hb5) _ hle.1 hle.2).mono ?_; rintro e w6 ⟨rfl, hM6, hP6⟩))
                refine ⟨⟨j + 1, markS B M' aj false, by omega, by go_num, Lib.hid ⟨by rw [← HNW.out]; exact hM6, ?_, ?_, ?_⟩⟩, by simp [intOf]; omega⟩
                · exact (hR.out.2.1.ext (Ext.trans (by repeat (first | exact Ext.refl _ | assumption | refine Ext.alloc ?_ _ | refine Ext.drew ?_ | refine Ext.setCell ?_ (by first | (simp; done) | (dsimp only; omega)) _ | refine Ext.trans ?_ (by assumption))) hb5)).trans hP6
                · have := HST.out
                  rw [DF.out] at this
                  rw [← hR.out.2.2.1, this]
                · exact hP6.2 _ _ _ (((Ext.trans (by repeat (first | exact Ext.refl _ | assumption | refine Ext.alloc ?_ _ | refine Ext.drew ?_ | refine Ext.setCell ?_ (by first | (simp; done) | (dsimp only; omega)) _ | refine Ext.trans ?_ (by assumption))) hb5 : Ext wr w5).block _ hul).trans hR.out.2.2.2) (by decide) (by decide) (by decide)
            · have heb : (errM B aj == 0) = false := by simpa using he
              have hsame : markS B M' aj false = M' := by unfold markS; rw [if_neg he]
              have HPe : Hid (∀ w1, Ext wr w1 → Calls Try.prog 55 #[.pointer (some ⟨mb, 0, none⟩), .int .u64 aj] w1 fun e w' => e = .returned (.tuple #[.int .u64 0, .int .i64 (errM B aj)]) ∧ Ext w1 w') := Lib.hid (fun w1 k => by have := HP.out w1 k; rw [if_neg he] at this; exact this)
              have HSA := Lib.hid hsame
              generalize errM B aj = er at HPe heb
              clear he hsame
              go_wp2_with (first | (go_at_call 55; refine (HPe.out _ (by repeat (first | exact Ext.refl _ | assumption | refine Ext.alloc ?_ _ | refine Ext.drew ?_ | refine Ext.setCell ?_ (by first | (simp; done) | (dsimp only; omega)) _ | refine Ext.trans ?_ (by assumption)))).mono ?_; rintro e w5 ⟨rfl, hb5⟩; have ⟨hc, hf, hh, hs⟩ := hb5.facts; try simp only [World.size_alloc, World.size_setCell, World.size_drew] at hs))
              refine ⟨⟨j + 1, M', by omega, by go_num, Lib.hid ⟨hR.out.1.ext (by repeat (first | exact Ext.refl _ | assumption | refine Ext.alloc ?_ _ | refine Ext.drew ?_ | refine Ext.setCell ?_ (by first | (simp; done) | (dsimp only; omega)) _ | refine Ext.trans ?_ (by assumption))), hR.out.2.1.ext (by repeat (first | exact Ext.refl _ | assumption | refine Ext.alloc ?_ _ | refine Ext.drew ?_ | refine Ext.setCell ?_ (by first | (simp; done) | (dsimp only; omega)) _ | refine Ext.trans ?_ (by assumption))), ?_, ((Ext.trans (by repeat (first | exact Ext.refl _ | assumption | refine Ext.alloc ?_ _ | refine Ext.drew ?_ | refine Ext.setCell ?_ (by first | (simp; done) | (dsimp only; omega)) _ | refine Ext.trans ?_ (by assumption))) hb5 : Ext wr w5).block _ hul).trans hR.out.2.2.2⟩⟩, by simp [intOf]; omega⟩
              have := HST.out
              rw [DF.out, HSA.out] at this
              rw [← hR.out.2.2.1, this]
        · have hwb : (why == 0) = false := by simpa using hw
          have DF : Hid ((true && why == 0 && decide (j + 1 = L.length)) = false) := Lib.hid (by simp [hw])
          clear hw
          have hand := and32 m0 m1
          have hor := or32 m0 m1
          have hle := orA_le m0 m1
          by_cases he : errM B aj = 0
          · have HPe : Hid (∀ w1, Ext wr w1 → Calls Try.prog 55 #[.pointer (some ⟨mb, 0, none⟩), .int .u64 aj] w1 fun e w' => e = .returned (.tuple #[.int .u64 x, .int .i64 0]) ∧ Ext w1 w') := Lib.hid (fun w1 k => by have := HP.out w1 k; rw [if_pos he, he, HX.out] at this; exact this)
            have hsame : orA x = x → markS B M' aj false = M' := fun e => by unfold markS; rw [if_pos he, HX.out]; simp only [Bool.false_eq_true, if_false]; rw [e, ← HX.out]; exact setM_self M' (aj / 8)
            have hnew : setIf B M' aj (orA x) = markS B M' aj false := by unfold setIf markS; rw [if_pos he, if_pos he, HX.out]; rfl
            have HE0 := Lib.hid he
            have HSA := Lib.hid hsame
            have HNW := Lib.hid hnew
            clear he hsame hnew
            by_cases hx9 : x / 32 % 2 = 1
            · have hfix : orA x = x := by unfold orA; omega
              have hxe : (x / 32 % 2 * 32 != 32) = false := by rw [hx9]; rfl
              have HFX := Lib.hid hfix
              clear hx9 hfix hor
              go_wp2_with (first | (go_at_call 55; refine (HPe.out _ (by repeat (first | exact Ext.refl _ | assumption | refine Ext.alloc ?_ _ | refine Ext.drew ?_ | refine Ext.setCell ?_ (by first | (simp; done) | (dsimp only; omega)) _ | refine Ext.trans ?_ (by assumption)))).mono ?_; rintro e w5 ⟨rfl, hb5⟩; have ⟨hc, hf, hh, hs⟩ := hb5.facts; try simp only [World.size_alloc, World.size_setCell, World.size_drew] at hs))
              refine ⟨⟨j + 1, M', by omega, by go_num, Lib.hid ⟨hR.out.1.ext (by repeat (first | exact Ext.refl _ | assumption | refine Ext.alloc ?_ _ | refine Ext.drew ?_ | refine Ext.setCell ?_ (by first | (simp; done) | (dsimp only; omega)) _ | refine Ext.trans ?_ (by assumption))), hR.out.2.1.ext (by repeat (first | exact Ext.refl _ | assumption | refine Ext.alloc ?_ _ | refine Ext.drew ?_ | refine Ext.setCell ?_ (by first | (simp; done) | (dsimp only; omega)) _ | refine Ext.trans ?_ (by assumption))), ?_, ((Ext.trans (by repeat (first | exact Ext.refl _ | assumption | refine Ext.alloc ?_ _ | refine Ext.drew ?_ | refine Ext.setCell ?_ (by first | (simp; done) | (dsimp only; omega)) _ | refine Ext.trans ?_ (by assumption))) hb5 : Ext wr w5).block _ hul).trans hR.out.2.2.2⟩⟩, by simp [intOf]; omega⟩
              have := HST.out
              rw [DF.out, HSA.out HFX.out] at this
              rw [← hR.out.2.2.1, this]
            · have hxe : (x / 32 % 2 * 32 != 32) = true := by rw [bne_iff_ne]; omega
              clear hx9
              go_wp2_with (first | (go_at_call 55; refine (HPe.out _ (by repeat (first | exact Ext.refl _ | assumption | refine Ext.alloc ?_ _ | refine Ext.drew ?_ | refine Ext.setCell ?_ (by first | (simp; done) | (dsimp only; omega)) _ | refine Ext.trans ?_ (by assumption)))).mono ?_; rintro e w5 ⟨rfl, hb5⟩; have ⟨hc, hf, hh, hs⟩ := hb5.facts; try simp only [World.size_alloc, World.size_setCell, World.size_drew] at hs) | (go_at_call 59; refine (HWS.out _ (Ext.trans (by repeat (first | exact Ext.refl _ | assumption | refine Ext.alloc ?_ _ | refine Ext.drew ?_ | refine Ext.setCell ?_ (by first | (simp; done) | (dsimp only; omega)) _ | refine Ext.trans ?_ (by assumption))) hb5) _ hle.1 hle.2).mono ?_; rintro e w6 ⟨rfl, hM6, hP6⟩))
              refine ⟨⟨j + 1, markS B M' aj false, by omega, by go_num, Lib.hid ⟨by rw [← HNW.out]; exact hM6, ?_, ?_, ?_⟩⟩, by simp [intOf]; omega⟩
              · exact (hR.out.2.1.ext (Ext.trans (by repeat (first | exact Ext.refl _ | assumption | refine Ext.alloc ?_ _ | refine Ext.drew ?_ | refine Ext.setCell ?_ (by first | (simp; done) | (dsimp only; omega)) _ | refine Ext.trans ?_ (by assumption))) hb5)).trans hP6
              · have := HST.out
                rw [DF.out] at this
                rw [← hR.out.2.2.1, this]
              · exact hP6.2 _ _ _ (((Ext.trans (by repeat (first | exact Ext.refl _ | assumption | refine Ext.alloc ?_ _ | refine Ext.drew ?_ | refine Ext.setCell ?_ (by first | (simp; done) | (dsimp only; omega)) _ | refine Ext.trans ?_ (by assumption))) hb5 : Ext wr w5).block _ hul).trans hR.out.2.2.2) (by decide) (by decide) (by decide)
          · have heb : (errM B aj == 0) = false := by simpa using he
            have hsame : markS B M' aj false = M' := by unfold markS; rw [if_neg he]
            have HPe : Hid (∀ w1, Ext wr w1 → Calls Try.prog 55 #[.pointer (some ⟨mb, 0, none⟩), .int .u64 aj] w1 fun e w' => e = .returned (.tuple #[.int .u64 0, .int .i64 (errM B aj)]) ∧ Ext w1 w') := Lib.hid (fun w1 k => by have := HP.out w1 k; rw [if_neg he] at this; exact this)
            have HSA := Lib.hid hsame
            generalize errM B aj = er at HPe heb
            clear he hsame
            go_wp2_with (first | (go_at_call 55; refine (HPe.out _ (by repeat (first | exact Ext.refl _ | assumption | refine Ext.alloc ?_ _ | refine Ext.drew ?_ | refine Ext.setCell ?_ (by first | (simp; done) | (dsimp only; omega)) _ | refine Ext.trans ?_ (by assumption)))).mono ?_; rintro e w5 ⟨rfl, hb5⟩; have ⟨hc, hf, hh, hs⟩ := hb5.facts; try simp only [World.size_alloc, World.size_setCell, World.size_drew] at hs))
            refine ⟨⟨j + 1, M', by omega, by go_num, Lib.hid ⟨hR.out.1.ext (by repeat (first | exact Ext.refl _ | assumption | refine Ext.alloc ?_ _ | refine Ext.drew ?_ | refine Ext.setCell ?_ (by first | (simp; done) | (dsimp only; omega)) _ | refine Ext.trans ?_ (by assumption))), hR.out.2.1.ext (by repeat (first | exact Ext.refl _ | assumption | refine Ext.alloc ?_ _ | refine Ext.drew ?_ | refine Ext.setCell ?_ (by first | (simp; done) | (dsimp only; omega)) _ | refine Ext.trans ?_ (by assumption))), ?_, ((Ext.trans (by repeat (first | exact Ext.refl _ | assumption | refine Ext.alloc ?_ _ | refine Ext.drew ?_ | refine Ext.setCell ?_ (by first | (simp; done) | (dsimp only; omega)) _ | refine Ext.trans ?_ (by assumption))) hb5 : Ext wr w5).block _ hul).trans hR.out.2.2.2⟩⟩, by simp [intOf]; omega⟩
            have := HST.out
            rw [DF.out, HSA.out] at this
            rw [← hR.out.2.2.1, this]
    · obtain rfl : j = L.length := by omega
      go_wp2
      all_goals
        (try refine ⟨rfl, .tuple #[], (by simp [results, Try.results21, go_sem]), ?_⟩)
        rw [← HE.out]
        refine ⟨rfl, ?_, (SepP.of_ext VE.out).trans hR.out.2.1⟩
        have := hR.out.2.2.1
        rw [List.drop_of_length_le (Nat.le_refl _)] at this
        rw [← this]; exact hR.out.1
end Go.Proofs.Ytfaekfdngkpkdaa
/- Rights and steps compared; words in rows. -/
namespace Go.Proofs.Ytfaekfdngkpkdaa
set_option linter.unusedVariables false
set_option linter.unusedSimpArgs false
open Go.RowKit
attribute [local go_sem] wext_cell wext_frozen wext_heap alloc_cell alloc_frozen alloc_heap setCell_cell objCell_cells objFrozen_cells

def rtB (x y : Rt) : Bool := decide (x = y)
theorem rt_equal (x y : Rt) (w : World) : (Op.equal 25 (.agg #[.bool x.1, .bool x.2.1, .bool x.2.2]) (.agg #[.bool y.1, .bool y.2.1, .bool y.2.2])).run Try.prog w = .ok (decide (x = y)) w := by
  show (Op.equalIn 10000 _ _ _).run _ _ = _
  obtain ⟨p, l, t⟩ := x
  obtain ⟨p', l', t'⟩ := y
  simp [go_sem]
  by_cases h1 : p = p' <;> by_cases h2 : l = l' <;> by_cases h3 : t = t' <;> simp [*]
theorem rt_eql (p l t p' l' t' : Bool) (w : World) : (binOp .eql 25 (.agg #[.bool p, .bool l, .bool t]) (.agg #[.bool p', .bool l', .bool t'])).run Try.prog w = .ok (.bool (rtB (p, l, t) (p', l', t'))) w := by
  have := rt_equal (p, l, t) (p', l', t') w
  rw [run_eql_struct]
  show ((Op.equal _ _ _).run _ _).andThen _ = _
  rw [this]; rfl
theorem rt_neq (p l t p' l' t' : Bool) (w : World) : (binOp .neq 25 (.agg #[.bool p, .bool l, .bool t]) (.agg #[.bool p', .bool l', .bool t'])).run Try.prog w = .ok (.bool (!rtB (p, l, t) (p', l', t'))) w := by
  have := rt_equal (p, l, t) (p', l', t') w
  rw [run_neq_struct]
  show ((Op.equal _ _ _).run _ _).andThen _ = _
  rw [this]; rfl
theorem rtB_self (r : Rt) : rtB r r = true := by simp [rtB]
theorem Owns.word {U : World} {sa : Option Addr} {n sc : Nat} {xs : List Int} (h : Owns U 23 1 (.slice sa n sc) n (xs.map (.int .u64 ·))) {i : Nat} (hi : i < n) (hn : n = n) :
    ∃ g, sa = some ⟨g, 0, none⟩ ∧ g < U.heap.size ∧ U.cell? ⟨g, i, none⟩ = some (.int .u64 (xs.getD i 0)) := by
  obtain ⟨g, hg⟩ : ∃ g, sa = some ⟨g, 0, none⟩ := by
    rcases h.2 with ⟨h1, h0⟩ | ⟨g, _, _, he, _⟩
    · omega
    · exact ⟨g, by injection he⟩
  subst hg
  have hl : xs.length = n := by have := h.1; simpa using this
  exact ⟨g, rfl, h.lt g rfl, h.cells (g := g) rfl i _ (by simp [List.getD, hl, hi])⟩
theorem bit0 (x : Int) : bitB x 0 = (x % 2 == 1) := by unfold bitB; rw [show pow2 0 = 1 from rfl, Int.ediv_one]

def stB (x y : Stp) : Bool := decide (x = y)
theorem st_equal (x y : Stp) (w : World) : (Op.equal 65 (.agg #[.int .i64 x.1, .int .u64 x.2.1, .int .u64 x.2.2]) (.agg #[.int .i64 y.1, .int .u64 y.2.1, .int .u64 y.2.2])).run Try.prog w = .ok (decide (x = y)) w := by
  show (Op.equalIn 10000 _ _ _).run _ _ = _
  obtain ⟨p, l, t⟩ := x
  obtain ⟨p', l', t'⟩ := y
  simp [go_sem]
  by_cases h1 : p = p' <;> by_cases h2 : l = l' <;> by_cases h3 : t = t' <;> simp [*]
theorem st_eql (p l t p' l' t' : Int) (w : World) : (binOp .eql 65 (.agg #[.int .i64 p, .int .u64 l, .int .u64 t]) (.agg #[.int .i64 p', .int .u64 l', .int .u64 t'])).run Try.prog w = .ok (.bool (stB (p, l, t) (p', l', t'))) w := by
  have := st_equal (p, l, t) (p', l', t') w
  rw [run_eql_struct]
  show ((Op.equal _ _ _).run _ _).andThen _ = _
  rw [this]; rfl
theorem st_neq (p l t p' l' t' : Int) (w : World) : (binOp .neq 65 (.agg #[.int .i64 p, .int .u64 l, .int .u64 t]) (.agg #[.int .i64 p', .int .u64 l', .int .u64 t'])).run Try.prog w = .ok (.bool (!stB (p, l, t) (p', l', t'))) w := by
  have := st_equal (p, l, t) (p', l', t') w
  rw [run_neq_struct]
  show ((Op.equal _ _ _).run _ _).andThen _ = _
  rw [this]; rfl
theorem stB_self (s : Stp) : stB s s = true := by simp [stB]
theorem Owns.store7 {U : World} {e : TypeId} {k : Nat} {v : Value} {n : Nat} {xs : List Value} (h : Owns U e k v n xs) {qb : Nat} {c : Array Value} {e' : TypeId} (hq : U.heap[qb]? = some (.cells c e' (0, 0))) (hne : e ≠ e') {v0 v1 v2 v3 v4 v5 v6 : Value} :
    Owns (((((((U.setCell ⟨qb, 0, none⟩ v0).setCell ⟨qb, 1, none⟩ v1).setCell ⟨qb, 2, none⟩ v2).setCell ⟨qb, 3, none⟩ v3).setCell ⟨qb, 4, none⟩ v4).setCell ⟨qb, 5, none⟩ v5).setCell ⟨qb, 6, none⟩ v6) e k v n xs :=
  h.keep fun g hg => by
    obtain ⟨c', hc⟩ := h.heap g hg
    exact store7_other (fun e => by rw [← e, hq] at hc; simp only [Option.some.injEq, Obj.cells.injEq] at hc; exact hne hc.2.1.symm)
theorem PathAt.store7 {U : World} {b : Nat} {sa : Option Addr} {sc : Nat} {q : List Stp × WRes} (h : PathAt U b sa sc q) {qb : Nat} {c : Array Value} (hq : U.heap[qb]? = some (.cells c 38 (0, 0))) (hne : qb ≠ b) {v0 v1 v2 v3 v4 v5 v6 : Value} :
    PathAt (((((((U.setCell ⟨qb, 0, none⟩ v0).setCell ⟨qb, 1, none⟩ v1).setCell ⟨qb, 2, none⟩ v2).setCell ⟨qb, 3, none⟩ v3).setCell ⟨qb, 4, none⟩ v4).setCell ⟨qb, 5, none⟩ v5).setCell ⟨qb, 6, none⟩ v6) b sa sc q :=
  ⟨(store7_other hne).trans h.1, h.2.store7 hq (by decide)⟩
end Go.Proofs.Ytfaekfdngkpkdaa
/- Same: are two paths the same, but for flags? -/
namespace Go.Proofs.Ytfaekfdngkpkdaa
set_option linter.unusedVariables false
set_option linter.unusedSimpArgs false
open Go.RowKit
attribute [local go_sem] wext_cell wext_frozen wext_heap alloc_cell alloc_frozen alloc_heap setCell_cell objCell_cells objFrozen_cells
attribute [local go_sem high] rt_eql rt_neq st_eql st_neq

def eqvB (a b : Stp) : Bool := stB (a.1, a.2.1, orD a.2.2) (b.1, b.2.1, orD b.2.2)
def eqvSB : List Stp → List Stp → Bool
  | [], _ => true
  | _, [] => true
  | a :: L, b :: K => eqvB a b && eqvSB L K
def sameP (p q : List Stp × WRes) : Bool :=
  p.2.1 == q.2.1 && rtB (p.2.2.1.1, p.2.2.1.2.1, p.2.2.1.2.2) (q.2.2.1.1, q.2.2.1.2.1, q.2.2.1.2.2) && p.2.2.2.1 == q.2.2.2.1 && p.2.2.2.2 == q.2.2.2.2 && p.1.length == q.1.length && eqvSB p.1 q.1
theorem eqvSB_drop (L K : List Stp) (j : Nat) (hl : j < L.length) (hk : j < K.length) : eqvSB (L.drop j) (K.drop j) = (eqvB (stpAt L j) (stpAt K j) && eqvSB (L.drop (j + 1)) (K.drop (j + 1))) := by
  have e : ∀ L : List Stp, j < L.length → L.drop j = stpAt L j :: L.drop (j + 1) := fun L h => by
    rw [List.drop_eq_getElem_cons h]
    congr 1
    simp [stpAt, List.getD, h]
  rw [e L hl, e K hk]; rfl
theorem same_of {L K : List Stp} {r : WRes} (h : eqvS L K) : sameP (L, r) (K, r) = true := by
  have hl := eqvS_length h
  have : ∀ {L K : List Stp}, eqvS L K → eqvSB L K = true := by
    intro L
    induction L with
    | nil => intros; rfl
    | cons a L ih =>
      intro K h
      cases K with
      | nil => rfl
      | cons b K =>
        obtain ⟨h1, h2, h3, h4⟩ := h
        have : eqvB a b = true := by unfold eqvB stB; simp [h1, h2, eqv_or.2 h3]
        simp [eqvSB, this, ih h4]
  simp [sameP, this h, hl, rtB]
theorem same_true {p q : List Stp × WRes} (h : sameP p q = true) : p.2 = q.2 := by
  unfold sameP rtB at h
  simp only [Bool.and_eq_true, beq_iff_eq, decide_eq_true_eq, Prod.mk.injEq] at h
  obtain ⟨L, w, ⟨a, b, c⟩, l, f⟩ := p
  obtain ⟨K, w', ⟨a', b', c'⟩, l', f'⟩ := q
  simp_all

end Go.Proofs.Ytfaekfdngkpkdaa
/- Copy: a memory of the same bytes. -/
namespace Go.Proofs.Ytfaekfdngkpkdaa
set_option linter.unusedVariables false
set_option linter.unusedSimpArgs false
open Go.RowKit
attribute [local go_sem] wext_cell wext_frozen wext_heap alloc_cell alloc_frozen alloc_heap setCell_cell objCell_cells objFrozen_cells

section
variable {P : Program} {w : World} {ops : Array Oper} {rest : List Oper} {o : Oper} {a : Act} {Q : Exit → Act → World → Prop}
/-- A range loop's step, by the entries themselves. -/
theorem wpList_next_raw (hg : o.guard = none) (it : Operand) (hop : o.op = Op.next it false) (r bm since c0 : Nat) (seen : Array Nat) (es : Array MapEntry) (clock : Nat)
    (hit : a.eval it = .pointer (some ⟨r, 0, none⟩)) (hr : w.heap[r]? = some (.mapIter (some bm) since seen c0)) (hb : w.heap[bm]? = some (.map es clock)) (hold : ∀ x ∈ es.toList, x.born < since) (hsc : since ≤ c0)
    (hDone : (leftOf es seen).size = 0 → wpList P ops Q rest (a.put o.dst (.tuple #[.bool false])) w)
    (hMore : ∀ e ∈ (leftOf es seen).toList, ∀ w' : World, Keeps [r] w w' → w'.heap[r]? = some (.mapIter (some bm) since (seen.push e.born) clock) → wpList P ops Q rest (a.put o.dst (.tuple #[.bool true, e.key, e.val])) w') :
    wpList P ops Q (o :: rest) a w := by
  refine wpList_plain hg fun K' hK' => ?_
  unfold Oper.wp
  rcases run_next_at (P := P) w o.type r bm since c0 seen es clock hr hb hold hsc with ⟨h0, hrun⟩ | ⟨e, he, w1, hw1, hrun⟩
  · simp [execOp, hop, hit, hrun, Result.andThen]
    exact hK' _ _ (hDone h0)
  · simp [execOp, hop, hit, hrun, Result.andThen]
    refine hK' _ _ (hMore e he _ ?_ ?_)
    · have k1 : Keeps [r] w w1 := by
        rcases hw1 with rfl | rfl
        · exact Keeps.refl _ _
        · exact Keeps.of_ext (Ext.refl _).drew
      exact k1.put (.inl (by simp)) _
    · have hl : r < w1.heap.size := by
        have := heap_lt hr
        rcases hw1 with rfl | rfl
        · exact this
        · exact this
      exact putBlk_same w1 r _ hl
end
theorem range_run (w : World) (pb : Nat) (es : Array MapEntry) (clock : Nat) (hb : w.heap[pb]? = some (.map es clock)) :
    (Instr.range 185 (.map (some pb))).run Try.prog w = .ok (.pointer (some ⟨w.heap.size, 0, none⟩)) (w.alloc (.mapIter (some pb) clock #[] clock)) := by
  unfold Instr.range
  rw [Sem.run_bind]
  simp only [Sem.run_bind, run_underlying Try.underlying185, Result.andThen_ok, getObj_at hb, Sem.run_pure]
  rfl
theorem memNew_x (B : Int) (w : World) (hB : 14 ≤ B ∧ B ≤ 22) :
    Calls Try.prog 56 #[.int .i64 B] w fun e w' => e = .returned (.pointer (some ⟨w.heap.size + 1, 0, none⟩)) ∧ w'.heap[w.heap.size + 1]? = some (.cells #[.int .i64 B, .map (some w.heap.size), .slice none 0 0] 187 (0, 0)) ∧ w'.heap[w.heap.size]? = some (.map #[] 0) ∧ Ext w w' := by
  have hmk : ∀ w, (Instr.makeMap 185 none).run Try.prog w = .ok (.map (some w.heap.size)) (w.alloc (.map #[] 0)) := fun _ => rfl
  obtain ⟨hB0, hB1⟩ := hB
  go_enter Try.func56, Try.ntmps56
  go_wp2
  all_goals
    go_ret
    refine ⟨rfl, alloc_same1 .., ?_, (by repeat (first | exact Ext.refl _ | assumption | refine Ext.alloc ?_ _ | refine Ext.drew ?_ | refine Ext.setCell ?_ (by first | (simp; done) | (dsimp only; omega)) _ | refine Ext.trans ?_ (by assumption)))⟩
    rw [alloc_other _ _ (by simp), alloc_same]
theorem nodup_eq {α β : Type} {f : α → β} : ∀ {l : List α} {x y : α}, (l.map f).Nodup → x ∈ l → y ∈ l → f x = f y → x = y
  | [], _, _, _, h, _, _ => by cases h
  | a :: l, x, y, hn, hx, hy, e => by
    simp only [List.map_cons, List.nodup_cons] at hn
    obtain ⟨hn1, hn2⟩ := hn
    rcases List.mem_cons.1 hx with h1 | h1
    · rcases List.mem_cons.1 hy with h2 | h2
      · rw [h1, h2]
      · exact absurd (List.mem_map.2 ⟨y, h2, by rw [← e, h1]⟩) hn1
    · rcases List.mem_cons.1 hy with h2 | h2
      · exact absurd (List.mem_map.2 ⟨x, h1, by rw [e, h2]⟩) hn1
      · exact nodup_eq hn2 h1 h2 e
theorem EntP.mem {es : Array MapEntry} {clock : Nat} {PL : List (Int × Nat)} (h : EntP es clock PL) {e : MapEntry} (he : e ∈ es.toList) : ∃ n g, (n, g) ∈ PL ∧ e.key = .int .u64 n ∧ e.val = .pointer (some ⟨g, 0, none⟩) := by
  have : (e.key, e.val) ∈ es.toList.map (fun e => (e.key, e.val)) := List.mem_map.2 ⟨e, he, rfl⟩
  rw [h.2] at this
  obtain ⟨⟨n, g⟩, h1, h2⟩ := List.mem_map.1 this
  simp only [Prod.mk.injEq] at h2
  exact ⟨n, g, h1, h2.1.symm, h2.2.symm⟩
theorem EntP.entry {es : Array MapEntry} {clock : Nat} {PL : List (Int × Nat)} (h : EntP es clock PL) {n : Int} {g : Nat} (hx : (n, g) ∈ PL) : ∃ e ∈ es.toList, e.key = .int .u64 n := by
  have : ((Value.int .u64 n, Value.pointer (some ⟨g, 0, none⟩)) : Value × Value) ∈ PL.map fun x => (Value.int .u64 x.1, Value.pointer (some ⟨x.2, 0, none⟩)) := List.mem_map.2 ⟨(n, g), hx, rfl⟩
  rw [← h.2] at this
  obtain ⟨e, h1, h2⟩ := List.mem_map.1 this
  simp only [Prod.mk.injEq] at h2
  exact ⟨e, h1, h2.1⟩
/-- Entries' keys are each one's own. -/
theorem EntP.key_inj {es : Array MapEntry} {clock : Nat} {PL : List (Int × Nat)} (h : EntP es clock PL) (hn : (PL.map (·.1)).Nodup) {e e' : MapEntry} (he : e ∈ es.toList) (he' : e' ∈ es.toList) (hk : e.key = e'.key) : e = e' := by
  have h1 : (es.toList.map (·.key)) = PL.map fun x => Value.int .u64 x.1 := by
    have := congrArg (List.map Prod.fst) h.2
    simpa [List.map_map, Function.comp_def] using this
  have h2 : (es.toList.map (·.key)).Nodup := by
    rw [h1]
    have : PL.map (fun x => Value.int .u64 x.1) = (PL.map (·.1)).map (Value.int .u64) := by simp [List.map_map, Function.comp_def]
    rw [this]
    exact List.Pairwise.map _ (fun a b hab e => hab (by injection e)) hn
  exact nodup_eq h2 he he' hk

theorem nodup_le : ∀ {l k : List Int}, l.Nodup → (∀ x ∈ l, x ∈ k) → l.length ≤ k.length
  | [], k, _, _ => Nat.zero_le _
  | x :: l, k, hn, h => by
    simp only [List.nodup_cons] at hn
    have hx := h x (List.mem_cons_self ..)
    have := nodup_le (l := l) (k := k.erase x) hn.2 (fun y hy => (List.mem_erase_of_ne (fun e => hn.1 (by rw [← e]; exact hy))).2 (h y (List.mem_cons_of_mem _ hy)))
    rw [List.length_erase_of_mem hx] at this
    have := List.length_pos_of_mem hx
    simp only [List.length_cons]; omega
/-- A copy under way: which entries have been seen, and their pages, copied. -/
structure CopyAt (U w : World) (rb pb cb cpb : Nat) (es : Array MapEntry) (clock : Nat) (B : Int) (M : Int → Int) (seen : Array Nat) (c0 : Nat) (ec : Array MapEntry) (cc : Nat) (PC : List (Int × Nat)) (base : Nat) : Prop where
  ext : Ext U w
  it : w.heap[rb]? = some (.mapIter (some pb) clock seen c0)
  late : clock ≤ c0
  mem : w.heap[cb]? = some (.cells #[.int .i64 B, .map (some cpb), .slice none 0 0] 187 (0, 0))
  map : w.heap[cpb]? = some (.map ec cc)
  ent : EntP ec cc PC
  keys : (PC.map (·.1)).Nodup
  blks : (PC.map (·.2)).Nodup
  page : ∀ x ∈ PC, PageAt w x.2 x.1 M ∧ base ≤ x.2
  done : ∀ e ∈ es.toList, ∀ n, e.key = .int .u64 n → (n ∈ PC.map (·.1) ↔ seen.contains e.born = true)
  few : seen.size = PC.length
  sub : ∀ x ∈ PC.map (·.1), ∃ e ∈ es.toList, e.key = .int .u64 x
def copyLeft (rb : Nat) (es : Array MapEntry) (w : World) : Nat := match w.heap[rb]? with | some (.mapIter _ _ seen _) => es.size - seen.size | _ => 0

def EndCopy (w : World) (B : Int) (M : Int → Int) (e : Ending) (w' : World) : Prop :=
  ∃ cb, e = .returned (.pointer (some ⟨cb, 0, none⟩)) ∧ MemP (w.heap.size ≤ ·) w' cb B M [] ∧ Ext w w'
set_option maxHeartbeats 4000000 in
set_option maxRecDepth 100000 in
theorem copy_c (mb : Nat) (F : List Nat) (B : Int) (M : Int → Int) (T : List Int) (w : World) (h : MemAt w mb F B M T) :
    Calls Try.prog 52 #[.pointer (some ⟨mb, 0, none⟩)] w (EndCopy w B M) := by
  obtain ⟨pb, tv, es, clock, PL, p1, p2, p3, p4, p5, p6, p7, p8, p9, hF, hB⟩ := h
  have hlt := heap_lt p1
  have hlp := heap_lt p2
  have c0 := (heap_cell p1 0).trans rfl
  have c1 := (heap_cell p1 1).trans rfl
  have P2 := Lib.hid p2
  have P1 := Lib.hid p1
  have P3 := Lib.hid p3
  have P4 := Lib.hid p4
  have P6 := Lib.hid p6
  have P7 := Lib.hid p7
  have P8 := Lib.hid p8
  have hBB := hB
  obtain ⟨hB0, hB1⟩ := hB
  generalize hE : EndCopy w B M = E
  have HE := Lib.hid hE
  clear p1 p2 p3 p4 p5 p6 p7 p8 p9 hF hE
  go_enter Try.func52, Try.ntmps52
  go_upto_region 4 with (first | (go_at_call 56; refine (memNew_x B _ hBB).mono ?_; rintro e w1 ⟨rfl, n1, n2, hE1⟩))
  have hrg := range_run w1 pb es clock ((hE1.block _ hlp).trans P2.out)
  have d1 := (heap_cell ((hE1.block _ hlt).trans P1.out) 1).trans rfl
  have hlt1 := Nat.lt_of_lt_of_le hlt hE1.size
  have hz1 := heap_lt n1
  have N1 := Lib.hid n1
  have N2 := Lib.hid n2
  have E1 := Lib.hid hE1
  clear n1 n2 hE1 c0 c1
  go_wp2
  clear hrg d1
  obtain ⟨cb, hcb⟩ : ∃ cb, w.heap.size + 1 = cb := ⟨_, rfl⟩
  obtain ⟨cpb, hcpb⟩ : ∃ cpb, w.heap.size = cpb := ⟨_, rfl⟩
  rw [hcb] at N1 hz1 ⊢
  obtain ⟨rb, hrb⟩ : ∃ rb, w1.heap.size = rb := ⟨_, rfl⟩
  have hne : cpb < cb ∧ cb < rb ∧ w.heap.size ≤ cpb := by omega
  obtain ⟨hne1, hne2, hne3⟩ := hne
  rw [hcpb] at N1 N2
  have hst : CopyAt w (w1.alloc (.mapIter (some pb) clock #[] clock)) rb pb cb cpb es clock B M #[] clock #[] 0 [] w.heap.size :=
    ⟨E1.out.alloc _, by rw [← hrb]; exact alloc_same .., Nat.le_refl _, (alloc_other _ _ (by omega)).trans N1.out, (alloc_other _ _ (by omega)).trans N2.out, ⟨⟨(fun e h => by simp at h), by simp⟩, rfl⟩, by simp, by simp, (fun x hx => by cases hx), (fun e _ n _ => by simp), rfl, (fun x hx => by simp at hx)⟩
  have HST := Lib.hid hst
  rw [hrb]
  clear hst hcb hcpb hrb hz1
  (try go_frame)
  go_loopw [19] (fun _ wr => ∃ (seen : Array Nat) (k0 : Nat) (ec : Array MapEntry) (cc : Nat) (PC : List (Int × Nat)), Hid (CopyAt w wr rb pb cb cpb es clock B M seen k0 ec cc PC w.heap.size)) (fun _ wr => copyLeft rb es wr)
  case atStart => exact ⟨_, _, _, _, _, HST⟩
  case round =>
    obtain ⟨seen, k0, ec, cc, PC, hR⟩ := hrel
    go_wp2_with (first | (at_next; refine wpList_next_raw rfl _ rfl rb pb clock k0 seen es clock rfl hR.out.it ((hR.out.ext.block _ hlp).trans P2.out) P3.out.1.1 hR.out.late ?_ ?_))
    · intro h0
      (try go_frame)
      go_wp2
      all_goals
        (try go_ret)
        rw [← HE.out]
        refine ⟨cb, rfl, ⟨cb :: cpb :: ((Value.slice none 0 0).ownBlock.toList ++ PC.map (·.2)), ⟨cpb, .slice none 0 0, ec, cc, PC, hR.out.mem, hR.out.map, hR.out.ent, hR.out.keys, hR.out.blks, fun x hx => (hR.out.page x hx).1, fun s hs => ?_, P8.out, Owns.nil .., rfl, hBB⟩, fun x hx => ?_⟩, hR.out.ext⟩
        · cases hf : findP (s / 512) PL with
          | none => exact P7.out s hf
          | some g =>
            obtain ⟨e, he, hk⟩ := P3.out.entry (findP_mem hf)
            have hs1 : seen.contains e.born = true := by
              cases hq : seen.contains e.born with
              | true => rfl
              | false =>
                have hm : e ∈ leftOf es seen := by
                  unfold leftOf
                  rw [Array.mem_filter]
                  exact ⟨by simpa using he, by rw [hq]; rfl⟩
                have : (leftOf es seen) = #[] := by first | exact h0 | exact Array.eq_empty_of_size_eq_zero h0
                rw [this] at hm; simp at hm
            exact absurd ((hR.out.done e he _ hk).2 hs1) (findP_not hs)
        · simp only [Value.ownBlock, Option.map_none, Option.toList_none, List.nil_append, List.mem_cons, List.mem_map] at hx
          rcases hx with rfl | rfl | ⟨y, hy, rfl⟩
          · omega
          · exact hne3
          · exact (hR.out.page y hy).2
    · intro e he w2 k2 hit2
      have he2 : e ∈ es.toList ∧ seen.contains e.born = false := by
        have he3 : e ∈ leftOf es seen := by simpa using he
        unfold leftOf at he3
        rw [Array.mem_filter] at he3
        exact ⟨by simpa using he3.1, by simpa using he3.2⟩
      obtain ⟨n, g, hng, hk, hv⟩ := P3.out.mem he2.1
      have hpb2 : w2.heap[pb]? = some (.map es clock) := (k2.block pb (Nat.lt_of_lt_of_le hlp hR.out.ext.size) (by simp; omega)).trans ((hR.out.ext.block _ hlp).trans P2.out)
      have hen := run_entry_at (P := Try.prog) w2 rb pb clock seen es clock e hit2 hpb2 he2.1 P3.out.1.2
      rw [hk, hv] at hen ⊢
      obtain ⟨c, hc1, hc2, hc3⟩ := P6.out _ hng
      dsimp only at hc1 hc3
      have hgl := heap_lt hc1
      have hg2 : w2.heap[g]? = some (.cells c 191 (0, 0)) := (k2.block g (Nat.lt_of_lt_of_le hgl hR.out.ext.size) (by simp; omega)).trans ((hR.out.ext.block _ hgl).trans hc1)
      have hcb2 := (k2.block cb (heap_lt hR.out.mem) (by simp; omega)).trans hR.out.mem
      have hcp2 := (k2.block cpb (heap_lt hR.out.map) (by simp; omega)).trans hR.out.map
      have hone : c.all (·.oneCell') = true := by
        rw [Array.all_eq_true]
        intro i hi
        have := hc3 i (by omega)
        rw [Array.getElem?_eq_getElem hi] at this
        injection this with this
        rw [this]; rfl
      have hzz := zeros
      have hi512 : (Try.prog.info? 191).map (·.size) = some c.size := by rw [hc2]; kernel_rfl
      have hcbl := heap_lt hcb2
      have d1 := (heap_cell hcb2 1).trans rfl
      have hEW : Ext w w2 := Keeps.to_ext hR.out.ext k2 (by simp; omega)
      have G2 := Lib.hid hg2
      have C2 := Lib.hid hcb2
      have M2 := Lib.hid hcp2
      have I2 := Lib.hid hit2
      have EW := Lib.hid hEW
      have K2 := Lib.hid k2
      have HC := Lib.hid (And.intro hc2 hc3)
      have HO := Lib.hid hone
      have HI := Lib.hid hi512
      have HX := Lib.hid he2
      have HN := Lib.hid hng
      have HK := Lib.hid hk
      have hgl2 := heap_lt hg2
      clear he hpb2 hg2 hcb2 hcp2 hit2 hEW k2 hc1 hc2 hc3 hone hi512 he2 hng hk hv
      (try go_frame)
      go_upto_region 8 with (first | (refine wpList_load_row rfl 191 _ rfl g rfl _ c (0, 0) _ G2.out Try.underlying191 rfl HI.out ?_) | (refine wpList_store_row rfl 191 _ _ rfl w2.heap.size c rfl rfl _ _ (alloc_same ..) HI.out (by rw [HC.out.1]; exact zeros.1) HO.out ?_))
      (try simp only [Act.put, Array.set!_eq_setIfInBounds, List.setIfInBounds_toArray, List.set_cons_succ, List.set_cons_zero])
      clear hen
      obtain ⟨ob, hob⟩ : ∃ ob, w2.heap.size = ob := ⟨_, rfl⟩
      rw [hob]
      refine wp_gen ?_; intro U hU
      have a1 : (w2.alloc (.cells Try.zeroCells191 191 (0, 0))).heap[ob]? = some (.cells Try.zeroCells191 191 (0, 0)) := by rw [← hob]; exact alloc_same ..
      have uo : U.heap[ob]? = some (.cells c 191 (0, 0)) := by rw [hU]; exact setRow_heap _ _ _ _ _ _ a1
      have ux : ∀ b, b < ob → U.heap[b]? = w2.heap[b]? := fun b hb => by rw [hU]; exact (setRow_other _ _ _ _ (by omega)).trans (alloc_other _ _ (by omega))
      have us : w2.heap.size ≤ U.heap.size := by have := heap_lt uo; omega
      have uE : Ext w U := by
        have e1 : Ext w (w2.alloc (.cells Try.zeroCells191 191 (0, 0))) := EW.out.alloc _
        refine ⟨?_, ?_, ?_, ?_, fun b hb => (ux b (by have := EW.out.size; omega)).trans (EW.out.block b hb)⟩
        · rw [hU]; exact e1.os
        · rw [hU]; exact e1.tape
        · rw [hU]; exact e1.output
        · exact Nat.le_trans EW.out.size us
      have ucb := (ux cb (by rw [← hob]; exact heap_lt C2.out)).trans C2.out
      have ucp := (ux cpb (by rw [← hob]; exact heap_lt M2.out)).trans M2.out
      have uit := (ux rb (by rw [← hob]; exact heap_lt I2.out)).trans I2.out
      have hnk : n ∉ PC.map (·.1) := fun hm => by
        have := (hR.out.done e HX.out.1 n HK.out).1 hm
        rw [HX.out.2] at this; cases this
      have hnone : findP n PC = none := by
        cases hf : findP n PC with
        | none => rfl
        | some y => exact absurd (List.mem_map.2 ⟨(n, y), findP_mem hf, rfl⟩) hnk
      obtain ⟨ec', cc', hup, hent'⟩ := updateP_run n ob U cpb ec cc PC ucp hR.out.ent hnone
      have d1 := (heap_cell ucb 1).trans rfl
      have hcbl := heap_lt ucb
      have hcpl := heap_lt ucp
      have hol := heap_lt uo
      have hob2 : cpb ≠ ob ∧ cb ≠ ob ∧ rb ≠ ob := ⟨by have := heap_lt M2.out; omega, by have := heap_lt C2.out; omega, by have := heap_lt I2.out; omega⟩
      have UO := Lib.hid uo
      have UX := Lib.hid ux
      have UE := Lib.hid uE
      have UC := Lib.hid ucb
      have UI := Lib.hid uit
      have HNK := Lib.hid hnk
      have HE' := Lib.hid hent'
      have HOB := Lib.hid hob2
      have HOW := Lib.hid hob
      clear hU a1 uo ux us uE ucb ucp uit hnk hnone hent' hob2 hob
      go_wp2
      have hpg : ∀ b, b ≠ cpb → (putBlk U cpb (.map ec' cc')).heap[b]? = U.heap[b]? := fun b hb => putBlk_heap _ _ _ _ (Ne.symm hb)
      have hfew : (seen.push e.born).size ≤ es.size := by
        have hlen : es.size = PL.length := by
          have := congrArg List.length P3.out.2
          simpa using this
        have hsub : ∀ k, (∃ e ∈ es.toList, e.key = .int .u64 k) → k ∈ PL.map (·.1) := fun k hk => by
          obtain ⟨e, he, hk⟩ := hk
          obtain ⟨n, g, h1, h2, -⟩ := P3.out.mem he
          rw [hk] at h2
          injection h2 with _ h2
          rw [h2]; exact List.mem_map.2 ⟨(n, g), h1, rfl⟩
        have := nodup_le (l := n :: PC.map (·.1)) (k := PL.map (·.1)) (List.nodup_cons.2 ⟨HNK.out, hR.out.keys⟩) (fun x hx => by
          rcases List.mem_cons.1 hx with rfl | hx
          · exact hsub _ ⟨e, HX.out.1, HK.out⟩
          · exact hsub _ (hR.out.sub x hx))
        simp only [List.length_cons, List.length_map] at this
        rw [Array.size_push, hR.out.few]; omega
      refine ⟨⟨seen.push e.born, clock, ec', cc', PC ++ [(n, ob)], Lib.hid ⟨?_, (hpg rb (by omega)).trans UI.out, Nat.le_refl _, (hpg cb (by omega)).trans UC.out, putBlk_same _ _ _ hcpl, HE'.out, ?_, ?_, fun y hy => ?_, fun e' he' n' hk' => ?_, ?_, fun x hx => ?_⟩⟩, ?_⟩
      · exact Keeps.to_ext UE.out ((Keeps.refl [cpb] U).put (.inl (by simp)) _) (by simp; omega)
      · rw [List.map_append, List.nodup_append]
        refine ⟨hR.out.keys, by simp, fun q hq z hz2 e => HNK.out ?_⟩
        simp only [List.map_cons, List.map_nil, List.mem_singleton] at hz2
        rw [← hz2, ← e]; exact hq
      · rw [List.map_append, List.nodup_append]
        refine ⟨hR.out.blks, by simp, fun q hq z hz2 e => ?_⟩
        simp only [List.map_cons, List.map_nil, List.mem_singleton] at hz2
        obtain ⟨y, hy, rfl⟩ := List.mem_map.1 hq
        obtain ⟨cy, hcy, _⟩ := (hR.out.page y hy).1
        have h1 := heap_lt hcy
        have h2 := K2.out.size
        have h3 := HOW.out
        omega
      · rcases List.mem_append.1 hy with hy | hy
        · obtain ⟨⟨cy, hcy, hcy2⟩, hby⟩ := hR.out.page y hy
          have h1 := heap_lt hcy
          have h2 := K2.out.size
          have h3 := HOW.out
          have hyr : y.2 ≠ rb := fun e => by rw [e, hR.out.it] at hcy; cases hcy
          have hyc : y.2 ≠ cpb := fun e => by rw [e, hR.out.map] at hcy; cases hcy
          exact ⟨⟨cy, (hpg _ hyc).trans ((UX.out _ (by omega)).trans ((K2.out.block _ h1 (by simpa using hyr)).trans hcy)), hcy2⟩, hby⟩
        · obtain rfl : y = (n, ob) := by simpa using hy
          exact ⟨⟨c, (hpg ob (Ne.symm HOB.out.1)).trans UO.out, HC.out.1, HC.out.2⟩, by have := EW.out.size; have := HOW.out; dsimp only; omega⟩
      · rw [List.map_append, List.mem_append]
        simp only [List.map_cons, List.map_nil, List.mem_singleton]
        have hpush : (seen.push e.born).contains e'.born = true ↔ seen.contains e'.born = true ∨ e'.born = e.born := by
          simp [Array.contains_iff_mem, Array.mem_push]
        rw [hpush, hR.out.done e' he' n' hk']
        constructor
        · rintro (h1 | h1)
          · exact .inl h1
          · refine .inr ?_
            rw [P3.out.key_inj P4.out he' HX.out.1 (by rw [hk', HK.out, h1])]
        · rintro (h1 | h1)
          · exact .inl h1
          · refine .inr ?_
            have := nodup_eq P3.out.1.2 he' HX.out.1 h1
            rw [this, HK.out] at hk'
            injection hk' with _ hk'
            exact hk'.symm
      · simp [hR.out.few]
      · rw [List.map_append, List.mem_append] at hx
        rcases hx with hx | hx
        · exact hR.out.sub x hx
        · simp only [List.map_cons, List.map_nil, List.mem_singleton] at hx
          exact ⟨e, HX.out.1, by rw [hx]; exact HK.out⟩
      · have m1 : copyLeft rb es wr = es.size - seen.size := by unfold copyLeft; rw [hR.out.it]
        have m2 : copyLeft rb es (putBlk U cpb (.map ec' cc')) = es.size - (seen.push e.born).size := by unfold copyLeft; rw [(hpg rb (by omega)).trans UI.out]
        rw [m1, m2]
        simp only [Array.size_push] at *
        omega
end Go.Proofs.Ytfaekfdngkpkdaa
/- Diff: where two memories' slots differ. -/
namespace Go.Proofs.Ytfaekfdngkpkdaa
set_option linter.unusedVariables false
set_option linter.unusedSimpArgs false
open Go.RowKit
attribute [local go_sem] wext_cell wext_frozen wext_heap alloc_cell alloc_frozen alloc_heap setCell_cell objCell_cells objFrozen_cells

/-- A page's cells. -/
def PageC (c : Array Value) (M : Int → Int) (n : Int) : Prop := c.size = 512 ∧ ∀ i : Nat, i < 512 → c[i]? = some (.int .u64 (M (n * 512 + i)))
def EndPage (M : Int → Int) (n : Int) (w : World) (e : Ending) (w' : World) : Prop := ∃ c, e = .returned (.agg c) ∧ PageC c M n ∧ Ext w w'
theorem pageC_one {c : Array Value} {M : Int → Int} {n : Int} (h : PageC c M n) : c.all (·.oneCell') = true := by
  rw [Array.all_eq_true]
  intro i hi
  have := h.2 i (by have := h.1; omega)
  rw [Array.getElem?_eq_getElem hi] at this
  injection this with this
  rw [this]; rfl
theorem setRow_ext {w U : World} (h : Ext w U) {g : Nat} (hg : w.heap.size ≤ g) (c : Array Value) : Ext w (U.setRow g c) := by
  refine ⟨?_, ?_, ?_, ?_, fun b hb => (setRow_other _ _ _ _ (by omega)).trans (h.block b hb)⟩
  · exact h.os
  · exact h.tape
  · exact h.output
  · have : (U.setRow g c).heap.size = U.heap.size := by simp [World.setRow]
    rw [this]; exact h.size
set_option maxHeartbeats 1000000 in
set_option maxRecDepth 20000 in
theorem page_c (mb : Nat) (F : List Nat) (B : Int) (M : Int → Int) (T : List Int) (n : Int) (w : World) (h : MemAt w mb F B M T) (h0 : 0 ≤ n) (h1 : n ≤ 1023) :
    Calls Try.prog 105 #[.pointer (some ⟨mb, 0, none⟩), .int .u64 n] w (EndPage M n w) := by
  obtain ⟨pb, tv, es, clock, PL, p1, p2, p3, -, -, p6, p7, -, -, -, -⟩ := h
  have c1 := (heap_cell p1 1).trans rfl
  have hlt := heap_lt p1
  have hlp := heap_lt p2
  have hlk := lookupP_run n (w.alloc (.cells Try.zeroCells191 191 (0, 0))) pb es clock PL ((alloc_other _ _ hlp).trans p2) p3
  generalize hE : EndPage M n w = E
  have HE := Lib.hid hE
  clear hE
  cases hf : findP n PL with
  | none =>
    have hz : PageC Try.zeroCells191 M n := ⟨zeros.1, fun i hi => by rw [zeros.2 i hi, p7 (n * 512 + i) (by rw [show (n * 512 + (i : Int)) / 512 = n by omega]; exact hf)]⟩
    have hbd : ∀ w, (Instr.build 191 #[]).run Try.prog w = .ok (.agg Try.zeroCells191) w := fun _ => run_build _ _ _ _ (by kernel_rfl)
    have HZ := Lib.hid hz
    rw [hf] at hlk
    dsimp only at hlk
    clear p1 p2 p3 p6 p7 hz
    go_enter Try.func105, Try.ntmps105
    go_wp2_with (first | (refine wpList_store_row rfl 191 _ _ rfl w.heap.size Try.zeroCells191 rfl rfl _ _ (alloc_same ..) (by kernel_rfl) rfl (pageC_one HZ.out) ?_))
    refine bodyPost_ret (v := .agg Try.zeroCells191) (results_cell_row rfl _ _ w.heap.size 191 Try.zeroCells191 (0, 0) _ rfl (setRow_heap _ _ _ _ _ _ (alloc_same ..)) Try.underlying191 rfl (by kernel_rfl)) rfl ?_
    rw [← HE.out]
    exact ⟨_, rfl, HZ.out, setRow_ext ((Ext.refl w).alloc _) (Nat.le_refl _) _⟩
  | some g =>
    obtain ⟨c, q1, q2, q3⟩ := p6 _ (findP_mem hf)
    rw [hf] at hlk
    dsimp only at hlk q3 q1
    have hz : PageC c M n := ⟨q2, q3⟩
    have hq1 := (alloc_other w (.cells Try.zeroCells191 191 (0, 0)) (heap_lt q1)).trans q1
    have hi512 : (Try.prog.info? 191).map (·.size) = some c.size := by rw [q2]; kernel_rfl
    have HZ := Lib.hid hz
    have HQ := Lib.hid hq1
    have HI := Lib.hid hi512
    clear p1 p2 p3 p6 p7 q1 q2 q3 hz hq1 hi512
    go_enter Try.func105, Try.ntmps105
    go_wp2_with (first | (refine wpList_load_row rfl 191 _ rfl g rfl _ c (0, 0) _ HQ.out Try.underlying191 rfl HI.out ?_) | (refine wpList_store_row rfl 191 _ _ rfl w.heap.size c rfl rfl _ _ (alloc_same ..) HI.out (by rw [HZ.out.1]; exact zeros.1) (pageC_one HZ.out) ?_))
    refine bodyPost_ret (v := .agg c) (results_cell_row rfl _ _ w.heap.size 191 c (0, 0) _ rfl (setRow_heap _ _ _ _ _ _ (alloc_same ..)) Try.underlying191 rfl HI.out) rfl ?_
    rw [← HE.out]
    exact ⟨_, rfl, HZ.out, setRow_ext ((Ext.refl w).alloc _) (Nat.le_refl _) _⟩

section
variable {P : Program}
theorem eqItems_ints {e : TypeId} (he : P.underlying e = some (.int .u64)) (hp : P.plainKey e = true) (hc : P.cellsOf e = 1) (d : Nat) (xs ys : Array Value) (f g : Nat → Int) (w : World) :
    ∀ is : List Nat, (∀ i ∈ is, xs[i]? = some (.int .u64 (f i)) ∧ ys[i]? = some (.int .u64 (g i))) → (Op.eqItems (d + 1) e (P.cellsOf e) xs ys is).run P w = .ok (is.all fun i => f i == g i) w
  | [], _ => by simp [Op.eqItems]
  | i :: is, h => by
    have ⟨h1, h2⟩ := h i (List.mem_cons_self ..)
    have ih := eqItems_ints he hp hc d xs ys f g w is fun j hj => h j (List.mem_cons_of_mem _ hj)
    rw [hc] at ih ⊢
    have hr : (Op.equalIn (d + 1) e (.int .u64 (f i)) (.int .u64 (g i))).run P w = .ok (f i == g i) w := by
      simp only [Op.equalIn, Sem.run_bind, run_underlying he, Result.andThen_ok]
      simp
    simp only [Op.eqItems, Sem.run_bind, Nat.mul_one, run_part_plain w hp h1, run_part_plain w hp h2, Result.andThen_ok, hr]
    cases hb : f i == g i
    · simp [hb]
    · simp only [Bool.not_true, Bool.false_eq_true, if_false, ih, List.all_cons, hb, Bool.true_and]
end
def pageB (M1 M2 : Int → Int) (n : Int) : Bool := (List.range 512).all fun i => M1 (n * 512 + i) == M2 (n * 512 + i)
theorem page_eql {c1 c2 : Array Value} {M1 M2 : Int → Int} {n : Int} (h1 : PageC c1 M1 n) (h2 : PageC c2 M2 n) (w : World) : (binOp .eql 191 (.agg c1) (.agg c2)).run Try.prog w = .ok (.bool (pageB M1 M2 n)) w := by
  rw [run_eql_struct]
  obtain ⟨i, hi⟩ : ∃ i, Try.prog.info? 23 = some i := by
    cases hh : Try.prog.info? 23 with
    | some i => exact ⟨i, rfl⟩
    | none => exact absurd hh (by have : (Try.prog.info? 23).isSome = true := by kernel_rfl
                                  intro e; rw [e] at this; cases this)
  rw [show (10000 : Nat) = 9998 + 1 + 1 from rfl, run_equalIn_array w (9998 + 1) c1 c2 Try.underlying191 hi,
    eqItems_ints (P := Try.prog) Try.underlying23 (by kernel_rfl) (by kernel_rfl) 9998 c1 c2 (fun i => M1 (n * 512 + i)) (fun i => M2 (n * 512 + i)) w (List.range 512) (fun i hi => ⟨h1.2 i (by simpa using hi), h2.2 i (by simpa using hi)⟩)]
  rfl

/-- Where the slots of a page differ, up to a place; where those of the pages do, up to a page. -/
def dIn (M1 M2 : Int → Int) (n : Int) (k : Nat) : List Int := ((List.range k).filter fun i : Nat => M1 (n * 512 + i) != M2 (n * 512 + i)).map fun i : Nat => n * 4096 + (i : Int) * 8
def dOut (M1 M2 : Int → Int) (n : Nat) : List Int := (List.range n).flatMap fun i : Nat => dIn M1 M2 i 512
theorem dIn_succ (M1 M2 : Int → Int) (n : Int) (k : Nat) : dIn M1 M2 n (k + 1) = if (M1 (n * 512 + k) != M2 (n * 512 + k)) = true then dIn M1 M2 n k ++ [n * 4096 + (k : Int) * 8] else dIn M1 M2 n k := by
  unfold dIn
  rw [List.range_succ, List.filter_append, List.map_append]
  split
  · rename_i h; simp [h]
  · rename_i h; simp [h]
theorem dOut_succ (M1 M2 : Int → Int) (n : Nat) : dOut M1 M2 (n + 1) = dOut M1 M2 n ++ dIn M1 M2 n 512 := by
  unfold dOut
  rw [List.range_succ, List.flatMap_append]; simp
theorem dIn_length (M1 M2 : Int → Int) (n : Int) (k : Nat) : (dIn M1 M2 n k).length ≤ k := by
  unfold dIn
  rw [List.length_map]
  exact Nat.le_trans (List.length_filter_le ..) (by simp)
theorem dOut_length (M1 M2 : Int → Int) (n : Nat) : (dOut M1 M2 n).length ≤ 512 * n := by
  induction n with
  | zero => simp [dOut]
  | succ n ih => rw [dOut_succ, List.length_append]; have := dIn_length M1 M2 n 512; omega
theorem dIn_none {M1 M2 : Int → Int} {n : Int} (h : pageB M1 M2 n = true) : dIn M1 M2 n 512 = [] := by
  unfold dIn
  rw [List.filter_eq_nil_iff.2, List.map_nil]
  intro i hi
  have := List.all_eq_true.1 h i hi
  simpa [bne] using this
theorem mem_dOut {M1 M2 : Int → Int} {N : Nat} {a : Int} (h : a ∈ dOut M1 M2 N) : 0 ≤ a ∧ a < N * 4096 ∧ a % 8 = 0 ∧ M1 (a / 8) ≠ M2 (a / 8) := by
  unfold dOut dIn at h
  obtain ⟨n, hn, h⟩ := List.mem_flatMap.1 h
  obtain ⟨i, hi, rfl⟩ := List.mem_map.1 h
  obtain ⟨h1, h2⟩ := List.mem_filter.1 hi
  have hn' : n < N := by simpa using hn
  have hi' : i < 512 := by simpa using h1
  have e : ((n : Int) * 4096 + (i : Int) * 8) / 8 = (n : Int) * 512 + i := by omega
  rw [e]
  refine ⟨by omega, by omega, by omega, by simpa using h2⟩
theorem dOut_nil {M1 M2 : Int → Int} {N : Nat} (h : ∀ s, M1 s = M2 s) : dOut M1 M2 N = [] := by
  unfold dOut dIn
  rw [List.flatMap_eq_nil_iff]
  intro n _
  rw [List.filter_eq_nil_iff.2, List.map_nil]
  intro i _
  simp [h]
end Go.Proofs.Ytfaekfdngkpkdaa
/- Diff of two memories of 16 bits. -/
namespace Go.Proofs.Ytfaekfdngkpkdaa
set_option linter.unusedVariables false
set_option linter.unusedSimpArgs false
open Go.RowKit
attribute [local go_sem] wext_cell wext_frozen wext_heap alloc_cell alloc_frozen alloc_heap setCell_cell objCell_cells objFrozen_cells

def EndDiff (w : World) (l : List Int) (e : Ending) (w' : World) : Prop :=
  ∃ la lc, e = .returned (.slice la l.length lc) ∧ Owns w' 23 1 (.slice la l.length lc) l.length (l.map (.int .u64 ·)) ∧ Ext w w' ∧ ∀ g, (Value.slice la l.length lc).ownBlock = some g → w.heap.size ≤ g
theorem MemAt.cell0 {w : World} {mb : Nat} {F : List Nat} {B : Int} {M : Int → Int} {T : List Int} (h : MemAt w mb F B M T) : w.cell? ⟨mb, 0, none⟩ = some (.int .i64 B) := h.head.1
set_option maxHeartbeats 4000000 in
set_option maxRecDepth 100000 in
theorem diff_c (ma mb : Nat) (Fa Fb : List Nat) (Ma Mb : Int → Int) (Ta Tb : List Int) (w : World) (ha : MemAt w ma Fa 16 Ma Ta) (hb : MemAt w mb Fb 16 Mb Tb) :
    Calls Try.prog 53 #[.pointer (some ⟨ma, 0, none⟩), .pointer (some ⟨mb, 0, none⟩)] w (EndDiff w (dOut Ma Mb 16)) := by
  have a0 := ha.cell0
  have b0 := hb.cell0
  have hla := ha.head.2.1
  have hlb := hb.head.2.1
  have HA := Lib.hid ha
  have HB := Lib.hid hb
  generalize hE : EndDiff w (dOut Ma Mb 16) = E
  have HE := Lib.hid hE
  clear hE ha hb
  go_enter Try.func53, Try.ntmps53
  go_upto_region 1 with (fail)
  refine region_ext (by kernel_rfl) (by kernel_rfl) ?_; (repeat (go_big_quiet_step (fail))); refine wpQuiet_nil ?_; intro w1 hb; have ⟨hc, hf, hh, hs⟩ := hb.facts; try simp only [World.size_alloc, World.size_setCell, World.size_drew] at hs
  go_wp2
  have E1 := Lib.hid hb
  clear hb hc hf hh a0 b0
  go_loopw [5, 34] (fun l t wr => ∃ (n : Nat) (la : Option Addr) (len lc : Nat), n ≤ 16 ∧ t = .int .u64 n ∧ l = .slice la len lc ∧ len ≤ 512 * n ∧ Hid (len = (dOut Ma Mb n).length ∧ Owns wr 23 1 (.slice la len lc) len ((dOut Ma Mb n).map (.int .u64 ·)) ∧ Ext w wr ∧ ∀ g, (Value.slice la len lc).ownBlock = some g → w.heap.size ≤ g)) (fun _ t _ => 16 - (intOf t).toNat)
  case atStart => exact ⟨0, none, 0, 0, by omega, rfl, rfl, by omega, Lib.hid ⟨by simp [dOut], by simpa [dOut] using Owns.nil _ _ _, E1.out, fun g hg => by simp [Value.ownBlock] at hg⟩⟩
  case round =>
    obtain ⟨n, la, len, lc, hn, rfl, rfl, hlen, hR⟩ := hrel
    by_cases hlt : n < 16
    · have HPa := Lib.hid (fun w1 (k : Ext wr w1) => page_c ma Fa 16 Ma Ta n w1 (HA.out.ext (hR.out.2.2.1.trans k)) (by omega) (by omega))
      have HPb := Lib.hid (fun w1 (k : Ext wr w1) => page_c mb Fb 16 Mb Tb n w1 (HB.out.ext (hR.out.2.2.1.trans k)) (by omega) (by omega))
      have tok1 : True := trivial
      go_upto_region 8 with (first | (go_at_call 105; have _t := tok1; clear _t; refine (HPa.out _ (by repeat (first | exact Ext.refl _ | assumption | refine Ext.alloc ?_ _ | refine Ext.drew ?_ | refine Ext.setCell ?_ (by first | (simp; done) | (dsimp only; omega)) _ | refine Ext.trans ?_ (by assumption)))).mono ?_; rintro e w2 ⟨c1, rfl, hC1, hE2⟩; clear tok1) | (go_at_call 105; refine (HPb.out _ (Ext.trans hE2 (by repeat (first | exact Ext.refl _ | assumption | refine Ext.alloc ?_ _ | refine Ext.drew ?_ | refine Ext.setCell ?_ (by first | (simp; done) | (dsimp only; omega)) _ | refine Ext.trans ?_ (by assumption))))).mono ?_; rintro e w3 ⟨c2, rfl, hC2, hE3⟩) | (refine wpList_store_row rfl 191 _ _ rfl w3.heap.size c1 rfl rfl _ _ ((alloc_other _ _ (by simp)).trans (alloc_same ..)) (by rw [hC1.1]; kernel_rfl) (by rw [hC1.1]; exact zeros.1) (pageC_one hC1) ?_) | (refine wpList_store_row rfl 191 _ _ rfl (w3.heap.size + 1) c2 rfl rfl _ _ ((setRow_other _ _ _ _ (by omega)).trans (alloc_same1 ..)) (by rw [hC2.1]; kernel_rfl) (by rw [hC2.1]; exact zeros.1) (pageC_one hC2) ?_))
      (try simp only [Act.put, Array.set!_eq_setIfInBounds, List.setIfInBounds_toArray, List.set_cons_succ, List.set_cons_zero])
      refine wp_gen ?_; intro U hU
      have k0 : Ext wr w3 := Ext.trans (Ext.trans (by repeat (first | exact Ext.refl _ | assumption | refine Ext.alloc ?_ _ | refine Ext.drew ?_ | refine Ext.setCell ?_ (by first | (simp; done) | (dsimp only; omega)) _ | refine Ext.trans ?_ (by assumption))) hE2) (Ext.trans (by repeat (first | exact Ext.refl _ | assumption | refine Ext.alloc ?_ _ | refine Ext.drew ?_ | refine Ext.setCell ?_ (by first | (simp; done) | (dsimp only; omega)) _ | refine Ext.trans ?_ (by assumption))) hE3)
      have k1 := (k0.alloc (.cells Try.zeroCells191 191 (0, 0))).alloc (.cells Try.zeroCells191 191 (0, 0))
      have hz0 := k0.size
      have u7 : U.heap[w3.heap.size]? = some (.cells c1 191 (0, 0)) := by rw [hU]; exact (setRow_other _ _ _ _ (by omega)).trans (setRow_heap _ _ _ _ _ _ ((alloc_other _ _ (by simp)).trans (alloc_same ..)))
      have u8 : U.heap[w3.heap.size + 1]? = some (.cells c2 191 (0, 0)) := by rw [hU]; exact setRow_heap _ _ _ _ _ _ ((setRow_other _ _ _ _ (by omega)).trans (alloc_same1 ..))
      have uE : Ext wr U := by rw [hU]; exact setRow_ext (setRow_ext k1 hz0 _) (by omega) _
      obtain ⟨b7, hb7⟩ : ∃ b7, w3.heap.size = b7 := ⟨_, rfl⟩
      obtain ⟨b8, hb8⟩ : ∃ b8, w3.heap.size + 1 = b8 := ⟨_, rfl⟩
      rw [hb8] at u8 ⊢
      rw [hb7] at u7 ⊢
      have heq := page_eql hC1 hC2
      have HC1 := Lib.hid hC1
      have HC2 := Lib.hid hC2
      have U7 := Lib.hid u7
      have U8 := Lib.hid u8
      have UE := Lib.hid uE
      clear hU k0 k1 hz0 u7 u8 uE hb7 hb8 hC1 hC2 hE2 hE3
      have hsucc := dOut_succ Ma Mb n
      have HSC := Lib.hid hsucc
      clear hsucc
      have hI1 : (Try.prog.info? 191).map (·.size) = some c1.size := by rw [HC1.out.1]; kernel_rfl
      have hI2 : (Try.prog.info? 191).map (·.size) = some c2.size := by rw [HC2.out.1]; kernel_rfl
      have I1 := Lib.hid hI1
      have I2 := Lib.hid hI2
      clear hI1 hI2
      cases hB : pageB Ma Mb n
      · rw [hB] at heq
        go_wp2_with (first | (refine wpList_load_row rfl 191 _ rfl b7 rfl _ c1 (0, 0) _ U7.out Try.underlying191 rfl I1.out ?_) | (refine wpList_load_row rfl 191 _ rfl b8 rfl _ c2 (0, 0) _ U8.out Try.underlying191 rfl I2.out ?_))
        clear heq
        obtain ⟨wo, hwo⟩ : ∃ wo : World, wo = wr := ⟨_, rfl⟩
        go_loopw [5, 46] (fun l t wx => ∃ (k : Nat) (la2 : Option Addr) (len2 lc2 : Nat), k ≤ 512 ∧ t = .int .i64 k ∧ l = .slice la2 len2 lc2 ∧ len2 ≤ 512 * n + k ∧ Hid (len2 = (dOut Ma Mb n ++ dIn Ma Mb n k).length ∧ Owns wx 23 1 (.slice la2 len2 lc2) len2 ((dOut Ma Mb n ++ dIn Ma Mb n k).map (.int .u64 ·)) ∧ Ext w wx ∧ (∀ g, (Value.slice la2 len2 lc2).ownBlock = some g → w.heap.size ≤ g) ∧
          wx.heap[b7]? = some (.cells c1 191 (0, 0)) ∧ wx.heap[b8]? = some (.cells c2 191 (0, 0)))) (fun _ t _ => 512 - (intOf t).toNat)
        case atStart =>
          obtain ⟨q1, q2, q3, q4⟩ := hR.out
          exact ⟨0, la, len, lc, by omega, rfl, rfl, by omega, Lib.hid ⟨by simpa [dIn] using q1, by simpa [dIn] using q2.ext UE.out, q3.trans UE.out, q4, U7.out, U8.out⟩⟩
        case round =>
          rename_i wx
          obtain ⟨k, la2, len2, lc2, hk, rfl, rfl, hlen2, hS⟩ := hrel
          by_cases hk5 : k < 512
          · have d1 := (heap_cell hS.out.2.2.2.2.1 k).trans (HC1.out.2 k hk5)
            have d2 := (heap_cell hS.out.2.2.2.2.2 k).trans (HC2.out.2 k hk5)
            have hl7 := heap_lt hS.out.2.2.2.2.1
            have hl8 := heap_lt hS.out.2.2.2.2.2
            have hst := dIn_succ Ma Mb n k
            generalize Ma ((n : Int) * 512 + (k : Int)) = x at d1 hst
            generalize Mb ((n : Int) * 512 + (k : Int)) = y at d2 hst
            cases hxy : x != y
            · rw [hxy] at hst
              have HST := Lib.hid hst
              clear hst
              go_upto_region 12 with (fail)
              refine region_ext (by kernel_rfl) (by kernel_rfl) ?_; (repeat (go_big_quiet_step (fail))); refine wpQuiet_nil ?_; intro w1 hb; have ⟨hc, hf, hh, hs⟩ := hb.facts; try simp only [World.size_alloc, World.size_setCell, World.size_drew] at hs
              have hS' := hS.out
              have hb' := Lib.hid hb
              clear hb hc hf hh d1 d2
              go_wp2
              refine ⟨⟨k + 1, la2, len2, lc2, by omega, by go_num, rfl, by omega, Lib.hid ⟨?_, ?_, hS'.2.2.1.trans hb'.out, hS'.2.2.2.1, (hb'.out.block _ hl7).trans hS'.2.2.2.2.1, (hb'.out.block _ hl8).trans hS'.2.2.2.2.2⟩⟩, by simp [intOf]; omega⟩
              · rw [HST.out]; exact hS'.1
              · rw [HST.out]; exact hS'.2.1.ext hb'.out
            · rw [hxy, if_pos rfl] at hst
              have HST := Lib.hid hst
              clear hst
              go_upto_region 12 with (fail)
              refine region_ext (by kernel_rfl) (by kernel_rfl) ?_; (repeat (go_big_quiet_step (fail))); refine wpQuiet_nil ?_; intro w1 hb; have ⟨hc, hf, hh, hs⟩ := hb.facts; try simp only [World.size_alloc, World.size_setCell, World.size_drew] at hs
              have hb' := Lib.hid hb
              clear hb hc hf hh d1 d2
              have hla2 : len2 ≤ lc2 ∧ lc2 ≤ maxLen := by
                obtain ⟨a', c', h1, h2, h3⟩ := hS.out.2.1.form
                injection h1 with _ _ h1
                subst h1; exact ⟨h2, h3⟩
              have HAo := Lib.hid ((hS.out.2.1.ext hb'.out).ext ((Ext.refl w1).alloc (.cells #[.int .u64 ((n : Int) * 4096 + (k : Int) * 8)] 23 (0, 0))))
              have hHN : Hid (∀ (b : Nat) (c : Array Value), w1.heap[b]? = some (.cells c 191 (0, 0)) → ∀ w9 : World, World.grownBy (w1.alloc (.cells #[.int .u64 ((n : Int) * 4096 + (k : Int) * 8)] 23 (0, 0))) w9 (Value.slice la2 len2 lc2).ownBlock → w9.heap[b]? = some (.cells c 191 (0, 0))) := Lib.hid (fun b c hbc w9 k9 => by
                have hbl := heap_lt hbc
                refine (k9.block b (by rw [World.size_alloc]; omega) (fun h => ?_)).trans ((alloc_other _ _ hbl).trans hbc)
                obtain ⟨c', hc'⟩ := (hS.out.2.1.ext hb'.out).heap b h.symm
                rw [hbc] at hc'; simp at hc')
              go_wp2_with (first | (at_builtin; refine wpList_append_owns rfl _ _ _ _ 1 8 wordRow rfl _ rfl len2 _ HAo.out _ 1 1 rfl [.int .u64 ((n : Int) * 4096 + (k : Int) * 8)] rfl (fun j' u hu => by rw [add0, heap_cell (alloc_same w1 _) j']; simpa using hu) (by simp [Value.oneCell']) (by unfold maxLen; omega) (by omega) ?_; intro v9 w9 q1 q2 q3; replace q2 : World.grownBy (w1.alloc (.cells #[.int .u64 ((n : Int) * 4096 + (k : Int) * 8)] 23 (0, 0))) w9 (Value.slice la2 len2 lc2).ownBlock := q2; replace q3 : v9.ownBlock = (Value.slice la2 len2 lc2).ownBlock ∨ v9.ownBlock = some (w1.alloc (.cells #[.int .u64 ((n : Int) * 4096 + (k : Int) * 8)] 23 (0, 0))).heap.size := q3; obtain ⟨a9, c9, rfl, -, -⟩ := q1.form; simp only [Act.put, Array.set!_eq_setIfInBounds, List.setIfInBounds_toArray, List.set_cons_succ, List.set_cons_zero]))
              have hS' := hS.out
              refine ⟨⟨k + 1, a9, len2 + 1, c9, by omega, by go_num, rfl, by omega, Lib.hid ⟨?_, ?_, ?_, fun g hg => ?_, hHN.out b7 c1 ((hb'.out.block _ hl7).trans hS'.2.2.2.2.1) w9 q2, hHN.out b8 c2 ((hb'.out.block _ hl8).trans hS'.2.2.2.2.2) w9 q2⟩⟩, by simp [intOf]; omega⟩
              · rw [HST.out, ← List.append_assoc, List.length_append, ← hS'.1]; rfl
              · rw [HST.out, ← List.append_assoc, List.map_append]; exact q1
              · exact Keeps.to_ext (F := []) (Ext.refl w) ((Keeps.of_ext ((hS'.2.2.1.trans hb'.out).alloc _)).grown q2 (fun x hx => .inr (hS'.2.2.2.1 x hx))) (by simp)
              · rcases q3 with q3 | q3 <;> rw [q3] at hg
                · exact hS'.2.2.2.1 g hg
                · have := (hS'.2.2.1.trans hb'.out).size
                  simp only [World.size_alloc, Option.some.injEq] at hg; omega
          · obtain rfl : k = 512 := by omega
            go_wp2
            subst hwo
            refine ⟨⟨n + 1, la2, len2, lc2, by omega, by go_num, rfl, by omega, Lib.hid ⟨?_, ?_, hS.out.2.2.1, hS.out.2.2.2.1⟩⟩, by simp [intOf]; omega⟩
            · rw [HSC.out]; exact hS.out.1
            · rw [HSC.out]; exact hS.out.2.1
      · rw [hB] at heq
        have HN := Lib.hid (dIn_none hB)
        go_wp2_with (first | (refine wpList_load_row rfl 191 _ rfl b7 rfl _ c1 (0, 0) _ U7.out Try.underlying191 rfl I1.out ?_) | (refine wpList_load_row rfl 191 _ rfl b8 rfl _ c2 (0, 0) _ U8.out Try.underlying191 rfl I2.out ?_))
        refine ⟨⟨n + 1, la, len, lc, by omega, by go_num, rfl, by omega, Lib.hid ⟨?_, ?_, hR.out.2.2.1.trans UE.out, hR.out.2.2.2⟩⟩, by simp [intOf]; omega⟩
        · rw [HSC.out, HN.out, List.append_nil]; exact hR.out.1
        · rw [HSC.out, HN.out, List.append_nil]; exact hR.out.2.1.ext UE.out
    · obtain rfl : n = 16 := by omega
      go_wp2
      all_goals
        (try go_ret)
        rw [← HE.out]
        obtain ⟨q1, q2, q3, q4⟩ := hR.out
        subst q1
        exact ⟨la, lc, rfl, q2, q3, q4⟩
end Go.Proofs.Ytfaekfdngkpkdaa
/- Bits left away; copies and differences of a law's own memories. -/
namespace Go.Proofs.Ytfaekfdngkpkdaa
set_option linter.unusedVariables false
set_option linter.unusedSimpArgs false
open Go.RowKit
attribute [local go_sem] wext_cell wext_frozen wext_heap alloc_cell alloc_frozen alloc_heap setCell_cell objCell_cells objFrozen_cells

theorem bit_div (n i : Nat) : n.testBit i = (n / 2 ^ i % 2 == 1) := by
  rw [Nat.testBit_eq_decide_div_mod_eq]; rfl
theorem eqv_test {x y : Nat} (h : eqv (x : Int) (y : Int)) (i : Nat) (hi : i ≠ 5 ∧ i ≠ 6) : x.testBit i = y.testBit i := by
  unfold eqv at h
  rw [bit_div, bit_div]
  by_cases h7 : 7 ≤ i
  · have e : ∀ z : Nat, z / 2 ^ i = z / 128 / 2 ^ (i - 7) := fun z => by
      rw [Nat.div_div_eq_div_mul, show (128 : Nat) = 2 ^ 7 from rfl, ← Nat.pow_add, show 7 + (i - 7) = i by omega]
    have : x / 128 = y / 128 := by omega
    rw [e, e, this]
  · have : i = 0 ∨ i = 1 ∨ i = 2 ∨ i = 3 ∨ i = 4 := by omega
    have h5 : x % 32 = y % 32 := by omega
    rcases this with rfl | rfl | rfl | rfl | rfl
    · have : x / 2 ^ 0 % 2 = y / 2 ^ 0 % 2 := by simp; omega
      rw [this]
    · have : x / 2 ^ 1 % 2 = y / 2 ^ 1 % 2 := by simp; omega
      rw [this]
    · have : x / 2 ^ 2 % 2 = y / 2 ^ 2 % 2 := by simp; omega
      rw [this]
    · have : x / 2 ^ 3 % 2 = y / 2 ^ 3 % 2 := by simp; omega
      rw [this]
    · have : x / 2 ^ 4 % 2 = y / 2 ^ 4 % 2 := by simp; omega
      rw [this]
theorem not_test {m : Nat} (h : m < 18446744073709551616) (i : Nat) : (18446744073709551615 - m).testBit i = (decide (i < 64) && !m.testBit i) := by
  have := Nat.testBit_two_pow_sub_succ (n := 64) (x := m) (by omega) i
  rw [show 2 ^ 64 - (m + 1) = 18446744073709551615 - m by omega] at this
  exact this
theorem more_none {x y : Int} (h0 : 0 ≤ x) (h1 : x ≤ 18446744073709551615) (k0 : 0 ≤ y) (k1 : y ≤ 18446744073709551615) (h : more x y) : bits BinOp.andNot IntKind.u64 x y = 0 := by
  obtain ⟨n, rfl⟩ : ∃ n : Nat, x = n := ⟨x.toNat, by omega⟩
  obtain ⟨m, rfl⟩ : ∃ m : Nat, y = m := ⟨y.toNat, by omega⟩
  rw [u64_andNot_nat _ _ (by omega) (by omega)]
  have : n &&& (18446744073709551615 - m) = 0 := by
    apply Nat.eq_of_testBit_eq
    intro i
    rw [Nat.testBit_and, not_test (by omega), Nat.zero_testBit]
    obtain ⟨he, hA, hD⟩ := h
    by_cases h56 : i = 5 ∨ i = 6
    · have hn : n.testBit i = true → m.testBit i = true := by
        unfold hasA hasD at *
        simp only [beq_iff_eq] at hA hD
        rw [bit_div, bit_div]
        simp only [beq_iff_eq]
        rcases h56 with rfl | rfl
        · show n / 32 % 2 = 1 → m / 32 % 2 = 1
          omega
        · show n / 64 % 2 = 1 → m / 64 % 2 = 1
          omega
      cases hb : n.testBit i
      · rfl
      · rw [hn hb]; simp
    · rw [eqv_test he i (by omega)]
      cases m.testBit i <;> simp
  rw [this]; rfl
theorem eqv_bare {x y : Int} (h0 : 0 ≤ x) (h1 : x ≤ 18446744073709551615) (k0 : 0 ≤ y) (k1 : y ≤ 18446744073709551615) (h : eqv x y) : bits BinOp.andNot IntKind.u64 y 96 = bits BinOp.andNot IntKind.u64 x 96 := by
  obtain ⟨n, rfl⟩ : ∃ n : Nat, x = n := ⟨x.toNat, by omega⟩
  obtain ⟨m, rfl⟩ : ∃ m : Nat, y = m := ⟨y.toNat, by omega⟩
  rw [show (96 : Int) = ((96 : Nat) : Int) from rfl, u64_andNot_nat _ _ (by omega) (by omega), u64_andNot_nat _ _ (by omega) (by omega)]
  congr 1
  apply Nat.eq_of_testBit_eq
  intro i
  rw [Nat.testBit_and, Nat.testBit_and, not_test (by omega)]
  by_cases h56 : i = 5 ∨ i = 6
  · have : (96 : Nat).testBit i = true := by rcases h56 with rfl | rfl <;> decide
    rw [this]; simp
  · rw [eqv_test h i (by omega)]
theorem nat_and64 (n : Nat) : n &&& 64 = n / 64 % 2 * 64 := by
  have h := Nat.div_add_mod (n &&& 64) 128
  have h1 : (n &&& 64) / 128 = 0 := by
    have := Nat.and_div_two_pow (a := n) (b := 64) (n := 7); simpa using this
  have h2 : (n &&& 64) % 128 = n % 128 &&& 64 := by
    have := Nat.and_mod_two_pow (a := n) (b := 64) (n := 7); simpa using this
  have h3 : ∀ i : Fin 128, i.val &&& 64 = i.val / 64 % 2 * 64 := by decide +kernel
  have h4 := h3 ⟨n % 128, Nat.mod_lt _ (by omega)⟩
  simp only at h4
  omega
theorem and64 {x : Int} (h0 : 0 ≤ x) (h1 : x ≤ 18446744073709551615) : bits BinOp.and IntKind.u64 x 64 = x / 64 % 2 * 64 := by
  rw [u64_and _ _ h0 (by omega) (by omega) (by omega), show (64 : Int).toNat = 64 from rfl, nat_and64]; omega

theorem copy_p (P : Nat → Prop) (mb : Nat) (B : Int) (M : Int → Int) (T : List Int) (U : World) (h : MemP P U mb B M T) : Calls Try.prog 52 #[.pointer (some ⟨mb, 0, none⟩)] U (EndCopy U B M) := by
  obtain ⟨F, h1, -⟩ := h
  exact copy_c mb F B M T U h1
theorem diff_p (P Q : Nat → Prop) (ma mb : Nat) (Ma Mb : Int → Int) (Ta Tb : List Int) (U : World) (ha : MemP P U ma 16 Ma Ta) (hb : MemP Q U mb 16 Mb Tb) :
    Calls Try.prog 53 #[.pointer (some ⟨ma, 0, none⟩), .pointer (some ⟨mb, 0, none⟩)] U (EndDiff U (dOut Ma Mb 16)) := by
  obtain ⟨Fa, h1, -⟩ := ha
  obtain ⟨Fb, h2, -⟩ := hb
  exact diff_c ma mb Fa Fb Ma Mb Ta Tb U h1 h2
theorem markL_twice {B : Int} {df : Bool} {L : List Stp} {M : Int → Int} (h : ∀ s ∈ L, errM B s.2.1 = 0) : markL B df L (markL B df L M) = markL B df L M := by
  have hh := markL_has (df := df) L M h
  exact markL_again L _ (fun s hs _ => hh.1 s hs) (fun s hs hd _ => hh.2 s hs hd)
end Go.Proofs.Ytfaekfdngkpkdaa
/- The document's tables, tops and bare words; are its paths the same? -/
namespace Go.Proofs.Ytfaekfdngkpkdaa
set_option linter.unusedVariables false
set_option linter.unusedSimpArgs false
open Go.RowKit
attribute [local go_sem] wext_cell wext_frozen wext_heap alloc_cell alloc_frozen alloc_heap setCell_cell objCell_cells objFrozen_cells
attribute [local go_sem high] rt_eql rt_neq st_eql st_neq

theorem ref1Get_c (x lo n : Int) (w : World) (hx : 0 ≤ x) (hx1 : x ≤ 18446744073709551615) (h0 : 0 ≤ lo) (h1 : 1 ≤ n) (h2 : lo ≤ 63) (h3 : n ≤ 64 - lo) (h4 : n ≤ 63) :
    Calls Try.prog 118 #[.int .u64 x, .int .i64 lo, .int .i64 n] w fun e w' => e = .returned (.int .u64 (x / pow2 lo % pow2 n)) ∧ Ext w w' := by
  have hI := Lib.hid (fun w => refIs_c lo n w h0 h1 (by omega) h3)
  have hp := pow2_pos lo
  have hp2 := pow2_pos n
  have hq0 : 0 ≤ x / pow2 lo := Int.ediv_nonneg hx (by omega)
  have hq1 : x / pow2 lo ≤ 18446744073709551615 := by have := Int.ediv_le_self (pow2 lo) hx; omega
  have hle := pow2_le n h4
  have n64 : (n == 64) = false := by rw [beq_eq_false_iff_ne]; omega
  have HPl := Lib.hid (fun w => power_c lo w h0 h2)
  have HPn := Lib.hid (fun w => power_c n w (by omega) h4)
  have tok1 : True := trivial
  go_enter Try.func118, Try.ntmps118
  go_wp2_with (first | (go_at_call 139; refine (hI.out _).mono ?_; rintro e w1 ⟨rfl, hb1⟩) | (go_at_call 115; have _t := tok1; clear _t; refine (HPl.out _).mono ?_; rintro e w2 ⟨rfl, hb2⟩; clear tok1) | (go_at_call 115; refine (HPn.out _).mono ?_; rintro e w3 ⟨rfl, hb3⟩))
  all_goals
    go_ret
    exact ⟨rfl, (by repeat (first | exact Ext.refl _ | assumption | refine Ext.alloc ?_ _ | refine Ext.drew ?_ | refine Ext.setCell ?_ (by first | (simp; done) | (dsimp only; omega)) _ | refine Ext.trans ?_ (by assumption)))⟩
theorem refTable_c (x : Int) (w : World) (h0 : 0 ≤ x) (h1 : x ≤ 18446744073709551615) : Calls Try.prog 76 #[.int .u64 x] w fun e w' => e = .returned (.int .u64 (tabI x)) ∧ Ext w w' := by
  have hg : ∀ w, Calls Try.prog 118 #[.int .u64 x, .int .i64 12, .int .i64 40] w fun e w' => e = .returned (.int .u64 (x / 4096 % 1099511627776)) ∧ Ext w w' := fun w => ref1Get_c x 12 40 w h0 h1 (by omega) (by omega) (by omega) (by omega) (by omega)
  have ht := tab_d x
  have HT := Lib.hid ht
  clear ht
  go_enter Try.func76, Try.ntmps76
  go_wp2_with (first | (go_at_call 118; refine (hg _).mono ?_; rintro e w1 ⟨rfl, hb1⟩))
  go_ret
  exact ⟨by rw [HT.out]; rfl, (by repeat (first | exact Ext.refl _ | assumption | refine Ext.alloc ?_ _ | refine Ext.drew ?_ | refine Ext.setCell ?_ (by first | (simp; done) | (dsimp only; omega)) _ | refine Ext.trans ?_ (by assumption)))⟩
def bareN (n : Nat) : Nat := withN (withN n 5 false) 6 false
theorem withN_test (n i k : Nat) (b : Bool) : (withN n i b).testBit k = (decide (k < 64) && if k = i then b else n.testBit k) := by unfold withN; rw [sumBits_testBit]
theorem bareN_test (n k : Nat) : (bareN n).testBit k = (decide (k < 64) && !(decide (k = 5) || decide (k = 6)) && n.testBit k) := by
  unfold bareN
  rw [withN_test]
  by_cases h6 : k = 6
  · simp [h6]
  · rw [if_neg h6, withN_test]
    by_cases h5 : k = 5
    · simp [h5]
    · simp [h5, h6]
theorem bareN_le (n : Nat) : bareN n ≤ 18446744073709551615 := by
  unfold bareN withN
  have := sumBits_lt (fun k => if k = 6 then false else (sumBits (fun k => if k = 5 then false else n.testBit k) 64).testBit k) 64
  omega
theorem bareN_eqv {n m : Nat} (hn : n ≤ 18446744073709551615) (hm : m ≤ 18446744073709551615) : bareN n = bareN m ↔ eqv (n : Int) (m : Int) := by
  constructor
  · intro h
    have ht : ∀ k, k ≠ 5 → k ≠ 6 → n.testBit k = m.testBit k := fun k h5 h6 => by
      by_cases hk : k < 64
      · have := congrArg (Nat.testBit · k) h
        simp only [bareN_test] at this
        simpa [h5, h6, hk] using this
      · have e : ∀ z : Nat, z ≤ 18446744073709551615 → z.testBit k = false := fun z hz => Nat.testBit_lt_two_pow (Nat.lt_of_lt_of_le (by omega : z < 2 ^ 64) (Nat.pow_le_pow_right (by omega) (by omega)))
        rw [e n hn, e m hm]
    have h1 : n / 128 = m / 128 := by
      apply Nat.eq_of_testBit_eq
      intro i
      rw [show (128 : Nat) = 2 ^ 7 from rfl, Nat.testBit_div_two_pow, Nat.testBit_div_two_pow]
      exact ht _ (by omega) (by omega)
    have h2 : n % 32 = m % 32 := by
      apply Nat.eq_of_testBit_eq
      intro i
      rw [show (32 : Nat) = 2 ^ 5 from rfl, Nat.testBit_mod_two_pow, Nat.testBit_mod_two_pow]
      by_cases hi : i < 5
      · rw [ht i (by omega) (by omega)]
      · simp [hi]
    unfold eqv; omega
  · intro h
    apply Nat.eq_of_testBit_eq
    intro k
    rw [bareN_test, bareN_test]
    by_cases h56 : k = 5 ∨ k = 6
    · rcases h56 with rfl | rfl <;> simp
    · rw [eqv_test h k (by omega)]
def bareI (x : Int) : Int := (bareN x.toNat : Int)
theorem bareI_ne {x y : Int} (h0 : 0 ≤ x) (h1 : x ≤ 18446744073709551615) (k0 : 0 ≤ y) (k1 : y ≤ 18446744073709551615) : (bareI x != bareI y) = !(orD x == orD y) := by
  have e : bareI x = bareI y ↔ orD x = orD y := by
    unfold bareI
    rw [Int.ofNat_inj, bareN_eqv (by omega) (by omega), eqv_or, Int.toNat_of_nonneg h0, Int.toNat_of_nonneg k0]
  by_cases hx : orD x = orD y
  · have h9 := e.2 hx
    rw [h9, hx]; simp
  · have : bareI x ≠ bareI y := fun h => hx (e.1 h)
    rw [(bne_iff_ne).2 this, (beq_eq_false_iff_ne).2 hx]; rfl
theorem refBare_c (x : Int) (w : World) (h0 : 0 ≤ x) (h1 : x ≤ 18446744073709551615) : Calls Try.prog 119 #[.int .u64 x] w fun e w' => e = .returned (.int .u64 (bareI x)) ∧ Ext w w' := by
  obtain ⟨n, rfl⟩ : ∃ n : Nat, x = n := ⟨x.toNat, by omega⟩
  have HA := Lib.hid (fun w => refWith_c n 5 false w (by omega) (by omega))
  have hl : withN n 5 false ≤ 18446744073709551615 := by
    unfold withN
    have := sumBits_lt (fun k => if k = 5 then false else n.testBit k) 64
    omega
  have HB := Lib.hid (fun w => refWith_c (withN n 5 false) 6 false w hl (by omega))
  have HE : Hid (bareI (n : Int) = ((withN (withN n 5 false) 6 false : Nat) : Int)) := Lib.hid rfl
  generalize withN (withN n 5 false) 6 false = y at HB HE
  generalize withN n 5 false = z at HA HB hl
  have tok1 : True := trivial
  go_enter Try.func119, Try.ntmps119
  go_wp2_with (first | (go_at_call 140; have _t := tok1; clear _t; refine (HA.out _).mono ?_; rintro e w1 ⟨rfl, hb1⟩; clear tok1) | (go_at_call 140; refine (HB.out _).mono ?_; rintro e w2 ⟨rfl, hb2⟩))
  go_ret
  exact ⟨by rw [HE.out]; rfl, hb1.trans hb2⟩
end Go.Proofs.Ytfaekfdngkpkdaa
/- The document's entries: slots, leaves, reserved bits, frames. -/
namespace Go.Proofs.Ytfaekfdngkpkdaa
set_option linter.unusedVariables false
set_option linter.unusedSimpArgs false
open Go.RowKit
attribute [local go_sem] wext_cell wext_frozen wext_heap alloc_cell alloc_frozen alloc_heap setCell_cell objCell_cells objFrozen_cells

theorem rIndex_c (a l : Int) (w : World) (h0 : 0 ≤ a) (h1 : a ≤ 18446744073709551615) (hl0 : 1 ≤ l) (hl1 : l ≤ 4) :
    Calls Try.prog 114 #[.int .u64 a, .int .i64 l] w fun e w' => e = .returned (.int .i64 (idxI a l)) ∧ Ext w w' := by
  have key : ∀ (p : Int) (n : Int), 0 ≤ n → n ≤ 63 → pow2 n = p → ∀ w, Calls Try.prog 115 #[.int .i64 n] w fun e w' => e = .returned (.int .u64 p) ∧ Ext w w' := fun p n h1 h2 e w => by rw [← e]; exact power_c n w h1 h2
  rcases (show l = 1 ∨ l = 2 ∨ l = 3 ∨ l = 4 by omega) with rfl | rfl | rfl | rfl
  · have HP := Lib.hid (key 4096 12 (by omega) (by omega) (by decide))
    clear key
    go_enter Try.func114, Try.ntmps114
    go_wp2_with (first | (go_at_call 115; refine (HP.out _).mono ?_; rintro e w1 ⟨rfl, hb1⟩))
    go_ret
    exact ⟨rfl, hb1⟩
  · have HP := Lib.hid (key 2097152 21 (by omega) (by omega) (by decide))
    clear key
    go_enter Try.func114, Try.ntmps114
    go_wp2_with (first | (go_at_call 115; refine (HP.out _).mono ?_; rintro e w1 ⟨rfl, hb1⟩))
    go_ret
    exact ⟨rfl, hb1⟩
  · have HP := Lib.hid (key 1073741824 30 (by omega) (by omega) (by decide))
    clear key
    go_enter Try.func114, Try.ntmps114
    go_wp2_with (first | (go_at_call 115; refine (HP.out _).mono ?_; rintro e w1 ⟨rfl, hb1⟩))
    go_ret
    exact ⟨rfl, hb1⟩
  · have HP := Lib.hid (key 549755813888 39 (by omega) (by omega) (by decide))
    clear key
    go_enter Try.func114, Try.ntmps114
    go_wp2_with (first | (go_at_call 115; refine (HP.out _).mono ?_; rintro e w1 ⟨rfl, hb1⟩))
    go_ret
    exact ⟨rfl, hb1⟩
theorem rSlot_c (t a l : Int) (w : World) (t0 : 0 ≤ t) (t1 : t ≤ 18446744073709551615) (h0 : 0 ≤ a) (h1 : a ≤ 18446744073709551615) (hl0 : 1 ≤ l) (hl1 : l ≤ 4) :
    Calls Try.prog 69 #[.int .u64 t, .int .u64 a, .int .i64 l] w fun e w' => e = .returned (.int .u64 (slotI t a l)) ∧ Ext w w' := by
  have HT := Lib.hid (fun w => refTable_c t w t0 t1)
  have HI := Lib.hid (fun w => rIndex_c a l w h0 h1 hl0 hl1)
  have hi := idxI_le a l
  have ht := tabI_le t0
  have ht2 : tabI t ≤ 18446744073709551615 - 5000 := by unfold tabI; omega
  have hs : Hid (slotI t a l = tabI t + 8 * idxI a l) := Lib.hid rfl
  generalize slotI t a l = s at hs ⊢
  generalize tabI t = tb at HT ht ht2 hs
  generalize idxI a l = ix at HI hi hs
  obtain ⟨hi0, hi1⟩ := hi
  go_enter Try.func69, Try.ntmps69
  go_wp2_with (first | (go_at_call 76; refine (HT.out _).mono ?_; rintro e w1 ⟨rfl, hb1⟩) | (go_at_call 114; refine (HI.out _).mono ?_; rintro e w2 ⟨rfl, hb2⟩))
  go_ret
  exact ⟨by rw [hs.out]; rfl, hb1.trans hb2⟩
theorem rLeaf_c (x l : Int) (w : World) (h0 : 0 ≤ x) (h1 : x ≤ 18446744073709551615) (hl0 : 1 ≤ l) (hl1 : l ≤ 4) :
    Calls Try.prog 74 #[.int .u64 x, .int .i64 l] w fun e w' => e = .returned (.bool (leafI x l)) ∧ Ext w w' := by
  have hb7 : ∀ w, Calls Try.prog 71 #[.int .u64 x, .int .i64 7] w fun e w' => e = .returned (.bool (bitB x 7)) ∧ Ext w w' := fun w => bit_c x 7 w h0 h1 (by omega) (by omega)
  have H7 := Lib.hid hb7
  have hd : Hid (leafI x l = (l == 1 || ((l == 2 || l == 3) && bitB x 7))) := Lib.hid rfl
  generalize leafI x l = r at hd ⊢
  generalize bitB x 7 = q at H7 hd
  clear hb7
  rcases (show l = 1 ∨ l = 2 ∨ l = 3 ∨ l = 4 by omega) with rfl | rfl | rfl | rfl
  all_goals
    go_enter Try.func74, Try.ntmps74
    go_wp2_with (first | (go_at_call 71; refine (H7.out _).mono ?_; rintro e w1 ⟨rfl, hb1⟩))
    go_ret
    exact ⟨by rw [hd.out]; simp, (by repeat (first | exact Ext.refl _ | assumption | refine Ext.alloc ?_ _ | refine Ext.drew ?_ | refine Ext.setCell ?_ (by first | (simp; done) | (dsimp only; omega)) _ | refine Ext.trans ?_ (by assumption)))⟩
theorem rSize3_c (l : Int) (w : World) (hl0 : 1 ≤ l) (hl1 : l ≤ 3) : Calls Try.prog 117 #[.int .i64 l] w fun e w' => e = .returned (.int .u64 (sizeE l)) ∧ Ext w w' := by
  rcases (show l = 1 ∨ l = 2 ∨ l = 3 by omega) with rfl | rfl | rfl
  all_goals
    go_enter Try.func117, Try.ntmps117
    go_wp2
    all_goals
      go_ret
      exact ⟨rfl, (by repeat (first | exact Ext.refl _ | assumption | refine Ext.alloc ?_ _ | refine Ext.drew ?_ | refine Ext.setCell ?_ (by first | (simp; done) | (dsimp only; omega)) _ | refine Ext.trans ?_ (by assumption)))⟩
theorem rFrame_c (x l : Int) (w : World) (h0 : 0 ≤ x) (h1 : x ≤ 18446744073709551615) (hl0 : 1 ≤ l) (hl1 : l ≤ 4) :
    Calls Try.prog 75 #[.int .u64 x, .int .i64 l] w fun e w' => e = .returned (.int .u64 (frameI x l)) ∧ Ext w w' := by
  have HL := Lib.hid (fun w => rLeaf_c x l w h0 h1 hl0 hl1)
  have HT := Lib.hid (fun w => refTable_c x w h0 h1)
  have ht := tabI_le h0
  have ht2 : tabI x ≤ 18446744073709551615 := by unfold tabI; omega
  have hd : Hid (frameI x l = if leafI x l then tabI x - tabI x % sizeE l else tabI x) := Lib.hid rfl
  have hl3 : leafI x l = true → l ≤ 3 := fun h => by
    rcases (show l = 1 ∨ l = 2 ∨ l = 3 ∨ l = 4 by omega) with rfl | rfl | rfl | rfl
    · omega
    · omega
    · omega
    · simp [leafI] at h
  generalize frameI x l = r at hd ⊢
  generalize tabI x = tb at HT ht ht2 hd
  cases hlf : leafI x l
  · rw [hlf] at HL hd
    clear hl3
    go_enter Try.func75, Try.ntmps75
    go_wp2_with (first | (go_at_call 74; refine (HL.out _).mono ?_; rintro e w1 ⟨rfl, hb1⟩) | (go_at_call 76; refine (HT.out _).mono ?_; rintro e w2 ⟨rfl, hb2⟩))
    go_ret
    exact ⟨by rw [hd.out]; rfl, hb1.trans hb2⟩
  · have hl4 := hl3 hlf
    have HS := Lib.hid (fun w => rSize3_c l w hl0 hl4)
    have hsz : 1 ≤ sizeE l ∧ sizeE l ≤ 1073741824 := by unfold sizeE; split; omega; split; omega; split <;> omega
    rw [hlf] at HL hd
    clear hl3 hlf
    generalize sizeE l = sz at HS hsz hd
    obtain ⟨hs0, hs1⟩ := hsz
    have hm0 := Int.emod_nonneg tb (b := sz) (by omega)
    have hm1 := Int.emod_lt_of_pos tb (b := sz) (by omega)
    have hm2 : tb % sz ≤ tb := by
      by_cases h : tb < sz
      · rw [Int.emod_eq_of_lt (by omega) h]; exact Int.le_refl _
      · omega
    go_enter Try.func75, Try.ntmps75
    go_wp2_with (first | (go_at_call 74; refine (HL.out _).mono ?_; rintro e w1 ⟨rfl, hb1⟩) | (go_at_call 76; refine (HT.out _).mono ?_; rintro e w2 ⟨rfl, hb2⟩) | (go_at_call 117; refine (HS.out _).mono ?_; rintro e w3 ⟨rfl, hb3⟩))
    go_ret
    exact ⟨by rw [hd.out]; rfl, (by repeat (first | exact Ext.refl _ | assumption | refine Ext.alloc ?_ _ | refine Ext.drew ?_ | refine Ext.setCell ?_ (by first | (simp; done) | (dsimp only; omega)) _ | refine Ext.trans ?_ (by assumption)))⟩
end Go.Proofs.Ytfaekfdngkpkdaa
/- The document's reserved bits; rights. -/
namespace Go.Proofs.Ytfaekfdngkpkdaa
set_option linter.unusedVariables false
set_option linter.unusedSimpArgs false
open Go.RowKit
attribute [local go_sem] wext_cell wext_frozen wext_heap alloc_cell alloc_frozen alloc_heap setCell_cell objCell_cells objFrozen_cells

set_option maxHeartbeats 1600000 in
theorem rAnd_c (a b c : Bool) (x : Int) (w : World) (hx : 0 ≤ x) (hx1 : x ≤ 18446744073709551615) :
    Calls Try.prog 73 #[.agg #[.bool a, .bool b, .bool c], .int .u64 x] w fun e w' =>
      e = .returned (.agg #[.bool (a && bitB x 1), .bool (b && bitB x 2), .bool (c && !bitB x 63)]) ∧ Ext w w' := by
  cases a <;> cases b <;> cases c
  all_goals
    go_enter Try.func73, Try.ntmps73
    go_upto_region 1 with (fail)
    refine region_ext_tail 20 (by kernel_rfl) (by kernel_rfl) ?_; simp only [List.take_succ_cons, List.take_zero, List.drop_succ_cons, List.drop_zero]; (repeat (go_big_quiet_step ((go_at_call 71; exact calls_wext (bit_c _ _ _ hx hx1 (by omega) (by omega)))))); refine wpQuiet_nil ?_; intro w1 hb; have ⟨hc, hf, hh, hs⟩ := hb.facts; try simp only [World.size_alloc, World.size_setCell, World.size_drew] at hs
    go_wp2
    refine bodyPost_ret (by simp [results, Try.results73, go_sem, *]; rfl) rfl ⟨by simp, (by repeat (first | exact Ext.refl _ | assumption | refine Ext.alloc ?_ _ | refine Ext.drew ?_ | refine Ext.setCell ?_ (by first | (simp; done) | (dsimp only; omega)) _ | refine Ext.trans ?_ (by assumption)))⟩

theorem gI_step (x i : Int) (k : Nat) (h0 : 0 ≤ x) (hi : 0 ≤ i) : (gI x i ((k : Int) + 1) != 0) = (bitB x i || gI x (i + 1) k != 0) := by
  unfold gI bitB
  obtain ⟨n, rfl⟩ : ∃ n : Nat, i = n := ⟨i.toNat, by omega⟩
  have e1 : pow2 ((n : Int) + 1) = pow2 n * 2 := by unfold pow2; rw [show ((n : Int) + 1).toNat = n + 1 by omega, show ((n : Int)).toNat = n by omega, Nat.pow_succ]; omega
  have e2 : pow2 ((k : Int) + 1) = 2 * pow2 k := by unfold pow2; rw [show ((k : Int) + 1).toNat = k + 1 by omega, show ((k : Int)).toNat = k by omega, Nat.pow_succ]; omega
  rw [e1, e2, ← Int.ediv_ediv_of_nonneg (by have := pow2_pos (n : Int); omega)]
  have hy : 0 ≤ x / pow2 n := Int.ediv_nonneg h0 (by have := pow2_pos (n : Int); omega)
  generalize x / pow2 n = y at hy
  have hp := pow2_pos (k : Int)
  generalize pow2 (k : Int) = p at hp
  have e3 : y % (2 * p) = y % 2 + 2 * (y / 2 % p) := by
    have h1 := Int.emod_add_mul_ediv y (2 * p)
    have h2 := Int.emod_add_mul_ediv (y / 2) p
    have h3 : y / (2 * p) = y / 2 / p := (Int.ediv_ediv_of_nonneg (by omega)).symm
    rw [h3, Int.mul_assoc] at h1
    omega
  have h4 := Int.emod_nonneg (y / 2) (b := p) (by omega)
  rw [e3]
  by_cases h5 : y % 2 = 1
  · simp [h5]; omega
  · have : y % 2 = 0 := by omega
    rw [this]
    by_cases h6 : y / 2 % p = 0
    · simp [h6]
    · have k1 : (2 * (y / 2 % p) != 0) = true := by rw [bne_iff_ne]; omega
      have k2 : (y / 2 % p != 0) = true := by rw [bne_iff_ne]; exact h6
      rw [k2]; simp; omega
theorem gI_zero (x i : Int) : (gI x i 0 != 0) = false := by unfold gI; rw [show pow2 0 = 1 from rfl, Int.emod_one]; rfl

def someB (x f t : Int) : Bool := gI x f (t + 1 - f) != 0
set_option maxHeartbeats 1000000 in
theorem rSome_c (x f t : Int) (w : World) (h0 : 0 ≤ x) (h1 : x ≤ 18446744073709551615) (hf : 0 ≤ f) (hft : f ≤ t + 1) (ht : t ≤ 62) :
    Calls Try.prog 116 #[.int .u64 x, .int .i64 f, .int .i64 t] w fun e w' => e = .returned (.bool (someB x f t)) ∧ Ext w w' := by
  have HB := Lib.hid (fun i w (hi0 : (0 : Int) ≤ i) (hi1 : i ≤ 63) => bit_c x i w h0 h1 hi0 hi1)
  have hst : ∀ i, 0 ≤ i → i ≤ t → someB x i t = (bitB x i || someB x (i + 1) t) := fun i hi hit => by
    unfold someB
    have := gI_step x i (t - i).toNat h0 hi
    rw [show (((t - i).toNat : Nat) : Int) + 1 = t + 1 - i by omega, show (((t - i).toNat : Nat) : Int) = t + 1 - (i + 1) by omega] at this
    exact this
  have HS := Lib.hid hst
  have HZ : Hid (someB x (t + 1) t = false) := Lib.hid (by unfold someB; rw [show t + 1 - (t + 1) = 0 by omega]; exact gI_zero x _)
  generalize hq : bitB x = q at HB HS
  generalize someB x = s at HS HZ ⊢
  clear hst hq
  go_enter Try.func116, Try.ntmps116
  go_wp2
  go_loopw [7] (fun i wr => ∃ j : Int, f ≤ j ∧ j ≤ t + 1 ∧ i = .int .i64 j ∧ Hid (Ext w wr ∧ s f t = s j t)) (fun i _ => (t + 1 - intOf i).toNat)
  case atStart => exact ⟨f, by omega, by omega, rfl, Lib.hid ⟨Ext.refl _, rfl⟩⟩
  case round =>
    obtain ⟨j, hj, hjt, rfl, hR⟩ := hrel
    by_cases hlt : j ≤ t
    · have HBj := Lib.hid (fun w => HB.out j w (by omega) (by omega))
      have hs := HS.out j (by omega) hlt
      have h2 := hR.out.2
      rw [hs] at h2
      have HR2 := Lib.hid h2
      clear hs h2
      cases hqj : q j
      · rw [hqj] at HR2 HBj
        go_wp2_with (first | (go_at_call 71; refine (HBj.out _).mono ?_; rintro e w1 ⟨rfl, hb1⟩))
        refine ⟨⟨j + 1, by omega, by omega, by go_num, Lib.hid ⟨hR.out.1.trans (by repeat (first | exact Ext.refl _ | assumption | refine Ext.alloc ?_ _ | refine Ext.drew ?_ | refine Ext.setCell ?_ (by first | (simp; done) | (dsimp only; omega)) _ | refine Ext.trans ?_ (by assumption))), by rw [HR2.out]; simp⟩⟩, by simp [intOf]; omega⟩
      · rw [hqj] at HR2 HBj
        go_wp2_with (first | (go_at_call 71; refine (HBj.out _).mono ?_; rintro e w1 ⟨rfl, hb1⟩))
        all_goals
          (try go_ret)
          exact ⟨by rw [HR2.out]; simp, hR.out.1.trans (by repeat (first | exact Ext.refl _ | assumption | refine Ext.alloc ?_ _ | refine Ext.drew ?_ | refine Ext.setCell ?_ (by first | (simp; done) | (dsimp only; omega)) _ | refine Ext.trans ?_ (by assumption)))⟩
    · have e : j = t + 1 := by omega
      have HR2 : Hid (s f t = false) := Lib.hid (by rw [hR.out.2, e]; exact HZ.out)
      clear e
      go_wp2
      all_goals
        (try go_ret)
        exact ⟨by rw [HR2.out]; rfl, hR.out.1.trans (by repeat (first | exact Ext.refl _ | assumption | refine Ext.alloc ?_ _ | refine Ext.drew ?_ | refine Ext.setCell ?_ (by first | (simp; done) | (dsimp only; omega)) _ | refine Ext.trans ?_ (by assumption)))⟩
def resK (l : Int) (nxe : Bool) (sB s8 s17 q7 q63 : Bool) : Bool := sB || (q63 && !nxe) || (l == 4 && q7) || (l == 2 && q7 && s8) || (l == 3 && q7 && s17)
theorem resK_is (x l B : Int) (nxe : Bool) : resI x l B nxe = resK l nxe (someB x B 51) (someB x 13 20) (someB x 13 29) (bitB x 7) (bitB x 63) := by
  unfold someB resK
  rw [show (51 : Int) + 1 - B = 52 - B by omega]
  rfl
set_option maxHeartbeats 4000000 in
set_option maxRecDepth 20000 in
theorem rReserved_c (x l B : Int) (nxe : Bool) (w : World) (hl0 : 1 ≤ l) (hl1 : l ≤ 4) (h0 : 0 ≤ x) (h1 : x ≤ 18446744073709551615) (hB0 : 14 ≤ B) (hB1 : B ≤ 22) :
    Calls Try.prog 72 #[.int .u64 x, .int .i64 l, .int .i64 B, .bool nxe] w fun e w' => e = .returned (.bool (resI x l B nxe)) ∧ Ext w w' := by
  have HB := Lib.hid (fun i w (hi0 : (0 : Int) ≤ i) (hi1 : i ≤ 63) => bit_c x i w h0 h1 hi0 hi1)
  have HS := Lib.hid (fun f t w (k0 : (0 : Int) ≤ f) (k1 : f ≤ t + 1) (k2 : t ≤ 62) => rSome_c x f t w h0 h1 k0 k1 k2)
  have HL := Lib.hid (fun l w (k0 : (1 : Int) ≤ l) (k1 : l ≤ 4) => rLeaf_c x l w h0 h1 k0 k1)
  have hlf : ∀ l, leafI x l = (l == 1 || ((l == 2 || l == 3) && bitB x 7)) := fun l => rfl
  have HL2 : Hid (∀ l w, 2 ≤ l → l ≤ 3 → Calls Try.prog 74 #[.int .u64 x, .int .i64 l] w fun e w' => e = .returned (.bool (bitB x 7)) ∧ Ext w w') := Lib.hid (fun l w k0 k1 => by
    have := HL.out l w (by omega) (by omega)
    rw [hlf] at this
    have e : (l == 1 || ((l == 2 || l == 3) && bitB x 7)) = bitB x 7 := by
      rcases (show l = 2 ∨ l = 3 by omega) with rfl | rfl <;> simp
    rw [e] at this
    exact this)
  rw [resK_is]
  generalize bitB x = q at HB HL2 ⊢
  generalize someB x = s at HS ⊢
  clear hlf HL
  obtain ⟨q7, h7⟩ : ∃ b, q 7 = b := ⟨_, rfl⟩
  obtain ⟨q63, h63⟩ : ∃ b, q 63 = b := ⟨_, rfl⟩
  obtain ⟨sB, hsB⟩ : ∃ b, s B 51 = b := ⟨_, rfl⟩
  obtain ⟨s8, hs8⟩ : ∃ b, s 13 20 = b := ⟨_, rfl⟩
  obtain ⟨s17, hs17⟩ : ∃ b, s 13 29 = b := ⟨_, rfl⟩
  rcases (show l = 1 ∨ l = 2 ∨ l = 3 ∨ l = 4 by omega) with rfl | rfl | rfl | rfl
  all_goals
    clear hl0 hl1
    go_enter Try.func72, Try.ntmps72
    go_wp2_with (first | (go_at_call 116; refine (HS.out _ _ _ (by omega) (by omega) (by omega)).mono ?_; rintro e w1 ⟨rfl, hb⟩) | (go_at_call 71; refine (HB.out _ _ (by omega) (by omega)).mono ?_; rintro e w1 ⟨rfl, hb⟩) | (go_at_call 74; refine (HL2.out _ _ (by omega) (by omega)).mono ?_; rintro e w1 ⟨rfl, hb⟩))
    all_goals
      go_ret
      exact ⟨by unfold resK; simp_all, (by repeat (first | exact Ext.refl _ | assumption | refine Ext.alloc ?_ _ | refine Ext.drew ?_ | refine Ext.setCell ?_ (by first | (simp; done) | (dsimp only; omega)) _ | refine Ext.trans ?_ (by assumption)))⟩
end Go.Proofs.Ytfaekfdngkpkdaa
/- A law's real: a path as the document has it. -/
namespace Go.Proofs.Ytfaekfdngkpkdaa
set_option linter.unusedVariables false
set_option linter.unusedSimpArgs false
open Go.RowKit
attribute [local go_sem] wext_cell wext_frozen wext_heap alloc_cell alloc_frozen alloc_heap setCell_cell objCell_cells objFrozen_cells

theorem rowS_oneC (L : List Stp) : ∀ u ∈ rowS L, u.oneCell' = true := by
  intro u hu
  obtain ⟨k, _, hk⟩ := List.mem_flatMap.1 hu
  simp [Stp.cells] at hk
  rcases hk with rfl | rfl | rfl <;> rfl
theorem StepsAt.ofT {U : World} {e : TypeId} {sa : Option Addr} {sc : Nat} {L : List Stp} (h : Owns U e 3 (.slice sa L.length sc) L.length (rowS L)) : StepsAt U sa L := fun i hi => by
  obtain ⟨g, hg⟩ : ∃ g, sa = some ⟨g, 0, none⟩ := by
    rcases h.2 with ⟨h1, h0⟩ | ⟨g, _, _, he, _⟩
    · omega
    · exact ⟨g, by injection he⟩
  subst hg
  have H := fun j hj u hu => h.cells (g := g) rfl (i * 3 + j) u ((rowS_at L i hi j hj).trans hu)
  exact ⟨g, 0, rfl, h.lt g rfl, by rw [Nat.zero_add]; exact H 0 (by omega) _ rfl, by rw [Nat.zero_add]; exact H 1 (by omega) _ rfl, by rw [Nat.zero_add]; exact H 2 (by omega) _ rfl⟩
theorem refStepRow : RowT Try.prog 42 146 3 24 := RowT.of (z := .agg #[.int .i64 0, .int .u64 0, .int .u64 0]) Try.underlying42 (by kernel_rfl) rfl
theorem rowS_take (L : List Stp) (j : Nat) (h : j < L.length) : rowS (L.take (j + 1)) = rowS (L.take j) ++ (stpAt L j).cells := by
  have e : L.take (j + 1) = L.take j ++ [stpAt L j] := by rw [List.take_add_one, List.getElem?_eq_getElem h]; simp [stpAt, List.getD, h]
  rw [e]; simp [rowS]

/-- A path of the document's as a value. -/
def EndReal (L : List Stp) (why : Int) (r : Rt) (lv fr : Int) (w : World) (e : Ending) (w' : World) : Prop :=
  ∃ ra rc, e = .returned (.agg #[.slice ra L.length rc, .int .i64 why, .bool r.1, .bool r.2.1, .bool r.2.2, .int .i64 lv, .int .u64 fr]) ∧ Owns w' 146 3 (.slice ra L.length rc) L.length (rowS L) ∧ Ext w w'
set_option maxHeartbeats 4000000 in
set_option maxRecDepth 100000 in
theorem real8_c (L : List Stp) (why : Int) (r : Rt) (lv fr : Int) (sa : Option Addr) (sc : Nat) (w : World) (hS : StepsAt w sa L) (hL : L.length ≤ 5864062014634) :
    Calls Try.prog 19 #[.agg #[.slice sa L.length sc, .int .i64 why, .bool r.1, .bool r.2.1, .bool r.2.2, .int .i64 lv, .int .u64 fr]] w (EndReal L why r lv fr w) := by
  have HS := Lib.hid hS
  generalize hE : EndReal L why r lv fr w = E
  have HE := Lib.hid hE
  clear hE hS
  go_enter Try.func19, Try.ntmps19
  go_wp2
  refine wp_gen ?_; intro V hV
  have vE : Ext w V := by rw [hV]; exact (by repeat (first | exact Ext.refl _ | assumption | refine Ext.alloc ?_ _ | refine Ext.drew ?_ | refine Ext.setCell ?_ (by first | (simp; done) | (dsimp only; omega)) _ | refine Ext.trans ?_ (by assumption)))
  have v1 : V.heap[w.heap.size]? = some (.cells #[.slice sa L.length sc, .int .i64 why, .bool r.1, .bool r.2.1, .bool r.2.2, .int .i64 lv, .int .u64 fr] 38 (0, 0)) := by rw [hV]; exact (alloc_other _ _ (by simp; omega)).trans ((alloc_other _ _ (by simp)).trans (alloc_same ..))
  have v2 : V.heap[w.heap.size + 1]? = some (.cells #[.slice none 0 0, .int .i64 0, .bool false, .bool false, .bool false, .int .i64 0, .int .u64 0] 45 (0, 0)) := by rw [hV]; exact (alloc_other _ _ (by simp)).trans (alloc_same1 ..)
  have v3 : V.heap[w.heap.size + 1 + 1]? = some (.cells #[.slice none 0 0, .int .i64 why, .bool r.1, .bool r.2.1, .bool r.2.2, .int .i64 lv, .int .u64 fr] 45 (0, 0)) := by rw [hV]; exact alloc_same2 ..
  obtain ⟨pb, hpb⟩ : ∃ pb, w.heap.size = pb := ⟨_, rfl⟩
  obtain ⟨qb, hqb⟩ : ∃ qb, w.heap.size + 1 = qb := ⟨_, rfl⟩
  obtain ⟨ob, hob⟩ : ∃ ob, w.heap.size + 1 + 1 = ob := ⟨_, rfl⟩
  have hbs : w.heap.size ≤ pb ∧ w.heap.size ≤ qb ∧ w.heap.size ≤ ob ∧ pb ≠ qb ∧ pb ≠ ob ∧ qb ≠ ob := by omega
  obtain ⟨b1, b2, b3, b4, b5, b6⟩ := hbs
  rw [hob] at v3 ⊢
  rw [hqb] at v2 ⊢
  rw [hpb] at v1 ⊢
  have VE := Lib.hid vE
  have VP := Lib.hid v1
  have VQ := Lib.hid v2
  have VO := Lib.hid v3
  clear hV vE v1 v2 v3 hpb hqb hob
  go_loopw [4] (fun i wr => ∃ (j : Nat) (ra : Option Addr) (rc : Nat), j ≤ L.length ∧ i = .int .i64 j ∧ Hid (Ext w wr ∧ wr.heap[pb]? = some (.cells #[.slice sa L.length sc, .int .i64 why, .bool r.1, .bool r.2.1, .bool r.2.2, .int .i64 lv, .int .u64 fr] 38 (0, 0)) ∧
    wr.heap[qb]? = some (.cells #[.slice none 0 0, .int .i64 0, .bool false, .bool false, .bool false, .int .i64 0, .int .u64 0] 45 (0, 0)) ∧
    wr.heap[ob]? = some (.cells #[.slice ra j rc, .int .i64 why, .bool r.1, .bool r.2.1, .bool r.2.2, .int .i64 lv, .int .u64 fr] 45 (0, 0)) ∧ Owns wr 146 3 (.slice ra j rc) j (rowS (L.take j)) ∧
    ∀ g, (Value.slice ra j rc).ownBlock = some g → w.heap.size ≤ g)) (fun i _ => L.length - (intOf i).toNat)
  case atStart => exact ⟨0, none, 0, by omega, rfl, Lib.hid ⟨VE.out, VP.out, VQ.out, VO.out, by simpa [rowS] using Owns.nil _ _ _, fun g hg => by simp [Value.ownBlock] at hg⟩⟩
  case round =>
    obtain ⟨j, ra, rc, hj, rfl, hR⟩ := hrel
    obtain ⟨hx, hp, hq, ho, hO, hg⟩ := hR.out
    have c0 := (heap_cell hp 0).trans rfl
    have hpl := heap_lt hp
    have hql := heap_lt hq
    have hol := heap_lt ho
    by_cases hlt : j < L.length
    · obtain ⟨g, o, rfl, hgl, s0, s1, s2⟩ := HS.out.ext hx j hlt
      have hst := rowS_take L j hlt
      generalize stpAt L j = sj at s0 s1 s2 hst
      obtain ⟨lj, aj, xj⟩ := sj
      dsimp only at s0 s1 s2
      have HST := Lib.hid hst
      have y0 := (heap_cell ho 0).trans rfl
      have OO := Lib.hid ho
      have PP := Lib.hid hp
      have QQ := Lib.hid hq
      have OW := Lib.hid hO
      have HX := Lib.hid hx
      have HG := Lib.hid hg
      clear hst hp hq ho hO hx hg hR
      go_upto_region 5 with (fail)
      refine region_mix [.q [0, 1, 2, 3, 4, 5, 6], .l 7 3, .l 8 2, .b [9], .l 10 2] (by kernel_rfl) (by kernel_rfl) ?_
      (try refine ⟨fun h => absurd h (by simp), ?_⟩); (repeat (unfold wpPlan; simp only [pickL, List.map_cons, List.map_nil, List.getD_cons_succ, List.getD_cons_zero]; (repeat go_big_quiet_step (fail)); refine wpQuiet_nil ?_)); unfold wpPlan; intro w3 hb3; (try simp only [pickL, List.map_cons, List.map_nil, List.getD_cons_succ, List.getD_cons_zero])
      have B3 := Lib.hid hb3
      have hz3 := hb3.size
      clear hb3 c0 s0 s1 s2 y0
      go_wp2
      refine ⟨fun _ => B3.out.alloc _, ?_⟩
      (try refine ⟨fun h => absurd h (by simp), ?_⟩); (repeat (unfold wpPlan; simp only [pickL, List.map_cons, List.map_nil, List.getD_cons_succ, List.getD_cons_zero]; (repeat go_big_quiet_step (fail)); refine wpQuiet_nil ?_)); unfold wpPlan; intro w4 hb4; (try simp only [pickL, List.map_cons, List.map_nil, List.getD_cons_succ, List.getD_cons_zero])
      have e4 : Ext wr w4 := (B3.out.alloc _).trans hb4
      have n4 := (hb4.block w3.heap.size (by simp)).trans (alloc_same w3 (.cells #[.int .i64 lj, .int .u64 aj, .int .u64 xj] 146 (0, 0)))
      have E4 := Lib.hid e4
      have HA := Lib.hid (OW.out.ext e4)
      have N4 := Lib.hid n4
      have hOB : Hid (∀ w9 : World, World.grownBy w4 w9 (Value.slice ra j rc).ownBlock → ∀ (b : Nat) (c : Array Value) (e : TypeId), w4.heap[b]? = some (.cells c e (0, 0)) → e ≠ 146 → w9.heap[b]? = some (.cells c e (0, 0))) := Lib.hid (fun w9 k9 b c e hbc he => (k9.block b (heap_lt hbc) (fun h => by
        obtain ⟨c', hc'⟩ := HA.out.heap b h.symm
        rw [hbc] at hc'; simp only [Option.some.injEq, Obj.cells.injEq] at hc'; exact he hc'.2.1)).trans hbc)
      clear hb4 e4 n4
      go_wp2_with (first | (at_builtin; refine wpList_append_owns rfl _ _ _ _ 3 24 refStepRow rfl _ rfl j (rowS (L.take j)) HA.out _ 1 1 rfl (Stp.cells (lj, aj, xj)) rfl (fun j' u hu => by rw [add0, heap_cell N4.out j']; simpa [Stp.cells] using hu) (by simp [Stp.cells, Value.oneCell']) (by unfold maxLen; omega) (by omega) ?_; intro v9 w9 q1 q2 q3; replace q2 : World.grownBy w4 w9 (Value.slice ra j rc).ownBlock := q2; replace q3 : v9.ownBlock = (Value.slice ra j rc).ownBlock ∨ v9.ownBlock = some w4.heap.size := q3; obtain ⟨a9, c9, rfl, -, -⟩ := q1.form; simp only [Act.put, Array.set!_eq_setIfInBounds, List.setIfInBounds_toArray, List.set_cons_succ, List.set_cons_zero]))
      refine ⟨fun h => absurd h (by simp), ?_⟩
      have p9 := hOB.out w9 q2 pb _ _ ((E4.out.block _ hpl).trans PP.out) (by decide)
      have r9 := hOB.out w9 q2 qb _ _ ((E4.out.block _ hql).trans QQ.out) (by decide)
      have o9 := hOB.out w9 q2 ob _ _ ((E4.out.block _ hol).trans OO.out) (by decide)
      have X9 : Hid (Ext w w9) := Lib.hid (Keeps.to_ext (F := []) (Ext.refl w) ((Keeps.of_ext (HX.out.trans E4.out)).grown q2 (fun x hx => .inr (HG.out x hx))) (by simp))
      have G9 : Hid (∀ g, (Value.slice a9 (j + 1) c9).ownBlock = some g → w.heap.size ≤ g) := Lib.hid (fun g hg => by
        rcases q3 with q3 | q3 <;> rw [q3] at hg
        · exact HG.out g hg
        · have := (HX.out.trans E4.out).size
          simp only [Option.some.injEq] at hg; omega)
      have O9 := Lib.hid o9
      have P9 := Lib.hid p9
      have R9 := Lib.hid r9
      have S9 := Lib.hid q1
      clear q1 q2 q3 o9 p9 r9 hOB HA N4
      (try refine ⟨fun h => absurd h (by simp), ?_⟩); (repeat (unfold wpPlan; simp only [pickL, List.map_cons, List.map_nil, List.getD_cons_succ, List.getD_cons_zero]; (repeat go_big_quiet_step (fail)); refine wpQuiet_nil ?_)); unfold wpPlan; intro wa hba; (try simp only [pickL, List.map_cons, List.map_nil, List.getD_cons_succ, List.getD_cons_zero])
      have oa := (hba.block _ (heap_lt O9.out)).trans O9.out
      have k0 := (heap_cell oa 0).trans rfl
      have kf := frozen_of oa
      have hoa := heap_lt oa
      have OA := Lib.hid oa
      have HBA := Lib.hid hba
      clear oa hba
      go_wp2
      refine ⟨fun h => absurd h (by simp), ?_⟩
      (try refine ⟨fun h => absurd h (by simp), ?_⟩); (repeat (unfold wpPlan; simp only [pickL, List.map_cons, List.map_nil, List.getD_cons_succ, List.getD_cons_zero]; (repeat go_big_quiet_step (fail)); refine wpQuiet_nil ?_)); unfold wpPlan; intro wb hbb; (try simp only [pickL, List.map_cons, List.map_nil, List.getD_cons_succ, List.getD_cons_zero])
      have hEa := X9.out.trans HBA.out
      go_wp2
      refine ⟨⟨j + 1, a9, c9, by omega, by go_num, Lib.hid ⟨(Ext.setCell hEa b3 _).trans hbb, (hbb.block pb (by simp; exact heap_lt ((HBA.out.block _ (heap_lt P9.out)).trans P9.out))).trans ((setCell_heap _ _ _ _ _ (Ne.symm b5)).trans ((HBA.out.block _ (heap_lt P9.out)).trans P9.out)),
        (hbb.block qb (by simp; exact heap_lt ((HBA.out.block _ (heap_lt R9.out)).trans R9.out))).trans ((setCell_heap _ _ _ _ _ (Ne.symm b6)).trans ((HBA.out.block _ (heap_lt R9.out)).trans R9.out)),
        (hbb.block ob (by simp; exact heap_lt OA.out)).trans (setCell_heap_same OA.out), ?_, G9.out⟩⟩, by simp [intOf]; omega⟩
      rw [HST.out]
      refine Owns.ext ((S9.out.ext HBA.out).keep fun g hg => setCell_heap _ ob 0 g _ (fun e => ?_)) hbb
      obtain ⟨c, hc⟩ := (S9.out.ext HBA.out).heap g hg
      rw [← e, OA.out] at hc; simp at hc
    · obtain rfl : j = L.length := by omega
      have y0 := (heap_cell ho 0).trans rfl
      have y1 := (heap_cell ho 1).trans rfl
      have y2 := (heap_cell ho 2).trans rfl
      have y3 := (heap_cell ho 3).trans rfl
      have y4 := (heap_cell ho 4).trans rfl
      have y5 := (heap_cell ho 5).trans rfl
      have y6 := (heap_cell ho 6).trans rfl
      have k0 := (heap_cell hq 0).trans rfl
      have k1 := (heap_cell hq 1).trans rfl
      have k2 := (heap_cell hq 2).trans rfl
      have k3 := (heap_cell hq 3).trans rfl
      have k4 := (heap_cell hq 4).trans rfl
      have k5 := (heap_cell hq 5).trans rfl
      have k6 := (heap_cell hq 6).trans rfl
      have kf := frozen_of hq
      have QQ := Lib.hid hq
      have OW := Lib.hid hO
      have HX := Lib.hid hx
      have HLe : Hid (L.take L.length = L) := Lib.hid (List.take_of_length_le (Nat.le_refl _))
      clear hq ho hO hx hg hR hp
      go_wp2
      refine post_gen (fun X => X.heap[qb]? = some (.cells #[.slice ra L.length rc, .int .i64 why, .bool r.1, .bool r.2.1, .bool r.2.2, .int .i64 lv, .int .u64 fr] 45 (0, 0)) ∧ Owns X 146 3 (.slice ra L.length rc) L.length (rowS L) ∧ Ext w X) ⟨store7_heap QQ.out, ?_, ext7 HX.out b2⟩ ?_
      · have h9 := OW.out.store7 QQ.out (by decide) (v0 := .slice ra L.length rc) (v1 := .int .i64 why) (v2 := .bool r.1) (v3 := .bool r.2.1) (v4 := .bool r.2.2) (v5 := .int .i64 lv) (v6 := .int .u64 fr)
        rw [HLe.out] at h9; exact h9
      rintro X ⟨m5, o5, e5⟩
      have v0 := (heap_cell m5 0).trans rfl
      have v1 := (heap_cell m5 1).trans rfl
      have v2 := (heap_cell m5 2).trans rfl
      have v3 := (heap_cell m5 3).trans rfl
      have v4 := (heap_cell m5 4).trans rfl
      have v5 := (heap_cell m5 5).trans rfl
      have v6 := (heap_cell m5 6).trans rfl
      have O5 := Lib.hid o5
      have E5 := Lib.hid e5
      clear m5 o5 e5 y0 y1 y2 y3 y4 y5 y6 k0 k1 k2 k3 k4 k5 k6 kf c0
      rw [← HE.out]
      refine bodyPost_ret (by simp [results, Try.results19, go_sem, ↓IntWalk.iteOmega, *]; try rfl) rfl ⟨ra, rc, rfl, O5.out, E5.out⟩
end Go.Proofs.Ytfaekfdngkpkdaa
/- Plans whose loud operations may be guarded. -/
namespace Go.Proofs.Ytfaekfdngkpkdaa
open Go

def segG (l : List Oper) : Seg → Bool
  | .b is => calmB l is
  | .q is => calmB l is
  | .l i k => decide (i < l.length) && decide (2 ≤ k)
section
variable {P : Program} {l : List Oper} {Q : Exit → Act → World → Prop}
theorem mix_loudG {U : List (Nat × Nat)} {i k : Nat} {a : Act} {w : World} (hi : i < l.length) (hk : 2 ≤ k)
    (h : ∀ w1, Ext w w1 → wpList P l.toArray (Exit.then (fun a3 w3 => (k = 3 → Ext w w3) ∧ wpMix P l.toArray Q U a3 w3) (fun _ _ _ => False)) (pickL l [i]) a w1) : wpMix P l.toArray Q ((i, k) :: U) a w := by
  refine ⟨_, getD_some hi, fun hw => ⟨fun _ w1 hx => ?_, fun h2 => absurd h2 (by omega)⟩, fun hw => ?_⟩
  · have := h w1 hx
    simp only [pickL, List.map_cons, List.map_nil, wpList] at this
    rw [if_pos hw] at this
    rcases this with this | ⟨_, _, _, hf⟩
    · exact upon_mono (fun _ _ h' => h') (fun e _ _ h' => by cases e <;> first | exact h' | exact h'.elim) (upon_normal this)
    · exact hf.elim
  · have := h w (Ext.refl w)
    simp only [pickL, List.map_cons, List.map_nil, wpList] at this
    rw [if_neg (by rw [hw]; simp)] at this
    exact this.2
theorem plan_mixG : ∀ (t : List Seg) (a : Act) (w : World), t.all (segG l) = true → wpPlan P l Q t a w → wpMix P l.toArray Q (planOf t) a w
  | [], a, w, _, h => h
  | .b is :: t, a, w, hB, h => by
    simp only [List.all_cons, segG, Bool.and_eq_true] at hB
    exact mix_calm 0 (by omega) (C := fun _ => True) (fun _ _ => trivial) is a hB.1 (wpQuiet_post (fun a1 h1 => plan_mixG t a1 w hB.2 h1) _ _ h)
  | .q is :: t, a, w, hB, h => by
    simp only [List.all_cons, segG, Bool.and_eq_true] at hB
    exact mix_calm 1 (by omega) (C := fun w' => ∃ d, w' = wext w d) (fun w' h => grown_iff.2 (h.resolve_left (by omega))) is a hB.1 (wpQuiet_post (fun a1 h1 => plan_mixG t a1 w hB.2 h1) _ _ h)
  | .l i k :: t, a, w, hB, h => by
    simp only [List.all_cons, segG, Bool.and_eq_true, decide_eq_true_eq] at hB
    exact mix_loudG hB.1.1 hB.1.2 fun w1 hx => wpList_post (fun a3 w3 h3 => ⟨h3.1, plan_mixG t a3 w3 hB.2 h3.2⟩) _ _ _ (h w1 hx)
def planG (l : List Oper) (t : List Seg) : Bool :=
  let U := planOf t
  Region.noSelect l.toArray && t.all (segG l) && decide (U.length = l.length) && ((List.range l.length).all fun j => U.any fun x => x.1 == j) &&
    (U.all fun x => oneB1 l.toArray x) && pairB (relB l.toArray ((U.map (·.1)).foldl (closeStep l.toArray) [])) U
theorem region_mixG {id : Nat} {a : Act} {w : World} (t : List Seg) (hm : P.follows .mixedOrders = true) (hB : planG l t = true)
    (h : wpPlan P l Q t a w) : (Code.region id l.toArray true).wp P Q a w := by
  simp only [planG, Bool.and_eq_true, decide_eq_true_eq] at hB
  obtain ⟨⟨⟨⟨⟨h1, h2⟩, h4⟩, h5⟩, h6⟩, h7⟩ := hB
  refine wp_region_any hm ?_
  refine mix_any (n := l.toArray.size) h1 _ (planOf t) _ a w (by simpa using h4) (by simp) ?_ ?_ (pairB_ok h7) (fun x hx => List.all_eq_true.1 h6 x hx) (plan_mixG t a w h2 h) _ (Ext.drew (Ext.refl w))
  · intro j hj
    rw [getD_replicate_false] at hj; cases hj
  · intro j hj
    rw [getD_replicate_false]
    simp only [true_iff]
    have := List.all_eq_true.1 h5 j (List.mem_range.2 (by simpa using hj))
    obtain ⟨x, hx, hx2⟩ := List.any_eq_true.1 this
    exact ⟨x.2, by rw [beq_iff_eq] at hx2; rw [← hx2]; exact hx⟩
end
end Go.Proofs.Ytfaekfdngkpkdaa
/- Regions with several loud operations, of which some write blocks that the quiet ones do not look at: the quiet ones hold in all worlds of a relation. -/
namespace Go.Proofs.Ytfaekfdngkpkdaa
open Go.RowKit
section
variable {P : Program} {ops : Array Oper} {Q : Exit → Act → World → Prop} {Rw : World → World → Prop}
/-- The mixed walk. -/
def wpMixR (Rw : World → World → Prop) (P : Program) (ops : Array Oper) (Q : Exit → Act → World → Prop) : List (Nat × Nat) → Act → World → Prop
  | [], a, w => ∀ w1, Ext w w1 → Q .normal a w1
  | (i, k) :: U, a, w => ∃ o, ops[i]? = some o ∧
    (Region.wanted o (yielded ops a.tmps) = true →
      (2 ≤ k → ∀ w1, Ext w w1 → o.wp P a w1 (fun a' w' => (k = 3 → Rw w w') ∧ wpMixR Rw P ops Q U a' w') (fun _ _ _ => False)) ∧
      (k < 2 → ∃ v, (∀ w', (k = 0 ∨ Rw w w') → (execOp a.eval o).run P w' = .ok (.value v) w') ∧ wpMixR Rw P ops Q U (a.put o.dst v) w)) ∧
    (Region.wanted o (yielded ops a.tmps) = false → wpMixR Rw P ops Q U (a.put o.dst undef) w)

theorem mix_congR {x : Nat × Nat} {L L' : List (Nat × Nat)} (h : ∀ a w, wpMixR Rw P ops Q L a w → wpMixR Rw P ops Q L' a w) (a : Act) (w : World) (hm : wpMixR Rw P ops Q (x :: L) a w) : wpMixR Rw P ops Q (x :: L') a w := by
  obtain ⟨i, k⟩ := x
  obtain ⟨o, ho, h1, h2⟩ := hm
  refine ⟨o, ho, fun hw => ⟨fun hk w1 hx => upon_mono (fun a w hh => ⟨hh.1, h a w hh.2⟩) (fun _ _ _ hf => hf) ((h1 hw).1 hk w1 hx), fun hk => ?_⟩, fun hw => h _ _ (h2 hw)⟩
  obtain ⟨v, a1, a3⟩ := (h1 hw).2 hk
  exact ⟨v, a1, h _ _ a3⟩

variable (Rr : ∀ {a b}, Ext a b → Rw a b) (Rt : ∀ {a b c}, Rw a b → Rw b c → Rw a c)
include Rr Rt
/-- Two that stand side by side and do not look at each other, the first one not loud, and blind if the second one is loud. -/
theorem mix_swapR {q kq i k : Nat} {R : List (Nat × Nat)} {oq oi : Oper} (hsel : Region.noSelect ops = true) (hq : ops[q]? = some oq) (hi : ops[i]? = some oi) (hap : oq.apart ops oi = true) (hkq : kq < 2) (hk : k = 2 → kq = 0) (hk3 : k ≤ 3)
    (a : Act) (w : World) (hm : wpMixR Rw P ops Q ((q, kq) :: (i, k) :: R) a w) : wpMixR Rw P ops Q ((i, k) :: (q, kq) :: R) a w := by
  obtain ⟨p1, p2, p3⟩ := Oper.apart_spec hap
  have si := fun cs b => Region.noSelect_spec hsel i oi cs b hi
  have sq := fun cs b => Region.noSelect_spec hsel q oq cs b hq
  have wi : ∀ (a : Act) v, Region.wanted oi (yielded ops (a.put oq.dst v).tmps) = Region.wanted oi (yielded ops a.tmps) := fun a v => wanted_put oi a oq.dst v p1
  have wq : ∀ (a : Act) v, Region.wanted oq (yielded ops (a.put oi.dst v).tmps) = Region.wanted oq (yielded ops a.tmps) := fun a v => wanted_put oq a oi.dst v p3
  have ei : ∀ (a : Act) v, execOp (a.put oq.dst v).eval oi = execOp a.eval oi := fun a v => execOp_put oi si a oq.dst v p1
  have eq : ∀ (a : Act) v, execOp (a.put oi.dst v).eval oq = execOp a.eval oq := fun a v => execOp_put oq sq a oi.dst v p3
  have pc : ∀ (a : Act) v u, (a.put oq.dst v).put oi.dst u = (a.put oi.dst u).put oq.dst v := fun a v u => Act.put_comm a v u p2
  obtain ⟨oq', hq', h1, h2⟩ := hm
  obtain rfl : oq' = oq := Option.some.inj (hq'.symm.trans hq)
  -- what the first one leaves, and that it leaves it from any frame that has the second one's value too
  have key : ∃ vq, wpMixR Rw P ops Q ((i, k) :: R) (a.put oq'.dst vq) w ∧ ∀ (u : Value) (D : List Deferred) (w' : World), (kq = 0 ∨ Rw w w') →
      wpMixR Rw P ops Q R ({ (a.put oi.dst u).put oq'.dst vq with defers := D }) w' → wpMixR Rw P ops Q ((q, kq) :: R) ({ a.put oi.dst u with defers := D }) w' := by
    cases hw : Region.wanted oq' (yielded ops a.tmps) with
    | true =>
      obtain ⟨vq, b0, hmix⟩ := (h1 hw).2 hkq
      refine ⟨vq, hmix, fun u D w' hw' hR => ⟨oq', hq, fun _ => ⟨fun h => absurd h (by omega), fun _ => ⟨vq, fun w2 h0 => ?_, ?_⟩⟩, fun hf => ?_⟩⟩
      · have := b0 w2 (by
          rcases h0 with h0 | h0
          · exact .inl h0
          · rcases hw' with h1 | h1
            · exact .inl h1
            · exact .inr (Rt h1 h0))
        rw [← eq a u] at this
        exact this
      · rw [put_defers]; exact hR
      · exfalso
        have : Region.wanted oq' (yielded ops (a.put oi.dst u).tmps) = false := hf
        rw [wq, hw] at this; cases this
    | false =>
      refine ⟨undef, h2 hw, fun u D w' _ hR => ⟨oq', hq, fun ht => ?_, fun _ => ?_⟩⟩
      · exfalso
        have : Region.wanted oq' (yielded ops (a.put oi.dst u).tmps) = true := ht
        rw [wq, hw] at this; cases this
      · rw [put_defers]; exact hR
  obtain ⟨vq, hmix, hback⟩ := key
  obtain ⟨oi', hi', g1, g2⟩ := hmix
  obtain rfl : oi' = oi := Option.some.inj (hi'.symm.trans hi)
  refine ⟨oi', hi, fun hw => ⟨fun h2 w1 hx => ?_, fun h2 => ?_⟩, fun hw => ?_⟩
  · -- loud
    have hl := (g1 (by rw [wi]; exact hw)).1 h2 w1 hx
    unfold Oper.wp at hl ⊢
    rw [ei] at hl
    generalize (execOp a.eval oi').run P w1 = r at hl ⊢
    have bk : ∀ (u : Value) (D : List Deferred) (w' : World), ((k = 3 → Rw w w') ∧ wpMixR Rw P ops Q R ({ (a.put oq'.dst vq).put oi'.dst u with defers := D }) w') →
        (k = 3 → Rw w w') ∧ wpMixR Rw P ops Q ((q, kq) :: R) ({ a.put oi'.dst u with defers := D }) w' := fun u D w' hR => by
      refine ⟨hR.1, ?_⟩
      have hR := hR.2
      rw [pc] at hR
      refine hback u D w' ?_ hR
      by_cases h3 : k = 3
      · exact .inr (‹(k = 3 → Rw w w') ∧ _›.1 h3)
      · exact .inl (hk (by omega))
    cases r with
    | ok nx w2 =>
      cases nx with
      | value v => exact bk v (a.put oi'.dst v).defers w2 (by have : (a.put oi'.dst v).defers = ((a.put oq'.dst vq).put oi'.dst v).defers := (by cases oi'.dst <;> cases oq'.dst <;> rfl); rw [this]; exact hl)
      | skip => exact bk undef (a.put oi'.dst undef).defers w2 (by have : (a.put oi'.dst undef).defers = ((a.put oq'.dst vq).put oi'.dst undef).defers := (by cases oi'.dst <;> cases oq'.dst <;> rfl); rw [this]; exact hl)
      | defer d =>
        have hl' : (k = 3 → Rw w w2) ∧ wpMixR Rw P ops Q R (({ a.put oq'.dst vq with defers := d :: (a.put oq'.dst vq).defers } : Act).put oi'.dst undef) w2 := hl
        rw [put_defers] at hl'
        have hd : (a.put oq'.dst vq).defers = a.defers := by cases oq'.dst <;> rfl
        rw [hd] at hl'
        show (k = 3 → Rw w w2) ∧ wpMixR Rw P ops Q ((q, kq) :: R) (({ a with defers := d :: a.defers } : Act).put oi'.dst undef) w2
        rw [put_defers]
        exact bk undef (d :: a.defers) w2 hl'
      | enter f args =>
        exact Calls.mono hl fun e w3 h3 => by
          cases e with
          | returned v => exact bk v (a.put oi'.dst v).defers w3 (by have : (a.put oi'.dst v).defers = ((a.put oq'.dst vq).put oi'.dst v).defers := (by cases oi'.dst <;> cases oq'.dst <;> rfl); rw [this]; exact h3)
          | panicked c => exact h3
          | outgrown => exact h3
      | row rw args => exact Rows.mono hl fun v w3 h3 => bk v (a.put oi'.dst v).defers w3 (by have : (a.put oi'.dst v).defers = ((a.put oq'.dst vq).put oi'.dst v).defers := (by cases oi'.dst <;> cases oq'.dst <;> rfl); rw [this]; exact h3)
      | _ => exact hl
    | halt x w2 =>
      cases x with
      | panic v => exact hl
      | _ => exact hl
  · obtain ⟨v, c0, hR⟩ := (g1 (by rw [wi]; exact hw)).2 h2
    refine ⟨v, fun w' h0 => ?_, ?_⟩
    · have := c0 w' h0; rwa [ei] at this
    · rw [pc] at hR
      exact hback v (a.put oi'.dst v).defers w (.inr (Rr (Ext.refl w))) (by
        have : (a.put oi'.dst v).defers = ((a.put oi'.dst v).put oq'.dst vq).defers := (by cases oi'.dst <;> cases oq'.dst <;> rfl)
        rw [this]; exact hR)
  · have hR := g2 (by rw [wi]; exact hw)
    rw [pc] at hR
    exact hback undef (a.put oi'.dst undef).defers w (.inr (Rr (Ext.refl w))) (by
      have : (a.put oi'.dst undef).defers = ((a.put oi'.dst undef).put oq'.dst vq).defers := (by cases oi'.dst <;> cases oq'.dst <;> rfl)
      rw [this]; exact hR)

theorem mix_pullR (hsel : Region.noSelect ops = true) {i k : Nat} {oi : Oper} (hk3 : k ≤ 3) (hi : ops[i]? = some oi) {post : List (Nat × Nat)} : ∀ (pre : List (Nat × Nat)),
    (∀ q ∈ pre, q.2 < 2 ∧ (k = 2 → q.2 = 0) ∧ ∃ oq, ops[q.1]? = some oq ∧ oq.apart ops oi = true) → ∀ a w, wpMixR Rw P ops Q (pre ++ (i, k) :: post) a w → wpMixR Rw P ops Q ((i, k) :: (pre ++ post)) a w
  | [], _, _, _, h => h
  | (q, kq) :: pre, hp, a, w, h => by
    obtain ⟨h1, h2, oq, h3, h4⟩ := hp (q, kq) (List.mem_cons_self ..)
    exact mix_swapR Rr Rt hsel h3 hi h4 h1 h2 hk3 a w (mix_congR (mix_pullR hsel hk3 hi pre (fun x hx => hp x (List.mem_cons_of_mem _ hx))) a w h)

theorem mix_anyR (hsel : Region.noSelect ops = true) (ord : List Nat) : ∀ (n : Nat) (U : List (Nat × Nat)) (seen : Array Bool) (a : Act) (w : World), U.length = n → seen.size = ops.size → Shut ops seen →
    (∀ j, j < ops.size → (seen.getD j false = false ↔ ∃ k, (j, k) ∈ U)) → U.Pairwise (fun x y => relB ops (ord.foldl (closeStep ops) []) x y = true) → (∀ x ∈ U, oneB1 ops x = true) →
    wpMixR Rw P ops Q U a w → ∀ w1, Ext w w1 → wpAny P .any ops Q n seen a w1 := by
  intro n
  induction n with
  | zero =>
    intro U seen a w hU hsz _ hin _ _ hm w1 hx
    obtain rfl : U = [] := List.length_eq_zero_iff.1 hU
    refine ⟨?_, hm w1 hx⟩
    apply List.eq_nil_iff_forall_not_mem.2
    intro j hj
    obtain ⟨h0, o, ho, _⟩ := mem_ready.1 hj
    obtain ⟨k, hk⟩ := (hin j (Array.getElem?_eq_some_iff.1 ho).1).1 (getD_both h0)
    cases hk
  | succ n ih =>
    intro U seen a w hU hsz hshut hin hpw hone hm w1 hx
    have listed : ∀ j, j < ops.size → (¬ ∃ k, (j, k) ∈ U) → seen.getD j false = true := fun j hj hn => by
      cases h : seen.getD j false with
      | true => rfl
      | false => exact absurd ((hin j hj).1 h) hn
    constructor
    · intro h0
      exfalso
      match U, hU, hm with
      | (i, k) :: U', _, hm =>
        obtain ⟨o, ho, _⟩ := hm
        have hil : i < ops.size := (Array.getElem?_eq_some_iff.1 ho).1
        have : i ∈ Region.ready .any ops seen := mem_ready.2 ⟨getD_in (by omega) ((hin i hil).2 ⟨k, List.mem_cons_self ..⟩), o, ho, fun e he hb => by
          have h1 := hone (i, k) (List.mem_cons_self ..)
          simp only [oneB1, List.all_eq_true, Bool.and_eq_true, decide_eq_true_eq, bne_iff_ne] at h1
          replace h1 := h1.1
          have hd : e.on ∈ depsOf ops i := (mem_depsOf ho).2 ⟨e, he, hb, rfl⟩
          refine listed e.on (h1 _ hd).1 fun ⟨k', hk'⟩ => ?_
          rcases List.mem_cons.1 hk' with hk' | hk'
          · exact (h1 _ hd).2 (Prod.mk.inj hk').1
          · have := (List.pairwise_cons.1 hpw).1 _ hk'
            simp only [relB, Bool.and_eq_true, Bool.not_eq_true'] at this
            have h2 := this.1.1.1.2
            rw [List.contains_eq_mem] at h2
            simp [hd] at h2⟩
        rw [h0] at this; cases this
    · intro i hi
      obtain ⟨hun, oi, hoi, hall⟩ := mem_ready.1 hi
      have hil : i < ops.size := (Array.getElem?_eq_some_iff.1 hoi).1
      obtain ⟨k, hk⟩ := (hin i hil).1 (getD_both hun)
      obtain ⟨pre, post, rfl⟩ := List.append_of_mem hk
      have hdeps : ∀ d ∈ depsOf ops i, seen.getD d false = true := fun d hd => by
        obtain ⟨e, he, hb, rfl⟩ := (mem_depsOf hoi).1 hd
        exact hall e he hb
      have hpre : ∀ q ∈ pre, q.2 < 2 ∧ (k = 2 → q.2 = 0) ∧ ∃ oq, ops[q.1]? = some oq ∧ oq.apart ops oi = true := fun q hq => by
        have hrel := (List.pairwise_append.1 hpw).2.2 q hq (i, k) (List.mem_cons_self ..)
        simp only [relB, Bool.and_eq_true, Bool.or_eq_true, Bool.not_eq_true', bne_iff_ne, ne_eq, beq_iff_eq, decide_eq_true_eq] at hrel
        obtain ⟨⟨⟨⟨r1, r2⟩, r3⟩, r4⟩, _⟩ := hrel
        have hqun : seen.getD q.1 false = false := by
          cases h : ops[q.1]? with
          | none =>
            rw [h] at r1
            rcases r1 with r1 | r1
            · have : q.1 ∈ depsOf ops i := by simpa using r1
              have h1 := hone (i, k) (by simp)
              simp only [oneB1, List.all_eq_true, Bool.and_eq_true, decide_eq_true_eq] at h1
              replace h1 := h1.1
              have := (h1 _ this).1
              exact (hin q.1 this).2 ⟨q.2, by simp [hq]⟩
            · cases r1
          | some oq => exact (hin q.1 (Array.getElem?_eq_some_iff.1 h).1).2 ⟨q.2, by simp [hq]⟩
        have hnd : q.1 ∉ depsOf ops i := fun hd => by rw [hdeps _ hd] at hqun; cases hqun
        have hnw : ¬ waitsB (ord.foldl (closeStep ops) []) i q.1 = true := fun hw => by
          rw [waitsB_ok hw seen hshut hdeps] at hqun; cases hqun
        refine ⟨?_, fun h2 => ?_, ?_⟩
        · rcases r3 with r3 | r3
          · exact r3
          · exact absurd r3 hnw
        · rcases r4 with (r4 | r4) | r4
          · exact absurd h2 r4
          · exact r4
          · exact absurd r4 hnw
        · rcases r1 with r1 | r1
          · exact absurd (by simpa using r1) hnd
          · cases h : ops[q.1]? with
            | none => rw [h] at r1; cases r1
            | some oq => rw [h, hoi] at r1; exact ⟨oq, rfl, r1⟩
      have hk3 : k ≤ 3 := by
        have h1 := hone (i, k) hk
        simp only [oneB1, Bool.and_eq_true, decide_eq_true_eq] at h1
        exact h1.2
      have hpull := mix_pullR Rr Rt hsel hk3 hoi pre hpre a w hm
      obtain ⟨o', ho', b1, b2⟩ := hpull
      obtain rfl : o' = oi := Option.some.inj (ho'.symm.trans hoi)
      have hsub : (pre ++ post).Sublist (pre ++ (i, k) :: post) := List.Sublist.append_left (List.sublist_cons_self _ _) _
      have cont : ∀ a' w', wpMixR Rw P ops Q (pre ++ post) a' w' → ∀ w2, Ext w' w2 → wpAny P .any ops Q n (seen.setIfInBounds i true) a' w2 := fun a' w' h' w2 hx2 => by
        refine ih (pre ++ post) _ a' w' (by simp at hU ⊢; omega) (by simp [hsz]) (fun j hj d hd => ?_) (fun j hj => ?_) (hpw.sublist hsub) (fun x hx => hone x (hsub.subset hx)) h' w2 hx2
        · by_cases hij : i = j
          · subst hij; exact getD_set_true (hdeps d hd)
          · rw [getD_set_ne false hij] at hj
            exact getD_set_true (hshut j hj d hd)
        · by_cases hij : i = j
          · subst hij
            constructor
            · intro hf
              exfalso
              have : (seen.setIfInBounds i true).getD i false = true := by simp [show i < seen.size by omega]
              rw [this] at hf; cases hf
            · rintro ⟨k', hk'⟩
              exfalso
              have hp2 := List.pairwise_append.1 hpw
              rcases List.mem_append.1 hk' with hk' | hk'
              · have := hp2.2.2 _ hk' (i, k) (List.mem_cons_self ..)
                simp [relB] at this
              · have := (List.pairwise_cons.1 hp2.2.1).1 _ hk'
                simp [relB] at this
          · rw [getD_set_ne false hij, hin j hj]
            constructor
            · rintro ⟨k', hk'⟩
              refine ⟨k', ?_⟩
              rcases List.mem_append.1 hk' with hk' | hk'
              · exact List.mem_append.2 (.inl hk')
              · rcases List.mem_cons.1 hk' with hk' | hk'
                · exact absurd (Prod.mk.inj hk').1.symm hij
                · exact List.mem_append.2 (.inr hk')
            · rintro ⟨k', hk'⟩; exact ⟨k', hsub.subset hk'⟩
      unfold wpOp
      simp only [hoi]
      cases hw : Region.wanted o' (yielded ops a.tmps) with
      | false =>
        simp only [Bool.false_eq_true, if_false]
        exact cont _ _ (b2 hw) w1 hx
      | true =>
        simp only [if_true]
        refine .inl ?_
        by_cases h2 : 2 ≤ k
        · exact upon_mono (fun a' w' h' => cont a' w' h'.2 w' (Ext.refl _)) (fun _ _ _ hf => hf.elim) ((b1 hw).1 h2 w1 hx)
        · obtain ⟨v, c0, hR⟩ := (b1 hw).2 (by omega)
          unfold Oper.wp
          rw [c0 w1 (.inr (Rr hx))]
          exact cont _ _ hR w1 hx
end
def wpPlanR (Rw : World → World → Prop) (P : Program) (l : List Oper) (Q : Exit → Act → World → Prop) : List Seg → Act → World → Prop
  | [], a, w => ∀ w1, Ext w w1 → Q .normal a w1
  | .b is :: t, a, w => wpQuiet P l.toArray (fun _ => True) (fun a1 => wpPlanR Rw P l Q t a1 w) (pickL l is) a
  | .q is :: t, a, w => wpQuiet P l.toArray (fun w' => Rw w w') (fun a1 => wpPlanR Rw P l Q t a1 w) (pickL l is) a
  | .l i k :: t, a, w => ∀ w1, Ext w w1 → wpList P l.toArray (Exit.then (fun a3 w3 => (k = 3 → Rw w w3) ∧ wpPlanR Rw P l Q t a3 w3) (fun _ _ _ => False)) (pickL l [i]) a w1

section
variable {P : Program} {l : List Oper} {Q : Exit → Act → World → Prop} {Rw : World → World → Prop} (Rr : ∀ {a b}, Ext a b → Rw a b) (Rt : ∀ {a b c}, Rw a b → Rw b c → Rw a c)
include Rr Rt
omit Rr Rt in
theorem mix_calmR {U : List (Nat × Nat)} (k : Nat) (hk : k < 2) {w : World} {C : World → Prop} (hC : ∀ w', (k = 0 ∨ Rw w w') → C w') : ∀ (is : List Nat) (a : Act), calmB l is = true →
    wpQuiet P l.toArray C (fun a' => wpMixR Rw P l.toArray Q U a' w) (pickL l is) a → wpMixR Rw P l.toArray Q (is.map (·, k) ++ U) a w
  | [], a, _, h => h
  | i :: is, a, hB, h => by
    simp only [calmB, List.all_cons, Bool.and_eq_true, decide_eq_true_eq] at hB
    refine ⟨_, getD_some hB.1.1, fun hw => ⟨fun h2 => absurd h2 (by omega), fun _ => ?_⟩, fun hw => ?_⟩
    · simp only [pickL, List.map_cons, wpQuiet] at h
      rw [if_pos hw] at h
      obtain ⟨v, h1, h2⟩ := h
      exact ⟨v, fun w' h0 => calm_run hB.1.2 (h1 w' (hC w' h0)), mix_calmR k hk hC is _ hB.2 h2⟩
    · simp only [pickL, List.map_cons, wpQuiet] at h
      rw [if_neg (by rw [hw]; simp)] at h
      exact mix_calmR k hk hC is _ hB.2 h

omit Rr Rt in
theorem mix_loudGR {U : List (Nat × Nat)} {i k : Nat} {a : Act} {w : World} (hi : i < l.length) (hk : 2 ≤ k)
    (h : ∀ w1, Ext w w1 → wpList P l.toArray (Exit.then (fun a3 w3 => (k = 3 → Rw w w3) ∧ wpMixR Rw P l.toArray Q U a3 w3) (fun _ _ _ => False)) (pickL l [i]) a w1) : wpMixR Rw P l.toArray Q ((i, k) :: U) a w := by
  refine ⟨_, getD_some hi, fun hw => ⟨fun _ w1 hx => ?_, fun h2 => absurd h2 (by omega)⟩, fun hw => ?_⟩
  · have := h w1 hx
    simp only [pickL, List.map_cons, List.map_nil, wpList] at this
    rw [if_pos hw] at this
    rcases this with this | ⟨_, _, _, hf⟩
    · exact upon_mono (fun _ _ h' => h') (fun e _ _ h' => by cases e <;> first | exact h' | exact h'.elim) (upon_normal this)
    · exact hf.elim
  · have := h w (Ext.refl w)
    simp only [pickL, List.map_cons, List.map_nil, wpList] at this
    rw [if_neg (by rw [hw]; simp)] at this
    exact this.2
omit Rr Rt in
theorem plan_mixGR : ∀ (t : List Seg) (a : Act) (w : World), t.all (segG l) = true → wpPlanR Rw P l Q t a w → wpMixR Rw P l.toArray Q (planOf t) a w
  | [], a, w, _, h => h
  | .b is :: t, a, w, hB, h => by
    simp only [List.all_cons, segG, Bool.and_eq_true] at hB
    exact mix_calmR 0 (by omega) (C := fun _ => True) (fun _ _ => trivial) is a hB.1 (wpQuiet_post (fun a1 h1 => plan_mixGR t a1 w hB.2 h1) _ _ h)
  | .q is :: t, a, w, hB, h => by
    simp only [List.all_cons, segG, Bool.and_eq_true] at hB
    exact mix_calmR 1 (by omega) (C := fun w' => Rw w w') (fun w' h => h.resolve_left (by omega)) is a hB.1 (wpQuiet_post (fun a1 h1 => plan_mixGR t a1 w hB.2 h1) _ _ h)
  | .l i k :: t, a, w, hB, h => by
    simp only [List.all_cons, segG, Bool.and_eq_true, decide_eq_true_eq] at hB
    exact mix_loudGR hB.1.1 hB.1.2 fun w1 hx => wpList_post (fun a3 w3 h3 => ⟨h3.1, plan_mixGR t a3 w3 hB.2 h3.2⟩) _ _ _ (h w1 hx)
theorem region_mixGR {id : Nat} {a : Act} {w : World} (t : List Seg) (hm : P.follows .mixedOrders = true) (hB : planG l t = true)
    (h : wpPlanR Rw P l Q t a w) : (Code.region id l.toArray true).wp P Q a w := by
  simp only [planG, Bool.and_eq_true, decide_eq_true_eq] at hB
  obtain ⟨⟨⟨⟨⟨h1, h2⟩, h4⟩, h5⟩, h6⟩, h7⟩ := hB
  refine wp_region_any hm ?_
  refine mix_anyR Rr Rt (n := l.toArray.size) h1 _ (planOf t) _ a w (by simpa using h4) (by simp) ?_ ?_ (pairB_ok h7) (fun x hx => List.all_eq_true.1 h6 x hx) (plan_mixGR t a w h2 h) _ (Ext.drew (Ext.refl w))
  · intro j hj
    rw [getD_replicate_false] at hj; cases hj
  · intro j hj
    rw [getD_replicate_false]
    simp only [true_iff]
    have := List.all_eq_true.1 h5 j (List.mem_range.2 (by simpa using hj))
    obtain ⟨x, hx, hx2⟩ := List.any_eq_true.1 this
    exact ⟨x.2, by rw [beq_iff_eq] at hx2; rw [← hx2]; exact hx⟩
end
end Go.Proofs.Ytfaekfdngkpkdaa
/- Regions of which a loud operation writes a list of blocks that the quiet ones do not look at. -/
namespace Go.Proofs.Ytfaekfdngkpkdaa
open Go.RowKit
/-- d, if of w's blocks at most those of F have changed; else w. -/
noncomputable def wk (F : List Nat) (w d : World) : World := open Classical in if Keeps F w d then d else w
theorem wk_keeps (F : List Nat) (w d : World) : Keeps F w (wk F w d) := by
  unfold wk; split
  · assumption
  · exact Keeps.refl F w
theorem wk_of {F : List Nat} {w d : World} (h : Keeps F w d) : d = wk F w d := by unfold wk; rw [if_pos h]
theorem wk_cell {F : List Nat} {w : World} {b o : Nat} {v : Value} (hb : b < w.heap.size) (hn : b ∉ F) (h : w.cell? ⟨b, o, none⟩ = some v) : ∀ d, (wk F w d).cell? ⟨b, o, none⟩ = some v := fun d => by
  rw [cell_heap, (wk_keeps F w d).block b hb hn, ← cell_heap]; exact h
theorem quiet_wk {P : Program} {ops : Array Oper} {F : List Nat} {w : World} {Q : Act → Prop} {l : List Oper} {a : Act} (h : wpQuiet P ops (fun w' => ∃ d, w' = wk F w d) Q l a) : wpQuiet P ops (fun w' => Keeps F w w') Q l a := by
  have : (fun w' => Keeps F w w') = fun w' => ∃ d, w' = wk F w d := by
    funext w'
    exact propext ⟨fun h => ⟨w', wk_of h⟩, fun ⟨d, h⟩ => h ▸ wk_keeps F w d⟩
  rw [this]; exact h
end Go.Proofs.Ytfaekfdngkpkdaa
