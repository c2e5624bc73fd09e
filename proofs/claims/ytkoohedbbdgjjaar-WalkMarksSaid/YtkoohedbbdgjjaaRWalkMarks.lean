/- WalkMarks: marked, the slots of a path have A, the last one, if it is found, and dirty, D; no other slot, and no other bit, is changed; marked twice is as once: for all words and addresses. -/
import Derived.Test.YtkoohedbbdgjjaaRLaw8A
import Derived.Test.YtkoohedbbdgjjaaRMark
import Derived.Test.YtkoohedbbdgjjaaRMarkB
import Derived.Test.YtkoohedbbdgjjaaRRt
import Derived.Test.YtkoohedbbdgjjaaRWalkE
namespace Go.Proofs.YtkoohedbbdgjjaaR
set_option linter.unusedVariables false
set_option linter.unusedSimpArgs false
open Go.RowKit
attribute [local go_sem] wext_cell wext_frozen wext_heap alloc_cell alloc_frozen alloc_heap setCell_cell objCell_cells objFrozen_cells

theorem steps_sepM {P : Nat → Prop} {U : World} {sa : Option Addr} {sc : Nat} {L : List Stp} (h : Owns U 41 3 (.slice sa L.length sc) L.length (rowS L)) : ∀ V, SepP P U V → StepsAt V sa L := fun V k =>
  StepsAt.of (sc := sc) (h.keep fun g hg => by
    obtain ⟨c, hc⟩ := h.heap g hg
    rw [hc]; exact k.2 _ _ _ hc (by decide) (by decide) (by decide))
theorem marks_own {M : Int → Int} {df : Bool} {L : List Stp} (hok : ∀ s ∈ L, s.2.1 % 8 = 0) {a : Int} (h8 : a % 8 = 0) (h : M (a / 8) ≠ markL 16 df L M (a / 8)) : L.any (fun s => s.2.1 == a) = true := by
  rw [List.any_eq_true]
  by_cases hx : ∃ s ∈ L, a / 8 = s.2.1 / 8
  · obtain ⟨s, hs, e⟩ := hx
    have := hok s hs
    exact ⟨s, hs, by rw [beq_iff_eq]; omega⟩
  · exact absurd (markL_other L M (a / 8) fun s hs e => hx ⟨s, hs, e⟩).symm h
theorem any_take (L : List Stp) (a : Int) (j : Nat) (h : j < L.length) : (L.take (j + 1)).any (fun s => s.2.1 == a) = ((L.take j).any (fun s => s.2.1 == a) || (stpAt L j).2.1 == a) := by
  have e : L.take (j + 1) = L.take j ++ [stpAt L j] := by rw [List.take_add_one, List.getElem?_eq_getElem h]; simp [stpAt, List.getD, h]
  rw [e, List.any_append]; simp

set_option maxHeartbeats 4000000 in
set_option maxRecDepth 100000 in
theorem walkMarks_c (v : Value) (ds : List PutD) (n : Int) (dirty : Bool) (w : World) (h : ListAt w v 4 PutD.cells PutD.ok ds) (hn0 : 0 ≤ n) (hn1 : n ≤ 4294967295) :
    Calls Try.prog 8 #[v, .int .u32 n, .bool dirty] w fun e w' => e = .returned (.bool true) ∧ Ext w w' := by
  have HL := Lib.hid h
  obtain ⟨a, cap, rfl, -, -, -, -⟩ := h
  have t2 : ∀ w, Calls Try.prog 22 #[.int .u64 0] w fun e w' => e = .returned (.agg #[.int .i64 4, .int .u64 0, .bool true, .bool true, .bool true]) ∧ Ext w w' := fun w => wTop_c 0 w (by omega) (by omega)
  have HT := Lib.hid t2
  have HNr := Lib.hid (fun w => near_c n w hn0 hn1)
  have ⟨na0, na1⟩ := nearI_le hn0
  generalize nearI n = na at *
  clear t2
  go_enter Try.func8, Try.ntmps8
  go_upto_region 5 with (first | (go_at_call 18; refine (awake08_c _).mono ?_; rintro e w0 ⟨rfl, hb0⟩) | (go_at_call 19; refine (built_m _ ds _ (HL.out.ext (by repeat (first | exact Ext.refl _ | assumption | refine Ext.alloc ?_ _ | refine Ext.drew ?_ | refine Ext.setCell ?_ (by first | (simp; done) | (dsimp only; omega)) _ | refine Ext.trans ?_ (by assumption))))).mono ?_; rintro e w1 ⟨mb, rfl, hM, hE⟩))
  have hM1 : MemP (w.heap.size ≤ ·) w1 mb 16 (builtM (ds.take 100)) [] := hM.mono (base' := w.heap.size) (Ext.size (Ext.trans (by repeat (first | exact Ext.refl _ | assumption | refine Ext.alloc ?_ _ | refine Ext.drew ?_ | refine Ext.setCell ?_ (by first | (simp; done) | (dsimp only; omega)) _ | refine Ext.trans ?_ (by assumption))) hb0))
  obtain ⟨F, hF, hMF⟩ := hM1.two
  have FF := Lib.hid hF
  have M1 := Lib.hid hMF
  have E1 : Hid (Ext w w1) := Lib.hid (hb0.trans hE)
  have hwide := hM1.wide
  generalize builtM (ds.take 100) = M0 at M1 hwide
  have HW := Lib.hid hwide
  clear hM hE hb0 hF hMF hM1
  go_upto_region 6 with (first | (go_at_call 39; refine (copy_p _ mb 16 M0 [] _ (M1.out.ext (by repeat (first | exact Ext.refl _ | assumption | refine Ext.alloc ?_ _ | refine Ext.drew ?_ | refine Ext.setCell ?_ (by first | (simp; done) | (dsimp only; omega)) _ | refine Ext.trans ?_ (by assumption))))).mono ?_; rintro e w2 ⟨cb, rfl, hC, hE⟩))
  have hC' : MemP (w1.heap.size ≤ ·) w2 cb 16 M0 [] := hC.mono fun x hx => Nat.le_trans (Ext.size (by repeat (first | exact Ext.refl _ | assumption | refine Ext.alloc ?_ _ | refine Ext.drew ?_ | refine Ext.setCell ?_ (by first | (simp; done) | (dsimp only; omega)) _ | refine Ext.trans ?_ (by assumption)))) hx
  obtain ⟨G, hG, hCG⟩ := hC'.two
  have GG := Lib.hid hG
  have C2 := Lib.hid hCG
  have E2 : Hid (Ext w1 w2) := Lib.hid (Ext.trans (by repeat (first | exact Ext.refl _ | assumption | refine Ext.alloc ?_ _ | refine Ext.drew ?_ | refine Ext.setCell ?_ (by first | (simp; done) | (dsimp only; omega)) _ | refine Ext.trans ?_ (by assumption))) hE)
  clear hC hE hC' hG hCG
  go_upto_region 7 with (first | (go_at_call 20; refine (HNr.out _).mono ?_; rintro e w3 ⟨rfl, hb3⟩) | (go_at_call 22; refine (HT.out _).mono ?_; rintro e w4 ⟨rfl, hb4⟩) | (go_at_call 21; refine (from_p (fun x => x ∈ F ∨ w2.heap.size ≤ x) mb 16 M0 [] 4 0 allRt na true _ ((M1.out.ext (E2.out.trans (Ext.trans (Ext.trans (by repeat (first | exact Ext.refl _ | assumption | refine Ext.alloc ?_ _ | refine Ext.drew ?_ | refine Ext.setCell ?_ (by first | (simp; done) | (dsimp only; omega)) _ | refine Ext.trans ?_ (by assumption))) hb4) (Ext.trans (by repeat (first | exact Ext.refl _ | assumption | refine Ext.alloc ?_ _ | refine Ext.drew ?_ | refine Ext.setCell ?_ (by first | (simp; done) | (dsimp only; omega)) _ | refine Ext.trans ?_ (by assumption))) hb3)))).mono fun _ => Or.inl) (fun x hx => .inr (Nat.le_trans (Ext.size (Ext.trans (Ext.trans (by repeat (first | exact Ext.refl _ | assumption | refine Ext.alloc ?_ _ | refine Ext.drew ?_ | refine Ext.setCell ?_ (by first | (simp; done) | (dsimp only; omega)) _ | refine Ext.trans ?_ (by assumption))) hb4) (Ext.trans (by repeat (first | exact Ext.refl _ | assumption | refine Ext.alloc ?_ _ | refine Ext.drew ?_ | refine Ext.setCell ?_ (by first | (simp; done) | (dsimp only; omega)) _ | refine Ext.trans ?_ (by assumption))) hb3))) hx)) (by omega) (by omega) (by omega) (by omega) (by omega) (by simp)).mono ?_; rintro e w5 ⟨sa, sc, rfl, hS, hM5, hP5⟩))
  refine wp_gen ?_; intro U hU
  have hE4 : Ext w2 w3 := Ext.trans (Ext.trans (by repeat (first | exact Ext.refl _ | assumption | refine Ext.alloc ?_ _ | refine Ext.drew ?_ | refine Ext.setCell ?_ (by first | (simp; done) | (dsimp only; omega)) _ | refine Ext.trans ?_ (by assumption))) hb4) (Ext.trans (by repeat (first | exact Ext.refl _ | assumption | refine Ext.alloc ?_ _ | refine Ext.drew ?_ | refine Ext.setCell ?_ (by first | (simp; done) | (dsimp only; omega)) _ | refine Ext.trans ?_ (by assumption))) hb3)
  obtain ⟨q, hq⟩ : ∃ q, walkF M0 16 true na 4 0 allRt = q := ⟨_, rfl⟩
  have hok := walk_ok HW.out (nxe := true) (a := na) 4 0 allRt (by omega) (by omega) (by decide)
  rw [hq] at hS hM5 hok ⊢
  have hA : Ext w5 U := by rw [hU]; exact (Ext.refl _).alloc _
  have hPP : SepP (fun x => x ∈ F ∨ w2.heap.size ≤ x) w2 U := ((SepP.of_ext hE4).trans hP5).ext hA
  have hQ : PathAt U w5.heap.size sa sc q := by rw [hU]; rw [← hq] at hS ⊢; exact ⟨alloc_same .., hS.ext ((Ext.refl _).alloc _)⟩
  have hMU := hM5.ext hA
  obtain ⟨pb, hpb⟩ : ∃ pb, w5.heap.size = pb := ⟨_, rfl⟩
  rw [hpb] at hQ ⊢
  have hlo : ∀ i, i < q.1.length → q.1[i]? = some (stpAt q.1 i) := fun i hi => by simp [stpAt, List.getD, hi]
  have hL4 := hok.len
  have hst : ∀ s ∈ q.1, s.2.1 % 8 = 0 ∧ errM 16 s.2.1 = 0 ∧ 0 ≤ s.2.1 ∧ s.2.1 ≤ 65535 := fun s hs => by
    obtain ⟨i, hi, he⟩ := List.mem_iff_getElem.1 hs
    have := hok.low i s (by rw [List.getElem?_eq_getElem hi, he])
    exact ⟨this.2.2, err16 this.2.1 this.2.2, this.1, by omega⟩
  have hmem : ∀ i, i < q.1.length → stpAt q.1 i ∈ q.1 := fun i hi => List.mem_of_getElem? (hlo i hi)
  have hUp : ∀ X, SepP (fun x => x ∈ F ∨ w2.heap.size ≤ x) w2 X → Up (fun x => x ∈ F ∨ w2.heap.size ≤ x) X.heap.size := fun X hX x hx => .inr (Nat.le_trans hX.size hx)
  have HMk := Lib.hid (fun wx (k : Ext U wx) => mark_p (fun x => x ∈ F ∨ w2.heap.size ≤ x) mb 16 M0 ([] ++ q.1.map (·.2.1)) q.1 sa sc q.2.1 q.2.2.1 q.2.2.2.1 q.2.2.2.2 dirty wx (hMU.ext k) (hUp wx (hPP.ext k))
    ((StepsAt.of hQ.2).ext k) (fun Y hY => steps_sepM hQ.2 Y ((SepP.of_ext k).trans hY)) (by omega) (fun i hi => ⟨(hst _ (hmem i hi)).2.2.1, by have := (hst _ (hmem i hi)).2.2.2; omega⟩))
  obtain ⟨⟨k0, k1, k2, k3, k4, k5, k6⟩, hql⟩ := hQ.facts
  have QU := Lib.hid hQ
  have PU := Lib.hid hPP
  have HST := Lib.hid hst
  have HMEM := Lib.hid hmem
  have HLO := Lib.hid hlo
  clear hU hE4 hq hok hA hPP hQ hMU hpb hst hmem hlo hUp hS hM5 hP5 hb3 hb4
  go_upto_region 8 with (first | (go_at_call 31; refine (HMk.out _ (by repeat (first | exact Ext.refl _ | assumption | refine Ext.alloc ?_ _ | refine Ext.drew ?_ | refine Ext.setCell ?_ (by first | (simp; done) | (dsimp only; omega)) _ | refine Ext.trans ?_ (by assumption)))).mono ?_; rintro e w6 ⟨rfl, hM6, hP6⟩))
  clear k0 k1 k2 k3 k4 k5 k6 hql
  have hP6' : SepP (fun x => x ∈ F ∨ w2.heap.size ≤ x) U w6 := (SepP.of_ext (by repeat (first | exact Ext.refl _ | assumption | refine Ext.alloc ?_ _ | refine Ext.drew ?_ | refine Ext.setCell ?_ (by first | (simp; done) | (dsimp only; omega)) _ | refine Ext.trans ?_ (by assumption)))).trans hP6
  obtain ⟨df, hdf⟩ : ∃ df, (dirty && q.2.1 == 0) = df := ⟨_, rfl⟩
  rw [hdf] at hM6
  obtain ⟨N, hN⟩ : ∃ N, markL 16 df q.1 M0 = N := ⟨_, rfl⟩
  rw [hN] at hM6
  obtain ⟨F6, hF6, hMF6⟩ := hM6.two
  have HDF := Lib.hid hdf
  have HN := Lib.hid hN
  have FF6 := Lib.hid hF6
  have M6 := Lib.hid hMF6
  have P6 : Hid (SepP (fun x => x ∈ F ∨ w2.heap.size ≤ x) w2 w6) := Lib.hid (PU.out.trans hP6')
  have Q6 := Lib.hid (QU.out.sepP hP6')
  clear hM6 hP6 hP6' hdf hN hF6 hMF6
  go_upto_region 9 with (first | (go_at_call 39; refine (copy_p _ mb 16 N _ _ (M6.out.ext (by repeat (first | exact Ext.refl _ | assumption | refine Ext.alloc ?_ _ | refine Ext.drew ?_ | refine Ext.setCell ?_ (by first | (simp; done) | (dsimp only; omega)) _ | refine Ext.trans ?_ (by assumption))))).mono ?_; rintro e w7 ⟨ob, rfl, hC, hE⟩))
  have hC' : MemP (w6.heap.size ≤ ·) w7 ob 16 N [] := hC.mono fun x hx => Nat.le_trans (Ext.size (by repeat (first | exact Ext.refl _ | assumption | refine Ext.alloc ?_ _ | refine Ext.drew ?_ | refine Ext.setCell ?_ (by first | (simp; done) | (dsimp only; omega)) _ | refine Ext.trans ?_ (by assumption)))) hx
  obtain ⟨G7, hG7, hCG7⟩ := hC'.two
  have GG7 := Lib.hid hG7
  have O7 := Lib.hid hCG7
  have E7 : Hid (Ext w6 w7) := Lib.hid (Ext.trans (by repeat (first | exact Ext.refl _ | assumption | refine Ext.alloc ?_ _ | refine Ext.drew ?_ | refine Ext.setCell ?_ (by first | (simp; done) | (dsimp only; omega)) _ | refine Ext.trans ?_ (by assumption))) hE)
  clear hC hE hC' hG7 hCG7
  have hQ7 := Q6.out.ext E7.out
  have hM7 : MemP (fun x => x ∈ F6 ∨ w7.heap.size ≤ x) w7 mb 16 N ([] ++ q.1.map (·.2.1)) := (M6.out.ext E7.out).mono fun _ => Or.inl
  have HMk7 := Lib.hid (fun wx (k : Ext w7 wx) => mark_p (fun x => x ∈ F6 ∨ w7.heap.size ≤ x) mb 16 N ([] ++ q.1.map (·.2.1)) q.1 sa sc q.2.1 q.2.2.1 q.2.2.2.1 q.2.2.2.2 dirty wx (hM7.ext k) (fun x hx => .inr (Nat.le_trans k.size hx))
    ((StepsAt.of hQ7.2).ext k) (fun Y hY => steps_sepM hQ7.2 Y ((SepP.of_ext k).trans hY)) (by omega) (fun i hi => ⟨(HST.out _ (HMEM.out i hi)).2.2.1, by have := (HST.out _ (HMEM.out i hi)).2.2.2; omega⟩))
  obtain ⟨⟨k0, k1, k2, k3, k4, k5, k6⟩, hql⟩ := hQ7.facts
  have Q7 := Lib.hid hQ7
  clear hQ7 hM7
  go_upto_region 10 with (first | (go_at_call 31; refine (HMk7.out _ (by repeat (first | exact Ext.refl _ | assumption | refine Ext.alloc ?_ _ | refine Ext.drew ?_ | refine Ext.setCell ?_ (by first | (simp; done) | (dsimp only; omega)) _ | refine Ext.trans ?_ (by assumption)))).mono ?_; rintro e w8 ⟨rfl, hM8, hP8⟩))
  clear k0 k1 k2 k3 k4 k5 k6 hql
  have hP8' : SepP (fun x => x ∈ F6 ∨ w7.heap.size ≤ x) w7 w8 := (SepP.of_ext (by repeat (first | exact Ext.refl _ | assumption | refine Ext.alloc ?_ _ | refine Ext.drew ?_ | refine Ext.setCell ?_ (by first | (simp; done) | (dsimp only; omega)) _ | refine Ext.trans ?_ (by assumption)))).trans hP8
  rw [HDF.out, show markL 16 df q.1 N = N by rw [← HN.out]; exact markL_twice fun s hs => (HST.out s hs).2.1] at hM8
  have M8 := Lib.hid hM8
  have Q8 := Lib.hid (Q7.out.sepP hP8')
  have O8 : Hid (MemP (· ∈ G7) w8 ob 16 N []) := Lib.hid (O7.out.sep hP8' (fun x hx hq hp => by
    have h1 := GG7.out x hq
    rcases hp with hp | hp
    · have := (FF6.out x hp).2; omega
    · omega))
  have C8 : Hid (MemP (· ∈ G) w8 cb 16 M0 []) := Lib.hid (((C2.out.sep P6.out (fun x hx hq hp => by
    have h1 := GG.out x hq
    rcases hp with hp | hp
    · have := (FF.out x hp).2; omega
    · omega)).ext E7.out).sep hP8' (fun x hx hq hp => by
    have h1 := GG.out x hq
    rcases hp with hp | hp
    · rcases (FF6.out x hp).1 with h2 | h2
      · have := (FF.out x h2).2; omega
      · omega
    · have := P6.out.size; have := E7.out.size; omega))
  have E8 : Hid (Ext w w8) := Lib.hid (by
    have e2 : Ext w w2 := E1.out.trans E2.out
    have e6 : Ext w w6 := SepP.to_ext (P6.out.mono fun x hx => by
      rcases hx with hx | hx
      · exact (FF.out x hx).1
      · exact Nat.le_trans e2.size hx) e2
    exact SepP.to_ext (hP8'.mono fun x hx => by
      rcases hx with hx | hx
      · rcases (FF6.out x hx).1 with h2 | h2
        · exact (FF.out x h2).1
        · exact Nat.le_trans e2.size h2
      · exact Nat.le_trans (e6.trans E7.out).size hx) (e6.trans E7.out))
  clear hM8 hP8 hP8'
  go_upto_region 11 with (first | (go_at_call 40; refine (diff_p _ _ cb mb M0 N _ _ _ (C8.out.ext (by repeat (first | exact Ext.refl _ | assumption | refine Ext.alloc ?_ _ | refine Ext.drew ?_ | refine Ext.setCell ?_ (by first | (simp; done) | (dsimp only; omega)) _ | refine Ext.trans ?_ (by assumption)))) (M8.out.ext (by repeat (first | exact Ext.refl _ | assumption | refine Ext.alloc ?_ _ | refine Ext.drew ?_ | refine Ext.setCell ?_ (by first | (simp; done) | (dsimp only; omega)) _ | refine Ext.trans ?_ (by assumption))))).mono ?_; rintro e w9 ⟨la, lc, rfl, hD, hE, -⟩))
  have E9 : Hid (Ext w8 w9) := Lib.hid (Ext.trans (by repeat (first | exact Ext.refl _ | assumption | refine Ext.alloc ?_ _ | refine Ext.drew ?_ | refine Ext.setCell ?_ (by first | (simp; done) | (dsimp only; omega)) _ | refine Ext.trans ?_ (by assumption))) hE)
  have D9 := Lib.hid hD
  obtain ⟨D, hDD⟩ : ∃ D, dOut M0 N 16 = D := ⟨_, rfl⟩
  rw [hDD] at D9 ⊢
  have hDl : D.length ≤ 8192 := by rw [← hDD]; exact dOut_length M0 N 16
  have HDD := Lib.hid hDD
  have Q9 := Lib.hid (Q8.out.ext E9.out)
  have hmore : Hid (∀ t, more (M0 t) (N t)) := Lib.hid (fun t => by rw [← HN.out]; exact markL_more 16 df q.1 M0 t)
  have hNw : Hid (∀ t, 0 ≤ N t ∧ N t ≤ 18446744073709551615) := Lib.hid (by rw [← HN.out]; exact markL_wide q.1 HW.out)
  clear hD hE hDD
  obtain ⟨L, why, rr, lv, fr⟩ := q
  dsimp only at hL4 HDF HN HST HMEM HLO
  obtain ⟨hL41, hL42⟩ := hL4
  go_wp2
  go_loopw [13] (fun i wr => ∃ j : Nat, j ≤ D.length ∧ i = .int .i64 j ∧ Hid (Ext w9 wr)) (fun i _ => D.length - (intOf i).toNat)
  case atStart => exact ⟨0, by omega, rfl, Lib.hid (Ext.refl _)⟩
  case round =>
    obtain ⟨j, hj, rfl, hR⟩ := hrel
    by_cases hlt : j < D.length
    · have hx : D[j]? = some (D.getD j 0) := by simp [List.getD, hlt]
      obtain ⟨dg, hdg, -, -⟩ := (D9.out.ext hR.out).word (i := j) hlt rfl
      subst hdg
      have hm := mem_dOut (M1 := M0) (M2 := N) (N := 16) (a := D.getD j 0) (by rw [HDD.out]; exact List.mem_of_getElem? hx)
      have hown := marks_own (M := M0) (df := df) (L := L) (fun s hs => (HST.out s hs).1) hm.2.2.1 (by rw [HN.out]; exact hm.2.2.2)
      have HWD : Hid (∀ wx, Ext w9 wx → wx.cell? ⟨dg, j, none⟩ = some (.int .u64 (D.getD j 0)) ∧ dg < wx.heap.size) := Lib.hid (fun wx k => by
        obtain ⟨g2, h1, h2, h3⟩ := (D9.out.ext k).word (i := j) hlt rfl
        have : dg = g2 := by injection h1 with h1; injection h1
        subst this; exact ⟨h3, h2⟩)
      generalize D.getD j 0 = d at hm hown HWD hx
      obtain ⟨d0, d1, d8, dne⟩ := hm
      have HOW := Lib.hid hown
      have herr := err16 (s := d) (by omega) d8
      have HER := Lib.hid herr
      have hmo := hmore.out (d / 8)
      have ⟨x0, x1⟩ := HW.out (d / 8)
      have ⟨y0, y1⟩ := hNw.out (d / 8)
      have HPc : Hid (∀ wx, Ext w9 wx → Calls Try.prog 37 #[.pointer (some ⟨cb, 0, none⟩), .int .u64 d] wx fun e w' => e = .returned (.tuple #[.int .u64 (M0 (d / 8)), .int .i64 0]) ∧ Ext wx w') := Lib.hid (fun wx k => by
        have := peek_p _ cb 16 M0 [] d wx (C8.out.ext (E9.out.trans k)) d0 (by omega)
        rw [if_pos HER.out, HER.out] at this; exact this)
      have HPm : Hid (∀ wx, Ext w9 wx → Calls Try.prog 37 #[.pointer (some ⟨mb, 0, none⟩), .int .u64 d] wx fun e w' => e = .returned (.tuple #[.int .u64 (N (d / 8)), .int .i64 0]) ∧ Ext wx w') := Lib.hid (fun wx k => by
        have := peek_p _ mb 16 N _ d wx (M8.out.ext (E9.out.trans k)) d0 (by omega)
        rw [if_pos HER.out, HER.out] at this; exact this)
      generalize M0 (d / 8) = x at hmo x0 x1 HPc dne
      generalize N (d / 8) = y at hmo y0 y1 HPm dne
      have hbare := eqv_bare x0 x1 y0 y1 hmo.1
      have hnone := more_none x0 x1 y0 y1 hmo
      have HBR := Lib.hid hbare
      have HNO := Lib.hid hnone
      clear hbare hnone herr hown hmo hx dne
      go_wp2
      obtain ⟨wo, hwo⟩ : ∃ wo : World, wo = wr := ⟨_, rfl⟩
      go_loopw [14, 15] (fun o t wx => ∃ k : Nat, k ≤ L.length ∧ t = .int .i64 k ∧ o = .bool ((L.take k).any (fun s => s.2.1 == d)) ∧ Hid (Ext w9 wx)) (fun _ t _ => L.length - (intOf t).toNat)
      case atStart => exact ⟨0, by omega, rfl, by simp, hR⟩
      case round =>
        obtain ⟨k, hk, rfl, rfl, hS⟩ := hrel
        have hP := Q9.out.ext hS.out
        obtain ⟨⟨c0, -, -, -, -, -, -⟩, hpl⟩ := hP.facts
        dsimp only at c0
        by_cases hkl : k < L.length
        · obtain ⟨g, rfl, hgl, -, s1, -⟩ := hP.2.step hkl rfl
          obtain ⟨w0', w1'⟩ := HWD.out wr hS.out
          have hst := any_take L d k hkl
          dsimp only at s1
          generalize (stpAt L k).2.1 = sl at s1 hst
          generalize (L.take k).any (fun s => s.2.1 == d) = ow at hst ⊢
          have HST2 := Lib.hid hst
          clear hst hP
          cases ow
          · cases hsd : sl == d
            · go_upto_region 18 with (fail)
              refine region_ext (by kernel_rfl) (by kernel_rfl) ?_; (repeat (go_big_quiet_step (fail))); refine wpQuiet_nil ?_; intro w1 hb; have ⟨hc, hf, hh, hs⟩ := hb.facts; try simp only [World.size_alloc, World.size_setCell, World.size_drew] at hs
              go_wp2
              exact ⟨⟨k + 1, by omega, by go_num, by rw [HST2.out, hsd]; rfl, Lib.hid (hS.out.trans hb)⟩, by simp [intOf]; omega⟩
            · go_upto_region 18 with (fail)
              refine region_ext (by kernel_rfl) (by kernel_rfl) ?_; (repeat (go_big_quiet_step (fail))); refine wpQuiet_nil ?_; intro w1 hb; have ⟨hc, hf, hh, hs⟩ := hb.facts; try simp only [World.size_alloc, World.size_setCell, World.size_drew] at hs
              go_wp2
              exact ⟨⟨k + 1, by omega, by go_num, by rw [HST2.out, hsd]; rfl, Lib.hid (hS.out.trans hb)⟩, by simp [intOf]; omega⟩
          · go_upto_region 18 with (fail)
            refine region_ext (by kernel_rfl) (by kernel_rfl) ?_; (repeat (go_big_quiet_step (fail))); refine wpQuiet_nil ?_; intro w1 hb; have ⟨hc, hf, hh, hs⟩ := hb.facts; try simp only [World.size_alloc, World.size_setCell, World.size_drew] at hs
            go_wp2
            exact ⟨⟨k + 1, by omega, by go_num, by rw [HST2.out]; rfl, Lib.hid (hS.out.trans hb)⟩, by simp [intOf]; omega⟩
        · obtain rfl : k = L.length := by omega
          rw [List.take_of_length_le (Nat.le_refl _), HOW.out]
          obtain ⟨z0, z1⟩ := HWD.out wr hS.out
          clear hP
          have tok1 : True := trivial
          have hbare := HBR.out
          have hnone := HNO.out
          go_wp2_with (first | (go_at_call 37; have _t := tok1; clear _t; refine (HPc.out _ (hS.out.trans (by repeat (first | exact Ext.refl _ | assumption | refine Ext.alloc ?_ _ | refine Ext.drew ?_ | refine Ext.setCell ?_ (by first | (simp; done) | (dsimp only; omega)) _ | refine Ext.trans ?_ (by assumption))))).mono ?_; rintro e wa ⟨rfl, hba⟩; clear tok1; have ⟨hc, hf, hh, hs⟩ := hba.facts) | (go_at_call 37; refine (HPm.out _ (hS.out.trans (by repeat (first | exact Ext.refl _ | assumption | refine Ext.alloc ?_ _ | refine Ext.drew ?_ | refine Ext.setCell ?_ (by first | (simp; done) | (dsimp only; omega)) _ | refine Ext.trans ?_ (by assumption))))).mono ?_; rintro e wb ⟨rfl, hbb⟩))
          subst hwo
          exact ⟨⟨j + 1, by omega, by go_num, Lib.hid (hS.out.trans (Ext.trans (by repeat (first | exact Ext.refl _ | assumption | refine Ext.alloc ?_ _ | refine Ext.drew ?_ | refine Ext.setCell ?_ (by first | (simp; done) | (dsimp only; omega)) _ | refine Ext.trans ?_ (by assumption))) hbb))⟩, by simp [intOf]; omega⟩
    · go_wp2
      go_loopw [20] (fun t wx => ∃ k : Nat, k ≤ L.length ∧ t = .int .i64 k ∧ Hid (Ext w9 wx)) (fun t _ => L.length - (intOf t).toNat)
      case atStart => exact ⟨0, by omega, rfl, hR⟩
      case round =>
        obtain ⟨k, hk, rfl, hS⟩ := hrel
        have hP := Q9.out.ext hS.out
        obtain ⟨⟨c0, c1, -, -, -, -, -⟩, hpl⟩ := hP.facts
        dsimp only at c0 c1
        by_cases hkl : k < L.length
        · obtain ⟨g, rfl, hgl, -, s1, -⟩ := hP.2.step hkl rfl
          have hsl := HST.out _ (HMEM.out k hkl)
          have hhas := markL_has (df := df) L M0 (fun s hs => (HST.out s hs).2.1)
          have hA := hhas.1 _ (HMEM.out k hkl)
          have hD := hhas.2 (stpAt L k)
          rw [HN.out] at hA hD
          have hlast : k + 1 = L.length → L.getLast? = some (stpAt L k) := fun e => by
            rw [List.getLast?_eq_getElem?, show L.length - 1 = k by omega]; exact HLO.out k hkl
          dsimp only at s1
          generalize stpAt L k = sk at s1 hsl hA hD hlast
          obtain ⟨lk, ak, xk⟩ := sk
          dsimp only at s1 hsl hA hD hlast
          obtain ⟨-, h2, h3, h4⟩ := hsl
          have HER := Lib.hid h2
          have ⟨y0, y1⟩ := hNw.out (ak / 8)
          have HPm : Hid (∀ wy, Ext w9 wy → Calls Try.prog 37 #[.pointer (some ⟨mb, 0, none⟩), .int .u64 ak] wy fun e w' => e = .returned (.tuple #[.int .u64 (N (ak / 8)), .int .i64 0]) ∧ Ext wy w') := Lib.hid (fun wy k => by
            have := peek_p _ mb 16 N _ ak wy (M8.out.ext (E9.out.trans k)) h3 (by omega)
            rw [if_pos HER.out, HER.out] at this; exact this)
          generalize N (ak / 8) = y at y0 y1 HPm hA hD
          have a32 := and32 y0 y1
          have a64 := and64 y0 y1
          have f32 : (y / 32 % 2 * 32 == 0) = false := by unfold hasA at hA; simp only [beq_iff_eq] at hA; rw [hA]; rfl
          have HD2 : Hid (k + 1 = L.length → dirty = true → why = 0 → (y / 64 % 2 * 64 == 0) = false) := Lib.hid (fun e1 e2 e3 => by
            have := hD (hlast e1) (by rw [← HDF.out, e2, e3]; rfl)
            unfold hasD at this
            simp only [beq_iff_eq] at this
            rw [this]; rfl)
          clear h2 hA hD hlast hhas hP
          have arm : True := trivial
          by_cases hl : k + 1 = L.length
          · have hlb : ((k : Int) == (L.length : Int) - 1) = true := by rw [beq_iff_eq]; omega
            cases dirty
            · go_wp2_with (first | (go_at_call 37; refine (HPm.out _ (hS.out.trans (by repeat (first | exact Ext.refl _ | assumption | refine Ext.alloc ?_ _ | refine Ext.drew ?_ | refine Ext.setCell ?_ (by first | (simp; done) | (dsimp only; omega)) _ | refine Ext.trans ?_ (by assumption))))).mono ?_; rintro e wb ⟨rfl, hbb⟩; have ⟨hc, hf, hh, hs⟩ := hbb.facts))
              exact ⟨⟨k + 1, by omega, by go_num, Lib.hid (hS.out.trans (Ext.trans (by repeat (first | exact Ext.refl _ | assumption | refine Ext.alloc ?_ _ | refine Ext.drew ?_ | refine Ext.setCell ?_ (by first | (simp; done) | (dsimp only; omega)) _ | refine Ext.trans ?_ (by assumption))) hbb))⟩, by simp [intOf]; omega⟩
            · by_cases hw : why = 0
              · have hwb : (why == 0) = true := by simpa using hw
                have f64 := HD2.out hl rfl hw
                clear hl hw
                go_wp2_with (first | (go_at_call 37; refine (HPm.out _ (hS.out.trans (by repeat (first | exact Ext.refl _ | assumption | refine Ext.alloc ?_ _ | refine Ext.drew ?_ | refine Ext.setCell ?_ (by first | (simp; done) | (dsimp only; omega)) _ | refine Ext.trans ?_ (by assumption))))).mono ?_; rintro e wb ⟨rfl, hbb⟩; have ⟨hc, hf, hh, hs⟩ := hbb.facts))
                exact ⟨⟨k + 1, by omega, by go_num, Lib.hid (hS.out.trans (Ext.trans (by repeat (first | exact Ext.refl _ | assumption | refine Ext.alloc ?_ _ | refine Ext.drew ?_ | refine Ext.setCell ?_ (by first | (simp; done) | (dsimp only; omega)) _ | refine Ext.trans ?_ (by assumption))) hbb))⟩, by simp [intOf]; omega⟩
              · have hwb : (why == 0) = false := by simpa using hw
                clear hl hw
                go_wp2_with (first | (go_at_call 37; refine (HPm.out _ (hS.out.trans (by repeat (first | exact Ext.refl _ | assumption | refine Ext.alloc ?_ _ | refine Ext.drew ?_ | refine Ext.setCell ?_ (by first | (simp; done) | (dsimp only; omega)) _ | refine Ext.trans ?_ (by assumption))))).mono ?_; rintro e wb ⟨rfl, hbb⟩; have ⟨hc, hf, hh, hs⟩ := hbb.facts))
                exact ⟨⟨k + 1, by omega, by go_num, Lib.hid (hS.out.trans (Ext.trans (by repeat (first | exact Ext.refl _ | assumption | refine Ext.alloc ?_ _ | refine Ext.drew ?_ | refine Ext.setCell ?_ (by first | (simp; done) | (dsimp only; omega)) _ | refine Ext.trans ?_ (by assumption))) hbb))⟩, by simp [intOf]; omega⟩
          · have hlb : ((k : Int) == (L.length : Int) - 1) = false := by rw [beq_eq_false_iff_ne]; omega
            go_wp2_with (first | (go_at_call 37; refine (HPm.out _ (hS.out.trans (by repeat (first | exact Ext.refl _ | assumption | refine Ext.alloc ?_ _ | refine Ext.drew ?_ | refine Ext.setCell ?_ (by first | (simp; done) | (dsimp only; omega)) _ | refine Ext.trans ?_ (by assumption))))).mono ?_; rintro e wb ⟨rfl, hbb⟩; have ⟨hc, hf, hh, hs⟩ := hbb.facts))
            exact ⟨⟨k + 1, by omega, by go_num, Lib.hid (hS.out.trans (Ext.trans (by repeat (first | exact Ext.refl _ | assumption | refine Ext.alloc ?_ _ | refine Ext.drew ?_ | refine Ext.setCell ?_ (by first | (simp; done) | (dsimp only; omega)) _ | refine Ext.trans ?_ (by assumption))) hbb))⟩, by simp [intOf]; omega⟩
        · have HDn : Hid (∀ wy, Ext w9 wy → Calls Try.prog 40 #[.pointer (some ⟨ob, 0, none⟩), .pointer (some ⟨mb, 0, none⟩)] wy fun e w' => ∃ la' lc', e = .returned (.slice la' 0 lc') ∧ Ext wy w') := Lib.hid (fun wy k => (diff_p _ _ ob mb N N _ _ wy (O8.out.ext (E9.out.trans k)) (M8.out.ext (E9.out.trans k))).mono fun e w' hh => by
            obtain ⟨la', lc', h1, h2, h3, -⟩ := hh
            rw [dOut_nil (fun _ => rfl)] at h1
            exact ⟨la', lc', h1, h3⟩)
          go_wp2_with (first | (go_at_call 40; refine (HDn.out _ (hS.out.trans (by repeat (first | exact Ext.refl _ | assumption | refine Ext.alloc ?_ _ | refine Ext.drew ?_ | refine Ext.setCell ?_ (by first | (simp; done) | (dsimp only; omega)) _ | refine Ext.trans ?_ (by assumption))))).mono ?_; rintro e wb ⟨la', lc', rfl, hbb⟩))
          go_ret
          exact ⟨rfl, (E8.out.trans (E9.out.trans hS.out)).trans (by repeat (first | exact Ext.refl _ | assumption | refine Ext.alloc ?_ _ | refine Ext.drew ?_ | refine Ext.setCell ?_ (by first | (simp; done) | (dsimp only; omega)) _ | refine Ext.trans ?_ (by assumption)))⟩
end Go.Proofs.YtkoohedbbdgjjaaR
