/- WalkGoes: any walk, through any words, from any place on: its steps, what was loaded, and the memory, marked: for all words, places and addresses. -/
import Derived.Test.YtfaekfdngkpkdaaGok3
namespace Go.Proofs.Ytfaekfdngkpkdaa
set_option linter.unusedVariables false
set_option linter.unusedSimpArgs false
open Go.RowKit
attribute [local go_sem] wext_cell wext_frozen wext_heap alloc_cell alloc_frozen alloc_heap setCell_cell objCell_cells objFrozen_cells

theorem walk_slot {M : Int → Int} {B : Int} {nxe : Bool} {a : Int} (hM : ∀ s, 0 ≤ M s) : ∀ (n : Nat) (t : Int) (r : Rt), 0 ≤ t → ∀ s ∈ (walkF M B nxe a n t r).1, 0 ≤ s.2.1
  | 0, t, r, _, s, h => by simp [walkF] at h
  | n + 1, t, r, ht, y, h => by
    have h0 := (slotI_le (t := t) (a := a) (l := (n : Int) + 1) ht).1
    obtain ⟨s, hs⟩ : ∃ s, slotI t a ((n : Int) + 1) = s := ⟨_, rfl⟩
    obtain ⟨x, hx⟩ : ∃ x, M (s / 8) = x := ⟨_, rfl⟩
    rw [hs] at h0
    by_cases hne : errM B s ≠ 0
    · rw [walkF_bad (by rw [hs]; exact hne)] at h; simp at h
    have he : errM B s = 0 := by omega
    have one : y = ((n : Int) + 1, s, x) → 0 ≤ y.2.1 := fun e => by subst e; exact h0
    cases hp : bitB x 0 with
    | false => rw [walkF_absent hs hx he hp] at h; exact one (by simpa using h)
    | true =>
      cases hr : resI x ((n : Int) + 1) B nxe with
      | true => rw [walkF_res hs hx he hp hr] at h; exact one (by simpa using h)
      | false =>
        cases hl : leafI x ((n : Int) + 1) with
        | true => rw [walkF_leaf hs hx he hp hr hl] at h; exact one (by simpa using h)
        | false =>
          rw [walkF_on hs hx he hp hr hl] at h
          rcases List.mem_cons.1 h with h | h
          · exact one h
          · exact walk_slot hM n _ _ (tabI_le (hx ▸ hM _ : 0 ≤ x)).1 y h
theorem walk_all {M : Int → Int} {B : Int} {nxe : Bool} {a t : Int} {n : Nat} {r : Rt} (hM : ∀ s, 0 ≤ M s ∧ M s ≤ 18446744073709551615) (ht : 0 ≤ t) {L : List Stp} (hL : (walkF M B nxe a n t r).1 = L) : ∀ i, i < L.length →
    (0 ≤ (stpAt L i).2.2 ∧ (stpAt L i).2.2 ≤ 18446744073709551615) ∧ 0 ≤ (stpAt L i).2.1 ∧ (stpAt L i).2.1 ≤ 18446744073709551615 ∧ errM B (stpAt L i).2.1 = 0 := fun i hi => by
  have hx : (walkF M B nxe a n t r).1[i]? = some (stpAt L i) := by rw [hL]; simp [stpAt, List.getD, hi]
  have h1 := walk_at hM hx
  have h2 := walk_slot (fun s => (hM s).1) n t r ht _ (List.mem_of_getElem? hx)
  exact ⟨h1.2.2, h2, by have := errM_le h1.2.1; omega, h1.2.1⟩
theorem walk_len' {M : Int → Int} {B : Int} {nxe : Bool} {a : Int} : ∀ (n : Nat) (t : Int) (rt : Rt), (walkF M B nxe a n t rt).1.length ≤ n
  | 0, _, _ => by simp [walkF]
  | n + 1, t, rt => by
    unfold walkF
    split
    · split
      · split
        · simp
        · split
          · simp
          · simp only [List.length_cons]; have := walk_len' (M := M) (B := B) (nxe := nxe) (a := a) n (tabI (M (slotI t a ((n : Int) + 1) / 8))) (andR rt (M (slotI t a ((n : Int) + 1) / 8))); omega
      · simp
    · simp

set_option maxHeartbeats 1000000 in
set_option maxRecDepth 100000 in
theorem walkGoes_c (v : Value) (ds : List PutD) (lv t a : Int) (ra rb rc nxe : Bool) (w : World) (h : ListAt w v 4 PutD.cells PutD.ok ds) (hl0 : -9223372036854775808 ≤ lv) (hl1 : lv ≤ 9223372036854775807) (ht0 : 0 ≤ t) (ht1 : t ≤ 18446744073709551615) (ha0 : 0 ≤ a) (ha1 : a ≤ 18446744073709551615) :
    Calls Try.prog 3 #[v, .agg #[.int .i64 lv, .int .u64 t, .bool ra, .bool rb, .bool rc, .bool nxe], .int .u64 a] w fun e w' => e = .returned (.bool true) ∧ Ext w w' := by
  have HL := Lib.hid h
  obtain ⟨a1, c1, rfl, -, -, -, -⟩ := h
  obtain ⟨n, hn, hlev⟩ : ∃ n : Nat, n ≤ 4 ∧ ((lv = (n : Int)) ∨ (n = 0 ∧ (lv < 1 ∨ 4 < lv))) := by
    by_cases hin : 1 ≤ lv ∧ lv ≤ 4
    · exact ⟨lv.toNat, by omega, .inl (by omega)⟩
    · exact ⟨0, by omega, .inr ⟨rfl, by omega⟩⟩
  go_enter Try.func3, Try.ntmps3
  go_upto_region 2 with (first | (go_at_call 13; refine (awake08_c _).mono ?_; rintro e w0 ⟨rfl, hb0⟩))
  have hB0 := (hb0.block w.heap.size (by simp)).trans (alloc_same ..)
  have e0 : Ext w w0 := ((Ext.refl w).alloc _).trans hb0
  have E0 := Lib.hid e0
  have X0 := Lib.hid hB0
  obtain ⟨xb, hxb⟩ : ∃ xb, w.heap.size = xb := ⟨_, rfl⟩
  rw [hxb] at X0 ⊢
  clear hb0 hB0 e0 hxb
  go_upto_region 5 with (first | (go_at_call 14; refine (built_m _ ds _ (HL.out.ext (E0.out.trans (by repeat (first | exact Ext.refl _ | assumption | refine Ext.alloc ?_ _ | refine Ext.drew ?_ | refine Ext.setCell ?_ (by first | (simp; done) | (dsimp only; omega)) _ | refine Ext.trans ?_ (by assumption)))))).mono ?_; rintro e w1 ⟨mb, rfl, hM, hE⟩))
  have M1 := Lib.hid (hM.mono (base' := w.heap.size) E0.out.size)
  have E1 : Hid (Ext w w1) := Lib.hid (E0.out.trans hE)
  have X1 := Lib.hid ((hE.block _ (heap_lt X0.out)).trans X0.out)
  clear hM hE
  go_upto_region 6 with (first | (go_at_call 15; refine (rBuilt_c _ ds _ (HL.out.ext (E1.out.trans (by repeat (first | exact Ext.refl _ | assumption | refine Ext.alloc ?_ _ | refine Ext.drew ?_ | refine Ext.setCell ?_ (by first | (simp; done) | (dsimp only; omega)) _ | refine Ext.trans ?_ (by assumption)))))).mono ?_; rintro e w2 ⟨sa, sc, S, rfl, hS, hok, hSl, hE2⟩))
  refine wp_gen ?_; intro U hU
  have hUE : Ext w1 U := by rw [hU]; exact (Ext.trans (by repeat (first | exact Ext.refl _ | assumption | refine Ext.alloc ?_ _ | refine Ext.drew ?_ | refine Ext.setCell ?_ (by first | (simp; done) | (dsimp only; omega)) _ | refine Ext.trans ?_ (by assumption))) hE2).alloc _
  have hUb : U.heap[w2.heap.size]? = some (.cells #[.int .i64 16, .slice sa S.length sc, .slice none 0 0] 34 (0, 0)) := by rw [hU]; exact alloc_same ..
  have hUS : SAt U sa sc S := by rw [hU]; exact SAt.ext hS ((Ext.refl _).alloc _)
  obtain ⟨yb, hyb⟩ : ∃ yb, w2.heap.size = yb := ⟨_, rfl⟩
  rw [hyb] at hUb ⊢
  have UE := Lib.hid (E1.out.trans hUE)
  have UM := Lib.hid (M1.out.ext hUE)
  have UX := Lib.hid ((hUE.block _ (heap_lt X1.out)).trans X1.out)
  have UB := Lib.hid hUb
  have US := Lib.hid hUS
  have OK := Lib.hid hok
  clear hU hUE hUb hUS hyb hS hok hE2
  have hMw := UM.out.wide
  generalize builtM (ds.take 100) = M at *
  obtain ⟨q, hq⟩ : ∃ q, walkF M 16 nxe a n t (ra, rb, rc) = q := ⟨_, rfl⟩
  have hql : q.1.length ≤ 4 := by rw [← hq]; have := walk_len' (M := M) (B := 16) (nxe := nxe) (a := a) n t (ra, rb, rc); omega
  have hall := walk_all hMw ht0 (hq ▸ rfl : (walkF M 16 nxe a n t (ra, rb, rc)).1 = q.1)
  have hfr : ∀ w1, MemIn w.heap.size w1 mb 16 M [] → w.heap.size ≤ w1.heap.size → Calls Try.prog 16 #[.pointer (some ⟨mb, 0, none⟩), .agg #[.int .i64 lv, .int .u64 t, .bool ra, .bool rb, .bool rc], .int .u64 a, .bool nxe] w1 (EndWalkM w.heap.size mb 16 M [] q w1) := fun w1 hm hb => by
    rcases hlev with rfl | ⟨rfl, hout⟩
    · have := from_m w.heap.size mb 16 M [] n t (ra, rb, rc) a nxe w1 hm hb hn ht0 ht1 ha0 ha1 (by simp)
      rw [hq] at this; exact this
    · refine (fromNo_c (some ⟨mb, 0, none⟩) lv t a ra rb rc nxe w1 hout).mono fun e V he => ?_
      obtain ⟨rfl, hE⟩ := he
      have hq0 : q = ([], 2, noRt, 0, 0) := by rw [← hq]; rfl
      subst hq0
      exact ⟨none, 0, rfl, by simpa [rowS] using Owns.nil _ _ _, by simpa using hm.ext hE, Sep.of_ext hE hb⟩
  have hrf : ∀ w1, SAt w1 sa sc S → Calls Try.prog 17 #[.agg #[.int .i64 16, .slice sa S.length sc, .slice none 0 0], .agg #[.int .i64 lv, .int .u64 t, .bool ra, .bool rb, .bool rc], .int .u64 a, .bool nxe] w1 (EndFrom none 16 sa S.length sc [] q w1) := fun w1 hs => by
    rcases hlev with rfl | ⟨rfl, hout⟩
    · have := rFrom_c 16 (by omega) sa none S M [] sc 0 n t a ra rb rc nxe w1 hs (Owns.nil _ _ _) OK.out (by omega) (by simp) hn ht0 ht1 ha0 ha1
      rw [hq] at this; exact this
    · refine (rFromNo_c 16 sa none S.length sc 0 0 lv t a ra rb rc nxe w1 hout).mono fun e V he => ?_
      obtain ⟨rfl, hE⟩ := he
      have hq0 : q = ([], 2, noRt, 0, 0) := by rw [← hq]; rfl
      subst hq0
      exact ⟨none, 0, none, 0, rfl, Owns.nil _ _ _, by simpa [rowS] using Owns.nil _ _ _, hE, fun _ h => by cases h⟩
  have HFr := Lib.hid hfr
  have HRf := Lib.hid hrf
  have HALL := Lib.hid hall
  obtain ⟨L, why, ⟨b0, b1, b2⟩, fl, fr⟩ := q
  dsimp only at hql
  obtain ⟨T, hT⟩ : ∃ T, L.map (·.2.1) = T := ⟨_, rfl⟩
  have hTl : T.length ≤ 4 := by rw [← hT]; simpa using hql
  have hrf2 : ∀ w1, SAt w1 sa sc S → Calls Try.prog 17 #[.agg #[.int .i64 16, .slice sa S.length sc, .slice none 0 0], .agg #[.int .i64 lv, .int .u64 t, .bool ra, .bool rb, .bool rc], .int .u64 a, .bool nxe] w1 fun e V => ∃ ta tc qa qc, e = .returned (.tuple #[.agg #[.int .i64 16, .slice sa S.length sc, .slice ta T.length tc], .agg #[.slice qa L.length qc, .int .i64 why, .bool b0, .bool b1, .bool b2, .int .i64 fl, .int .u64 fr]]) ∧ TrAt V ta tc T ∧ Owns V 146 3 (.slice qa L.length qc) L.length (rowS L) ∧ Ext w1 V ∧ FreshT w1 none ta := fun w1 hs =>
    (hrf w1 hs).mono fun e V h => by
      obtain ⟨ta, tc, qa, qc, h1, h2, h3, h4, h5⟩ := h
      simp only [List.nil_append, hT] at h1 h2
      exact ⟨ta, tc, qa, qc, h1, h2, h3, h4, h5⟩
  have HRf2 := Lib.hid hrf2
  have HT := Lib.hid hT
  clear hfr hrf hall hq hMw hlev hrf2 hT HRf
  have x0 := (heap_cell UX.out 0).trans rfl
  have x1 := (heap_cell UX.out 1).trans rfl
  have x2 := (heap_cell UX.out 2).trans rfl
  have x3 := (heap_cell UX.out 3).trans rfl
  have x4 := (heap_cell UX.out 4).trans rfl
  have x5 := (heap_cell UX.out 5).trans rfl
  have xl := heap_lt UX.out
  go_upto_region 7 with (first | (go_at_call 16; refine (HFr.out _ (UM.out.ext (by repeat (first | exact Ext.refl _ | assumption | refine Ext.alloc ?_ _ | refine Ext.drew ?_ | refine Ext.setCell ?_ (by first | (simp; done) | (dsimp only; omega)) _ | refine Ext.trans ?_ (by assumption)))) (UE.out.trans (by repeat (first | exact Ext.refl _ | assumption | refine Ext.alloc ?_ _ | refine Ext.drew ?_ | refine Ext.setCell ?_ (by first | (simp; done) | (dsimp only; omega)) _ | refine Ext.trans ?_ (by assumption)))).size).mono ?_; rintro e w3 ⟨pa, pc, rfl, hO, hM3, hP3⟩))
  refine wp_gen ?_; intro V hV
  have hSp : Sep w.heap.size U V := by rw [hV]; exact hP3.ext ((Ext.refl _).alloc _) UE.out.size
  have hVp : PathAt V w3.heap.size pa pc (L, why, (b0, b1, b2), fl, fr) := by rw [hV]; exact ⟨alloc_same .., hO.ext ((Ext.refl _).alloc _)⟩
  have hVM : MemIn w.heap.size V mb 16 M T := by rw [hV, ← HT.out]; exact (by simpa using hM3 : MemIn w.heap.size w3 mb 16 M (L.map (·.2.1))).ext ((Ext.refl _).alloc _)
  obtain ⟨pb, hpb⟩ : ∃ pb, w3.heap.size = pb := ⟨_, rfl⟩
  rw [hpb] at hVp ⊢
  have keep : ∀ {b : Nat} {c : Array Value} {e : TypeId}, U.heap[b]? = some (.cells c e (0, 0)) → e ≠ 187 → e ≠ 23 → e ≠ 191 → V.heap[b]? = some (.cells c e (0, 0)) := fun hb h1 h2 h3 => hSp.2 _ _ _ hb h1 h2 h3
  have VX := Lib.hid (keep UX.out (by decide) (by decide) (by decide))
  have VB := Lib.hid (keep UB.out (by decide) (by decide) (by decide))
  have VS : Hid (SAt V sa sc S) := Lib.hid (Owns.keep US.out fun g hg => by
    obtain ⟨c, hc⟩ := Owns.heap US.out g hg
    rw [hc]; exact keep hc (by decide) (by decide) (by decide))
  have VE : Hid (Ext w V) := Lib.hid (Sep.to_ext ((Sep.of_ext UE.out (Nat.le_refl _)).trans hSp))
  have VP := Lib.hid hVp
  have VM := Lib.hid hVM
  clear hV hSp hVp hVM hpb keep hO hM3 hP3 x0 x1 x2 x3 x4 x5 xl
  have x0 := (heap_cell VX.out 0).trans rfl
  have x1 := (heap_cell VX.out 1).trans rfl
  have x2 := (heap_cell VX.out 2).trans rfl
  have x3 := (heap_cell VX.out 3).trans rfl
  have x4 := (heap_cell VX.out 4).trans rfl
  have x5 := (heap_cell VX.out 5).trans rfl
  have xl := heap_lt VX.out
  have y0 := (heap_cell VB.out 0).trans rfl
  have y1 := (heap_cell VB.out 1).trans rfl
  have y2 := (heap_cell VB.out 2).trans rfl
  have yl := heap_lt VB.out
  go_upto_region 8 with (first | (go_at_call 17; refine (HRf2.out _ (SAt.ext VS.out (by repeat (first | exact Ext.refl _ | assumption | refine Ext.alloc ?_ _ | refine Ext.drew ?_ | refine Ext.setCell ?_ (by first | (simp; done) | (dsimp only; omega)) _ | refine Ext.trans ?_ (by assumption))))).mono ?_; rintro e w4 ⟨ta, tc, qa, qc, rfl, hT4, hO4, hE4, hF4⟩))
  refine wp_gen ?_; intro W hW
  have WG : Hid (∀ g o, ta = some ⟨g, o, none⟩ → V.heap.size ≤ g) := Lib.hid (fun g o h => (hF4 _ h).elim (fun h => by cases h) fun h => Nat.le_trans (Ext.size (by repeat (first | exact Ext.refl _ | assumption | refine Ext.alloc ?_ _ | refine Ext.drew ?_ | refine Ext.setCell ?_ (by first | (simp; done) | (dsimp only; omega)) _ | refine Ext.trans ?_ (by assumption)))) h)
  have hWE : Ext V W := by rw [hW]; exact ((Ext.trans (by repeat (first | exact Ext.refl _ | assumption | refine Ext.alloc ?_ _ | refine Ext.drew ?_ | refine Ext.setCell ?_ (by first | (simp; done) | (dsimp only; omega)) _ | refine Ext.trans ?_ (by assumption))) hE4).alloc _).alloc _
  have hWm : W.heap[w4.heap.size]? = some (.cells #[.int .i64 16, .slice sa S.length sc, .slice ta T.length tc] 34 (0, 0)) := by rw [hW]; exact (alloc_other _ _ (by simp)).trans (alloc_same ..)
  have hWp : W.heap[w4.heap.size + 1]? = some (.cells #[.slice qa L.length qc, .int .i64 why, .bool b0, .bool b1, .bool b2, .int .i64 fl, .int .u64 fr] 45 (0, 0)) := by rw [hW]; exact alloc_same1 ..
  have hWT : TrAt W ta tc (T) := by rw [hW]; exact TrAt.ext hT4 (((Ext.refl _).alloc _).alloc _)
  have hWO : Owns W 146 3 (.slice qa L.length qc) L.length (rowS L) := by rw [hW]; exact hO4.ext (((Ext.refl _).alloc _).alloc _)
  obtain ⟨zb, hzb⟩ : ∃ zb, w4.heap.size = zb := ⟨_, rfl⟩
  rw [hzb] at hWm hWp ⊢
  have WE := Lib.hid (VE.out.trans hWE)
  have HWE := Lib.hid hWE
  have WM := Lib.hid (VM.out.ext hWE)
  have WP := Lib.hid (VP.out.ext hWE)
  have WX := Lib.hid ((hWE.block _ (heap_lt VX.out)).trans VX.out)
  have WS := Lib.hid (SAt.ext VS.out hWE)
  have Wm := Lib.hid hWm
  have Wp := Lib.hid hWp
  have WT := Lib.hid hWT
  have WO := Lib.hid hWO
  clear hW hWE hWm hWp hWT hWO hzb hT4 hO4 hE4 hF4 x0 x1 x2 x3 x4 x5 xl y0 y1 y2 yl
  have hR8 := fun w1 h => real8_c L why (b0, b1, b2) fl fr pa pc w1 h (by omega)
  have HR8 := Lib.hid hR8
  have HEx := Lib.hid (fun qa1 qc1 w1 h1 h2 => exact_c L why (b0, b1, b2) fl fr qa1 qa qc1 qc w1 h1 h2 (by omega) (fun i hi => (HALL.out i hi).1))
  obtain ⟨Fm, hMA0, hFm⟩ := VM.out
  have FmV : Hid (∀ x ∈ Fm, x < V.heap.size) := Lib.hid hMA0.lt
  have hMA := hMA0.ext HWE.out
  have MA := Lib.hid hMA
  clear hMA0
  have FM := Lib.hid hFm
  have HSa := Lib.hid (fun w1 h1 h2 h3 => same8_c mb Fm M (T) S sa ta sc tc w1 h1 h2 h3 OK.out (by omega) (by omega))
  clear hR8 hMA hFm
  have p0 := (heap_cell WP.out.1 0).trans rfl
  have p1 := (heap_cell WP.out.1 1).trans rfl
  have p2 := (heap_cell WP.out.1 2).trans rfl
  have p3 := (heap_cell WP.out.1 3).trans rfl
  have p4 := (heap_cell WP.out.1 4).trans rfl
  have p5 := (heap_cell WP.out.1 5).trans rfl
  have p6 := (heap_cell WP.out.1 6).trans rfl
  have r0 := (heap_cell Wp.out 0).trans rfl
  have r1 := (heap_cell Wp.out 1).trans rfl
  have r2 := (heap_cell Wp.out 2).trans rfl
  have r3 := (heap_cell Wp.out 3).trans rfl
  have r4 := (heap_cell Wp.out 4).trans rfl
  have r5 := (heap_cell Wp.out 5).trans rfl
  have r6 := (heap_cell Wp.out 6).trans rfl
  have m0 := (heap_cell Wm.out 0).trans rfl
  have m1 := (heap_cell Wm.out 1).trans rfl
  have m2 := (heap_cell Wm.out 2).trans rfl
  have pl := heap_lt WP.out.1
  have rl := heap_lt Wp.out
  have ml := heap_lt Wm.out
  dsimp only at p0 p1 p2 p3 p4 p5 p6
  refine region_mixG [.q [0, 2], .l 1 3, .l 3 3, .q [4, 5, 6, 7], .l 8 3, .q [9, 10]] (by kernel_rfl) (by kernel_rfl) ?_
  (try refine ⟨fun h => absurd h (by simp), ?_⟩); (repeat (unfold wpPlan; simp only [pickL, List.map_cons, List.map_nil, List.getD_cons_succ, List.getD_cons_zero]; (repeat go_big_quiet_step (fail)); refine wpQuiet_nil ?_)); unfold wpPlan; intro u1 hu1; (try simp only [pickL, List.map_cons, List.map_nil, List.getD_cons_succ, List.getD_cons_zero])
  go_wp2_with (first | (go_at_call 19; refine (HR8.out _ ((StepsAt.of WP.out.2).ext hu1)).mono ?_; rintro e u2 ⟨ra1, rc1, rfl, hO1, hE1⟩))
  refine ⟨?_, ?_⟩
  · (try intro _); exact hu1.trans hE1
  have HU2 := Lib.hid (hu1.trans hE1)
  have HO1 := Lib.hid hO1
  clear hu1 hE1 hO1
  (try refine ⟨fun h => absurd h (by simp), ?_⟩); (repeat (unfold wpPlan; simp only [pickL, List.map_cons, List.map_nil, List.getD_cons_succ, List.getD_cons_zero]; (repeat go_big_quiet_step (fail)); refine wpQuiet_nil ?_)); unfold wpPlan; intro u3 hu3; (try simp only [pickL, List.map_cons, List.map_nil, List.getD_cons_succ, List.getD_cons_zero])
  go_wp2_with (first | (go_at_call 18; refine (HEx.out ra1 rc1 _ ((StepsAt.ofT HO1.out).ext hu3) ((StepsAt.ofT WO.out).ext (HU2.out.trans hu3))).mono ?_; rintro e u4 ⟨rfl, hE4⟩))
  refine ⟨?_, ?_⟩
  · (try intro _); exact hu3.trans hE4
  have HU4 := Lib.hid (HU2.out.trans (hu3.trans hE4))
  clear hu3 hE4 m0 m1 m2 ml p0 p1 p2 p3 p4 p5 p6 r0 r1 r2 r3 r4 r5 r6 pl rl
  have hm4 := (HU4.out.block _ (heap_lt Wm.out)).trans Wm.out
  have m0 := (heap_cell hm4 0).trans rfl
  have m1 := (heap_cell hm4 1).trans rfl
  have m2 := (heap_cell hm4 2).trans rfl
  have ml := heap_lt hm4
  clear hm4
  (try refine ⟨fun h => absurd h (by simp), ?_⟩); (repeat (unfold wpPlan; simp only [pickL, List.map_cons, List.map_nil, List.getD_cons_succ, List.getD_cons_zero]; (repeat go_big_quiet_step (fail)); refine wpQuiet_nil ?_)); unfold wpPlan; intro u5 hu5; (try simp only [pickL, List.map_cons, List.map_nil, List.getD_cons_succ, List.getD_cons_zero])
  go_wp2_with (first | (go_at_call 20; refine (HSa.out _ (MA.out.ext (HU4.out.trans hu5)) (SAt.ext WS.out (HU4.out.trans hu5)) (TrAt.ext WT.out (HU4.out.trans hu5))).mono ?_; rintro e u6 ⟨rfl, hE6⟩))
  refine ⟨?_, ?_⟩
  · (try intro _); exact hu5.trans hE6
  have HU6 := Lib.hid (HU4.out.trans (hu5.trans hE6))
  clear hu5 hE6 m0 m1 m2 ml
  (try refine ⟨fun h => absurd h (by simp), ?_⟩); (repeat (unfold wpPlan; simp only [pickL, List.map_cons, List.map_nil, List.getD_cons_succ, List.getD_cons_zero]; (repeat go_big_quiet_step (fail)); refine wpQuiet_nil ?_)); unfold wpPlan; intro X hX; (try simp only [pickL, List.map_cons, List.map_nil, List.getD_cons_succ, List.getD_cons_zero])
  have HX := Lib.hid (HU6.out.trans hX)
  clear hX
  have hXP := WP.out.ext HX.out
  have hXX := (HX.out.block _ (heap_lt WX.out)).trans WX.out
  have hXm := (HX.out.block _ (heap_lt Wm.out)).trans Wm.out
  have hXp := (HX.out.block _ (heap_lt Wp.out)).trans Wp.out
  have XP := Lib.hid hXP
  have XX := Lib.hid hXX
  have Xm := Lib.hid hXm
  have Xp := Lib.hid hXp
  have XM : Hid (MemP (fun x => x ∈ Fm ∨ X.heap.size ≤ x) X mb 16 M T) := Lib.hid ⟨Fm, MA.out.ext HX.out, fun x hx => .inl hx⟩
  obtain ⟨db, hdb⟩ : ∃ db, (lv.tmod 2 == 0) = db := ⟨_, rfl⟩
  have HMk := Lib.hid (fun w1 (h : MemP (fun x => x ∈ Fm ∨ X.heap.size ≤ x) w1 mb 16 M T) hb h1 h2 => mark_p (fun x => x ∈ Fm ∨ X.heap.size ≤ x) mb 16 M T L pa pc why (b0, b1, b2) fl fr db w1 h hb h1 h2 (by omega) (fun i hi => ⟨(HALL.out i hi).2.1, (HALL.out i hi).2.2.1⟩))
  have HRm := Lib.hid (fun w1 h1 h2 => rMark_c 16 (by omega) sa ta qa S M T.length sc tc qc L why (b0, b1, b2) fl fr db w1 h1 OK.out h2 (by omega) (by omega) (fun i hi => (HALL.out i hi).2))
  have x0 := (heap_cell hXX 0).trans rfl
  have x1 := (heap_cell hXX 1).trans rfl
  have x2 := (heap_cell hXX 2).trans rfl
  have x3 := (heap_cell hXX 3).trans rfl
  have x4 := (heap_cell hXX 4).trans rfl
  have x5 := (heap_cell hXX 5).trans rfl
  have p0 := (heap_cell hXP.1 0).trans rfl
  have p1 := (heap_cell hXP.1 1).trans rfl
  have p2 := (heap_cell hXP.1 2).trans rfl
  have p3 := (heap_cell hXP.1 3).trans rfl
  have p4 := (heap_cell hXP.1 4).trans rfl
  have p5 := (heap_cell hXP.1 5).trans rfl
  have p6 := (heap_cell hXP.1 6).trans rfl
  have xl := heap_lt hXX
  have pl := heap_lt hXP.1
  dsimp only at p0 p1 p2 p3 p4 p5 p6
  clear hXP hXX hXm hXp
  go_upto_region 11 with (first | (go_at_call 21; refine (HMk.out _ (XM.out.ext (by repeat (first | exact Ext.refl _ | assumption | refine Ext.alloc ?_ _ | refine Ext.drew ?_ | refine Ext.setCell ?_ (by first | (simp; done) | (dsimp only; omega)) _ | refine Ext.trans ?_ (by assumption)))) (fun x hx => .inr (Nat.le_trans (Ext.size (by repeat (first | exact Ext.refl _ | assumption | refine Ext.alloc ?_ _ | refine Ext.drew ?_ | refine Ext.setCell ?_ (by first | (simp; done) | (dsimp only; omega)) _ | refine Ext.trans ?_ (by assumption)))) hx)) ((StepsAt.of XP.out.2).ext (by repeat (first | exact Ext.refl _ | assumption | refine Ext.alloc ?_ _ | refine Ext.drew ?_ | refine Ext.setCell ?_ (by first | (simp; done) | (dsimp only; omega)) _ | refine Ext.trans ?_ (by assumption)))) (fun V' hV' => StepsAt.of (PathAt.sepP (XP.out.ext (by repeat (first | exact Ext.refl _ | assumption | refine Ext.alloc ?_ _ | refine Ext.drew ?_ | refine Ext.setCell ?_ (by first | (simp; done) | (dsimp only; omega)) _ | refine Ext.trans ?_ (by assumption)))) hV').2)).mono ?_; rintro e Y ⟨rfl, hMY, hPY⟩))
  have YX := hPY.2 _ _ _ XX.out (by decide) (by decide) (by decide)
  have Ym := hPY.2 _ _ _ Xm.out (by decide) (by decide) (by decide)
  have Yp := hPY.2 _ _ _ Xp.out (by decide) (by decide) (by decide)
  have keepY : ∀ {b : Nat} {c : Array Value} {e : TypeId}, X.heap[b]? = some (.cells c e (0, 0)) → e ≠ 187 → e ≠ 23 → e ≠ 191 → Y.heap[b]? = some (.cells c e (0, 0)) := fun hb h1 h2 h3 => hPY.2 _ _ _ hb h1 h2 h3
  have YS : Hid (SAt Y sa sc S) := Lib.hid (Owns.keep (SAt.ext WS.out HX.out) fun g hg => by
    obtain ⟨c, hc⟩ := Owns.heap (SAt.ext WS.out HX.out) g hg
    rw [hc]; exact keepY hc (by decide) (by decide) (by decide))
  have YO : Hid (Owns Y 146 3 (.slice qa L.length qc) L.length (rowS L)) := Lib.hid (Owns.keep (WO.out.ext HX.out) fun g hg => by
    obtain ⟨c, hc⟩ := Owns.heap (WO.out.ext HX.out) g hg
    rw [hc]; exact keepY hc (by decide) (by decide) (by decide))
  have YT : Hid (TrAt Y ta tc T) := Lib.hid (Owns.keep (TrAt.ext WT.out HX.out) fun g hg => by
    have hlt := Owns.lt (TrAt.ext WT.out HX.out) g hg
    refine hPY.1.2.2.2.2 g hlt fun hp => ?_
    rcases hp with hp | hp
    · have h1 := FmV.out g hp
      have h2 : ∃ o, ta = some ⟨g, o, none⟩ := by
        cases ta with
        | none => simp [Value.ownBlock] at hg
        | some a9 => 
          obtain ⟨ab, ao, an⟩ := a9
          obtain ⟨g', cap, cur, he, -⟩ := WT.out.2.resolve_left (fun h => by cases h.1)
          injection he with he1
          injection he1 with he1
          injection he1 with e1 e2 e3
          subst e1 e2 e3
          simp [Value.ownBlock] at hg
          exact ⟨0, by rw [hg]⟩
      obtain ⟨o, h2⟩ := h2
      have := WG.out g o h2
      omega
    · omega)
  have YE : Hid (Ext w Y) := Lib.hid (by
    have hs : SepP (w.heap.size ≤ ·) X Y := hPY.mono fun x hx => by
      rcases hx with hx | hx
      · exact FM.out x hx
      · exact Nat.le_trans (WE.out.trans HX.out).size hx
    exact hs.to_ext (WE.out.trans HX.out))
  have YM := Lib.hid hMY
  clear keepY hMY hPY x0 x1 x2 x3 x4 x5 xl p0 p1 p2 p3 p4 p5 p6 pl
  obtain ⟨F2, hMA2, -⟩ := YM.out
  have MA2 := Lib.hid hMA2
  clear hMA2
  have x0 := (heap_cell YX 0).trans rfl
  have x1 := (heap_cell YX 1).trans rfl
  have x2 := (heap_cell YX 2).trans rfl
  have x3 := (heap_cell YX 3).trans rfl
  have x4 := (heap_cell YX 4).trans rfl
  have x5 := (heap_cell YX 5).trans rfl
  have m0 := (heap_cell Ym 0).trans rfl
  have m1 := (heap_cell Ym 1).trans rfl
  have m2 := (heap_cell Ym 2).trans rfl
  have r0 := (heap_cell Yp 0).trans rfl
  have r1 := (heap_cell Yp 1).trans rfl
  have r2 := (heap_cell Yp 2).trans rfl
  have r3 := (heap_cell Yp 3).trans rfl
  have r4 := (heap_cell Yp 4).trans rfl
  have r5 := (heap_cell Yp 5).trans rfl
  have r6 := (heap_cell Yp 6).trans rfl
  have xl := heap_lt YX
  have ml := heap_lt Ym
  have rl := heap_lt Yp
  clear YX Ym Yp
  go_wp2_with (first | (go_at_call 22; refine (HRm.out _ (SAt.ext YS.out (by repeat (first | exact Ext.refl _ | assumption | refine Ext.alloc ?_ _ | refine Ext.drew ?_ | refine Ext.setCell ?_ (by first | (simp; done) | (dsimp only; omega)) _ | refine Ext.trans ?_ (by assumption)))) ((StepsAt.ofT YO.out).ext (by repeat (first | exact Ext.refl _ | assumption | refine Ext.alloc ?_ _ | refine Ext.drew ?_ | refine Ext.setCell ?_ (by first | (simp; done) | (dsimp only; omega)) _ | refine Ext.trans ?_ (by assumption))))).mono ?_; rintro e y1 ⟨sb, sd, S2, rfl, hs2, hok2, hl2, hE2⟩) | (go_at_call 20; refine (same8_c mb F2 _ T S2 sb ta sd tc _ (MA2.out.ext (Ext.trans (by repeat (first | exact Ext.refl _ | assumption | refine Ext.alloc ?_ _ | refine Ext.drew ?_ | refine Ext.setCell ?_ (by first | (simp; done) | (dsimp only; omega)) _ | refine Ext.trans ?_ (by assumption))) hE2)) (SAt.ext hs2 (by repeat (first | exact Ext.refl _ | assumption | refine Ext.alloc ?_ _ | refine Ext.drew ?_ | refine Ext.setCell ?_ (by first | (simp; done) | (dsimp only; omega)) _ | refine Ext.trans ?_ (by assumption)))) (TrAt.ext YT.out (Ext.trans (by repeat (first | exact Ext.refl _ | assumption | refine Ext.alloc ?_ _ | refine Ext.drew ?_ | refine Ext.setCell ?_ (by first | (simp; done) | (dsimp only; omega)) _ | refine Ext.trans ?_ (by assumption))) hE2)) hok2 (by omega) (by omega)).mono ?_; rintro e y2 ⟨rfl, hE3⟩))
  go_ret
  exact ⟨rfl, YE.out.trans ((Ext.trans (by repeat (first | exact Ext.refl _ | assumption | refine Ext.alloc ?_ _ | refine Ext.drew ?_ | refine Ext.setCell ?_ (by first | (simp; done) | (dsimp only; omega)) _ | refine Ext.trans ?_ (by assumption))) hE2).trans (Ext.trans (by repeat (first | exact Ext.refl _ | assumption | refine Ext.alloc ?_ _ | refine Ext.drew ?_ | refine Ext.setCell ?_ (by first | (simp; done) | (dsimp only; omega)) _ | refine Ext.trans ?_ (by assumption))) hE3))⟩
end Go.Proofs.Ytfaekfdngkpkdaa
