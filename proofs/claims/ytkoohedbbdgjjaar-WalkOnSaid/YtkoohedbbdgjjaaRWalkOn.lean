/- WalkOn: from the place to which a step leads a walk goes on as the whole one does; its rights are those so far, and those of the steps behind: for all words and addresses. -/
import Derived.Test.YtkoohedbbdgjjaaRLaw8A
import Derived.Test.YtkoohedbbdgjjaaRRt
import Derived.Test.YtkoohedbbdgjjaaRWalkE
import Derived.Test.YtkoohedbbdgjjaaRMixA
namespace Go.Proofs.YtkoohedbbdgjjaaR
set_option linter.unusedVariables false
set_option linter.unusedSimpArgs false
open Go.RowKit
attribute [local go_sem] wext_cell wext_frozen wext_heap alloc_cell alloc_frozen alloc_heap setCell_cell objCell_cells objFrozen_cells
attribute [local go_sem high] rt_eql rt_neq st_eql st_neq

theorem foldR_take (r : Rt) (L : List Stp) (j : Nat) (h : j < L.length) : foldR r (L.take (j + 1)) = andR (foldR r (L.take j)) (stpAt L j).2.2 := by
  have e : L.take (j + 1) = L.take j ++ [stpAt L j] := by rw [List.take_add_one, List.getElem?_eq_getElem h]; simp [stpAt, List.getD, h]
  rw [e, foldR, List.foldl_append]; rfl
theorem walk_from {M : Int → Int} {B : Int} {nxe : Bool} {a : Int} (hM : ∀ s, 0 ≤ M s) {n k : Nat} {t : Int} {r : Rt} {L : List Stp} {q : WRes} (ht : 0 ≤ t) (hq : walkF M B nxe a n t r = (L, q)) (hk : k < L.length) :
    k < n ∧ (stpAt L k).1 = (n : Int) - k ∧ walkF M B nxe a (n - k) (stpAt L k).2.1 (foldR r (L.take k)) = (L.drop k, q) := by
  obtain ⟨t', h0, h1, h2, h3⟩ := walk_drop hM k n t r ht (nxe := nxe) (a := a) (B := B) (by rw [hq]; exact hk)
  rw [hq] at h2 h3
  have hx : L[k]? = some (stpAt L k) := by simp [stpAt, List.getD, hk]
  dsimp only at h2 h3
  rw [hx] at h2
  simp only [Option.map_some, Option.some.injEq, Prod.mk.injEq] at h2
  refine ⟨h1, h2.1, ?_⟩
  rw [← h3, h2.2]
  exact walkF_tab (tab_slot h0)

set_option maxHeartbeats 1000000 in
set_option maxRecDepth 100000 in
theorem walkOn_c (v : Value) (ds : List PutD) (n at_ : Int) (w : World) (h : ListAt w v 4 PutD.cells PutD.ok ds) (hn0 : 0 ≤ n) (hn1 : n ≤ 4294967295) (hr0 : 0 ≤ at_) (hr1 : at_ ≤ 255) :
    Calls Try.prog 3 #[v, .int .u32 n, .int .u8 at_] w fun e w' => e = .returned (.bool true) ∧ Ext w w' := by
  have HL := Lib.hid h
  obtain ⟨a, cap, rfl, -, -, -, -⟩ := h
  have t2 : ∀ w, Calls Try.prog 22 #[.int .u64 0] w fun e w' => e = .returned (.agg #[.int .i64 4, .int .u64 0, .bool true, .bool true, .bool true]) ∧ Ext w w' := fun w => wTop_c 0 w (by omega) (by omega)
  have HT := Lib.hid t2
  have HNr := Lib.hid (fun w => near_c n w hn0 hn1)
  have ⟨na0, na1⟩ := nearI_le hn0
  have hok := fun hM => walk_ok (M := builtM (ds.take 100)) hM (nxe := true) (a := nearI n) 4 0 allRt (by omega) (by omega) (by decide)
  generalize nearI n = na at *
  have HOk := Lib.hid hok
  clear hok t2
  go_enter Try.func3, Try.ntmps3
  go_upto_region 5 with (first | (go_at_call 18; refine (awake08_c _).mono ?_; rintro e w0 ⟨rfl, hb0⟩) | (go_at_call 19; refine (built_m _ ds _ (HL.out.ext (by repeat (first | exact Ext.refl _ | assumption | refine Ext.alloc ?_ _ | refine Ext.drew ?_ | refine Ext.setCell ?_ (by first | (simp; done) | (dsimp only; omega)) _ | refine Ext.trans ?_ (by assumption))))).mono ?_; rintro e w1 ⟨mb, rfl, hM, hE⟩))
  have M1 := Lib.hid (hM.mono (base' := w.heap.size) (Ext.size (Ext.trans (by repeat (first | exact Ext.refl _ | assumption | refine Ext.alloc ?_ _ | refine Ext.drew ?_ | refine Ext.setCell ?_ (by first | (simp; done) | (dsimp only; omega)) _ | refine Ext.trans ?_ (by assumption))) hb0)))
  have E1 : Hid (Ext w w1) := Lib.hid (hb0.trans hE)
  clear hM hE hb0
  go_upto_region 6 with (first | (go_at_call 20; refine (HNr.out _).mono ?_; rintro e w3 ⟨rfl, hb3⟩))
  go_upto_region 7 with (first | (go_at_call 22; refine (HT.out _).mono ?_; rintro e w2 ⟨rfl, hb2⟩) | (go_at_call 21; refine (from_m w.heap.size mb 16 (builtM (ds.take 100)) [] 4 0 allRt na true _ (M1.out.ext (Ext.trans hb3 (by repeat (first | exact Ext.refl _ | assumption | refine Ext.alloc ?_ _ | refine Ext.drew ?_ | refine Ext.setCell ?_ (by first | (simp; done) | (dsimp only; omega)) _ | refine Ext.trans ?_ (by assumption))))) (E1.out.trans (Ext.trans hb3 (by repeat (first | exact Ext.refl _ | assumption | refine Ext.alloc ?_ _ | refine Ext.drew ?_ | refine Ext.setCell ?_ (by first | (simp; done) | (dsimp only; omega)) _ | refine Ext.trans ?_ (by assumption))))).size (by omega) (by omega) (by omega) (by omega) (by omega) (by simp)).mono ?_; rintro e w4 ⟨sa, sc, rfl, hS, hM4, hP4⟩))
  refine wp_gen ?_; intro U hU
  have hq := HOk.out M1.out.wide
  have HWd : Hid (∀ (i : Nat) (s : Stp), (walkF (builtM (ds.take 100)) 16 true na 4 0 allRt).1[i]? = some s → 0 ≤ s.2.2 ∧ s.2.2 ≤ 18446744073709551615) := Lib.hid (fun i s h => (walk_at M1.out.wide h).2.2)
  have HFr := Lib.hid (fun (L : List Stp) (k : Nat) (q : WRes) h hk => walk_from (M := builtM (ds.take 100)) (B := 16) (nxe := true) (a := na) (fun s => (M1.out.wide s).1) (n := 4) (k := k) (t := 0) (r := allRt) (L := L) (q := q) (by omega) h hk)
  obtain ⟨q, hq7⟩ : ∃ q, walkF (builtM (ds.take 100)) 16 true na 4 0 allRt = q := ⟨_, rfl⟩
  rw [hq7] at hq hS hM4 HWd
  have hE3 : Ext w w2 := E1.out.trans (hb3.trans (Ext.trans (by repeat (first | exact Ext.refl _ | assumption | refine Ext.alloc ?_ _ | refine Ext.drew ?_ | refine Ext.setCell ?_ (by first | (simp; done) | (dsimp only; omega)) _ | refine Ext.trans ?_ (by assumption))) hb2))
  have hEU : Ext w U := by rw [hU]; exact (Sep.to_ext ((Sep.of_ext hE3 (Nat.le_refl _)).trans hP4)).alloc _
  have hPU : PathAt U w4.heap.size sa sc q := by rw [hU, hq7]; exact ⟨alloc_same .., hS.ext ((Ext.refl _).alloc _)⟩
  have hMU : MemIn w.heap.size U mb 16 (builtM (ds.take 100)) (q.1.map (·.2.1)) := by rw [hU]; exact (by simpa using hM4 : MemIn w.heap.size w4 mb 16 (builtM (ds.take 100)) (q.1.map (·.2.1))).ext ((Ext.refl _).alloc _)
  rw [hq7]
  obtain ⟨pb, hpb⟩ : ∃ pb, w4.heap.size = pb := ⟨_, rfl⟩
  rw [hpb] at hPU ⊢
  have HQ7 := Lib.hid hq7
  have EU := Lib.hid hEU
  have PU := Lib.hid hPU
  have MU := Lib.hid hMU
  have HQ := Lib.hid hq
  obtain ⟨hlen1, hlen2⟩ := hq.len
  obtain ⟨⟨c0, c1, c2, c3, c4, c5, c6⟩, hpl⟩ := hPU.facts
  clear hU hEU hPU hMU hq hS hM4 hP4 hE3 hb2 hb3 hpb hq7
  obtain ⟨L, why, rr, lv, fr⟩ := q
  dsimp only at *
  have hl0 : ((L.length : Int) == 0) = false := by rw [beq_eq_false_iff_ne]; omega
  go_upto_region 10 with (fail)
  obtain ⟨k, hk⟩ : ∃ k : Nat, at_ % (L.length : Int) = (k : Int) := ⟨(at_ % (L.length : Int)).toNat, (Int.toNat_of_nonneg (Int.emod_nonneg _ (by omega))).symm⟩
  have hkl : k < L.length := by have := Int.emod_lt_of_pos at_ (b := (L.length : Int)) (by omega); omega
  rw [hk]
  clear hk hl0
  by_cases hk0 : k = 0
  · subst hk0
    go_wp2
    go_ret
    exact ⟨rfl, EU.out.trans (by repeat (first | exact Ext.refl _ | assumption | refine Ext.alloc ?_ _ | refine Ext.drew ?_ | refine Ext.setCell ?_ (by first | (simp; done) | (dsimp only; omega)) _ | refine Ext.trans ?_ (by assumption)))⟩
  have hkb : ((k : Int) == 0) = false := by rw [beq_eq_false_iff_ne]; omega
  clear c1 c2 c3 c4 c5 c6
  go_upto_region 13 with (first | (go_at_call 23; refine (rightAllE_c _).mono ?_; rintro e w5 ⟨rfl, hb5⟩))
  refine wp_gen ?_; intro V hV
  have hVE : Ext U V := by rw [hV]; exact hb5.alloc _
  have hVr : V.heap[w5.heap.size]? = some (.cells #[.bool true, .bool true, .bool true] 31 (0, 0)) := by rw [hV]; exact alloc_same ..
  obtain ⟨rb, hrb⟩ : ∃ rb, w5.heap.size = rb := ⟨_, rfl⟩
  have hrbU : U.heap.size ≤ rb := by rw [← hrb]; exact hb5.size
  rw [hrb] at hVr ⊢
  have VE := Lib.hid hVE
  have VR := Lib.hid hVr
  clear hV hVE hVr hrb hb5 c0 hpl
  go_wp2
  go_loopw [13] (fun i wr => ∃ j : Nat, j ≤ k ∧ i = .int .i64 j ∧ Hid (Ext U wr ∧ wr.heap[rb]? = some (.cells #[.bool (foldR allRt (L.take j)).1, .bool (foldR allRt (L.take j)).2.1, .bool (foldR allRt (L.take j)).2.2] 31 (0, 0)))) (fun i _ => k - (intOf i).toNat)
  case atStart => exact ⟨0, by omega, rfl, Lib.hid ⟨VE.out, VR.out⟩⟩
  case round =>
    obtain ⟨j, hj, rfl, hR⟩ := hrel
    have hP := PU.out.ext hR.out.1
    obtain ⟨⟨c0, c1, c2, c3, c4, c5, c6⟩, hpl⟩ := hP.facts
    have r0 := (heap_cell hR.out.2 0).trans rfl
    have r1 := (heap_cell hR.out.2 1).trans rfl
    have r2 := (heap_cell hR.out.2 2).trans rfl
    have rf := frozen_of hR.out.2
    have hrl := heap_lt hR.out.2
    dsimp only at c0 c1 c2 c3 c4 c5 c6
    by_cases hlt : j < k
    · obtain ⟨g, rfl, hgl, s0, s1, s2⟩ := hP.2.step (i := j) (by dsimp only; omega) rfl
      have hx : L[j]? = some (stpAt L j) := by simp [stpAt, List.getD, show j < L.length by omega]
      obtain ⟨hw0, hw1⟩ := HWd.out j _ hx
      have hst := foldR_take allRt L j (by omega)
      dsimp only at s0 s1 s2
      generalize (stpAt L j).2.2 = x at s2 hw0 hw1 hst
      have hR2 := hR.out.2
      generalize foldR allRt (L.take j) = ry at hst r0 r1 r2 hR2
      obtain ⟨y0, y1, y2⟩ := ry
      have HR2 := Lib.hid hR2
      clear hR2
      dsimp only at r0 r1 r2
      have HSt := Lib.hid hst
      have HAn := Lib.hid (fun w => rightAndE_c y0 y1 y2 x w hw0 hw1)
      have hjl : j < L.length := by omega
      clear hst c1 c2 c3 c4 c5 c6 hP hx s0 s1
      go_upto_region 16 with (fail)
      refine region_ext_tail 8 (by kernel_rfl) (by kernel_rfl) ?_; simp only [List.take_succ_cons, List.take_zero, List.drop_succ_cons, List.drop_zero]; (repeat (go_big_quiet_step (first | (go_at_call 24; exact calls_wext (HAn.out _))))); refine wpQuiet_nil ?_; intro w1 hb; have ⟨hc, hf, hh, hs⟩ := hb.facts; try simp only [World.size_alloc, World.size_setCell, World.size_drew] at hs
      have R1 := (hb.block rb hrl).trans HR2.out
      have d0 := (heap_cell R1 0).trans rfl
      have d1 := (heap_cell R1 1).trans rfl
      have d2 := (heap_cell R1 2).trans rfl
      have df := frozen_of R1
      have hrl1 := heap_lt R1
      have R1' := Lib.hid R1
      have HB := Lib.hid hb
      clear R1 hb hc hf hh r0 r1 r2 rf c0 s2
      go_wp2
      refine ⟨⟨j + 1, by omega, by go_num, Lib.hid ⟨(Ext.setCell (Ext.setCell (Ext.setCell (hR.out.1.trans HB.out) hrbU _) hrbU _) hrbU _), by rw [HSt.out]; exact setCell_heap_same (setCell_heap_same (setCell_heap_same R1'.out))⟩⟩, by simp [intOf]; omega⟩
    · obtain rfl : j = k := by omega
      obtain ⟨g, rfl, hgl, s0, s1, s2⟩ := hP.2.step (i := j) hkl rfl
      obtain ⟨hk4, hlv, hwf⟩ := HFr.out L j (why, rr, lv, fr) HQ7.out hkl
      have hx : L[j]? = some (stpAt L j) := by simp [stpAt, List.getD, hkl]
      have hlow := HQ.out.low j _ hx
      dsimp only at s0 s1 s2
      rw [hlv, show (((4 : Nat) : Int) - (j : Int)) = ((4 - j : Nat) : Int) by omega] at s0
      have hst : (stpAt L j).1 = ((4 - j : Nat) : Int) := by rw [hlv]; omega
      have hR2 := hR.out.2
      have hL9 : Hid (stpAt (L.drop j) 0 = stpAt L j) := Lib.hid (by simp [stpAt, List.getD])
      have hLD1 : (L.drop j).length = L.length - j := by simp
      generalize L.drop j = LD at hwf hL9 hLD1
      have HLD := Lib.hid hLD1
      clear hLD1
      generalize hsj : stpAt L j = sj at s0 s1 s2 hwf hlow hst hL9
      have HSJ := Lib.hid hsj
      clear hsj
      generalize foldR allRt (L.take j) = ry at r0 r1 r2 hR2 hwf
      obtain ⟨lj, aj, xj⟩ := sj
      dsimp only at s1 s2 hwf hlow hst
      subst hst
      have HWF := Lib.hid hwf
      obtain ⟨hlow0, hlow1, -⟩ := hlow
      have ha2 : aj ≤ 18446744073709551615 := by omega
      clear hlv hx c1 c2 c3 c4 c5 c6 hP rf hR2
      go_upto_region 17 with (fail)
      refine region_mixA 17 (.cells #[.slice none 0 0, .int .i64 0, .bool false, .bool false, .bool false, .int .i64 0, .int .u64 0] 33 (0, 0)) [.q [0, 1, 2, 3, 4, 5, 6, 7, 8, 9, 10, 11, 12, 13, 14, 15], .l 16 6, .l 17 4, .l 18 2] (by kernel_rfl) (by kernel_rfl) (alloc_runA rfl (by kernel_rfl : _ = some (some (Value.agg (#[.slice none 0 0, .int .i64 0, .bool false, .bool false, .bool false, .int .i64 0, .int .u64 0])))) rfl) ?_
      (repeat (unfold wpPlanA; simp only [pickL, List.map_cons, List.map_nil, List.getD_cons_succ, List.getD_cons_zero]; (repeat go_big_quiet_step (fail)); refine wpQuiet_nil ?_)); unfold wpPlanA; intro w5 hb; (try simp only [pickL, List.map_cons, List.map_nil, List.getD_cons_succ, List.getD_cons_zero])
      have HB := Lib.hid hb
      clear hb r0 r1 r2 c0 s0 s1 s2
      go_wp2_with (first | (go_at_call 21; refine (from_m w.heap.size mb 16 (builtM (ds.take 100)) (L.map (·.2.1)) (4 - j) aj ry na true _ (MU.out.ext (hR.out.1.trans HB.out)) (EU.out.trans (hR.out.1.trans HB.out)).size (by omega) (by omega) (by omega) (by omega) (by omega) (by simp; omega)).mono ?_; rw [HWF.out]; rintro e w6 ⟨sa6, sc6, rfl, hS6, hM6, hP6⟩))
      refine ⟨⟨?_, fun h => absurd h (by omega), fun _ b hb hbo => hP6.2 _ _ _ hbo (by decide) (by decide) (by decide)⟩, ?_⟩
      · have := HB.out.size; have := hP6.size; omega
      have P6 := Lib.hid ((PU.out.ext (hR.out.1.trans HB.out)).sep hP6)
      have E6 : Hid (Ext w w6) := Lib.hid (Sep.to_ext ((Sep.of_ext (EU.out.trans (hR.out.1.trans HB.out)) (Nat.le_refl _)).trans hP6))
      have S6 := Lib.hid hS6
      clear hS6 hM6 hP6
      (repeat (unfold wpPlanA; simp only [pickL, List.map_cons, List.map_nil, List.getD_cons_succ, List.getD_cons_zero]; (repeat go_big_quiet_step (fail)); refine wpQuiet_nil ?_)); unfold wpPlanA; intro qb w7 hb7 hb7B hb7O; simp only [List.getD_cons_succ, List.getD_cons_zero, ptrTo]; simp only [Act.put, Array.set!_eq_setIfInBounds, List.setIfInBounds_toArray, List.set_cons_succ, List.set_cons_zero]
      have hq7 := heap_lt hb7O
      have O7 := Lib.hid hb7O
      have B7 := Lib.hid hb7
      have hq7w : w6.heap.size ≤ qb ∨ True := .inr trivial
      clear hb7O hb7
      (repeat (unfold wpPlanA; simp only [pickL, List.map_cons, List.map_nil, List.getD_cons_succ, List.getD_cons_zero]; (repeat go_big_quiet_step (fail)); refine wpQuiet_nil ?_)); unfold wpPlanA; intro w8 hb8; (try simp only [pickL, List.map_cons, List.map_nil, List.getD_cons_succ, List.getD_cons_zero])
      have b8 := (hb8.block qb hq7).trans O7.out
      have k0 := (heap_cell b8 0).trans rfl
      have k1 := (heap_cell b8 1).trans rfl
      have k2 := (heap_cell b8 2).trans rfl
      have k3 := (heap_cell b8 3).trans rfl
      have k4 := (heap_cell b8 4).trans rfl
      have k5 := (heap_cell b8 5).trans rfl
      have k6 := (heap_cell b8 6).trans rfl
      have kf := frozen_of b8
      have hq8 := heap_lt b8
      have O8 := Lib.hid b8
      have B8 := Lib.hid (B7.out.trans hb8)
      clear b8 hb8
      go_wp2
      refine ⟨⟨by simp; have := heap_lt O8.out; omega, fun h => absurd h (by omega), fun h => absurd h (by omega)⟩, ?_⟩
      (repeat (unfold wpPlanA; simp only [pickL, List.map_cons, List.map_nil, List.getD_cons_succ, List.getD_cons_zero]; (repeat go_big_quiet_step (fail)); refine wpQuiet_nil ?_)); unfold wpPlanA; intro X hbX; (try simp only [pickL, List.map_cons, List.map_nil, List.getD_cons_succ, List.getD_cons_zero])
      have hneq : qb ≠ pb := by have := PU.out.facts.2; have := hR.out.1.size; omega
      have hPX := ((P6.out.ext B8.out).store7 O8.out hneq).ext hbX
      have hQX : PathAt X qb sa6 sc6 (LD, why, rr, lv, fr) := PathAt.ext ⟨store7_heap O8.out, (S6.out.ext B8.out).store7 O8.out (by decide)⟩ hbX
      have hEX : Ext w X := (ext7 (E6.out.trans B8.out) (by have := EU.out.size; have := hR.out.1.size; omega)).trans hbX
      obtain ⟨⟨c0, c1, c2, c3, c4, c5, c6⟩, hpl⟩ := hPX.facts
      clear k0 k1 k2 k3 k4 k5 k6 kf
      obtain ⟨⟨k0, k1, k2, k3, k4, k5, k6⟩, hql⟩ := hQX.facts
      obtain ⟨g2, hg2, hgl2, z0, z1, z2⟩ := hPX.2.step (i := j) hkl rfl
      have hdl : 0 < LD.length := by rw [HLD.out]; omega
      obtain ⟨g3, rfl, hgl3, y0, y1, y2⟩ := hQX.2.step (i := 0) hdl rfl
      have hg22 : g = g2 := by injection hg2 with hg2; injection hg2
      subst hg22
      have EX := Lib.hid hEX
      have hst9 := hL9.out
      have hlen9 : ((LD.length : Int) == (L.length : Int) - (j : Int)) = true := by rw [beq_iff_eq, HLD.out]; omega
      have hlen0 : ((LD.length : Int) == 0) = false := by rw [beq_eq_false_iff_ne, HLD.out]; omega
      dsimp only at c0 c1 c2 c3 c4 c5 c6 k0 k1 k2 k3 k4 k5 k6 y0 y1 y2 z0 z1 z2
      rw [hst9] at y0 y1 y2
      rw [HSJ.out] at z0 z1 z2
      have hrs := rtB_self (rr.1, rr.2.1, rr.2.2)
      have hz := stB_self (((4 - j : Nat) : Int), aj, xj)
      clear hg2 hst9 hPX hQX hEX hbX hneq
      go_upto_region 18 with (fail)
      refine region_ext (by kernel_rfl) (by kernel_rfl) ?_; (repeat (go_big_quiet_step (fail))); refine wpQuiet_nil ?_; intro w1 hb; have ⟨hc, hf, hh, hs⟩ := hb.facts; try simp only [World.size_alloc, World.size_setCell, World.size_drew] at hs
      go_wp2
      go_ret
      exact ⟨rfl, EX.out.trans (by repeat (first | exact Ext.refl _ | assumption | refine Ext.alloc ?_ _ | refine Ext.drew ?_ | refine Ext.setCell ?_ (by first | (simp; done) | (dsimp only; omega)) _ | refine Ext.trans ?_ (by assumption)))⟩
end Go.Proofs.YtkoohedbbdgjjaaR
