/- WalkSteps: a walk has one to four steps, one on each level from 4 on; it loads just their slots: for all words, all addresses and roots. -/
import Derived.Test.YtkoohedbbdgjjaaRLaw8A
import Derived.Test.YtkoohedbbdgjjaaRWalkE
namespace Go.Proofs.YtkoohedbbdgjjaaR
set_option linter.unusedVariables false
set_option linter.unusedSimpArgs false
open Go.RowKit
attribute [local go_sem] wext_cell wext_frozen wext_heap alloc_cell alloc_frozen alloc_heap setCell_cell objCell_cells objFrozen_cells

def rtB (x y : Rt) : Bool := decide (x = y)
theorem rt_equal (x y : Rt) (w : World) : (Op.equal 31 (.agg #[.bool x.1, .bool x.2.1, .bool x.2.2]) (.agg #[.bool y.1, .bool y.2.1, .bool y.2.2])).run Try.prog w = .ok (decide (x = y)) w := by
  show (Op.equalIn 10000 _ _ _).run _ _ = _
  obtain ⟨p, l, t⟩ := x
  obtain ⟨p', l', t'⟩ := y
  simp [go_sem]
  by_cases h1 : p = p' <;> by_cases h2 : l = l' <;> by_cases h3 : t = t' <;> simp [*]
theorem rt_eql (p l t p' l' t' : Bool) (w : World) : (binOp .eql 31 (.agg #[.bool p, .bool l, .bool t]) (.agg #[.bool p', .bool l', .bool t'])).run Try.prog w = .ok (.bool (rtB (p, l, t) (p', l', t'))) w := by
  have := rt_equal (p, l, t) (p', l', t') w
  rw [run_eql_struct]
  show ((Op.equal _ _ _).run _ _).andThen _ = _
  rw [this]; rfl
theorem rt_neq (p l t p' l' t' : Bool) (w : World) : (binOp .neq 31 (.agg #[.bool p, .bool l, .bool t]) (.agg #[.bool p', .bool l', .bool t'])).run Try.prog w = .ok (.bool (!rtB (p, l, t) (p', l', t'))) w := by
  have := rt_equal (p, l, t) (p', l', t') w
  rw [run_neq_struct]
  show ((Op.equal _ _ _).run _ _).andThen _ = _
  rw [this]; rfl
theorem rtB_self (r : Rt) : rtB r r = true := by simp [rtB]
attribute [local go_sem high] rt_eql rt_neq
theorem Owns.word {U : World} {sa : Option Addr} {n sc : Nat} {xs : List Int} (h : Owns U 27 1 (.slice sa n sc) n (xs.map (.int .u64 ·))) {i : Nat} (hi : i < n) (hn : n = n) :
    ∃ g, sa = some ⟨g, 0, none⟩ ∧ g < U.heap.size ∧ U.cell? ⟨g, i, none⟩ = some (.int .u64 (xs.getD i 0)) := by
  obtain ⟨g, hg⟩ : ∃ g, sa = some ⟨g, 0, none⟩ := by
    rcases h.2 with ⟨h1, h0⟩ | ⟨g, _, _, he, _⟩
    · omega
    · exact ⟨g, by injection he⟩
  subst hg
  have hl : xs.length = n := by have := h.1; simpa using this
  exact ⟨g, rfl, h.lt g rfl, h.cells (g := g) rfl i _ (by simp [List.getD, hl, hi])⟩
theorem bit0 (x : Int) : bitB x 0 = (x % 2 == 1) := by unfold bitB; rw [show pow2 0 = 1 from rfl, Int.ediv_one]

set_option maxHeartbeats 4000000 in
set_option maxRecDepth 100000 in
theorem walkSteps_c (v : Value) (ds : List PutD) (n root : Int) (w : World) (h : ListAt w v 4 PutD.cells PutD.ok ds) (hn0 : 0 ≤ n) (hn1 : n ≤ 4294967295) (hr0 : 0 ≤ root) (hr1 : root ≤ 255) :
    Calls Try.prog 4 #[v, .int .u32 n, .int .u8 root] w fun e w' => e = .returned (.bool true) ∧ Ext w w' := by
  have HL := Lib.hid h
  obtain ⟨a, cap, rfl, -, -, -, -⟩ := h
  have ht : tabI (root % 16 * 4096) = root % 16 * 4096 := by unfold tabI; omega
  have HT := Lib.hid (fun w => by have := wTop_c (root % 16 * 4096) w (by omega) (by omega); rw [ht] at this; exact this)
  have HNr := Lib.hid (fun w => near_c n w hn0 hn1)
  have ⟨na0, na1⟩ := nearI_le hn0
  have hok := fun hM => walk_ok (M := builtM (ds.take 100)) hM (nxe := true) (a := nearI n) 4 (root % 16 * 4096) allRt (by omega) (by omega) (by rw [ht]; omega)
  generalize nearI n = na at *
  have HOk := Lib.hid hok
  clear hok ht
  go_enter Try.func4, Try.ntmps4
  go_upto_region 5 with (first | (go_at_call 18; refine (awake08_c _).mono ?_; rintro e w0 ⟨rfl, hb0⟩) | (go_at_call 19; refine (built_m _ ds _ (HL.out.ext (by repeat (first | exact Ext.refl _ | assumption | refine Ext.alloc ?_ _ | refine Ext.drew ?_ | refine Ext.setCell ?_ (by first | (simp; done) | (dsimp only; omega)) _ | refine Ext.trans ?_ (by assumption))))).mono ?_; rintro e w1 ⟨mb, rfl, hM, hE⟩))
  have M1 := Lib.hid (hM.mono (base' := w.heap.size) (Ext.size (Ext.trans (by repeat (first | exact Ext.refl _ | assumption | refine Ext.alloc ?_ _ | refine Ext.drew ?_ | refine Ext.setCell ?_ (by first | (simp; done) | (dsimp only; omega)) _ | refine Ext.trans ?_ (by assumption))) hb0)))
  have E1 : Hid (Ext w w1) := Lib.hid (hb0.trans hE)
  clear hM hE hb0
  go_upto_region 6 with (first | (go_at_call 22; refine (HT.out _).mono ?_; rintro e w2 ⟨rfl, hb2⟩) | (go_at_call 20; refine (HNr.out _).mono ?_; rintro e w3 ⟨rfl, hb3⟩) | (go_at_call 21; refine (from_m w.heap.size mb 16 (builtM (ds.take 100)) [] 4 (root % 16 * 4096) allRt na true _ (M1.out.ext (by repeat (first | exact Ext.refl _ | assumption | refine Ext.alloc ?_ _ | refine Ext.drew ?_ | refine Ext.setCell ?_ (by first | (simp; done) | (dsimp only; omega)) _ | refine Ext.trans ?_ (by assumption)))) (E1.out.trans (by repeat (first | exact Ext.refl _ | assumption | refine Ext.alloc ?_ _ | refine Ext.drew ?_ | refine Ext.setCell ?_ (by first | (simp; done) | (dsimp only; omega)) _ | refine Ext.trans ?_ (by assumption)))).size (by omega) (by omega) (by omega) (by omega) (by omega) (by simp)).mono ?_; rintro e w4 ⟨sa, sc, rfl, hS, hM4, hP4⟩))
  refine wp_gen ?_; intro U hU
  have hq := HOk.out M1.out.wide
  have HWd : Hid (∀ (i : Nat) (s : Stp), (walkF (builtM (ds.take 100)) 16 true na 4 (root % 16 * 4096) allRt).1[i]? = some s → 0 ≤ s.2.2 ∧ s.2.2 ≤ 18446744073709551615) := Lib.hid (fun i s h => (walk_at M1.out.wide h).2.2)
  obtain ⟨q, hq7⟩ : ∃ q, walkF (builtM (ds.take 100)) 16 true na 4 (root % 16 * 4096) allRt = q := ⟨_, rfl⟩
  rw [hq7] at hq hS hM4 HWd
  have hE3 : Ext w w3 := E1.out.trans (Ext.trans (by repeat (first | exact Ext.refl _ | assumption | refine Ext.alloc ?_ _ | refine Ext.drew ?_ | refine Ext.setCell ?_ (by first | (simp; done) | (dsimp only; omega)) _ | refine Ext.trans ?_ (by assumption))) hb3)
  have hEU : Ext w U := by rw [hU]; exact (Sep.to_ext ((Sep.of_ext hE3 (Nat.le_refl _)).trans hP4)).alloc _
  have hPU : PathAt U w4.heap.size sa sc q := by rw [hU, hq7]; exact ⟨alloc_same .., hS.ext ((Ext.refl _).alloc _)⟩
  have hMU : MemIn w.heap.size U mb 16 (builtM (ds.take 100)) (q.1.map (·.2.1)) := by rw [hU]; exact (by simpa using hM4 : MemIn w.heap.size w4 mb 16 (builtM (ds.take 100)) (q.1.map (·.2.1))).ext ((Ext.refl _).alloc _)
  rw [hq7]
  obtain ⟨pb, hpb⟩ : ∃ pb, w4.heap.size = pb := ⟨_, rfl⟩
  rw [hpb] at hPU ⊢
  have EU := Lib.hid hEU
  have PU := Lib.hid hPU
  have MU := Lib.hid hMU
  have HQ := Lib.hid hq
  have hlen := hq.len
  obtain ⟨hlen1, hlen2⟩ := hlen
  clear hU hEU hPU hMU hq hS hM4 hP4 hE3 hb2 hb3 hpb hq7
  go_upto_region 7 with (first | (go_at_call 25; refine (trace_m w.heap.size mb 16 _ (q.1.map (·.2.1)) _ (MU.out.ext (by repeat (first | exact Ext.refl _ | assumption | refine Ext.alloc ?_ _ | refine Ext.drew ?_ | refine Ext.setCell ?_ (by first | (simp; done) | (dsimp only; omega)) _ | refine Ext.trans ?_ (by assumption)))) (by simp; omega)).mono ?_; rintro e w5 ⟨v5, rfl, hS5, hE5, -⟩; obtain ⟨ta, tc, rfl, -, -⟩ := hS5.form))
  have P5 := PU.out.ext hE5
  obtain ⟨⟨c0, c1, c2, c3, c4, c5, c6⟩, hpl⟩ := P5.facts
  have PP := Lib.hid P5
  have TT : Hid (Owns w5 27 1 (.slice ta q.1.length tc) q.1.length ((q.1.map (·.2.1)).map (.int .u64 ·))) := Lib.hid (by simpa using hS5)
  have E5 := Lib.hid (EU.out.trans hE5)
  clear hS5 hE5 P5
  obtain ⟨L, why, rr, lv, fr⟩ := q
  dsimp only at *
  have hw1 : ((L.length : Int) < 1) = False := by simp; omega
  have hd4 : decide ((4 : Int) < (L.length : Int)) = false := by simp; omega
  go_upto_region 9 with (fail)
  clear c0 c1 c2 c3 c4 c5 c6 hw1 hd4 hpl
  go_wp2
  go_loopw [11] (fun i wr => ∃ j : Nat, j ≤ L.length ∧ i = .int .i64 j ∧ Hid (Ext w5 wr)) (fun i _ => L.length - (intOf i).toNat)
  case atStart => exact ⟨0, by omega, rfl, Lib.hid (Ext.refl _)⟩
  case round =>
    obtain ⟨j, hj, rfl, hR⟩ := hrel
    have hP := PP.out.ext hR.out
    obtain ⟨⟨c0, c1, c2, c3, c4, c5, c6⟩, hpl⟩ := hP.facts
    dsimp only at c0 c1 c2 c3 c4 c5 c6
    by_cases hlt : j < L.length
    · obtain ⟨g, rfl, hgl, s0, s1, s2⟩ := hP.2.step hlt rfl
      obtain ⟨tg, rfl, htl, t0⟩ := (TT.out.ext hR.out).word (i := j) (by simpa using hlt) rfl
      have hx : L[j]? = some (stpAt L j) := by simp [stpAt, List.getD, hlt]
      have e1 : (L.map (fun x : Stp => x.2.1)).getD j 0 = (stpAt L j).2.1 := by simp [stpAt, List.getD, hlt]
      rw [e1] at t0
      have hlev := HQ.out.lev j _ hx
      have hbit := HQ.out.bit j _ hx
      have hwd := HWd.out j _ hx
      rw [bit0] at hbit
      generalize stpAt L j = sj at s0 s1 s2 t0 hlev hbit hwd
      obtain ⟨lj, aj, xj⟩ := sj
      dsimp only at s0 s1 s2 t0 hlev hbit hwd
      have e4 : lj = 4 - (j : Int) := hlev
      subst e4
      clear hx e1 hlev c2 c3 c4 c5 c6 hP
      obtain ⟨xj0, xj1⟩ := hwd
      by_cases hlast : j + 1 = L.length
      · have hl : ((j : Int) == (L.length : Int) - 1) = true := by simp; omega
        by_cases hw : why = 1
        · subst hw
          have hb : (xj % 2 == 1) = false := by rw [hbit]; simp [hlast]
          clear hbit
          go_upto_region 14 with (fail)
          refine region_ext (by kernel_rfl) (by kernel_rfl) ?_; (repeat (go_big_quiet_step (fail))); refine wpQuiet_nil ?_; intro w1 hb; have ⟨hc, hf, hh, hs⟩ := hb.facts; try simp only [World.size_alloc, World.size_setCell, World.size_drew] at hs
          go_wp2
          refine ⟨⟨j + 1, by omega, by go_num, Lib.hid (hR.out.trans (by repeat (first | exact Ext.refl _ | assumption | refine Ext.alloc ?_ _ | refine Ext.drew ?_ | refine Ext.setCell ?_ (by first | (simp; done) | (dsimp only; omega)) _ | refine Ext.trans ?_ (by assumption))))⟩, by simp [intOf]; omega⟩
        · have hb : (xj % 2 == 1) = true := by rw [hbit]; simp [hlast, hw]
          have hw1 : (why != 1) = true := by simpa using hw
          clear hbit hw
          go_upto_region 14 with (fail)
          refine region_ext (by kernel_rfl) (by kernel_rfl) ?_; (repeat (go_big_quiet_step (fail))); refine wpQuiet_nil ?_; intro w1 hb; have ⟨hc, hf, hh, hs⟩ := hb.facts; try simp only [World.size_alloc, World.size_setCell, World.size_drew] at hs
          go_wp2
          refine ⟨⟨j + 1, by omega, by go_num, Lib.hid (hR.out.trans (by repeat (first | exact Ext.refl _ | assumption | refine Ext.alloc ?_ _ | refine Ext.drew ?_ | refine Ext.setCell ?_ (by first | (simp; done) | (dsimp only; omega)) _ | refine Ext.trans ?_ (by assumption))))⟩, by simp [intOf]; omega⟩
      · have hl : ((j : Int) == (L.length : Int) - 1) = false := by simp; omega
        have hb : (xj % 2 == 1) = true := by rw [hbit]; simp [hlast]
        clear hbit
        go_upto_region 14 with (fail)
        refine region_ext (by kernel_rfl) (by kernel_rfl) ?_; (repeat (go_big_quiet_step (fail))); refine wpQuiet_nil ?_; intro w1 hb; have ⟨hc, hf, hh, hs⟩ := hb.facts; try simp only [World.size_alloc, World.size_setCell, World.size_drew] at hs
        go_wp2
        refine ⟨⟨j + 1, by omega, by go_num, Lib.hid (hR.out.trans (by repeat (first | exact Ext.refl _ | assumption | refine Ext.alloc ?_ _ | refine Ext.drew ?_ | refine Ext.setCell ?_ (by first | (simp; done) | (dsimp only; omega)) _ | refine Ext.trans ?_ (by assumption))))⟩, by simp [intOf]; omega⟩
    · have hbad := HQ.out.bad
      have hgood := HQ.out.good
      dsimp only at hbad hgood
      by_cases hw : why = 0
      · subst hw
        obtain ⟨g1, g2, g3, g4⟩ := hgood rfl
        have e5 : lv = 5 - (L.length : Int) := by rw [g1]; omega
        subst e5
        clear hbad hgood g1
        go_wp2
        go_ret
        exact ⟨rfl, (E5.out.trans hR.out).trans (by repeat (first | exact Ext.refl _ | assumption | refine Ext.alloc ?_ _ | refine Ext.drew ?_ | refine Ext.setCell ?_ (by first | (simp; done) | (dsimp only; omega)) _ | refine Ext.trans ?_ (by assumption)))⟩
      · have hb := hbad hw
        injection hb with e1 e2
        injection e2 with e3 e4
        subst e1 e3 e4
        have hw0 : (why != 0) = true := by simpa using hw
        have hr := rtB_self noRt
        unfold noRt at hr
        clear hbad hgood hw
        dsimp only [noRt] at c2 c3 c4 c5 c6
        go_wp2
        go_ret
        exact ⟨rfl, (E5.out.trans hR.out).trans (by repeat (first | exact Ext.refl _ | assumption | refine Ext.alloc ?_ _ | refine Ext.drew ?_ | refine Ext.setCell ?_ (by first | (simp; done) | (dsimp only; omega)) _ | refine Ext.trans ?_ (by assumption)))⟩
end Go.Proofs.YtkoohedbbdgjjaaR
