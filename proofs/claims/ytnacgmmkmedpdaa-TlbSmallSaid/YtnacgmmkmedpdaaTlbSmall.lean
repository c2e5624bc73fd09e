/- TlbSmall: a run that is put is found for each page that it has, at that page's frame; for others of its group nothing of the level 1 is found: for all deeds and every deed. -/
import Derived.Test.YtnacgmmkmedpdaaTlbK
import Derived.Test.YtnacgmmkmedpdaaPuts
namespace Go.Proofs.Ytnacgmmkmedpdaa
set_option linter.unusedVariables false
set_option linter.unusedSimpArgs false
open Go.RowKit
attribute [local go_sem] wext_cell wext_frozen wext_heap alloc_cell alloc_frozen alloc_heap setCell_cell objCell_cells objFrozen_cells

def rightQ (a b c a' b' c' : Bool) : Bool := decide (a = a' ∧ b = b' ∧ c = c')
theorem rightQ_neq (a b c a' b' c' : Bool) (w : World) : (binOp .neq 36 (.agg #[.bool a, .bool b, .bool c]) (.agg #[.bool a', .bool b', .bool c'])).run Try.prog w = .ok (.bool (!rightQ a b c a' b' c')) w := by
  have h : (Op.equal 36 (.agg #[.bool a, .bool b, .bool c]) (.agg #[.bool a', .bool b', .bool c'])).run Try.prog w = .ok (rightQ a b c a' b' c') w := by
    show (Op.equalIn 10000 _ _ _).run _ _ = _
    simp [rightQ, go_sem]
    by_cases h1 : a = a' <;> by_cases h2 : b = b' <;> by_cases h3 : c = c' <;> simp [*]
  rw [run_neq_struct]
  show ((Op.equal _ _ _).run _ _).andThen _ = _
  rw [h]; rfl
attribute [local go_sem high] rightQ_neq

theorem small_look {p a b i : Int} {x : Line} {pick : Int} {r : Nat} {L : List (Key × Line)} (hm : x.m ≠ 0) (hk : kT p 1 b = kT p 1 a) (hi : placeI b = i) (hr : 0 < r) (hL : L.length ≤ r) (hn : (keysOf L).Nodup) :
    ∃ H s, lookR p b (smallL p a x pick r L) = (H, s) ∧ (bitB x.m i = true → H = ⟨hasF x i, 1, x.a, x.b, x.c, x.d⟩ ∧ s = true) ∧ (bitB x.m i = false → s = true → H.l ≠ 1) := by
  have hgr : smallL p a x pick r L = putC (kT p 1 a) x pick r L := by unfold smallL; rw [if_neg hm]
  have ⟨g1, g2⟩ := put_got (kT p 1 a) x pick r L hr hL hn
  rw [← hgr, ← hk] at g1 g2
  generalize smallL p a x pick r L = L' at g1 g2
  unfold lookR
  rw [g1, g2, hi]
  unfold resR
  cases hb : bitB x.m i
  · simp only [Bool.and_false, Bool.false_eq_true, if_false]
    split
    · exact ⟨_, _, rfl, (fun h => by cases h), (fun _ _ => by simp)⟩
    · split
      · exact ⟨_, _, rfl, (fun h => by cases h), (fun _ _ => by simp)⟩
      · exact ⟨_, _, rfl, (fun h => by cases h), (fun _ _ => by simp)⟩
  · exact ⟨_, _, rfl, (fun _ => ⟨rfl, rfl⟩), (fun h => by cases h)⟩

set_option maxHeartbeats 4000000 in
set_option maxRecDepth 20000 in
theorem tlbSmall_c (v : Value) (ds : List TDeed) (d : TDeed) (w : World) (hds : TDeedsAt w v ds) (hd : d.ok) :
    Calls Try.prog 10 #[v, d.val] w fun e w' => e = .returned (.bool true) ∧ Ext w w' := by
  have hrun := fun w' (hx : Ext w w') => run13_c v ds w' (hds.ext hx)
  obtain ⟨va, cap, rfl, hn, hm, hok, -⟩ := hds
  unfold EndRunT at hrun
  have hLok := foldT_ok100 5 ds hok
  obtain ⟨L, hLe⟩ : ∃ L, foldT 5 (ds.take 100) = L := ⟨_, rfl⟩
  rw [hLe] at hrun hLok
  clear hLe
  have HR := Lib.hid hrun
  clear hrun hok
  obtain ⟨kind, p, pick, a, ⟨xf, xa, xb, xc, xd, xm⟩, ⟨uf, ul, ua, ub, uc, ud⟩⟩ := d
  obtain ⟨⟨hp0, hp1⟩, ⟨ha0, ha1⟩, hxo⟩ := hd
  dsimp only at hp0 hp1 ha0 ha1 hxo
  unfold TDeed.val
  dsimp only
  go_enter Try.func10, Try.ntmps10
  go_upto_region 3 with (first | (go_at_call 37; refine (awake13_c _).mono ?_; rintro e w0 ⟨rfl, hb0⟩) | (go_at_call 44; refine (HR.out _ (Ext.trans (by repeat (first | exact Ext.refl _ | assumption | refine Ext.alloc ?_ _ | refine Ext.drew ?_ | refine Ext.setCell ?_ (by first | (simp; done) | (dsimp only; omega)) _ | refine Ext.trans ?_ (by assumption))) hb0)).mono ?_; rintro e w1 ⟨tb, cb, F, rfl, hC, hE, hF⟩))
  have hbx := (hb0.block w.heap.size (by simp)).trans (alloc_same ..)
  have E0 : Ext w w0 := Ext.trans (by repeat (first | exact Ext.refl _ | assumption | refine Ext.alloc ?_ _ | refine Ext.drew ?_ | refine Ext.setCell ?_ (by first | (simp; done) | (dsimp only; omega)) _ | refine Ext.trans ?_ (by assumption))) hb0
  have hlt0 := heap_lt hbx
  have hFw : ∀ x ∈ F, w.heap.size < x := fun x hx => by have := hF x hx; omega
  have B1 := Lib.hid ((hE.block _ hlt0).trans hbx)
  have HC := Lib.hid hC
  have HF := Lib.hid hFw
  have HE := Lib.hid (E0.trans hE)
  have hnd := Lib.hid hC.2.nodup
  have ⟨hr1, hr2⟩ := hC.2.room
  have hl1 := heap_lt B1.out
  clear hC hE hF hFw hb0 E0 hbx
  have x1 := (heap_cell B1.out 1).trans rfl
  have x2 := (heap_cell B1.out 2).trans rfl
  have x3 := (heap_cell B1.out 3).trans rfl
  have x4 := (heap_cell B1.out 4).trans rfl
  have x5 := (heap_cell B1.out 5).trans rfl
  have x6 := (heap_cell B1.out 6).trans rfl
  have x7 := (heap_cell B1.out 7).trans rfl
  have x8 := (heap_cell B1.out 8).trans rfl
  have x9 := (heap_cell B1.out 9).trans rfl
  by_cases hz : xm = 0
  · have hzb : (xm == 0) = true := by simpa using hz
    go_wp2
    go_ret
    exact ⟨rfl, HE.out⟩
  have hzb : (xm == 0) = false := by simpa using hz
  go_upto_region 6 with (first | (go_at_call 45; refine (small_c tb cb F L 5 p a ⟨xf, xa, xb, xc, xd, xm⟩ pick _ (HC.out.ext (by repeat (first | exact Ext.refl _ | assumption | refine Ext.alloc ?_ _ | refine Ext.drew ?_ | refine Ext.setCell ?_ (by first | (simp; done) | (dsimp only; omega)) _ | refine Ext.trans ?_ (by assumption)))) ha0 ha1 hp0 hp1).mono ?_; rintro e w3 ⟨rfl, F3, hC3, hK3, hF3⟩))
  have hlk := fun b i hk hi => small_look (p := p) (a := a) (b := b) (i := i) (x := ⟨xf, xa, xb, xc, xd, xm⟩) (pick := pick) (r := 5) (L := L) hz hk hi (by omega) hr1 hnd.out
  have hLok' : LOk (smallL p a ⟨xf, xa, xb, xc, xd, xm⟩ pick 5 L) := by
    unfold smallL
    rw [if_neg hz]
    exact hLok.put hxo
  generalize smallL p a ⟨xf, xa, xb, xc, xd, xm⟩ pick 5 L = L' at *
  have B3 := Lib.hid ((hK3.block _ hl1 (fun h => by have := HF.out _ h; omega)).trans B1.out)
  have C3 := Lib.hid hC3
  have E3 := Lib.hid (Keeps.to_ext HE.out hK3 fun x hx => Nat.le_of_lt (HF.out x hx))
  have HLKS := Lib.hid hlk
  clear hC3 hK3 hF3 hlk x1 x2 x3 x4 x5 x6 x7 x8 x9
  have hl3 := heap_lt B3.out
  have x3 := (heap_cell B3.out 3).trans rfl
  go_upto_region 7 with (fail)
  clear x3
  go_wp2
  go_loopw [8] (fun ii wr => ∃ q : Nat, q ≤ 8 ∧ ii = .int .i64 q ∧ Hid (Ext w3 wr)) (fun ii _ => 8 - (intOf ii).toNat)
  case atStart => exact ⟨0, by omega, rfl, Lib.hid (Ext.refl _)⟩
  case round =>
    obtain ⟨q, hq, rfl, hQ⟩ := hrel
    by_cases hlt : q < 8
    · have hB := (hQ.out.block _ hl3).trans B3.out
      have hlB := heap_lt hB
      have x1 := (heap_cell hB 1).trans rfl
      have x3 := (heap_cell hB 3).trans rfl
      have BW := Lib.hid hB
      clear hB
      have hk1 : kT p 1 (a / 32768 * 32768 + 4096 * (q : Int) + a % 4096) = kT p 1 a := by
        unfold kT szT; simp only [if_true]; congr 1; omega
      have hpl : placeI (a / 32768 * 32768 + 4096 * (q : Int) + a % 4096) = q := by unfold placeI; omega
      obtain ⟨H, s, e1, e2, e3⟩ := HLKS.out _ _ hk1 hpl
      have hlook := fun w1 (hx : Ext w3 w1) => look_c tb cb F3 L' 5 p (a / 32768 * 32768 + 4096 * (q : Int) + a % 4096) w1 (C3.out.ext hx) hLok' (by omega) (by omega)
      have hhas := fun w1 => has_c ⟨xf, xa, xb, xc, xd, xm⟩ q w1 hxo (by omega) (by omega)
      unfold lookV at hlook
      rw [e1] at hlook
      obtain ⟨qf, ql, qa, qb, qc, qd⟩ := H
      unfold Hit.val at hlook
      unfold Line.val at hhas
      dsimp only at hlook hhas e2 e3
      generalize hasF ⟨xf, xa, xb, xc, xd, xm⟩ q = hfr at hhas e2
      generalize bitB xm q = bt at hhas e2 e3
      have HLK := Lib.hid hlook
      have HHS := Lib.hid hhas
      clear hlook hhas e1
      go_upto_region 11 with (first | (go_at_call 40; refine (HLK.out _ (hQ.out.trans (by repeat (first | exact Ext.refl _ | assumption | refine Ext.alloc ?_ _ | refine Ext.drew ?_ | refine Ext.setCell ?_ (by first | (simp; done) | (dsimp only; omega)) _ | refine Ext.trans ?_ (by assumption))))).mono ?_; rintro e w5 ⟨rfl, hb5⟩))
      refine wp_gen ?_; intro V hV
      have EV : Ext wr V := by rw [hV]; exact (Ext.trans (by repeat (first | exact Ext.refl _ | assumption | refine Ext.alloc ?_ _ | refine Ext.drew ?_ | refine Ext.setCell ?_ (by first | (simp; done) | (dsimp only; omega)) _ | refine Ext.trans ?_ (by assumption))) hb5).alloc _
      have n8 : V.heap[w5.heap.size]? = some (.cells #[.int .u64 qf, .int .i64 ql, .bool qa, .bool qb, .bool qc, .bool qd] 70 (0, 0)) := by rw [hV]; exact alloc_same ..
      have hB := (EV.block _ hlB).trans BW.out
      have hl8 := heap_lt n8
      generalize w5.heap.size = b8 at n8 hl8 ⊢
      have N8 := Lib.hid n8
      have BV := Lib.hid hB
      have HEV := Lib.hid (hQ.out.trans EV)
      clear hV hb5 EV n8 x1 x3
      have x4 := (heap_cell hB 4).trans rfl
      have x5 := (heap_cell hB 5).trans rfl
      have x6 := (heap_cell hB 6).trans rfl
      have x7 := (heap_cell hB 7).trans rfl
      have x8 := (heap_cell hB 8).trans rfl
      have x9 := (heap_cell hB 9).trans rfl
      clear hB
      go_upto_region 12 with (first | (go_at_call 46; refine (HHS.out _).mono ?_; rintro e w6 ⟨rfl, hb6⟩))
      have hB := (hb6.block _ (heap_lt BV.out)).trans BV.out
      have n8 := (hb6.block _ hl8).trans N8.out
      have HE6 := Lib.hid (HEV.out.trans hb6)
      clear x4 x5 x6 x7 x8 x9 hb6
      have x4 := (heap_cell hB 4).trans rfl
      have x5 := (heap_cell hB 5).trans rfl
      have x6 := (heap_cell hB 6).trans rfl
      have x7 := (heap_cell hB 7).trans rfl
      have x8 := (heap_cell hB 8).trans rfl
      have x9 := (heap_cell hB 9).trans rfl
      have y0 := (heap_cell n8 0).trans rfl
      have y1 := (heap_cell n8 1).trans rfl
      have y2 := (heap_cell n8 2).trans rfl
      have y3 := (heap_cell n8 3).trans rfl
      have y4 := (heap_cell n8 4).trans rfl
      have y5 := (heap_cell n8 5).trans rfl
      clear hB n8
      cases bt
      · cases s
        · go_wp2
          exact ⟨⟨q + 1, by omega, by go_num, Lib.hid (HE6.out.trans (by repeat (first | exact Ext.refl _ | assumption | refine Ext.alloc ?_ _ | refine Ext.drew ?_ | refine Ext.setCell ?_ (by first | (simp; done) | (dsimp only; omega)) _ | refine Ext.trans ?_ (by assumption))))⟩, by simp [intOf]; omega⟩
        · have h1 := e3 rfl rfl
          have hqb : (ql == 1) = false := by simpa using h1
          clear e2 e3 h1
          go_wp2
          exact ⟨⟨q + 1, by omega, by go_num, Lib.hid (HE6.out.trans (by repeat (first | exact Ext.refl _ | assumption | refine Ext.alloc ?_ _ | refine Ext.drew ?_ | refine Ext.setCell ?_ (by first | (simp; done) | (dsimp only; omega)) _ | refine Ext.trans ?_ (by assumption))))⟩, by simp [intOf]; omega⟩
      · obtain ⟨hh1, rfl⟩ := e2 rfl
        simp only [Hit.mk.injEq] at hh1
        obtain ⟨rfl, rfl, rfl, rfl, rfl, rfl⟩ := hh1
        have hrQ : rightQ qa qb qc qa qb qc = true := by simp [rightQ]
        clear e3
        go_wp2
        exact ⟨⟨q + 1, by omega, by go_num, Lib.hid (HE6.out.trans (by repeat (first | exact Ext.refl _ | assumption | refine Ext.alloc ?_ _ | refine Ext.drew ?_ | refine Ext.setCell ?_ (by first | (simp; done) | (dsimp only; omega)) _ | refine Ext.trans ?_ (by assumption))))⟩, by simp [intOf]; omega⟩
    · go_wp2
      go_ret
      exact ⟨rfl, E3.out.trans (hQ.out.trans (by repeat (first | exact Ext.refl _ | assumption | refine Ext.alloc ?_ _ | refine Ext.drew ?_ | refine Ext.setCell ?_ (by first | (simp; done) | (dsimp only; omega)) _ | refine Ext.trans ?_ (by assumption))))⟩
end Go.Proofs.Ytnacgmmkmedpdaa
