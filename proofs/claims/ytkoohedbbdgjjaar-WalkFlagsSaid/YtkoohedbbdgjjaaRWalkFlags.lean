/- WalkFlags: a walk hangs on no A and no D: with these turned in any slots it is the same but for them; marked, too: for all words, addresses and turns. -/
import Derived.Test.YtkoohedbbdgjjaaRLaw8A
import Derived.Test.YtkoohedbbdgjjaaRSame
import Derived.Test.YtkoohedbbdgjjaaRWalkE
namespace Go.Proofs.YtkoohedbbdgjjaaR
set_option linter.unusedVariables false
set_option linter.unusedSimpArgs false
open Go.RowKit
attribute [local go_sem] wext_cell wext_frozen wext_heap alloc_cell alloc_frozen alloc_heap setCell_cell objCell_cells objFrozen_cells
attribute [local go_sem high] rt_eql rt_neq st_eql st_neq

structure Turn where
  s : Int
  c : Int
deriving Inhabited
def Turn.cells (d : Turn) : List Value := [.int .u16 d.s, .int .u16 d.c]
def Turn.ok (d : Turn) : Prop := (0 ≤ d.s ∧ d.s ≤ 65535) ∧ (0 ≤ d.c ∧ d.c ≤ 65535)
def turnD : Dsc := .row [.int .u16, .int .u16]
theorem turns_of {W : World} {v : Value} (h : (Dsc.slice turnD).Is W [v]) : ∃ ds, ListAt W v 2 Turn.cells Turn.ok ds :=
  list_of (d := turnD) rfl (by decide) (fun _ => rfl) (fun cs hl hI => by
    match cs, hl with
    | [a, b], _ =>
      simp only [turnD, Dsc.Is, Dsc.IsAll, Dsc.size, Dsc.sizes, List.take_succ_cons, List.take_zero, List.drop_succ_cons, List.drop_zero, List.cons.injEq, and_true] at hI
      obtain ⟨⟨n0, rfl, w0⟩, ⟨n1, rfl, w1⟩⟩ := hI
      exact ⟨⟨n0, n1⟩, ⟨bounds_u16 w0, bounds_u16 w1⟩, rfl⟩) h
theorem xor_flags {x c : Int} (h0 : 0 ≤ x) (h1 : x ≤ 18446744073709551615) (c0 : 0 ≤ c) (c1 : c ≤ 3) : eqv x (bits BinOp.xor IntKind.u64 x (c * 32)) ∧ 0 ≤ bits BinOp.xor IntKind.u64 x (c * 32) ∧ bits BinOp.xor IntKind.u64 x (c * 32) ≤ 18446744073709551615 := by
  rw [u64_xor _ _ h0 (by omega) (by omega) (by omega)]
  have hm : (c * 32).toNat < 128 := by omega
  have hm2 : (c * 32).toNat % 32 = 0 := by omega
  have d1 : (x.toNat ^^^ (c * 32).toNat) / 128 = x.toNat / 128 := by
    have := Nat.xor_div_two_pow (a := x.toNat) (b := (c * 32).toNat) (n := 7)
    rw [show (2 : Nat) ^ 7 = 128 from rfl] at this
    rw [this, Nat.div_eq_of_lt hm, Nat.xor_zero]
  have d2 : (x.toNat ^^^ (c * 32).toNat) % 32 = x.toNat % 32 := by
    have := Nat.xor_mod_two_pow (a := x.toNat) (b := (c * 32).toNat) (n := 5)
    rw [show (2 : Nat) ^ 5 = 32 from rfl] at this
    rw [this, hm2, Nat.xor_zero]
  have d3 : x.toNat ^^^ (c * 32).toNat < 2 ^ 64 := Nat.xor_lt_two_pow (by omega) (by omega)
  generalize x.toNat ^^^ (c * 32).toNat = y at *
  unfold eqv
  omega
theorem steps_sep {P : Nat → Prop} {U : World} {sa : Option Addr} {sc : Nat} {L : List Stp} (h : Owns U 41 3 (.slice sa L.length sc) L.length (rowS L)) : ∀ V, SepP P U V → StepsAt V sa L := fun V k =>
  StepsAt.of (sc := sc) (h.keep fun g hg => by
    obtain ⟨c, hc⟩ := h.heap g hg
    rw [hc]; exact k.2 _ _ _ hc (by decide) (by decide) (by decide))

theorem walk_bounds {M : Int → Int} {na : Int} {q : List Stp × WRes} (hM : ∀ s, 0 ≤ M s ∧ M s ≤ 18446744073709551615) (hq : walkF M 16 true na 4 0 allRt = q) :
    q.1.length ≤ 1000000 ∧ ∀ i, i < q.1.length → 0 ≤ (stpAt q.1 i).2.2 ∧ (stpAt q.1 i).2.2 ≤ 18446744073709551615 := by
  have hl := (walk_ok hM (nxe := true) (a := na) 4 0 allRt (by omega) (by omega) (by decide)).len
  rw [hq] at hl
  refine ⟨by omega, fun i hi => ?_⟩
  have hx : q.1[i]? = some (stpAt q.1 i) := by simp [stpAt, List.getD, hi]
  rw [← hq] at hx
  rw [← hq]
  exact (walk_at hM hx).2.2

set_option maxHeartbeats 4000000 in
set_option maxRecDepth 100000 in
theorem walkFlags_c (v tv : Value) (ds : List PutD) (ts : List Turn) (n : Int) (w : World) (h : ListAt w v 4 PutD.cells PutD.ok ds) (ht : ListAt w tv 2 Turn.cells Turn.ok ts) (hn0 : 0 ≤ n) (hn1 : n ≤ 4294967295) :
    Calls Try.prog 7 #[v, .int .u32 n, tv] w fun e w' => e = .returned (.bool true) ∧ Ext w w' := by
  have HL := Lib.hid h
  have HTn := Lib.hid ht
  obtain ⟨a, cap, rfl, -, -, -, -⟩ := h
  obtain ⟨ta, tcap, rfl, htn, htm, htok, -⟩ := ht
  unfold maxLen at htm
  have HTok := Lib.hid htok
  have t2 : ∀ w, Calls Try.prog 22 #[.int .u64 0] w fun e w' => e = .returned (.agg #[.int .i64 4, .int .u64 0, .bool true, .bool true, .bool true]) ∧ Ext w w' := fun w => wTop_c 0 w (by omega) (by omega)
  have HT := Lib.hid t2
  have HNr := Lib.hid (fun w => near_c n w hn0 hn1)
  have ⟨na0, na1⟩ := nearI_le hn0
  generalize nearI n = na at *
  clear t2 htok
  go_enter Try.func7, Try.ntmps7
  go_upto_region 3 with (first | (go_at_call 18; refine (awake08_c _).mono ?_; rintro e w0 ⟨rfl, hb0⟩) | (go_at_call 19; refine (built_m _ ds _ (HL.out.ext (by repeat (first | exact Ext.refl _ | assumption | refine Ext.alloc ?_ _ | refine Ext.drew ?_ | refine Ext.setCell ?_ (by first | (simp; done) | (dsimp only; omega)) _ | refine Ext.trans ?_ (by assumption))))).mono ?_; rintro e w1 ⟨mb, rfl, hM, hE⟩))
  have M1 : Hid (MemP (w.heap.size ≤ ·) w1 mb 16 (builtM (ds.take 100)) []) := Lib.hid (hM.mono (base' := w.heap.size) (Ext.size (Ext.trans (by repeat (first | exact Ext.refl _ | assumption | refine Ext.alloc ?_ _ | refine Ext.drew ?_ | refine Ext.setCell ?_ (by first | (simp; done) | (dsimp only; omega)) _ | refine Ext.trans ?_ (by assumption))) hb0)))
  have E1 : Hid (Ext w w1) := Lib.hid (hb0.trans hE)
  clear hM hE hb0
  go_upto_region 4 with (first | (go_at_call 19; refine (built_m _ ds _ (HL.out.ext (E1.out.trans (by repeat (first | exact Ext.refl _ | assumption | refine Ext.alloc ?_ _ | refine Ext.drew ?_ | refine Ext.setCell ?_ (by first | (simp; done) | (dsimp only; omega)) _ | refine Ext.trans ?_ (by assumption)))))).mono ?_; rintro e w2 ⟨kb, rfl, hK, hE⟩))
  have K2 : Hid (MemP (w1.heap.size ≤ ·) w2 kb 16 (builtM (ds.take 100)) []) := Lib.hid (hK.mono (base' := w1.heap.size) (Ext.size (by repeat (first | exact Ext.refl _ | assumption | refine Ext.alloc ?_ _ | refine Ext.drew ?_ | refine Ext.setCell ?_ (by first | (simp; done) | (dsimp only; omega)) _ | refine Ext.trans ?_ (by assumption)))))
  have E2 : Hid (Ext w1 w2) := Lib.hid (Ext.trans (by repeat (first | exact Ext.refl _ | assumption | refine Ext.alloc ?_ _ | refine Ext.drew ?_ | refine Ext.setCell ?_ (by first | (simp; done) | (dsimp only; omega)) _ | refine Ext.trans ?_ (by assumption))) hE)
  clear hK hE
  go_wp2
  go_loopw [10] (fun i wr => ∃ (j : Nat) (K : Int → Int), j ≤ ts.length ∧ j ≤ 50 ∧ i = .int .i64 j ∧ Hid (MemP (w1.heap.size ≤ ·) wr kb 16 K [] ∧ SepP (w1.heap.size ≤ ·) w1 wr ∧ ∀ t, eqv (builtM (ds.take 100) t) (K t))) (fun i _ => ts.length - (intOf i).toNat)
  case atStart => exact ⟨0, _, by omega, by omega, rfl, Lib.hid ⟨K2.out, SepP.of_ext E2.out, fun t => eqv_refl _⟩⟩
  case round =>
    obtain ⟨j, K, hj, hj2, rfl, hR⟩ := hrel
    by_cases hgo : j < ts.length ∧ j < 50
    · obtain ⟨hlt, hlt2⟩ := hgo
      have hEr : Ext w wr := hR.out.2.1.to_ext' E1.out
      obtain ⟨a', cap', he, -, -, -, hcl⟩ := HTn.out.ext hEr
      obtain ⟨g, o, e1, e2, e3⟩ := hcl j hlt
      have he' : ta = a' := by injection he
      have hdok := HTok.out j hlt
      generalize ts.getD j default = d at e3 hdok
      subst he'
      subst e1
      obtain ⟨ds', dc⟩ := d
      have d0 : wr.cell? ⟨g, o + j * 2, none⟩ = some (.int .u16 ds') := e3 0 _ rfl
      have d1 : wr.cell? ⟨g, o + j * 2 + 1, none⟩ = some (.int .u16 dc) := e3 1 _ rfl
      obtain ⟨⟨s0, s1⟩, c0, c1⟩ := hdok
      dsimp only at s0 s1 c0 c1
      have HAt := Lib.hid (fun w => at8_c ⟨ds', 0, 0, 0⟩ w ⟨⟨s0, s1⟩, by dsimp only; omega, by dsimp only; omega, by dsimp only; omega⟩)
      have hat := atS_le (d := ⟨ds', 0, 0, 0⟩) ⟨⟨s0, s1⟩, by dsimp only; omega, by dsimp only; omega, by dsimp only; omega⟩
      generalize atS ⟨ds', 0, 0, 0⟩ = sl at HAt hat
      generalize atX ⟨ds', 0, 0, 0⟩ = xl at HAt
      obtain ⟨t0, t1, t2⟩ := hat
      have her := err16 (s := sl) (by omega) t2
      obtain ⟨x, hx⟩ : ∃ x, K (sl / 8) = x := ⟨_, rfl⟩
      have ⟨x0, x1⟩ := hR.out.1.wide (sl / 8)
      rw [hx] at x0 x1
      have HP : Hid (∀ w3, Ext wr w3 → Calls Try.prog 37 #[.pointer (some ⟨kb, 0, none⟩), .int .u64 sl] w3 fun e w' => e = .returned (.tuple #[.int .u64 x, .int .i64 0]) ∧ Ext w3 w') := Lib.hid (fun w3 k => by
        have := peek_p _ kb 16 K [] sl w3 (hR.out.1.ext k) t0 (by omega)
        rw [if_pos her, her, hx] at this; exact this)
      have hxf := xor_flags (c := dc % 4) x0 x1 (by omega) (by omega)
      have hup : Up (w1.heap.size ≤ ·) wr.heap.size := fun x hx => Nat.le_trans hR.out.2.1.size hx
      generalize hy : bits BinOp.xor IntKind.u64 x (dc % 4 * 32) = y at hxf
      obtain ⟨hxe, y0, y1⟩ := hxf
      have HWS := Lib.hid (fun w3 (k : Ext wr w3) => store_p (w1.heap.size ≤ ·) kb 16 K [] sl y w3 (hR.out.1.ext k) (hup.mono k.size) t0 (by omega) y0 y1)
      have HXE := Lib.hid hxe
      have HXX := Lib.hid hx
      have HER := Lib.hid her
      clear he hcl e3 her hx hxe hEr hup
      go_wp2_with (first | (go_at_call 36; refine (HAt.out _).mono ?_; rintro e w3 ⟨rfl, hb3⟩; have ⟨hc, hf, hh, hs⟩ := hb3.facts; try simp only [World.size_alloc, World.size_setCell, World.size_drew] at hs) | (go_at_call 37; refine (HP.out _ (by repeat (first | exact Ext.refl _ | assumption | refine Ext.alloc ?_ _ | refine Ext.drew ?_ | refine Ext.setCell ?_ (by first | (simp; done) | (dsimp only; omega)) _ | refine Ext.trans ?_ (by assumption)))).mono ?_; rintro e w4 ⟨rfl, hb4⟩; have ⟨hc4, hf4, hh4, hs4⟩ := hb4.facts) | (go_at_call 38; refine (HWS.out _ (by repeat (first | exact Ext.refl _ | assumption | refine Ext.alloc ?_ _ | refine Ext.drew ?_ | refine Ext.setCell ?_ (by first | (simp; done) | (dsimp only; omega)) _ | refine Ext.trans ?_ (by assumption)))).mono ?_; rintro e w5 ⟨rfl, hM5, hP5⟩))
      refine ⟨⟨j + 1, setIf 16 K sl y, by omega, by omega, by go_num, Lib.hid ⟨hM5, hR.out.2.1.trans ((SepP.of_ext (by repeat (first | exact Ext.refl _ | assumption | refine Ext.alloc ?_ _ | refine Ext.drew ?_ | refine Ext.setCell ?_ (by first | (simp; done) | (dsimp only; omega)) _ | refine Ext.trans ?_ (by assumption)))).trans hP5), fun t => ?_⟩⟩, by simp [intOf]; omega⟩
      unfold setIf
      rw [if_pos HER.out]
      unfold setM
      split
      · rename_i ht; rw [ht]; exact eqv_trans (hR.out.2.2 _) (by rw [HXX.out]; exact HXE.out)
      · exact hR.out.2.2 t
    · skip
      have hstop : ts.length ≤ j ∨ (j < ts.length ∧ j = 50) := by omega
      have HRR := Lib.hid (hR.out)
      clear hgo hR
      rcases hstop with hs | ⟨hs, rfl⟩
      all_goals
        go_upto_region 14 with (fail)
        obtain ⟨F, hF, hMF⟩ := M1.out.two
        have hMr : MemP (· ∈ F) wr mb 16 (builtM (ds.take 100)) [] := hMF.sep HRR.out.2.1 (fun x hx hq => by have := (hF x hq).2; omega)
        obtain ⟨G, hG, hKG⟩ := HRR.out.1.two
        have FF := Lib.hid hF
        have GG := Lib.hid hG
        have MR := Lib.hid hMr
        have KG := Lib.hid hKG
        have ER : Hid (Ext w wr) := Lib.hid (HRR.out.2.1.to_ext' E1.out)
        clear hF hG hMr hKG hMF
        go_upto_region 15 with (first | (go_at_call 20; refine (HNr.out _).mono ?_; rintro e w3 ⟨rfl, hb3⟩))
        go_upto_region 16 with (first | (go_at_call 22; refine (HT.out _).mono ?_; rintro e w4 ⟨rfl, hb4⟩) | (go_at_call 21; refine (from_p (fun x => x ∈ F ∨ wr.heap.size ≤ x) mb 16 (builtM (ds.take 100)) [] 4 0 allRt na true _ ((MR.out.ext (hb3.trans (by repeat (first | exact Ext.refl _ | assumption | refine Ext.alloc ?_ _ | refine Ext.drew ?_ | refine Ext.setCell ?_ (by first | (simp; done) | (dsimp only; omega)) _ | refine Ext.trans ?_ (by assumption))))).mono fun _ => Or.inl) (fun x hx => .inr (Nat.le_trans (Ext.size (hb3.trans (by repeat (first | exact Ext.refl _ | assumption | refine Ext.alloc ?_ _ | refine Ext.drew ?_ | refine Ext.setCell ?_ (by first | (simp; done) | (dsimp only; omega)) _ | refine Ext.trans ?_ (by assumption))))) hx)) (by omega) (by omega) (by omega) (by omega) (by omega) (by simp)).mono ?_; rintro e w5 ⟨sa, sc, rfl, hS, hM5, hP5⟩))
        refine wp_gen ?_; intro U hU
        obtain ⟨q1, hq1⟩ : ∃ q, walkF (builtM (ds.take 100)) 16 true na 4 0 allRt = q := ⟨_, rfl⟩
        rw [hq1] at hS ⊢
        have hE4 : Ext wr w4 := hb3.trans (Ext.trans (by repeat (first | exact Ext.refl _ | assumption | refine Ext.alloc ?_ _ | refine Ext.drew ?_ | refine Ext.setCell ?_ (by first | (simp; done) | (dsimp only; omega)) _ | refine Ext.trans ?_ (by assumption))) hb4)
        have hA : Ext w5 U := by rw [hU]; exact (Ext.refl _).alloc _
        have hKU : MemP (· ∈ G) U kb 16 K [] := ((KG.out.ext hE4).sep hP5 (fun x hx hq hp => by
          have h1 := GG.out x hq
          rcases hp with hp | hp
          · have := (FF.out x hp).2; omega
          · omega)).ext hA
        have hPU : PathAt U w5.heap.size sa sc q1 := by rw [hU, ← hq1]; rw [← hq1] at hS; exact ⟨alloc_same .., hS.ext ((Ext.refl _).alloc _)⟩
        have hEU : Ext w U := (SepP.to_ext (hP5.mono fun x hx => by
          rcases hx with hx | hx
          · exact (FF.out x hx).1
          · exact Nat.le_trans ER.out.size hx) (ER.out.trans hE4)).trans hA
        obtain ⟨pb, hpb⟩ : ∃ pb, w5.heap.size = pb := ⟨_, rfl⟩
        rw [hpb] at hPU ⊢
        have KU := Lib.hid (hKU.mono (Q := (w.heap.size ≤ ·)) fun x hx => Nat.le_trans E1.out.size (GG.out x hx).1)
        have PU := Lib.hid hPU
        have EU := Lib.hid hEU
        have HQ1 := Lib.hid hq1
        clear hU hq1 hE4 hA hKU hPU hEU hpb hS hM5 hP5 hb3 hb4
        go_upto_region 17 with (first | (go_at_call 22; refine (HT.out _).mono ?_; rintro e w4 ⟨rfl, hb4⟩) | (go_at_call 21; refine (from_p (w.heap.size ≤ ·) kb 16 K [] 4 0 allRt na true _ (KU.out.ext (by repeat (first | exact Ext.refl _ | assumption | refine Ext.alloc ?_ _ | refine Ext.drew ?_ | refine Ext.setCell ?_ (by first | (simp; done) | (dsimp only; omega)) _ | refine Ext.trans ?_ (by assumption)))) (fun x hx => Nat.le_trans (EU.out.trans (by repeat (first | exact Ext.refl _ | assumption | refine Ext.alloc ?_ _ | refine Ext.drew ?_ | refine Ext.setCell ?_ (by first | (simp; done) | (dsimp only; omega)) _ | refine Ext.trans ?_ (by assumption)))).size hx) (by omega) (by omega) (by omega) (by omega) (by omega) (by simp)).mono ?_; rintro e w5 ⟨sa2, sc2, rfl, hS, hM5, hP5⟩))
        refine wp_gen ?_; intro V hV
        obtain ⟨q2, hq2⟩ : ∃ q, walkF K 16 true na 4 0 allRt = q := ⟨_, rfl⟩
        rw [hq2] at hS hM5 ⊢
        have hA : Ext w5 V := by rw [hV]; exact (Ext.refl _).alloc _
        have hUV : SepP (w.heap.size ≤ ·) U V := ((SepP.of_ext (Ext.trans (by repeat (first | exact Ext.refl _ | assumption | refine Ext.alloc ?_ _ | refine Ext.drew ?_ | refine Ext.setCell ?_ (by first | (simp; done) | (dsimp only; omega)) _ | refine Ext.trans ?_ (by assumption))) hb4)).trans hP5).ext hA
        have hKV := hM5.ext hA
        have hQV : PathAt V w5.heap.size sa2 sc2 q2 := by rw [hV, ← hq2]; rw [← hq2] at hS; exact ⟨alloc_same .., hS.ext ((Ext.refl _).alloc _)⟩
        have hPV := PU.out.sepP hUV
        have hEV : Ext w V := hUV.to_ext EU.out
        obtain ⟨qb, hqb⟩ : ∃ qb, w5.heap.size = qb := ⟨_, rfl⟩
        rw [hqb] at hQV ⊢
        obtain ⟨⟨k0, k1, k2, k3, k4, k5, k6⟩, hql⟩ := hQV.facts
        have hMk := fun wx (k : Ext V wx) => mark_p (w.heap.size ≤ ·) kb 16 K ([] ++ q2.1.map (·.2.1)) q2.1 sa2 sc2 q2.2.1 q2.2.2.1 q2.2.2.2.1 q2.2.2.2.2 true wx (hKV.ext k) (fun x hx => Nat.le_trans (hEV.trans k).size hx)
          ((StepsAt.of hQV.2).ext k) (fun Y hY => steps_sep hQV.2 Y ((SepP.of_ext k).trans hY)) (by
            have := (walk_ok (M := K) HRR.out.1.wide (nxe := true) (a := na) 4 0 allRt (by omega) (by omega) (by decide)).len
            rw [hq2] at this; omega) (fun i hi => by
            have hx : q2.1[i]? = some (stpAt q2.1 i) := by simp [stpAt, List.getD, hi]
            have := (walk_ok (M := K) HRR.out.1.wide (nxe := true) (a := na) 4 0 allRt (by omega) (by omega) (by decide)).low i (stpAt q2.1 i) (by rw [hq2]; exact hx)
            omega)
        have HMk := Lib.hid hMk
        have QV := Lib.hid hQV
        have PV := Lib.hid hPV
        have EV := Lib.hid hEV
        have HQ2 := Lib.hid hq2
        clear hV hq2 hA hUV hKV hQV hPV hEV hqb hMk hS hM5 hP5 hb4
        go_upto_region 18 with (first | (go_at_call 31; refine (HMk.out _ (by repeat (first | exact Ext.refl _ | assumption | refine Ext.alloc ?_ _ | refine Ext.drew ?_ | refine Ext.setCell ?_ (by first | (simp; done) | (dsimp only; omega)) _ | refine Ext.trans ?_ (by assumption)))).mono ?_; rintro e w6 ⟨rfl, hM6, hP6⟩))
        clear k0 k1 k2 k3 k4 k5 k6 hql
        have hP6' : SepP (w.heap.size ≤ ·) V w6 := (SepP.of_ext (by repeat (first | exact Ext.refl _ | assumption | refine Ext.alloc ?_ _ | refine Ext.drew ?_ | refine Ext.setCell ?_ (by first | (simp; done) | (dsimp only; omega)) _ | refine Ext.trans ?_ (by assumption)))).trans hP6
        obtain ⟨K', hK'⟩ : ∃ K', markL 16 (true && q2.2.1 == 0) q2.1 K = K' := ⟨_, rfl⟩
        rw [hK'] at hM6
        have HK' := Lib.hid hK'
        clear hK'
        have K6 := Lib.hid hM6
        have Q6 := Lib.hid (QV.out.sepP hP6')
        have P6 := Lib.hid (PV.out.sepP hP6')
        have E6 : Hid (Ext w w6) := Lib.hid (hP6'.to_ext EV.out)
        clear hM6 hP6 hP6'
        have hlT : (([] : List Int) ++ q2.1.map (·.2.1)).length ≤ 900000 := by
          have := (walk_ok (M := K) HRR.out.1.wide (nxe := true) (a := na) 4 0 allRt (by omega) (by omega) (by decide)).len
          rw [HQ2.out] at this; simp; omega
        go_upto_region 19 with (first | (go_at_call 22; refine (HT.out _).mono ?_; rintro e w4 ⟨rfl, hb4⟩) | (go_at_call 21; refine (from_p (w.heap.size ≤ ·) kb 16 K' _ 4 0 allRt na true _ (K6.out.ext (by repeat (first | exact Ext.refl _ | assumption | refine Ext.alloc ?_ _ | refine Ext.drew ?_ | refine Ext.setCell ?_ (by first | (simp; done) | (dsimp only; omega)) _ | refine Ext.trans ?_ (by assumption)))) (fun x hx => Nat.le_trans (E6.out.trans (by repeat (first | exact Ext.refl _ | assumption | refine Ext.alloc ?_ _ | refine Ext.drew ?_ | refine Ext.setCell ?_ (by first | (simp; done) | (dsimp only; omega)) _ | refine Ext.trans ?_ (by assumption)))).size hx) (by omega) (by omega) (by omega) (by omega) (by omega) hlT).mono ?_; rintro e w5 ⟨sa3, sc3, rfl, hS, hM5, hP5⟩))
        refine wp_gen ?_; intro X hX
        obtain ⟨q3, hq3⟩ : ∃ q, walkF K' 16 true na 4 0 allRt = q := ⟨_, rfl⟩
        rw [hq3] at hS ⊢
        have hA : Ext w5 X := by rw [hX]; exact (Ext.refl _).alloc _
        have hUV : SepP (w.heap.size ≤ ·) w6 X := ((SepP.of_ext (Ext.trans (by repeat (first | exact Ext.refl _ | assumption | refine Ext.alloc ?_ _ | refine Ext.drew ?_ | refine Ext.setCell ?_ (by first | (simp; done) | (dsimp only; omega)) _ | refine Ext.trans ?_ (by assumption))) hb4)).trans hP5).ext hA
        have hRX : PathAt X w5.heap.size sa3 sc3 q3 := by rw [hX, ← hq3]; rw [← hq3] at hS; exact ⟨alloc_same .., hS.ext ((Ext.refl _).alloc _)⟩
        have hPX := P6.out.sepP hUV
        have hQX := Q6.out.sepP hUV
        have hEX : Ext w X := hUV.to_ext E6.out
        obtain ⟨rb, hrb⟩ : ∃ rb, w5.heap.size = rb := ⟨_, rfl⟩
        rw [hrb] at hRX ⊢
        have hsame1 : sameP q1 q2 = true := by
          have := walk_eqv (nxe := true) (a := na) (B := 16) (by omega) HRR.out.2.2 4 0 allRt
          rw [HQ1.out, HQ2.out] at this
          obtain ⟨L1, r1⟩ := q1; obtain ⟨L2, r2⟩ := q2
          obtain ⟨h1, h2⟩ := this
          dsimp only at h1 h2
          subst h2; exact same_of h1
        have hsame2 : sameP q2 q3 = true := by
          have := walk_eqv (nxe := true) (a := na) (B := 16) (by omega) (M := K) (M' := K') (fun t => by rw [← HK'.out]; exact (markL_more 16 (true && q2.2.1 == 0) q2.1 K t).1) 4 0 allRt
          rw [HQ2.out, hq3] at this
          obtain ⟨L1, r1⟩ := q2; obtain ⟨L2, r2⟩ := q3
          obtain ⟨h1, h2⟩ := this
          dsimp only at h1 h2
          subst h2; exact same_of h1
        have ⟨l1, b1⟩ := walk_bounds M1.out.wide HQ1.out
        have ⟨l2, b2⟩ := walk_bounds HRR.out.1.wide HQ2.out
        have ⟨l3, b3⟩ := walk_bounds K6.out.wide hq3
        obtain ⟨⟨c0, c1, c2, c3, c4, c5, c6⟩, hpl⟩ := hPX.facts
        obtain ⟨⟨k0, k1, k2, k3, k4, k5, k6⟩, hql⟩ := hQX.facts
        obtain ⟨⟨r0, r1, r2, r3, r4, r5, r6⟩, hrl⟩ := hRX.facts
        have HS1 := Lib.hid (fun wx (k : Ext X wx) => same_c q1.1 q2.1 q1.2.1 q2.2.1 q1.2.2.1.1 q1.2.2.1.2.1 q1.2.2.1.2.2 q2.2.2.1.1 q2.2.2.1.2.1 q2.2.2.1.2.2 q1.2.2.2.1 q2.2.2.2.1 q1.2.2.2.2 q2.2.2.2.2 sa sa2 sc sc2 wx ((StepsAt.of hPX.2).ext k) ((StepsAt.of hQX.2).ext k) l1 l2 b1 b2)
        have HS2 := Lib.hid (fun wx (k : Ext X wx) => same_c q2.1 q3.1 q2.2.1 q3.2.1 q2.2.2.1.1 q2.2.2.1.2.1 q2.2.2.1.2.2 q3.2.2.1.1 q3.2.2.1.2.1 q3.2.2.1.2.2 q2.2.2.2.1 q3.2.2.2.1 q2.2.2.2.2 q3.2.2.2.2 sa2 sa3 sc2 sc3 wx ((StepsAt.of hQX.2).ext k) ((StepsAt.of hRX.2).ext k) l2 l3 b2 b3)
        have EX := Lib.hid hEX
        have SA1 := Lib.hid hsame1
        have SA2 := Lib.hid hsame2
        clear hX hq3 hA hUV hRX hPX hQX hEX hrb hsame1 hsame2 b1 b2 b3 hS hM5 hP5 hb4 hlT
        go_wp2_with (first | (go_at_call 34; first | (with_reducible (refine (HS1.out _ (by with_reducible exact Ext.refl _)).mono ?_); rw [SA1.out]; rintro e w8 ⟨rfl, hb8⟩; have ⟨hc8, hf8, hh8, hs8⟩ := hb8.facts) | (refine (HS2.out _ (by repeat (first | exact Ext.refl _ | assumption | refine Ext.alloc ?_ _ | refine Ext.drew ?_ | refine Ext.setCell ?_ (by first | (simp; done) | (dsimp only; omega)) _ | refine Ext.trans ?_ (by assumption)))).mono ?_; rw [SA2.out]; rintro e w9 ⟨rfl, hb9⟩)))
        go_ret
        exact ⟨rfl, EX.out.trans (by repeat (first | exact Ext.refl _ | assumption | refine Ext.alloc ?_ _ | refine Ext.drew ?_ | refine Ext.setCell ?_ (by first | (simp; done) | (dsimp only; omega)) _ | refine Ext.trans ?_ (by assumption)))⟩
end Go.Proofs.YtkoohedbbdgjjaaR
