/- PscGoes: from where Deepest says, a walk through a memory that wasn't written since ends as a whole one does: for all words and addresses. -/
import Derived.Test.YtfaekfdngkpkdaaPsk4
namespace Go.Proofs.Ytfaekfdngkpkdaa
set_option linter.unusedVariables false
set_option linter.unusedSimpArgs false
open Go.RowKit
attribute [local go_sem] wext_cell wext_frozen wext_heap alloc_cell alloc_frozen alloc_heap setCell_cell objCell_cells objFrozen_cells
attribute [local go_sem high] rt_eql rt_neq st_eql st_neq

def plB (x y : Int × Int × Rt) : Bool := decide (x = y)
theorem pl_equal (x y : Int × Int × Rt) (w : World) : (Op.equal 41 (.agg #[.int .i64 x.1, .int .u64 x.2.1, .bool x.2.2.1, .bool x.2.2.2.1, .bool x.2.2.2.2]) (.agg #[.int .i64 y.1, .int .u64 y.2.1, .bool y.2.2.1, .bool y.2.2.2.1, .bool y.2.2.2.2])).run Try.prog w = .ok (decide (x = y)) w := by
  show (Op.equalIn 10000 _ _ _).run _ _ = _
  obtain ⟨p, l, t, a, b⟩ := x
  obtain ⟨p', l', t', a', b'⟩ := y
  simp [go_sem]
  by_cases h1 : p = p' <;> by_cases h2 : l = l' <;> by_cases h3 : t = t' <;> by_cases h4 : a = a' <;> by_cases h5 : b = b' <;> simp [*]
theorem pl_eql (p l : Int) (t a b : Bool) (p' l' : Int) (t' a' b' : Bool) (w : World) : (binOp .eql 41 (.agg #[.int .i64 p, .int .u64 l, .bool t, .bool a, .bool b]) (.agg #[.int .i64 p', .int .u64 l', .bool t', .bool a', .bool b'])).run Try.prog w = .ok (.bool (plB (p, l, t, a, b) (p', l', t', a', b'))) w := by
  have := pl_equal (p, l, t, a, b) (p', l', t', a', b') w
  rw [run_eql_struct]
  show ((Op.equal _ _ _).run _ _).andThen _ = _
  rw [this]; rfl
attribute [local go_sem high] pl_eql
theorem plB_self (x : Int × Int × Rt) : plB x x = true := by simp [plB]
theorem stpAt_append (A B : List Stp) (i : Nat) : stpAt (A ++ B) (A.length + i) = stpAt B i := by
  unfold stpAt List.getD
  rw [List.getElem?_append_right (by omega)]
  congr 2; omega

set_option maxHeartbeats 4000000 in
set_option maxRecDepth 100000 in
theorem pscGoes_c (v : Value) (ds : List PutD) (v2 : Value) (ns : List Int) (n : Int) (w : World) (h : ListAt w v 4 PutD.cells PutD.ok ds) (hv : ListAt w v2 1 U32.cells U32.ok ns) (hn0 : 0 ≤ n) (hn1 : n ≤ 4294967295) :
    Calls Try.prog 4 #[v, v2, .int .u32 n] w fun e w' => e = .returned (.bool true) ∧ Ext w w' := by
  have HL := Lib.hid h
  have HV := Lib.hid hv
  have HNr := Lib.hid (fun w => near_c n w hn0 hn1)
  have ⟨na0, na1⟩ := nearI_le hn0
  obtain ⟨a1, c1, rfl, -, -, -, -⟩ := h
  obtain ⟨va, vc, rfl, -, hmx, hok, -⟩ := hv
  unfold maxLen at hmx
  generalize nearI n = na at *
  have HK := Lib.hid hok
  have t2 : ∀ w, Calls Try.prog 28 #[.int .u64 0] w fun e w' => e = .returned (.agg #[.int .i64 4, .int .u64 0, .bool true, .bool true, .bool true]) ∧ Ext w w' := fun w => wTop_c 0 w (by omega) (by omega)
  have HT := Lib.hid t2
  clear hok t2
  go_enter Try.func4, Try.ntmps4
  go_upto_region 5 with (first | (go_at_call 23; refine (awake11_c _).mono ?_; rintro e w0 ⟨rfl, hb0⟩) | (go_at_call 24; refine (built11_c _ ds _ (HL.out.ext (by repeat (first | exact Ext.refl _ | assumption | refine Ext.alloc ?_ _ | refine Ext.drew ?_ | refine Ext.setCell ?_ (by first | (simp; done) | (dsimp only; omega)) _ | refine Ext.trans ?_ (by assumption))))).mono ?_; rintro e w1 ⟨mb, Fm, rfl, hC, hE, hF, hmb⟩))
  have C1 := Lib.hid hC
  have E1 : Hid (Ext w w1) := Lib.hid ((Ext.trans (by repeat (first | exact Ext.refl _ | assumption | refine Ext.alloc ?_ _ | refine Ext.drew ?_ | refine Ext.setCell ?_ (by first | (simp; done) | (dsimp only; omega)) _ | refine Ext.trans ?_ (by assumption))) hb0).trans hE)
  have hF1 : ∀ x ∈ Fm, w.heap.size ≤ x := fun x hx => Nat.le_trans (Ext.size (Ext.trans (by repeat (first | exact Ext.refl _ | assumption | refine Ext.alloc ?_ _ | refine Ext.drew ?_ | refine Ext.setCell ?_ (by first | (simp; done) | (dsimp only; omega)) _ | refine Ext.trans ?_ (by assumption))) hb0)) (hF x hx)
  have F1 := Lib.hid hF1
  clear hC hE hF hF1 hmb hb0
  go_upto_region 6 with (first | (go_at_call 25; refine (warm_c mb Fm (builtM (ds.take 100)) [] 3 _ ns w _ (E1.out.trans (by repeat (first | exact Ext.refl _ | assumption | refine Ext.alloc ?_ _ | refine Ext.drew ?_ | refine Ext.setCell ?_ (by first | (simp; done) | (dsimp only; omega)) _ | refine Ext.trans ?_ (by assumption)))) (C1.out.ext (by repeat (first | exact Ext.refl _ | assumption | refine Ext.alloc ?_ _ | refine Ext.drew ?_ | refine Ext.setCell ?_ (by first | (simp; done) | (dsimp only; omega)) _ | refine Ext.trans ?_ (by assumption)))) F1.out HV.out (by simp) (by omega) (by omega)).mono ?_; rintro e w2 ⟨pb, cb, F, Fm2, T2, rfl, hB, hK, hf1, hf2, hp, hT⟩))
  have hM := C1.out.wide
  obtain ⟨C, hCd⟩ : ∃ C, warmP (builtM (ds.take 100)) (clampR 3) ns (min ns.length 20) = C := ⟨_, rfl⟩
  have hinv : InvC (builtM (ds.take 100)) C := by rw [← hCd]; exact warm_inv hM _
  rw [hCd] at hB
  have E2 : Hid (Ext w w2) := Lib.hid (Keeps.to_ext (E1.out.trans (by repeat (first | exact Ext.refl _ | assumption | refine Ext.alloc ?_ _ | refine Ext.drew ?_ | refine Ext.setCell ?_ (by first | (simp; done) | (dsimp only; omega)) _ | refine Ext.trans ?_ (by assumption)))) hK F1.out)
  have P2 := Lib.hid hB.psc
  have M2 : Hid (MemIn w.heap.size w2 mb 16 (builtM (ds.take 100)) T2) := Lib.hid ⟨Fm2, hB.mem, fun x hx => by
    rcases hf1 x hx with z | z
    · exact F1.out x z
    · have := E1.out.size; omega⟩
  generalize builtM (ds.take 100) = M at *
  have hT2 : T2.length ≤ 80 := by simpa using hT
  obtain ⟨d, hd⟩ : ∃ d, deepF C 1 na = d := ⟨_, rfl⟩
  have HD1 := Lib.hid (fun w h => deepest_c pb cb F C (clampR 3) 1 na w h na0 (by omega))
  rw [hd] at HD1
  have HDW := Lib.hid (fun l x (hh : d = some (l, x)) => deep_walk hinv (hd.trans hh))
  have HW4 := Lib.hid (fun i s h => (walk_at hM (B := 16) (nxe := true) (a := na) (n := 4) (t := 0) (r := allRt) (i := i) (s := s) h).2.2)
  clear hM hCd hinv hB hK hf1 hf2 hp hT hd
  go_upto_region 7 with (first | (go_at_call 26; refine (HNr.out _).mono ?_; rintro e w3 ⟨rfl, hb3⟩))
  go_upto_region 8 with (first | (go_at_call 27; refine (HD1.out _ (P2.out.ext (Ext.trans (by repeat (first | exact Ext.refl _ | assumption | refine Ext.alloc ?_ _ | refine Ext.drew ?_ | refine Ext.setCell ?_ (by first | (simp; done) | (dsimp only; omega)) _ | refine Ext.trans ?_ (by assumption))) hb3))).mono ?_; rintro e w4 ⟨rfl, hb4⟩))
  refine wp_gen ?_; intro X hX
  have hXE : Ext w2 X := by rw [hX]; exact ((Ext.trans (by repeat (first | exact Ext.refl _ | assumption | refine Ext.alloc ?_ _ | refine Ext.drew ?_ | refine Ext.setCell ?_ (by first | (simp; done) | (dsimp only; omega)) _ | refine Ext.trans ?_ (by assumption))) hb3).trans hb4).alloc _
  have hXb : X.heap[w4.heap.size]? = some (.cells #[.int .i64 (placeF d).1, .int .u64 (placeF d).2.1, .bool (placeF d).2.2.1, .bool (placeF d).2.2.2.1, .bool (placeF d).2.2.2.2] 41 (0, 0)) := by rw [hX]; exact alloc_same ..
  obtain ⟨tb, htb⟩ : ∃ tb, w4.heap.size = tb := ⟨_, rfl⟩
  rw [htb] at hXb ⊢
  have XE := Lib.hid (E2.out.trans hXE)
  have XM := Lib.hid (M2.out.ext hXE)
  have XB := Lib.hid hXb
  clear hX hXE hXb htb hb3 hb4
  obtain ⟨q, hq⟩ : ∃ q, walkF M 16 true na 4 0 allRt = q := ⟨_, rfl⟩
  have hql : q.1.length ≤ 4 := by rw [← hq]; exact walk_len 4 0 allRt
  have HFr := Lib.hid (fun w1 (h : MemIn w.heap.size w1 mb 16 M T2) hb => by have := from_m w.heap.size mb 16 M T2 4 0 allRt na true w1 h hb (by omega) (by omega) (by omega) na0 (by omega) (by omega); rw [hq] at this; exact this)
  cases d with
  | none =>
    go_upto_region 9 with (first | (go_at_call 28; refine (HT.out _).mono ?_; rintro e w5 ⟨rfl, hb5⟩) | (go_at_call 16; refine (HFr.out _ (XM.out.ext (Ext.trans (by repeat (first | exact Ext.refl _ | assumption | refine Ext.alloc ?_ _ | refine Ext.drew ?_ | refine Ext.setCell ?_ (by first | (simp; done) | (dsimp only; omega)) _ | refine Ext.trans ?_ (by assumption))) hb5)) (XE.out.trans (Ext.trans (by repeat (first | exact Ext.refl _ | assumption | refine Ext.alloc ?_ _ | refine Ext.drew ?_ | refine Ext.setCell ?_ (by first | (simp; done) | (dsimp only; omega)) _ | refine Ext.trans ?_ (by assumption))) hb5)).size).mono ?_; rintro e w6 ⟨sa, sc, rfl, hS, hM4, hP4⟩))
    have hz : Ext X w5 := Ext.trans (by repeat (first | exact Ext.refl _ | assumption | refine Ext.alloc ?_ _ | refine Ext.drew ?_ | refine Ext.setCell ?_ (by first | (simp; done) | (dsimp only; omega)) _ | refine Ext.trans ?_ (by assumption))) hb5
    have hb6 := hP4.2 _ _ _ ((hz.block _ (heap_lt XB.out)).trans XB.out) (by decide) (by decide) (by decide)
    have hb7 := (alloc_other w6 (.cells #[.slice sa q.1.length sc, .int .i64 q.2.1, .bool q.2.2.1.1, .bool q.2.2.1.2.1, .bool q.2.2.1.2.2, .int .i64 q.2.2.2.1, .int .u64 q.2.2.2.2] 38) (heap_lt hb6)).trans hb6
    have E6 : Hid (Ext w w6) := Lib.hid (Sep.to_ext ((Sep.of_ext (XE.out.trans hz) (Nat.le_refl _)).trans hP4))
    have y0 := (heap_cell hb7 0).trans rfl
    have y1 := (heap_cell hb7 1).trans rfl
    have y2 := (heap_cell hb7 2).trans rfl
    have y3 := (heap_cell hb7 3).trans rfl
    have y4 := (heap_cell hb7 4).trans rfl
    have yl := heap_lt hb7
    have hpl := plB_self (0, 0, false, false, false)
    clear hb5 hz hb6 hb7 hS hM4 hP4 hq
    go_wp2
    go_ret
    exact ⟨rfl, E6.out.alloc _⟩
  | some y =>
    obtain ⟨l, x⟩ := y
    obtain ⟨l0, l1, x0, x1, pre, hpre, hway⟩ := HDW.out l x rfl
    obtain ⟨k, hk⟩ : ∃ k : Nat, l = (k : Int) + 1 := ⟨(l - 1).toNat, by omega⟩
    subst hk
    have hk1 : ((k : Int) + 1 - 1).toNat = k := by omega
    rw [hk1, hq] at hway
    have hpl : pre.length + k ≤ 4 ∧ 4 ≤ pre.length + k := by omega
    clear hpre
    obtain ⟨hpl1, hpl2⟩ := hpl
    obtain ⟨qv, hqv⟩ : ∃ qv, walkF M 16 true na k x.f x.rt = qv := ⟨_, rfl⟩
    rw [hqv] at hway
    have HFv := Lib.hid (fun T9 (hT9 : T9.length ≤ 900000) w1 (h : MemIn w.heap.size w1 mb 16 M T9) hb => by have := from_m w.heap.size mb 16 M T9 k x.f x.rt na true w1 h hb (by omega) x0 x1 na0 (by omega) hT9; rw [hqv] at this; exact this)
    have hqvl : qv.1.length ≤ k := by rw [← hqv]; exact walk_len k x.f x.rt
    obtain ⟨LV, q2⟩ := qv
    obtain ⟨L, q3⟩ := q
    injection hway with hw1 hw2
    subst hw2
    have hLl : L.length ≤ pre.length + LV.length ∧ pre.length + LV.length ≤ L.length := by rw [hw1]; simp
    obtain ⟨hLl1, hLl2⟩ := hLl
    have hst : ∀ i, stpAt L (pre.length + i) = stpAt LV i := fun i => by rw [hw1]; exact stpAt_append pre LV i
    have HST := Lib.hid hst
    have hrs := rtB_self q3.2.1
    dsimp only at hql hqvl
    have HX := Lib.hid (show x.rt = (x.a, x.b, x.c) from rfl)
    clear hw1 hst hq hqv
    go_upto_region 9 with (first | (go_at_call 28; refine (HT.out _).mono ?_; rintro e w5 ⟨rfl, hb5⟩) | (go_at_call 16; refine (HFr.out _ (XM.out.ext (Ext.trans (by repeat (first | exact Ext.refl _ | assumption | refine Ext.alloc ?_ _ | refine Ext.drew ?_ | refine Ext.setCell ?_ (by first | (simp; done) | (dsimp only; omega)) _ | refine Ext.trans ?_ (by assumption))) hb5)) (XE.out.trans (Ext.trans (by repeat (first | exact Ext.refl _ | assumption | refine Ext.alloc ?_ _ | refine Ext.drew ?_ | refine Ext.setCell ?_ (by first | (simp; done) | (dsimp only; omega)) _ | refine Ext.trans ?_ (by assumption))) hb5)).size).mono ?_; rintro e w6 ⟨sa, sc, rfl, hS, hM4, hP4⟩))
    refine wp_gen ?_; intro U hU
    have hz : Ext X w5 := Ext.trans (by repeat (first | exact Ext.refl _ | assumption | refine Ext.alloc ?_ _ | refine Ext.drew ?_ | refine Ext.setCell ?_ (by first | (simp; done) | (dsimp only; omega)) _ | refine Ext.trans ?_ (by assumption))) hb5
    have hSp : Sep w.heap.size X U := by rw [hU]; exact ((Sep.of_ext hz XE.out.size).trans hP4).ext ((Ext.refl _).alloc _) XE.out.size
    have hUt := hSp.2 _ _ _ XB.out (by decide) (by decide) (by decide)
    have hUp : PathAt U w6.heap.size sa sc (L, q3) := by rw [hU]; exact ⟨alloc_same .., hS.ext ((Ext.refl _).alloc _)⟩
    have hUM : MemIn w.heap.size U mb 16 M (T2 ++ L.map (·.2.1)) := by rw [hU]; exact hM4.ext ((Ext.refl _).alloc _)
    have hUE : Ext w U := Sep.to_ext ((Sep.of_ext XE.out (Nat.le_refl _)).trans hSp)
    obtain ⟨pw, hpw⟩ : ∃ pw, w6.heap.size = pw := ⟨_, rfl⟩
    rw [hpw] at hUp ⊢
    have UT := Lib.hid hUt
    have UP := Lib.hid hUp
    have UM := Lib.hid hUM
    have UE := Lib.hid hUE
    clear hU hz hSp hUt hUp hUM hUE hS hM4 hP4 hb5 hpw
    have y0 := (heap_cell UT.out 0).trans rfl
    have y1 := (heap_cell UT.out 1).trans rfl
    have y2 := (heap_cell UT.out 2).trans rfl
    have y3 := (heap_cell UT.out 3).trans rfl
    have y4 := (heap_cell UT.out 4).trans rfl
    have yl := heap_lt UT.out
    have hkk : (placeF (some ((k : Int) + 1, x))).1 = (k : Int) := by show (k : Int) + 1 - 1 = k; omega
    have hkx : (placeF (some ((k : Int) + 1, x))).2 = (x.f, x.rt) := rfl
    rw [hkk] at y0
    rw [hkx] at y1 y2 y3 y4
    dsimp only at y1 y2 y3 y4
    have hTl : (T2 ++ L.map (·.2.1)).length ≤ 900000 := by simp; omega
    have HFw := Lib.hid (HFv.out _ hTl)
    clear hTl hkk hkx
    go_upto_region 12 with (first | (go_at_call 16; refine (HFw.out _ (UM.out.ext (by repeat (first | exact Ext.refl _ | assumption | refine Ext.alloc ?_ _ | refine Ext.drew ?_ | refine Ext.setCell ?_ (by first | (simp; done) | (dsimp only; omega)) _ | refine Ext.trans ?_ (by assumption)))) (UE.out.trans (by repeat (first | exact Ext.refl _ | assumption | refine Ext.alloc ?_ _ | refine Ext.drew ?_ | refine Ext.setCell ?_ (by first | (simp; done) | (dsimp only; omega)) _ | refine Ext.trans ?_ (by assumption)))).size).mono ?_; rintro e w7 ⟨sv, sw, rfl, hS, hM4, hP4⟩))
    refine wp_gen ?_; intro V hV
    have hSp : Sep w.heap.size U V := by rw [hV]; exact hP4.ext ((Ext.refl _).alloc _) UE.out.size
    have hVt := hSp.2 _ _ _ UT.out (by decide) (by decide) (by decide)
    have hVp := UP.out.sep hSp
    have hVv : PathAt V w7.heap.size sv sw (LV, q3) := by rw [hV]; exact ⟨alloc_same .., hS.ext ((Ext.refl _).alloc _)⟩
    have hVE : Ext w V := Sep.to_ext ((Sep.of_ext UE.out (Nat.le_refl _)).trans hSp)
    obtain ⟨pv, hpv⟩ : ∃ pv, w7.heap.size = pv := ⟨_, rfl⟩
    rw [hpv] at hVv ⊢
    have VT := Lib.hid hVt
    have VP := Lib.hid hVp
    have VV := Lib.hid hVv
    have VE := Lib.hid hVE
    clear hV hSp hVt hVp hVv hVE hS hM4 hP4 hpv y0 y1 y2 y3 y4 yl
    obtain ⟨⟨c0, c1, c2, c3, c4, c5, c6⟩, hcl⟩ := VP.out.facts
    obtain ⟨⟨d0, d1, d2, d3, d4, d5, d6⟩, hdl⟩ := VV.out.facts
    dsimp only at c0 c1 c2 c3 c4 c5 c6 d0 d1 d2 d3 d4 d5 d6
    have hkd : (L.length : Int) - (LV.length : Int) = ((pre.length : Nat) : Int) := by omega
    go_upto_region 13 with (fail)
    (try rw [hkd])
    clear hkd
    have hp1 : 1 ≤ pre.length := by omega
    go_upto_region 16 with (fail)
    clear c1 c2 c3 c4 c5 c6 d1 d2 d3 d4 d5 d6 c0 d0 hrs
    go_loopw [16] (fun iv wr => ∃ i : Nat, i ≤ LV.length ∧ iv = .int .i64 i ∧ Hid (Ext V wr)) (fun iv _ => LV.length - (intOf iv).toNat)
    case atStart => exact ⟨0, by omega, rfl, Lib.hid (Ext.refl _)⟩
    case round =>
      obtain ⟨i, hi, rfl, hR⟩ := hrel
      by_cases hlt : i < LV.length
      · have hPw := VP.out.ext hR.out
        have hPv := VV.out.ext hR.out
        obtain ⟨⟨c0, -⟩, hcl'⟩ := hPw.facts
        obtain ⟨⟨d0, -⟩, hdl'⟩ := hPv.facts
        obtain ⟨g, rfl, hgl, s0, s1, s2⟩ := hPv.2.step (i := i) hlt rfl
        obtain ⟨g2, rfl, hgl2, z0, z1, z2⟩ := hPw.2.step (i := pre.length + i) (by dsimp only; omega) rfl
        dsimp only at c0 d0 s0 s1 s2 z0 z1 z2
        rw [HST.out] at z0 z1 z2
        generalize stpAt LV i = sj at s0 s1 s2 z0 z1 z2
        obtain ⟨lj, aj, xj⟩ := sj
        dsimp only at s0 s1 s2 z0 z1 z2
        have hz := stB_self (lj, aj, xj)
        obtain ⟨jj, hjj⟩ : ∃ jj, pre.length + i = jj := ⟨_, rfl⟩
        rw [hjj] at z0 z1 z2
        have hpi : (pre.length : Int) + (i : Int) = (jj : Int) := by omega
        have hpi2 : (jj : Int) < (L.length : Int) := by omega
        have hpi3 : (0 : Int) ≤ (jj : Int) := by omega
        clear hjj
        clear hPw hPv
        go_upto_region 18 with (fail)
        refine region_ext (by kernel_rfl) (by kernel_rfl) ?_; (repeat (go_big_quiet_step (fail))); refine wpQuiet_nil ?_; intro w1 hb; have ⟨hc, hf, hh, hs⟩ := hb.facts; try simp only [World.size_alloc, World.size_setCell, World.size_drew] at hs
        go_wp2
        refine ⟨⟨i + 1, by omega, by go_num, Lib.hid (hR.out.trans hb)⟩, by simp [intOf]; omega⟩
      · obtain rfl : i = LV.length := by omega
        have hPv := VV.out.ext hR.out
        obtain ⟨⟨d0, -⟩, hdl'⟩ := hPv.facts
        dsimp only at d0
        have hTb := (hR.out.block _ (heap_lt VT.out)).trans VT.out
        have y0 := (heap_cell hTb 0).trans rfl
        have yl := heap_lt hTb
        have hkk : (placeF (some ((k : Int) + 1, x))).1 = (4 : Int) - (pre.length : Int) := by show (k : Int) + 1 - 1 = _; omega
        rw [hkk] at y0
        clear hPv hTb hkk
        go_wp2
        go_ret
        exact ⟨rfl, VE.out.trans hR.out⟩
end Go.Proofs.Ytfaekfdngkpkdaa
