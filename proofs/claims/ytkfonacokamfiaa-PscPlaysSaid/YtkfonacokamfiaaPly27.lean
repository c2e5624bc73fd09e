/- Joined texts, part 27 of what the law stands on: each as its own head says. -/
import Derived.Test.YtkfonacokamfiaaPly25
import Derived.Test.YtkfonacokamfiaaPly22
import Derived.Test.YtkfonacokamfiaaPly10
import Derived.Test.YtkfonacokamfiaaPly26
/- The document's caches of tables: Fill. Printed by mkpsct.py. Own text. -/
namespace Go.Proofs.Ytkfonacokamfiaa
set_option linter.unusedVariables false
set_option linter.unusedSimpArgs false
open Go.RowKit
attribute [local go_sem] wext_cell wext_frozen wext_heap alloc_cell alloc_frozen alloc_heap setCell_cell objCell_cells objFrozen_cells

theorem putC_len {k : Key} {x : Line} {pick : Int} {r : Nat} {L : List (Key × Line)} (h : L.length ≤ r) : (putC k x pick r L).length ≤ r := by
  unfold putC
  split
  · exact h
  · rename_i h0
    split
    · rename_i h1
      rw [← keysOf_length, keysOf_putL h1, keysOf_length]; exact h
    · rw [List.length_append]
      split
      · simp; omega
      · rw [evictL_length (by omega)]; simp; omega
/-- Leaf at any level. -/
theorem rLeafN_c (x l : Int) (w : World) (h0 : 0 ≤ x) (h1 : x ≤ 18446744073709551615) :
    Calls Try.prog 48 #[.int .u64 x, .int .i64 l] w fun e w' => e = .returned (.bool (leafI x l)) ∧ Ext w w' := by
  by_cases hl : 1 ≤ l ∧ l ≤ 4
  · exact rLeaf_c x l w h0 h1 hl.1 hl.2
  · have e1 : (l == 1) = false := by rw [beq_eq_false_iff_ne]; omega
    have e2 : (l == 2) = false := by rw [beq_eq_false_iff_ne]; omega
    have e3 : (l == 3) = false := by rw [beq_eq_false_iff_ne]; omega
    have hd : leafI x l = false := by unfold leafI; rw [e1, e2, e3]; rfl
    rw [hd]
    clear hd
    go_enter Try.func48, Try.ntmps48
    go_wp2
    go_ret
    exact ⟨rfl, (by repeat (first | exact Ext.refl _ | assumption | refine Ext.alloc ?_ _ | refine Ext.drew ?_ | refine Ext.setCell ?_ (by first | (simp; done) | (dsimp only; omega)) _ | refine Ext.trans ?_ (by assumption)))⟩
theorem RpAt.keepP {w : World} {b : Nat} {sa : Int → Option Addr} {sc : Int → Nat} {C : Int → Lines} (h : RpAt w sa sc C) {cs : Array Value} (hb : w.heap[b]? = some (.cells cs 31 (0, 0))) {v0 v1 v2 v3 v4 v5 : Value} :
    RpAt ((((((w.setCell ⟨b, 0, none⟩ v0).setCell ⟨b, 1, none⟩ v1).setCell ⟨b, 2, none⟩ v2).setCell ⟨b, 3, none⟩ v3).setCell ⟨b, 4, none⟩ v4).setCell ⟨b, 5, none⟩ v5) sa sc C := fun l l0 l1 =>
  ⟨(h l l0 l1).1.keep fun g hg => store6_other fun e => by
    obtain ⟨c, hc⟩ := (h l l0 l1).1.heap g hg
    rw [← e, hb] at hc
    simp only [Option.some.injEq, Obj.cells.injEq] at hc
    exact absurd hc.2.1 (by decide), (h l l0 l1).2⟩
theorem RpAt.keep3 {w : World} {b : Nat} {sa : Int → Option Addr} {sc : Int → Nat} {C : Int → Lines} (h : RpAt w sa sc C) {cs : Array Value} (hb : w.heap[b]? = some (.cells cs 47 (0, 0))) {v0 v1 v2 : Value} :
    RpAt (((w.setCell ⟨b, 0, none⟩ v0).setCell ⟨b, 1, none⟩ v1).setCell ⟨b, 2, none⟩ v2) sa sc C := fun l l0 l1 =>
  ⟨(h l l0 l1).1.keep fun g hg => store3_other fun e => by
    obtain ⟨c, hc⟩ := (h l l0 l1).1.heap g hg
    rw [← e, hb] at hc
    simp only [Option.some.injEq, Obj.cells.injEq] at hc
    exact absurd hc.2.1 (by decide), (h l l0 l1).2⟩
/-- Between two rounds of Fill. -/
structure RFillTo (w : World) (vb r : Nat) (L : List Stp) (pa : Option Addr) (pc : Nat) (why : Int) (q : Rt) (lv fr k4 k3 k2 p a : Int) (D : Int → Lines) (i : Nat) (rt : Rt) (sa : Int → Option Addr) (sc : Int → Nat) (C : Int → Lines) (wr : World) : Prop where
  rc : RcAt wr vb sa sc C r
  path : wr.heap[vb + 1]? = some (.cells #[.slice pa L.length pc, .int .i64 why, .bool q.1, .bool q.2.1, .bool q.2.2, .int .i64 lv, .int .u64 fr] 73 (0, 0))
  picks : wr.heap[vb + 1 + 1 + 1]? = some (.cells #[.int .i64 k4, .int .i64 k3, .int .i64 k2] 42 (0, 0))
  zero : wr.heap[vb + 1 + 1 + 1 + 1]? = some (.cells #[.slice none 0 0, .int .i64 0, .slice none 0 0, .int .i64 0, .slice none 0 0, .int .i64 0] 31 (0, 0))
  right : wr.heap[vb + 1 + 1 + 1 + 1 + 1]? = some (.cells #[.bool rt.1, .bool rt.2.1, .bool rt.2.2] 47 (0, 0))
  ext : Ext w wr
  len : ∀ l, 2 ≤ l → l ≤ 4 → (C l).length ≤ r
  eq : fillF p a (pkF k4 k3 k2) r (L.drop i) rt C = D

theorem rec_step {w wr U X Y : World} {vb r : Nat} {L : List Stp} {pa : Option Addr} {pc : Nat} {why : Int} {q : Rt} {lv fr k4 k3 k2 p a : Int} {D : Int → Lines} {i : Nat} {rt u : Rt} {sa : Int → Option Addr} {sc : Int → Nat} {C : Int → Lines}
    (h : RFillTo w vb r L pa pc why q lv fr k4 k3 k2 p a D i rt sa sc C wr) (hwv : w.heap.size ≤ vb)
    (kU : ∀ b o, b ≠ vb + 1 + 1 + 1 + 1 + 1 → wr.heap[b]? = some o → U.heap[b]? = some o) (eU : Ext w U) (rU : U.heap[vb + 1 + 1 + 1 + 1 + 1]? = some (.cells #[.bool u.1, .bool u.2.1, .bool u.2.2] 47 (0, 0))) (RU : RpAt U sa sc C)
    (kX : Ext U X) {l : Int} {o : Nat} (hl : (l = 4 ∧ o = 0) ∨ (l = 3 ∧ o = 2) ∨ (l = 2 ∧ o = 4)) {a' : Option Addr} {c : Nat} {L' : Lines} (hL' : L'.length ≤ r) (hr : RefAt X (.slice a' L'.length c) L')
    (kY : Ext ((X.setCell ⟨vb, o, none⟩ (.slice a' L'.length c)).setCell ⟨vb, o + 1, none⟩ (.int .i64 r)) Y)
    (hD : D = fillF p a (pkF k4 k3 k2) r (L.drop (i + 1)) u (upd C l L')) :
    RFillTo w vb r L pa pc why q lv fr k4 k3 k2 p a D (i + 1) u (upd sa l a') (upd sc l c) (upd C l L') Y := by
  have hX : RcAt X vb sa sc C r := ⟨(kX.block _ (heap_lt (kU _ _ (by omega) h.rc.1))).trans (kU _ _ (by omega) h.rc.1), RU.ext kX⟩
  have hY := (hX.put hl hr).ext kY
  have st : ∀ b ob, b ≠ vb → b ≠ vb + 1 + 1 + 1 + 1 + 1 → wr.heap[b]? = some ob → Y.heap[b]? = some ob := fun b ob h1 h2 hb => by
    have hx := (kX.block _ (heap_lt (kU _ _ h2 hb))).trans (kU _ _ h2 hb)
    have e := (setCell_heap (X.setCell ⟨vb, o, none⟩ (.slice a' L'.length c)) vb (o + 1) b (.int .i64 r) (Ne.symm h1)).trans (setCell_heap X vb o b (.slice a' L'.length c) (Ne.symm h1))
    exact (kY.block _ (by simp only [World.size_setCell]; exact heap_lt hx)).trans (e.trans hx)
  refine ⟨hY, st _ _ (by omega) (by omega) h.path, st _ _ (by omega) (by omega) h.picks, st _ _ (by omega) (by omega) h.zero, ?_, ?_, fun j j0 j1 => ?_, hD.symm⟩
  · have hx := (kX.block _ (heap_lt rU)).trans rU
    have e := (setCell_heap (X.setCell ⟨vb, o, none⟩ (.slice a' L'.length c)) vb (o + 1) (vb + 1 + 1 + 1 + 1 + 1) (.int .i64 r) (by omega)).trans (setCell_heap X vb o (vb + 1 + 1 + 1 + 1 + 1) (.slice a' L'.length c) (by omega))
    exact (kY.block _ (by simp only [World.size_setCell]; exact heap_lt hx)).trans (e.trans hx)
  · exact (Ext.setCell (Ext.setCell (eU.trans kX) hwv _) hwv _).trans kY
  · by_cases hj : j = l
    · subst hj; rw [upd_same]; exact hL'
    · rw [upd_other _ _ hj]; exact h.len j j0 j1

set_option maxHeartbeats 4000000 in
set_option maxRecDepth 100000 in
theorem rFill_c (sa0 : Int → Option Addr) (sc0 : Int → Nat) (C : Int → Lines) (r : Nat) (p a : Int) (L : List Stp) (pa : Option Addr) (pc : Nat) (why : Int) (rr : Rt) (lv fr : Int) (n t : Int) (rt : Rt) (k4 k3 k2 : Int) (w : World) (h : RpAt w sa0 sc0 C) (hCr : ∀ l, 2 ≤ l → l ≤ 4 → (C l).length ≤ r) (hr64 : r ≤ 64)
    (hS : StepsAt w pa L) (hL : L.length ≤ 5864062014634) (hok : ∀ i, i < L.length → 0 ≤ (stpAt L i).2.2 ∧ (stpAt L i).2.2 ≤ 18446744073709551615) (h0 : 0 ≤ a) (h1 : a ≤ 18446744073709551615)
    (hk : ∀ l, -9223372036854775808 ≤ pkF k4 k3 k2 l ∧ pkF k4 k3 k2 l ≤ 9223372036854775807) :
    Calls Try.prog 18 #[.agg #[.slice (sa0 4) (C 4).length (sc0 4), .int .i64 r, .slice (sa0 3) (C 3).length (sc0 3), .int .i64 r, .slice (sa0 2) (C 2).length (sc0 2), .int .i64 r], .int .i64 p, .int .u64 a, .agg #[.slice pa L.length pc, .int .i64 why, .bool rr.1, .bool rr.2.1, .bool rr.2.2, .int .i64 lv, .int .u64 fr], .agg #[.int .i64 n, .int .u64 t, .bool rt.1, .bool rt.2.1, .bool rt.2.2], .agg #[.int .i64 k4, .int .i64 k3, .int .i64 k2]] w
      (EndRp (fillF p a (pkF k4 k3 k2) r L rt C) r w) := by
  have H := Lib.hid h
  have HS := Lib.hid hS
  have HO := Lib.hid hok
  have HK := Lib.hid hk
  obtain ⟨D, hD⟩ : ∃ D, fillF p a (pkF k4 k3 k2) r L rt C = D := ⟨_, rfl⟩
  rw [hD]
  have HD := Lib.hid hD
  generalize hE : EndRp D r w = E
  have HE := Lib.hid hE
  clear hE h hS hok hD hk
  obtain ⟨r0, r1, r2⟩ := rt
  obtain ⟨q0, q1, q2⟩ := rr
  have HC0 := Lib.hid hCr
  clear hCr
  go_enter Try.func18, Try.ntmps18
  go_upto_region 1 with (fail)
  refine wp_gen ?_; intro V hV
  have hVE : Ext w V := by rw [hV]; exact (by repeat (first | exact Ext.refl _ | assumption | refine Ext.alloc ?_ _ | refine Ext.drew ?_ | refine Ext.setCell ?_ (by first | (simp; done) | (dsimp only; omega)) _ | refine Ext.trans ?_ (by assumption)))
  have hV0 : V.heap[w.heap.size]? = some (.cells #[.slice (sa0 4) (C 4).length (sc0 4), .int .i64 r, .slice (sa0 3) (C 3).length (sc0 3), .int .i64 r, .slice (sa0 2) (C 2).length (sc0 2), .int .i64 r] 31 (0, 0)) := by
    rw [hV]; exact (alloc_other _ _ (by first | (simp; done) | (simp; omega))).trans ((alloc_other _ _ (by first | (simp; done) | (simp; omega))).trans ((alloc_other _ _ (by first | (simp; done) | (simp; omega))).trans ((alloc_other _ _ (by simp)).trans (alloc_same ..))))
  have hV1 : V.heap[w.heap.size + 1]? = some (.cells #[.slice pa L.length pc, .int .i64 why, .bool q0, .bool q1, .bool q2, .int .i64 lv, .int .u64 fr] 73 (0, 0)) := by
    rw [hV]; exact (alloc_other _ _ (by first | (simp; done) | (simp; omega))).trans ((alloc_other _ _ (by first | (simp; done) | (simp; omega))).trans ((alloc_other _ _ (by simp)).trans (alloc_same1 ..)))
  have hV2 : V.heap[w.heap.size + 1 + 1]? = some (.cells #[.int .i64 n, .int .u64 t, .bool r0, .bool r1, .bool r2] 49 (0, 0)) := by
    rw [hV]; exact (alloc_other _ _ (by first | (simp; done) | (simp; omega))).trans ((alloc_other _ _ (by first | (simp; done) | (simp; omega))).trans (alloc_same2 ..))
  have hV3 : V.heap[w.heap.size + 1 + 1 + 1]? = some (.cells #[.int .i64 k4, .int .i64 k3, .int .i64 k2] 42 (0, 0)) := by
    rw [hV]; exact (alloc_other _ _ (by first | (simp; done) | (simp; omega))).trans (alloc_same3 ..)
  have hV4 : V.heap[w.heap.size + 1 + 1 + 1 + 1]? = some (.cells #[.slice none 0 0, .int .i64 0, .slice none 0 0, .int .i64 0, .slice none 0 0, .int .i64 0] 31 (0, 0)) := by
    rw [hV]; exact alloc_same4 ..
  have hVz : V.heap.size = w.heap.size + 1 + 1 + 1 + 1 + 1 := by rw [hV]; simp
  obtain ⟨vb, hvb⟩ : ∃ vb, w.heap.size = vb := ⟨_, rfl⟩
  rw [hvb] at hV0 hV1 hV2 hV3 hV4 hVz ⊢
  have hwv : w.heap.size ≤ vb := by omega
  have VE := Lib.hid hVE
  have V0 := Lib.hid hV0
  have V1 := Lib.hid hV1
  have V3 := Lib.hid hV3
  have V4 := Lib.hid hV4
  have VZ := Lib.hid hVz
  have p0 := (heap_cell hV2 0).trans rfl
  have p1 := (heap_cell hV2 1).trans rfl
  have p2 := (heap_cell hV2 2).trans rfl
  have p3 := (heap_cell hV2 3).trans rfl
  have p4 := (heap_cell hV2 4).trans rfl
  have pl := heap_lt hV2
  clear hV hVE hV0 hV1 hV2 hV3 hV4 hVz hvb
  go_upto_region 2 with (fail)
  refine wp_gen ?_; intro U hU
  have hUE : Ext V U := by rw [hU]; exact (by repeat (first | exact Ext.refl _ | assumption | refine Ext.alloc ?_ _ | refine Ext.drew ?_ | refine Ext.setCell ?_ (by first | (simp; done) | (dsimp only; omega)) _ | refine Ext.trans ?_ (by assumption)))
  have hU5 : U.heap[vb + 1 + 1 + 1 + 1 + 1]? = some (.cells #[.bool r0, .bool r1, .bool r2] 47 (0, 0)) := by rw [hU, ← VZ.out]; exact alloc_same ..
  have VT : Hid (RFillTo w vb r L pa pc why (q0, q1, q2) lv fr k4 k3 k2 p a D 0 (r0, r1, r2) sa0 sc0 C U) := Lib.hid ⟨⟨(hUE.block _ (heap_lt V0.out)).trans V0.out, H.out.ext (VE.out.trans hUE)⟩, (hUE.block _ (heap_lt V1.out)).trans V1.out, (hUE.block _ (heap_lt V3.out)).trans V3.out, (hUE.block _ (heap_lt V4.out)).trans V4.out, hU5, VE.out.trans hUE, HC0.out, by rw [← HD.out]; rfl⟩
  rw [VZ.out]
  have hsz := hUE.size
  have hz := VZ.out
  clear hU hUE hU5 p0 p1 p2 p3 p4 pl V0 V1 V3 V4 VE VZ
  go_upto_region 3 with (fail)
  go_loopw [14] (fun iv wr => ∃ (i : Nat) (rt' : Rt) (sa : Int → Option Addr) (sc : Int → Nat) (C' : Int → Lines), i ≤ L.length ∧ iv = .int .i64 i ∧ Hid (RFillTo w vb r L pa pc why (q0, q1, q2) lv fr k4 k3 k2 p a D i rt' sa sc C' wr)) (fun iv _ => L.length - (intOf iv).toNat)
  case atStart => exact ⟨0, _, _, _, _, by omega, rfl, VT⟩
  case round =>
    obtain ⟨i, rt', sa, sc, C', hi, rfl, hR⟩ := hrel
    obtain ⟨a4, ha4⟩ : ∃ a4, sa 4 = a4 := ⟨_, rfl⟩
    obtain ⟨a3, ha3⟩ : ∃ a3, sa 3 = a3 := ⟨_, rfl⟩
    obtain ⟨a2, ha2⟩ : ∃ a2, sa 2 = a2 := ⟨_, rfl⟩
    obtain ⟨c4, hc4⟩ : ∃ c4, sc 4 = c4 := ⟨_, rfl⟩
    obtain ⟨c3, hc3⟩ : ∃ c3, sc 3 = c3 := ⟨_, rfl⟩
    obtain ⟨c2, hc2⟩ : ∃ c2, sc 2 = c2 := ⟨_, rfl⟩
    obtain ⟨n4, hn4⟩ : ∃ n4, (C' 4).length = n4 := ⟨_, rfl⟩
    obtain ⟨n3, hn3⟩ : ∃ n3, (C' 3).length = n3 := ⟨_, rfl⟩
    obtain ⟨n2, hn2⟩ : ∃ n2, (C' 2).length = n2 := ⟨_, rfl⟩
    have hpb := hR.out.rc.1
    rw [ha4, hc4, hn4, ha3, hc3, hn3, ha2, hc2, hn2] at hpb
    have PB := Lib.hid hpb
    have R4 : Hid (∀ w', Ext wr w' → RefAt w' (.slice a4 n4 c4) (C' 4)) := Lib.hid (fun w' k => by have := hR.out.rc.2.ext k 4 (by omega) (by omega); rw [ha4, hc4, hn4] at this; exact this)
    have R3 : Hid (∀ w', Ext wr w' → RefAt w' (.slice a3 n3 c3) (C' 3)) := Lib.hid (fun w' k => by have := hR.out.rc.2.ext k 3 (by omega) (by omega); rw [ha3, hc3, hn3] at this; exact this)
    have R2 : Hid (∀ w', Ext wr w' → RefAt w' (.slice a2 n2 c2) (C' 2)) := Lib.hid (fun w' k => by have := hR.out.rc.2.ext k 2 (by omega) (by omega); rw [ha2, hc2, hn2] at this; exact this)
    have HQ : Hid (sa 4 = a4 ∧ sc 4 = c4 ∧ (C' 4).length = n4 ∧ sa 3 = a3 ∧ sc 3 = c3 ∧ (C' 3).length = n3 ∧ sa 2 = a2 ∧ sc 2 = c2 ∧ (C' 2).length = n2) := Lib.hid ⟨ha4, hc4, hn4, ha3, hc3, hn3, ha2, hc2, hn2⟩
    clear ha4 ha3 ha2 hc4 hc3 hc2 hn4 hn3 hn2 hpb
    have z0 := (heap_cell hR.out.path 0).trans rfl
    have zl := heap_lt hR.out.path
    have hgo : (∃ _ : i + 1 < L.length, True) ∨ ¬ (i + 1 < L.length) := by
      by_cases h : i + 1 < L.length
      · exact .inl ⟨h, trivial⟩
      · exact .inr h
    rcases hgo with ⟨hlt, -⟩ | hge
    · obtain ⟨g, o, hsa, hgl, s0, s1, s2⟩ := (HS.out.ext hR.out.ext) i (by omega)
      subst hsa
      obtain ⟨u0, u1⟩ := HO.out i (by omega)
      have hfd := fill_drop (p := p) (a := a) (pk := pkF k4 k3 k2) (r := r) (rt := rt') (C := C') (L := L) (i := i) (by omega)
      rw [hR.out.eq, if_neg (by omega)] at hfd
      generalize stpAt L i = sj at s0 s1 s2 u0 u1 hfd
      obtain ⟨l, s, x⟩ := sj
      dsimp only at s0 s1 s2 u0 u1 hfd
      have HFD := Lib.hid hfd
      clear hfd
      have HBt := Lib.hid (fun w => bit_c x 0 w u0 u1 (by omega) (by omega))
      cases hp : bitB x 0 with
      | false =>
        rw [hp] at HBt
        have HC : Hid (D = C') := Lib.hid (by rw [HFD.out, if_neg]; rintro ⟨-, h2, -⟩; rw [hp] at h2; cases h2)
        clear hp HFD
        go_upto_region 7 with (first | (go_at_call 47; refine (HBt.out _).mono ?_; rintro e w2 ⟨rfl, hb2⟩; have SB2 := (hb2.block _ (by simp)).trans (alloc_same wr _); have f0 := (heap_cell SB2 0).trans rfl; have f2 := (heap_cell SB2 2).trans rfl; have fl := heap_lt SB2))
        have KQ := Lib.hid (Ext.trans ((by repeat (first | exact Ext.refl _ | assumption | refine Ext.alloc ?_ _ | refine Ext.drew ?_ | refine Ext.setCell ?_ (by first | (simp; done) | (dsimp only; omega)) _ | refine Ext.trans ?_ (by assumption))) : Ext wr _) hb2)
        clear hb2 SB2 f0 f2 fl z0 s0 s1 s2
        have PQ := Lib.hid ((KQ.out.block _ (heap_lt PB.out)).trans PB.out)
        have ZQ := Lib.hid ((KQ.out.block _ (heap_lt hR.out.zero)).trans hR.out.zero)
        have RQ := Lib.hid (hR.out.rc.2.ext KQ.out)
        have EQ := Lib.hid (hR.out.ext.trans KQ.out)
        have x0 := (heap_cell PQ.out 0).trans rfl
        have x1 := (heap_cell PQ.out 1).trans rfl
        have x2 := (heap_cell PQ.out 2).trans rfl
        have x3 := (heap_cell PQ.out 3).trans rfl
        have x4 := (heap_cell PQ.out 4).trans rfl
        have x5 := (heap_cell PQ.out 5).trans rfl
        have xl := heap_lt PQ.out
        have y0 := (heap_cell ZQ.out 0).trans rfl
        have y1 := (heap_cell ZQ.out 1).trans rfl
        have y2 := (heap_cell ZQ.out 2).trans rfl
        have y3 := (heap_cell ZQ.out 3).trans rfl
        have y4 := (heap_cell ZQ.out 4).trans rfl
        have y5 := (heap_cell ZQ.out 5).trans rfl
        have yf := frozen_of ZQ.out
        have yl := heap_lt ZQ.out
        go_wp2
        refine post_gen (fun X => X.heap[vb + 1 + 1 + 1 + 1]? = some (.cells #[.slice a4 n4 c4, .int .i64 r, .slice a3 n3 c3, .int .i64 r, .slice a2 n2 c2, .int .i64 r] 31 (0, 0)) ∧ RpAt X sa sc C' ∧ Ext w X) ⟨store6h ZQ.out, RQ.out.keepP ZQ.out, ext6p EQ.out (by omega)⟩ ?_
        rintro X ⟨m5, R5, E5⟩
        have v0 := (heap_cell m5 0).trans rfl
        have v1 := (heap_cell m5 1).trans rfl
        have v2 := (heap_cell m5 2).trans rfl
        have v3 := (heap_cell m5 3).trans rfl
        have v4 := (heap_cell m5 4).trans rfl
        have v5 := (heap_cell m5 5).trans rfl
        have RX := Lib.hid R5
        have HX := Lib.hid E5
        clear m5 R5 E5 y0 y1 y2 y3 y4 y5 yf x0 x1 x2 x3 x4 x5
        refine bodyPost_ret (by simp [results, Try.results18, go_sem, ↓IntWalk.iteOmega, *]; try rfl) rfl (by rw [← HE.out, HC.out]; obtain ⟨e1, e2, e3, e4, e5, e6, e7, e8, e9⟩ := HQ.out; exact ⟨sa, sc, by rw [e1, e2, e3, e4, e5, e6, e7, e8, e9], RX.out, HX.out⟩)
      | true =>
        rw [hp] at HBt
        have HLf := Lib.hid (fun w => rLeafN_c x l w u0 u1)
        cases hlf : leafI x l with
        | true =>
          rw [hlf] at HLf
          have HC : Hid (D = C') := Lib.hid (by rw [HFD.out, if_neg]; rintro ⟨-, -, h2⟩; rw [hlf] at h2; cases h2)
          clear hp hlf HFD
          go_upto_region 7 with (first | (go_at_call 47; refine (HBt.out _).mono ?_; rintro e w2 ⟨rfl, hb2⟩; have SB2 := (hb2.block _ (by simp)).trans (alloc_same wr _); have f0 := (heap_cell SB2 0).trans rfl; have f2 := (heap_cell SB2 2).trans rfl; have fl := heap_lt SB2) | (go_at_call 48; refine (HLf.out _).mono ?_; rintro e w3 ⟨rfl, hb3⟩; have SB3 := (hb3.block _ (heap_lt SB2)).trans SB2; have k0 := (heap_cell SB3 0).trans rfl; have kl := heap_lt SB3))
          have KQ := Lib.hid (Ext.trans ((by repeat (first | exact Ext.refl _ | assumption | refine Ext.alloc ?_ _ | refine Ext.drew ?_ | refine Ext.setCell ?_ (by first | (simp; done) | (dsimp only; omega)) _ | refine Ext.trans ?_ (by assumption))) : Ext wr _) (hb2.trans hb3))
          clear hb2 SB2 f0 f2 fl z0 s0 s1 s2 hb3 SB3 k0 kl
          have PQ := Lib.hid ((KQ.out.block _ (heap_lt PB.out)).trans PB.out)
          have ZQ := Lib.hid ((KQ.out.block _ (heap_lt hR.out.zero)).trans hR.out.zero)
          have RQ := Lib.hid (hR.out.rc.2.ext KQ.out)
          have EQ := Lib.hid (hR.out.ext.trans KQ.out)
          have x0 := (heap_cell PQ.out 0).trans rfl
          have x1 := (heap_cell PQ.out 1).trans rfl
          have x2 := (heap_cell PQ.out 2).trans rfl
          have x3 := (heap_cell PQ.out 3).trans rfl
          have x4 := (heap_cell PQ.out 4).trans rfl
          have x5 := (heap_cell PQ.out 5).trans rfl
          have xl := heap_lt PQ.out
          have y0 := (heap_cell ZQ.out 0).trans rfl
          have y1 := (heap_cell ZQ.out 1).trans rfl
          have y2 := (heap_cell ZQ.out 2).trans rfl
          have y3 := (heap_cell ZQ.out 3).trans rfl
          have y4 := (heap_cell ZQ.out 4).trans rfl
          have y5 := (heap_cell ZQ.out 5).trans rfl
          have yf := frozen_of ZQ.out
          have yl := heap_lt ZQ.out
          go_wp2
          refine post_gen (fun X => X.heap[vb + 1 + 1 + 1 + 1]? = some (.cells #[.slice a4 n4 c4, .int .i64 r, .slice a3 n3 c3, .int .i64 r, .slice a2 n2 c2, .int .i64 r] 31 (0, 0)) ∧ RpAt X sa sc C' ∧ Ext w X) ⟨store6h ZQ.out, RQ.out.keepP ZQ.out, ext6p EQ.out (by omega)⟩ ?_
          rintro X ⟨m5, R5, E5⟩
          have v0 := (heap_cell m5 0).trans rfl
          have v1 := (heap_cell m5 1).trans rfl
          have v2 := (heap_cell m5 2).trans rfl
          have v3 := (heap_cell m5 3).trans rfl
          have v4 := (heap_cell m5 4).trans rfl
          have v5 := (heap_cell m5 5).trans rfl
          have RX := Lib.hid R5
          have HX := Lib.hid E5
          clear m5 R5 E5 y0 y1 y2 y3 y4 y5 yf x0 x1 x2 x3 x4 x5
          refine bodyPost_ret (by simp [results, Try.results18, go_sem, ↓IntWalk.iteOmega, *]; try rfl) rfl (by rw [← HE.out, HC.out]; obtain ⟨e1, e2, e3, e4, e5, e6, e7, e8, e9⟩ := HQ.out; exact ⟨sa, sc, by rw [e1, e2, e3, e4, e5, e6, e7, e8, e9], RX.out, HX.out⟩)
        | false =>
          rw [hlf] at HLf
          by_cases hl : 2 ≤ l ∧ l ≤ 4
          case neg =>
            have HC : Hid (D = C') := Lib.hid (by rw [HFD.out, if_neg]; rintro ⟨h2, -⟩; exact hl h2)
            have hl2 : decide (l < 2) = true ∨ (decide (l < 2) = false ∧ decide (4 < l) = true) := by
              by_cases h : l < 2
              · exact .inl (by simpa using h)
              · exact .inr ⟨by simpa using h, by simp; omega⟩
            clear hp hlf HFD hl
            rcases hl2 with hd1 | ⟨hd1, hd2⟩
            all_goals
              go_upto_region 7 with (first | (go_at_call 47; refine (HBt.out _).mono ?_; rintro e w2 ⟨rfl, hb2⟩; have SB2 := (hb2.block _ (by simp)).trans (alloc_same wr _); have f0 := (heap_cell SB2 0).trans rfl; have f2 := (heap_cell SB2 2).trans rfl; have fl := heap_lt SB2) | (go_at_call 48; refine (HLf.out _).mono ?_; rintro e w3 ⟨rfl, hb3⟩; have SB3 := (hb3.block _ (heap_lt SB2)).trans SB2; have k0 := (heap_cell SB3 0).trans rfl; have kl := heap_lt SB3))
              have KQ := Lib.hid (Ext.trans ((by repeat (first | exact Ext.refl _ | assumption | refine Ext.alloc ?_ _ | refine Ext.drew ?_ | refine Ext.setCell ?_ (by first | (simp; done) | (dsimp only; omega)) _ | refine Ext.trans ?_ (by assumption))) : Ext wr _) (hb2.trans hb3))
              clear hb2 SB2 f0 f2 fl z0 s0 s1 s2 hb3 SB3 k0 kl
              have PQ := Lib.hid ((KQ.out.block _ (heap_lt PB.out)).trans PB.out)
              have ZQ := Lib.hid ((KQ.out.block _ (heap_lt hR.out.zero)).trans hR.out.zero)
              have RQ := Lib.hid (hR.out.rc.2.ext KQ.out)
              have EQ := Lib.hid (hR.out.ext.trans KQ.out)
              have x0 := (heap_cell PQ.out 0).trans rfl
              have x1 := (heap_cell PQ.out 1).trans rfl
              have x2 := (heap_cell PQ.out 2).trans rfl
              have x3 := (heap_cell PQ.out 3).trans rfl
              have x4 := (heap_cell PQ.out 4).trans rfl
              have x5 := (heap_cell PQ.out 5).trans rfl
              have xl := heap_lt PQ.out
              have y0 := (heap_cell ZQ.out 0).trans rfl
              have y1 := (heap_cell ZQ.out 1).trans rfl
              have y2 := (heap_cell ZQ.out 2).trans rfl
              have y3 := (heap_cell ZQ.out 3).trans rfl
              have y4 := (heap_cell ZQ.out 4).trans rfl
              have y5 := (heap_cell ZQ.out 5).trans rfl
              have yf := frozen_of ZQ.out
              have yl := heap_lt ZQ.out
              go_wp2
              refine post_gen (fun X => X.heap[vb + 1 + 1 + 1 + 1]? = some (.cells #[.slice a4 n4 c4, .int .i64 r, .slice a3 n3 c3, .int .i64 r, .slice a2 n2 c2, .int .i64 r] 31 (0, 0)) ∧ RpAt X sa sc C' ∧ Ext w X) ⟨store6h ZQ.out, RQ.out.keepP ZQ.out, ext6p EQ.out (by omega)⟩ ?_
              rintro X ⟨m5, R5, E5⟩
              have v0 := (heap_cell m5 0).trans rfl
              have v1 := (heap_cell m5 1).trans rfl
              have v2 := (heap_cell m5 2).trans rfl
              have v3 := (heap_cell m5 3).trans rfl
              have v4 := (heap_cell m5 4).trans rfl
              have v5 := (heap_cell m5 5).trans rfl
              have RX := Lib.hid R5
              have HX := Lib.hid E5
              clear m5 R5 E5 y0 y1 y2 y3 y4 y5 yf x0 x1 x2 x3 x4 x5
              refine bodyPost_ret (by simp [results, Try.results18, go_sem, ↓IntWalk.iteOmega, *]; try rfl) rfl (by rw [← HE.out, HC.out]; obtain ⟨e1, e2, e3, e4, e5, e6, e7, e8, e9⟩ := HQ.out; exact ⟨sa, sc, by rw [e1, e2, e3, e4, e5, e6, e7, e8, e9], RX.out, HX.out⟩)
          case pos =>
            obtain ⟨b0, b1, b2⟩ := rt'
            obtain ⟨u, hu⟩ : ∃ u, andR (b0, b1, b2) x = u := ⟨_, rfl⟩
            have HA : Hid (∀ w, Calls Try.prog 49 #[.agg #[.bool b0, .bool b1, .bool b2], .int .u64 x] w fun e w' => e = .returned (.agg #[.bool u.1, .bool u.2.1, .bool u.2.2]) ∧ Ext w w') := Lib.hid (fun w => by rw [← hu]; exact rAnd_c b0 b1 b2 x w u0 u1)
            have HTb := Lib.hid (fun w => refTable_c x w u0 u1)
            have HKy := Lib.hid (fun w => rpKey_c p l a w (by omega) h0 h1)
            have HC : Hid (D = fillF p a (pkF k4 k3 k2) r (L.drop (i + 1)) u (upd C' l (putC (kP p l a) (lineP (tabI x) u) (pkF k4 k3 k2 l) r (C' l)))) := Lib.hid (by rw [HFD.out, if_pos ⟨hl, hp, hlf⟩, hu])
            have hd1 : decide (l < 2) = false := by simp; omega
            have hd2 : decide (4 < l) = false := by simp; omega
            have HLr := Lib.hid (hR.out.len l hl.1 hl.2)
            have HPu := Lib.hid (fun v w (h : RefAt w v (C' l)) => refPut_c (C' l) (kP p l a) (lineP (tabI x) u) (pkF k4 k3 k2 l) v r w h HLr.out hr64 (HK.out l).1 (HK.out l).2)
            have HPL : Hid ((putC (kP p l a) (lineP (tabI x) u) (pkF k4 k3 k2 l) r (C' l)).length ≤ r) := Lib.hid (putC_len HLr.out)
            generalize tabI x = tb at HTb HPu HC HPL
            generalize putC (kP p l a) (lineP tb u) (pkF k4 k3 k2 l) r (C' l) = LP at HPu HC HPL
            generalize kP p l a = kk at HKy HPu
            obtain ⟨v0, v1, v2⟩ := u
            unfold Key.val at HKy HPu
            unfold Line.val lineP at HPu
            dsimp only at HPu HA
            have R0 := Lib.hid hR.out.right
            have P0 := Lib.hid hR.out.picks
            clear hp hlf HFD hu
            go_upto_region 8 with (first | (go_at_call 47; refine (HBt.out _).mono ?_; rintro e w2 ⟨rfl, hb2⟩; have SB2 := (hb2.block _ (by simp)).trans (alloc_same wr _); have f0 := (heap_cell SB2 0).trans rfl; have f2 := (heap_cell SB2 2).trans rfl; have fl := heap_lt SB2) | (go_at_call 48; refine (HLf.out _).mono ?_; rintro e w3 ⟨rfl, hb3⟩; have SB3 := (hb3.block _ (heap_lt SB2)).trans SB2; have k0 := (heap_cell SB3 0).trans rfl; have kl := heap_lt SB3))
            have HE2 := Lib.hid (Ext.trans ((by repeat (first | exact Ext.refl _ | assumption | refine Ext.alloc ?_ _ | refine Ext.drew ?_ | refine Ext.setCell ?_ (by first | (simp; done) | (dsimp only; omega)) _ | refine Ext.trans ?_ (by assumption))) : Ext wr _) (hb2.trans hb3))
            have HS8 := Lib.hid SB3
            obtain ⟨sb, hsb⟩ : ∃ sb, wr.heap.size = sb := ⟨_, rfl⟩
            rw [hsb] at HS8 ⊢
            have hsv : vb + 1 + 1 + 1 + 1 + 1 < sb := by have := heap_lt R0.out; omega
            clear hb2 SB2 f0 f2 fl z0 s0 s1 s2 hb3 SB3 k0 kl hd1 hd2
            have RR := Lib.hid ((HE2.out.block _ (heap_lt R0.out)).trans R0.out)
            have d0 := (heap_cell RR.out 0).trans rfl
            have d1 := (heap_cell RR.out 1).trans rfl
            have d2 := (heap_cell RR.out 2).trans rfl
            have dl := heap_lt RR.out
            have f2 := (heap_cell HS8.out 2).trans rfl
            have fl := heap_lt HS8.out
            go_upto_region 9 with (first | (go_at_call 49; refine (HA.out _).mono ?_; rintro e w4 ⟨rfl, hb4⟩; have RW3 := (hb4.block _ (heap_lt RR.out)).trans RR.out; have g0 := (heap_cell RW3 0).trans rfl; have g1 := (heap_cell RW3 1).trans rfl; have g2 := (heap_cell RW3 2).trans rfl; have gf := frozen_of RW3; have gl := heap_lt RW3))
            refine wp_gen ?_; intro U hU
            have K4 := HE2.out.trans hb4
            have hUE : Hid (Ext w U) := Lib.hid (by rw [hU]; exact ext3 (hR.out.ext.trans K4) (by omega))
            have hUr : U.heap[vb + 1 + 1 + 1 + 1 + 1]? = some (.cells #[.bool v0, .bool v1, .bool v2] 47 (0, 0)) := by rw [hU]; exact setCell_heap_same (setCell_heap_same (setCell_heap_same RW3))
            have hUo : ∀ b o, b ≠ vb + 1 + 1 + 1 + 1 + 1 → w4.heap[b]? = some o → U.heap[b]? = some o := fun b o hne hb => by rw [hU]; exact (store3_other (Ne.symm hne)).trans hb
            have UO : Hid (∀ b o, b ≠ vb + 1 + 1 + 1 + 1 + 1 → wr.heap[b]? = some o → U.heap[b]? = some o) := Lib.hid fun b o hne hb => hUo b o hne ((K4.block _ (heap_lt hb)).trans hb)
            have URp : Hid (RpAt U sa sc C') := Lib.hid (by rw [hU]; exact (hR.out.rc.2.ext K4).keep3 RW3)
            have hUs := hUo _ _ (by omega) ((hb4.block _ (heap_lt HS8.out)).trans HS8.out)
            have hUp := hUo _ _ (by omega) ((K4.block _ (heap_lt P0.out)).trans P0.out)
            have hUb := hUo _ _ (by omega) ((K4.block _ (heap_lt PB.out)).trans PB.out)
            have UR := Lib.hid hUr
            clear hU K4 hUo RW3 g0 g1 g2 gf gl d0 d1 d2 dl f2 fl hb4
            have m0 := (heap_cell hUs 0).trans rfl
            have m2 := (heap_cell hUs 2).trans rfl
            have ml := heap_lt hUs
            have k0 := (heap_cell hUp 0).trans rfl
            have k1 := (heap_cell hUp 1).trans rfl
            have kk2 := (heap_cell hUp 2).trans rfl
            have kl := heap_lt hUp
            have n0 := (heap_cell hUr 0).trans rfl
            have n1 := (heap_cell hUr 1).trans rfl
            have nn2 := (heap_cell hUr 2).trans rfl
            have nl := heap_lt hUr
            have x0 := (heap_cell hUb 0).trans rfl
            have x1 := (heap_cell hUb 1).trans rfl
            have x2 := (heap_cell hUb 2).trans rfl
            have x3 := (heap_cell hUb 3).trans rfl
            have x4 := (heap_cell hUb 4).trans rfl
            have x5 := (heap_cell hUb 5).trans rfl
            have xf := frozen_of hUb
            have xl := heap_lt hUb
            have UBk := Lib.hid hUb
            have hl' : l = 4 ∨ l = 3 ∨ l = 2 := by omega
            clear hUs hUp hUr hUb hl
            rcases hl' with rfl | rfl | rfl
            · have RU4 : Hid (∀ w', Ext U w' → RefAt w' (.slice a4 n4 c4) (C' 4)) := Lib.hid (fun w' k => by
                have := URp.out.ext k 4 (by omega) (by omega)
                obtain ⟨e1, e2, e3, e4, e5, e6, e7, e8, e9⟩ := HQ.out
                simp only [e1, e2, e3, e4, e5, e6, e7, e8, e9] at this; exact this)
              simp only [pkF, Int.reduceEq, if_true, if_false, reduceIte] at HPu
              go_upto_region 10 with (fail)
              refine region_mixG [.q [0, 1, 2, 3, 4, 5, 6, 7, 8, 10, 11, 13, 15, 16, 17, 19], .l 9 3, .l 12 3, .b [14], .l 18 3, .q [20], .l 21 2] (by kernel_rfl) (by kernel_rfl) ?_
              (try refine ⟨fun h => absurd h (by simp), ?_⟩); (repeat (unfold wpPlan; simp only [pickL, List.map_cons, List.map_nil, List.getD_cons_succ, List.getD_cons_zero]; (repeat go_big_quiet_step (fail)); refine wpQuiet_nil ?_)); unfold wpPlan; intro w5 hb5; (try simp only [pickL, List.map_cons, List.map_nil, List.getD_cons_succ, List.getD_cons_zero])
              go_wp2_with (first | (go_at_call 32; refine (HKy.out _).mono ?_; rintro e w6 ⟨rfl, hb6⟩))
              refine ⟨?_, ?_⟩
              · (try intro _); exact hb5.trans hb6
              have HB6 := Lib.hid (hb5.trans hb6)
              clear hb5 hb6 m0 m2 ml k0 k1 kk2 kl n0 n1 nn2 nl x0 x1 x2 x3 x4 x5 xf xl
              (try refine ⟨fun h => absurd h (by simp), ?_⟩); (repeat (unfold wpPlan; simp only [pickL, List.map_cons, List.map_nil, List.getD_cons_succ, List.getD_cons_zero]; (repeat go_big_quiet_step (fail)); refine wpQuiet_nil ?_)); unfold wpPlan; intro w7 hb7; (try simp only [pickL, List.map_cons, List.map_nil, List.getD_cons_succ, List.getD_cons_zero])
              go_wp2_with (first | (go_at_call 51; refine (HTb.out _).mono ?_; rintro e w8 ⟨rfl, hb8⟩))
              refine ⟨?_, ?_⟩
              · (try intro _); exact hb7.trans hb8
              have HB8 := Lib.hid (HB6.out.trans (hb7.trans hb8))
              clear hb7 hb8
              (try refine ⟨fun h => absurd h (by simp), ?_⟩); (repeat (unfold wpPlan; simp only [pickL, List.map_cons, List.map_nil, List.getD_cons_succ, List.getD_cons_zero]; (repeat go_big_quiet_step (fail)); refine wpQuiet_nil ?_)); unfold wpPlan; intro w9 hb9; (try simp only [pickL, List.map_cons, List.map_nil, List.getD_cons_succ, List.getD_cons_zero])
              go_wp2_with (first | (go_at_call 50; refine (HPu.out _ _ (RU4.out _ (HB8.out.trans hb9))).mono ?_; rintro e wa hEa; obtain ⟨ax, cx, rfl, hrx, hba⟩ := hEa.form))
              refine ⟨?_, ?_⟩
              · (try intro _); exact hb9.trans hba
              have HBa := Lib.hid (HB8.out.trans (hb9.trans hba))
              have HRx := Lib.hid hrx
              clear hb9 hba hrx hEa
              (try refine ⟨fun h => absurd h (by simp), ?_⟩); (repeat (unfold wpPlan; simp only [pickL, List.map_cons, List.map_nil, List.getD_cons_succ, List.getD_cons_zero]; (repeat go_big_quiet_step (fail)); refine wpQuiet_nil ?_)); unfold wpPlan; intro wb hbb; (try simp only [pickL, List.map_cons, List.map_nil, List.getD_cons_succ, List.getD_cons_zero])
              have HBb := Lib.hid (HBa.out.trans hbb)
              have HRb := Lib.hid (RefAt.ext HRx.out hbb)
              clear hbb
              have hUb := (HBb.out.block _ (heap_lt UBk.out)).trans UBk.out
              have x0 := (heap_cell hUb 0).trans rfl
              have x1 := (heap_cell hUb 1).trans rfl
              have xf := frozen_of hUb
              have xl := heap_lt hUb
              clear hUb
              go_wp2
              (try refine ⟨fun h => absurd h (by simp), ?_⟩); (repeat (unfold wpPlan; simp only [pickL, List.map_cons, List.map_nil, List.getD_cons_succ, List.getD_cons_zero]; (repeat go_big_quiet_step (fail)); refine wpQuiet_nil ?_)); unfold wpPlan; intro wc hbc; (try simp only [pickL, List.map_cons, List.map_nil, List.getD_cons_succ, List.getD_cons_zero])
              have HBc := Lib.hid hbc
              clear hbc x0 x1 xf xl
              go_wp2
              refine ⟨⟨i + 1, (v0, v1, v2), _, _, _, by omega, by go_num, Lib.hid (rec_step hR.out hwv UO.out hUE.out UR.out URp.out HBb.out (l := 4) (o := 0) (by simp) HPL.out HRb.out HBc.out HC.out)⟩, by simp [intOf]; omega⟩
            · have RU3 : Hid (∀ w', Ext U w' → RefAt w' (.slice a3 n3 c3) (C' 3)) := Lib.hid (fun w' k => by
                have := URp.out.ext k 3 (by omega) (by omega)
                obtain ⟨e1, e2, e3, e4, e5, e6, e7, e8, e9⟩ := HQ.out
                simp only [e1, e2, e3, e4, e5, e6, e7, e8, e9] at this; exact this)
              simp only [pkF, Int.reduceEq, if_true, if_false, reduceIte] at HPu
              go_upto_region 10 with (fail)
              refine region_mixG [.q [0, 1, 2, 3, 4, 5, 6, 7, 8, 10, 11, 13, 15, 16, 17, 19], .l 9 3, .l 12 3, .b [14], .l 18 3, .q [20], .l 21 2] (by kernel_rfl) (by kernel_rfl) ?_
              (try refine ⟨fun h => absurd h (by simp), ?_⟩); (repeat (unfold wpPlan; simp only [pickL, List.map_cons, List.map_nil, List.getD_cons_succ, List.getD_cons_zero]; (repeat go_big_quiet_step (fail)); refine wpQuiet_nil ?_)); unfold wpPlan; intro w5 hb5; (try simp only [pickL, List.map_cons, List.map_nil, List.getD_cons_succ, List.getD_cons_zero])
              go_wp2_with (first | (go_at_call 32; refine (HKy.out _).mono ?_; rintro e w6 ⟨rfl, hb6⟩))
              refine ⟨?_, ?_⟩
              · (try intro _); exact hb5.trans hb6
              have HB6 := Lib.hid (hb5.trans hb6)
              clear hb5 hb6 m0 m2 ml k0 k1 kk2 kl n0 n1 nn2 nl x0 x1 x2 x3 x4 x5 xf xl
              (try refine ⟨fun h => absurd h (by simp), ?_⟩); (repeat (unfold wpPlan; simp only [pickL, List.map_cons, List.map_nil, List.getD_cons_succ, List.getD_cons_zero]; (repeat go_big_quiet_step (fail)); refine wpQuiet_nil ?_)); unfold wpPlan; intro w7 hb7; (try simp only [pickL, List.map_cons, List.map_nil, List.getD_cons_succ, List.getD_cons_zero])
              go_wp2_with (first | (go_at_call 51; refine (HTb.out _).mono ?_; rintro e w8 ⟨rfl, hb8⟩))
              refine ⟨?_, ?_⟩
              · (try intro _); exact hb7.trans hb8
              have HB8 := Lib.hid (HB6.out.trans (hb7.trans hb8))
              clear hb7 hb8
              (try refine ⟨fun h => absurd h (by simp), ?_⟩); (repeat (unfold wpPlan; simp only [pickL, List.map_cons, List.map_nil, List.getD_cons_succ, List.getD_cons_zero]; (repeat go_big_quiet_step (fail)); refine wpQuiet_nil ?_)); unfold wpPlan; intro w9 hb9; (try simp only [pickL, List.map_cons, List.map_nil, List.getD_cons_succ, List.getD_cons_zero])
              go_wp2_with (first | (go_at_call 50; refine (HPu.out _ _ (RU3.out _ (HB8.out.trans hb9))).mono ?_; rintro e wa hEa; obtain ⟨ax, cx, rfl, hrx, hba⟩ := hEa.form))
              refine ⟨?_, ?_⟩
              · (try intro _); exact hb9.trans hba
              have HBa := Lib.hid (HB8.out.trans (hb9.trans hba))
              have HRx := Lib.hid hrx
              clear hb9 hba hrx hEa
              (try refine ⟨fun h => absurd h (by simp), ?_⟩); (repeat (unfold wpPlan; simp only [pickL, List.map_cons, List.map_nil, List.getD_cons_succ, List.getD_cons_zero]; (repeat go_big_quiet_step (fail)); refine wpQuiet_nil ?_)); unfold wpPlan; intro wb hbb; (try simp only [pickL, List.map_cons, List.map_nil, List.getD_cons_succ, List.getD_cons_zero])
              have HBb := Lib.hid (HBa.out.trans hbb)
              have HRb := Lib.hid (RefAt.ext HRx.out hbb)
              clear hbb
              have hUb := (HBb.out.block _ (heap_lt UBk.out)).trans UBk.out
              have x2 := (heap_cell hUb 2).trans rfl
              have x3 := (heap_cell hUb 3).trans rfl
              have xf := frozen_of hUb
              have xl := heap_lt hUb
              clear hUb
              go_wp2
              (try refine ⟨fun h => absurd h (by simp), ?_⟩); (repeat (unfold wpPlan; simp only [pickL, List.map_cons, List.map_nil, List.getD_cons_succ, List.getD_cons_zero]; (repeat go_big_quiet_step (fail)); refine wpQuiet_nil ?_)); unfold wpPlan; intro wc hbc; (try simp only [pickL, List.map_cons, List.map_nil, List.getD_cons_succ, List.getD_cons_zero])
              have HBc := Lib.hid hbc
              clear hbc x2 x3 xf xl
              go_wp2
              refine ⟨⟨i + 1, (v0, v1, v2), _, _, _, by omega, by go_num, Lib.hid (rec_step hR.out hwv UO.out hUE.out UR.out URp.out HBb.out (l := 3) (o := 2) (by simp) HPL.out HRb.out HBc.out HC.out)⟩, by simp [intOf]; omega⟩
            · have RU2 : Hid (∀ w', Ext U w' → RefAt w' (.slice a2 n2 c2) (C' 2)) := Lib.hid (fun w' k => by
                have := URp.out.ext k 2 (by omega) (by omega)
                obtain ⟨e1, e2, e3, e4, e5, e6, e7, e8, e9⟩ := HQ.out
                simp only [e1, e2, e3, e4, e5, e6, e7, e8, e9] at this; exact this)
              simp only [pkF, Int.reduceEq, if_true, if_false, reduceIte] at HPu
              go_upto_region 10 with (fail)
              refine region_mixG [.q [0, 1, 2, 3, 4, 5, 6, 7, 8, 10, 11, 13, 15, 16, 17, 19], .l 9 3, .l 12 3, .b [14], .l 18 3, .q [20], .l 21 2] (by kernel_rfl) (by kernel_rfl) ?_
              (try refine ⟨fun h => absurd h (by simp), ?_⟩); (repeat (unfold wpPlan; simp only [pickL, List.map_cons, List.map_nil, List.getD_cons_succ, List.getD_cons_zero]; (repeat go_big_quiet_step (fail)); refine wpQuiet_nil ?_)); unfold wpPlan; intro w5 hb5; (try simp only [pickL, List.map_cons, List.map_nil, List.getD_cons_succ, List.getD_cons_zero])
              go_wp2_with (first | (go_at_call 32; refine (HKy.out _).mono ?_; rintro e w6 ⟨rfl, hb6⟩))
              refine ⟨?_, ?_⟩
              · (try intro _); exact hb5.trans hb6
              have HB6 := Lib.hid (hb5.trans hb6)
              clear hb5 hb6 m0 m2 ml k0 k1 kk2 kl n0 n1 nn2 nl x0 x1 x2 x3 x4 x5 xf xl
              (try refine ⟨fun h => absurd h (by simp), ?_⟩); (repeat (unfold wpPlan; simp only [pickL, List.map_cons, List.map_nil, List.getD_cons_succ, List.getD_cons_zero]; (repeat go_big_quiet_step (fail)); refine wpQuiet_nil ?_)); unfold wpPlan; intro w7 hb7; (try simp only [pickL, List.map_cons, List.map_nil, List.getD_cons_succ, List.getD_cons_zero])
              go_wp2_with (first | (go_at_call 51; refine (HTb.out _).mono ?_; rintro e w8 ⟨rfl, hb8⟩))
              refine ⟨?_, ?_⟩
              · (try intro _); exact hb7.trans hb8
              have HB8 := Lib.hid (HB6.out.trans (hb7.trans hb8))
              clear hb7 hb8
              (try refine ⟨fun h => absurd h (by simp), ?_⟩); (repeat (unfold wpPlan; simp only [pickL, List.map_cons, List.map_nil, List.getD_cons_succ, List.getD_cons_zero]; (repeat go_big_quiet_step (fail)); refine wpQuiet_nil ?_)); unfold wpPlan; intro w9 hb9; (try simp only [pickL, List.map_cons, List.map_nil, List.getD_cons_succ, List.getD_cons_zero])
              go_wp2_with (first | (go_at_call 50; refine (HPu.out _ _ (RU2.out _ (HB8.out.trans hb9))).mono ?_; rintro e wa hEa; obtain ⟨ax, cx, rfl, hrx, hba⟩ := hEa.form))
              refine ⟨?_, ?_⟩
              · (try intro _); exact hb9.trans hba
              have HBa := Lib.hid (HB8.out.trans (hb9.trans hba))
              have HRx := Lib.hid hrx
              clear hb9 hba hrx hEa
              (try refine ⟨fun h => absurd h (by simp), ?_⟩); (repeat (unfold wpPlan; simp only [pickL, List.map_cons, List.map_nil, List.getD_cons_succ, List.getD_cons_zero]; (repeat go_big_quiet_step (fail)); refine wpQuiet_nil ?_)); unfold wpPlan; intro wb hbb; (try simp only [pickL, List.map_cons, List.map_nil, List.getD_cons_succ, List.getD_cons_zero])
              have HBb := Lib.hid (HBa.out.trans hbb)
              have HRb := Lib.hid (RefAt.ext HRx.out hbb)
              clear hbb
              have hUb := (HBb.out.block _ (heap_lt UBk.out)).trans UBk.out
              have x4 := (heap_cell hUb 4).trans rfl
              have x5 := (heap_cell hUb 5).trans rfl
              have xf := frozen_of hUb
              have xl := heap_lt hUb
              clear hUb
              go_wp2
              (try refine ⟨fun h => absurd h (by simp), ?_⟩); (repeat (unfold wpPlan; simp only [pickL, List.map_cons, List.map_nil, List.getD_cons_succ, List.getD_cons_zero]; (repeat go_big_quiet_step (fail)); refine wpQuiet_nil ?_)); unfold wpPlan; intro wc hbc; (try simp only [pickL, List.map_cons, List.map_nil, List.getD_cons_succ, List.getD_cons_zero])
              have HBc := Lib.hid hbc
              clear hbc x4 x5 xf xl
              go_wp2
              refine ⟨⟨i + 1, (v0, v1, v2), _, _, _, by omega, by go_num, Lib.hid (rec_step hR.out hwv UO.out hUE.out UR.out URp.out HBb.out (l := 2) (o := 4) (by simp) HPL.out HRb.out HBc.out HC.out)⟩, by simp [intOf]; omega⟩
    · have HC : Hid (D = C') := Lib.hid (by
        have heq := hR.out.eq
        by_cases hil : i = L.length
        · subst hil; rw [List.drop_length] at heq; exact heq.symm
        · have hfd := fill_drop (p := p) (a := a) (pk := pkF k4 k3 k2) (r := r) (rt := rt') (C := C') (L := L) (i := i) (by omega)
          rw [if_pos (by omega), heq] at hfd
          exact hfd)
      have KQ : Hid (Ext wr wr) := Lib.hid (Ext.refl _)
      have PQ := Lib.hid ((KQ.out.block _ (heap_lt PB.out)).trans PB.out)
      have ZQ := Lib.hid ((KQ.out.block _ (heap_lt hR.out.zero)).trans hR.out.zero)
      have RQ := Lib.hid (hR.out.rc.2.ext KQ.out)
      have EQ := Lib.hid (hR.out.ext.trans KQ.out)
      have x0 := (heap_cell PQ.out 0).trans rfl
      have x1 := (heap_cell PQ.out 1).trans rfl
      have x2 := (heap_cell PQ.out 2).trans rfl
      have x3 := (heap_cell PQ.out 3).trans rfl
      have x4 := (heap_cell PQ.out 4).trans rfl
      have x5 := (heap_cell PQ.out 5).trans rfl
      have xl := heap_lt PQ.out
      have y0 := (heap_cell ZQ.out 0).trans rfl
      have y1 := (heap_cell ZQ.out 1).trans rfl
      have y2 := (heap_cell ZQ.out 2).trans rfl
      have y3 := (heap_cell ZQ.out 3).trans rfl
      have y4 := (heap_cell ZQ.out 4).trans rfl
      have y5 := (heap_cell ZQ.out 5).trans rfl
      have yf := frozen_of ZQ.out
      have yl := heap_lt ZQ.out
      go_wp2
      refine post_gen (fun X => X.heap[vb + 1 + 1 + 1 + 1]? = some (.cells #[.slice a4 n4 c4, .int .i64 r, .slice a3 n3 c3, .int .i64 r, .slice a2 n2 c2, .int .i64 r] 31 (0, 0)) ∧ RpAt X sa sc C' ∧ Ext w X) ⟨store6h ZQ.out, RQ.out.keepP ZQ.out, ext6p EQ.out (by omega)⟩ ?_
      rintro X ⟨m5, R5, E5⟩
      have v0 := (heap_cell m5 0).trans rfl
      have v1 := (heap_cell m5 1).trans rfl
      have v2 := (heap_cell m5 2).trans rfl
      have v3 := (heap_cell m5 3).trans rfl
      have v4 := (heap_cell m5 4).trans rfl
      have v5 := (heap_cell m5 5).trans rfl
      have RX := Lib.hid R5
      have HX := Lib.hid E5
      clear m5 R5 E5 y0 y1 y2 y3 y4 y5 yf x0 x1 x2 x3 x4 x5
      refine bodyPost_ret (by simp [results, Try.results18, go_sem, ↓IntWalk.iteOmega, *]; try rfl) rfl (by rw [← HE.out, HC.out]; obtain ⟨e1, e2, e3, e4, e5, e6, e7, e8, e9⟩ := HQ.out; exact ⟨sa, sc, by rw [e1, e2, e3, e4, e5, e6, e7, e8, e9], RX.out, HX.out⟩)
end Go.Proofs.Ytkfonacokamfiaa
