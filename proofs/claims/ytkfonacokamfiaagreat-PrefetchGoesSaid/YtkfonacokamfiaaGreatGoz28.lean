/- Joined texts, part 28 of what the law stands on: each as its own head says. -/
import Derived.Test.YtkfonacokamfiaaGreatGoz27
import Derived.Test.YtkfonacokamfiaaGreatGoz23
import Derived.Test.YtkfonacokamfiaaGreatGoz19
/- Package opt: what a job keeps, plainly. -/
namespace Go.Proofs.YtkfonacokamfiaaGreat
set_option linter.unusedVariables false
set_option linter.unusedSimpArgs false
open Go.RowKit
attribute [local go_sem] wext_cell wext_frozen wext_heap alloc_cell alloc_frozen alloc_heap setCell_cell objCell_cells objFrozen_cells
theorem COk.fill {p a : Int} {pk : Int → Int} {r : Nat} : ∀ (L : List Stp) (rt : Rt) (C : Int → Lines), (∀ s ∈ L, 0 ≤ s.2.2 ∧ s.2.2 ≤ 18446744073709551615) → COk C → COk (fillF p a pk r L rt C)
 | [], _, _, _, h => h
 | s :: t, rt, C, hs, h => by
  unfold fillF
  split
  ·exact h
  ·split
   ·refine COk.fill t _ _ (fun y hy => hs y (List.mem_cons_of_mem _ hy)) fun l l0 l1 y hy => ?_
    by_cases hl : l = s.1
    ·subst hl
     rw [upd_same] at hy
     rcases putC_mem hy with hy | rfl
     ·exact h _ l0 l1 y hy
     ·have := hs s (List.mem_cons_self ..)
      have := tabI_le this.1
      simp only [lineP]
      omega
    ·rw [upd_other _ _ hl] at hy
     exact h l l0 l1 y hy
   ·exact h
def grpA (last : Int) (i : Nat) : Int := last - last % 64 + 8 * (i : Int)
def grpF (N : Int → Int) (last : Int) (i : Nat) : Int := N (grpA last i / 8)
def grpT (last : Int) (k : Nat) : List Int := ((List.range k).map (grpA last)).filter (fun x => x != last)
theorem grpA_le {last : Int} (h0 : 0 ≤ last) (h1 : last < 65536) (i : Nat) (hi : i < 8) : 0 ≤ grpA last i ∧ grpA last i < 65536 ∧ grpA last i % 8 = 0 := by unfold grpA; omega
theorem grpT_succ (last : Int) (k : Nat) : grpT last (k + 1) = if grpA last k = last then grpT last k else grpT last k ++ [grpA last k] := by
 unfold grpT
 rw [List.range_succ, List.map_append, List.filter_append]
 simp only [List.map_cons, List.map_nil, List.filter_cons, List.filter_nil]
 by_cases h : grpA last k = last
 ·simp [h]
 ·simp [h]
theorem grpT_length (last : Int) (k : Nat) : (grpT last k).length ≤ k := by
 unfold grpT
 exact Nat.le_trans (List.length_filter_le _ _) (by simp)
def keepL (p a lv fr : Int) (rr : Rt) (last : Int) (N : Int → Int) (nxe : Bool) (k0 : Int) (r : Nat) (TL : Lines) : Lines :=
 if 1 < lv then greatL p a ⟨fr, lv, rr.1, rr.2.1, rr.2.2, bitB (N (last / 8)) 6⟩ k0 r TL
 else smallL p a (runF (grpF N last) (placeI a).toNat 16 rr nxe (grpF N last (placeI a).toNat)) k0 r TL
def keepT (lv last : Int) : List Int := if 1 < lv then [] else grpT last 8
theorem runF_ok {f : Nat → Int} {at_ B : Int} {r : Rt} {nxe : Bool} {x : Int} : (runF f at_ B r nxe x).ok := by
 unfold runF
 split
 ·have := maskUp_lt (inRun f at_ B nxe x) 8 (by omega)
  have e : pow2 ((8 : Nat) : Int) = 256 := rfl
  rw [e] at this
  exact ⟨this.1, by have := this.2; simp only; omega⟩
 ·exact ⟨by simp [noLine], by simp [noLine]⟩
theorem LOk.keep {p a lv fr : Int} {rr : Rt} {last : Int} {N : Int → Int} {nxe : Bool} {k0 : Int} {r : Nat} {TL : Lines} (h : LOk TL) : LOk (keepL p a lv fr rr last N nxe k0 r TL) := by
 unfold keepL
 split
 ·unfold greatL
  split
  ·exact h.put ⟨by simp, by simp⟩
  ·exact h
 ·unfold smallL
  split
  ·exact h
  ·exact h.put runF_ok
end Go.Proofs.YtkfonacokamfiaaGreat
/- Package opt: what a job keeps, walked: a great page. -/
namespace Go.Proofs.YtkfonacokamfiaaGreat
set_option linter.unusedVariables false
set_option linter.unusedSimpArgs false
open Go.RowKit
attribute [local go_sem] wext_cell wext_frozen wext_heap alloc_cell alloc_frozen alloc_heap setCell_cell objCell_cells objFrozen_cells
theorem arr3_run (b o : Nat) (w : World) : (Instr.arrayAt 195 (.slice (some ⟨b, o, none⟩) 3 3)).run Tryz.prog w = .ok (.pointer (some ⟨b, o, none⟩)) w := by
 simp [Instr.arrayAt, run_underlying Tryz.underlying195]
def EndKeep (mb : Nat) (Fm : List Nat) (N : Int → Int) (T : List Int) (tb cb : Nat) (Ft : List Nat) (TL : Lines) (r : Nat) (pb : Nat) (pc : Int → Nat) (Fp : Int → List Nat) (C : Int → Lines) (q : Nat) (w : World) (e : Ending) (w' : World) : Prop :=
 e = .returned (.tuple #[]) ∧ OTo mb Fm N T tb cb Ft TL r pb pc Fp C q w w'
structure KeepOk (L : List Stp) (last : Int) : Prop where
 len : 1 ≤ L.length ∧ L.length ≤ 4
 step : ∀ i, i < L.length → (0 ≤ (stpAt L i).2.1 ∧ (stpAt L i).2.1 ≤ 18446744073709551615) ∧ 0 ≤ (stpAt L i).2.2 ∧ (stpAt L i).2.2 ≤ 18446744073709551615
 end_ : (stpAt L (L.length - 1)).2.1 = last
 low : 0 ≤ last ∧ last < 65536 ∧ last % 8 = 0
set_option maxHeartbeats 4000000 in
set_option maxRecDepth 100000 in
theorem keepGreat_c (mb : Nat) (Fm : List Nat) (M : Int → Int) (T : List Int) (tb cb : Nat) (Ft : List Nat) (TL : Lines) (r : Nat) (pb : Nat) (pc : Int → Nat) (Fp : Int → List Nat) (C : Int → Lines) (q : Nat) (p k0 k1 k2 k3 root kd a : Int) (us ac wp nxe sp sm : Bool)
  (L : List Stp) (sa : Option Addr) (sc : Nat) (g0 g1 g2 : Bool) (lv fr n t last : Int) (x0 x1 x2 dirty : Bool) (w : World)
  (h : OptAt w mb Fm M T tb cb Ft TL r pb pc Fp C q) (hO : Owns w 94 3 (.slice sa L.length sc) L.length (rowS L)) (hK : KeepOk L last) (hlv0 : 1 < lv) (hlv1 : lv ≤ 3) (ha0 : 0 ≤ a) (ha1 : a ≤ 18446744073709551615)
  (hp0 : -9223372036854775808 ≤ k0 ∧ k0 ≤ 9223372036854775807) (hp : ∀ l, -9223372036854775808 ≤ pkF k1 k2 k3 l ∧ pkF k1 k2 k3 l ≤ 9223372036854775807) :
  Calls Tryz.prog 70 #[.agg #[.pointer (some ⟨mb, 0, none⟩), .pointer (some ⟨tb, 0, none⟩), .pointer (some ⟨pb, 0, none⟩), .int .i64 p, .int .i64 k0, .int .i64 k1, .int .i64 k2, .int .i64 k3, .int .u64 root, .int .i64 kd, .bool us, .bool ac, .bool wp, .bool nxe, .bool sp, .bool sm, .int .u64 a],
    .agg #[.slice sa L.length sc, .int .i64 0, .bool g0, .bool g1, .bool g2, .int .i64 lv, .int .u64 fr], .agg #[.int .i64 n, .int .u64 t, .bool x0, .bool x1, .bool x2], .bool dirty] w
   (EndKeep mb Fm (markL 16 dirty L M) (T ++ keepT lv last) tb cb Ft (keepL p a lv fr (g0, g1, g2) last (markL 16 dirty L M) nxe k0 r TL) r pb pc Fp (fillF p a (pkF k1 k2 k3) q L (x0, x1, x2) C) q w) := by
 have H := Lib.hid h
 have HO := Lib.hid hO
 have HK := Lib.hid hK
 have hL4 := hK.len.2
 have hL1 := hK.len.1
 obtain ⟨N, hN⟩ : ∃ N, markL 16 dirty L M = N := ⟨_, rfl⟩
 obtain ⟨C2, hC2⟩ : ∃ C2, fillF p a (pkF k1 k2 k3) q L (x0, x1, x2) C = C2 := ⟨_, rfl⟩
 have hcok : COk C2 := by rw [← hC2]; exact COk.fill L _ C (fun s hs => by
  obtain ⟨i, hi, e⟩ := List.getElem_of_mem hs
  have := (hK.step i hi).2
  have e2 : stpAt L i = s := by simp [stpAt, List.getD, hi, e]
  rw [e2] at this; exact this) h.cok
 rw [hN, hC2]
 have hmk : ∀ w1, OptAt w1 mb Fm M T tb cb Ft TL r pb pc Fp C q → Owns w1 94 3 (.slice sa L.length sc) L.length (rowS L) → Calls Tryz.prog 95 #[.pointer (some ⟨mb, 0, none⟩), .agg #[.slice sa L.length sc, .int .i64 0, .bool g0, .bool g1, .bool g2, .int .i64 lv, .int .u64 fr], .bool dirty] w1 fun e V => e = .returned (.tuple #[]) ∧ EndMem mb Fm w1 16 N T V := fun w1 h1 h2 => by
  have hS : StepsAt w1 sa L := StepsAt.of h2
  have := mark_p (fun x => x ∈ Fm ∨ w1.heap.size ≤ x) mb 16 M T L sa sc 0 (g0, g1, g2) lv fr dirty w1 h1.memP (fun x hx => .inr hx) hS (fun V hV => StepsAt.of (sc := sc) (h2.keep fun g hg => by
   obtain ⟨c, hc⟩ := h2.heap g hg
   rw [hc]; exact hV.2 _ _ _ hc (by decide) (by decide) (by decide))) (by omega) (fun i hi => (hK.step i hi).1)
  simp only [beq_self_eq_true, Bool.and_true, hN] at this
  exact this.mono fun e V he => ⟨he.1, EndMem.ofP he.2.1 he.2.2⟩
 have HMk := Lib.hid hmk
 have HC2 := Lib.hid hC2
 have HCO := Lib.hid hcok
 have HPk := Lib.hid hp
 have HP0 := Lib.hid hp0
 generalize hE : EndKeep mb Fm N (T ++ keepT lv last) tb cb Ft (keepL p a lv fr (g0, g1, g2) last N nxe k0 r TL) r pb pc Fp C2 q w = E
 have HE := Lib.hid hE
 clear hE h hO hK hN hC2 hcok hmk hp hp0
 go_enter Tryz.func70, Tryz.ntmps70
 go_upto_region 1 with (fail)
 refine wp_gen ?_; intro U hU
 have hUE : Ext w U := by rw [hU]; exact (by repeat (first | exact Ext.refl _ | assumption | refine Ext.alloc ?_ _ | refine Ext.drew ?_ | refine Ext.setCell ?_ (by first | (simp; done) | (dsimp only; omega)) _ | refine Ext.trans ?_ (by assumption)))
 have hU0 : U.heap[w.heap.size]? = some (.cells #[.pointer (some ⟨mb, 0, none⟩), .pointer (some ⟨tb, 0, none⟩), .pointer (some ⟨pb, 0, none⟩), .int .i64 p, .int .i64 k0, .int .i64 k1, .int .i64 k2, .int .i64 k3, .int .u64 root, .int .i64 kd, .bool us, .bool ac, .bool wp, .bool nxe, .bool sp, .bool sm, .int .u64 a] 156 (0, 0)) := by rw [hU]; exact (alloc_other _ _ (by simp; omega)).trans ((alloc_other _ _ (by simp)).trans (alloc_same ..))
 have hU1 : U.heap[w.heap.size + 1]? = some (.cells #[.slice sa L.length sc, .int .i64 0, .bool g0, .bool g1, .bool g2, .int .i64 lv, .int .u64 fr] 86 (0, 0)) := by rw [hU]; exact (alloc_other _ _ (by simp)).trans (alloc_same1 ..)
 have hU2 : U.heap[w.heap.size + 1 + 1]? = some (.cells #[.int .i64 n, .int .u64 t, .bool x0, .bool x1, .bool x2] 90 (0, 0)) := by rw [hU]; exact alloc_same2 ..
 obtain ⟨jb, hjb⟩ : ∃ jb, w.heap.size = jb := ⟨_, rfl⟩
 obtain ⟨ab, hab⟩ : ∃ ab, w.heap.size + 1 = ab := ⟨_, rfl⟩
 obtain ⟨bb, hbb⟩ : ∃ bb, w.heap.size + 1 + 1 = bb := ⟨_, rfl⟩
 rw [hbb] at hU2 ⊢
 rw [hab] at hU1 ⊢
 rw [hjb] at hU0 ⊢
 have UE := Lib.hid hUE
 have U0 := Lib.hid hU0
 have U1 := Lib.hid hU1
 have U2 := Lib.hid hU2
 have y0 := (heap_cell hU0 0).trans rfl
 have a0 := (heap_cell hU1 0).trans rfl
 have a1 := (heap_cell hU1 1).trans rfl
 have a2 := (heap_cell hU1 2).trans rfl
 have a3 := (heap_cell hU1 3).trans rfl
 have a4 := (heap_cell hU1 4).trans rfl
 have a5 := (heap_cell hU1 5).trans rfl
 have a6 := (heap_cell hU1 6).trans rfl
 have yl := heap_lt hU0
 have al := heap_lt hU1
 clear hU hUE hU0 hU1 hU2 hjb hab hbb
 have harr := arr3_run
 go_upto_region 2 with (first | (go_at_call 95; refine (HMk.out _ (H.out.ext UE.out) (HO.out.ext UE.out)).mono ?_; rintro e v1 ⟨rfl, hM1⟩))
 have h1 := (H.out.ext UE.out).after_mem hM1
 have J1 := Lib.hid (OTo.keep h1 U0.out ((H.out.ext UE.out).out U0.out (by decide) (by decide) (by decide) (by decide) (by decide)))
 have A1 := Lib.hid (OTo.keep h1 U1.out ((H.out.ext UE.out).out U1.out (by decide) (by decide) (by decide) (by decide) (by decide)))
 have B1 := Lib.hid (OTo.keep h1 U2.out ((H.out.ext UE.out).out U2.out (by decide) (by decide) (by decide) (by decide) (by decide)))
 have Q1 : Hid (Owns v1 94 3 (.slice sa L.length sc) L.length (rowS L)) := Lib.hid ((HO.out.ext UE.out).keep fun g hg => by
  obtain ⟨c, hc⟩ := (HO.out.ext UE.out).heap g hg
  rw [hc]; exact OTo.keep h1 hc ((H.out.ext UE.out).out hc (by decide) (by decide) (by decide) (by decide) (by decide)))
 have T1 := OTo.before UE.out h1
 obtain ⟨Fm1, Ft1, Fp1, hO1, hK1, hF1⟩ := T1
 have O1 := Lib.hid hO1
 have K1 := Lib.hid hK1
 have F1 := Lib.hid hF1
 clear h1 hM1 hO1 hK1 hF1 y0 a0 a1 a2 a3 a4 a5 a6 yl al
 have y2 := (heap_cell J1.out 2).trans rfl
 have y3 := (heap_cell J1.out 3).trans rfl
 have y5 := (heap_cell J1.out 5).trans rfl
 have y6 := (heap_cell J1.out 6).trans rfl
 have y7 := (heap_cell J1.out 7).trans rfl
 have y16 := (heap_cell J1.out 16).trans rfl
 have a0 := (heap_cell A1.out 0).trans rfl
 have a1 := (heap_cell A1.out 1).trans rfl
 have a2 := (heap_cell A1.out 2).trans rfl
 have a3 := (heap_cell A1.out 3).trans rfl
 have a4 := (heap_cell A1.out 4).trans rfl
 have a5 := (heap_cell A1.out 5).trans rfl
 have a6 := (heap_cell A1.out 6).trans rfl
 have c0 := (heap_cell B1.out 0).trans rfl
 have c1 := (heap_cell B1.out 1).trans rfl
 have c2 := (heap_cell B1.out 2).trans rfl
 have c3 := (heap_cell B1.out 3).trans rfl
 have c4 := (heap_cell B1.out 4).trans rfl
 have yl := heap_lt J1.out
 have al := heap_lt A1.out
 have bl := heap_lt B1.out
 refine region_ext_tail 15 (by kernel_rfl) (by kernel_rfl) ?_; simp only [List.take_succ_cons, List.take_zero, List.drop_succ_cons, List.drop_zero]; (repeat (go_big_quiet_step (fail))); refine wpQuiet_nil ?_; intro w1 hb; have ⟨hc, hf, hh, hs⟩ := hb.facts; try simp only [World.size_alloc, World.size_setCell, World.size_drew] at hs
 clear hc hf hh hs
 have V2 := Lib.hid hb
 have O2 := Lib.hid (O1.out.ext hb)
 have Q2 := Lib.hid (Q1.out.ext hb)
 clear hb
 go_upto_region 3 with (first | (go_at_call 96; refine (fill_c pb pc Fp1 C q p a L sa sc 0 (g0, g1, g2) lv fr n t (x0, x1, x2) k1 k2 k3 _ O2.out.both.psc (StepsAt.of Q2.out) (fun g o e hg => by
   subst e
   obtain ⟨c, hc⟩ := Q2.out.heap g rfl
   exact O2.out.both.psc.out hc (by decide) (by decide) hg) (by omega) (fun i hi => (HK.out.step i hi).2) ha0 ha1 HPk.out).mono ?_; rintro e v3 ⟨rfl, hP3⟩))
 rw [HC2.out] at hP3
 have h3 := O2.out.after_psc HCO.out hP3
 have J3 := Lib.hid (OTo.keep h3 ((V2.out.block _ (heap_lt J1.out)).trans J1.out) (O2.out.out ((V2.out.block _ (heap_lt J1.out)).trans J1.out) (by decide) (by decide) (by decide) (by decide) (by decide)))
 have A3 := Lib.hid (OTo.keep h3 ((V2.out.block _ (heap_lt A1.out)).trans A1.out) (O2.out.out ((V2.out.block _ (heap_lt A1.out)).trans A1.out) (by decide) (by decide) (by decide) (by decide) (by decide)))
 have Q3 : Hid (Owns v3 94 3 (.slice sa L.length sc) L.length (rowS L)) := Lib.hid (Q2.out.keep fun g hg => by
  obtain ⟨c, hc⟩ := Q2.out.heap g hg
  rw [hc]; exact OTo.keep h3 hc (O2.out.out hc (by decide) (by decide) (by decide) (by decide) (by decide)))
 have T3 : OTo mb Fm N T tb cb Ft TL r pb pc Fp C2 q w v3 := OTo.trans ⟨O1.out, K1.out, F1.out⟩ (OTo.before V2.out h3)
 obtain ⟨Fm3, Ft3, Fp3, hO3, hK3, hF3⟩ := T3
 have O3 := Lib.hid hO3
 have K3 := Lib.hid hK3
 have F3 := Lib.hid hF3
 clear h3 hP3 hO3 hK3 hF3 y2 y3 y5 y6 y7 y16 a0 a1 a2 a3 a4 a5 a6 c0 c1 c2 c3 c4 yl al bl harr
 have a0 := (heap_cell A3.out 0).trans rfl
 have al := heap_lt A3.out
 obtain ⟨g, hsa, hgl, -, s1, -⟩ := Q3.out.step (i := L.length - 1) (by omega) rfl
 rw [HK.out.end_] at s1
 subst hsa
 have hi1 : ((L.length : Int) - 1).toNat = L.length - 1 := by omega
 go_upto_region 4 with (fail)
 obtain ⟨l0, l1, l8⟩ := HK.out.low
 have her := err16 (s := last) l1 l8
 have hpk : ∀ w1, MemAt w1 mb Fm3 16 N T → Calls Tryz.prog 32 #[.pointer (some ⟨mb, 0, none⟩), .int .u64 last] w1 fun e w' => e = .returned (.tuple #[.int .u64 (N (last / 8)), .int .i64 0]) ∧ Ext w1 w' := fun w1 hm => by
  have := peek_c mb Fm3 16 N T last w1 hm l0 (by omega)
  rw [if_pos her, her] at this; exact this
 have HPk2 := Lib.hid hpk
 obtain ⟨x, hx⟩ : ∃ x, N (last / 8) = x := ⟨_, rfl⟩
 have ⟨xa, xb⟩ := (MemP.wide O3.out.memP) (last / 8)
 rw [hx] at HPk2 xa xb
 have hb6 := bitE (a := x) 6 (by omega) xa xb
 rw [show ((2 ^ 6 : Nat) : Int) = 64 from rfl, show ((6 : Nat) : Int) = 6 from rfl] at hb6
 have HX := Lib.hid hx
 clear hx hpk her
 have y0 := (heap_cell J3.out 0).trans rfl
 have y1 := (heap_cell J3.out 1).trans rfl
 have y3 := (heap_cell J3.out 3).trans rfl
 have y4 := (heap_cell J3.out 4).trans rfl
 have y16 := (heap_cell J3.out 16).trans rfl
 have yl := heap_lt J3.out
 have a2 := (heap_cell A3.out 2).trans rfl
 have a3 := (heap_cell A3.out 3).trans rfl
 have a4 := (heap_cell A3.out 4).trans rfl
 have a5 := (heap_cell A3.out 5).trans rfl
 have a6 := (heap_cell A3.out 6).trans rfl
 have hd1 : decide (1 < lv) = true := by simpa using hlv0
 have HG := Lib.hid (fun w1 h1 => great_c tb cb Ft3 TL r p a ⟨fr, lv, g0, g1, g2, bitB x 6⟩ k0 w1 h1 ha0 ha1 HP0.out.1 HP0.out.2)
 unfold Hit.val at HG
 dsimp only at HG
 go_wp2_with (first | (go_at_call 32; refine (HPk2.out _ O3.out.both.mem).mono ?_; rintro e v4 ⟨rfl, hb4⟩; have ⟨hc, hf, hh, hs⟩ := hb4.facts) | (go_at_call 97; refine (HG.out _ (O3.out.tlb.ext hb4)).mono ?_; rintro e v5 ⟨rfl, hT5⟩))
 have h5 := (O3.out.ext hb4).after_tlb (TL' := keepL p a lv fr (g0, g1, g2) last N nxe k0 r TL) (LOk.keep O3.out.lok) (by unfold keepL; rw [if_pos hlv0, HX.out]; exact hT5)
 have hk : keepT lv last = [] := by unfold keepT; rw [if_pos hlv0]
 rw [← HE.out, hk, List.append_nil]
 refine ⟨rfl, .tuple #[], (by simp [results, Tryz.results70, go_sem]), ?_⟩
 exact ⟨rfl, OTo.trans ⟨O3.out, K3.out, F3.out⟩ (OTo.before hb4 h5)⟩
end Go.Proofs.YtkfonacokamfiaaGreat
