/- Joined texts, part 30 of what the law stands on: each as its own head says. -/
import Derived.Test.YtkfonacokamfiaaPly28
import Derived.Test.YtkfonacokamfiaaPly16
import Derived.Test.YtkfonacokamfiaaPly22
import Derived.Test.YtkfonacokamfiaaPly11
import Derived.Test.YtkfonacokamfiaaPly29
/- PscPlays: a deed, done to both. Printed by mkdo11.py. Own text. -/
namespace Go.Proofs.Ytkfonacokamfiaa
set_option linter.unusedVariables false
set_option linter.unusedSimpArgs false
open Go.RowKit
attribute [local go_sem] wext_cell wext_frozen wext_heap alloc_cell alloc_frozen alloc_heap setCell_cell objCell_cells objFrozen_cells

/-- A deed. -/
structure PDeed where
  k : Int
  p : Int
  l : Int
  a : Int
  L : List Stp
  wa : Option Addr
  wc : Nat
  why : Int
  r0 : Bool
  r1 : Bool
  r2 : Bool
  wl : Int
  wf : Int
  n : Int
  t : Int
  t0 : Bool
  t1 : Bool
  t2 : Bool
  k4 : Int
  k3 : Int
  k2 : Int
def PDeed.cells (d : PDeed) : Array Value := #[.int .i64 d.k, .int .i64 d.p, .int .i64 d.l, .int .u64 d.a, .slice d.wa d.L.length d.wc, .int .i64 d.why, .bool d.r0, .bool d.r1, .bool d.r2, .int .i64 d.wl, .int .u64 d.wf, .int .i64 d.n, .int .u64 d.t, .bool d.t0, .bool d.t1, .bool d.t2, .int .i64 d.k4, .int .i64 d.k3, .int .i64 d.k2]
def PDeed.ok (d : PDeed) : Prop := (0 ≤ d.a ∧ d.a ≤ 18446744073709551615) ∧ (-9223372036854775808 ≤ d.k4 ∧ d.k4 ≤ 9223372036854775807) ∧ (-9223372036854775808 ≤ d.k3 ∧ d.k3 ≤ 9223372036854775807) ∧ (-9223372036854775808 ≤ d.k2 ∧ d.k2 ≤ 9223372036854775807) ∧
  d.L.length ≤ 5864062014634 ∧ ∀ i, i < d.L.length → 0 ≤ (stpAt d.L i).2.2 ∧ (stpAt d.L i).2.2 ≤ 18446744073709551615
def stepP (d : PDeed) (r : Nat) (C : Int → Lines) : Int → Lines :=
  if d.k = 1 then fillF d.p d.a (pkF d.k4 d.k3 d.k2) r d.L (d.t0, d.t1, d.t2) C
  else if d.k = 2 then eachP (fun l L => delL (kP d.p l d.a) L) C
  else if d.k = 3 then eachP (fun _ L => filtL d.p L) C
  else if d.k = 4 then eachP (fun _ _ => []) C
  else if d.k = 5 then (if 2 ≤ d.l ∧ d.l ≤ 4 then upd C d.l (evictL d.k4 (C d.l)) else C) else C
section
variable {w w' : World} {pb : Nat} {cb : Int → Nat} {F : Int → List Nat} {C C' : Int → Lines} {r : Nat}
theorem RpAt.keepsP {sa : Int → Option Addr} {sc : Int → Nat} {D : Int → Lines} (h : RpAt w sa sc D) (hp : PscAt w pb cb F C r) (k : Keeps (allF F) w w') : RpAt w' sa sc D := fun l l0 l1 =>
  ⟨(h l l0 l1).1.keep fun g hg => by
    obtain ⟨c, hc⟩ := (h l l0 l1).1.heap g hg
    exact k.block g (heap_lt hc) (hp.out hc (by decide) (by decide)), (h l l0 l1).2⟩
theorem EndP.congr {C2 : Int → Lines} {e : Ending} (h : EndP pb cb F C' r w e w') (hc : ∀ l, 2 ≤ l → l ≤ 4 → C' l = C2 l) : EndP pb cb F C2 r w e w' := by
  obtain ⟨h0, F', h1, h2, h3⟩ := h
  exact ⟨h0, F', h1.congr hc, h2, h3⟩
/-- What a deed leaves. -/
def EndDo (pb : Nat) (cb : Int → Nat) (F : Int → List Nat) (C' : Int → Lines) (r : Nat) (w : World) (e : Ending) (w' : World) : Prop :=
  ∃ sa sc, e = .returned (.agg #[.slice (sa 4) (C' 4).length (sc 4), .int .i64 r, .slice (sa 3) (C' 3).length (sc 3), .int .i64 r, .slice (sa 2) (C' 2).length (sc 2), .int .i64 r]) ∧ RpAt w' sa sc C' ∧
    ∃ F', PscAt w' pb cb F' C' r ∧ Keeps (allF F) w w' ∧ ∀ x ∈ allF F', x ∈ allF F ∨ w.heap.size ≤ x
end
set_option maxHeartbeats 1000000 in
/-- Fill, of a walk without steps. -/
theorem fill0_c (pb : Nat) (cb : Int → Nat) (F : Int → List Nat) (C : Int → Lines) (r : Nat) (p a : Int) (sa : Option Addr) (sc : Nat) (why : Int) (rr : Rt) (lv fr : Int) (n t : Int) (rt : Rt) (k4 k3 k2 : Int) (w : World) (h : PscAt w pb cb F C r) :
    Calls Try.prog 14 #[.pointer (some ⟨pb, 0, none⟩), .int .i64 p, .int .u64 a, .agg #[.slice sa 0 sc, .int .i64 why, .bool rr.1, .bool rr.2.1, .bool rr.2.2, .int .i64 lv, .int .u64 fr], .agg #[.int .i64 n, .int .u64 t, .bool rt.1, .bool rt.2.1, .bool rt.2.2], .agg #[.int .i64 k4, .int .i64 k3, .int .i64 k2]] w (EndP pb cb F C r w) := by
  have H := Lib.hid h
  clear h
  go_enter Try.func14, Try.ntmps14
  go_wp2
  refine wp_loop_rounds 1 ?_
  rw [rounds_succ]
  go_wp2
  refine ⟨rfl, .tuple #[], (by simp [results, Try.results14, go_sem]), ?_⟩
  exact EndP.none H.out (by repeat (first | exact Ext.refl _ | assumption | refine Ext.alloc ?_ _ | refine Ext.drew ?_ | refine Ext.setCell ?_ (by first | (simp; done) | (dsimp only; omega)) _ | refine Ext.trans ?_ (by assumption)))
/-- An operation of both, one behind the other: the program's. -/
def OpP (pb : Nat) (cb : Int → Nat) (F : Int → List Nat) (C' : Int → Lines) (r : Nat) (w : World) (w' : World) : Prop := ∃ F', PscAt w' pb cb F' C' r ∧ Keeps (allF F) w w' ∧ ∀ x ∈ allF F', x ∈ allF F ∨ w.heap.size ≤ x

set_option maxHeartbeats 4000000 in
set_option maxRecDepth 100000 in
theorem do11_c (pb : Nat) (cb : Int → Nat) (F : Int → List Nat) (C : Int → Lines) (r : Nat) (sa : Int → Option Addr) (sc : Int → Nat) (d : PDeed) (w : World) (H : PscAt w pb cb F C r) (hR : RpAt w sa sc C) (hd : d.ok) (hS : StepsAt w d.wa d.L) (hSb : 0 < d.L.length → ∀ g o, d.wa = some ⟨g, o, none⟩ → g ∉ allF F) :
    Calls Try.prog 7 #[.pointer (some ⟨pb, 0, none⟩), .agg #[.slice (sa 4) (C 4).length (sc 4), .int .i64 r, .slice (sa 3) (C 3).length (sc 3), .int .i64 r, .slice (sa 2) (C 2).length (sc 2), .int .i64 r], .agg d.cells] w (EndDo pb cb F (stepP d r C) r w) := by
  have HH := Lib.hid H
  have HR := Lib.hid hR
  have HS := Lib.hid hS
  have HSb := Lib.hid hSb
  have HD := Lib.hid hd
  have hlen : ∀ l, 2 ≤ l → l ≤ 4 → (C l).length ≤ r := fun l l0 l1 => (H.room l0 l1).1
  have hr64 : r ≤ 64 := (H.room (l := 2) (by omega) (by omega)).2
  have HLen := Lib.hid hlen
  have hnd : ∀ l, 2 ≤ l → l ≤ 4 → (keysOf (C l)).Nodup := fun l l0 l1 => H.nodup l0 l1
  have HND := Lib.hid hnd
  obtain ⟨D, hD⟩ : ∃ D, stepP d r C = D := ⟨_, rfl⟩
  rw [hD]
  have HDD := Lib.hid hD
  generalize hE : EndDo pb cb F D r w = E
  have HE := Lib.hid hE
  clear hE H hR hS hSb hd hlen hnd hD
  unfold PDeed.cells
  go_enter Try.func7, Try.ntmps7
  go_upto_region 1 with (fail)
  refine wp_gen ?_; intro V hV
  have hVE : Ext w V := by rw [hV]; exact (by repeat (first | exact Ext.refl _ | assumption | refine Ext.alloc ?_ _ | refine Ext.drew ?_ | refine Ext.setCell ?_ (by first | (simp; done) | (dsimp only; omega)) _ | refine Ext.trans ?_ (by assumption)))
  have hV0 : V.heap[w.heap.size]? = some (.cells #[.slice (sa 4) (C 4).length (sc 4), .int .i64 r, .slice (sa 3) (C 3).length (sc 3), .int .i64 r, .slice (sa 2) (C 2).length (sc 2), .int .i64 r] 31 (0, 0)) := by rw [hV]; exact (alloc_other _ _ (by first | (simp; done) | (simp; omega))).trans ((alloc_other _ _ (by simp)).trans (alloc_same ..))
  have hV1 : V.heap[w.heap.size + 1]? = some (.cells #[.int .i64 d.k, .int .i64 d.p, .int .i64 d.l, .int .u64 d.a, .slice d.wa d.L.length d.wc, .int .i64 d.why, .bool d.r0, .bool d.r1, .bool d.r2, .int .i64 d.wl, .int .u64 d.wf, .int .i64 d.n, .int .u64 d.t, .bool d.t0, .bool d.t1, .bool d.t2, .int .i64 d.k4, .int .i64 d.k3, .int .i64 d.k2] 44 (0, 0)) := by rw [hV]; exact (alloc_other _ _ (by simp)).trans (alloc_same1 ..)
  have hV2 : V.heap[w.heap.size + 1 + 1]? = some (.cells #[.slice none 0 0, .int .i64 0, .slice none 0 0, .int .i64 0, .slice none 0 0, .int .i64 0] 31 (0, 0)) := by rw [hV]; exact alloc_same2 ..
  obtain ⟨vb, hvb⟩ : ∃ vb, w.heap.size = vb := ⟨_, rfl⟩
  rw [hvb] at hV0 hV1 hV2 ⊢
  have hwv : w.heap.size ≤ vb := by omega
  have VE := Lib.hid hVE
  have V0 := Lib.hid hV0
  have V1 := Lib.hid hV1
  have V2 := Lib.hid hV2
  have VP := Lib.hid (HH.out.ext hVE)
  clear hV hVE hV0 hV1 hV2 hvb
  -- behind the program's operation
  have AFT : Hid (∀ (C' : Int → Lines) (W : World), OpP pb cb F C' r V W → W.heap[vb]? = some (.cells #[.slice (sa 4) (C 4).length (sc 4), .int .i64 r, .slice (sa 3) (C 3).length (sc 3), .int .i64 r, .slice (sa 2) (C 2).length (sc 2), .int .i64 r] 31 (0, 0)) ∧ W.heap[vb + 1]? = some (.cells #[.int .i64 d.k, .int .i64 d.p, .int .i64 d.l, .int .u64 d.a, .slice d.wa d.L.length d.wc, .int .i64 d.why, .bool d.r0, .bool d.r1, .bool d.r2, .int .i64 d.wl, .int .u64 d.wf, .int .i64 d.n, .int .u64 d.t, .bool d.t0, .bool d.t1, .bool d.t2, .int .i64 d.k4, .int .i64 d.k3, .int .i64 d.k2] 44 (0, 0)) ∧ W.heap[vb + 1 + 1]? = some (.cells #[.slice none 0 0, .int .i64 0, .slice none 0 0, .int .i64 0, .slice none 0 0, .int .i64 0] 31 (0, 0)) ∧ RpAt W sa sc C ∧ StepsAt W d.wa d.L) := Lib.hid fun C' W hO => by
    obtain ⟨F', h1, h2, h3⟩ := hO
    have kb : ∀ {b : Nat} {c : Array Value} {e : TypeId}, V.heap[b]? = some (.cells c e (0, 0)) → e ≠ 117 → e ≠ 87 → W.heap[b]? = some (.cells c e (0, 0)) := fun hb a1 a2 => (h2.block _ (heap_lt hb) (VP.out.out hb a1 a2)).trans hb
    exact ⟨kb V0.out (by decide) (by decide), kb V1.out (by decide) (by decide), kb V2.out (by decide) (by decide), (HR.out.ext VE.out).keepsP VP.out h2, (by
      by_cases hL0 : 0 < d.L.length
      · exact (HS.out.ext VE.out).keeps h2 (HSb.out hL0)
      · exact fun i hi => absurd hi (by omega))⟩
  have FIN : Hid (∀ (W X : World) (sa2 : Int → Option Addr) (sc2 : Int → Nat), OpP pb cb F D r V W → Ext W X → RpAt X sa2 sc2 D → X.heap[vb + 1 + 1]? = some (.cells #[.slice none 0 0, .int .i64 0, .slice none 0 0, .int .i64 0, .slice none 0 0, .int .i64 0] 31 (0, 0)) → ∀ u0 u1 u2 u3 u4 u5 : Value,
      ∃ F', PscAt ((((((X.setCell ⟨vb + 1 + 1, 0, none⟩ u0).setCell ⟨vb + 1 + 1, 1, none⟩ u1).setCell ⟨vb + 1 + 1, 2, none⟩ u2).setCell ⟨vb + 1 + 1, 3, none⟩ u3).setCell ⟨vb + 1 + 1, 4, none⟩ u4).setCell ⟨vb + 1 + 1, 5, none⟩ u5) pb cb F' D r ∧
        Keeps (allF F) w ((((((X.setCell ⟨vb + 1 + 1, 0, none⟩ u0).setCell ⟨vb + 1 + 1, 1, none⟩ u1).setCell ⟨vb + 1 + 1, 2, none⟩ u2).setCell ⟨vb + 1 + 1, 3, none⟩ u3).setCell ⟨vb + 1 + 1, 4, none⟩ u4).setCell ⟨vb + 1 + 1, 5, none⟩ u5) ∧ ∀ x ∈ allF F', x ∈ allF F ∨ w.heap.size ≤ x) := Lib.hid fun W X sa2 sc2 hO k _ hZ u0 u1 u2 u3 u4 u5 => by
    obtain ⟨F', h1, h2, h3⟩ := hO
    have hX := h1.ext k
    have ho := hX.out hZ (by decide) (by decide)
    have kk : Keeps [vb + 1 + 1] X ((((((X.setCell ⟨vb + 1 + 1, 0, none⟩ u0).setCell ⟨vb + 1 + 1, 1, none⟩ u1).setCell ⟨vb + 1 + 1, 2, none⟩ u2).setCell ⟨vb + 1 + 1, 3, none⟩ u3).setCell ⟨vb + 1 + 1, 4, none⟩ u4).setCell ⟨vb + 1 + 1, 5, none⟩ u5) :=
      Keeps.setCell (Keeps.setCell (Keeps.setCell (Keeps.setCell (Keeps.setCell (Keeps.setCell (Keeps.refl _ _) (.inl (by simp)) _) (.inl (by simp)) _) (.inl (by simp)) _) (.inl (by simp)) _) (.inl (by simp)) _) (.inl (by simp)) _
    have hpb : pb ∉ [vb + 1 + 1] := fun hm => by
      have := hX.head; rw [List.mem_singleton.1 hm, hZ] at this; simp only [Option.some.injEq, Obj.cells.injEq] at this; exact absurd this.2.1 (by decide)
    refine ⟨F', hX.keeps kk (fun x hx hm => ho (by rw [← List.mem_singleton.1 hm]; exact hx)) hpb, ?_, fun x hx => (h3 x hx).imp id fun h => by have := VE.out.size; omega⟩
    have k1 : Keeps (allF F) w X := (Keeps.of_ext VE.out).same (h2.ext k)
    have hvs := VE.out.size
    exact Keeps.setCell (Keeps.setCell (Keeps.setCell (Keeps.setCell (Keeps.setCell (Keeps.setCell k1 (.inr (by omega)) _) (.inr (by omega)) _) (.inr (by omega)) _) (.inr (by omega)) _) (.inr (by omega)) _) (.inr (by omega)) _
  have hdl := heap_lt V1.out
  have z0 := (heap_cell V1.out 0).trans rfl
  have z1 := (heap_cell V1.out 1).trans rfl
  have z2 := (heap_cell V1.out 2).trans rfl
  have z3 := (heap_cell V1.out 3).trans rfl
  have z4 := (heap_cell V1.out 4).trans rfl
  have z5 := (heap_cell V1.out 5).trans rfl
  have z6 := (heap_cell V1.out 6).trans rfl
  have z7 := (heap_cell V1.out 7).trans rfl
  have z8 := (heap_cell V1.out 8).trans rfl
  have z9 := (heap_cell V1.out 9).trans rfl
  have z10 := (heap_cell V1.out 10).trans rfl
  have z11 := (heap_cell V1.out 11).trans rfl
  have z12 := (heap_cell V1.out 12).trans rfl
  have z13 := (heap_cell V1.out 13).trans rfl
  have z14 := (heap_cell V1.out 14).trans rfl
  have z15 := (heap_cell V1.out 15).trans rfl
  have z16 := (heap_cell V1.out 16).trans rfl
  have z17 := (heap_cell V1.out 17).trans rfl
  have z18 := (heap_cell V1.out 18).trans rfl
  have hkind : d.k = 1 ∨ d.k = 2 ∨ d.k = 3 ∨ d.k = 4 ∨ d.k = 5 ∨ (d.k ≠ 1 ∧ d.k ≠ 2 ∧ d.k ≠ 3 ∧ d.k ≠ 4 ∧ d.k ≠ 5) := by omega
  rcases hkind with hk | hk | hk | hk | hk | ⟨n1, n2, n3, n4, n5⟩
  · -- kind 1
    have HDk : Hid (D = fillF d.p d.a (pkF d.k4 d.k3 d.k2) r d.L (d.t0, d.t1, d.t2) C) := Lib.hid (by rw [← HDD.out]; unfold stepP; simp [hk])
    have b1 : (d.k == 1) = true := by rw [hk]; rfl
    clear hk
    have hpk : ∀ l, -9223372036854775808 ≤ pkF d.k4 d.k3 d.k2 l ∧ pkF d.k4 d.k3 d.k2 l ≤ 9223372036854775807 := fun l => by
      unfold pkF; split; exact HD.out.2.1; split; exact HD.out.2.2.1; exact HD.out.2.2.2.1
    have hfl : ∀ w1, PscAt w1 pb cb F C r → StepsAt w1 d.wa d.L → Calls Try.prog 14 #[.pointer (some ⟨pb, 0, none⟩), .int .i64 d.p, .int .u64 d.a, .agg #[.slice d.wa d.L.length d.wc, .int .i64 d.why, .bool d.r0, .bool d.r1, .bool d.r2, .int .i64 d.wl, .int .u64 d.wf], .agg #[.int .i64 d.n, .int .u64 d.t, .bool d.t0, .bool d.t1, .bool d.t2], .agg #[.int .i64 d.k4, .int .i64 d.k3, .int .i64 d.k2]] w1
        (EndP pb cb F (fillF d.p d.a (pkF d.k4 d.k3 d.k2) r d.L (d.t0, d.t1, d.t2) C) r w1) := fun w1 h1 h2 => by
      by_cases hL0 : 0 < d.L.length
      · exact fill_c pb cb F C r d.p d.a d.L d.wa d.wc d.why (d.r0, d.r1, d.r2) d.wl d.wf d.n d.t (d.t0, d.t1, d.t2) d.k4 d.k3 d.k2 w1 h1 h2 (HSb.out hL0) HD.out.2.2.2.2.1 HD.out.2.2.2.2.2 HD.out.1.1 HD.out.1.2 hpk
      · have hL : d.L = [] := List.length_eq_zero_iff.1 (by omega)
        rw [hL]
        exact fill0_c pb cb F C r d.p d.a d.wa d.wc d.why (d.r0, d.r1, d.r2) d.wl d.wf d.n d.t (d.t0, d.t1, d.t2) d.k4 d.k3 d.k2 w1 h1
    have HPg := Lib.hid hfl
    clear hfl
    go_upto_region 4 with (first | (go_at_call 14; refine (HPg.out _ VP.out (HS.out.ext VE.out)).mono ?_; rintro e W0 ⟨rfl, hEP⟩))
    have OP : Hid (OpP pb cb F D r V W0) := Lib.hid (by rw [HDk.out]; exact hEP)
    clear hEP
    clear z0 z1 z2 z3 z4 z5 z6 z7 z8 z9 z10 z11 z12 z13 z14 z15 z16 z17 z18
    have HDc := Lib.hid (fun za zc w1 h1 h2 => rFill_c sa sc C r d.p d.a d.L za zc d.why (d.r0, d.r1, d.r2) d.wl d.wf d.n d.t (d.t0, d.t1, d.t2) d.k4 d.k3 d.k2 w1 h1 HLen.out hr64 h2 HD.out.2.2.2.2.1 HD.out.2.2.2.2.2 HD.out.1.1 HD.out.1.2 hpk)
    rw [← HDk.out] at HDc
    dsimp only at HDc
    have HRl := Lib.hid (fun w1 h1 => real11_c d.L d.why (d.r0, d.r1, d.r2) d.wl d.wf d.wa d.wc w1 h1 HD.out.2.2.2.2.1)
    unfold EndReal at HRl
    dsimp only at HRl
    have HPl := Lib.hid (fun w1 => place11_c d.n d.t d.t0 d.t1 d.t2 w1)
    obtain ⟨a0, a1, a2, a3, a4⟩ := AFT.out _ _ OP.out
    have A0 := Lib.hid a0
    have A1 := Lib.hid a1
    have A2 := Lib.hid a2
    have A3 := Lib.hid a3
    have A4 := Lib.hid a4
    have x0 := (heap_cell a0 0).trans rfl
    have x1 := (heap_cell a0 1).trans rfl
    have x2 := (heap_cell a0 2).trans rfl
    have x3 := (heap_cell a0 3).trans rfl
    have x4 := (heap_cell a0 4).trans rfl
    have x5 := (heap_cell a0 5).trans rfl
    have xl := heap_lt a0
    have z1 := (heap_cell a1 1).trans rfl
    have z3 := (heap_cell a1 3).trans rfl
    have z4 := (heap_cell a1 4).trans rfl
    have z5 := (heap_cell a1 5).trans rfl
    have z6 := (heap_cell a1 6).trans rfl
    have z7 := (heap_cell a1 7).trans rfl
    have z8 := (heap_cell a1 8).trans rfl
    have z9 := (heap_cell a1 9).trans rfl
    have z10 := (heap_cell a1 10).trans rfl
    have z11 := (heap_cell a1 11).trans rfl
    have z12 := (heap_cell a1 12).trans rfl
    have z13 := (heap_cell a1 13).trans rfl
    have z14 := (heap_cell a1 14).trans rfl
    have z15 := (heap_cell a1 15).trans rfl
    have z16 := (heap_cell a1 16).trans rfl
    have z17 := (heap_cell a1 17).trans rfl
    have z18 := (heap_cell a1 18).trans rfl
    have zl := heap_lt a1
    clear a0 a1 a2 a3 a4
    refine region_mixG [.q [0, 1, 2, 3, 4, 5, 6, 8, 9, 11, 12], .l 7 3, .l 10 3, .l 13 3, .l 14 2] (by kernel_rfl) (by kernel_rfl) ?_
    (try refine ⟨fun h => absurd h (by simp), ?_⟩); (repeat (unfold wpPlan; simp only [pickL, List.map_cons, List.map_nil, List.getD_cons_succ, List.getD_cons_zero]; (repeat go_big_quiet_step (fail)); refine wpQuiet_nil ?_)); unfold wpPlan; intro u1 hu1; (try simp only [pickL, List.map_cons, List.map_nil, List.getD_cons_succ, List.getD_cons_zero])
    go_wp2_with (first | (go_at_call 19; refine (HRl.out _ (A4.out.ext hu1)).mono ?_; rintro e u2 ⟨ra, rc, rfl, hO2, hu2⟩))
    refine ⟨?_, ?_⟩
    · (try intro _); exact hu1.trans hu2
    have E2 := Lib.hid (hu1.trans hu2)
    have O2 := Lib.hid hO2
    clear hu1 hu2 hO2 x0 x1 x2 x3 x4 x5 xl z1 z3 z4 z5 z6 z7 z8 z9 z10 z11 z12 z13 z14 z15 z16 z17 z18 zl
    (try refine ⟨fun h => absurd h (by simp), ?_⟩); (repeat (unfold wpPlan; simp only [pickL, List.map_cons, List.map_nil, List.getD_cons_succ, List.getD_cons_zero]; (repeat go_big_quiet_step (fail)); refine wpQuiet_nil ?_)); unfold wpPlan; intro u3 hu3; (try simp only [pickL, List.map_cons, List.map_nil, List.getD_cons_succ, List.getD_cons_zero])
    go_wp2_with (first | (go_at_call 10; refine (HPl.out _).mono ?_; rintro e u4 ⟨rfl, hu4⟩))
    refine ⟨?_, ?_⟩
    · (try intro _); exact hu3.trans hu4
    have E4 := Lib.hid (E2.out.trans (hu3.trans hu4))
    have S4 := Lib.hid ((StepsAt.ofT O2.out).ext (hu3.trans hu4))
    clear hu3 hu4
    (try refine ⟨fun h => absurd h (by simp), ?_⟩); (repeat (unfold wpPlan; simp only [pickL, List.map_cons, List.map_nil, List.getD_cons_succ, List.getD_cons_zero]; (repeat go_big_quiet_step (fail)); refine wpQuiet_nil ?_)); unfold wpPlan; intro u5 hu5; (try simp only [pickL, List.map_cons, List.map_nil, List.getD_cons_succ, List.getD_cons_zero])
    go_wp2_with (first | (go_at_call 18; refine (HDc.out ra rc _ (A3.out.ext (E4.out.trans hu5)) (S4.out.ext hu5)).mono ?_; rintro e u6 ⟨sa2, sc2, rfl, hR2, hu6⟩))
    refine ⟨?_, ?_⟩
    · (try intro _); exact hu5.trans hu6
    have E6 := Lib.hid (E4.out.trans (hu5.trans hu6))
    have R6 := Lib.hid hR2
    clear hu5 hu6 hR2
    (try refine ⟨fun h => absurd h (by simp), ?_⟩); (repeat (unfold wpPlan; simp only [pickL, List.map_cons, List.map_nil, List.getD_cons_succ, List.getD_cons_zero]; (repeat go_big_quiet_step (fail)); refine wpQuiet_nil ?_)); unfold wpPlan; intro u7 hu7; (try simp only [pickL, List.map_cons, List.map_nil, List.getD_cons_succ, List.getD_cons_zero])
    have KX := Lib.hid (E6.out.trans hu7)
    have RQ := Lib.hid (R6.out.ext hu7)
    have ZB := Lib.hid ((KX.out.block _ (heap_lt A2.out)).trans A2.out)
    clear hu7
    have y0 := (heap_cell ZB.out 0).trans rfl
    have y1 := (heap_cell ZB.out 1).trans rfl
    have y2 := (heap_cell ZB.out 2).trans rfl
    have y3 := (heap_cell ZB.out 3).trans rfl
    have y4 := (heap_cell ZB.out 4).trans rfl
    have y5 := (heap_cell ZB.out 5).trans rfl
    have yf := frozen_of ZB.out
    have yl := heap_lt ZB.out
    go_wp2
    (try refine ⟨fun h => absurd h (by simp), ?_⟩); (repeat (unfold wpPlan; simp only [pickL, List.map_cons, List.map_nil, List.getD_cons_succ, List.getD_cons_zero]; (repeat go_big_quiet_step (fail)); refine wpQuiet_nil ?_)); unfold wpPlan; intro Q hQ; (try simp only [pickL, List.map_cons, List.map_nil, List.getD_cons_succ, List.getD_cons_zero])
    have m5 := (hQ.block (vb + 1 + 1) (by simp only [World.size_setCell]; exact heap_lt ZB.out)).trans (store6h ZB.out)
    have Q1 : Hid (RpAt Q sa2 sc2 D) := Lib.hid ((RQ.out.keepP ZB.out).ext hQ)
    have Q2 : Hid (∃ F', PscAt Q pb cb F' D r ∧ Keeps (allF F) w Q ∧ ∀ x ∈ allF F', x ∈ allF F ∨ w.heap.size ≤ x) := Lib.hid (by
      obtain ⟨F', h1, h2, h3⟩ := FIN.out W0 _ sa2 sc2 OP.out KX.out RQ.out ZB.out _ _ _ _ _ _
      exact ⟨F', h1.ext hQ, h2.ext hQ, h3⟩)
    clear hQ y0 y1 y2 y3 y4 y5 yf yl
    have v0 := (heap_cell m5 0).trans rfl
    have v1 := (heap_cell m5 1).trans rfl
    have v2 := (heap_cell m5 2).trans rfl
    have v3 := (heap_cell m5 3).trans rfl
    have v4 := (heap_cell m5 4).trans rfl
    have v5 := (heap_cell m5 5).trans rfl
    have vl := heap_lt m5
    clear m5
    go_wp2
    (try rw [Exit.noGoto_ret])
    refine bodyPost_ret (by simp [results, Try.results7, go_sem, ↓IntWalk.iteOmega, *]; try rfl) rfl (by rw [← HE.out]; exact ⟨sa2, sc2, rfl, Q1.out, Q2.out⟩)
  · -- kind 2
    have HDk : Hid (D = eachP (fun l L => delL (kP d.p l d.a) L) C) := Lib.hid (by rw [← HDD.out]; unfold stepP; simp [hk])
    have b1 : (d.k == 1) = false := by rw [hk]; rfl
    have b2 : (d.k == 2) = true := by rw [hk]; rfl
    clear hk
    have HPg := Lib.hid (fun w1 h1 => pscDropPage_c pb cb F C r d.p d.a w1 h1 HD.out.1.1 HD.out.1.2)
    go_upto_region 7 with (first | (go_at_call 20; refine (HPg.out _ VP.out).mono ?_; rintro e W0 ⟨rfl, hEP⟩))
    have OP : Hid (OpP pb cb F D r V W0) := Lib.hid (by rw [HDk.out]; exact hEP)
    clear hEP
    clear z0 z1 z2 z3 z4 z5 z6 z7 z8 z9 z10 z11 z12 z13 z14 z15 z16 z17 z18
    have HDc := Lib.hid (fun w1 h1 => rpDropPage_c sa sc C r d.p d.a w1 h1 HD.out.1.1 HD.out.1.2)
    rw [← HDk.out] at HDc
    obtain ⟨a0, a1, a2, a3, a4⟩ := AFT.out _ _ OP.out
    have A0 := Lib.hid a0
    have A1 := Lib.hid a1
    have A2 := Lib.hid a2
    have A3 := Lib.hid a3
    have A4 := Lib.hid a4
    have x0 := (heap_cell a0 0).trans rfl
    have x1 := (heap_cell a0 1).trans rfl
    have x2 := (heap_cell a0 2).trans rfl
    have x3 := (heap_cell a0 3).trans rfl
    have x4 := (heap_cell a0 4).trans rfl
    have x5 := (heap_cell a0 5).trans rfl
    have xl := heap_lt a0
    have z1 := (heap_cell a1 1).trans rfl
    have z3 := (heap_cell a1 3).trans rfl
    have zl := heap_lt a1
    clear a0 a1 a2 a3 a4
    go_wp2_with (first | (go_at_call 21; refine (HDc.out _ A3.out).mono ?_; rintro e X ⟨sa2, sc2, rfl, hR2, hX⟩; have B2 := (hX.block _ (heap_lt A2.out)).trans A2.out; have y0 := (heap_cell B2 0).trans rfl; have y1 := (heap_cell B2 1).trans rfl; have y2 := (heap_cell B2 2).trans rfl; have y3 := (heap_cell B2 3).trans rfl; have y4 := (heap_cell B2 4).trans rfl; have y5 := (heap_cell B2 5).trans rfl; have yf := frozen_of B2; have yl := heap_lt B2; have ZB := Lib.hid B2; have RQ := Lib.hid hR2; have KX := Lib.hid hX; clear B2 hR2 hX))
    all_goals
      clear x0 x1 x2 x3 x4 x5
      refine post_gen (fun Q => Q.heap[vb + 1 + 1]? = some (.cells #[.slice (sa2 4) (D 4).length (sc2 4), .int .i64 r, .slice (sa2 3) (D 3).length (sc2 3), .int .i64 r, .slice (sa2 2) (D 2).length (sc2 2), .int .i64 r] 31 (0, 0)) ∧ RpAt Q sa2 sc2 D ∧ ∃ F', PscAt Q pb cb F' D r ∧ Keeps (allF F) w Q ∧ ∀ x ∈ allF F', x ∈ allF F ∨ w.heap.size ≤ x) ⟨store6h ZB.out, RQ.out.keepP ZB.out, FIN.out W0 _ sa2 sc2 OP.out KX.out RQ.out ZB.out _ _ _ _ _ _⟩ ?_
      rintro Q ⟨m5, q1, q2⟩
      have v0 := (heap_cell m5 0).trans rfl
      have v1 := (heap_cell m5 1).trans rfl
      have v2 := (heap_cell m5 2).trans rfl
      have v3 := (heap_cell m5 3).trans rfl
      have v4 := (heap_cell m5 4).trans rfl
      have v5 := (heap_cell m5 5).trans rfl
      have Q1 := Lib.hid q1
      have Q2 := Lib.hid q2
      clear m5 q1 q2
      refine bodyPost_ret (by simp [results, Try.results7, go_sem, ↓IntWalk.iteOmega, *]; try rfl) rfl (by rw [← HE.out]; exact ⟨sa2, sc2, rfl, Q1.out, Q2.out⟩)
  · -- kind 3
    have HDk : Hid (D = eachP (fun _ L => filtL d.p L) C) := Lib.hid (by rw [← HDD.out]; unfold stepP; simp [hk])
    have b1 : (d.k == 1) = false := by rw [hk]; rfl
    have b2 : (d.k == 2) = false := by rw [hk]; rfl
    have b3 : (d.k == 3) = true := by rw [hk]; rfl
    clear hk
    have HPg := Lib.hid (fun w1 h1 => pscDropOf_c pb cb F C r d.p w1 h1)
    go_upto_region 10 with (first | (go_at_call 22; refine (HPg.out _ VP.out).mono ?_; rintro e W0 ⟨rfl, hEP⟩))
    have OP : Hid (OpP pb cb F D r V W0) := Lib.hid (by
      rw [HDk.out]
      exact (EndP.congr (⟨rfl, hEP⟩ : EndP pb cb F (eachP (fun _ L => dropN d.p (keysOf L) L) C) r V (.returned (.tuple #[])) W0) fun l l0 l1 => by unfold eachP; rw [if_pos ⟨l0, l1⟩, if_pos ⟨l0, l1⟩]; exact dropN_filtL (HND.out l l0 l1)).2)
    clear hEP
    clear z0 z1 z2 z3 z4 z5 z6 z7 z8 z9 z10 z11 z12 z13 z14 z15 z16 z17 z18
    have HDc := Lib.hid (fun w1 h1 => rpDropOf_c sa sc C r d.p w1 h1)
    rw [← HDk.out] at HDc
    obtain ⟨a0, a1, a2, a3, a4⟩ := AFT.out _ _ OP.out
    have A0 := Lib.hid a0
    have A1 := Lib.hid a1
    have A2 := Lib.hid a2
    have A3 := Lib.hid a3
    have A4 := Lib.hid a4
    have x0 := (heap_cell a0 0).trans rfl
    have x1 := (heap_cell a0 1).trans rfl
    have x2 := (heap_cell a0 2).trans rfl
    have x3 := (heap_cell a0 3).trans rfl
    have x4 := (heap_cell a0 4).trans rfl
    have x5 := (heap_cell a0 5).trans rfl
    have xl := heap_lt a0
    have z1 := (heap_cell a1 1).trans rfl
    have zl := heap_lt a1
    clear a0 a1 a2 a3 a4
    go_wp2_with (first | (go_at_call 23; refine (HDc.out _ A3.out).mono ?_; rintro e X ⟨sa2, sc2, rfl, hR2, hX⟩; have B2 := (hX.block _ (heap_lt A2.out)).trans A2.out; have y0 := (heap_cell B2 0).trans rfl; have y1 := (heap_cell B2 1).trans rfl; have y2 := (heap_cell B2 2).trans rfl; have y3 := (heap_cell B2 3).trans rfl; have y4 := (heap_cell B2 4).trans rfl; have y5 := (heap_cell B2 5).trans rfl; have yf := frozen_of B2; have yl := heap_lt B2; have ZB := Lib.hid B2; have RQ := Lib.hid hR2; have KX := Lib.hid hX; clear B2 hR2 hX))
    all_goals
      clear x0 x1 x2 x3 x4 x5
      refine post_gen (fun Q => Q.heap[vb + 1 + 1]? = some (.cells #[.slice (sa2 4) (D 4).length (sc2 4), .int .i64 r, .slice (sa2 3) (D 3).length (sc2 3), .int .i64 r, .slice (sa2 2) (D 2).length (sc2 2), .int .i64 r] 31 (0, 0)) ∧ RpAt Q sa2 sc2 D ∧ ∃ F', PscAt Q pb cb F' D r ∧ Keeps (allF F) w Q ∧ ∀ x ∈ allF F', x ∈ allF F ∨ w.heap.size ≤ x) ⟨store6h ZB.out, RQ.out.keepP ZB.out, FIN.out W0 _ sa2 sc2 OP.out KX.out RQ.out ZB.out _ _ _ _ _ _⟩ ?_
      rintro Q ⟨m5, q1, q2⟩
      have v0 := (heap_cell m5 0).trans rfl
      have v1 := (heap_cell m5 1).trans rfl
      have v2 := (heap_cell m5 2).trans rfl
      have v3 := (heap_cell m5 3).trans rfl
      have v4 := (heap_cell m5 4).trans rfl
      have v5 := (heap_cell m5 5).trans rfl
      have Q1 := Lib.hid q1
      have Q2 := Lib.hid q2
      clear m5 q1 q2
      refine bodyPost_ret (by simp [results, Try.results7, go_sem, ↓IntWalk.iteOmega, *]; try rfl) rfl (by rw [← HE.out]; exact ⟨sa2, sc2, rfl, Q1.out, Q2.out⟩)
  · -- kind 4
    have HDk : Hid (D = eachP (fun _ _ => []) C) := Lib.hid (by rw [← HDD.out]; unfold stepP; simp [hk])
    have b1 : (d.k == 1) = false := by rw [hk]; rfl
    have b2 : (d.k == 2) = false := by rw [hk]; rfl
    have b3 : (d.k == 3) = false := by rw [hk]; rfl
    have b4 : (d.k == 4) = true := by rw [hk]; rfl
    clear hk
    have HPg := Lib.hid (fun w1 h1 => pscClear_c pb cb F C r w1 h1)
    go_upto_region 13 with (first | (go_at_call 24; refine (HPg.out _ VP.out).mono ?_; rintro e W0 ⟨rfl, hEP⟩))
    have OP : Hid (OpP pb cb F D r V W0) := Lib.hid (by rw [HDk.out]; exact hEP)
    clear hEP
    clear z0 z1 z2 z3 z4 z5 z6 z7 z8 z9 z10 z11 z12 z13 z14 z15 z16 z17 z18
    have HDc := Lib.hid (fun w1 h1 => rpClear_c sa sc C r w1 h1)
    rw [← HDk.out] at HDc
    obtain ⟨a0, a1, a2, a3, a4⟩ := AFT.out _ _ OP.out
    have A0 := Lib.hid a0
    have A1 := Lib.hid a1
    have A2 := Lib.hid a2
    have A3 := Lib.hid a3
    have A4 := Lib.hid a4
    have x0 := (heap_cell a0 0).trans rfl
    have x1 := (heap_cell a0 1).trans rfl
    have x2 := (heap_cell a0 2).trans rfl
    have x3 := (heap_cell a0 3).trans rfl
    have x4 := (heap_cell a0 4).trans rfl
    have x5 := (heap_cell a0 5).trans rfl
    have xl := heap_lt a0
    have zl := heap_lt a1
    clear a0 a1 a2 a3 a4
    go_wp2_with (first | (go_at_call 25; refine (HDc.out _ A3.out).mono ?_; rintro e X ⟨sa2, sc2, rfl, hR2, hX⟩; have B2 := (hX.block _ (heap_lt A2.out)).trans A2.out; have y0 := (heap_cell B2 0).trans rfl; have y1 := (heap_cell B2 1).trans rfl; have y2 := (heap_cell B2 2).trans rfl; have y3 := (heap_cell B2 3).trans rfl; have y4 := (heap_cell B2 4).trans rfl; have y5 := (heap_cell B2 5).trans rfl; have yf := frozen_of B2; have yl := heap_lt B2; have ZB := Lib.hid B2; have RQ := Lib.hid hR2; have KX := Lib.hid hX; clear B2 hR2 hX))
    all_goals
      clear x0 x1 x2 x3 x4 x5
      refine post_gen (fun Q => Q.heap[vb + 1 + 1]? = some (.cells #[.slice (sa2 4) (D 4).length (sc2 4), .int .i64 r, .slice (sa2 3) (D 3).length (sc2 3), .int .i64 r, .slice (sa2 2) (D 2).length (sc2 2), .int .i64 r] 31 (0, 0)) ∧ RpAt Q sa2 sc2 D ∧ ∃ F', PscAt Q pb cb F' D r ∧ Keeps (allF F) w Q ∧ ∀ x ∈ allF F', x ∈ allF F ∨ w.heap.size ≤ x) ⟨store6h ZB.out, RQ.out.keepP ZB.out, FIN.out W0 _ sa2 sc2 OP.out KX.out RQ.out ZB.out _ _ _ _ _ _⟩ ?_
      rintro Q ⟨m5, q1, q2⟩
      have v0 := (heap_cell m5 0).trans rfl
      have v1 := (heap_cell m5 1).trans rfl
      have v2 := (heap_cell m5 2).trans rfl
      have v3 := (heap_cell m5 3).trans rfl
      have v4 := (heap_cell m5 4).trans rfl
      have v5 := (heap_cell m5 5).trans rfl
      have Q1 := Lib.hid q1
      have Q2 := Lib.hid q2
      clear m5 q1 q2
      refine bodyPost_ret (by simp [results, Try.results7, go_sem, ↓IntWalk.iteOmega, *]; try rfl) rfl (by rw [← HE.out]; exact ⟨sa2, sc2, rfl, Q1.out, Q2.out⟩)
  · -- kind 5
    have HDk : Hid (D = (if 2 ≤ d.l ∧ d.l ≤ 4 then upd C d.l (evictL d.k4 (C d.l)) else C)) := Lib.hid (by rw [← HDD.out]; unfold stepP; simp [hk])
    have b1 : (d.k == 1) = false := by rw [hk]; rfl
    have b2 : (d.k == 2) = false := by rw [hk]; rfl
    have b3 : (d.k == 3) = false := by rw [hk]; rfl
    have b4 : (d.k == 4) = false := by rw [hk]; rfl
    have b5 : (d.k == 5) = true := by rw [hk]; rfl
    clear hk
    have HPg : Hid (∀ w1, PscAt w1 pb cb F C r → Calls Try.prog 26 #[.pointer (some ⟨pb, 0, none⟩), .int .i64 d.l, .int .i64 d.k4] w1 (EndP pb cb F (if 2 ≤ d.l ∧ d.l ≤ 4 then upd C d.l (evictL d.k4 (C d.l)) else C) r w1)) := Lib.hid fun w1 h1 => by
      by_cases hl : 2 ≤ d.l ∧ d.l ≤ 4
      · rw [if_pos hl]; exact pscEvict_c pb cb F C r d.l d.k4 w1 h1 (by omega) HD.out.2.1.1 HD.out.2.1.2
      · rw [if_neg hl]
        refine (pscEvictNo_c (some ⟨pb, 0, none⟩) d.l d.k4 w1 (by omega)).mono fun e w' he => ?_
        obtain ⟨rfl, hx⟩ := he
        exact EndP.none h1 hx
    go_upto_region 16 with (first | (go_at_call 26; refine (HPg.out _ VP.out).mono ?_; rintro e W0 ⟨rfl, hEP⟩))
    have OP : Hid (OpP pb cb F D r V W0) := Lib.hid (by rw [HDk.out]; exact hEP)
    clear hEP
    clear z0 z1 z2 z3 z4 z5 z6 z7 z8 z9 z10 z11 z12 z13 z14 z15 z16 z17 z18
    have HDc := Lib.hid (fun w1 h1 => rpEvict_c sa sc C r d.l d.k4 w1 h1 HD.out.2.1.1 HD.out.2.1.2)
    rw [← HDk.out] at HDc
    obtain ⟨a0, a1, a2, a3, a4⟩ := AFT.out _ _ OP.out
    have A0 := Lib.hid a0
    have A1 := Lib.hid a1
    have A2 := Lib.hid a2
    have A3 := Lib.hid a3
    have A4 := Lib.hid a4
    have x0 := (heap_cell a0 0).trans rfl
    have x1 := (heap_cell a0 1).trans rfl
    have x2 := (heap_cell a0 2).trans rfl
    have x3 := (heap_cell a0 3).trans rfl
    have x4 := (heap_cell a0 4).trans rfl
    have x5 := (heap_cell a0 5).trans rfl
    have xl := heap_lt a0
    have z2 := (heap_cell a1 2).trans rfl
    have z16 := (heap_cell a1 16).trans rfl
    have zl := heap_lt a1
    clear a0 a1 a2 a3 a4
    go_wp2_with (first | (go_at_call 27; refine (HDc.out _ A3.out).mono ?_; rintro e X ⟨sa2, sc2, rfl, hR2, hX⟩; have B2 := (hX.block _ (heap_lt A2.out)).trans A2.out; have y0 := (heap_cell B2 0).trans rfl; have y1 := (heap_cell B2 1).trans rfl; have y2 := (heap_cell B2 2).trans rfl; have y3 := (heap_cell B2 3).trans rfl; have y4 := (heap_cell B2 4).trans rfl; have y5 := (heap_cell B2 5).trans rfl; have yf := frozen_of B2; have yl := heap_lt B2; have ZB := Lib.hid B2; have RQ := Lib.hid hR2; have KX := Lib.hid hX; clear B2 hR2 hX))
    all_goals
      clear x0 x1 x2 x3 x4 x5
      refine post_gen (fun Q => Q.heap[vb + 1 + 1]? = some (.cells #[.slice (sa2 4) (D 4).length (sc2 4), .int .i64 r, .slice (sa2 3) (D 3).length (sc2 3), .int .i64 r, .slice (sa2 2) (D 2).length (sc2 2), .int .i64 r] 31 (0, 0)) ∧ RpAt Q sa2 sc2 D ∧ ∃ F', PscAt Q pb cb F' D r ∧ Keeps (allF F) w Q ∧ ∀ x ∈ allF F', x ∈ allF F ∨ w.heap.size ≤ x) ⟨store6h ZB.out, RQ.out.keepP ZB.out, FIN.out W0 _ sa2 sc2 OP.out KX.out RQ.out ZB.out _ _ _ _ _ _⟩ ?_
      rintro Q ⟨m5, q1, q2⟩
      have v0 := (heap_cell m5 0).trans rfl
      have v1 := (heap_cell m5 1).trans rfl
      have v2 := (heap_cell m5 2).trans rfl
      have v3 := (heap_cell m5 3).trans rfl
      have v4 := (heap_cell m5 4).trans rfl
      have v5 := (heap_cell m5 5).trans rfl
      have Q1 := Lib.hid q1
      have Q2 := Lib.hid q2
      clear m5 q1 q2
      refine bodyPost_ret (by simp [results, Try.results7, go_sem, ↓IntWalk.iteOmega, *]; try rfl) rfl (by rw [← HE.out]; exact ⟨sa2, sc2, rfl, Q1.out, Q2.out⟩)
  · have HDk : Hid (D = C) := Lib.hid (by rw [← HDD.out]; unfold stepP; rw [if_neg n1, if_neg n2, if_neg n3, if_neg n4, if_neg n5])
    have b1 : (d.k == 1) = false := by rw [beq_eq_false_iff_ne]; exact n1
    have b2 : (d.k == 2) = false := by rw [beq_eq_false_iff_ne]; exact n2
    have b3 : (d.k == 3) = false := by rw [beq_eq_false_iff_ne]; exact n3
    have b4 : (d.k == 4) = false := by rw [beq_eq_false_iff_ne]; exact n4
    have b5 : (d.k == 5) = false := by rw [beq_eq_false_iff_ne]; exact n5
    clear n1 n2 n3 n4 n5
    have OP : Hid (OpP pb cb F D r V V) := Lib.hid (by rw [HDk.out]; exact ⟨F, VP.out, Keeps.refl _ _, fun x hx => .inl hx⟩)
    have ZB := V2
    have KX : Hid (Ext V V) := Lib.hid (Ext.refl _)
    have RQ : Hid (RpAt V sa sc D) := Lib.hid (by rw [HDk.out]; exact HR.out.ext VE.out)
    obtain ⟨W0, hW0⟩ : ∃ W0, V = W0 := ⟨_, rfl⟩
    subst hW0
    have x0 := (heap_cell V0.out 0).trans rfl
    have x1 := (heap_cell V0.out 1).trans rfl
    have x2 := (heap_cell V0.out 2).trans rfl
    have x3 := (heap_cell V0.out 3).trans rfl
    have x4 := (heap_cell V0.out 4).trans rfl
    have x5 := (heap_cell V0.out 5).trans rfl
    have xl := heap_lt V0.out
    have y0 := (heap_cell ZB.out 0).trans rfl
    have y1 := (heap_cell ZB.out 1).trans rfl
    have y2 := (heap_cell ZB.out 2).trans rfl
    have y3 := (heap_cell ZB.out 3).trans rfl
    have y4 := (heap_cell ZB.out 4).trans rfl
    have y5 := (heap_cell ZB.out 5).trans rfl
    have yf := frozen_of ZB.out
    have yl := heap_lt ZB.out
    go_wp2
    clear x0 x1 x2 x3 x4 x5
    refine post_gen (fun Q => Q.heap[vb + 1 + 1]? = some (.cells #[.slice (sa 4) (C 4).length (sc 4), .int .i64 r, .slice (sa 3) (C 3).length (sc 3), .int .i64 r, .slice (sa 2) (C 2).length (sc 2), .int .i64 r] 31 (0, 0)) ∧ RpAt Q sa sc D ∧ ∃ F', PscAt Q pb cb F' D r ∧ Keeps (allF F) w Q ∧ ∀ x ∈ allF F', x ∈ allF F ∨ w.heap.size ≤ x) ⟨store6h ZB.out, RQ.out.keepP ZB.out, FIN.out V _ sa sc OP.out KX.out RQ.out ZB.out _ _ _ _ _ _⟩ ?_
    rintro Q ⟨m5, q1, q2⟩
    have v0 := (heap_cell m5 0).trans rfl
    have v1 := (heap_cell m5 1).trans rfl
    have v2 := (heap_cell m5 2).trans rfl
    have v3 := (heap_cell m5 3).trans rfl
    have v4 := (heap_cell m5 4).trans rfl
    have v5 := (heap_cell m5 5).trans rfl
    have Q1 := Lib.hid q1
    have Q2 := Lib.hid q2
    clear m5 q1 q2
    refine bodyPost_ret (by simp [results, Try.results7, go_sem, ↓IntWalk.iteOmega, *]; try rfl) rfl (by rw [← HE.out]; exact ⟨sa, sc, by rw [HDk.out], Q1.out, Q2.out⟩)
end Go.Proofs.Ytkfonacokamfiaa
