/- Joined texts, part 22 of what the law stands on: each as its own head says. -/
import Derived.Test.YtkfonacokamfiaaPly17
import Derived.Test.YtkfonacokamfiaaPly21
import Derived.Test.YtkfonacokamfiaaPly14
import Derived.Test.YtkfonacokamfiaaPly13
import Derived.Test.YtkfonacokamfiaaPly19
/- Caches of tables: Fill. -/
namespace Go.Proofs.Ytkfonacokamfiaa
set_option linter.unusedVariables false
set_option linter.unusedSimpArgs false
open Go.RowKit
attribute [local go_sem] wext_cell wext_frozen wext_heap alloc_cell alloc_frozen alloc_heap setCell_cell objCell_cells objFrozen_cells

def pkF (k4 k3 k2 : Int) (l : Int) : Int := if l = 4 then k4 else if l = 3 then k3 else k2
def goesOn (s : Stp) : Prop := (2 ≤ s.1 ∧ s.1 ≤ 4) ∧ bitB s.2.2 0 = true ∧ leafI s.2.2 s.1 = false
instance (s : Stp) : Decidable (goesOn s) := by unfold goesOn; infer_instance
theorem fill_drop {p a : Int} {pk : Int → Int} {r : Nat} {L : List Stp} {rt : Rt} {C : Int → Lines} {i : Nat} (h : i < L.length) : fillF p a pk r (L.drop i) rt C =
    if i + 1 = L.length then C else if goesOn (stpAt L i) then fillF p a pk r (L.drop (i + 1)) (andR rt (stpAt L i).2.2) (upd C (stpAt L i).1 (putC (kP p (stpAt L i).1 a) (lineP (tabI (stpAt L i).2.2) (andR rt (stpAt L i).2.2)) (pk (stpAt L i).1) r (C (stpAt L i).1))) else C := by
  have e : L.drop i = stpAt L i :: L.drop (i + 1) := by
    rw [List.drop_eq_getElem_cons h]
    congr 1
    simp [stpAt, List.getD, h]
  rw [e]
  simp only [fillF, List.drop_eq_nil_iff]
  by_cases hl : i + 1 = L.length
  · rw [if_pos (by omega), if_pos hl]
  · rw [if_neg (by omega), if_neg hl]
    rfl
theorem StepsAt.keeps {U V : World} {sa : Option Addr} {L : List Stp} {G : List Nat} (h : StepsAt U sa L) (k : Keeps G U V) (hg : ∀ g o, sa = some ⟨g, o, none⟩ → g ∉ G) : StepsAt V sa L := fun i hi => by
  obtain ⟨g, o, e, h1, h2, h3, h4⟩ := h i hi
  have hb := k.block g h1 (hg g o e)
  have c : ∀ j, V.cell? ⟨g, j, none⟩ = U.cell? ⟨g, j, none⟩ := fun j => by rw [cell_heap, cell_heap, hb]
  exact ⟨g, o, e, Nat.lt_of_lt_of_le h1 k.size, by rw [c]; exact h2, by rw [c]; exact h3, by rw [c]; exact h4⟩
/-- Within Fill. -/
structure FillTo (w : World) (vb pb : Nat) (cb : Int → Nat) (F : Int → List Nat) (r : Nat) (L : List Stp) (sa : Option Addr) (sc : Nat) (why : Int) (rr : Rt) (lv fr k4 k3 k2 p a : Int) (D : Int → Lines) (i : Nat) (rt : Rt) (C : Int → Lines) (wr : World) : Prop where
  psc : PscTo pb cb F C r w wr
  eq : fillF p a (pkF k4 k3 k2) r (L.drop i) rt C = D
  path : wr.heap[vb]? = some (.cells #[.slice sa L.length sc, .int .i64 why, .bool rr.1, .bool rr.2.1, .bool rr.2.2, .int .i64 lv, .int .u64 fr] 39 (0, 0))
  picks : wr.heap[vb + 1 + 1]? = some (.cells #[.int .i64 k4, .int .i64 k3, .int .i64 k2] 42 (0, 0))
  right : wr.heap[vb + 1 + 1 + 1]? = some (.cells #[.bool rt.1, .bool rt.2.1, .bool rt.2.2] 37 (0, 0))
  steps : StepsAt wr sa L

theorem PscTo.keepsAt {w wr w' : World} {pb : Nat} {cb : Int → Nat} {F F2 : Int → List Nat} {C : Int → Lines} {r : Nat} {G : List Nat} (h : PscAt wr pb cb F2 C r ∧ Keeps (allF F) w wr ∧ ∀ x ∈ allF F2, x ∈ allF F ∨ w.heap.size ≤ x) (k : Keeps G wr w')
    (hG : ∀ x ∈ G, w.heap.size ≤ x ∧ ∃ c e, wr.heap[x]? = some (.cells c e (0, 0)) ∧ e ≠ 117 ∧ e ≠ 87 ∧ e ≠ 67) : PscAt w' pb cb F2 C r ∧ Keeps (allF F) w w' ∧ ∀ x ∈ allF F2, x ∈ allF F ∨ w.heap.size ≤ x := by
  refine ⟨h.1.keeps k (fun x hx hg => ?_) (fun hg => ?_), h.2.1.trans k fun x hx => .inr (hG x hx).1, h.2.2⟩
  · obtain ⟨-, c, e, h1, h2, h3, -⟩ := hG x hg
    exact h.1.out h1 h2 h3 hx
  · obtain ⟨-, c, e, h1, -, -, h4⟩ := hG pb hg
    rw [h.1.head] at h1
    simp only [Option.some.injEq, Obj.cells.injEq] at h1
    exact h4 h1.2.1.symm
theorem FillTo.step {w wr U X Y Z : World} {vb pb : Nat} {cb : Int → Nat} {F F2 : Int → List Nat} {r : Nat} {L : List Stp} {sa : Option Addr} {sc : Nat} {why : Int} {rr : Rt} {lv fr k4 k3 k2 p a l : Int} {D : Int → Lines} {i : Nat} {rt u : Rt} {C : Int → Lines} {LP : Lines} {F1 : List Nat}
    (h : FillTo w vb pb cb F r L sa sc why rr lv fr k4 k3 k2 p a D i rt C wr) (hwv : w.heap.size ≤ vb) (hSb : ∀ g o, sa = some ⟨g, o, none⟩ → g ∉ allF F) (hLT : ∀ g o, sa = some ⟨g, o, none⟩ → g < w.heap.size)
    (hP : PscAt wr pb cb F2 C r ∧ Keeps (allF F) w wr ∧ ∀ x ∈ allF F2, x ∈ allF F ∨ w.heap.size ≤ x) (l0 : 2 ≤ l) (l1 : l ≤ 4) (k1 : Keeps [vb + 1 + 1 + 1] wr U) (hU : U.heap[vb + 1 + 1 + 1]? = some (.cells #[.bool u.1, .bool u.2.1, .bool u.2.2] 37 (0, 0)))
    (e2 : Ext U X) (c : CAt Y (cb l) F1 LP r) (kk : Keeps (F2 l) X Y) (f : ∀ x ∈ F1, x ∈ F2 l ∨ X.heap.size ≤ x) (e3 : Ext Y Z) (hD : D = fillF p a (pkF k4 k3 k2) r (L.drop (i + 1)) u (upd C l LP)) :
    FillTo w vb pb cb F r L sa sc why rr lv fr k4 k3 k2 p a D (i + 1) u (upd C l LP) Z := by
  have PU := PscTo.keepsAt hP k1 (fun x hx => by
    simp only [List.mem_singleton] at hx
    subst hx
    exact ⟨by omega, _, _, h.right, by decide, by decide, by decide⟩)
  have PX : PscAt X pb cb F2 C r ∧ Keeps (allF F) w X ∧ ∀ x ∈ allF F2, x ∈ allF F ∨ w.heap.size ≤ x := ⟨PU.1.ext e2, PU.2.1.ext e2, PU.2.2⟩
  have keep : ∀ {b : Nat} {cs : Array Value} {e : TypeId}, X.heap[b]? = some (.cells cs e (0, 0)) → e ≠ 117 → e ≠ 87 → Z.heap[b]? = some (.cells cs e (0, 0)) := fun hb h1 h2 => by
    have hy := (kk.block _ (heap_lt hb) (fun hm => PX.1.out hb h1 h2 (mem_allF.2 ⟨l, l0, l1, hm⟩))).trans hb
    exact (e3.block _ (heap_lt hy)).trans hy
  have stay : ∀ {b : Nat} {cs : Array Value} {e : TypeId}, wr.heap[b]? = some (.cells cs e (0, 0)) → b ≠ vb + 1 + 1 + 1 → X.heap[b]? = some (.cells cs e (0, 0)) := fun hb hne => by
    have hu := (k1.block _ (heap_lt hb) (by simpa using hne)).trans hb
    exact (e2.block _ (heap_lt hu)).trans hu
  refine ⟨(PscTo.trans PX ⟨_, PX.1.op l0 l1 c kk f⟩).ext e3, hD.symm, keep (stay h.path (by omega)) (by decide) (by decide), keep (stay h.picks (by omega)) (by decide) (by decide), keep ((e2.block _ (heap_lt hU)).trans hU) (by decide) (by decide), ?_⟩
  refine (((h.steps.keeps k1 fun g o e hm => ?_).ext e2).keeps kk fun g o e hm => ?_).ext e3
  · simp only [List.mem_singleton] at hm
    have := hLT g o e; omega
  · rcases hP.2.2 g (mem_allF.2 ⟨l, l0, l1, hm⟩) with q | q
    · exact hSb g o e q
    · have := hLT g o e; omega

set_option maxHeartbeats 4000000 in
set_option maxRecDepth 100000 in
theorem fill_c (pb : Nat) (cb : Int → Nat) (F : Int → List Nat) (C : Int → Lines) (r : Nat) (p a : Int) (L : List Stp) (sa : Option Addr) (sc : Nat) (why : Int) (rr : Rt) (lv fr : Int) (n t : Int) (rt : Rt) (k4 k3 k2 : Int) (w : World) (h : PscAt w pb cb F C r)
    (hS : StepsAt w sa L) (hSb : ∀ g o, sa = some ⟨g, o, none⟩ → g ∉ allF F) (hL : L.length ≤ 5864062014634) (hok : ∀ i, i < L.length → 0 ≤ (stpAt L i).2.2 ∧ (stpAt L i).2.2 ≤ 18446744073709551615) (h0 : 0 ≤ a) (h1 : a ≤ 18446744073709551615)
    (hk : ∀ l, -9223372036854775808 ≤ pkF k4 k3 k2 l ∧ pkF k4 k3 k2 l ≤ 9223372036854775807) :
    Calls Try.prog 14 #[.pointer (some ⟨pb, 0, none⟩), .int .i64 p, .int .u64 a, .agg #[.slice sa L.length sc, .int .i64 why, .bool rr.1, .bool rr.2.1, .bool rr.2.2, .int .i64 lv, .int .u64 fr], .agg #[.int .i64 n, .int .u64 t, .bool rt.1, .bool rt.2.1, .bool rt.2.2], .agg #[.int .i64 k4, .int .i64 k3, .int .i64 k2]] w
      (EndP pb cb F (fillF p a (pkF k4 k3 k2) r L rt C) r w) := by
  have H := Lib.hid h
  have HS := Lib.hid hS
  have HSb := Lib.hid hSb
  have HO := Lib.hid hok
  have HK := Lib.hid hk
  obtain ⟨D, hD⟩ : ∃ D, fillF p a (pkF k4 k3 k2) r L rt C = D := ⟨_, rfl⟩
  rw [hD]
  have HD := Lib.hid hD
  generalize hE : EndP pb cb F D r w = E
  have HE := Lib.hid hE
  have hlt0 : ∀ i, i < L.length → ∀ g o, sa = some ⟨g, o, none⟩ → g < w.heap.size := fun i hi g o e => by
    obtain ⟨g', o', e', hg, -⟩ := hS i hi
    rw [e] at e'
    injection e' with e'
    injection e' with e1
    omega
  have HLT := Lib.hid hlt0
  clear hE h hS hSb hok hD hlt0 hk
  obtain ⟨r0, r1, r2⟩ := rt
  obtain ⟨q0, q1, q2⟩ := rr
  go_enter Try.func14, Try.ntmps14
  go_wp2
  refine wp_gen ?_; intro V hV
  have hVE : Ext w V := by rw [hV]; exact (by repeat (first | exact Ext.refl _ | assumption | refine Ext.alloc ?_ _ | refine Ext.drew ?_ | refine Ext.setCell ?_ (by first | (simp; done) | (dsimp only; omega)) _ | refine Ext.trans ?_ (by assumption)))
  have hV0 : V.heap[w.heap.size]? = some (.cells #[.slice sa L.length sc, .int .i64 why, .bool q0, .bool q1, .bool q2, .int .i64 lv, .int .u64 fr] 39 (0, 0)) := by
    rw [hV]; exact (alloc_other _ _ (by first | (simp; done) | (simp; omega))).trans ((alloc_other _ _ (by first | (simp; done) | (simp; omega))).trans ((alloc_other _ _ (by simp)).trans (alloc_same ..)))
  have hV2 : V.heap[w.heap.size + 1 + 1]? = some (.cells #[.int .i64 k4, .int .i64 k3, .int .i64 k2] 42 (0, 0)) := by
    rw [hV]; exact (alloc_other _ _ (by simp)).trans (alloc_same2 ..)
  have hV3 : V.heap[w.heap.size + 1 + 1 + 1]? = some (.cells #[.bool r0, .bool r1, .bool r2] 37 (0, 0)) := by
    rw [hV]; exact alloc_same3 ..
  obtain ⟨vb, hvb⟩ : ∃ vb, w.heap.size = vb := ⟨_, rfl⟩
  rw [hvb] at hV0 hV2 hV3 ⊢
  have hwv : w.heap.size ≤ vb := by omega
  have VT : Hid (FillTo w vb pb cb F r L sa sc why (q0, q1, q2) lv fr k4 k3 k2 p a D 0 (r0, r1, r2) C V) := Lib.hid ⟨(PscTo.refl H.out).ext hVE, by rw [← HD.out]; rfl, hV0, hV2, hV3, HS.out.ext hVE⟩
  have p0 := (heap_cell hV0 0).trans rfl
  have pl := heap_lt hV0
  clear hV hVE hV0 hV2 hV3 hvb
  go_upto_region 3 with (fail)
  clear p0 pl
  go_loopw [21] (fun iv wr => ∃ (i : Nat) (rt' : Rt) (C' : Int → Lines), i ≤ L.length ∧ iv = .int .i64 i ∧ Hid (FillTo w vb pb cb F r L sa sc why (q0, q1, q2) lv fr k4 k3 k2 p a D i rt' C' wr)) (fun iv _ => L.length - (intOf iv).toNat)
  case atStart => exact ⟨0, _, _, by omega, rfl, VT⟩
  case round =>
    obtain ⟨i, rt', C', hi, rfl, hR⟩ := hrel
    by_cases hlt : i < L.length
    · obtain ⟨g, o, hsa, hgl, s0, s1, s2⟩ := hR.out.steps i hlt
      subst hsa
      obtain ⟨x0, x1⟩ := HO.out i hlt
      have hfd := fill_drop (p := p) (a := a) (pk := pkF k4 k3 k2) (r := r) (rt := rt') (C := C') hlt
      rw [hR.out.eq] at hfd
      have c0 := (heap_cell hR.out.path 0).trans rfl
      have pl := heap_lt hR.out.path
      have bl := heap_lt hR.out.right
      generalize stpAt L i = sj at s0 s1 s2 x0 x1 hfd
      obtain ⟨l, s, x⟩ := sj
      dsimp only at s0 s1 s2 x0 x1 hfd
      by_cases hlast : i + 1 = L.length
      · have hlb : ((i : Int) == (L.length : Int) - 1) = true := by rw [beq_iff_eq]; omega
        rw [if_pos hlast] at hfd
        have HFD := Lib.hid hfd
        clear hfd hlast
        go_wp2
        refine ⟨rfl, .tuple #[], (by simp [results, Try.results14, go_sem]), ?_⟩
        rw [← HE.out, HFD.out]
        exact ⟨rfl, hR.out.psc.ext (by repeat (first | exact Ext.refl _ | assumption | refine Ext.alloc ?_ _ | refine Ext.drew ?_ | refine Ext.setCell ?_ (by first | (simp; done) | (dsimp only; omega)) _ | refine Ext.trans ?_ (by assumption)))⟩
      · have hlb : ((i : Int) == (L.length : Int) - 1) = false := by rw [beq_eq_false_iff_ne]; omega
        rw [if_neg hlast] at hfd
        clear hlast
        have HFD := Lib.hid hfd
        clear hfd
        by_cases hl : 2 ≤ l ∧ l ≤ 4
        · obtain ⟨F2, hP, hK, hf⟩ := hR.out.psc
          have hl' : l = 2 ∨ l = 3 ∨ l = 4 := by omega
          have HP := Lib.hid hP
          have HPK := Lib.hid hK
          have HPf := Lib.hid hf
          have HOf := Lib.hid (fun w h => of_c pb cb F2 C' r l w h hl')
          have hb0 : (bits BinOp.and IntKind.u64 x 1 == 0) = !bitB x 0 := by
            have := bitE 0 (by omega) x0 x1
            have e : (bits BinOp.and IntKind.u64 x 1 != 0) = bitB x 0 := this
            rw [← e]; simp [bne]
          clear hP hK hf
          cases hp : bitB x 0 with
          | false =>
            rw [hp] at hb0
            have HC : Hid (D = C') := Lib.hid (by rw [HFD.out, if_neg]; rintro ⟨-, h2, -⟩; rw [hp] at h2; cases h2)
            clear hp hl hl'
            go_wp2_with (first | (go_at_call 28; refine (HOf.out _ (HP.out.ext (by repeat (first | exact Ext.refl _ | assumption | refine Ext.alloc ?_ _ | refine Ext.drew ?_ | refine Ext.setCell ?_ (by first | (simp; done) | (dsimp only; omega)) _ | refine Ext.trans ?_ (by assumption))))).mono ?_; rintro e w1 ⟨rfl, hb1⟩; have ⟨hc, hf, hh, hs⟩ := hb1.facts; try simp only [World.size_alloc, World.size_setCell, World.size_drew] at hs))
            refine ⟨rfl, .tuple #[], (by simp [results, Try.results14, go_sem]), ?_⟩
            rw [← HE.out, HC.out]
            exact ⟨rfl, hR.out.psc.ext (by repeat (first | exact Ext.refl _ | assumption | refine Ext.alloc ?_ _ | refine Ext.drew ?_ | refine Ext.setCell ?_ (by first | (simp; done) | (dsimp only; omega)) _ | refine Ext.trans ?_ (by assumption)))⟩
          | true =>
            rw [hp] at hb0
            have HLf := Lib.hid (fun w => entLeaf_c x l w x0 x1)
            cases hlf : leafI x l with
            | true =>
              rw [hlf] at HLf
              have HC : Hid (D = C') := Lib.hid (by rw [HFD.out, if_neg]; rintro ⟨-, -, h2⟩; rw [hlf] at h2; cases h2)
              clear hp hl hl' hlf
              go_wp2_with (first | (go_at_call 28; refine (HOf.out _ (HP.out.ext (by repeat (first | exact Ext.refl _ | assumption | refine Ext.alloc ?_ _ | refine Ext.drew ?_ | refine Ext.setCell ?_ (by first | (simp; done) | (dsimp only; omega)) _ | refine Ext.trans ?_ (by assumption))))).mono ?_; rintro e w1 ⟨rfl, hb1⟩; have ⟨hc, hf, hh, hs⟩ := hb1.facts; try simp only [World.size_alloc, World.size_setCell, World.size_drew] at hs) | (go_at_call 39; refine (HLf.out _).mono ?_; rintro e w2 ⟨rfl, hb2⟩))
              refine ⟨rfl, .tuple #[], (by simp [results, Try.results14, go_sem]), ?_⟩
              rw [← HE.out, HC.out]
              exact ⟨rfl, hR.out.psc.ext (by repeat (first | exact Ext.refl _ | assumption | refine Ext.alloc ?_ _ | refine Ext.drew ?_ | refine Ext.setCell ?_ (by first | (simp; done) | (dsimp only; omega)) _ | refine Ext.trans ?_ (by assumption)))⟩
            | false =>
              rw [hlf] at HLf
              obtain ⟨a0, a1, a2⟩ := rt'
              obtain ⟨u, hu⟩ : ∃ u, andR (a0, a1, a2) x = u := ⟨_, rfl⟩
              have HA : Hid (∀ w, Calls Try.prog 40 #[.agg #[.bool a0, .bool a1, .bool a2], .int .u64 x] w fun e w' => e = .returned (.agg #[.bool u.1, .bool u.2.1, .bool u.2.2]) ∧ Ext w w') := Lib.hid (fun w => by rw [← hu]; exact rightAndE_c a0 a1 a2 x w x0 x1)
              have HTb := Lib.hid (fun w => entTable_c x w x0 x1)
              have HKy := Lib.hid (fun w => pscKey_c p l a w hl' h0 h1)
              have HPu := Lib.hid (fun w (h : PscAt w pb cb F2 C' r) => put_c (cb l) (F2 l) (C' l) r (kP p l a) (lineP (tabI x) u) (pkF k4 k3 k2 l) w (h.cache l hl.1 hl.2) (HK.out l).1 (HK.out l).2)
              have HC : Hid (D = fillF p a (pkF k4 k3 k2) r (L.drop (i + 1)) u (upd C' l (putC (kP p l a) (lineP (tabI x) u) (pkF k4 k3 k2 l) r (C' l)))) := Lib.hid (by rw [HFD.out, if_pos ⟨hl, hp, hlf⟩, hu])
              generalize tabI x = tb at HTb HPu HC
              generalize putC (kP p l a) (lineP tb u) (pkF k4 k3 k2 l) r (C' l) = LP at HPu HC
              generalize kP p l a = kk at HKy HPu
              obtain ⟨u0, u1, u2⟩ := u
              unfold Key.val at HKy HPu
              unfold Line.val lineP at HPu
              dsimp only at HPu HA
              have HBL : ∃ b0 b1 b2, (b0, b1, b2) = (vb, vb + 1 + 1, vb + 1 + 1 + 1) := ⟨_, _, _, rfl⟩
              have R0 := Lib.hid hR.out.right
              have P0 := Lib.hid hR.out.picks
              have A0 := Lib.hid hR.out.path
              have e0 := (heap_cell R0.out 0).trans rfl
              have e1 := (heap_cell R0.out 1).trans rfl
              have e2 := (heap_cell R0.out 2).trans rfl
              have ef := frozen_of R0.out
              have hgv : g < w.heap.size := HLT.out i hlt g o rfl
              clear hp hlf HFD hu HBL
              go_upto_region 8 with (first | (go_at_call 28; refine (HOf.out _ (HP.out.ext (by repeat (first | exact Ext.refl _ | assumption | refine Ext.alloc ?_ _ | refine Ext.drew ?_ | refine Ext.setCell ?_ (by first | (simp; done) | (dsimp only; omega)) _ | refine Ext.trans ?_ (by assumption))))).mono ?_; rintro e w1 ⟨rfl, hb1⟩; have ⟨hc, hf, hh, hs⟩ := hb1.facts; try simp only [World.size_alloc, World.size_setCell, World.size_drew] at hs) | (go_at_call 39; refine (HLf.out _).mono ?_; rintro e w2 ⟨rfl, hb2⟩))
              have hE2 : Ext wr w2 := Ext.trans (by repeat (first | exact Ext.refl _ | assumption | refine Ext.alloc ?_ _ | refine Ext.drew ?_ | refine Ext.setCell ?_ (by first | (simp; done) | (dsimp only; omega)) _ | refine Ext.trans ?_ (by assumption))) hb2
              have hs8 : w2.heap[wr.heap.size]? = some (.cells #[.int .i64 l, .int .u64 s, .int .u64 x] 105 (0, 0)) := (hb2.block _ (by have := hb1.size; simp only [World.size_alloc] at this; omega)).trans ((hb1.block _ (by simp)).trans (alloc_same ..))
              obtain ⟨sb, hsb⟩ : ∃ sb, wr.heap.size = sb := ⟨_, rfl⟩
              rw [hsb] at hs8 ⊢
              have hsv : vb + 1 + 1 + 1 < sb := by omega
              have HE2 := Lib.hid hE2
              have HS8 := Lib.hid hs8
              clear hc hf hh hs hb1 hb2 hE2 hs8 c0 e0 e1 e2 ef s0 s1 s2 hsb
              have RR := Lib.hid ((HE2.out.block _ (heap_lt R0.out)).trans R0.out)
              have d0 := (heap_cell RR.out 0).trans rfl
              have d1 := (heap_cell RR.out 1).trans rfl
              have d2 := (heap_cell RR.out 2).trans rfl
              have dl := heap_lt RR.out
              have f2 := (heap_cell HS8.out 2).trans rfl
              have fl := heap_lt HS8.out
              go_upto_region 9 with (first | (go_at_call 40; refine (HA.out _).mono ?_; rintro e w3 ⟨rfl, hb3⟩; have RW3 := (hb3.block _ (heap_lt RR.out)).trans RR.out; have g0 := (heap_cell RW3 0).trans rfl; have g1 := (heap_cell RW3 1).trans rfl; have g2 := (heap_cell RW3 2).trans rfl; have gf := frozen_of RW3; have gl := heap_lt RW3))
              refine wp_gen ?_; intro U hU
              have hUk : Keeps [vb + 1 + 1 + 1] wr U := by
                rw [hU]
                exact Keeps.setCell (Keeps.setCell (Keeps.setCell (Keeps.of_ext (HE2.out.trans hb3)) (.inl (by simp)) _) (.inl (by simp)) _) (.inl (by simp)) _
              have hUr : U.heap[vb + 1 + 1 + 1]? = some (.cells #[.bool u0, .bool u1, .bool u2] 37 (0, 0)) := by
                rw [hU]; exact setCell_heap_same (setCell_heap_same (setCell_heap_same RW3))
              have hUo : ∀ b o, b ≠ vb + 1 + 1 + 1 → w2.heap[b]? = some o → U.heap[b]? = some o := fun b o hne hb => by
                rw [hU]
                exact (setCell_heap _ _ _ _ _ (Ne.symm hne)).trans ((setCell_heap _ _ _ _ _ (Ne.symm hne)).trans ((setCell_heap _ _ _ _ _ (Ne.symm hne)).trans ((hb3.block _ (heap_lt hb)).trans hb)))
              have hUs := hUo _ _ (by omega) HS8.out
              have hUp := hUo _ _ (by omega) ((HE2.out.block _ (heap_lt P0.out)).trans P0.out)
              have UK := Lib.hid hUk
              have UR := Lib.hid hUr
              have hPU : PscAt U pb cb F2 C' r := (PscTo.keepsAt (F := F) ⟨HP.out, HPK.out, HPf.out⟩ hUk (fun x hx => by
                simp only [List.mem_singleton] at hx
                subst hx
                exact ⟨by omega, _, _, R0.out, by decide, by decide, by decide⟩)).1
              have UP := Lib.hid hPU
              clear hU hUk hUo hPU RW3 g0 g1 g2 gf gl d0 d1 d2 dl f2 fl hb3
              have m0 := (heap_cell hUs 0).trans rfl
              have m1 := (heap_cell hUs 1).trans rfl
              have m2 := (heap_cell hUs 2).trans rfl
              have ml := heap_lt hUs
              have k0 := (heap_cell hUp 0).trans rfl
              have k1 := (heap_cell hUp 1).trans rfl
              have k2 := (heap_cell hUp 2).trans rfl
              have kl := heap_lt hUp
              have n0 := (heap_cell hUr 0).trans rfl
              have n1 := (heap_cell hUr 1).trans rfl
              have n2 := (heap_cell hUr 2).trans rfl
              have nl := heap_lt hUr
              clear hUs hUp hUr
              have hg2 : ∀ g' o', some (⟨g, o, none⟩ : Addr) = some ⟨g', o', none⟩ → g' < w.heap.size := fun g' o' e => HLT.out i hlt g' o' e
              have HG2 := Lib.hid hg2
              clear hg2
              rcases hl' with rfl | rfl | rfl
              all_goals
                simp only [pkF, Int.reduceEq, if_true, if_false, reduceIte] at HPu
                refine region_mix [.q [0, 1, 2, 3, 4, 6, 7, 9, 11, 12, 13, 14, 15], .l 5 3, .l 8 3, .b [10], .l 16 2] (by kernel_rfl) (by kernel_rfl) ?_
                (try refine ⟨fun h => absurd h (by simp), ?_⟩); (repeat (unfold wpPlan; simp only [pickL, List.map_cons, List.map_nil, List.getD_cons_succ, List.getD_cons_zero]; (repeat go_big_quiet_step (fail)); refine wpQuiet_nil ?_)); unfold wpPlan; intro w4 hb4; (try simp only [pickL, List.map_cons, List.map_nil, List.getD_cons_succ, List.getD_cons_zero])
                have HB4 := Lib.hid hb4
                clear hb4
                go_wp2_with (first | (go_at_call 30; refine (HKy.out _).mono ?_; rintro e w5 ⟨rfl, hb5⟩))
                refine ⟨fun _ => HB4.out.trans (Ext.trans (by repeat (first | exact Ext.refl _ | assumption | refine Ext.alloc ?_ _ | refine Ext.drew ?_ | refine Ext.setCell ?_ (by first | (simp; done) | (dsimp only; omega)) _ | refine Ext.trans ?_ (by assumption))) hb5), ?_⟩
                (try refine ⟨fun h => absurd h (by simp), ?_⟩); (repeat (unfold wpPlan; simp only [pickL, List.map_cons, List.map_nil, List.getD_cons_succ, List.getD_cons_zero]; (repeat go_big_quiet_step (fail)); refine wpQuiet_nil ?_)); unfold wpPlan; intro w6 hb6; (try simp only [pickL, List.map_cons, List.map_nil, List.getD_cons_succ, List.getD_cons_zero])
                have HB6 : Hid (Ext U w6) := Lib.hid ((HB4.out.trans (Ext.trans (by repeat (first | exact Ext.refl _ | assumption | refine Ext.alloc ?_ _ | refine Ext.drew ?_ | refine Ext.setCell ?_ (by first | (simp; done) | (dsimp only; omega)) _ | refine Ext.trans ?_ (by assumption))) hb5)).trans hb6)
                clear hb5
                go_wp2_with (first | (go_at_call 37; refine (HTb.out _).mono ?_; rintro e w7 ⟨rfl, hb7⟩))
                refine ⟨fun _ => hb6.trans (Ext.trans (by repeat (first | exact Ext.refl _ | assumption | refine Ext.alloc ?_ _ | refine Ext.drew ?_ | refine Ext.setCell ?_ (by first | (simp; done) | (dsimp only; omega)) _ | refine Ext.trans ?_ (by assumption))) hb7), ?_⟩
                (try refine ⟨fun h => absurd h (by simp), ?_⟩); (repeat (unfold wpPlan; simp only [pickL, List.map_cons, List.map_nil, List.getD_cons_succ, List.getD_cons_zero]; (repeat go_big_quiet_step (fail)); refine wpQuiet_nil ?_)); unfold wpPlan; intro w8 hb8; (try simp only [pickL, List.map_cons, List.map_nil, List.getD_cons_succ, List.getD_cons_zero])
                have HB8 : Hid (Ext U w8) := Lib.hid ((HB6.out.trans (Ext.trans (by repeat (first | exact Ext.refl _ | assumption | refine Ext.alloc ?_ _ | refine Ext.drew ?_ | refine Ext.setCell ?_ (by first | (simp; done) | (dsimp only; omega)) _ | refine Ext.trans ?_ (by assumption))) hb7)).trans hb8)
                clear hb6 hb7 hb8
                go_wp2_with (first | (go_at_call 41; refine (HPu.out _ (UP.out.ext (HB8.out.trans (by repeat (first | exact Ext.refl _ | assumption | refine Ext.alloc ?_ _ | refine Ext.drew ?_ | refine Ext.setCell ?_ (by first | (simp; done) | (dsimp only; omega)) _ | refine Ext.trans ?_ (by assumption)))))).mono ?_; rintro e w9 ⟨rfl, F1, q1, q2, q3⟩))
                (try refine ⟨fun h => absurd h (by simp), ?_⟩); (repeat (unfold wpPlan; simp only [pickL, List.map_cons, List.map_nil, List.getD_cons_succ, List.getD_cons_zero]; (repeat go_big_quiet_step (fail)); refine wpQuiet_nil ?_)); unfold wpPlan; intro w10 hb10; (try simp only [pickL, List.map_cons, List.map_nil, List.getD_cons_succ, List.getD_cons_zero])
                have Q1 := Lib.hid q1
                have Q2 := Lib.hid q2
                have Q3 := Lib.hid q3
                have HB10 := Lib.hid hb10
                clear q1 q2 q3 hb10
                go_wp2
                refine ⟨⟨i + 1, (u0, u1, u2), _, by omega, by go_num, Lib.hid (hR.out.step hwv HSb.out HG2.out ⟨HP.out, HPK.out, HPf.out⟩ hl.1 hl.2 UK.out UR.out (HB8.out.trans (by repeat (first | exact Ext.refl _ | assumption | refine Ext.alloc ?_ _ | refine Ext.drew ?_ | refine Ext.setCell ?_ (by first | (simp; done) | (dsimp only; omega)) _ | refine Ext.trans ?_ (by assumption)))) Q1.out Q2.out Q3.out HB10.out HC.out)⟩, by simp [intOf]; omega⟩
        · have HOf := Lib.hid (fun w => ofNo_c (some ⟨pb, 0, none⟩) l w (by omega))
          have HC : Hid (D = C') := Lib.hid (by rw [HFD.out, if_neg]; rintro ⟨h2, -⟩; exact hl h2)
          clear hl HFD
          go_wp2_with (first | (go_at_call 28; refine (HOf.out _).mono ?_; rintro e w1 ⟨rfl, hb1⟩; have ⟨hc, hf, hh, hs⟩ := hb1.facts; try simp only [World.size_alloc, World.size_setCell, World.size_drew] at hs))
          refine ⟨rfl, .tuple #[], (by simp [results, Try.results14, go_sem]), ?_⟩
          rw [← HE.out, HC.out]
          exact ⟨rfl, hR.out.psc.ext (by repeat (first | exact Ext.refl _ | assumption | refine Ext.alloc ?_ _ | refine Ext.drew ?_ | refine Ext.setCell ?_ (by first | (simp; done) | (dsimp only; omega)) _ | refine Ext.trans ?_ (by assumption)))⟩
    · obtain rfl : i = L.length := by omega
      have heq := hR.out.eq
      rw [List.drop_length] at heq
      have HQ : Hid (C' = D) := Lib.hid heq
      clear heq
      go_wp2
      refine ⟨rfl, .tuple #[], (by simp [results, Try.results14, go_sem]), ?_⟩
      rw [← HE.out, ← HQ.out]
      exact ⟨rfl, hR.out.psc.ext (by repeat (first | exact Ext.refl _ | assumption | refine Ext.alloc ?_ _ | refine Ext.drew ?_ | refine Ext.setCell ?_ (by first | (simp; done) | (dsimp only; omega)) _ | refine Ext.trans ?_ (by assumption)))⟩
end Go.Proofs.Ytkfonacokamfiaa
/- Contracts of the document's fields (dormerref01.Set, With), bit by bit. -/
namespace Go.Proofs.Ytkfonacokamfiaa
set_option linter.unusedVariables false
set_option linter.unusedSimpArgs false
open Go.RowKit
attribute [local go_sem] wext_cell wext_frozen wext_heap alloc_cell alloc_frozen alloc_heap setCell_cell objCell_cells objFrozen_cells

/-- the number of so many bits -/
def sumBits (f : Nat → Bool) : Nat → Nat
  | 0 => 0
  | j + 1 => sumBits f j + (if f j then 2 ^ j else 0)
theorem sumBits_lt (f : Nat → Bool) : ∀ n, sumBits f n < 2 ^ n
  | 0 => by simp [sumBits]
  | j + 1 => by
    have := sumBits_lt f j
    unfold sumBits
    rw [Nat.pow_succ]
    split <;> omega
theorem sumBits_testBit (f : Nat → Bool) : ∀ n i, (sumBits f n).testBit i = (decide (i < n) && f i)
  | 0, i => by simp [sumBits]
  | j + 1, i => by
    have hlt := sumBits_lt f j
    unfold sumBits
    cases hf : f j with
    | false =>
      simp only [Bool.false_eq_true, if_false, Nat.add_zero]
      rw [sumBits_testBit f j i]
      by_cases h : i = j
      · subst h; simp [hf]
      · rw [show decide (i < j + 1) = decide (i < j) by rw [decide_eq_decide]; omega]
    | true =>
      simp only [if_true]
      have e : sumBits f j + 2 ^ j = 2 ^ j ||| sumBits f j := by
        rw [nat_join j (2 ^ j) (sumBits f j) (Nat.mod_self _) hlt]; omega
      rw [e, Nat.testBit_or, sumBits_testBit f j i, Nat.testBit_two_pow]
      by_cases h : j = i
      · subst h; simp [hf]
      · rw [show decide (i < j + 1) = decide (i < j) by rw [decide_eq_decide]; omega]
        simp [h]
theorem sumBits_eq {x n : Nat} (h : x < 2 ^ n) : sumBits x.testBit n = x := by
  apply Nat.eq_of_testBit_eq
  intro i
  rw [sumBits_testBit]
  by_cases hi : i < n
  · simp [hi]
  · rw [Nat.testBit_lt_two_pow (Nat.lt_of_lt_of_le h (Nat.pow_le_pow_right (by omega) (by omega)))]; simp
theorem sumBits_congr {f g : Nat → Bool} {n : Nat} (h : ∀ i, i < n → f i = g i) : sumBits f n = sumBits g n := by
  apply Nat.eq_of_testBit_eq
  intro i
  rw [sumBits_testBit, sumBits_testBit]
  by_cases hi : i < n
  · rw [h i hi]
  · simp [hi]
theorem bitB_testBit (x i : Nat) : bitB (x : Int) (i : Int) = x.testBit i := by
  rw [Nat.testBit_eq_decide_div_mod_eq]
  unfold bitB pow2
  rw [Int.toNat_natCast, Bool.eq_iff_iff]
  simp only [beq_iff_eq, decide_eq_true_eq]
  have e : ((x : Int) / ((2 ^ i : Nat) : Int) % 2) = ((x / 2 ^ i % 2 : Nat) : Int) := by simp
  rw [e]
  omega

/-- a word with a field set -/
def setBits (x lo n v : Nat) : Nat → Bool := fun i => if lo ≤ i ∧ i < lo + n then v.testBit (i - lo) else x.testBit i

theorem refIs_c (lo n : Int) (w : World) (h0 : 0 ≤ lo) (h1 : 1 ≤ n) (h2 : lo ≤ 64) (h3 : n ≤ 64 - lo) :
    Calls Try.prog 74 #[.int .i64 lo, .int .i64 n] w fun e w' => e = .returned (.bool true) ∧ Ext w w' := by
  go_enter Try.func74, Try.ntmps74
  go_wp2
  go_ret
  exact ⟨rfl, Ext.refl _⟩

/-- a word with a bit set -/
def withN (x i : Nat) (b : Bool) : Nat := sumBits (fun k => if k = i then b else x.testBit k) 64
end Go.Proofs.Ytkfonacokamfiaa
/- Rights and steps compared; words in rows. -/
namespace Go.Proofs.Ytkfonacokamfiaa
set_option linter.unusedVariables false
set_option linter.unusedSimpArgs false
open Go.RowKit
attribute [local go_sem] wext_cell wext_frozen wext_heap alloc_cell alloc_frozen alloc_heap setCell_cell objCell_cells objFrozen_cells

def rtB (x y : Rt) : Bool := decide (x = y)
theorem rt_equal (x y : Rt) (w : World) : (Op.equal 37 (.agg #[.bool x.1, .bool x.2.1, .bool x.2.2]) (.agg #[.bool y.1, .bool y.2.1, .bool y.2.2])).run Try.prog w = .ok (decide (x = y)) w := by
  show (Op.equalIn 10000 _ _ _).run _ _ = _
  obtain ⟨p, l, t⟩ := x
  obtain ⟨p', l', t'⟩ := y
  simp [go_sem]
  by_cases h1 : p = p' <;> by_cases h2 : l = l' <;> by_cases h3 : t = t' <;> simp [*]
theorem rt_eql (p l t p' l' t' : Bool) (w : World) : (binOp .eql 37 (.agg #[.bool p, .bool l, .bool t]) (.agg #[.bool p', .bool l', .bool t'])).run Try.prog w = .ok (.bool (rtB (p, l, t) (p', l', t'))) w := by
  have := rt_equal (p, l, t) (p', l', t') w
  rw [run_eql_struct]
  show ((Op.equal _ _ _).run _ _).andThen _ = _
  rw [this]; rfl
theorem rt_neq (p l t p' l' t' : Bool) (w : World) : (binOp .neq 37 (.agg #[.bool p, .bool l, .bool t]) (.agg #[.bool p', .bool l', .bool t'])).run Try.prog w = .ok (.bool (!rtB (p, l, t) (p', l', t'))) w := by
  have := rt_equal (p, l, t) (p', l', t') w
  rw [run_neq_struct]
  show ((Op.equal _ _ _).run _ _).andThen _ = _
  rw [this]; rfl
theorem rtB_self (r : Rt) : rtB r r = true := by simp [rtB]
theorem Owns.word {U : World} {sa : Option Addr} {n sc : Nat} {xs : List Int} (h : Owns U 34 1 (.slice sa n sc) n (xs.map (.int .u64 ·))) {i : Nat} (hi : i < n) (hn : n = n) :
    ∃ g, sa = some ⟨g, 0, none⟩ ∧ g < U.heap.size ∧ U.cell? ⟨g, i, none⟩ = some (.int .u64 (xs.getD i 0)) := by
  obtain ⟨g, hg⟩ : ∃ g, sa = some ⟨g, 0, none⟩ := by
    rcases h.2 with ⟨h1, h0⟩ | ⟨g, _, _, he, _⟩
    · omega
    · exact ⟨g, by injection he⟩
  subst hg
  have hl : xs.length = n := by have := h.1; simpa using this
  exact ⟨g, rfl, h.lt g rfl, h.cells (g := g) rfl i _ (by simp [List.getD, hl, hi])⟩
theorem bit0 (x : Int) : bitB x 0 = (x % 2 == 1) := by unfold bitB; rw [show pow2 0 = 1 from rfl, Int.ediv_one]

def stB (x y : Stp) : Bool := decide (x = y)
theorem st_equal (x y : Stp) (w : World) : (Op.equal 105 (.agg #[.int .i64 x.1, .int .u64 x.2.1, .int .u64 x.2.2]) (.agg #[.int .i64 y.1, .int .u64 y.2.1, .int .u64 y.2.2])).run Try.prog w = .ok (decide (x = y)) w := by
  show (Op.equalIn 10000 _ _ _).run _ _ = _
  obtain ⟨p, l, t⟩ := x
  obtain ⟨p', l', t'⟩ := y
  simp [go_sem]
  by_cases h1 : p = p' <;> by_cases h2 : l = l' <;> by_cases h3 : t = t' <;> simp [*]
theorem st_eql (p l t p' l' t' : Int) (w : World) : (binOp .eql 105 (.agg #[.int .i64 p, .int .u64 l, .int .u64 t]) (.agg #[.int .i64 p', .int .u64 l', .int .u64 t'])).run Try.prog w = .ok (.bool (stB (p, l, t) (p', l', t'))) w := by
  have := st_equal (p, l, t) (p', l', t') w
  rw [run_eql_struct]
  show ((Op.equal _ _ _).run _ _).andThen _ = _
  rw [this]; rfl
theorem st_neq (p l t p' l' t' : Int) (w : World) : (binOp .neq 105 (.agg #[.int .i64 p, .int .u64 l, .int .u64 t]) (.agg #[.int .i64 p', .int .u64 l', .int .u64 t'])).run Try.prog w = .ok (.bool (!stB (p, l, t) (p', l', t'))) w := by
  have := st_equal (p, l, t) (p', l', t') w
  rw [run_neq_struct]
  show ((Op.equal _ _ _).run _ _).andThen _ = _
  rw [this]; rfl
theorem stB_self (s : Stp) : stB s s = true := by simp [stB]
theorem Owns.store7 {U : World} {e : TypeId} {k : Nat} {v : Value} {n : Nat} {xs : List Value} (h : Owns U e k v n xs) {qb : Nat} {c : Array Value} {e' : TypeId} (hq : U.heap[qb]? = some (.cells c e' (0, 0))) (hne : e ≠ e') {v0 v1 v2 v3 v4 v5 v6 : Value} :
    Owns (((((((U.setCell ⟨qb, 0, none⟩ v0).setCell ⟨qb, 1, none⟩ v1).setCell ⟨qb, 2, none⟩ v2).setCell ⟨qb, 3, none⟩ v3).setCell ⟨qb, 4, none⟩ v4).setCell ⟨qb, 5, none⟩ v5).setCell ⟨qb, 6, none⟩ v6) e k v n xs :=
  h.keep fun g hg => by
    obtain ⟨c', hc⟩ := h.heap g hg
    exact store7_other (fun e => by rw [← e, hq] at hc; simp only [Option.some.injEq, Obj.cells.injEq] at hc; exact hne hc.2.1.symm)
theorem PathAt.store7 {U : World} {b : Nat} {sa : Option Addr} {sc : Nat} {q : List Stp × WRes} (h : PathAt U b sa sc q) {qb : Nat} {c : Array Value} (hq : U.heap[qb]? = some (.cells c 39 (0, 0))) (hne : qb ≠ b) {v0 v1 v2 v3 v4 v5 v6 : Value} :
    PathAt (((((((U.setCell ⟨qb, 0, none⟩ v0).setCell ⟨qb, 1, none⟩ v1).setCell ⟨qb, 2, none⟩ v2).setCell ⟨qb, 3, none⟩ v3).setCell ⟨qb, 4, none⟩ v4).setCell ⟨qb, 5, none⟩ v5).setCell ⟨qb, 6, none⟩ v6) b sa sc q :=
  ⟨(store7_other hne).trans h.1, h.2.store7 hq (by decide)⟩
end Go.Proofs.Ytkfonacokamfiaa
