/- Same: are two paths the same, but for flags? -/
import Derived.Test.YtkoohedbbdgjjaaRMark
import Derived.Test.YtkoohedbbdgjjaaRRt
namespace Go.Proofs.YtkoohedbbdgjjaaR
set_option linter.unusedVariables false
set_option linter.unusedSimpArgs false
open Go.RowKit
attribute [local go_sem] wext_cell wext_frozen wext_heap alloc_cell alloc_frozen alloc_heap setCell_cell objCell_cells objFrozen_cells
attribute [local go_sem high] rt_eql rt_neq st_eql st_neq

def eqvB (a b : Stp) : Bool := stB (a.1, a.2.1, orD a.2.2) (b.1, b.2.1, orD b.2.2)
def eqvSB : List Stp → List Stp → Bool
  | [], _ => true
  | _, [] => true
  | a :: L, b :: K => eqvB a b && eqvSB L K
def sameP (p q : List Stp × WRes) : Bool :=
  p.2.1 == q.2.1 && rtB (p.2.2.1.1, p.2.2.1.2.1, p.2.2.1.2.2) (q.2.2.1.1, q.2.2.1.2.1, q.2.2.1.2.2) && p.2.2.2.1 == q.2.2.2.1 && p.2.2.2.2 == q.2.2.2.2 && p.1.length == q.1.length && eqvSB p.1 q.1
theorem eqvSB_drop (L K : List Stp) (j : Nat) (hl : j < L.length) (hk : j < K.length) : eqvSB (L.drop j) (K.drop j) = (eqvB (stpAt L j) (stpAt K j) && eqvSB (L.drop (j + 1)) (K.drop (j + 1))) := by
  have e : ∀ L : List Stp, j < L.length → L.drop j = stpAt L j :: L.drop (j + 1) := fun L h => by
    rw [List.drop_eq_getElem_cons h]
    congr 1
    simp [stpAt, List.getD, h]
  rw [e L hl, e K hk]; rfl
theorem same_of {L K : List Stp} {r : WRes} (h : eqvS L K) : sameP (L, r) (K, r) = true := by
  have hl := eqvS_length h
  have : ∀ {L K : List Stp}, eqvS L K → eqvSB L K = true := by
    intro L
    induction L with
    | nil => intros; rfl
    | cons a L ih =>
      intro K h
      cases K with
      | nil => rfl
      | cons b K =>
        obtain ⟨h1, h2, h3, h4⟩ := h
        have : eqvB a b = true := by unfold eqvB stB; simp [h1, h2, eqv_or.2 h3]
        simp [eqvSB, this, ih h4]
  simp [sameP, this h, hl, rtB]
theorem same_true {p q : List Stp × WRes} (h : sameP p q = true) : p.2 = q.2 := by
  unfold sameP rtB at h
  simp only [Bool.and_eq_true, beq_iff_eq, decide_eq_true_eq, Prod.mk.injEq] at h
  obtain ⟨L, w, ⟨a, b, c⟩, l, f⟩ := p
  obtain ⟨K, w', ⟨a', b', c'⟩, l', f'⟩ := q
  simp_all

set_option maxHeartbeats 4000000 in
set_option maxRecDepth 100000 in
theorem same_c (L1 L2 : List Stp) (w1 w2 : Int) (a1 b1 c1 a2 b2 c2 : Bool) (l1 l2 f1 f2 : Int) (sa1 sa2 : Option Addr) (sc1 sc2 : Nat) (U : World) (hS1 : StepsAt U sa1 L1) (hS2 : StepsAt U sa2 L2) (hL1 : L1.length ≤ 5864062014634) (hL2 : L2.length ≤ 5864062014634)
    (hw1 : ∀ i, i < L1.length → 0 ≤ (stpAt L1 i).2.2 ∧ (stpAt L1 i).2.2 ≤ 18446744073709551615) (hw2 : ∀ i, i < L2.length → 0 ≤ (stpAt L2 i).2.2 ∧ (stpAt L2 i).2.2 ≤ 18446744073709551615) :
    Calls Try.prog 34 #[.agg #[.slice sa1 L1.length sc1, .int .i64 w1, .bool a1, .bool b1, .bool c1, .int .i64 l1, .int .u64 f1], .agg #[.slice sa2 L2.length sc2, .int .i64 w2, .bool a2, .bool b2, .bool c2, .int .i64 l2, .int .u64 f2]] U
      fun e V => e = .returned (.bool (sameP (L1, w1, (a1, b1, c1), l1, f1) (L2, w2, (a2, b2, c2), l2, f2))) ∧ Ext U V := by
  have S1 := Lib.hid hS1
  have S2 := Lib.hid hS2
  have W1 := Lib.hid hw1
  have W2 := Lib.hid hw2
  obtain ⟨b, hb⟩ : ∃ b, sameP (L1, w1, (a1, b1, c1), l1, f1) (L2, w2, (a2, b2, c2), l2, f2) = b := ⟨_, rfl⟩
  rw [hb]
  have HB := Lib.hid hb
  clear hS1 hS2 hw1 hw2 hb
  by_cases q1 : w1 = w2
  case neg =>
    have e1 : (w1 != w2) = true := by simpa using q1
    have : b = false := by rw [← HB.out]; simp [sameP, q1]
    subst this
    clear q1
    go_enter Try.func34, Try.ntmps34
    go_wp2
    go_ret
    exact ⟨rfl, (by repeat (first | exact Ext.refl _ | assumption | refine Ext.alloc ?_ _ | refine Ext.drew ?_ | refine Ext.setCell ?_ (by first | (simp; done) | (dsimp only; omega)) _ | refine Ext.trans ?_ (by assumption)))⟩
  have e1 : (w1 != w2) = false := by simpa using q1
  cases q2 : rtB (a1, b1, c1) (a2, b2, c2)
  case false =>
    have : b = false := by rw [← HB.out]; simp [sameP, q2]
    subst this
    clear q1
    go_enter Try.func34, Try.ntmps34
    go_wp2
    go_ret
    exact ⟨rfl, (by repeat (first | exact Ext.refl _ | assumption | refine Ext.alloc ?_ _ | refine Ext.drew ?_ | refine Ext.setCell ?_ (by first | (simp; done) | (dsimp only; omega)) _ | refine Ext.trans ?_ (by assumption)))⟩
  by_cases q3 : l1 = l2
  case neg =>
    have e3 : (l1 != l2) = true := by simpa using q3
    have : b = false := by rw [← HB.out]; simp [sameP, q3]
    subst this
    clear q1 q3
    go_enter Try.func34, Try.ntmps34
    go_wp2
    go_ret
    exact ⟨rfl, (by repeat (first | exact Ext.refl _ | assumption | refine Ext.alloc ?_ _ | refine Ext.drew ?_ | refine Ext.setCell ?_ (by first | (simp; done) | (dsimp only; omega)) _ | refine Ext.trans ?_ (by assumption)))⟩
  have e3 : (l1 != l2) = false := by simpa using q3
  by_cases q4 : f1 = f2
  case neg =>
    have e4 : (f1 != f2) = true := by simpa using q4
    have : b = false := by rw [← HB.out]; simp [sameP, q4]
    subst this
    clear q1 q3 q4
    go_enter Try.func34, Try.ntmps34
    go_wp2
    go_ret
    exact ⟨rfl, (by repeat (first | exact Ext.refl _ | assumption | refine Ext.alloc ?_ _ | refine Ext.drew ?_ | refine Ext.setCell ?_ (by first | (simp; done) | (dsimp only; omega)) _ | refine Ext.trans ?_ (by assumption)))⟩
  have e4 : (f1 != f2) = false := by simpa using q4
  by_cases q5 : L1.length = L2.length
  case neg =>
    have e5 : ((L1.length : Int) != (L2.length : Int)) = true := by rw [bne_iff_ne]; omega
    have : b = false := by rw [← HB.out]; simp [sameP, q5]
    subst this
    clear q1 q3 q4 q5
    go_enter Try.func34, Try.ntmps34
    go_wp2
    go_ret
    exact ⟨rfl, (by repeat (first | exact Ext.refl _ | assumption | refine Ext.alloc ?_ _ | refine Ext.drew ?_ | refine Ext.setCell ?_ (by first | (simp; done) | (dsimp only; omega)) _ | refine Ext.trans ?_ (by assumption)))⟩
  have e5 : ((L1.length : Int) != (L2.length : Int)) = false := by rw [q5]; simp
  have HL : Hid (b = eqvSB L1 L2) := Lib.hid (by rw [← HB.out]; simp [sameP, q1, q2, q3, q4, q5])
  have HQ5 := Lib.hid q5
  clear q1 q3 q4 q5
  generalize hE : (fun (e : Ending) (V : World) => e = .returned (.bool b) ∧ Ext U V) = E
  have HE := Lib.hid hE
  clear hE
  go_enter Try.func34, Try.ntmps34
  go_upto_region 3 with (fail)
  refine wp_gen ?_; intro V hV
  have hVE : Ext U V := by rw [hV]; exact (by repeat (first | exact Ext.refl _ | assumption | refine Ext.alloc ?_ _ | refine Ext.drew ?_ | refine Ext.setCell ?_ (by first | (simp; done) | (dsimp only; omega)) _ | refine Ext.trans ?_ (by assumption)))
  have hV1 : V.heap[U.heap.size]? = some (.cells #[.slice sa1 L1.length sc1, .int .i64 w1, .bool a1, .bool b1, .bool c1, .int .i64 l1, .int .u64 f1] 33 (0, 0)) := by rw [hV]; exact (alloc_other _ _ (by simp)).trans (alloc_same ..)
  have hV2 : V.heap[U.heap.size + 1]? = some (.cells #[.slice sa2 L2.length sc2, .int .i64 w2, .bool a2, .bool b2, .bool c2, .int .i64 l2, .int .u64 f2] 33 (0, 0)) := by rw [hV]; exact alloc_same1 ..
  have VE := Lib.hid hVE
  have V1 := Lib.hid hV1
  have V2 := Lib.hid hV2
  have y0 := (heap_cell hV1 0).trans rfl
  have hvl := heap_lt hV2
  clear hV hVE hV1 hV2 e1 e3 e4 e5 q2
  go_wp2
  clear y0
  go_loopw [46] (fun i wr => ∃ (j : Nat), j ≤ L1.length ∧ i = .int .i64 j ∧ Hid (Ext V wr ∧ b = eqvSB (L1.drop j) (L2.drop j))) (fun i _ => L1.length - (intOf i).toNat)
  case atStart => exact ⟨0, by omega, rfl, Lib.hid ⟨Ext.refl _, by simpa using HL.out⟩⟩
  case round =>
    obtain ⟨j, hj, rfl, hR⟩ := hrel
    by_cases hlt : j < L1.length
    · have hlt2 : j < L2.length := by rw [← HQ5.out]; exact hlt
      obtain ⟨g1, o1, rfl, hg1, s0, s1, s2⟩ := ((S1.out.ext VE.out).ext hR.out.1) j hlt
      obtain ⟨g2, o2, rfl, hg2, t0, t1, t2⟩ := ((S2.out.ext VE.out).ext hR.out.1) j hlt2
      obtain ⟨m0, m1⟩ := W1.out j hlt
      obtain ⟨n0, n1⟩ := W2.out j hlt2
      have hst := eqvSB_drop L1 L2 j hlt hlt2
      generalize stpAt L1 j = x at s0 s1 s2 m0 m1 hst
      generalize stpAt L2 j = y at t0 t1 t2 n0 n1 hst
      obtain ⟨xl, xa, xw⟩ := x
      obtain ⟨yl, ya, yw⟩ := y
      dsimp only at s0 s1 s2 t0 t1 t2 m0 m1 n0 n1 hst
      have ho1 := or96 m0 m1
      have ho2 := or96 n0 n1
      have c1' := (heap_cell ((hR.out.1.block _ hvl).trans V2.out) 0).trans rfl
      have hvl' := Nat.lt_of_lt_of_le hvl hR.out.1.size
      have HST := Lib.hid hst
      clear hst
      cases hb : stB (xl, xa, orD xw) (yl, ya, orD yw)
      · have HBF : Hid (b = false) := Lib.hid (by rw [hR.out.2, HST.out]; simp [eqvB, hb])
        go_wp2
        all_goals
          (try go_ret)
          rw [← HE.out]
          exact ⟨by rw [HBF.out]; rfl, (VE.out.trans hR.out.1).trans (by repeat (first | exact Ext.refl _ | assumption | refine Ext.alloc ?_ _ | refine Ext.drew ?_ | refine Ext.setCell ?_ (by first | (simp; done) | (dsimp only; omega)) _ | refine Ext.trans ?_ (by assumption)))⟩
      · have HBT : Hid (b = eqvSB (L1.drop (j + 1)) (L2.drop (j + 1))) := Lib.hid (by rw [hR.out.2, HST.out]; simp [eqvB, hb])
        go_wp2
        refine ⟨⟨j + 1, by omega, by go_num, Lib.hid ⟨hR.out.1.trans (by repeat (first | exact Ext.refl _ | assumption | refine Ext.alloc ?_ _ | refine Ext.drew ?_ | refine Ext.setCell ?_ (by first | (simp; done) | (dsimp only; omega)) _ | refine Ext.trans ?_ (by assumption))), HBT.out⟩⟩, by simp [intOf]; omega⟩
    · obtain rfl : j = L1.length := by omega
      have HBT : Hid (b = true) := Lib.hid (by rw [hR.out.2, List.drop_of_length_le (Nat.le_refl _)]; rfl)
      go_wp2
      all_goals
        (try go_ret)
        rw [← HE.out]
        exact ⟨by rw [HBT.out]; rfl, (VE.out.trans hR.out.1).trans (by repeat (first | exact Ext.refl _ | assumption | refine Ext.alloc ?_ _ | refine Ext.drew ?_ | refine Ext.setCell ?_ (by first | (simp; done) | (dsimp only; omega)) _ | refine Ext.trans ?_ (by assumption)))⟩
end Go.Proofs.YtkoohedbbdgjjaaR
