/- The document's Same. -/
import Derived.Test.YtkoohedbbdgjjaaRRefE
import Derived.Test.YtkoohedbbdgjjaaRMix
namespace Go.Proofs.YtkoohedbbdgjjaaR
set_option linter.unusedVariables false
set_option linter.unusedSimpArgs false
open Go.RowKit
attribute [local go_sem] wext_cell wext_frozen wext_heap alloc_cell alloc_frozen alloc_heap setCell_cell objCell_cells objFrozen_cells
theorem rrt_equal (x y : Rt) (w : World) : (Op.equal 52 (.agg #[.bool x.1, .bool x.2.1, .bool x.2.2]) (.agg #[.bool y.1, .bool y.2.1, .bool y.2.2])).run Try.prog w = .ok (decide (x = y)) w := by
  show (Op.equalIn 10000 _ _ _).run _ _ = _
  obtain ⟨p, l, t⟩ := x
  obtain ⟨p', l', t'⟩ := y
  simp [go_sem]
  by_cases h1 : p = p' <;> by_cases h2 : l = l' <;> by_cases h3 : t = t' <;> simp [*]
theorem rrt_eql (p l t p' l' t' : Bool) (w : World) : (binOp .eql 52 (.agg #[.bool p, .bool l, .bool t]) (.agg #[.bool p', .bool l', .bool t'])).run Try.prog w = .ok (.bool (rtB (p, l, t) (p', l', t'))) w := by
  have := rrt_equal (p, l, t) (p', l', t') w
  rw [run_eql_struct]
  show ((Op.equal _ _ _).run _ _).andThen _ = _
  rw [this]; rfl
theorem rrt_neq (p l t p' l' t' : Bool) (w : World) : (binOp .neq 52 (.agg #[.bool p, .bool l, .bool t]) (.agg #[.bool p', .bool l', .bool t'])).run Try.prog w = .ok (.bool (!rtB (p, l, t) (p', l', t'))) w := by
  have := rrt_equal (p, l, t) (p', l', t') w
  rw [run_neq_struct]
  show ((Op.equal _ _ _).run _ _).andThen _ = _
  rw [this]; rfl
attribute [local go_sem high] rrt_eql rrt_neq
set_option maxHeartbeats 4000000 in
set_option maxRecDepth 100000 in
theorem refSame_c (L1 L2 : List Stp) (w1 w2 : Int) (a1 b1 c1 a2 b2 c2 : Bool) (l1 l2 f1 f2 : Int) (sa1 sa2 : Option Addr) (sc1 sc2 : Nat) (U : World) (hS1 : StepsAt U sa1 L1) (hS2 : StepsAt U sa2 L2) (hL1 : L1.length ≤ 5864062014634) (hL2 : L2.length ≤ 5864062014634)
    (hw1 : ∀ i, i < L1.length → 0 ≤ (stpAt L1 i).2.2 ∧ (stpAt L1 i).2.2 ≤ 18446744073709551615) (hw2 : ∀ i, i < L2.length → 0 ≤ (stpAt L2 i).2.2 ∧ (stpAt L2 i).2.2 ≤ 18446744073709551615) :
    Calls Try.prog 35 #[.agg #[.slice sa1 L1.length sc1, .int .i64 w1, .bool a1, .bool b1, .bool c1, .int .i64 l1, .int .u64 f1], .agg #[.slice sa2 L2.length sc2, .int .i64 w2, .bool a2, .bool b2, .bool c2, .int .i64 l2, .int .u64 f2]] U
      fun e V => e = .returned (.bool (sameP (L1, w1, (a1, b1, c1), l1, f1) (L2, w2, (a2, b2, c2), l2, f2))) ∧ Ext U V := by
  have S1 := Lib.hid hS1
  have S2 := Lib.hid hS2
  have W1 := Lib.hid hw1
  have W2 := Lib.hid hw2
  obtain ⟨b, hb⟩ : ∃ b, sameP (L1, w1, (a1, b1, c1), l1, f1) (L2, w2, (a2, b2, c2), l2, f2) = b := ⟨_, rfl⟩
  rw [hb]
  have HB := Lib.hid hb
  clear hS1 hS2 hw1 hw2 hb
  by_cases q1 : w1 = w2
  case neg =>
    have e1 : (w1 != w2) = true := by simpa using q1
    have : b = false := by rw [← HB.out]; simp [sameP, q1]
    subst this
    clear q1
    go_enter Try.func35, Try.ntmps35
    go_wp2
    go_ret
    exact ⟨rfl, (by repeat (first | exact Ext.refl _ | assumption | refine Ext.alloc ?_ _ | refine Ext.drew ?_ | refine Ext.setCell ?_ (by first | (simp; done) | (dsimp only; omega)) _ | refine Ext.trans ?_ (by assumption)))⟩
  have e1 : (w1 != w2) = false := by simpa using q1
  cases q2 : rtB (a1, b1, c1) (a2, b2, c2)
  case false =>
    have : b = false := by rw [← HB.out]; simp [sameP, q2]
    subst this
    clear q1
    go_enter Try.func35, Try.ntmps35
    go_wp2
    go_ret
    exact ⟨rfl, (by repeat (first | exact Ext.refl _ | assumption | refine Ext.alloc ?_ _ | refine Ext.drew ?_ | refine Ext.setCell ?_ (by first | (simp; done) | (dsimp only; omega)) _ | refine Ext.trans ?_ (by assumption)))⟩
  by_cases q3 : l1 = l2
  case neg =>
    have e3 : (l1 != l2) = true := by simpa using q3
    have : b = false := by rw [← HB.out]; simp [sameP, q3]
    subst this
    clear q1 q3
    go_enter Try.func35, Try.ntmps35
    go_wp2
    go_ret
    exact ⟨rfl, (by repeat (first | exact Ext.refl _ | assumption | refine Ext.alloc ?_ _ | refine Ext.drew ?_ | refine Ext.setCell ?_ (by first | (simp; done) | (dsimp only; omega)) _ | refine Ext.trans ?_ (by assumption)))⟩
  have e3 : (l1 != l2) = false := by simpa using q3
  by_cases q4 : f1 = f2
  case neg =>
    have e4 : (f1 != f2) = true := by simpa using q4
    have : b = false := by rw [← HB.out]; simp [sameP, q4]
    subst this
    clear q1 q3 q4
    go_enter Try.func35, Try.ntmps35
    go_wp2
    go_ret
    exact ⟨rfl, (by repeat (first | exact Ext.refl _ | assumption | refine Ext.alloc ?_ _ | refine Ext.drew ?_ | refine Ext.setCell ?_ (by first | (simp; done) | (dsimp only; omega)) _ | refine Ext.trans ?_ (by assumption)))⟩
  have e4 : (f1 != f2) = false := by simpa using q4
  by_cases q5 : L1.length = L2.length
  case neg =>
    have e5 : ((L1.length : Int) != (L2.length : Int)) = true := by rw [bne_iff_ne]; omega
    have : b = false := by rw [← HB.out]; simp [sameP, q5]
    subst this
    clear q1 q3 q4 q5
    go_enter Try.func35, Try.ntmps35
    go_wp2
    go_ret
    exact ⟨rfl, (by repeat (first | exact Ext.refl _ | assumption | refine Ext.alloc ?_ _ | refine Ext.drew ?_ | refine Ext.setCell ?_ (by first | (simp; done) | (dsimp only; omega)) _ | refine Ext.trans ?_ (by assumption)))⟩
  have e5 : ((L1.length : Int) != (L2.length : Int)) = false := by rw [q5]; simp
  have HL : Hid (b = eqvSB L1 L2) := Lib.hid (by rw [← HB.out]; simp [sameP, q1, q2, q3, q4, q5])
  have HQ5 := Lib.hid q5
  clear q1 q3 q4 q5
  generalize hE : (fun (e : Ending) (V : World) => e = .returned (.bool b) ∧ Ext U V) = E
  have HE := Lib.hid hE
  clear hE
  go_enter Try.func35, Try.ntmps35
  go_upto_region 3 with (fail)
  refine wp_gen ?_; intro V hV
  have hVE : Ext U V := by rw [hV]; exact (by repeat (first | exact Ext.refl _ | assumption | refine Ext.alloc ?_ _ | refine Ext.drew ?_ | refine Ext.setCell ?_ (by first | (simp; done) | (dsimp only; omega)) _ | refine Ext.trans ?_ (by assumption)))
  have hV1 : V.heap[U.heap.size]? = some (.cells #[.slice sa1 L1.length sc1, .int .i64 w1, .bool a1, .bool b1, .bool c1, .int .i64 l1, .int .u64 f1] 54 (0, 0)) := by rw [hV]; exact (alloc_other _ _ (by simp)).trans (alloc_same ..)
  have hV2 : V.heap[U.heap.size + 1]? = some (.cells #[.slice sa2 L2.length sc2, .int .i64 w2, .bool a2, .bool b2, .bool c2, .int .i64 l2, .int .u64 f2] 54 (0, 0)) := by rw [hV]; exact alloc_same1 ..
  have VE := Lib.hid hVE
  have V1 := Lib.hid hV1
  have V2 := Lib.hid hV2
  have y0 := (heap_cell hV1 0).trans rfl
  have hvl := heap_lt hV2
  have hvl1 := heap_lt hV1
  clear hV hVE hV1 hV2 e1 e3 e4 e5 q2
  go_wp2
  clear y0
  go_loopw [5] (fun i wr => ∃ (j : Nat), j ≤ L1.length ∧ i = .int .i64 j ∧ Hid (Ext V wr ∧ b = eqvSB (L1.drop j) (L2.drop j))) (fun i _ => L1.length - (intOf i).toNat)
  case atStart => exact ⟨0, by omega, rfl, Lib.hid ⟨Ext.refl _, by simpa using HL.out⟩⟩
  case round =>
    obtain ⟨j, hj, rfl, hR⟩ := hrel
    have d1 := (heap_cell ((hR.out.1.block _ hvl1).trans V1.out) 0).trans rfl
    have d2 := (heap_cell ((hR.out.1.block _ hvl).trans V2.out) 0).trans rfl
    have hvr := Nat.lt_of_lt_of_le hvl hR.out.1.size
    have hvr1 := Nat.lt_of_lt_of_le hvl1 hR.out.1.size
    by_cases hlt : j < L1.length
    · have hlt2 : j < L2.length := by rw [← HQ5.out]; exact hlt
      obtain ⟨g1, o1, rfl, hg1, s0, s1, s2⟩ := ((S1.out.ext VE.out).ext hR.out.1) j hlt
      obtain ⟨g2, o2, rfl, hg2, t0, t1, t2⟩ := ((S2.out.ext VE.out).ext hR.out.1) j hlt2
      obtain ⟨m0, m1⟩ := W1.out j hlt
      obtain ⟨n0, n1⟩ := W2.out j hlt2
      have hst := eqvSB_drop L1 L2 j hlt hlt2
      generalize stpAt L1 j = x at s0 s1 s2 m0 m1 hst
      generalize stpAt L2 j = y at t0 t1 t2 n0 n1 hst
      obtain ⟨xl, xa, xw⟩ := x
      obtain ⟨yl, ya, yw⟩ := y
      dsimp only at s0 s1 s2 t0 t1 t2 m0 m1 n0 n1 hst
      have ho1 := or96 m0 m1
      have ho2 := or96 n0 n1
      have HST := Lib.hid hst
      have HO := Lib.hid (bareI_ne m0 m1 n0 n1)
      clear hst ho1 ho2
      by_cases z1 : xl = yl
      case neg =>
        have e1 : (xl != yl) = true := by simpa using z1
        have HBF : Hid (b = false) := Lib.hid (by rw [hR.out.2, HST.out]; simp [eqvB, stB, z1])
        clear z1
        go_upto_region 8 with (fail)
        refine region_ext (by kernel_rfl) (by kernel_rfl) ?_; (repeat (go_big_quiet_step (fail))); refine wpQuiet_nil ?_; intro w1 hb; have ⟨hc, hf, hh, hs⟩ := hb.facts; try simp only [World.size_alloc, World.size_setCell, World.size_drew] at hs
        go_wp2
        all_goals
          (try go_ret)
          rw [← HE.out]
          exact ⟨by rw [HBF.out]; rfl, (VE.out.trans hR.out.1).trans (by repeat (first | exact Ext.refl _ | assumption | refine Ext.alloc ?_ _ | refine Ext.drew ?_ | refine Ext.setCell ?_ (by first | (simp; done) | (dsimp only; omega)) _ | refine Ext.trans ?_ (by assumption)))⟩
      have e1 : (xl != yl) = false := by simpa using z1
      by_cases z2 : xa = ya
      case neg =>
        have e2 : (xa != ya) = true := by simpa using z2
        have HBF : Hid (b = false) := Lib.hid (by rw [hR.out.2, HST.out]; simp [eqvB, stB, z2])
        clear z1 z2
        go_upto_region 8 with (fail)
        refine region_ext (by kernel_rfl) (by kernel_rfl) ?_; (repeat (go_big_quiet_step (fail))); refine wpQuiet_nil ?_; intro w1 hb; have ⟨hc, hf, hh, hs⟩ := hb.facts; try simp only [World.size_alloc, World.size_setCell, World.size_drew] at hs
        go_wp2
        all_goals
          (try go_ret)
          rw [← HE.out]
          exact ⟨by rw [HBF.out]; rfl, (VE.out.trans hR.out.1).trans (by repeat (first | exact Ext.refl _ | assumption | refine Ext.alloc ?_ _ | refine Ext.drew ?_ | refine Ext.setCell ?_ (by first | (simp; done) | (dsimp only; omega)) _ | refine Ext.trans ?_ (by assumption)))⟩
      have e2 : (xa != ya) = false := by simpa using z2
      cases z3 : bareI xw != bareI yw
      · have HBT : Hid (b = eqvSB (L1.drop (j + 1)) (L2.drop (j + 1))) := Lib.hid (by
          rw [hR.out.2, HST.out]
          have h9 := HO.out
          rw [z3] at h9
          have h8 : orD xw = orD yw := by simpa using h9
          simp [eqvB, stB, z1, z2, h8])
        clear z1 z2
        go_upto_region 8 with (fail)
        refine region_ext (by kernel_rfl) (by kernel_rfl) ?_; (repeat (go_big_quiet_step ((go_at_call 88; exact calls_wext (refBare_c _ _ (by assumption) (by assumption)))))); refine wpQuiet_nil ?_; intro w1 hb; have ⟨hc, hf, hh, hs⟩ := hb.facts; try simp only [World.size_alloc, World.size_setCell, World.size_drew] at hs
        go_wp2
        refine ⟨⟨j + 1, by omega, by go_num, Lib.hid ⟨hR.out.1.trans (by repeat (first | exact Ext.refl _ | assumption | refine Ext.alloc ?_ _ | refine Ext.drew ?_ | refine Ext.setCell ?_ (by first | (simp; done) | (dsimp only; omega)) _ | refine Ext.trans ?_ (by assumption))), HBT.out⟩⟩, by simp [intOf]; omega⟩
      · have HBF : Hid (b = false) := Lib.hid (by
          rw [hR.out.2, HST.out]
          have h9 := HO.out
          rw [z3] at h9
          have h8 : (orD xw == orD yw) = false := by simpa using h9
          have h7 : orD xw ≠ orD yw := by simpa using h8
          simp [eqvB, stB, h7])
        clear z1 z2
        go_upto_region 8 with (fail)
        refine region_ext (by kernel_rfl) (by kernel_rfl) ?_; (repeat (go_big_quiet_step ((go_at_call 88; exact calls_wext (refBare_c _ _ (by assumption) (by assumption)))))); refine wpQuiet_nil ?_; intro w1 hb; have ⟨hc, hf, hh, hs⟩ := hb.facts; try simp only [World.size_alloc, World.size_setCell, World.size_drew] at hs
        go_wp2
        all_goals
          (try go_ret)
          rw [← HE.out]
          exact ⟨by rw [HBF.out]; rfl, (VE.out.trans hR.out.1).trans (by repeat (first | exact Ext.refl _ | assumption | refine Ext.alloc ?_ _ | refine Ext.drew ?_ | refine Ext.setCell ?_ (by first | (simp; done) | (dsimp only; omega)) _ | refine Ext.trans ?_ (by assumption)))⟩
    · obtain rfl : j = L1.length := by omega
      have HBT : Hid (b = true) := Lib.hid (by rw [hR.out.2, List.drop_of_length_le (Nat.le_refl _)]; rfl)
      go_wp2
      all_goals
        (try go_ret)
        rw [← HE.out]
        exact ⟨by rw [HBT.out]; rfl, (VE.out.trans hR.out.1).trans (by repeat (first | exact Ext.refl _ | assumption | refine Ext.alloc ?_ _ | refine Ext.drew ?_ | refine Ext.setCell ?_ (by first | (simp; done) | (dsimp only; omega)) _ | refine Ext.trans ?_ (by assumption)))⟩
end Go.Proofs.YtkoohedbbdgjjaaR
