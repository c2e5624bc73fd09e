/- Joined texts, part 25 of what the law stands on: each as its own head says. -/
import Derived.Test.YtkfonacokamfiaaGreatGoz24
import Derived.Test.YtkfonacokamfiaaGreatGoz14
/- Package group: Run, walked. -/
namespace Go.Proofs.YtkfonacokamfiaaGreat
set_option linter.unusedVariables false
set_option linter.unusedSimpArgs false
open Go.RowKit
attribute [local go_sem] wext_cell wext_frozen wext_heap alloc_cell alloc_frozen alloc_heap setCell_cell objCell_cells objFrozen_cells
theorem seen_at (f : Nat → Int) (x8 x9 x10 x11 x12 x13 : Value) (j : Nat) (hj : j < 8) : (#[.int .u64 (f 0), .int .u64 (f 1), .int .u64 (f 2), .int .u64 (f 3), .int .u64 (f 4), .int .u64 (f 5), .int .u64 (f 6), .int .u64 (f 7), x8, x9, x10, x11, x12, x13] : Array Value)[j]? = some (.int .u64 (f j)) := by
 match j, hj with
 | 0, _ => rfl
 | 1, _ => rfl
 | 2, _ => rfl
 | 3, _ => rfl
 | 4, _ => rfl
 | 5, _ => rfl
 | 6, _ => rfl
 | 7, _ => rfl
theorem shl8 (k : Nat) (hk : k < 8) : (2 : Int) ^ k % 256 = pow2 k := by
 match k, hk with
 | 0, _ => rfl
 | 1, _ => rfl
 | 2, _ => rfl
 | 3, _ => rfl
 | 4, _ => rfl
 | 5, _ => rfl
 | 6, _ => rfl
 | 7, _ => rfl
theorem grun_put {W V : World} {lb : Nat} {fr m m1 m2 : Int} {a b c d : Bool} {T : TypeId} (E : Ext W V) (hb : W.heap.size ≤ lb) (h : V.heap[lb]? = some (.cells #[.int .u64 fr, .bool a, .bool b, .bool c, .bool d, .int .u8 m] T (0, 0))) (hm : m1 = m2) :
  Ext W (V.setCell ⟨lb, 5, none⟩ (.int .u8 m1)) ∧ (V.setCell ⟨lb, 5, none⟩ (.int .u8 m1)).heap[lb]? = some (.cells #[.int .u64 fr, .bool a, .bool b, .bool c, .bool d, .int .u8 m2] T (0, 0)) := by
 subst hm
 exact ⟨Ext.setCell E hb _, setCell_heap_same h⟩
set_option maxHeartbeats 4000000 in
set_option maxRecDepth 100000 in
theorem grun_c (f : Nat → Int) (j : Nat) (B : Int) (r : Rt) (nxe : Bool) (w : World) (hj : j < 8) (hf : ∀ i, i < 8 → 0 ≤ f i ∧ f i ≤ 18446744073709551615) (hB0 : 14 ≤ B) (hB1 : B ≤ 22) :
  Calls Tryz.prog 100 #[.agg #[.int .u64 (f 0), .int .u64 (f 1), .int .u64 (f 2), .int .u64 (f 3), .int .u64 (f 4), .int .u64 (f 5), .int .u64 (f 6), .int .u64 (f 7), .int .i64 j, .bool r.1, .bool r.2.1, .bool r.2.2, .int .i64 B, .bool nxe]] w
   fun e w' => e = .returned (runF f j B r nxe (f j)).val ∧ Ext w w' := by
 obtain ⟨r0, r1, r2⟩ := r
 dsimp only
 obtain ⟨x0, x1⟩ := hf j hj
 have HM := Lib.hid (fun x h0 h1 w => gmay_c f j B x r0 r1 r2 nxe w h0 h1 hB0 hB1)
 have HMx := Lib.hid (fun w => gmay_c f j B (f j) r0 r1 r2 nxe w x0 x1 hB0 hB1)
 have hrun : ∀ b, mayW B nxe (f j) = b → runF f j B (r0, r1, r2) nxe (f j) = if b then ⟨frW (f j) j, (andR (r0, r1, r2) (f j)).1, (andR (r0, r1, r2) (f j)).2.1, (andR (r0, r1, r2) (f j)).2.2, bitB (f j) 6, maskUp (inRun f j B nxe (f j)) 8⟩ else noLine := fun b hb => by unfold runF; rw [hb]
 obtain ⟨b, hb⟩ : ∃ b, mayW B nxe (f j) = b := ⟨_, rfl⟩
 rw [hb] at HMx
 have HRUN := Lib.hid (hrun b hb)
 generalize runF f j B (r0, r1, r2) nxe (f j) = RL at HRUN ⊢
 have HF := Lib.hid hf
 clear hrun hb hf
 have d0 : decide ((j : Int) < 0) = false := by rw [decide_eq_false_iff_not]; omega
 have d1 : decide (8 ≤ (j : Int)) = false := by rw [decide_eq_false_iff_not]; omega
 have d2 : decide (8 ≤ j) = false := by rw [decide_eq_false_iff_not]; omega
 go_enter Tryz.func100, Tryz.ntmps100
 go_upto_region 1 with (fail)
 refine wp_gen ?_; intro U hU
 have hUE : Ext w U := by rw [hU]; exact (by repeat (first | exact Ext.refl _ | assumption | refine Ext.alloc ?_ _ | refine Ext.drew ?_ | refine Ext.setCell ?_ (by first | (simp; done) | (dsimp only; omega)) _ | refine Ext.trans ?_ (by assumption)))
 have hU0 : U.heap[w.heap.size]? = some (.cells #[.int .u64 (f 0), .int .u64 (f 1), .int .u64 (f 2), .int .u64 (f 3), .int .u64 (f 4), .int .u64 (f 5), .int .u64 (f 6), .int .u64 (f 7), .int .i64 j, .bool r0, .bool r1, .bool r2, .int .i64 B, .bool nxe] 200 (0, 0)) := by rw [hU]; exact (alloc_other _ _ (by simp)).trans (alloc_same ..)
 have hU1 : U.heap[w.heap.size + 1]? = some (.cells #[.int .u64 0, .bool false, .bool false, .bool false, .bool false, .int .u8 0] 183 (0, 0)) := by rw [hU]; exact alloc_same1 ..
 obtain ⟨sb, hsb⟩ : ∃ sb, w.heap.size = sb := ⟨_, rfl⟩
 obtain ⟨rb, hrb⟩ : ∃ rb, w.heap.size + 1 = rb := ⟨_, rfl⟩
 have hwr : w.heap.size ≤ rb := by omega
 have hne : sb ≠ rb := by omega
 rw [hrb] at hU1 ⊢
 rw [hsb] at hU0 ⊢
 have UE := Lib.hid hUE
 have U0 := Lib.hid hU0
 have U1 := Lib.hid hU1
 have s0 := (heap_cell hU0 0).trans rfl
 have s1 := (heap_cell hU0 1).trans rfl
 have s2 := (heap_cell hU0 2).trans rfl
 have s3 := (heap_cell hU0 3).trans rfl
 have s4 := (heap_cell hU0 4).trans rfl
 have s5 := (heap_cell hU0 5).trans rfl
 have s6 := (heap_cell hU0 6).trans rfl
 have s7 := (heap_cell hU0 7).trans rfl
 have s8 := (heap_cell hU0 8).trans rfl
 have s9 := (heap_cell hU0 9).trans rfl
 have s10 := (heap_cell hU0 10).trans rfl
 have s11 := (heap_cell hU0 11).trans rfl
 have s12 := (heap_cell hU0 12).trans rfl
 have s13 := (heap_cell hU0 13).trans rfl
 have sj := (heap_cell hU0 j).trans (seen_at f _ _ _ _ _ _ j hj)
 have sl := heap_lt hU0
 have rl := heap_lt hU1
 have z0 := (heap_cell hU1 0).trans rfl
 have z1 := (heap_cell hU1 1).trans rfl
 have z2 := (heap_cell hU1 2).trans rfl
 have z3 := (heap_cell hU1 3).trans rfl
 have z4 := (heap_cell hU1 4).trans rfl
 have z5 := (heap_cell hU1 5).trans rfl
 have zf := frozen_of hU1
 clear hU hUE hU0 hU1 hsb hrb
 cases b
 ·have hrl := HRUN.out
  rw [if_neg (by simp)] at hrl
  subst hrl
  refine region_ext (by kernel_rfl) (by kernel_rfl) ?_; (repeat (go_big_quiet_step ((go_at_call 123; exact calls_wext (HMx.out _))))); refine wpQuiet_nil ?_; intro w1 hb; have ⟨hc, hf, hh, hs⟩ := hb.facts; try simp only [World.size_alloc, World.size_setCell, World.size_drew] at hs
  have EB := Lib.hid (UE.out.trans hb)
  clear hb
  go_wp2
  unfold noLine Line.val
  dsimp only
  refine bodyPost_ret (by simp [results, Tryz.results100, go_sem, ↓IntWalk.iteOmega, *]; try rfl) rfl ⟨rfl, ?_⟩
  exact Ext.setCell (Ext.setCell (Ext.setCell (Ext.setCell (Ext.setCell (Ext.setCell EB.out hwr _) hwr _) hwr _) hwr _) hwr _) hwr _
 ·rw [if_pos rfl] at HRUN
  have hb2 := bitE (a := f j) 6 (by omega) x0 x1
  rw [show ((2 ^ 6 : Nat) : Int) = 64 from rfl, show ((6 : Nat) : Int) = 6 from rfl] at hb2
  have HT := Lib.hid (fun w => entTable_c (f j) w x0 x1)
  have hfw : IntKind.u64.wrap (tabI (f j) - 4096 * (j : Int)) = frW (f j) j := rfl
  have HAnd := Lib.hid (fun w => rightAndE_c r0 r1 r2 (f j) w x0 x1)
  refine region_ext (by kernel_rfl) (by kernel_rfl) ?_; (repeat (go_big_quiet_step ((go_at_call 123; exact calls_wext (HMx.out _))))); refine wpQuiet_nil ?_; intro w1 hb; have ⟨hc, hf, hh, hs⟩ := hb.facts; try simp only [World.size_alloc, World.size_setCell, World.size_drew] at hs
  have EB := Lib.hid (UE.out.trans hb)
  have B0 := (hb.block _ sl).trans U0.out
  have B1 := (hb.block _ rl).trans U1.out
  have HB0 := Lib.hid B0
  have HB1 := Lib.hid B1
  clear hb hc hf hh hs s0 s1 s2 s3 s4 s5 s6 s7 s8 s9 s10 s11 s12 s13 sj sl rl z0 z1 z2 z3 z4 z5 zf B1
  have s0 := (heap_cell B0 0).trans rfl
  have s1 := (heap_cell B0 1).trans rfl
  have s2 := (heap_cell B0 2).trans rfl
  have s3 := (heap_cell B0 3).trans rfl
  have s4 := (heap_cell B0 4).trans rfl
  have s5 := (heap_cell B0 5).trans rfl
  have s6 := (heap_cell B0 6).trans rfl
  have s7 := (heap_cell B0 7).trans rfl
  have s8 := (heap_cell B0 8).trans rfl
  have s9 := (heap_cell B0 9).trans rfl
  have s10 := (heap_cell B0 10).trans rfl
  have s11 := (heap_cell B0 11).trans rfl
  have sj := (heap_cell B0 j).trans (seen_at f _ _ _ _ _ _ j hj)
  have sl := heap_lt B0
  clear B0
  go_upto_region 4 with (fail)
  refine region_mixA 15 (.cells #[.int .u64 0, .bool false, .bool false, .bool false, .bool false, .int .u8 0] 183 (0, 0)) [.q [0, 2, 3, 4, 5, 7, 8, 9, 11, 12, 13], .l 1 5, .q [6], .l 10 5, .b [14], .l 15 4, .l 16 2] (by kernel_rfl) (by kernel_rfl) (alloc_runA rfl (by kernel_rfl : _ = some (some (Value.agg (#[.int .u64 0, .bool false, .bool false, .bool false, .bool false, .int .u8 0])))) rfl) ?_
  (repeat (unfold wpPlanA; simp only [pickL, List.map_cons, List.map_nil, List.getD_cons_succ, List.getD_cons_zero]; (repeat go_big_quiet_step (fail)); refine wpQuiet_nil ?_)); unfold wpPlanA; intro w2 hb2; (try simp only [pickL, List.map_cons, List.map_nil, List.getD_cons_succ, List.getD_cons_zero])
  go_wp2_with (first | (go_at_call 51; refine (HT.out _).mono ?_; rintro e w3 ⟨rfl, hb3⟩))
  have z2 := hb2.size
  have z3 := hb3.size
  refine ⟨⟨by omega, fun _ => hb3, fun h => absurd h (by omega)⟩, ?_⟩
  have E3 := Lib.hid (hb2.trans hb3)
  clear hb2 hb3
  have B0 := (E3.out.block _ sl).trans HB0.out
  have s8 := (heap_cell B0 8).trans rfl
  have s9 := (heap_cell B0 9).trans rfl
  have s10 := (heap_cell B0 10).trans rfl
  have s11 := (heap_cell B0 11).trans rfl
  have sl3 := heap_lt B0
  clear B0
  (repeat (unfold wpPlanA; simp only [pickL, List.map_cons, List.map_nil, List.getD_cons_succ, List.getD_cons_zero]; (repeat go_big_quiet_step (fail)); refine wpQuiet_nil ?_)); unfold wpPlanA; intro w4 hb4; (try simp only [pickL, List.map_cons, List.map_nil, List.getD_cons_succ, List.getD_cons_zero])
  go_wp2_with (first | (go_at_call 48; refine (HAnd.out _).mono ?_; rintro e w5 ⟨rfl, hb5⟩))
  have z4 := hb4.size
  have z5 := hb5.size
  refine ⟨⟨by omega, fun _ => hb5, fun h => absurd h (by omega)⟩, ?_⟩
  have E5 := Lib.hid (E3.out.trans (hb4.trans hb5))
  clear hb4 hb5
  (repeat (unfold wpPlanA; simp only [pickL, List.map_cons, List.map_nil, List.getD_cons_succ, List.getD_cons_zero]; (repeat go_big_quiet_step (fail)); refine wpQuiet_nil ?_)); unfold wpPlanA; intro lb w6 hb6 hb6B hb6O; simp only [List.getD_cons_succ, List.getD_cons_zero, ptrTo]; simp only [Act.put, Array.set!_eq_setIfInBounds, List.setIfInBounds_toArray, List.set_cons_succ, List.set_cons_zero]
  have E6 := Lib.hid (E5.out.trans hb6)
  have O6 := Lib.hid hb6O
  have hlb := heap_lt hb6O
  have hlbB := Lib.hid hb6B
  have z6 := hb6.size
  clear hb6 hb6O
  (repeat (unfold wpPlanA; simp only [pickL, List.map_cons, List.map_nil, List.getD_cons_succ, List.getD_cons_zero]; (repeat go_big_quiet_step (fail)); refine wpQuiet_nil ?_)); unfold wpPlanA; intro w7 hb7; (try simp only [pickL, List.map_cons, List.map_nil, List.getD_cons_succ, List.getD_cons_zero])
  have b7 := (hb7.block lb hlb).trans O6.out
  have g0 := (heap_cell b7 0).trans rfl
  have g1 := (heap_cell b7 1).trans rfl
  have g2 := (heap_cell b7 2).trans rfl
  have g3 := (heap_cell b7 3).trans rfl
  have g4 := (heap_cell b7 4).trans rfl
  have g5 := (heap_cell b7 5).trans rfl
  have g6 := frozen_of b7
  have B7 := Lib.hid b7
  have E7 := Lib.hid (E6.out.trans hb7)
  have z7 := hb7.size
  clear b7 hb7 s0 s1 s2 s3 s4 s5 s6 s7 s8 s9 s10 s11 sj sl3
  go_wp2
  refine ⟨⟨by simp; omega, fun h => absurd h (by omega), fun h => absurd h (by omega)⟩, ?_⟩
  (repeat (unfold wpPlanA; simp only [pickL, List.map_cons, List.map_nil, List.getD_cons_succ, List.getD_cons_zero]; (repeat go_big_quiet_step (fail)); refine wpQuiet_nil ?_)); unfold wpPlanA; intro X hX; (try simp only [pickL, List.map_cons, List.map_nil, List.getD_cons_succ, List.getD_cons_zero])
  have sbl : sb < lb := by have := hlbB.out; omega
  have EX : Hid (Ext w1 X) := Lib.hid ((ext6 E7.out hlbB.out).trans hX)
  have LX := (hX.block lb (by simp; exact heap_lt B7.out)).trans (store6_heap B7.out)
  have HLX := Lib.hid LX
  clear hX g0 g1 g2 g3 g4 g5 g6
  have SX := Lib.hid ((EX.out.block _ sl).trans HB0.out)
  have s0 := (heap_cell SX.out 0).trans rfl
  have s1 := (heap_cell SX.out 1).trans rfl
  have s2 := (heap_cell SX.out 2).trans rfl
  have s3 := (heap_cell SX.out 3).trans rfl
  have s4 := (heap_cell SX.out 4).trans rfl
  have s5 := (heap_cell SX.out 5).trans rfl
  have s6 := (heap_cell SX.out 6).trans rfl
  have s7 := (heap_cell SX.out 7).trans rfl
  have sl3 := heap_lt SX.out
  clear hb2 hfw sl LX
  have hB1l : w1.heap.size ≤ lb := hlbB.out
  generalize hx : f j = x at *
  generalize hfr : frW x j = fr at *
  have HXJ := Lib.hid hx
  have HFR := Lib.hid hfr
  clear hx hfr
  go_wp2
  go_loopw [49] (fun iv wr => ∃ k : Nat, k ≤ 8 ∧ iv = .int .i64 k ∧ Hid (Ext w1 wr ∧ wr.heap[lb]? = some (.cells #[.int .u64 fr, .bool (r0 && bitB x 1), .bool (r1 && bitB x 2), .bool (r2 && !bitB x 63), .bool (bitB x 6), .int .u8 (maskUp (inRun f j B nxe x) k)] 183 (0, 0)))) (fun iv _ => 8 - (intOf iv).toNat)
  case atStart => exact ⟨0, by omega, rfl, Lib.hid ⟨EX.out, HLX.out⟩⟩
  case round =>
   obtain ⟨k, hk, rfl, hR⟩ := hrel
   have hsb := (hR.out.1.block _ (heap_lt HB0.out)).trans HB0.out
   have hlk := hR.out.2
   have d3 := (heap_cell hsb 3).trans rfl
   have q0 := (heap_cell hsb 0).trans rfl
   have q1 := (heap_cell hsb 1).trans rfl
   have q2 := (heap_cell hsb 2).trans rfl
   have q4 := (heap_cell hsb 4).trans rfl
   have q5 := (heap_cell hsb 5).trans rfl
   have q6 := (heap_cell hsb 6).trans rfl
   have q7 := (heap_cell hsb 7).trans rfl
   have q8 := (heap_cell hsb 8).trans rfl
   have q9 := (heap_cell hsb 9).trans rfl
   have q10 := (heap_cell hsb 10).trans rfl
   have q11 := (heap_cell hsb 11).trans rfl
   have q12 := (heap_cell hsb 12).trans rfl
   have q13 := (heap_cell hsb 13).trans rfl
   have ql := heap_lt hsb
   have m0 := (heap_cell hlk 0).trans rfl
   have m1 := (heap_cell hlk 1).trans rfl
   have m2 := (heap_cell hlk 2).trans rfl
   have m3 := (heap_cell hlk 3).trans rfl
   have m4 := (heap_cell hlk 4).trans rfl
   have m5 := (heap_cell hlk 5).trans rfl
   have mf := frozen_of hlk
   have ml := heap_lt hlk
   have HLK := Lib.hid hlk
   have HSB := Lib.hid hsb
   have HRX := Lib.hid hR.out.1
   clear hsb hlk hR
   by_cases hlt : k < 8
   ·have hidx := fun w => idx8 f k hlt w
    have ⟨y0, y1⟩ := HF.out k hlt
    have HMy := Lib.hid (fun w => HM.out (f k) y0 y1 w)
    have HTy := Lib.hid (fun w => entTable_c (f k) w y0 y1)
    have hb5 := bitE (a := f k) 5 (by omega) y0 y1
    rw [show ((2 ^ 5 : Nat) : Int) = 32 from rfl, show ((5 : Nat) : Int) = 5 from rfl] at hb5
    obtain ⟨g, hg⟩ : ∃ g, inRun f j B nxe x k = g := ⟨_, rfl⟩
    have hst : g = ((k : Int) == j || (usedW B nxe x (f k) && tabI (f k) == IntKind.u64.wrap (fr + 4096 * (k : Int)))) := by rw [← hg, ← HFR.out]; rfl
    have hor : g = true → bits BinOp.or IntKind.u8 (maskUp (inRun f j B nxe x) k) (pow2 k) = maskUp (inRun f j B nxe x) (k + 1) := fun h => maskUp_or _ k hlt (hg.trans h)
    have hno : g = false → maskUp (inRun f j B nxe x) (k + 1) = maskUp (inRun f j B nxe x) k := fun h => maskUp_no _ k (hg.trans h)
    have HST := Lib.hid hst
    have HOR := Lib.hid hor
    have HNO := Lib.hid hno
    clear hg hst hor hno
    obtain ⟨mu, hmu⟩ : ∃ mu, maskUp (inRun f j B nxe x) k = mu := ⟨_, rfl⟩
    rw [hmu] at m5 HOR HNO HLK
    obtain ⟨mv, hmv⟩ : ∃ mv, maskUp (inRun f j B nxe x) (k + 1) = mv := ⟨_, rfl⟩
    rw [hmv] at HOR HNO
    have HMV := Lib.hid hmv
    clear hmu hmv
    have hal : (bits BinOp.and IntKind.u64 (bits BinOp.xor IntKind.u64 x (f k)) 9223372036854775878 == 0) = alikeW x (f k) := rfl
    have hus : usedW B nxe x (f k) = (mayW B nxe (f k) && bitB (f k) 5 && alikeW x (f k)) := rfl
    have HUS := Lib.hid hus
    clear hus
    generalize hy : f k = y at *
    generalize hmw : mayW B nxe y = mw at *
    generalize hb5' : bitB y 5 = b5 at *
    generalize hal' : alikeW x y = al at *
    generalize usedW B nxe x y = us at *
    clear hy hmw hb5' hal'
    have hsh := shl8 k hlt
    have hpt : g = true → ∀ V, Ext wr V → Hid (Ext w1 (V.setCell ⟨lb, 5, none⟩ (.int .u8 (bits BinOp.or IntKind.u8 mu (pow2 k)))) ∧ (V.setCell ⟨lb, 5, none⟩ (.int .u8 (bits BinOp.or IntKind.u8 mu (pow2 k)))).heap[lb]? = some (.cells #[.int .u64 fr, .bool (r0 && bitB x 1), .bool (r1 && bitB x 2), .bool (r2 && !bitB x 63), .bool (bitB x 6), .int .u8 (maskUp (inRun f j B nxe x) (k + 1))] 183 (0, 0))) := fun h V hV =>
     Lib.hid (grun_put (HRX.out.trans hV) hB1l ((hV.block _ (heap_lt HLK.out)).trans HLK.out) ((HOR.out h).trans HMV.out.symm))
    have hpn : g = false → ∀ V, Ext wr V → Hid (Ext w1 V ∧ V.heap[lb]? = some (.cells #[.int .u64 fr, .bool (r0 && bitB x 1), .bool (r1 && bitB x 2), .bool (r2 && !bitB x 63), .bool (bitB x 6), .int .u8 (maskUp (inRun f j B nxe x) (k + 1))] 183 (0, 0))) := fun h V hV =>
     Lib.hid ⟨HRX.out.trans hV, by rw [HMV.out, HNO.out h]; exact (hV.block _ (heap_lt HLK.out)).trans HLK.out⟩
    have HPT := Lib.hid hpt
    have HPN := Lib.hid hpn
    clear hpt hpn HOR HNO
    by_cases hkj : k = j
    ·have hg1 : g = true := by rw [HST.out, hkj]; simp
     have hkb : ((k : Int) == (j : Int)) = true := by rw [beq_iff_eq]; omega
     have FIN := Lib.hid (HPT.out hg1)
     clear hkj hg1 HUS HST HPN HPT
     cases mw
     case false =>
      go_upto_region 9 with (first | (go_at_call 123; refine (HMy.out _).mono ?_; rintro e wa ⟨rfl, hba⟩; have ⟨hc, hf, hh, hs⟩ := hba.facts; try simp only [World.size_alloc, World.size_setCell, World.size_drew] at hs))
      refine region_ext (by kernel_rfl) (by kernel_rfl) ?_; (repeat (go_big_quiet_step ((go_at_call 51; exact calls_wext (HTy.out _))))); refine wpQuiet_nil ?_; intro w1 hb; have ⟨hc, hf, hh, hs⟩ := hb.facts; try simp only [World.size_alloc, World.size_setCell, World.size_drew] at hs
      go_wp2
      exact ⟨⟨k + 1, by omega, by go_num, FIN.out _ (hba.trans hb)⟩, by simp [intOf]; omega⟩
     case true =>
      cases b5
      all_goals
       go_upto_region 9 with (first | (go_at_call 123; refine (HMy.out _).mono ?_; rintro e wa ⟨rfl, hba⟩; have ⟨hc, hf, hh, hs⟩ := hba.facts; try simp only [World.size_alloc, World.size_setCell, World.size_drew] at hs))
       refine region_ext (by kernel_rfl) (by kernel_rfl) ?_; (repeat (go_big_quiet_step ((go_at_call 51; exact calls_wext (HTy.out _))))); refine wpQuiet_nil ?_; intro w1 hb; have ⟨hc, hf, hh, hs⟩ := hb.facts; try simp only [World.size_alloc, World.size_setCell, World.size_drew] at hs
       go_wp2
       exact ⟨⟨k + 1, by omega, by go_num, FIN.out _ (hba.trans hb)⟩, by simp [intOf]; omega⟩
    ·have hkb : ((k : Int) == (j : Int)) = false := by rw [beq_eq_false_iff_ne]; omega
     have hgu : g = (us && tabI y == IntKind.u64.wrap (fr + 4096 * (k : Int))) := by rw [HST.out, hkb]; rfl
     have HGU := Lib.hid hgu
     clear hgu hkj HST
     have hno : us = false → Hid (∀ V, Ext wr V → Hid (Ext w1 V ∧ V.heap[lb]? = some (.cells #[.int .u64 fr, .bool (r0 && bitB x 1), .bool (r1 && bitB x 2), .bool (r2 && !bitB x 63), .bool (bitB x 6), .int .u8 (maskUp (inRun f j B nxe x) (k + 1))] 183 (0, 0)))) := fun h => Lib.hid (HPN.out (by rw [HGU.out, h]; rfl))
     have HN := Lib.hid hno
     clear hno
     cases mw
     case false =>
      have FIN := HN.out (by rw [HUS.out]; rfl)
      clear HN HGU HUS HPN HPT
      go_upto_region 9 with (first | (go_at_call 123; refine (HMy.out _).mono ?_; rintro e wa ⟨rfl, hba⟩; have ⟨hc, hf, hh, hs⟩ := hba.facts; try simp only [World.size_alloc, World.size_setCell, World.size_drew] at hs))
      refine region_ext (by kernel_rfl) (by kernel_rfl) ?_; (repeat (go_big_quiet_step ((go_at_call 51; exact calls_wext (HTy.out _))))); refine wpQuiet_nil ?_; intro w1 hb; have ⟨hc, hf, hh, hs⟩ := hb.facts; try simp only [World.size_alloc, World.size_setCell, World.size_drew] at hs
      go_wp2
      exact ⟨⟨k + 1, by omega, by go_num, FIN.out _ (hba.trans hb)⟩, by simp [intOf]; omega⟩
     case true =>
      cases b5
      case false =>
       have FIN := HN.out (by rw [HUS.out]; rfl)
       clear HN HGU HUS HPN HPT
       go_upto_region 9 with (first | (go_at_call 123; refine (HMy.out _).mono ?_; rintro e wa ⟨rfl, hba⟩; have ⟨hc, hf, hh, hs⟩ := hba.facts; try simp only [World.size_alloc, World.size_setCell, World.size_drew] at hs))
       refine region_ext (by kernel_rfl) (by kernel_rfl) ?_; (repeat (go_big_quiet_step ((go_at_call 51; exact calls_wext (HTy.out _))))); refine wpQuiet_nil ?_; intro w1 hb; have ⟨hc, hf, hh, hs⟩ := hb.facts; try simp only [World.size_alloc, World.size_setCell, World.size_drew] at hs
       go_wp2
       exact ⟨⟨k + 1, by omega, by go_num, FIN.out _ (hba.trans hb)⟩, by simp [intOf]; omega⟩
      case true =>
       cases al
       case false =>
        have FIN := HN.out (by rw [HUS.out]; rfl)
        clear HN HGU HUS HPN HPT
        go_upto_region 9 with (first | (go_at_call 123; refine (HMy.out _).mono ?_; rintro e wa ⟨rfl, hba⟩; have ⟨hc, hf, hh, hs⟩ := hba.facts; try simp only [World.size_alloc, World.size_setCell, World.size_drew] at hs))
        refine region_ext (by kernel_rfl) (by kernel_rfl) ?_; (repeat (go_big_quiet_step ((go_at_call 51; exact calls_wext (HTy.out _))))); refine wpQuiet_nil ?_; intro w1 hb; have ⟨hc, hf, hh, hs⟩ := hb.facts; try simp only [World.size_alloc, World.size_setCell, World.size_drew] at hs
        go_wp2
        exact ⟨⟨k + 1, by omega, by go_num, FIN.out _ (hba.trans hb)⟩, by simp [intOf]; omega⟩
       case true =>
        obtain ⟨te, hte⟩ : ∃ te, (tabI y == IntKind.u64.wrap (fr + 4096 * (k : Int))) = te := ⟨_, rfl⟩
        have hgt : g = te := by rw [HGU.out, HUS.out, hte]; rfl
        have HGT := Lib.hid hgt
        clear hgt HN HGU HUS
        cases te
        case false =>
         have FIN := Lib.hid (HPN.out HGT.out)
         clear HGT HPN HPT
         go_upto_region 9 with (first | (go_at_call 123; refine (HMy.out _).mono ?_; rintro e wa ⟨rfl, hba⟩; have ⟨hc, hf, hh, hs⟩ := hba.facts; try simp only [World.size_alloc, World.size_setCell, World.size_drew] at hs))
         refine region_ext (by kernel_rfl) (by kernel_rfl) ?_; (repeat (go_big_quiet_step ((go_at_call 51; exact calls_wext (HTy.out _))))); refine wpQuiet_nil ?_; intro w1 hb; have ⟨hc, hf, hh, hs⟩ := hb.facts; try simp only [World.size_alloc, World.size_setCell, World.size_drew] at hs
         go_wp2
         exact ⟨⟨k + 1, by omega, by go_num, FIN.out _ (hba.trans hb)⟩, by simp [intOf]; omega⟩
        case true =>
         have FIN := Lib.hid (HPT.out HGT.out)
         clear HGT HPN HPT
         go_upto_region 9 with (first | (go_at_call 123; refine (HMy.out _).mono ?_; rintro e wa ⟨rfl, hba⟩; have ⟨hc, hf, hh, hs⟩ := hba.facts; try simp only [World.size_alloc, World.size_setCell, World.size_drew] at hs))
         refine region_ext (by kernel_rfl) (by kernel_rfl) ?_; (repeat (go_big_quiet_step ((go_at_call 51; exact calls_wext (HTy.out _))))); refine wpQuiet_nil ?_; intro w1 hb; have ⟨hc, hf, hh, hs⟩ := hb.facts; try simp only [World.size_alloc, World.size_setCell, World.size_drew] at hs
         go_wp2
         exact ⟨⟨k + 1, by omega, by go_num, FIN.out _ (hba.trans hb)⟩, by simp [intOf]; omega⟩
   ·obtain rfl : k = 8 := by omega
    have R1 := (HRX.out.block _ (heap_lt HB1.out)).trans HB1.out
    have z0 := (heap_cell R1 0).trans rfl
    have z1 := (heap_cell R1 1).trans rfl
    have z2 := (heap_cell R1 2).trans rfl
    have z3 := (heap_cell R1 3).trans rfl
    have z4 := (heap_cell R1 4).trans rfl
    have z5 := (heap_cell R1 5).trans rfl
    have zf := frozen_of R1
    have zl := heap_lt R1
    have HR1 := Lib.hid R1
    clear R1
    go_wp2
    refine post_gen (fun Y => Y.heap[rb]? = some (.cells #[.int .u64 fr, .bool (r0 && bitB x 1), .bool (r1 && bitB x 2), .bool (r2 && !bitB x 63), .bool (bitB x 6), .int .u8 (maskUp (inRun f j B nxe x) 8)] 183 (0, 0)) ∧ Ext w Y) ⟨store6_heap HR1.out, ext6 (EB.out.trans HRX.out) hwr⟩ ?_
    clear z0 z1 z2 z3 z4 z5 zf m0 m1 m2 m3 m4 m5 mf
    rintro Y ⟨m5, E5'⟩
    have v0 := (heap_cell m5 0).trans rfl
    have v1 := (heap_cell m5 1).trans rfl
    have v2 := (heap_cell m5 2).trans rfl
    have v3 := (heap_cell m5 3).trans rfl
    have v4 := (heap_cell m5 4).trans rfl
    have v5 := (heap_cell m5 5).trans rfl
    clear m5
    have hrl := HRUN.out
    subst hrl
    unfold Line.val andR
    dsimp only
    refine bodyPost_ret (by simp [results, Tryz.results100, go_sem, ↓IntWalk.iteOmega, *]; try rfl) rfl ⟨rfl, E5'⟩
end Go.Proofs.YtkfonacokamfiaaGreat
