/- Joined texts, part 44 of what the law stands on: each as its own head says. -/
import Derived.Test.YtkfonacokamfiaaGreatGoz25
import Derived.Test.YtkfonacokamfiaaGreatGoz40
import Derived.Test.YtkfonacokamfiaaGreatGoz22
import Derived.Test.YtkfonacokamfiaaGreatGoz21
/- The document's group of words: may, Together, Run, Slots. Printed by mkgrpr.py. Own text. -/
namespace Go.Proofs.YtkfonacokamfiaaGreat
set_option linter.unusedVariables false
set_option linter.unusedSimpArgs false
open Go.RowKit
attribute [local go_sem] wext_cell wext_frozen wext_heap alloc_cell alloc_frozen alloc_heap setCell_cell objCell_cells objFrozen_cells
theorem u64_xor_nat' (a b : Nat) (ha : a < 18446744073709551616) (hb : b < 18446744073709551616) : bits BinOp.xor IntKind.u64 (a : Int) (b : Int) = ((a ^^^ b : Nat) : Int) := by
 have hx : a ^^^ b < 2 ^ 64 := Nat.xor_lt_two_pow (by omega) (by omega)
 show IntKind.u64.wrap ((BitVec.ofInt 64 (a : Int) ^^^ BitVec.ofInt 64 (b : Int)).toNat : Int) = _
 rw [BitVec.toNat_xor, ofInt_u64 a ha, ofInt_u64 b hb, IntKind.wrap_u64]
 omega
theorem mask_bits : ∀ i : Fin 64, Nat.testBit 9223372036854775878 i = true → i.val = 1 ∨ i.val = 2 ∨ i.val = 6 ∨ i.val = 63 := by decide +kernel
theorem alike_eq {x y : Int} (x0 : 0 ≤ x) (x1 : x ≤ 18446744073709551615) (y0 : 0 ≤ y) (y1 : y ≤ 18446744073709551615) :
  alikeW x y = ((bitB y 1 == bitB x 1) && (bitB y 2 == bitB x 2) && (bitB y 6 == bitB x 6) && (bitB y 63 == bitB x 63)) := by
 obtain ⟨n, rfl⟩ : ∃ n : Nat, (n : Int) = x := ⟨x.toNat, by omega⟩
 obtain ⟨m, rfl⟩ : ∃ m : Nat, (m : Int) = y := ⟨y.toNat, by omega⟩
 have hx : n ^^^ m < 2 ^ 64 := Nat.xor_lt_two_pow (by omega) (by omega)
 unfold alikeW
 rw [u64_xor_nat' n m (by omega) (by omega), show (9223372036854775878 : Int) = ((9223372036854775878 : Nat) : Int) from rfl, u64_and_nat _ _ (by omega) (by omega)]
 rw [show (1 : Int) = ((1 : Nat) : Int) from rfl, show (2 : Int) = ((2 : Nat) : Int) from rfl, show (6 : Int) = ((6 : Nat) : Int) from rfl, show (63 : Int) = ((63 : Nat) : Int) from rfl]
 simp only [bitB_testBit]
 rw [Bool.eq_iff_iff]
 simp only [beq_iff_eq, Bool.and_eq_true]
 constructor
 ·intro h
  have h0 : (n ^^^ m) &&& 9223372036854775878 = 0 := by exact_mod_cast h
  have key : ∀ i, Nat.testBit 9223372036854775878 i = true → m.testBit i = n.testBit i := fun i hi => by
   have := congrArg (fun z => Nat.testBit z i) h0
   simp only [Nat.testBit_and, Nat.testBit_xor, hi, Bool.and_true, Nat.zero_testBit] at this
   cases h1 : n.testBit i <;> cases h2 : m.testBit i <;> simp [h1, h2] at this ⊢
  exact ⟨⟨⟨key 1 (by decide), key 2 (by decide)⟩, key 6 (by decide)⟩, key 63 (by decide)⟩
 ·rintro ⟨⟨⟨h1, h2⟩, h6⟩, h63⟩
  have : (n ^^^ m) &&& 9223372036854775878 = 0 := by
   apply Nat.eq_of_testBit_eq
   intro i
   rw [Nat.testBit_and, Nat.testBit_xor, Nat.zero_testBit]
   cases hm : Nat.testBit 9223372036854775878 i
   ·simp
   ·by_cases hi : i < 64
    ·rcases mask_bits ⟨i, hi⟩ hm with h | h | h | h <;> (dsimp only at h; subst h; simp [*])
    ·exfalso
     rw [Nat.testBit_lt_two_pow (Nat.lt_of_lt_of_le (by decide : 9223372036854775878 < 2 ^ 64) (Nat.pow_le_pow_right (by omega) (by omega)))] at hm
     cases hm
  rw [this]; rfl
theorem in_eq (x y : Int) (i j : Nat) : (tabI y == IntKind.u64.wrap (frW x j + 4096 * (i : Int))) = (tabI y == IntKind.u64.wrap (tabI x + 4096 * (i : Int) - 4096 * (j : Int))) := by
 have : IntKind.u64.wrap (frW x j + 4096 * (i : Int)) = IntKind.u64.wrap (tabI x + 4096 * (i : Int) - 4096 * (j : Int)) := by
  unfold frW
  simp only [IntKind.wrap_u64]
  omega
 rw [this]
set_option maxHeartbeats 2000000 in
theorem rmay_c (f : Nat → Int) (j B x : Int) (r0 r1 r2 nxe : Bool) (w : World) (h0 : 0 ≤ x) (h1 : x ≤ 18446744073709551615) (hB0 : 14 ≤ B) (hB1 : B ≤ 22) :
  Calls Tryz.prog 127 #[.agg #[.int .u64 (f 0), .int .u64 (f 1), .int .u64 (f 2), .int .u64 (f 3), .int .u64 (f 4), .int .u64 (f 5), .int .u64 (f 6), .int .u64 (f 7), .int .i64 j, .bool r0, .bool r1, .bool r2, .int .i64 B, .bool nxe], .int .u64 x] w fun e w' => e = .returned (.bool (mayW B nxe x)) ∧ Ext w w' := by
 have HBt := Lib.hid (fun w => bit_c x 0 w h0 h1 (by omega) (by omega))
 have HR := Lib.hid (fun w => rReserved_c x 1 B nxe w (by omega) (by omega) h0 h1 hB0 hB1)
 have hm : mayW B nxe x = (bitB x 0 && !resI x 1 B nxe) := rfl
 generalize mayW B nxe x = q at *
 generalize resI x 1 B nxe = z at *
 generalize bitB x 0 = b at *
 cases b <;> cases z
 all_goals
  simp at hm
  subst hm
  go_enter Tryz.func127, Tryz.ntmps127
  go_wp2_with (first | (go_at_call 59; refine (HBt.out _).mono ?_; rintro e w1 ⟨rfl, hb⟩; have ⟨hc, hf, hh, hs⟩ := hb.facts; try simp only [World.size_alloc, World.size_setCell, World.size_drew] at hs) | (go_at_call 60; refine (HR.out _).mono ?_; rintro e w2 ⟨rfl, hb2⟩; have ⟨hc2, hf2, hh2, hs2⟩ := hb2.facts; try simp only [World.size_alloc, World.size_setCell, World.size_drew] at hs2))
  go_ret
  exact ⟨rfl, (by repeat (first | exact Ext.refl _ | assumption | refine Ext.alloc ?_ _ | refine Ext.drew ?_ | refine Ext.setCell ?_ (by first | (simp; done) | (dsimp only; omega)) _ | refine Ext.trans ?_ (by assumption)))⟩
set_option maxHeartbeats 4000000 in
set_option maxRecDepth 100000 in
theorem rtog_c (f : Nat → Int) (j i : Nat) (B : Int) (r0 r1 r2 nxe : Bool) (w : World) (hj : j < 8) (hi : i < 8) (hf : ∀ i, i < 8 → 0 ≤ f i ∧ f i ≤ 18446744073709551615) (hB0 : 14 ≤ B) (hB1 : B ≤ 22) :
  Calls Tryz.prog 128 #[.agg #[.int .u64 (f 0), .int .u64 (f 1), .int .u64 (f 2), .int .u64 (f 3), .int .u64 (f 4), .int .u64 (f 5), .int .u64 (f 6), .int .u64 (f 7), .int .i64 j, .bool r0, .bool r1, .bool r2, .int .i64 B, .bool nxe], .int .i64 i] w fun e w' => e = .returned (.bool (inRun f j B nxe (f j) i)) ∧ Ext w w' := by
 obtain ⟨y0, y1⟩ := hf i hi
 obtain ⟨x0, x1⟩ := hf j hj
 have HM := Lib.hid (fun w => rmay_c f j B (f i) r0 r1 r2 nxe w y0 y1 hB0 hB1)
 have hr : inRun f j B nxe (f j) i = ((i : Int) == (j : Int) || ((((bitB (f i) 1 == bitB (f j) 1) && (bitB (f i) 2 == bitB (f j) 2) && (bitB (f i) 6 == bitB (f j) 6) && (bitB (f i) 63 == bitB (f j) 63)) && mayW B nxe (f i) && bitB (f i) 5) && (tabI (f i) == IntKind.u64.wrap (tabI (f j) + 4096 * (i : Int) - 4096 * (j : Int))))) := by
  unfold inRun usedW
  rw [alike_eq x0 x1 y0 y1, in_eq]
  cases ((bitB (f i) 1 == bitB (f j) 1) && (bitB (f i) 2 == bitB (f j) 2) && (bitB (f i) 6 == bitB (f j) 6) && (bitB (f i) 63 == bitB (f j) 63)) <;> cases mayW B nxe (f i) <;> cases bitB (f i) 5 <;> rfl
 have HBi := Lib.hid (fun k (h0 : 0 ≤ k) (h1 : k ≤ 63) w => bit_c (f i) k w y0 y1 h0 h1)
 have HBj := Lib.hid (fun k (h0 : 0 ≤ k) (h1 : k ≤ 63) w => bit_c (f j) k w x0 x1 h0 h1)
 have Y1 := Lib.hid (HBi.out 1 (by omega) (by omega))
 have Y2 := Lib.hid (HBi.out 2 (by omega) (by omega))
 have Y6 := Lib.hid (HBi.out 6 (by omega) (by omega))
 have Y63 := Lib.hid (HBi.out 63 (by omega) (by omega))
 have Y5 := Lib.hid (HBi.out 5 (by omega) (by omega))
 have X1 := Lib.hid (HBj.out 1 (by omega) (by omega))
 have X2 := Lib.hid (HBj.out 2 (by omega) (by omega))
 have X6 := Lib.hid (HBj.out 6 (by omega) (by omega))
 have X63 := Lib.hid (HBj.out 63 (by omega) (by omega))
 have TY := Lib.hid (fun w => refTable_c (f i) w y0 y1)
 have TX := Lib.hid (fun w => refTable_c (f j) w x0 x1)
 have ty := tabI_le y0
 have tx := tabI_le x0
 obtain ⟨t, ht⟩ : ∃ t, inRun f j B nxe (f j) i = t := ⟨_, rfl⟩
 rw [ht] at hr ⊢
 clear ht HBi HBj
 obtain ⟨yi, hyi⟩ : ∃ yi, f i = yi := ⟨_, rfl⟩
 obtain ⟨xj, hxj⟩ : ∃ xj, f j = xj := ⟨_, rfl⟩
 rw [hyi, hxj] at hr
 rw [hyi] at HM Y1 Y2 Y6 Y63 Y5 TY ty y0 y1
 rw [hxj] at X1 X2 X6 X63 TX tx x0 x1
 have HYI := Lib.hid hyi
 have HXJ := Lib.hid hxj
 clear hyi hxj
 generalize bitB yi 1 = p1 at *
 generalize bitB yi 2 = p2 at *
 generalize bitB yi 6 = p6 at *
 generalize bitB yi 63 = p63 at *
 generalize bitB yi 5 = p5 at *
 generalize bitB xj 1 = q1 at *
 generalize bitB xj 2 = q2 at *
 generalize bitB xj 6 = q6 at *
 generalize bitB xj 63 = q63 at *
 generalize mayW B nxe yi = mw at *
 generalize tabI yi = tyv at *
 generalize tabI xj = txv at *
 obtain ⟨ty0, ty1, -, -⟩ := ty
 obtain ⟨tx0, tx1, -, -⟩ := tx
 have HR := Lib.hid hr
 clear hr
 have d1 : decide (8 ≤ (j : Int)) = false := by rw [decide_eq_false_iff_not]; omega
 have d2 : decide (8 ≤ j) = false := by rw [decide_eq_false_iff_not]; omega
 have d3 : decide (8 ≤ (i : Int)) = false := by rw [decide_eq_false_iff_not]; omega
 have d4 : decide (8 ≤ i) = false := by rw [decide_eq_false_iff_not]; omega
 have wj : IntKind.u64.wrap (j : Int) = j := by rw [IntKind.wrap_u64]; omega
 have wi : IntKind.u64.wrap (i : Int) = i := by rw [IntKind.wrap_u64]; omega
 go_enter Tryz.func128, Tryz.ntmps128
 go_upto_region 1 with (fail)
 refine wp_gen ?_; intro U hU
 have hUE : Ext w U := by rw [hU]; exact (by repeat (first | exact Ext.refl _ | assumption | refine Ext.alloc ?_ _ | refine Ext.drew ?_ | refine Ext.setCell ?_ (by first | (simp; done) | (dsimp only; omega)) _ | refine Ext.trans ?_ (by assumption)))
 have hU0 : U.heap[w.heap.size]? = some (.cells #[.int .u64 (f 0), .int .u64 (f 1), .int .u64 (f 2), .int .u64 (f 3), .int .u64 (f 4), .int .u64 (f 5), .int .u64 (f 6), .int .u64 (f 7), .int .i64 j, .bool r0, .bool r1, .bool r2, .int .i64 B, .bool nxe] 216 (0, 0)) := by rw [hU]; exact alloc_same ..
 obtain ⟨sb, hsb⟩ : ∃ sb, w.heap.size = sb := ⟨_, rfl⟩
 rw [hsb] at hU0 ⊢
 have UE := Lib.hid hUE
 have U0 := Lib.hid hU0
 have s8 := (heap_cell hU0 8).trans rfl
 have sj := (heap_cell hU0 j).trans (seen_at f _ _ _ _ _ _ j hj)
 have si := (heap_cell hU0 i).trans (seen_at f _ _ _ _ _ _ i hi)
 rw [HYI.out] at si
 rw [HXJ.out] at sj
 have sl := heap_lt hU0
 clear hU hUE hU0 hsb
 by_cases hij : i = j
 case pos =>
  have hbb : ((i : Int) == (j : Int)) = true := by rw [beq_iff_eq]; omega
  have HT : Hid (t = true) := Lib.hid (by rw [HR.out, hbb]; rfl)
  clear hij
  go_wp2
  go_ret
  exact ⟨by (rw [HT.out]; first | done | rfl), UE.out⟩
 have hbb : ((i : Int) == (j : Int)) = false := by rw [beq_eq_false_iff_ne]; omega
 have HR2 : Hid (t = ((((p1 == q1) && (p2 == q2) && (p6 == q6) && (p63 == q63)) && mw && p5) && (tyv == IntKind.u64.wrap (txv + 4096 * (i : Int) - 4096 * (j : Int))))) := Lib.hid (by rw [HR.out, hbb]; rfl)
 clear HR hij
 go_upto_region 5 with (fail)
 have hsame : ((p1 == q1) = false) ∨ ((p1 == q1) = true ∧ (p2 == q2) = false) ∨ ((p1 == q1) = true ∧ (p2 == q2) = true ∧ (p6 == q6) = false) ∨ ((p1 == q1) = true ∧ (p2 == q2) = true ∧ (p6 == q6) = true ∧ (p63 == q63) = false) ∨ ((p1 == q1) = true ∧ (p2 == q2) = true ∧ (p6 == q6) = true ∧ (p63 == q63) = true) := by
  cases (p1 == q1) <;> cases (p2 == q2) <;> cases (p6 == q6) <;> cases (p63 == q63) <;> simp
 have HLOW : Hid (∀ w1, Ext U w1 → w1.heap[sb]? = some (.cells #[.int .u64 (f 0), .int .u64 (f 1), .int .u64 (f 2), .int .u64 (f 3), .int .u64 (f 4), .int .u64 (f 5), .int .u64 (f 6), .int .u64 (f 7), .int .i64 j, .bool r0, .bool r1, .bool r2, .int .i64 B, .bool nxe] 216 (0, 0))) := Lib.hid fun w1 k => (k.block _ (heap_lt U0.out)).trans U0.out
 rcases hsame with e1 | ⟨e1, e2⟩ | ⟨e1, e2, e3⟩ | ⟨e1, e2, e3, e4⟩ | ⟨e1, e2, e3, e4⟩
 ·have HT : Hid (t = false) := Lib.hid (by rw [HR2.out]; simp [e1])
  clear HR2
  go_upto_region 6 with (first | (go_at_call 59; (with_reducible refine (Y1.out _).mono ?_); clear Y1; rintro e a1 ⟨rfl, ha1⟩) | (go_at_call 59; (with_reducible refine (X1.out _).mono ?_); clear X1; rintro e a2 ⟨rfl, ha2⟩))
  have EW := Lib.hid (ha1.trans (ha2))
  clear ha1 ha2
  have sx := heap_lt (HLOW.out _ EW.out)
  refine region_mixG [.q [0, 1, 2, 3], .l 4 3, .q [5, 6, 7], .l 8 3, .q [9, 10, 11, 13, 15, 16, 17, 19, 20, 21, 22], .l 12 3, .l 14 3, .q [18, 23, 24, 25, 26]] (by kernel_rfl) (by kernel_rfl) ?_
  (try refine ⟨fun h => absurd h (by simp), ?_⟩); (repeat (unfold wpPlan; simp only [pickL, List.map_cons, List.map_nil, List.getD_cons_succ, List.getD_cons_zero]; (repeat go_big_quiet_step (fail)); refine wpQuiet_nil ?_)); unfold wpPlan; intro u1 hu1; (try simp only [pickL, List.map_cons, List.map_nil, List.getD_cons_succ, List.getD_cons_zero])
  go_wp2
  refine ⟨?_, ?_⟩
  ·(try intro _); exact hu1
  (try refine ⟨fun h => absurd h (by simp), ?_⟩); (repeat (unfold wpPlan; simp only [pickL, List.map_cons, List.map_nil, List.getD_cons_succ, List.getD_cons_zero]; (repeat go_big_quiet_step (fail)); refine wpQuiet_nil ?_)); unfold wpPlan; intro u2 hu2; (try simp only [pickL, List.map_cons, List.map_nil, List.getD_cons_succ, List.getD_cons_zero])
  go_wp2
  refine ⟨?_, ?_⟩
  ·(try intro _); exact hu2
  (try refine ⟨fun h => absurd h (by simp), ?_⟩); (repeat (unfold wpPlan; simp only [pickL, List.map_cons, List.map_nil, List.getD_cons_succ, List.getD_cons_zero]; (repeat go_big_quiet_step (fail)); refine wpQuiet_nil ?_)); unfold wpPlan; intro u3 hu3; (try simp only [pickL, List.map_cons, List.map_nil, List.getD_cons_succ, List.getD_cons_zero])
  go_wp2
  refine ⟨?_, ?_⟩
  ·(try intro _); exact hu3
  (try refine ⟨fun h => absurd h (by simp), ?_⟩); (repeat (unfold wpPlan; simp only [pickL, List.map_cons, List.map_nil, List.getD_cons_succ, List.getD_cons_zero]; (repeat go_big_quiet_step (fail)); refine wpQuiet_nil ?_)); unfold wpPlan; intro u4 hu4; (try simp only [pickL, List.map_cons, List.map_nil, List.getD_cons_succ, List.getD_cons_zero])
  go_wp2
  refine ⟨?_, ?_⟩
  ·(try intro _); exact hu4
  (try refine ⟨fun h => absurd h (by simp), ?_⟩); (repeat (unfold wpPlan; simp only [pickL, List.map_cons, List.map_nil, List.getD_cons_succ, List.getD_cons_zero]; (repeat go_big_quiet_step (fail)); refine wpQuiet_nil ?_)); unfold wpPlan; intro u5 hu5; (try simp only [pickL, List.map_cons, List.map_nil, List.getD_cons_succ, List.getD_cons_zero])
  go_wp2
  (try go_ret)
  exact ⟨by (rw [HT.out]; first | done | rfl), UE.out.trans (EW.out.trans (hu1.trans (hu2.trans (hu3.trans (hu4.trans hu5)))))⟩
 ·have HT : Hid (t = false) := Lib.hid (by rw [HR2.out]; simp [e1, e2])
  clear HR2
  go_upto_region 6 with (first | (go_at_call 59; (with_reducible refine (Y1.out _).mono ?_); clear Y1; rintro e a1 ⟨rfl, ha1⟩) | (go_at_call 59; (with_reducible refine (X1.out _).mono ?_); clear X1; rintro e a2 ⟨rfl, ha2⟩) | (go_at_call 59; (with_reducible refine (Y2.out _).mono ?_); clear Y2; rintro e a3 ⟨rfl, ha3⟩) | (go_at_call 59; (with_reducible refine (X2.out _).mono ?_); clear X2; rintro e a4 ⟨rfl, ha4⟩))
  have EW := Lib.hid (ha1.trans (ha2.trans (ha3.trans (ha4))))
  clear ha1 ha2 ha3 ha4
  have sx := heap_lt (HLOW.out _ EW.out)
  refine region_mixG [.q [0, 1, 2, 3], .l 4 3, .q [5, 6, 7], .l 8 3, .q [9, 10, 11, 13, 15, 16, 17, 19, 20, 21, 22], .l 12 3, .l 14 3, .q [18, 23, 24, 25, 26]] (by kernel_rfl) (by kernel_rfl) ?_
  (try refine ⟨fun h => absurd h (by simp), ?_⟩); (repeat (unfold wpPlan; simp only [pickL, List.map_cons, List.map_nil, List.getD_cons_succ, List.getD_cons_zero]; (repeat go_big_quiet_step (fail)); refine wpQuiet_nil ?_)); unfold wpPlan; intro u1 hu1; (try simp only [pickL, List.map_cons, List.map_nil, List.getD_cons_succ, List.getD_cons_zero])
  go_wp2
  refine ⟨?_, ?_⟩
  ·(try intro _); exact hu1
  (try refine ⟨fun h => absurd h (by simp), ?_⟩); (repeat (unfold wpPlan; simp only [pickL, List.map_cons, List.map_nil, List.getD_cons_succ, List.getD_cons_zero]; (repeat go_big_quiet_step (fail)); refine wpQuiet_nil ?_)); unfold wpPlan; intro u2 hu2; (try simp only [pickL, List.map_cons, List.map_nil, List.getD_cons_succ, List.getD_cons_zero])
  go_wp2
  refine ⟨?_, ?_⟩
  ·(try intro _); exact hu2
  (try refine ⟨fun h => absurd h (by simp), ?_⟩); (repeat (unfold wpPlan; simp only [pickL, List.map_cons, List.map_nil, List.getD_cons_succ, List.getD_cons_zero]; (repeat go_big_quiet_step (fail)); refine wpQuiet_nil ?_)); unfold wpPlan; intro u3 hu3; (try simp only [pickL, List.map_cons, List.map_nil, List.getD_cons_succ, List.getD_cons_zero])
  go_wp2
  refine ⟨?_, ?_⟩
  ·(try intro _); exact hu3
  (try refine ⟨fun h => absurd h (by simp), ?_⟩); (repeat (unfold wpPlan; simp only [pickL, List.map_cons, List.map_nil, List.getD_cons_succ, List.getD_cons_zero]; (repeat go_big_quiet_step (fail)); refine wpQuiet_nil ?_)); unfold wpPlan; intro u4 hu4; (try simp only [pickL, List.map_cons, List.map_nil, List.getD_cons_succ, List.getD_cons_zero])
  go_wp2
  refine ⟨?_, ?_⟩
  ·(try intro _); exact hu4
  (try refine ⟨fun h => absurd h (by simp), ?_⟩); (repeat (unfold wpPlan; simp only [pickL, List.map_cons, List.map_nil, List.getD_cons_succ, List.getD_cons_zero]; (repeat go_big_quiet_step (fail)); refine wpQuiet_nil ?_)); unfold wpPlan; intro u5 hu5; (try simp only [pickL, List.map_cons, List.map_nil, List.getD_cons_succ, List.getD_cons_zero])
  go_wp2
  (try go_ret)
  exact ⟨by (rw [HT.out]; first | done | rfl), UE.out.trans (EW.out.trans (hu1.trans (hu2.trans (hu3.trans (hu4.trans hu5)))))⟩
 ·have HT : Hid (t = false) := Lib.hid (by rw [HR2.out]; simp [e1, e2, e3])
  clear HR2
  go_upto_region 6 with (first | (go_at_call 59; (with_reducible refine (Y1.out _).mono ?_); clear Y1; rintro e a1 ⟨rfl, ha1⟩) | (go_at_call 59; (with_reducible refine (X1.out _).mono ?_); clear X1; rintro e a2 ⟨rfl, ha2⟩) | (go_at_call 59; (with_reducible refine (Y2.out _).mono ?_); clear Y2; rintro e a3 ⟨rfl, ha3⟩) | (go_at_call 59; (with_reducible refine (X2.out _).mono ?_); clear X2; rintro e a4 ⟨rfl, ha4⟩) | (go_at_call 59; (with_reducible refine (Y6.out _).mono ?_); clear Y6; rintro e a5 ⟨rfl, ha5⟩) | (go_at_call 59; (with_reducible refine (X6.out _).mono ?_); clear X6; rintro e a6 ⟨rfl, ha6⟩))
  have EW := Lib.hid (ha1.trans (ha2.trans (ha3.trans (ha4.trans (ha5.trans (ha6))))))
  clear ha1 ha2 ha3 ha4 ha5 ha6
  have sx := heap_lt (HLOW.out _ EW.out)
  refine region_mixG [.q [0, 1, 2, 3], .l 4 3, .q [5, 6, 7], .l 8 3, .q [9, 10, 11, 13, 15, 16, 17, 19, 20, 21, 22], .l 12 3, .l 14 3, .q [18, 23, 24, 25, 26]] (by kernel_rfl) (by kernel_rfl) ?_
  (try refine ⟨fun h => absurd h (by simp), ?_⟩); (repeat (unfold wpPlan; simp only [pickL, List.map_cons, List.map_nil, List.getD_cons_succ, List.getD_cons_zero]; (repeat go_big_quiet_step (fail)); refine wpQuiet_nil ?_)); unfold wpPlan; intro u1 hu1; (try simp only [pickL, List.map_cons, List.map_nil, List.getD_cons_succ, List.getD_cons_zero])
  go_wp2
  refine ⟨?_, ?_⟩
  ·(try intro _); exact hu1
  (try refine ⟨fun h => absurd h (by simp), ?_⟩); (repeat (unfold wpPlan; simp only [pickL, List.map_cons, List.map_nil, List.getD_cons_succ, List.getD_cons_zero]; (repeat go_big_quiet_step (fail)); refine wpQuiet_nil ?_)); unfold wpPlan; intro u2 hu2; (try simp only [pickL, List.map_cons, List.map_nil, List.getD_cons_succ, List.getD_cons_zero])
  go_wp2
  refine ⟨?_, ?_⟩
  ·(try intro _); exact hu2
  (try refine ⟨fun h => absurd h (by simp), ?_⟩); (repeat (unfold wpPlan; simp only [pickL, List.map_cons, List.map_nil, List.getD_cons_succ, List.getD_cons_zero]; (repeat go_big_quiet_step (fail)); refine wpQuiet_nil ?_)); unfold wpPlan; intro u3 hu3; (try simp only [pickL, List.map_cons, List.map_nil, List.getD_cons_succ, List.getD_cons_zero])
  go_wp2
  refine ⟨?_, ?_⟩
  ·(try intro _); exact hu3
  (try refine ⟨fun h => absurd h (by simp), ?_⟩); (repeat (unfold wpPlan; simp only [pickL, List.map_cons, List.map_nil, List.getD_cons_succ, List.getD_cons_zero]; (repeat go_big_quiet_step (fail)); refine wpQuiet_nil ?_)); unfold wpPlan; intro u4 hu4; (try simp only [pickL, List.map_cons, List.map_nil, List.getD_cons_succ, List.getD_cons_zero])
  go_wp2
  refine ⟨?_, ?_⟩
  ·(try intro _); exact hu4
  (try refine ⟨fun h => absurd h (by simp), ?_⟩); (repeat (unfold wpPlan; simp only [pickL, List.map_cons, List.map_nil, List.getD_cons_succ, List.getD_cons_zero]; (repeat go_big_quiet_step (fail)); refine wpQuiet_nil ?_)); unfold wpPlan; intro u5 hu5; (try simp only [pickL, List.map_cons, List.map_nil, List.getD_cons_succ, List.getD_cons_zero])
  go_wp2
  (try go_ret)
  exact ⟨by (rw [HT.out]; first | done | rfl), UE.out.trans (EW.out.trans (hu1.trans (hu2.trans (hu3.trans (hu4.trans hu5)))))⟩
 ·have HT : Hid (t = false) := Lib.hid (by rw [HR2.out]; simp [e1, e2, e3, e4])
  clear HR2
  go_upto_region 6 with (first | (go_at_call 59; (with_reducible refine (Y1.out _).mono ?_); clear Y1; rintro e a1 ⟨rfl, ha1⟩) | (go_at_call 59; (with_reducible refine (X1.out _).mono ?_); clear X1; rintro e a2 ⟨rfl, ha2⟩) | (go_at_call 59; (with_reducible refine (Y2.out _).mono ?_); clear Y2; rintro e a3 ⟨rfl, ha3⟩) | (go_at_call 59; (with_reducible refine (X2.out _).mono ?_); clear X2; rintro e a4 ⟨rfl, ha4⟩) | (go_at_call 59; (with_reducible refine (Y6.out _).mono ?_); clear Y6; rintro e a5 ⟨rfl, ha5⟩) | (go_at_call 59; (with_reducible refine (X6.out _).mono ?_); clear X6; rintro e a6 ⟨rfl, ha6⟩) | (go_at_call 59; (with_reducible refine (Y63.out _).mono ?_); clear Y63; rintro e a7 ⟨rfl, ha7⟩) | (go_at_call 59; (with_reducible refine (X63.out _).mono ?_); clear X63; rintro e a8 ⟨rfl, ha8⟩))
  have EW := Lib.hid (ha1.trans (ha2.trans (ha3.trans (ha4.trans (ha5.trans (ha6.trans (ha7.trans (ha8))))))))
  clear ha1 ha2 ha3 ha4 ha5 ha6 ha7 ha8
  have sx := heap_lt (HLOW.out _ EW.out)
  refine region_mixG [.q [0, 1, 2, 3], .l 4 3, .q [5, 6, 7], .l 8 3, .q [9, 10, 11, 13, 15, 16, 17, 19, 20, 21, 22], .l 12 3, .l 14 3, .q [18, 23, 24, 25, 26]] (by kernel_rfl) (by kernel_rfl) ?_
  (try refine ⟨fun h => absurd h (by simp), ?_⟩); (repeat (unfold wpPlan; simp only [pickL, List.map_cons, List.map_nil, List.getD_cons_succ, List.getD_cons_zero]; (repeat go_big_quiet_step (fail)); refine wpQuiet_nil ?_)); unfold wpPlan; intro u1 hu1; (try simp only [pickL, List.map_cons, List.map_nil, List.getD_cons_succ, List.getD_cons_zero])
  go_wp2
  refine ⟨?_, ?_⟩
  ·(try intro _); exact hu1
  (try refine ⟨fun h => absurd h (by simp), ?_⟩); (repeat (unfold wpPlan; simp only [pickL, List.map_cons, List.map_nil, List.getD_cons_succ, List.getD_cons_zero]; (repeat go_big_quiet_step (fail)); refine wpQuiet_nil ?_)); unfold wpPlan; intro u2 hu2; (try simp only [pickL, List.map_cons, List.map_nil, List.getD_cons_succ, List.getD_cons_zero])
  go_wp2
  refine ⟨?_, ?_⟩
  ·(try intro _); exact hu2
  (try refine ⟨fun h => absurd h (by simp), ?_⟩); (repeat (unfold wpPlan; simp only [pickL, List.map_cons, List.map_nil, List.getD_cons_succ, List.getD_cons_zero]; (repeat go_big_quiet_step (fail)); refine wpQuiet_nil ?_)); unfold wpPlan; intro u3 hu3; (try simp only [pickL, List.map_cons, List.map_nil, List.getD_cons_succ, List.getD_cons_zero])
  go_wp2
  refine ⟨?_, ?_⟩
  ·(try intro _); exact hu3
  (try refine ⟨fun h => absurd h (by simp), ?_⟩); (repeat (unfold wpPlan; simp only [pickL, List.map_cons, List.map_nil, List.getD_cons_succ, List.getD_cons_zero]; (repeat go_big_quiet_step (fail)); refine wpQuiet_nil ?_)); unfold wpPlan; intro u4 hu4; (try simp only [pickL, List.map_cons, List.map_nil, List.getD_cons_succ, List.getD_cons_zero])
  go_wp2
  refine ⟨?_, ?_⟩
  ·(try intro _); exact hu4
  (try refine ⟨fun h => absurd h (by simp), ?_⟩); (repeat (unfold wpPlan; simp only [pickL, List.map_cons, List.map_nil, List.getD_cons_succ, List.getD_cons_zero]; (repeat go_big_quiet_step (fail)); refine wpQuiet_nil ?_)); unfold wpPlan; intro u5 hu5; (try simp only [pickL, List.map_cons, List.map_nil, List.getD_cons_succ, List.getD_cons_zero])
  go_wp2
  (try go_ret)
  exact ⟨by (rw [HT.out]; first | done | rfl), UE.out.trans (EW.out.trans (hu1.trans (hu2.trans (hu3.trans (hu4.trans hu5)))))⟩
 ·have HT : Hid (t = ((mw && p5) && (tyv == IntKind.u64.wrap (txv + 4096 * (i : Int) - 4096 * (j : Int))))) := Lib.hid (by rw [HR2.out]; simp [e1, e2, e3, e4])
  clear HR2
  go_upto_region 6 with (first | (go_at_call 59; (with_reducible refine (Y1.out _).mono ?_); clear Y1; rintro e a1 ⟨rfl, ha1⟩) | (go_at_call 59; (with_reducible refine (X1.out _).mono ?_); clear X1; rintro e a2 ⟨rfl, ha2⟩) | (go_at_call 59; (with_reducible refine (Y2.out _).mono ?_); clear Y2; rintro e a3 ⟨rfl, ha3⟩) | (go_at_call 59; (with_reducible refine (X2.out _).mono ?_); clear X2; rintro e a4 ⟨rfl, ha4⟩) | (go_at_call 59; (with_reducible refine (Y6.out _).mono ?_); clear Y6; rintro e a5 ⟨rfl, ha5⟩) | (go_at_call 59; (with_reducible refine (X6.out _).mono ?_); clear X6; rintro e a6 ⟨rfl, ha6⟩) | (go_at_call 59; (with_reducible refine (Y63.out _).mono ?_); clear Y63; rintro e a7 ⟨rfl, ha7⟩) | (go_at_call 59; (with_reducible refine (X63.out _).mono ?_); clear X63; rintro e a8 ⟨rfl, ha8⟩))
  have EW := Lib.hid (ha1.trans (ha2.trans (ha3.trans (ha4.trans (ha5.trans (ha6.trans (ha7.trans (ha8))))))))
  clear ha1 ha2 ha3 ha4 ha5 ha6 ha7 ha8
  have hSB := HLOW.out _ EW.out
  have s0 := (heap_cell hSB 0).trans rfl
  have s1 := (heap_cell hSB 1).trans rfl
  have s2 := (heap_cell hSB 2).trans rfl
  have s3 := (heap_cell hSB 3).trans rfl
  have s4 := (heap_cell hSB 4).trans rfl
  have s5 := (heap_cell hSB 5).trans rfl
  have s6 := (heap_cell hSB 6).trans rfl
  have s7 := (heap_cell hSB 7).trans rfl
  have s8 := (heap_cell hSB 8).trans rfl
  have s9 := (heap_cell hSB 9).trans rfl
  have s10 := (heap_cell hSB 10).trans rfl
  have s11 := (heap_cell hSB 11).trans rfl
  have s12 := (heap_cell hSB 12).trans rfl
  have s13 := (heap_cell hSB 13).trans rfl
  have sx := heap_lt hSB
  clear hSB
  cases mw <;> cases p5
  case true.true =>
   have HT2 : Hid (t = (tyv == IntKind.u64.wrap (txv + 4096 * (i : Int) - 4096 * (j : Int)))) := Lib.hid (by rw [HT.out]; rfl)
   clear HT
   refine region_mixG [.q [0, 1, 2, 3], .l 4 3, .q [5, 6, 7], .l 8 3, .q [9, 10, 11, 13, 15, 16, 17, 19, 20, 21, 22], .l 12 3, .l 14 3, .q [18, 23, 24, 25, 26]] (by kernel_rfl) (by kernel_rfl) ?_
   (try refine ⟨fun h => absurd h (by simp), ?_⟩); (repeat (unfold wpPlan; simp only [pickL, List.map_cons, List.map_nil, List.getD_cons_succ, List.getD_cons_zero]; (repeat go_big_quiet_step (fail)); refine wpQuiet_nil ?_)); unfold wpPlan; intro u1 hu1; (try simp only [pickL, List.map_cons, List.map_nil, List.getD_cons_succ, List.getD_cons_zero])
   go_wp2_with (first | (go_at_call 127; refine (HM.out _).mono ?_; rintro e u2 ⟨rfl, hu2⟩))
   refine ⟨?_, ?_⟩
   ·(try intro _); exact hu1.trans hu2
   (try refine ⟨fun h => absurd h (by simp), ?_⟩); (repeat (unfold wpPlan; simp only [pickL, List.map_cons, List.map_nil, List.getD_cons_succ, List.getD_cons_zero]; (repeat go_big_quiet_step (fail)); refine wpQuiet_nil ?_)); unfold wpPlan; intro u3 hu3; (try simp only [pickL, List.map_cons, List.map_nil, List.getD_cons_succ, List.getD_cons_zero])
   go_wp2_with (first | (go_at_call 59; refine (Y5.out _).mono ?_; rintro e u4 ⟨rfl, hu4⟩))
   refine ⟨?_, ?_⟩
   ·(try intro _); exact hu3.trans hu4
   have EV := Lib.hid (EW.out.trans ((hu1.trans hu2).trans (hu3.trans hu4)))
   clear hu1 hu2 hu3 hu4 s0 s1 s2 s3 s4 s5 s6 s7 s8 s9 s10 s11 s12 s13 sx
   have hSB := HLOW.out _ EV.out
   have s8 := (heap_cell hSB 8).trans rfl
   have sx := heap_lt hSB
   clear hSB
   (try refine ⟨fun h => absurd h (by simp), ?_⟩); (repeat (unfold wpPlan; simp only [pickL, List.map_cons, List.map_nil, List.getD_cons_succ, List.getD_cons_zero]; (repeat go_big_quiet_step (fail)); refine wpQuiet_nil ?_)); unfold wpPlan; intro u5 hu5; (try simp only [pickL, List.map_cons, List.map_nil, List.getD_cons_succ, List.getD_cons_zero])
   go_wp2_with (first | (go_at_call 64; (with_reducible refine (TY.out _).mono ?_); rintro e u6 ⟨rfl, hu6⟩))
   refine ⟨?_, ?_⟩
   ·(try intro _); exact hu5.trans hu6
   clear TY
   (try refine ⟨fun h => absurd h (by simp), ?_⟩); (repeat (unfold wpPlan; simp only [pickL, List.map_cons, List.map_nil, List.getD_cons_succ, List.getD_cons_zero]; (repeat go_big_quiet_step (fail)); refine wpQuiet_nil ?_)); unfold wpPlan; intro u7 hu7; (try simp only [pickL, List.map_cons, List.map_nil, List.getD_cons_succ, List.getD_cons_zero])
   go_wp2_with (first | (go_at_call 64; (with_reducible refine (TX.out _).mono ?_); rintro e u8 ⟨rfl, hu8⟩))
   refine ⟨?_, ?_⟩
   ·(try intro _); exact hu7.trans hu8
   (try refine ⟨fun h => absurd h (by simp), ?_⟩); (repeat (unfold wpPlan; simp only [pickL, List.map_cons, List.map_nil, List.getD_cons_succ, List.getD_cons_zero]; (repeat go_big_quiet_step (fail)); refine wpQuiet_nil ?_)); unfold wpPlan; intro u9 hu9; (try simp only [pickL, List.map_cons, List.map_nil, List.getD_cons_succ, List.getD_cons_zero])
   go_wp2
   (try go_ret)
   exact ⟨by (rw [HT2.out]; first | done | rfl), UE.out.trans (EV.out.trans ((hu5.trans hu6).trans ((hu7.trans hu8).trans hu9)))⟩
  case true.false =>
   have HT2 : Hid (t = false) := Lib.hid (by rw [HT.out]; rfl)
   clear HT
   refine region_mixG [.q [0, 1, 2, 3], .l 4 3, .q [5, 6, 7], .l 8 3, .q [9, 10, 11, 13, 15, 16, 17, 19, 20, 21, 22], .l 12 3, .l 14 3, .q [18, 23, 24, 25, 26]] (by kernel_rfl) (by kernel_rfl) ?_
   (try refine ⟨fun h => absurd h (by simp), ?_⟩); (repeat (unfold wpPlan; simp only [pickL, List.map_cons, List.map_nil, List.getD_cons_succ, List.getD_cons_zero]; (repeat go_big_quiet_step (fail)); refine wpQuiet_nil ?_)); unfold wpPlan; intro u1 hu1; (try simp only [pickL, List.map_cons, List.map_nil, List.getD_cons_succ, List.getD_cons_zero])
   go_wp2_with (first | (go_at_call 127; refine (HM.out _).mono ?_; rintro e u2 ⟨rfl, hu2⟩))
   refine ⟨?_, ?_⟩
   ·(try intro _); exact hu1.trans hu2
   (try refine ⟨fun h => absurd h (by simp), ?_⟩); (repeat (unfold wpPlan; simp only [pickL, List.map_cons, List.map_nil, List.getD_cons_succ, List.getD_cons_zero]; (repeat go_big_quiet_step (fail)); refine wpQuiet_nil ?_)); unfold wpPlan; intro u3 hu3; (try simp only [pickL, List.map_cons, List.map_nil, List.getD_cons_succ, List.getD_cons_zero])
   go_wp2_with (first | (go_at_call 59; refine (Y5.out _).mono ?_; rintro e u4 ⟨rfl, hu4⟩))
   refine ⟨?_, ?_⟩
   ·(try intro _); exact hu3.trans hu4
   (try refine ⟨fun h => absurd h (by simp), ?_⟩); (repeat (unfold wpPlan; simp only [pickL, List.map_cons, List.map_nil, List.getD_cons_succ, List.getD_cons_zero]; (repeat go_big_quiet_step (fail)); refine wpQuiet_nil ?_)); unfold wpPlan; intro u5 hu5; (try simp only [pickL, List.map_cons, List.map_nil, List.getD_cons_succ, List.getD_cons_zero])
   go_wp2
   refine ⟨?_, ?_⟩
   ·(try intro _); exact hu5
   (try refine ⟨fun h => absurd h (by simp), ?_⟩); (repeat (unfold wpPlan; simp only [pickL, List.map_cons, List.map_nil, List.getD_cons_succ, List.getD_cons_zero]; (repeat go_big_quiet_step (fail)); refine wpQuiet_nil ?_)); unfold wpPlan; intro u7 hu7; (try simp only [pickL, List.map_cons, List.map_nil, List.getD_cons_succ, List.getD_cons_zero])
   go_wp2
   refine ⟨?_, ?_⟩
   ·(try intro _); exact hu7
   (try refine ⟨fun h => absurd h (by simp), ?_⟩); (repeat (unfold wpPlan; simp only [pickL, List.map_cons, List.map_nil, List.getD_cons_succ, List.getD_cons_zero]; (repeat go_big_quiet_step (fail)); refine wpQuiet_nil ?_)); unfold wpPlan; intro u9 hu9; (try simp only [pickL, List.map_cons, List.map_nil, List.getD_cons_succ, List.getD_cons_zero])
   go_wp2
   (try go_ret)
   exact ⟨by (rw [HT2.out]; first | done | rfl), UE.out.trans (EW.out.trans ((hu1.trans hu2).trans ((hu3.trans hu4).trans (hu5.trans (hu7.trans hu9)))))⟩
  all_goals
   have HT2 : Hid (t = false) := Lib.hid (by rw [HT.out]; rfl)
   clear HT
   refine region_mixG [.q [0, 1, 2, 3], .l 4 3, .q [5, 6, 7], .l 8 3, .q [9, 10, 11, 13, 15, 16, 17, 19, 20, 21, 22], .l 12 3, .l 14 3, .q [18, 23, 24, 25, 26]] (by kernel_rfl) (by kernel_rfl) ?_
   (try refine ⟨fun h => absurd h (by simp), ?_⟩); (repeat (unfold wpPlan; simp only [pickL, List.map_cons, List.map_nil, List.getD_cons_succ, List.getD_cons_zero]; (repeat go_big_quiet_step (fail)); refine wpQuiet_nil ?_)); unfold wpPlan; intro u1 hu1; (try simp only [pickL, List.map_cons, List.map_nil, List.getD_cons_succ, List.getD_cons_zero])
   go_wp2_with (first | (go_at_call 127; refine (HM.out _).mono ?_; rintro e u2 ⟨rfl, hu2⟩))
   refine ⟨?_, ?_⟩
   ·(try intro _); exact hu1.trans hu2
   (try refine ⟨fun h => absurd h (by simp), ?_⟩); (repeat (unfold wpPlan; simp only [pickL, List.map_cons, List.map_nil, List.getD_cons_succ, List.getD_cons_zero]; (repeat go_big_quiet_step (fail)); refine wpQuiet_nil ?_)); unfold wpPlan; intro u3 hu3; (try simp only [pickL, List.map_cons, List.map_nil, List.getD_cons_succ, List.getD_cons_zero])
   go_wp2
   refine ⟨?_, ?_⟩
   ·(try intro _); exact hu3
   (try refine ⟨fun h => absurd h (by simp), ?_⟩); (repeat (unfold wpPlan; simp only [pickL, List.map_cons, List.map_nil, List.getD_cons_succ, List.getD_cons_zero]; (repeat go_big_quiet_step (fail)); refine wpQuiet_nil ?_)); unfold wpPlan; intro u5 hu5; (try simp only [pickL, List.map_cons, List.map_nil, List.getD_cons_succ, List.getD_cons_zero])
   go_wp2
   refine ⟨?_, ?_⟩
   ·(try intro _); exact hu5
   (try refine ⟨fun h => absurd h (by simp), ?_⟩); (repeat (unfold wpPlan; simp only [pickL, List.map_cons, List.map_nil, List.getD_cons_succ, List.getD_cons_zero]; (repeat go_big_quiet_step (fail)); refine wpQuiet_nil ?_)); unfold wpPlan; intro u7 hu7; (try simp only [pickL, List.map_cons, List.map_nil, List.getD_cons_succ, List.getD_cons_zero])
   go_wp2
   refine ⟨?_, ?_⟩
   ·(try intro _); exact hu7
   (try refine ⟨fun h => absurd h (by simp), ?_⟩); (repeat (unfold wpPlan; simp only [pickL, List.map_cons, List.map_nil, List.getD_cons_succ, List.getD_cons_zero]; (repeat go_big_quiet_step (fail)); refine wpQuiet_nil ?_)); unfold wpPlan; intro u9 hu9; (try simp only [pickL, List.map_cons, List.map_nil, List.getD_cons_succ, List.getD_cons_zero])
   go_wp2
   (try go_ret)
   exact ⟨by (rw [HT2.out]; first | done | rfl), UE.out.trans (EW.out.trans ((hu1.trans hu2).trans (hu3.trans (hu5.trans (hu7.trans hu9)))))⟩
end Go.Proofs.YtkfonacokamfiaaGreat
