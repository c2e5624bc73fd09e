/- Joined texts, part 34 of what the law stands on: each as its own head says. -/
import Derived.Test.YtkfonacokamfiaaGreatGoz32
import Derived.Test.YtkfonacokamfiaaGreatGoz33
import Derived.Test.YtkfonacokamfiaaGreatGoz18
import Derived.Test.YtkfonacokamfiaaGreatGoz26
import Derived.Test.YtkfonacokamfiaaGreatGoz22
import Derived.Test.YtkfonacokamfiaaGreatGoz24
import Derived.Test.YtkfonacokamfiaaGreatGoz19
/- Prefetch's laws: awake. -/
namespace Go.Proofs.YtkfonacokamfiaaGreat
set_option linter.unusedVariables false
set_option linter.unusedSimpArgs false
open Go.RowKit
attribute [local go_sem] wext_cell wext_frozen wext_heap alloc_cell alloc_frozen alloc_heap setCell_cell objCell_cells objFrozen_cells
def tiny15 : List PutD := [⟨0, 1, 7, 0⟩, ⟨8, 2, 7, 0⟩, ⟨16, 3, 7, 0⟩, ⟨25, 5, 7, 0⟩]
theorem tiny15_at {W : World} {g : Nat} {e : TypeId} (h : W.heap[g]? = some (.cells #[.int .u16 0, .int .u16 1, .int .u8 7, .int .u64 0, .int .u16 8, .int .u16 2, .int .u8 7, .int .u64 0, .int .u16 16, .int .u16 3, .int .u8 7, .int .u64 0, .int .u16 25, .int .u16 5, .int .u8 7, .int .u64 0] e (0, 0))) :
  ListAt W (.slice (some ⟨g, 0, none⟩) 4 4) 4 PutD.cells PutD.ok tiny15 := by
 refine ⟨some ⟨g, 0, none⟩, 4, rfl, by simp [tiny15], by simp [maxLen], fun i hi => ?_, fun i hi => ⟨g, 0, rfl, heap_lt h, fun j u hu => ?_⟩⟩
 ·have : i = 0 ∨ i = 1 ∨ i = 2 ∨ i = 3 := by simp [tiny15] at hi; omega
  rcases this with rfl | rfl | rfl | rfl <;> (simp only [tiny15, List.getD_cons_zero, List.getD_cons_succ, PutD.ok]; omega)
 ·have : i = 0 ∨ i = 1 ∨ i = 2 ∨ i = 3 := by simp [tiny15] at hi; omega
  have hj : j < 4 := by
   have := (List.getElem?_eq_some_iff.1 hu).1
   simpa [PutD.cells] using this
  have hj4 : j = 0 ∨ j = 1 ∨ j = 2 ∨ j = 3 := by omega
  rcases this with rfl | rfl | rfl | rfl <;> rcases hj4 with rfl | rfl | rfl | rfl <;> (rw [← hu]; exact heap_cell h _)
def who0 : Who := ⟨0, 0, 0, 0, 0, 0, false⟩
theorem who0_ok : who0.ok := by
 refine ⟨by simp [who0], fun l => ?_, by simp [who0], by simp [who0]⟩
 show -9223372036854775808 ≤ pkF 0 0 0 l ∧ pkF 0 0 0 l ≤ 9223372036854775807
 unfold pkF; split; omega; split <;> omega
def opt0 (M : Int → Int) : OSt := ⟨M, [], [], fun _ => []⟩
theorem tiny15_path : (pathF (builtM (tiny15.take 100)) 0 false 4096).length = 4 := by decide +kernel
theorem tiny15_ahead : (aheadF (clampR 2) (clampR 2) who0 (opt0 (builtM (tiny15.take 100))) [4096, 8192]).2 = [4096] := by decide +kernel
theorem plan_ex0 : nextB (itB 140737488347136 0) = true := by decide +kernel
theorem plan_ex1 : nextB (itB 140737488347136 1) = false := by decide +kernel
theorem plan_ex : itB 140737488347136 1 = 140737488351232 := by decide +kernel
theorem planAt_new {w : World} {G : List Nat} (hG : ∀ x ∈ G, x < w.heap.size) {ks : List Int} (hk : ∀ x ∈ ks, 0 ≤ x ∧ x ≤ 18446744073709551615) (hl : ks.length ≤ maxLen) {cap : Nat} :
  PlanAt (w.alloc (.cells (ks.map (.int .u64 ·)).toArray 23)) G (.slice (some ⟨w.heap.size, 0, none⟩) ks.length cap) ks := by
 refine ⟨_, _, rfl, hl, hk, fun j hj => ⟨_, _, rfl, fun hm => by have := hG _ hm; omega, by simp, ?_⟩⟩
 rw [heap_cell (alloc_same ..)]
 simp [List.getD, hj]
set_option maxHeartbeats 2000000 in
set_option maxRecDepth 100000 in
theorem awake15_c (w : World) : Calls Tryz.prog 5 #[] w fun e w' => e = .returned (.bool true) ∧ Ext w w' := by
 go_enter Tryz.func5, Tryz.ntmps5
 go_upto_region 2 with (first | (go_at_call 10; refine (plan_c 140737488347136 3 _ (by omega) (by omega) (by omega) (by omega)).mono ?_; rintro e w1 ⟨pv, k, rfl, hO, hk, hp, hd, hE1⟩))
 have hk1 : k = 1 := by
  rcases Nat.lt_trichotomy k 1 with h | h | h
  ·have h0 : k = 0 := by omega
   subst h0
   rcases hd with hd | hd
   ·exact absurd hd (by decide)
   ·rw [plan_ex0] at hd; cases hd
  ·exact h
  ·have := hp 1 h; rw [plan_ex1] at this; cases this
 subst hk1
 have hrow : rowB 140737488347136 1 = [.int .u64 140737488351232] := by
  show [Value.int .u64 (itB 140737488347136 1)] = _
  rw [plan_ex]
 rw [hrow] at hO
 obtain ⟨pg, pcap, rfl⟩ : ∃ pg pcap, pv = .slice (some ⟨pg, 0, none⟩) 1 pcap := by
  rcases hO.2 with ⟨_, h0⟩ | ⟨g, cap, cur, rfl, _⟩
  ·omega
  ·exact ⟨g, cap, rfl⟩
 have P1 := Lib.hid (hO.cells (g := pg) rfl 0 _ rfl)
 have L1 : pg < w1.heap.size := hO.lt pg rfl
 have E1 : Hid (Ext w w1) := Lib.hid hE1
 clear hO hk hp hd hE1 hrow
 go_upto_region 3 with (first | (go_at_call 6; refine (built15_c _ tiny15 _ (tiny15_at (alloc_same ..))).mono ?_; rintro e w2 ⟨mb, Fm, rfl, hC, hE2, hF, hmb⟩))
 obtain ⟨M, hM⟩ : ∃ M, builtM (tiny15.take 100) = M := ⟨_, rfl⟩
 rw [hM] at hC
 have C2 := Lib.hid hC
 have E2 : Hid (Ext w1 w2) := Lib.hid (((Ext.refl w1).alloc _).trans hE2)
 have F2 : Hid (∀ x ∈ Fm, w1.heap.size ≤ x) := Lib.hid fun x hx => by have := hF x hx; simp at this; omega
 have hz2 := E2.out.size
 clear hC hE2 hF hmb
 have HPa := Lib.hid (fun w1 h => path_c mb Fm M [] 0 0 4096 false false false false false false w1 h (by omega) (by omega) (by omega) (by omega))
 have hpl := tiny15_path
 rw [hM] at hpl
 have hah := tiny15_ahead
 rw [hM] at hah
 have HAH := Lib.hid hah
 clear hM hah
 generalize pathF M 0 false 4096 = X at HPa hpl
 have HPL := Lib.hid hpl
 clear hpl
 go_upto_region 6 with (first | (go_at_call 8; refine (HPa.out _ (C2.out.ext (by repeat (first | exact Ext.refl _ | assumption | refine Ext.alloc ?_ _ | refine Ext.drew ?_ | refine Ext.setCell ?_ (by first | (simp; done) | (dsimp only; omega)) _ | refine Ext.trans ?_ (by assumption))))).mono ?_; rintro e w3 ⟨v3, rfl, o3, -, hb3⟩; rw [HPL.out] at o3; obtain ⟨a3, c3, rfl, -, -⟩ := o3.form; clear o3))
 have C3 := Lib.hid (C2.out.ext hb3)
 have E3 := Lib.hid (E2.out.trans hb3)
 have hz3 := hb3.size
 clear hb3
 have HTr := Lib.hid (fun w1 h => trace_c mb Fm 16 M [] w1 h (by simp))
 go_upto_region 7 with (first | (go_at_call 18; refine (HTr.out _ (C3.out.ext (by repeat (first | exact Ext.refl _ | assumption | refine Ext.alloc ?_ _ | refine Ext.drew ?_ | refine Ext.setCell ?_ (by first | (simp; done) | (dsimp only; omega)) _ | refine Ext.trans ?_ (by assumption))))).mono ?_; rintro e w4 ⟨v4, rfl, o4, hb4, -⟩; replace o4 : Owns w4 23 1 v4 0 [] := o4; obtain ⟨a4, c4, rfl, -, -⟩ := o4.form; clear o4))
 have C4 := Lib.hid (C3.out.ext hb4)
 have E4 := Lib.hid (E3.out.trans hb4)
 have hz4 := hb4.size
 clear hb4
 have HNew := Lib.hid (fun w1 h => optNew_c mb Fm M [] 2 2 w1 h (by omega) (by omega) (by omega) (by omega))
 have HAh := Lib.hid (fun tb cb Ft pb pc Fp v w1 h hp => ahead_c mb Fm (opt0 M) tb cb Ft (clampR 2) pb pc Fp (clampR 2) who0 0 false false false false false v [4096, 8192] w1 h (by simp [opt0]) who0_ok hp)
 generalize aheadF (clampR 2) (clampR 2) who0 (opt0 M) [4096, 8192] = z at HAH HAh
 obtain ⟨zs, zl⟩ := z
 have hzl : zl = [4096] := HAH.out
 subst hzl
 clear HAH
 go_upto_region 8 with (first | (go_at_call 15; refine (HNew.out _ (C4.out.ext (by repeat (first | exact Ext.refl _ | assumption | refine Ext.alloc ?_ _ | refine Ext.drew ?_ | refine Ext.setCell ?_ (by first | (simp; done) | (dsimp only; omega)) _ | refine Ext.trans ?_ (by assumption))))).mono ?_; rintro e w5 ⟨tb, cb, Ft, pb, pc, Fp, rfl, hO5, hb5, hFt, hFp⟩) | (go_at_call 16; refine (HAh.out tb cb Ft pb pc Fp _ _ (hO5.ext ((Ext.refl w5).alloc _)) (planAt_new (ks := [4096, 8192]) hO5.lt (by simp) (by simp [maxLen]))).mono ?_; rintro e w6 ⟨v6, F1, F2', F3, rfl, o6, n6, hO6, hk6, f6⟩))
 have hz5 := hb5.size
 have hfr : ∀ x ∈ allO Fm Ft Fp, w1.heap.size ≤ x := fun x hx => by
  rcases mem_allO.1 hx with hx | hx | hx
  ·exact F2.out x hx
  ·have := hFt x hx; omega
  ·have := hFp x hx; omega
 have E6 : Hid (Ext w1 w6) := Lib.hid (Keeps.to_ext (E4.out.trans (hb5.trans ((Ext.refl w5).alloc _))) hk6 hfr)
 obtain ⟨g6, c6, rfl⟩ : ∃ g6 c6, v6 = .slice (some ⟨g6, 0, none⟩) 1 c6 := by
  rcases o6.2 with ⟨_, h0⟩ | ⟨g, cap, cur, rfl, _⟩
  ·simp at h0
  ·exact ⟨g, cap, rfl⟩
 have p6 := o6.cells (g := g6) rfl 0 _ rfl
 have p1 := E6.out.someCell P1.out
 clear hb5 hO5 hO6 hk6 f6 hfr o6 n6 hFt hFp
 go_wp2
 go_ret
 exact ⟨rfl, E1.out.trans E6.out⟩
end Go.Proofs.YtkfonacokamfiaaGreat
/- Same: are two paths the same, but for flags? -/
namespace Go.Proofs.YtkfonacokamfiaaGreat
set_option linter.unusedVariables false
set_option linter.unusedSimpArgs false
open Go.RowKit
attribute [local go_sem] wext_cell wext_frozen wext_heap alloc_cell alloc_frozen alloc_heap setCell_cell objCell_cells objFrozen_cells
attribute [local go_sem high] rt_eql rt_neq st_eql st_neq
def eqvB (a b : Stp) : Bool := stB (a.1, a.2.1, orD a.2.2) (b.1, b.2.1, orD b.2.2)
def eqvSB : List Stp → List Stp → Bool
 | [], _ => true
 | _, [] => true
 | a :: L, b :: K => eqvB a b && eqvSB L K
def sameP (p q : List Stp × WRes) : Bool :=
 p.2.1 == q.2.1 && rtB (p.2.2.1.1, p.2.2.1.2.1, p.2.2.1.2.2) (q.2.2.1.1, q.2.2.1.2.1, q.2.2.1.2.2) && p.2.2.2.1 == q.2.2.2.1 && p.2.2.2.2 == q.2.2.2.2 && p.1.length == q.1.length && eqvSB p.1 q.1
theorem eqvSB_drop (L K : List Stp) (j : Nat) (hl : j < L.length) (hk : j < K.length) : eqvSB (L.drop j) (K.drop j) = (eqvB (stpAt L j) (stpAt K j) && eqvSB (L.drop (j + 1)) (K.drop (j + 1))) := by
 have e : ∀ L : List Stp, j < L.length → L.drop j = stpAt L j :: L.drop (j + 1) := fun L h => by
  rw [List.drop_eq_getElem_cons h]
  congr 1
  simp [stpAt, List.getD, h]
 rw [e L hl, e K hk]; rfl
theorem same_of {L K : List Stp} {r : WRes} (h : eqvS L K) : sameP (L, r) (K, r) = true := by
 have hl := eqvS_length h
 have : ∀ {L K : List Stp}, eqvS L K → eqvSB L K = true := by
  intro L
  induction L with
  | nil => intros; rfl
  | cons a L ih =>
   intro K h
   cases K with
   | nil => rfl
   | cons b K =>
    obtain ⟨h1, h2, h3, h4⟩ := h
    have : eqvB a b = true := by unfold eqvB stB; simp [h1, h2, eqv_or.2 h3]
    simp [eqvSB, this, ih h4]
 simp [sameP, this h, hl, rtB]
theorem same_true {p q : List Stp × WRes} (h : sameP p q = true) : p.2 = q.2 := by
 unfold sameP rtB at h
 simp only [Bool.and_eq_true, beq_iff_eq, decide_eq_true_eq, Prod.mk.injEq] at h
 obtain ⟨L, w, ⟨a, b, c⟩, l, f⟩ := p
 obtain ⟨K, w', ⟨a', b', c'⟩, l', f'⟩ := q
 simp_all
end Go.Proofs.YtkfonacokamfiaaGreat
/- The document's tables, tops and bare words; are its paths the same? -/
namespace Go.Proofs.YtkfonacokamfiaaGreat
set_option linter.unusedVariables false
set_option linter.unusedSimpArgs false
open Go.RowKit
attribute [local go_sem] wext_cell wext_frozen wext_heap alloc_cell alloc_frozen alloc_heap setCell_cell objCell_cells objFrozen_cells
attribute [local go_sem high] rt_eql rt_neq st_eql st_neq
theorem ref1Get_c (x lo n : Int) (w : World) (hx : 0 ≤ x) (hx1 : x ≤ 18446744073709551615) (h0 : 0 ≤ lo) (h1 : 1 ≤ n) (h2 : lo ≤ 63) (h3 : n ≤ 64 - lo) (h4 : n ≤ 63) :
  Calls Tryz.prog 87 #[.int .u64 x, .int .i64 lo, .int .i64 n] w fun e w' => e = .returned (.int .u64 (x / pow2 lo % pow2 n)) ∧ Ext w w' := by
 have hI := Lib.hid (fun w => refIs_c lo n w h0 h1 (by omega) h3)
 have hp := pow2_pos lo
 have hp2 := pow2_pos n
 have hq0 : 0 ≤ x / pow2 lo := Int.ediv_nonneg hx (by omega)
 have hq1 : x / pow2 lo ≤ 18446744073709551615 := by have := Int.ediv_le_self (pow2 lo) hx; omega
 have hle := pow2_le n h4
 have n64 : (n == 64) = false := by rw [beq_eq_false_iff_ne]; omega
 have HPl := Lib.hid (fun w => power_c lo w h0 h2)
 have HPn := Lib.hid (fun w => power_c n w (by omega) h4)
 have tok1 : True := trivial
 go_enter Tryz.func87, Tryz.ntmps87
 go_wp2_with (first | (go_at_call 116; refine (hI.out _).mono ?_; rintro e w1 ⟨rfl, hb1⟩) | (go_at_call 84; have _t := tok1; clear _t; refine (HPl.out _).mono ?_; rintro e w2 ⟨rfl, hb2⟩; clear tok1) | (go_at_call 84; refine (HPn.out _).mono ?_; rintro e w3 ⟨rfl, hb3⟩))
 all_goals
  go_ret
  exact ⟨rfl, (by repeat (first | exact Ext.refl _ | assumption | refine Ext.alloc ?_ _ | refine Ext.drew ?_ | refine Ext.setCell ?_ (by first | (simp; done) | (dsimp only; omega)) _ | refine Ext.trans ?_ (by assumption)))⟩
theorem refTable_c (x : Int) (w : World) (h0 : 0 ≤ x) (h1 : x ≤ 18446744073709551615) : Calls Tryz.prog 64 #[.int .u64 x] w fun e w' => e = .returned (.int .u64 (tabI x)) ∧ Ext w w' := by
 have hg : ∀ w, Calls Tryz.prog 87 #[.int .u64 x, .int .i64 12, .int .i64 40] w fun e w' => e = .returned (.int .u64 (x / 4096 % 1099511627776)) ∧ Ext w w' := fun w => ref1Get_c x 12 40 w h0 h1 (by omega) (by omega) (by omega) (by omega) (by omega)
 have ht := tab_d x
 have HT := Lib.hid ht
 clear ht
 go_enter Tryz.func64, Tryz.ntmps64
 go_wp2_with (first | (go_at_call 87; refine (hg _).mono ?_; rintro e w1 ⟨rfl, hb1⟩))
 go_ret
 exact ⟨by rw [HT.out]; rfl, (by repeat (first | exact Ext.refl _ | assumption | refine Ext.alloc ?_ _ | refine Ext.drew ?_ | refine Ext.setCell ?_ (by first | (simp; done) | (dsimp only; omega)) _ | refine Ext.trans ?_ (by assumption)))⟩
theorem refTop_c (root : Int) (w : World) (h0 : 0 ≤ root) (h1 : root ≤ 18446744073709551615) :
  Calls Tryz.prog 30 #[.int .u64 root] w fun e w' => e = .returned (.agg #[.int .i64 4, .int .u64 (tabI root), .bool true, .bool true, .bool true]) ∧ Ext w w' := by
 have HT := Lib.hid (fun w => refTable_c root w h0 h1)
 generalize tabI root = tb at HT
 go_enter Tryz.func30, Tryz.ntmps30
 go_wp2_with (first | (go_at_call 64; refine (HT.out _).mono ?_; rintro e w1 ⟨rfl, hb1⟩; have ⟨hc, hf, hh, hs⟩ := hb1.facts; try simp only [World.size_alloc, World.size_setCell, World.size_drew] at hs))
 have B1 := (hb1.block w.heap.size (by simp)).trans (alloc_same ..)
 have E2 : Ext w w1 := Ext.trans (by repeat (first | exact Ext.refl _ | assumption | refine Ext.alloc ?_ _ | refine Ext.drew ?_ | refine Ext.setCell ?_ (by first | (simp; done) | (dsimp only; omega)) _ | refine Ext.trans ?_ (by assumption))) hb1
 refine post_gen (fun U => U.heap[w.heap.size]? = some (.cells #[.int .i64 4, .int .u64 tb, .bool true, .bool true, .bool true] 107 (0, 0)) ∧ Ext w U) ⟨setCell_heap_same (setCell_heap_same (setCell_heap_same (setCell_heap_same (setCell_heap_same B1)))), Ext.setCell (Ext.setCell (Ext.setCell (Ext.setCell (Ext.setCell E2 (by simp) _) (by simp) _) (by simp) _) (by simp) _) (by simp) _⟩ ?_
 clear hc hf hh hs hb1 B1 E2
 rintro U ⟨m5, e5⟩
 have v0 := (heap_cell m5 0).trans rfl
 have v1 := (heap_cell m5 1).trans rfl
 have v2 := (heap_cell m5 2).trans rfl
 have v3 := (heap_cell m5 3).trans rfl
 have v4 := (heap_cell m5 4).trans rfl
 clear m5
 refine bodyPost_ret (by simp [results, Tryz.results30, go_sem, ↓IntWalk.iteOmega, *]; try rfl) rfl ⟨rfl, e5⟩
def bareN (n : Nat) : Nat := withN (withN n 5 false) 6 false
theorem withN_test (n i k : Nat) (b : Bool) : (withN n i b).testBit k = (decide (k < 64) && if k = i then b else n.testBit k) := by unfold withN; rw [sumBits_testBit]
theorem bareN_test (n k : Nat) : (bareN n).testBit k = (decide (k < 64) && !(decide (k = 5) || decide (k = 6)) && n.testBit k) := by
 unfold bareN
 rw [withN_test]
 by_cases h6 : k = 6
 ·simp [h6]
 ·rw [if_neg h6, withN_test]
  by_cases h5 : k = 5
  ·simp [h5]
  ·simp [h5, h6]
theorem bareN_le (n : Nat) : bareN n ≤ 18446744073709551615 := by
 unfold bareN withN
 have := sumBits_lt (fun k => if k = 6 then false else (sumBits (fun k => if k = 5 then false else n.testBit k) 64).testBit k) 64
 omega
theorem bareN_eqv {n m : Nat} (hn : n ≤ 18446744073709551615) (hm : m ≤ 18446744073709551615) : bareN n = bareN m ↔ eqv (n : Int) (m : Int) := by
 constructor
 ·intro h
  have ht : ∀ k, k ≠ 5 → k ≠ 6 → n.testBit k = m.testBit k := fun k h5 h6 => by
   by_cases hk : k < 64
   ·have := congrArg (Nat.testBit · k) h
    simp only [bareN_test] at this
    simpa [h5, h6, hk] using this
   ·have e : ∀ z : Nat, z ≤ 18446744073709551615 → z.testBit k = false := fun z hz => Nat.testBit_lt_two_pow (Nat.lt_of_lt_of_le (by omega : z < 2 ^ 64) (Nat.pow_le_pow_right (by omega) (by omega)))
    rw [e n hn, e m hm]
  have h1 : n / 128 = m / 128 := by
   apply Nat.eq_of_testBit_eq
   intro i
   rw [show (128 : Nat) = 2 ^ 7 from rfl, Nat.testBit_div_two_pow, Nat.testBit_div_two_pow]
   exact ht _ (by omega) (by omega)
  have h2 : n % 32 = m % 32 := by
   apply Nat.eq_of_testBit_eq
   intro i
   rw [show (32 : Nat) = 2 ^ 5 from rfl, Nat.testBit_mod_two_pow, Nat.testBit_mod_two_pow]
   by_cases hi : i < 5
   ·rw [ht i (by omega) (by omega)]
   ·simp [hi]
  unfold eqv; omega
 ·intro h
  apply Nat.eq_of_testBit_eq
  intro k
  rw [bareN_test, bareN_test]
  by_cases h56 : k = 5 ∨ k = 6
  ·rcases h56 with rfl | rfl <;> simp
  ·rw [eqv_test h k (by omega)]
def bareI (x : Int) : Int := (bareN x.toNat : Int)
theorem bareI_ne {x y : Int} (h0 : 0 ≤ x) (h1 : x ≤ 18446744073709551615) (k0 : 0 ≤ y) (k1 : y ≤ 18446744073709551615) : (bareI x != bareI y) = !(orD x == orD y) := by
 have e : bareI x = bareI y ↔ orD x = orD y := by
  unfold bareI
  rw [Int.ofNat_inj, bareN_eqv (by omega) (by omega), eqv_or, Int.toNat_of_nonneg h0, Int.toNat_of_nonneg k0]
 by_cases hx : orD x = orD y
 ·have h9 := e.2 hx
  rw [h9, hx]; simp
 ·have : bareI x ≠ bareI y := fun h => hx (e.1 h)
  rw [(bne_iff_ne).2 this, (beq_eq_false_iff_ne).2 hx]; rfl
end Go.Proofs.YtkfonacokamfiaaGreat
/- The document's caches of tables. -/
namespace Go.Proofs.YtkfonacokamfiaaGreat
set_option linter.unusedVariables false
set_option linter.unusedSimpArgs false
open Go.RowKit
attribute [local go_sem] wext_cell wext_frozen wext_heap alloc_cell alloc_frozen alloc_heap setCell_cell objCell_cells objFrozen_cells
attribute [local go_sem high] refKey_eql
def downP (f : Int → Lines → Lines) (C : Int → Lines) (j : Nat) : Int → Lines := fun l => if 4 - (j : Int) < l ∧ l ≤ 4 then f l (C l) else C l
theorem down_zero (f : Int → Lines → Lines) (C : Int → Lines) : downP f C 0 = C := by
 funext l; unfold downP; rw [if_neg (by omega)]
theorem down_three (f : Int → Lines → Lines) (C : Int → Lines) : downP f C 3 = eachP f C := by
 funext l; unfold downP eachP
 by_cases h : 2 ≤ l ∧ l ≤ 4
 ·rw [if_pos h, if_pos (by omega)]
 ·rw [if_neg h, if_neg (by omega)]
theorem down_at (f : Int → Lines → Lines) (C : Int → Lines) (j : Nat) : downP f C j (4 - (j : Int)) = C (4 - (j : Int)) := by unfold downP; rw [if_neg (by omega)]
theorem down_step (f : Int → Lines → Lines) (C : Int → Lines) (j : Nat) : upd (downP f C j) (4 - (j : Int)) (f (4 - (j : Int)) (C (4 - (j : Int)))) = downP f C (j + 1) := by
 funext l
 unfold upd downP
 by_cases h : l = 4 - (j : Int)
 ·subst h; rw [if_pos rfl, if_pos (by omega)]
 ·rw [if_neg h]
  by_cases h2 : 4 - (j : Int) < l ∧ l ≤ 4
  ·rw [if_pos h2, if_pos (by omega)]
  ·rw [if_neg h2, if_neg (by omega)]
def RpAt (w : World) (sa : Int → Option Addr) (sc : Int → Nat) (C : Int → Lines) : Prop := ∀ l, 2 ≤ l → l ≤ 4 → RefAt w (.slice (sa l) (C l).length (sc l)) (C l)
theorem RpAt.ext {w w' : World} {sa : Int → Option Addr} {sc : Int → Nat} {C : Int → Lines} (h : RpAt w sa sc C) (k : Ext w w') : RpAt w' sa sc C := fun l l0 l1 => (h l l0 l1).ext k
theorem RpAt.congr {w : World} {sa : Int → Option Addr} {sc : Int → Nat} {C C' : Int → Lines} (h : RpAt w sa sc C) (hc : ∀ l, 2 ≤ l → l ≤ 4 → C l = C' l) : RpAt w sa sc C' := fun l l0 l1 => hc l l0 l1 ▸ h l l0 l1
def RcAt (w : World) (b : Nat) (sa : Int → Option Addr) (sc : Int → Nat) (C : Int → Lines) (r : Nat) : Prop :=
 w.heap[b]? = some (.cells #[.slice (sa 4) (C 4).length (sc 4), .int .i64 r, .slice (sa 3) (C 3).length (sc 3), .int .i64 r, .slice (sa 2) (C 2).length (sc 2), .int .i64 r] 55 (0, 0)) ∧ RpAt w sa sc C
def EndRp (C' : Int → Lines) (r : Nat) (w : World) (e : Ending) (w' : World) : Prop :=
 ∃ sa sc, e = .returned (.agg #[.slice (sa 4) (C' 4).length (sc 4), .int .i64 r, .slice (sa 3) (C' 3).length (sc 3), .int .i64 r, .slice (sa 2) (C' 2).length (sc 2), .int .i64 r]) ∧ RpAt w' sa sc C' ∧ Ext w w'
section
variable {w w' : World} {b : Nat} {sa : Int → Option Addr} {sc : Int → Nat} {C : Int → Lines} {r : Nat}
theorem RcAt.ext (h : RcAt w b sa sc C r) (k : Ext w w') : RcAt w' b sa sc C r := ⟨(k.block _ (heap_lt h.1)).trans h.1, h.2.ext k⟩
theorem RefAt.store {v : Value} {L : Lines} (h : RefAt w v L) {cs : Array Value} (hb : w.heap[b]? = some (.cells cs 55 (0, 0))) {o : Nat} {u : Value} : RefAt (w.setCell ⟨b, o, none⟩ u) v L :=
 ⟨h.1.keep fun g hg => setCell_heap _ _ _ _ _ fun e => by
  obtain ⟨c, hc⟩ := h.1.heap g hg
  rw [← e, hb] at hc
  simp only [Option.some.injEq, Obj.cells.injEq] at hc
  exact absurd hc.2.1 (by decide), h.2⟩
theorem RcAt.put (h : RcAt w b sa sc C r) {l : Int} {o : Nat} (hl : (l = 4 ∧ o = 0) ∨ (l = 3 ∧ o = 2) ∨ (l = 2 ∧ o = 4)) {a : Option Addr} {c : Nat} {L' : Lines} (hr : RefAt w (.slice a L'.length c) L') :
  RcAt ((w.setCell ⟨b, o, none⟩ (.slice a L'.length c)).setCell ⟨b, o + 1, none⟩ (.int .i64 r)) b (upd sa l a) (upd sc l c) (upd C l L') r := by
 have h1 := setCell_heap_same (i := o) (v := .slice a L'.length c) h.1
 refine ⟨(setCell_heap_same h1).trans ?_, fun j j0 j1 => RefAt.store ?_ h1⟩
 ·rcases hl with ⟨rfl, rfl⟩ | ⟨rfl, rfl⟩ | ⟨rfl, rfl⟩ <;> rfl
 ·refine RefAt.store ?_ h.1
  by_cases hj : j = l
  ·subst hj; rw [upd_same, upd_same, upd_same]; exact hr
  ·rw [upd_other _ _ hj, upd_other _ _ hj, upd_other _ _ hj]; exact h.2 j j0 j1
theorem RcAt.put1 (h : RcAt w b sa sc C r) {l : Int} {o : Nat} (hl : (l = 4 ∧ o = 0) ∨ (l = 3 ∧ o = 2) ∨ (l = 2 ∧ o = 4)) {a : Option Addr} {c : Nat} {L' : Lines} (hr : RefAt w (.slice a L'.length c) L') :
  RcAt (w.setCell ⟨b, o, none⟩ (.slice a L'.length c)) b (upd sa l a) (upd sc l c) (upd C l L') r := by
 refine ⟨(setCell_heap_same h.1).trans ?_, fun j j0 j1 => RefAt.store ?_ h.1⟩
 ·rcases hl with ⟨rfl, rfl⟩ | ⟨rfl, rfl⟩ | ⟨rfl, rfl⟩ <;> rfl
 ·by_cases hj : j = l
  ·subst hj; rw [upd_same, upd_same, upd_same]; exact hr
  ·rw [upd_other _ _ hj, upd_other _ _ hj, upd_other _ _ hj]; exact h.2 j j0 j1
end
theorem RefAt.nil (w : World) : RefAt w (.slice none 0 0) [] := ⟨Owns.nil _ _ _, by simp⟩
theorem EndRef.form {L' : Lines} {r : Int} {w w' : World} {e : Ending} (h : EndRef L' r w e w') : ∃ a c, e = .returned (.agg #[.slice a L'.length c, .int .i64 r]) ∧ RefAt w' (.slice a L'.length c) L' ∧ Ext w w' := by
 obtain ⟨v, rfl, h1, h2⟩ := h
 obtain ⟨a, c, rfl, -, -⟩ := h1.1.form
 exact ⟨a, c, rfl, h1, h2⟩
theorem r48_c (a : Int) (w : World) (h0 : 0 ≤ a) (h1 : a ≤ 18446744073709551615) : Calls Tryz.prog 87 #[.int .u64 a, .int .i64 0, .int .i64 48] w fun e w' => e = .returned (.int .u64 (a % 281474976710656)) ∧ Ext w w' := by
 have := ref1Get_c a 0 48 w h0 h1 (by omega) (by omega) (by omega) (by omega) (by omega)
 rw [show pow2 0 = 1 from rfl, show pow2 48 = 281474976710656 from rfl, Int.ediv_one] at this
 exact this
set_option maxHeartbeats 1000000 in
theorem rpKey_c (p l a : Int) (w : World) (hl : l = 2 ∨ l = 3 ∨ l = 4) (h0 : 0 ≤ a) (h1 : a ≤ 18446744073709551615) :
  Calls Tryz.prog 125 #[.int .i64 p, .int .i64 l, .int .u64 a] w fun e w' => e = .returned (kP p l a).val ∧ Ext w w' := by
 have HG := Lib.hid (fun w => r48_c a w h0 h1)
 have hm : 0 ≤ a % 281474976710656 ∧ a % 281474976710656 ≤ 281474976710655 := by omega
 have hk : (l = 2 → a % 281474976710656 / 2097152 = tagP a l) ∧ (l = 3 → a % 281474976710656 / 1073741824 = tagP a l) ∧ (l = 4 → a % 281474976710656 / 549755813888 = tagP a l) := by
  refine ⟨fun h => ?_, fun h => ?_, fun h => ?_⟩ <;> subst h <;> unfold tagP <;> simp <;> omega
 unfold kP Key.val
 generalize tagP a l = tg at hk ⊢
 generalize a % 281474976710656 = m at HG hm hk
 obtain ⟨m0, m1⟩ := hm
 obtain ⟨k2, k3, k4⟩ := hk
 have K2 := Lib.hid k2
 have K3 := Lib.hid k3
 have K4 := Lib.hid k4
 clear k2 k3 k4
 go_enter Tryz.func125, Tryz.ntmps125
 go_upto_region 3 with (first | (go_at_call 87; refine (HG.out _).mono ?_; rintro e w1 ⟨rfl, hb1⟩))
 have hv := (hb1.block w.heap.size (by simp)).trans (alloc_same ..)
 have hE : Ext w w1 := Ext.trans (by repeat (first | exact Ext.refl _ | assumption | refine Ext.alloc ?_ _ | refine Ext.drew ?_ | refine Ext.setCell ?_ (by first | (simp; done) | (dsimp only; omega)) _ | refine Ext.trans ?_ (by assumption))) hb1
 obtain ⟨vb, hvb⟩ : ∃ vb, w.heap.size = vb := ⟨_, rfl⟩
 rw [hvb] at hv ⊢
 have hwv : w.heap.size ≤ vb := by omega
 have VB := Lib.hid hv
 have VE := Lib.hid hE
 clear hv hE hvb hb1
 go_wp2
 go_loopw [8, 9] (fun sv iv wr => ∃ i : Nat, 1 ≤ i ∧ (i : Int) ≤ l ∧ iv = .int .i64 i ∧ sv = .int .u64 (if i = 1 then 4096 else if i = 2 then 2097152 else if i = 3 then 1073741824 else 549755813888) ∧ Hid (Ext w1 wr)) (fun _ iv _ => (l - intOf iv).toNat)
 case atStart => exact ⟨1, by omega, by omega, rfl, rfl, Lib.hid (Ext.refl _)⟩
 case round =>
  obtain ⟨i, hi1, hil, rfl, rfl, hR⟩ := hrel
  by_cases hlt : (i : Int) < l
  ·have hi : i = 1 ∨ i = 2 ∨ i = 3 := by omega
   rcases hi with rfl | rfl | rfl
   all_goals
    go_wp2
    first
     | (refine ⟨⟨2, by omega, by omega, by go_num, by rfl, hR⟩, by simp [intOf]; omega⟩; done)
     | (refine ⟨⟨3, by omega, by omega, by go_num, by rfl, hR⟩, by simp [intOf]; omega⟩; done)
     | (refine ⟨⟨4, by omega, by omega, by go_num, by rfl, hR⟩, by simp [intOf]; omega⟩; done)
  ·have hli : (i : Int) = l := by omega
   have hB := (hR.out.block _ (heap_lt VB.out)).trans VB.out
   have b0 := (heap_cell hB 0).trans rfl
   have b1 := (heap_cell hB 1).trans rfl
   have b2 := (heap_cell hB 2).trans rfl
   have bf := frozen_of hB
   have bl := heap_lt hB
   have BB := Lib.hid hB
   have hcase : (i = 2 ∧ l = 2) ∨ (i = 3 ∧ l = 3) ∨ (i = 4 ∧ l = 4) := by omega
   clear hB hli hlt
   rcases hcase with ⟨rfl, rfl⟩ | ⟨rfl, rfl⟩ | ⟨rfl, rfl⟩
   all_goals
    go_wp2
    refine post_gen (fun U => ∃ tt, U.heap[vb]? = some (.cells #[.int .i64 p, .int .i64 _, .int .u64 tt] 208 (0, 0)) ∧ tt = tg ∧ Ext w U) ⟨_, setCell_heap_same (setCell_heap_same (setCell_heap_same BB.out)), ?_, Ext.setCell (Ext.setCell (Ext.setCell (VE.out.trans hR.out) hwv _) hwv _) hwv _⟩ ?_
    ·have h2 := K2.out; have h3 := K3.out; have h4 := K4.out; simp at h2 h3 h4; first | exact h2 | exact h3 | exact h4 | (rw [← h2]; rfl) | (rw [← h3]; rfl) | (rw [← h4]; rfl) | trace_state
    clear b0 b1 b2 bf bl
    rintro U ⟨tt, m5, rfl, E5⟩
    have v0 := (heap_cell m5 0).trans rfl
    have v1 := (heap_cell m5 1).trans rfl
    have v2 := (heap_cell m5 2).trans rfl
    clear m5
    refine bodyPost_ret (by simp [results, Tryz.results125, go_sem, ↓IntWalk.iteOmega, *]; try rfl) rfl ⟨rfl, E5⟩
end Go.Proofs.YtkfonacokamfiaaGreat
