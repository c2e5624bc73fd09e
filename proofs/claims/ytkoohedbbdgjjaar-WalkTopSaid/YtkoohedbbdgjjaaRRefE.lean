/- The document's tables, tops and bare words; are its paths the same? -/
import Derived.Test.YtkoohedbbdgjjaaRRefB
import Derived.Test.YtkoohedbbdgjjaaRSame
import Derived.Test.YtkoohedbbdgjjaaRMarkB
namespace Go.Proofs.YtkoohedbbdgjjaaR
set_option linter.unusedVariables false
set_option linter.unusedSimpArgs false
open Go.RowKit
attribute [local go_sem] wext_cell wext_frozen wext_heap alloc_cell alloc_frozen alloc_heap setCell_cell objCell_cells objFrozen_cells
attribute [local go_sem high] rt_eql rt_neq st_eql st_neq

theorem refGet_c (x lo n : Int) (w : World) (hx : 0 ≤ x) (hx1 : x ≤ 18446744073709551615) (h0 : 0 ≤ lo) (h1 : 1 ≤ n) (h2 : lo ≤ 63) (h3 : n ≤ 64 - lo) (h4 : n ≤ 63) :
    Calls Try.prog 126 #[.int .u64 x, .int .i64 lo, .int .i64 n] w fun e w' => e = .returned (.int .u64 (x / pow2 lo % pow2 n)) ∧ Ext w w' := by
  have hI := Lib.hid (fun w => refIs_c lo n w h0 h1 (by omega) h3)
  have hp := pow2_pos lo
  have hp2 := pow2_pos n
  have hq0 : 0 ≤ x / pow2 lo := Int.ediv_nonneg hx (by omega)
  have hq1 : x / pow2 lo ≤ 18446744073709551615 := by have := Int.ediv_le_self (pow2 lo) hx; omega
  have hle := pow2_le n h4
  have n64 : (n == 64) = false := by rw [beq_eq_false_iff_ne]; omega
  have HPl := Lib.hid (fun w => power_c lo w h0 h2)
  have HPn := Lib.hid (fun w => power_c n w (by omega) h4)
  have tok1 : True := trivial
  go_enter Try.func126, Try.ntmps126
  go_wp2_with (first | (go_at_call 147; refine (hI.out _).mono ?_; rintro e w1 ⟨rfl, hb1⟩) | (go_at_call 123; have _t := tok1; clear _t; refine (HPl.out _).mono ?_; rintro e w2 ⟨rfl, hb2⟩; clear tok1) | (go_at_call 123; refine (HPn.out _).mono ?_; rintro e w3 ⟨rfl, hb3⟩))
  all_goals
    go_ret
    exact ⟨rfl, (by repeat (first | exact Ext.refl _ | assumption | refine Ext.alloc ?_ _ | refine Ext.drew ?_ | refine Ext.setCell ?_ (by first | (simp; done) | (dsimp only; omega)) _ | refine Ext.trans ?_ (by assumption)))⟩
theorem refTable_c (x : Int) (w : World) (h0 : 0 ≤ x) (h1 : x ≤ 18446744073709551615) : Calls Try.prog 85 #[.int .u64 x] w fun e w' => e = .returned (.int .u64 (tabI x)) ∧ Ext w w' := by
  have hg : ∀ w, Calls Try.prog 126 #[.int .u64 x, .int .i64 12, .int .i64 40] w fun e w' => e = .returned (.int .u64 (x / 4096 % 1099511627776)) ∧ Ext w w' := fun w => refGet_c x 12 40 w h0 h1 (by omega) (by omega) (by omega) (by omega) (by omega)
  have ht := tab_d x
  have HT := Lib.hid ht
  clear ht
  go_enter Try.func85, Try.ntmps85
  go_wp2_with (first | (go_at_call 126; refine (hg _).mono ?_; rintro e w1 ⟨rfl, hb1⟩))
  go_ret
  exact ⟨by rw [HT.out]; rfl, (by repeat (first | exact Ext.refl _ | assumption | refine Ext.alloc ?_ _ | refine Ext.drew ?_ | refine Ext.setCell ?_ (by first | (simp; done) | (dsimp only; omega)) _ | refine Ext.trans ?_ (by assumption)))⟩
theorem refTop_c (root : Int) (w : World) (h0 : 0 ≤ root) (h1 : root ≤ 18446744073709551615) :
    Calls Try.prog 33 #[.int .u64 root] w fun e w' => e = .returned (.agg #[.int .i64 4, .int .u64 (tabI root), .bool true, .bool true, .bool true]) ∧ Ext w w' := by
  have HT := Lib.hid (fun w => refTable_c root w h0 h1)
  generalize tabI root = tb at HT
  go_enter Try.func33, Try.ntmps33
  go_wp2_with (first | (go_at_call 85; refine (HT.out _).mono ?_; rintro e w1 ⟨rfl, hb1⟩; have ⟨hc, hf, hh, hs⟩ := hb1.facts; try simp only [World.size_alloc, World.size_setCell, World.size_drew] at hs))
  have B1 := (hb1.block w.heap.size (by simp)).trans (alloc_same ..)
  have E2 : Ext w w1 := Ext.trans (by repeat (first | exact Ext.refl _ | assumption | refine Ext.alloc ?_ _ | refine Ext.drew ?_ | refine Ext.setCell ?_ (by first | (simp; done) | (dsimp only; omega)) _ | refine Ext.trans ?_ (by assumption))) hb1
  refine post_gen (fun U => U.heap[w.heap.size]? = some (.cells #[.int .i64 4, .int .u64 tb, .bool true, .bool true, .bool true] 58 (0, 0)) ∧ Ext w U) ⟨setCell_heap_same (setCell_heap_same (setCell_heap_same (setCell_heap_same (setCell_heap_same B1)))), Ext.setCell (Ext.setCell (Ext.setCell (Ext.setCell (Ext.setCell E2 (by simp) _) (by simp) _) (by simp) _) (by simp) _) (by simp) _⟩ ?_
  clear hc hf hh hs hb1 B1 E2
  rintro U ⟨m5, e5⟩
  have v0 := (heap_cell m5 0).trans rfl
  have v1 := (heap_cell m5 1).trans rfl
  have v2 := (heap_cell m5 2).trans rfl
  have v3 := (heap_cell m5 3).trans rfl
  have v4 := (heap_cell m5 4).trans rfl
  clear m5
  refine bodyPost_ret (by simp [results, Try.results33, go_sem, ↓IntWalk.iteOmega, *]; try rfl) rfl ⟨rfl, e5⟩

def bareN (n : Nat) : Nat := withN (withN n 5 false) 6 false
theorem withN_test (n i k : Nat) (b : Bool) : (withN n i b).testBit k = (decide (k < 64) && if k = i then b else n.testBit k) := by unfold withN; rw [sumBits_testBit]
theorem bareN_test (n k : Nat) : (bareN n).testBit k = (decide (k < 64) && !(decide (k = 5) || decide (k = 6)) && n.testBit k) := by
  unfold bareN
  rw [withN_test]
  by_cases h6 : k = 6
  · simp [h6]
  · rw [if_neg h6, withN_test]
    by_cases h5 : k = 5
    · simp [h5]
    · simp [h5, h6]
theorem bareN_le (n : Nat) : bareN n ≤ 18446744073709551615 := by
  unfold bareN withN
  have := sumBits_lt (fun k => if k = 6 then false else (sumBits (fun k => if k = 5 then false else n.testBit k) 64).testBit k) 64
  omega
theorem bareN_eqv {n m : Nat} (hn : n ≤ 18446744073709551615) (hm : m ≤ 18446744073709551615) : bareN n = bareN m ↔ eqv (n : Int) (m : Int) := by
  constructor
  · intro h
    have ht : ∀ k, k ≠ 5 → k ≠ 6 → n.testBit k = m.testBit k := fun k h5 h6 => by
      by_cases hk : k < 64
      · have := congrArg (Nat.testBit · k) h
        simp only [bareN_test] at this
        simpa [h5, h6, hk] using this
      · have e : ∀ z : Nat, z ≤ 18446744073709551615 → z.testBit k = false := fun z hz => Nat.testBit_lt_two_pow (Nat.lt_of_lt_of_le (by omega : z < 2 ^ 64) (Nat.pow_le_pow_right (by omega) (by omega)))
        rw [e n hn, e m hm]
    have h1 : n / 128 = m / 128 := by
      apply Nat.eq_of_testBit_eq
      intro i
      rw [show (128 : Nat) = 2 ^ 7 from rfl, Nat.testBit_div_two_pow, Nat.testBit_div_two_pow]
      exact ht _ (by omega) (by omega)
    have h2 : n % 32 = m % 32 := by
      apply Nat.eq_of_testBit_eq
      intro i
      rw [show (32 : Nat) = 2 ^ 5 from rfl, Nat.testBit_mod_two_pow, Nat.testBit_mod_two_pow]
      by_cases hi : i < 5
      · rw [ht i (by omega) (by omega)]
      · simp [hi]
    unfold eqv; omega
  · intro h
    apply Nat.eq_of_testBit_eq
    intro k
    rw [bareN_test, bareN_test]
    by_cases h56 : k = 5 ∨ k = 6
    · rcases h56 with rfl | rfl <;> simp
    · rw [eqv_test h k (by omega)]
def bareI (x : Int) : Int := (bareN x.toNat : Int)
theorem bareI_ne {x y : Int} (h0 : 0 ≤ x) (h1 : x ≤ 18446744073709551615) (k0 : 0 ≤ y) (k1 : y ≤ 18446744073709551615) : (bareI x != bareI y) = !(orD x == orD y) := by
  have e : bareI x = bareI y ↔ orD x = orD y := by
    unfold bareI
    rw [Int.ofNat_inj, bareN_eqv (by omega) (by omega), eqv_or, Int.toNat_of_nonneg h0, Int.toNat_of_nonneg k0]
  by_cases hx : orD x = orD y
  · have h9 := e.2 hx
    rw [h9, hx]; simp
  · have : bareI x ≠ bareI y := fun h => hx (e.1 h)
    rw [(bne_iff_ne).2 this, (beq_eq_false_iff_ne).2 hx]; rfl
theorem refBare_c (x : Int) (w : World) (h0 : 0 ≤ x) (h1 : x ≤ 18446744073709551615) : Calls Try.prog 88 #[.int .u64 x] w fun e w' => e = .returned (.int .u64 (bareI x)) ∧ Ext w w' := by
  obtain ⟨n, rfl⟩ : ∃ n : Nat, x = n := ⟨x.toNat, by omega⟩
  have HA := Lib.hid (fun w => refWith_c n 5 false w (by omega) (by omega))
  have hl : withN n 5 false ≤ 18446744073709551615 := by
    unfold withN
    have := sumBits_lt (fun k => if k = 5 then false else n.testBit k) 64
    omega
  have HB := Lib.hid (fun w => refWith_c (withN n 5 false) 6 false w hl (by omega))
  have HE : Hid (bareI (n : Int) = ((withN (withN n 5 false) 6 false : Nat) : Int)) := Lib.hid rfl
  generalize withN (withN n 5 false) 6 false = y at HB HE
  generalize withN n 5 false = z at HA HB hl
  have tok1 : True := trivial
  go_enter Try.func88, Try.ntmps88
  go_wp2_with (first | (go_at_call 127; have _t := tok1; clear _t; refine (HA.out _).mono ?_; rintro e w1 ⟨rfl, hb1⟩; clear tok1) | (go_at_call 127; refine (HB.out _).mono ?_; rintro e w2 ⟨rfl, hb2⟩))
  go_ret
  exact ⟨by rw [HE.out]; rfl, hb1.trans hb2⟩
end Go.Proofs.YtkoohedbbdgjjaaR
