/- Entries: fields, tables, slots, leaves, reserved bits, frames; rights. -/
import Derived.Test.YtkoohedbbdgjjaaRBits
namespace Go.Proofs.YtkoohedbbdgjjaaR
set_option linter.unusedVariables false
set_option linter.unusedSimpArgs false
open Go.RowKit
attribute [local go_sem] wext_cell wext_frozen wext_heap alloc_cell alloc_frozen alloc_heap setCell_cell objCell_cells objFrozen_cells

theorem maskE {a : Int} (i : Nat) (hi : i < 64) (h0 : 0 ≤ a) (h1 : a ≤ 18446744073709551615) : bits BinOp.and IntKind.u64 a ((2 ^ i - 1 : Nat) : Int) = a % ((2 ^ i : Nat) : Int) := by
  have hp : 2 ^ i - 1 < 18446744073709551616 := by
    have : (2 : Nat) ^ i ≤ 2 ^ 63 := Nat.pow_le_pow_right (by omega) (by omega)
    omega
  have e : a = (a.toNat : Int) := (Int.toNat_of_nonneg h0).symm
  rw [e, u64_and_nat _ _ (by omega) hp, Nat.and_two_pow_sub_one_eq_mod]
  rfl
theorem bitE {a : Int} (i : Nat) (hi : i < 64) (h0 : 0 ≤ a) (h1 : a ≤ 18446744073709551615) : (bits BinOp.and IntKind.u64 a ((2 ^ i : Nat) : Int) != 0) = bitB a i := by
  have e : a = (a.toNat : Int) := (Int.toNat_of_nonneg h0).symm
  rw [e]
  exact bit_ne _ i (by omega) hi

theorem two_pow (n : Int) : (2 : Int) ^ n.toNat = pow2 n := by unfold pow2; simp
theorem fieldNone_c (lo n : Int) (w : World) (h0 : 0 ≤ lo) (h1 : 1 ≤ n) (h2 : lo ≤ 63) (h3 : n ≤ 64 - lo) :
    Calls Try.prog 143 #[.int .i64 lo, .int .i64 n] w fun e w' => e = .returned (.bool false) ∧ Ext w w' := by
  go_enter Try.func143, Try.ntmps143
  go_wp2
  all_goals
    go_ret
    exact ⟨rfl, (by repeat (first | exact Ext.refl _ | assumption | refine Ext.alloc ?_ _ | refine Ext.drew ?_ | refine Ext.setCell ?_ (by first | (simp; done) | (dsimp only; omega)) _ | refine Ext.trans ?_ (by assumption)))⟩
theorem ones_c (n : Int) (w : World) (h0 : 1 ≤ n) (h1 : n ≤ 63) :
    Calls Try.prog 144 #[.int .i64 n] w fun e w' => e = .returned (.int .u64 (pow2 n - 1)) ∧ Ext w w' := by
  go_enter Try.func144, Try.ntmps144
  go_wp2
  all_goals
    go_ret
    refine ⟨?_, (by repeat (first | exact Ext.refl _ | assumption | refine Ext.alloc ?_ _ | refine Ext.drew ?_ | refine Ext.setCell ?_ (by first | (simp; done) | (dsimp only; omega)) _ | refine Ext.trans ?_ (by assumption)))⟩
    have hw : IntKind.u64.wrap (IntKind.u64.wrap ((2 : Int) ^ n.toNat) - 1) = pow2 n - 1 := by
      have := pow2_pos n
      have := pow2_le n h1
      rw [two_pow, IntKind.wrap_u64, IntKind.wrap_u64]; omega
    rw [← hw]; rfl
theorem fieldGet_c (x lo n : Int) (w : World) (hx : 0 ≤ x) (hx1 : x ≤ 18446744073709551615) (h0 : 0 ≤ lo) (h1 : 1 ≤ n) (h2 : lo ≤ 63) (h3 : n ≤ 64 - lo) (h4 : n ≤ 63) :
    Calls Try.prog 118 #[.int .u64 x, .int .i64 lo, .int .i64 n] w fun e w' => e = .returned (.int .u64 (x / pow2 lo % pow2 n)) ∧ Ext w w' := by
  have hm : bits BinOp.and IntKind.u64 (x / pow2 lo) (pow2 n - 1) = x / pow2 lo % pow2 n := by
    have hq0 : 0 ≤ x / pow2 lo := Int.ediv_nonneg hx (by have := pow2_pos lo; omega)
    have hq1 : x / pow2 lo ≤ 18446744073709551615 := by have := Int.ediv_le_self (pow2 lo) hx; omega
    have := maskE (a := x / pow2 lo) n.toNat (by omega) hq0 hq1
    have e : pow2 n - 1 = ((2 ^ n.toNat - 1 : Nat) : Int) := by
      unfold pow2; have : 0 < 2 ^ n.toNat := Nat.pow_pos (by omega); omega
    rw [e, this]; rfl
  have HM := Lib.hid hm
  clear hm
  go_enter Try.func118, Try.ntmps118
  go_wp2_with (first | (go_at_call 143; refine (fieldNone_c _ _ _ h0 h1 h2 h3).mono ?_; rintro e w1 ⟨rfl, hb⟩; have ⟨hc, hf, hh, hs⟩ := hb.facts; try simp only [World.size_alloc, World.size_setCell, World.size_drew] at hs) | (go_at_call 144; refine (ones_c _ _ h1 h4).mono ?_; rintro e w1 ⟨rfl, hb⟩; have ⟨hc, hf, hh, hs⟩ := hb.facts; try simp only [World.size_alloc, World.size_setCell, World.size_drew] at hs))
  go_ret
  refine ⟨?_, (by repeat (first | exact Ext.refl _ | assumption | refine Ext.alloc ?_ _ | refine Ext.drew ?_ | refine Ext.setCell ?_ (by first | (simp; done) | (dsimp only; omega)) _ | refine Ext.trans ?_ (by assumption)))⟩
  rw [← HM.out, ← two_pow lo]; rfl
end Go.Proofs.YtkoohedbbdgjjaaR
