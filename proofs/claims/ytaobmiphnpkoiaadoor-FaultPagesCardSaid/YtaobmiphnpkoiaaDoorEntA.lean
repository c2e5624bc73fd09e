/- Entries: fields, tables, slots, leaves, reserved bits, frames; rights. -/
import Derived.Test.YtaobmiphnpkoiaaDoorBits
namespace Go.Proofs.YtaobmiphnpkoiaaDoor
set_option linter.unusedVariables false
set_option linter.unusedSimpArgs false
open Go.RowKit
attribute [local go_sem] wext_cell wext_frozen wext_heap alloc_cell alloc_frozen alloc_heap setCell_cell objCell_cells objFrozen_cells

theorem maskE {a : Int} (i : Nat) (hi : i < 64) (h0 : 0 ≤ a) (h1 : a ≤ 18446744073709551615) : bits BinOp.and IntKind.u64 a ((2 ^ i - 1 : Nat) : Int) = a % ((2 ^ i : Nat) : Int) := by
  have hp : 2 ^ i - 1 < 18446744073709551616 := by
    have : (2 : Nat) ^ i ≤ 2 ^ 63 := Nat.pow_le_pow_right (by omega) (by omega)
    omega
  have e : a = (a.toNat : Int) := (Int.toNat_of_nonneg h0).symm
  rw [e, u64_and_nat _ _ (by omega) hp, Nat.and_two_pow_sub_one_eq_mod]
  rfl
theorem bitE {a : Int} (i : Nat) (hi : i < 64) (h0 : 0 ≤ a) (h1 : a ≤ 18446744073709551615) : (bits BinOp.and IntKind.u64 a ((2 ^ i : Nat) : Int) != 0) = bitB a i := by
  have e : a = (a.toNat : Int) := (Int.toNat_of_nonneg h0).symm
  rw [e]
  exact bit_ne _ i (by omega) hi

theorem two_pow (n : Int) : (2 : Int) ^ n.toNat = pow2 n := by unfold pow2; simp
end Go.Proofs.YtaobmiphnpkoiaaDoor
