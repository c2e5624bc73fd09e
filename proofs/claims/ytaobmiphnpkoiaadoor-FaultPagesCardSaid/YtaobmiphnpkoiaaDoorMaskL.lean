/- The low bits of a word. -/
import Derived.Test.YtaobmiphnpkoiaaDoorEntB
namespace Go.Proofs.YtaobmiphnpkoiaaDoor
set_option linter.unusedVariables false
set_option linter.unusedSimpArgs false
open Go.RowKit
attribute [local go_sem] wext_cell wext_frozen wext_heap alloc_cell alloc_frozen alloc_heap setCell_cell objCell_cells objFrozen_cells
theorem mask_low2 {a : Int} (i : Nat) (hi : i < 64) (h0 : 0 ≤ a) (h1 : a ≤ 18446744073709551615) : bits BinOp.and IntKind.u64 a ((2 ^ i - 1 : Nat) : Int) = a % ((2 ^ i : Nat) : Int) := by
  have hp : 2 ^ i - 1 < 18446744073709551616 := by
    have : (2 : Nat) ^ i ≤ 2 ^ 63 := Nat.pow_le_pow_right (by omega) (by omega)
    omega
  have e : a = (a.toNat : Int) := (Int.toNat_of_nonneg h0).symm
  rw [e, u64_and_nat _ _ (by omega) hp, Nat.and_two_pow_sub_one_eq_mod]
  rfl
theorem mask40 {a : Int} (h0 : 0 ≤ a) (h1 : a ≤ 1099511627775) : bits BinOp.and IntKind.u64 a 1099511627775 = a := by
  have : bits BinOp.and IntKind.u64 a 1099511627775 = a % 1099511627776 := mask_low2 40 (by omega) h0 (by omega)
  rw [this]; omega
end Go.Proofs.YtaobmiphnpkoiaaDoor
