/- Contracts of the document's powers and bits. -/
import Derived.Test.YtaobmiphnpkoiaaDoorBase
namespace Go.Proofs.YtaobmiphnpkoiaaDoor
set_option linter.unusedVariables false
set_option linter.unusedSimpArgs false
open Go.RowKit
attribute [local go_sem] wext_cell wext_frozen wext_heap alloc_cell alloc_frozen alloc_heap setCell_cell objCell_cells objFrozen_cells

/-- two to a power -/
def pow2 (n : Int) : Int := ((2 ^ n.toNat : Nat) : Int)
theorem pow2_pos (n : Int) : 1 ≤ pow2 n := by
  unfold pow2; have : 0 < 2 ^ n.toNat := Nat.pow_pos (by omega); omega
theorem pow2_le (n : Int) (h : n ≤ 63) : pow2 n ≤ 9223372036854775808 := by
  unfold pow2; have : 2 ^ n.toNat ≤ 2 ^ 63 := Nat.pow_le_pow_right (by omega) (by omega); omega
theorem pow2_zero : pow2 0 = 1 := rfl
theorem pow2_succ (j : Nat) (h : j < 63) : IntKind.u64.wrap (2 * pow2 j) = pow2 ((j : Int) + 1) := by
  have h1 := pow2_le ((j : Int) + 1) (by omega)
  have h2 : pow2 ((j : Int) + 1) = 2 * pow2 j := by
    unfold pow2
    rw [show ((j : Int) + 1).toNat = j + 1 by omega, show (j : Int).toNat = j by omega, Nat.pow_succ]
    omega
  have h3 := pow2_pos j
  rw [h2, IntKind.wrap_u64]
  omega

def bitB (x i : Int) : Bool := x / pow2 i % 2 == 1

end Go.Proofs.YtaobmiphnpkoiaaDoor
