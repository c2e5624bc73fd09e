/- Contracts of the document's powers and bits. -/
import Derived.Test.YtjlgfkhkjfiadaaDoorBase
namespace Go.Proofs.YtjlgfkhkjfiadaaDoor
set_option linter.unusedVariables false
set_option linter.unusedSimpArgs false
open Go.RowKit
attribute [local go_sem] wext_cell wext_frozen wext_heap alloc_cell alloc_frozen alloc_heap setCell_cell objCell_cells objFrozen_cells

/-- two to a power -/
def pow2 (n : Int) : Int := ((2 ^ n.toNat : Nat) : Int)
theorem pow2_pos (n : Int) : 1 ≤ pow2 n := by
  unfold pow2; have : 0 < 2 ^ n.toNat := Nat.pow_pos (by omega); omega
theorem pow2_le (n : Int) (h : n ≤ 63) : pow2 n ≤ 9223372036854775808 := by
  unfold pow2; have : 2 ^ n.toNat ≤ 2 ^ 63 := Nat.pow_le_pow_right (by omega) (by omega); omega
theorem pow2_zero : pow2 0 = 1 := rfl
theorem pow2_succ (j : Nat) (h : j < 63) : IntKind.u64.wrap (2 * pow2 j) = pow2 ((j : Int) + 1) := by
  have h1 := pow2_le ((j : Int) + 1) (by omega)
  have h2 : pow2 ((j : Int) + 1) = 2 * pow2 j := by
    unfold pow2
    rw [show ((j : Int) + 1).toNat = j + 1 by omega, show (j : Int).toNat = j by omega, Nat.pow_succ]
    omega
  have h3 := pow2_pos j
  rw [h2, IntKind.wrap_u64]
  omega

set_option maxHeartbeats 800000 in
theorem power_c (n : Int) (w : World) (h0 : 0 ≤ n) (h1 : n ≤ 63) :
    Calls Tryd.prog 61 #[.int .i64 n] w fun e w' => e = .returned (.int .u64 (pow2 n)) ∧ Ext w w' := by
  go_enter Tryd.func61, Tryd.ntmps61
  go_wp2
  go_loop [3, 4] (fun x i => ∃ j : Nat, (j : Int) ≤ n ∧ i = .int .i64 j ∧ x = .int .u64 (pow2 j)) (fun _ i => (n - intOf i).toNat)
  case atStart => exact ⟨0, by omega, rfl, rfl⟩
  case round =>
    obtain ⟨j, hj, rfl, rfl⟩ := hrel
    by_cases hlt : (j : Int) < n
    · go_wp2
      go_round
      case rel => exact ⟨j + 1, by omega, by go_num, by rw [pow2_succ _ (by omega)]; rfl⟩
      case measure => simp [intOf]; omega
    · have : n = j := by omega
      have HN := Lib.hid this
      clear this
      go_wp2
      go_ret
      exact ⟨by rw [HN.out]; rfl, Ext.refl _⟩

def bitB (x i : Int) : Bool := x / pow2 i % 2 == 1

set_option maxHeartbeats 800000 in
theorem bit_c (x i : Int) (w : World) (hx : 0 ≤ x) (hx1 : x ≤ 18446744073709551615) (h0 : 0 ≤ i) (h1 : i ≤ 63) :
    Calls Tryd.prog 53 #[.int .u64 x, .int .i64 i] w fun e w' => e = .returned (.bool (bitB x i)) ∧ Ext w w' := by
  have hp := pow2_pos i
  have hq0 : 0 ≤ x / pow2 i := Int.ediv_nonneg hx (by omega)
  have hq1 : x / pow2 i ≤ 18446744073709551615 := by have := Int.ediv_le_self (pow2 i) hx; omega
  go_enter Tryd.func53, Tryd.ntmps53
  go_wp2_with (go_at_call 61; refine (power_c _ _ h0 h1).mono ?_; rintro e w1 ⟨rfl, hb⟩; have ⟨hc, hf, hh, hs⟩ := hb.facts; try simp only [World.size_alloc, World.size_setCell, World.size_drew] at hs)
  go_ret
  exact ⟨rfl, hb⟩

end Go.Proofs.YtjlgfkhkjfiadaaDoor
