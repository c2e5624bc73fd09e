/- Bits of a word, by division. Own text. -/
import Derived.Test.YtaobmiphnpkoiaaDoorBitC
import Derived.OpenShut
import Derived.Laws.BitsAllLaws
namespace Go.Proofs.YtaobmiphnpkoiaaDoor
open Go.RowKit

theorem bits_bit (n i : Nat) (hn : n < 18446744073709551616) (hi : i < 64) : bits BinOp.and IntKind.u64 (n : Int) ((2 ^ i : Nat) : Int) = ((n / 2 ^ i % 2 * 2 ^ i : Nat) : Int) := by
  have hp : 2 ^ i < 18446744073709551616 := by
    have : (2 : Nat) ^ i ≤ 2 ^ 63 := Nat.pow_le_pow_right (by omega) (by omega)
    omega
  rw [u64_and_nat n (2 ^ i) hn hp, nat_bit]

theorem bit_ne (n i : Nat) (hn : n < 18446744073709551616) (hi : i < 64) : (bits BinOp.and IntKind.u64 (n : Int) ((2 ^ i : Nat) : Int) != 0) = bitB n i := by
  rw [bits_bit n i hn hi]
  unfold bitB pow2
  rw [Int.toNat_natCast]
  have h2 : 0 < 2 ^ i := Nat.pow_pos (by omega)
  have e : ((n : Int) / ((2 ^ i : Nat) : Int) % 2) = ((n / 2 ^ i % 2 : Nat) : Int) := by simp
  rw [e]
  have h3 : n / 2 ^ i % 2 = 0 ∨ n / 2 ^ i % 2 = 1 := by omega
  rcases h3 with h | h
  · rw [h]; simp
  · rw [h]
    have : ¬ (((1 * 2 ^ i : Nat) : Int) = 0) := by omega
    rw [Bool.eq_iff_iff]
    simp only [bne_iff_ne, ne_eq, this, not_false_eq_true, beq_iff_eq, true_iff]
    rfl

theorem u64_of_wf {x : Int} (h : (Lit.int .u64 x).wf = true) : 0 ≤ x ∧ x ≤ 18446744073709551615 := by
  exact bounds_u64 h
end Go.Proofs.YtaobmiphnpkoiaaDoor
