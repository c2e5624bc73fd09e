/- Entries: tables, slots, leaves, reserved bits, frames; rights. -/
import Derived.Test.YtaobmiphnpkoiaaDoorEntA
namespace Go.Proofs.YtaobmiphnpkoiaaDoor
set_option linter.unusedVariables false
set_option linter.unusedSimpArgs false
open Go.RowKit
attribute [local go_sem] wext_cell wext_frozen wext_heap alloc_cell alloc_frozen alloc_heap setCell_cell objCell_cells objFrozen_cells

def tabI (x : Int) : Int := x % 4503599627370496 - x % 4096
theorem tabI_le {x : Int} (h : 0 ≤ x) : 0 ≤ tabI x ∧ tabI x ≤ 4503599627366400 ∧ tabI x % 4096 = 0 ∧ tabI x ≤ x := by unfold tabI; omega
theorem tab_and {x : Int} (h0 : 0 ≤ x) (h1 : x ≤ 18446744073709551615) : bits BinOp.and IntKind.u64 x 4503599627366400 = tabI x := by
  have e : x = (x.toNat : Int) := (Int.toNat_of_nonneg h0).symm
  have hn : ∀ n : Nat, n &&& 4503599627366400 = n % 4503599627370496 - n % 4096 := fun n => by
    have e1 : (4503599627366400 : Nat) = (2 ^ 40 - 1) <<< 12 := by decide
    have e2 : n % 4503599627370496 - n % 4096 = (n >>> 12 &&& (2 ^ 40 - 1)) <<< 12 := by
      rw [Nat.and_two_pow_sub_one_eq_mod, Nat.shiftLeft_eq, Nat.shiftRight_eq_div_pow]
      omega
    rw [e2, e1]
    apply Nat.eq_of_testBit_eq
    intro i
    simp only [Nat.testBit_and, Nat.testBit_shiftLeft, Nat.testBit_shiftRight]
    by_cases hi : 12 ≤ i
    · simp [hi, show 12 + (i - 12) = i by omega]
    · simp [hi]
  rw [e, show (4503599627366400 : Int) = ((4503599627366400 : Nat) : Int) from rfl, u64_and_nat _ _ (by omega) (by omega), hn]
  unfold tabI
  omega
def idxI (a l : Int) : Int := if l = 1 then a / 4096 % 512 else if l = 2 then a / 2097152 % 512 else if l = 3 then a / 1073741824 % 512 else a / 549755813888 % 512
theorem idxI_le (a l : Int) : 0 ≤ idxI a l ∧ idxI a l ≤ 511 := by unfold idxI; split; omega; split; omega; split <;> omega
def slotI (t a l : Int) : Int := tabI t + 8 * idxI a l
theorem slotI_le {t a l : Int} (h : 0 ≤ t) : 0 ≤ slotI t a l ∧ slotI t a l ≤ 4503599627370488 ∧ slotI t a l % 8 = 0 := by
  have := idxI_le a l; have := tabI_le h; unfold slotI; omega
def leafI (x l : Int) : Bool := l == 1 || ((l == 2 || l == 3) && bitB x 7)
def sizeE (l : Int) : Int := if l = 1 then 4096 else if l = 2 then 2097152 else if l = 3 then 1073741824 else 1
def resI (x l B : Int) (nxe : Bool) : Bool := x / pow2 B % pow2 (52 - B) != 0 || (bitB x 63 && !nxe) || (l == 4 && bitB x 7) || (l == 2 && bitB x 7 && x / 8192 % 256 != 0) || (l == 3 && bitB x 7 && x / 8192 % 131072 != 0)
def frameI (x l : Int) : Int := if leafI x l then tabI x - tabI x % sizeE l else tabI x

end Go.Proofs.YtaobmiphnpkoiaaDoor
