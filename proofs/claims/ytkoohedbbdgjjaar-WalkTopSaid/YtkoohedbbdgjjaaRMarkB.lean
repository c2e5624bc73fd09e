/- Bits left away; copies and differences of a law's own memories. -/
import Derived.Test.YtkoohedbbdgjjaaRMarkP
import Derived.Test.YtkoohedbbdgjjaaRDiffB
namespace Go.Proofs.YtkoohedbbdgjjaaR
set_option linter.unusedVariables false
set_option linter.unusedSimpArgs false
open Go.RowKit
attribute [local go_sem] wext_cell wext_frozen wext_heap alloc_cell alloc_frozen alloc_heap setCell_cell objCell_cells objFrozen_cells

theorem bit_div (n i : Nat) : n.testBit i = (n / 2 ^ i % 2 == 1) := by
  rw [Nat.testBit_eq_decide_div_mod_eq]; rfl
theorem eqv_test {x y : Nat} (h : eqv (x : Int) (y : Int)) (i : Nat) (hi : i ≠ 5 ∧ i ≠ 6) : x.testBit i = y.testBit i := by
  unfold eqv at h
  rw [bit_div, bit_div]
  by_cases h7 : 7 ≤ i
  · have e : ∀ z : Nat, z / 2 ^ i = z / 128 / 2 ^ (i - 7) := fun z => by
      rw [Nat.div_div_eq_div_mul, show (128 : Nat) = 2 ^ 7 from rfl, ← Nat.pow_add, show 7 + (i - 7) = i by omega]
    have : x / 128 = y / 128 := by omega
    rw [e, e, this]
  · have : i = 0 ∨ i = 1 ∨ i = 2 ∨ i = 3 ∨ i = 4 := by omega
    have h5 : x % 32 = y % 32 := by omega
    rcases this with rfl | rfl | rfl | rfl | rfl
    · have : x / 2 ^ 0 % 2 = y / 2 ^ 0 % 2 := by simp; omega
      rw [this]
    · have : x / 2 ^ 1 % 2 = y / 2 ^ 1 % 2 := by simp; omega
      rw [this]
    · have : x / 2 ^ 2 % 2 = y / 2 ^ 2 % 2 := by simp; omega
      rw [this]
    · have : x / 2 ^ 3 % 2 = y / 2 ^ 3 % 2 := by simp; omega
      rw [this]
    · have : x / 2 ^ 4 % 2 = y / 2 ^ 4 % 2 := by simp; omega
      rw [this]
theorem not_test {m : Nat} (h : m < 18446744073709551616) (i : Nat) : (18446744073709551615 - m).testBit i = (decide (i < 64) && !m.testBit i) := by
  have := Nat.testBit_two_pow_sub_succ (n := 64) (x := m) (by omega) i
  rw [show 2 ^ 64 - (m + 1) = 18446744073709551615 - m by omega] at this
  exact this
theorem more_none {x y : Int} (h0 : 0 ≤ x) (h1 : x ≤ 18446744073709551615) (k0 : 0 ≤ y) (k1 : y ≤ 18446744073709551615) (h : more x y) : bits BinOp.andNot IntKind.u64 x y = 0 := by
  obtain ⟨n, rfl⟩ : ∃ n : Nat, x = n := ⟨x.toNat, by omega⟩
  obtain ⟨m, rfl⟩ : ∃ m : Nat, y = m := ⟨y.toNat, by omega⟩
  rw [u64_andNot_nat _ _ (by omega) (by omega)]
  have : n &&& (18446744073709551615 - m) = 0 := by
    apply Nat.eq_of_testBit_eq
    intro i
    rw [Nat.testBit_and, not_test (by omega), Nat.zero_testBit]
    obtain ⟨he, hA, hD⟩ := h
    by_cases h56 : i = 5 ∨ i = 6
    · have hn : n.testBit i = true → m.testBit i = true := by
        unfold hasA hasD at *
        simp only [beq_iff_eq] at hA hD
        rw [bit_div, bit_div]
        simp only [beq_iff_eq]
        rcases h56 with rfl | rfl
        · show n / 32 % 2 = 1 → m / 32 % 2 = 1
          omega
        · show n / 64 % 2 = 1 → m / 64 % 2 = 1
          omega
      cases hb : n.testBit i
      · rfl
      · rw [hn hb]; simp
    · rw [eqv_test he i (by omega)]
      cases m.testBit i <;> simp
  rw [this]; rfl
theorem eqv_bare {x y : Int} (h0 : 0 ≤ x) (h1 : x ≤ 18446744073709551615) (k0 : 0 ≤ y) (k1 : y ≤ 18446744073709551615) (h : eqv x y) : bits BinOp.andNot IntKind.u64 y 96 = bits BinOp.andNot IntKind.u64 x 96 := by
  obtain ⟨n, rfl⟩ : ∃ n : Nat, x = n := ⟨x.toNat, by omega⟩
  obtain ⟨m, rfl⟩ : ∃ m : Nat, y = m := ⟨y.toNat, by omega⟩
  rw [show (96 : Int) = ((96 : Nat) : Int) from rfl, u64_andNot_nat _ _ (by omega) (by omega), u64_andNot_nat _ _ (by omega) (by omega)]
  congr 1
  apply Nat.eq_of_testBit_eq
  intro i
  rw [Nat.testBit_and, Nat.testBit_and, not_test (by omega)]
  by_cases h56 : i = 5 ∨ i = 6
  · have : (96 : Nat).testBit i = true := by rcases h56 with rfl | rfl <;> decide
    rw [this]; simp
  · rw [eqv_test h i (by omega)]
theorem nat_and64 (n : Nat) : n &&& 64 = n / 64 % 2 * 64 := by
  have h := Nat.div_add_mod (n &&& 64) 128
  have h1 : (n &&& 64) / 128 = 0 := by
    have := Nat.and_div_two_pow (a := n) (b := 64) (n := 7); simpa using this
  have h2 : (n &&& 64) % 128 = n % 128 &&& 64 := by
    have := Nat.and_mod_two_pow (a := n) (b := 64) (n := 7); simpa using this
  have h3 : ∀ i : Fin 128, i.val &&& 64 = i.val / 64 % 2 * 64 := by decide +kernel
  have h4 := h3 ⟨n % 128, Nat.mod_lt _ (by omega)⟩
  simp only at h4
  omega
theorem and64 {x : Int} (h0 : 0 ≤ x) (h1 : x ≤ 18446744073709551615) : bits BinOp.and IntKind.u64 x 64 = x / 64 % 2 * 64 := by
  rw [u64_and _ _ h0 (by omega) (by omega) (by omega), show (64 : Int).toNat = 64 from rfl, nat_and64]; omega

theorem copy_p (P : Nat → Prop) (mb : Nat) (B : Int) (M : Int → Int) (T : List Int) (U : World) (h : MemP P U mb B M T) : Calls Try.prog 39 #[.pointer (some ⟨mb, 0, none⟩)] U (EndCopy U B M) := by
  obtain ⟨F, h1, -⟩ := h
  exact copy_c mb F B M T U h1
theorem diff_p (P Q : Nat → Prop) (ma mb : Nat) (Ma Mb : Int → Int) (Ta Tb : List Int) (U : World) (ha : MemP P U ma 16 Ma Ta) (hb : MemP Q U mb 16 Mb Tb) :
    Calls Try.prog 40 #[.pointer (some ⟨ma, 0, none⟩), .pointer (some ⟨mb, 0, none⟩)] U (EndDiff U (dOut Ma Mb 16)) := by
  obtain ⟨Fa, h1, -⟩ := ha
  obtain ⟨Fb, h2, -⟩ := hb
  exact diff_c ma mb Fa Fb Ma Mb Ta Tb U h1 h2
theorem markL_twice {B : Int} {df : Bool} {L : List Stp} {M : Int → Int} (h : ∀ s ∈ L, errM B s.2.1 = 0) : markL B df L (markL B df L M) = markL B df L M := by
  have hh := markL_has (df := df) L M h
  exact markL_again L _ (fun s hs _ => hh.1 s hs) (fun s hs hd _ => hh.2 s hs hd)
end Go.Proofs.YtkoohedbbdgjjaaR
