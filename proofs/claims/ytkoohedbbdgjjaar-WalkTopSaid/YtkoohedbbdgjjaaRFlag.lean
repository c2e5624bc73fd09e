/- A and D, plainly: words with these bits, without them. -/
import Derived.Test.YtkoohedbbdgjjaaREntB
namespace Go.Proofs.YtkoohedbbdgjjaaR

/-- A word with A; with A and D. -/
def orA (x : Int) : Int := x + (1 - x / 32 % 2) * 32
def orD (x : Int) : Int := x + (3 - x / 32 % 4) * 32
theorem nat_or32 (n : Nat) : n ||| 32 = n + (1 - n / 32 % 2) * 32 := by
  have h := Nat.div_add_mod (n ||| 32) 64
  have h1 : (n ||| 32) / 64 = n / 64 := by
    have := Nat.or_div_two_pow (a := n) (b := 32) (n := 6); simpa using this
  have h2 : (n ||| 32) % 64 = n % 64 ||| 32 := by
    have := Nat.or_mod_two_pow (a := n) (b := 32) (n := 6); simpa using this
  have h3 : ∀ i : Fin 64, i.val ||| 32 = i.val + (1 - i.val / 32 % 2) * 32 := by decide +kernel
  have h4 := h3 ⟨n % 64, Nat.mod_lt _ (by omega)⟩
  simp only at h4
  omega
theorem nat_or96 (n : Nat) : n ||| 96 = n + (3 - n / 32 % 4) * 32 := by
  have h := Nat.div_add_mod (n ||| 96) 128
  have h1 : (n ||| 96) / 128 = n / 128 := by
    have := Nat.or_div_two_pow (a := n) (b := 96) (n := 7); simpa using this
  have h2 : (n ||| 96) % 128 = n % 128 ||| 96 := by
    have := Nat.or_mod_two_pow (a := n) (b := 96) (n := 7); simpa using this
  have h3 : ∀ i : Fin 128, i.val ||| 96 = i.val + (3 - i.val / 32 % 4) * 32 := by decide +kernel
  have h4 := h3 ⟨n % 128, Nat.mod_lt _ (by omega)⟩
  simp only at h4
  omega
theorem nat_and96 (n : Nat) : n &&& 96 = n / 32 % 4 * 32 := by
  have h := Nat.div_add_mod (n &&& 96) 128
  have h1 : (n &&& 96) / 128 = 0 := by
    have := Nat.and_div_two_pow (a := n) (b := 96) (n := 7); simpa using this
  have h2 : (n &&& 96) % 128 = n % 128 &&& 96 := by
    have := Nat.and_mod_two_pow (a := n) (b := 96) (n := 7); simpa using this
  have h3 : ∀ i : Fin 128, i.val &&& 96 = i.val / 32 % 4 * 32 := by decide +kernel
  have h4 := h3 ⟨n % 128, Nat.mod_lt _ (by omega)⟩
  simp only at h4
  omega
theorem nat_and32 (n : Nat) : n &&& 32 = n / 32 % 2 * 32 := by
  have h := Nat.div_add_mod (n &&& 32) 64
  have h1 : (n &&& 32) / 64 = 0 := by
    have := Nat.and_div_two_pow (a := n) (b := 32) (n := 6); simpa using this
  have h2 : (n &&& 32) % 64 = n % 64 &&& 32 := by
    have := Nat.and_mod_two_pow (a := n) (b := 32) (n := 6); simpa using this
  have h3 : ∀ i : Fin 64, i.val &&& 32 = i.val / 32 % 2 * 32 := by decide +kernel
  have h4 := h3 ⟨n % 64, Nat.mod_lt _ (by omega)⟩
  simp only at h4
  omega
theorem or32 {x : Int} (h0 : 0 ≤ x) (h1 : x ≤ 18446744073709551615) : bits BinOp.or IntKind.u64 x 32 = orA x := by
  rw [u64_or _ _ h0 (by omega) (by omega) (by omega), show (32 : Int).toNat = 32 from rfl, nat_or32]
  unfold orA; omega
theorem or96 {x : Int} (h0 : 0 ≤ x) (h1 : x ≤ 18446744073709551615) : bits BinOp.or IntKind.u64 x 96 = orD x := by
  rw [u64_or _ _ h0 (by omega) (by omega) (by omega), show (96 : Int).toNat = 96 from rfl, nat_or96]
  unfold orD; omega
theorem and32 {x : Int} (h0 : 0 ≤ x) (h1 : x ≤ 18446744073709551615) : bits BinOp.and IntKind.u64 x 32 = x / 32 % 2 * 32 := by
  rw [u64_and _ _ h0 (by omega) (by omega) (by omega), show (32 : Int).toNat = 32 from rfl, nat_and32]; omega
theorem and96 {x : Int} (h0 : 0 ≤ x) (h1 : x ≤ 18446744073709551615) : bits BinOp.and IntKind.u64 x 96 = x / 32 % 4 * 32 := by
  rw [u64_and _ _ h0 (by omega) (by omega) (by omega), show (96 : Int).toNat = 96 from rfl, nat_and96]; omega
theorem orA_le {x : Int} (h0 : 0 ≤ x) (h1 : x ≤ 18446744073709551615) : 0 ≤ orA x ∧ orA x ≤ 18446744073709551615 := by unfold orA; omega
theorem orD_le {x : Int} (h0 : 0 ≤ x) (h1 : x ≤ 18446744073709551615) : 0 ≤ orD x ∧ orD x ≤ 18446744073709551615 := by unfold orD; omega

/-- The same word but for A and D. -/
def eqv (x y : Int) : Prop := x / 128 = y / 128 ∧ x % 32 = y % 32
theorem eqv_refl (x : Int) : eqv x x := ⟨rfl, rfl⟩
theorem eqv_symm {x y : Int} (h : eqv x y) : eqv y x := ⟨h.1.symm, h.2.symm⟩
theorem eqv_trans {x y z : Int} (h : eqv x y) (k : eqv y z) : eqv x z := ⟨h.1.trans k.1, h.2.trans k.2⟩
theorem eqv_orA (x : Int) : eqv x (orA x) := by unfold eqv orA; omega
theorem eqv_orD (x : Int) : eqv x (orD x) := by unfold eqv orD; omega
theorem orD_eq (x : Int) : orD x = x / 128 * 128 + 96 + x % 32 := by unfold orD; omega
theorem orD_div (x : Int) : orD x / 128 = x / 128 := by rw [orD_eq]; omega
theorem orD_mod (x : Int) : orD x % 32 = x % 32 := by rw [orD_eq]; omega
theorem eqv_or {x y : Int} : orD x = orD y ↔ eqv x y :=
  ⟨fun h => ⟨by rw [← orD_div, h, orD_div], by rw [← orD_mod, h, orD_mod]⟩, fun h => by rw [orD_eq, orD_eq, h.1, h.2]⟩
theorem div_63 (x : Int) : x / 9223372036854775808 = x / 128 / 72057594037927936 := by rw [Int.ediv_ediv_of_nonneg (by omega)]; rfl
theorem div_12 (x : Int) : x / 4096 = x / 128 / 32 := by rw [Int.ediv_ediv_of_nonneg (by omega)]; rfl
theorem eqv_bit {x y : Int} (h : eqv x y) (i : Int) (hi : i = 0 ∨ i = 1 ∨ i = 2 ∨ i = 7 ∨ i = 63) : bitB x i = bitB y i := by
  unfold eqv at h
  have : x / pow2 i % 2 = y / pow2 i % 2 := by
    rcases hi with rfl | rfl | rfl | rfl | rfl
    · show x / 1 % 2 = y / 1 % 2; omega
    · show x / 2 % 2 = y / 2 % 2; omega
    · show x / 4 % 2 = y / 4 % 2; omega
    · show x / 128 % 2 = y / 128 % 2; omega
    · show x / 9223372036854775808 % 2 = y / 9223372036854775808 % 2; rw [div_63, div_63, h.1]
  unfold bitB; rw [this]
theorem tab_d (x : Int) : tabI x = x / 4096 % 1099511627776 * 4096 := by unfold tabI; omega
theorem eqv_tab {x y : Int} (h : eqv x y) : tabI x = tabI y := by rw [tab_d, tab_d, div_12, div_12, h.1]
theorem eqv_leaf {x y : Int} (h : eqv x y) (l : Int) : leafI x l = leafI y l := by unfold leafI; rw [eqv_bit h 7 (by omega)]
theorem eqv_frame {x y : Int} (h : eqv x y) (l : Int) : frameI x l = frameI y l := by unfold frameI; rw [eqv_leaf h, eqv_tab h]
theorem eqv_res {x y : Int} (h : eqv x y) (l B : Int) (nxe : Bool) (hB : 14 ≤ B ∧ B ≤ 22) : resI x l B nxe = resI y l B nxe := by
  have h1 : x / pow2 B = y / pow2 B := by
    have hp : ∀ z : Int, z / pow2 B = z / 128 / pow2 (B - 7) := fun z => by
      have e : pow2 B = 128 * pow2 (B - 7) := by
        unfold pow2
        rw [show B.toNat = 7 + (B - 7).toNat by omega, Nat.pow_add]; simp
      rw [e, Int.ediv_ediv_of_nonneg (by omega)]
    rw [hp, hp, h.1]
  have h2 : x / 8192 = y / 8192 := by unfold eqv at h; omega
  unfold resI
  rw [h1, h2, eqv_bit h 7 (by omega), eqv_bit h 63 (by omega)]
end Go.Proofs.YtkoohedbbdgjjaaR
