/- Addresses' keys and places, of both sides; sizes. -/
import Derived.Test.YtnacgmmkmedpdaaRefB
import Derived.Test.YtnacgmmkmedpdaaLawCA
namespace Go.Proofs.Ytnacgmmkmedpdaa
set_option linter.unusedVariables false
set_option linter.unusedSimpArgs false
open Go.RowKit
attribute [local go_sem] wext_cell wext_frozen wext_heap alloc_cell alloc_frozen alloc_heap setCell_cell objCell_cells objFrozen_cells

def sizeI (l : Int) : Int := if l = 1 then 4096 else if l = 2 then 2097152 else if l = 3 then 1073741824 else 0

theorem vaShift_bad (l : Int) (w : World) (h : l < 1 ∨ 5 ≤ l) :
    Calls Try.prog 135 #[.int .i64 l] w fun e w' => e = .returned (.tuple #[.int .i64 0, .bool false]) ∧ Ext w w' := by
  rcases h with h | h
  all_goals
    go_enter Try.func135, Try.ntmps135
    go_wp2
    all_goals
      go_ret2
      exact ⟨rfl, (by repeat (first | exact Ext.refl _ | assumption | refine Ext.alloc ?_ _ | refine Ext.drew ?_ | refine Ext.setCell ?_ (by first | (simp; done) | (dsimp only; omega)) _ | refine Ext.trans ?_ (by assumption)))⟩
theorem vaShift_c (l : Int) (w : World) (h0 : 1 ≤ l) (h1 : l ≤ 4) :
    Calls Try.prog 135 #[.int .i64 l] w fun e w' => e = .returned (.tuple #[.int .i64 (9 * l + 3), .bool true]) ∧ Ext w w' := by
  have : l = 1 ∨ l = 2 ∨ l = 3 ∨ l = 4 := by omega
  rcases this with rfl | rfl | rfl | rfl
  all_goals
    go_enter Try.func135, Try.ntmps135
    go_wp2
    go_ret2
    exact ⟨rfl, (by repeat (first | exact Ext.refl _ | assumption | refine Ext.alloc ?_ _ | refine Ext.drew ?_ | refine Ext.setCell ?_ (by first | (simp; done) | (dsimp only; omega)) _ | refine Ext.trans ?_ (by assumption)))⟩

theorem vaSize_c (l : Int) (w : World) :
    Calls Try.prog 120 #[.int .i64 l] w fun e w' => e = .returned (.int .u64 (sizeI l)) ∧ Ext w w' := by
  have : (l < 1 ∨ 5 ≤ l) ∨ l = 1 ∨ l = 2 ∨ l = 3 ∨ l = 4 := by omega
  rcases this with h | rfl | rfl | rfl | rfl
  case inl =>
    go_enter Try.func120, Try.ntmps120
    go_wp2_with (first | (go_at_call 135; refine (vaShift_bad _ _ h).mono ?_; rintro e w1 ⟨rfl, hb⟩; have ⟨hc, hf, hh, hs⟩ := hb.facts; try simp only [World.size_alloc, World.size_setCell, World.size_drew] at hs))
    go_ret
    exact ⟨by unfold sizeI; rw [if_neg (by omega), if_neg (by omega), if_neg (by omega)]; rfl, hb⟩
  all_goals
    go_enter Try.func120, Try.ntmps120
    go_wp2_with (first | (go_at_call 135; refine (vaShift_c _ _ (by omega) (by omega)).mono ?_; rintro e w1 ⟨rfl, hb⟩; have ⟨hc, hf, hh, hs⟩ := hb.facts; try simp only [World.size_alloc, World.size_setCell, World.size_drew] at hs))
    go_ret
    exact ⟨rfl, hb⟩

theorem low_mask {a : Int} (i : Nat) (hi : i < 64) (h0 : 0 ≤ a) (h1 : a ≤ 18446744073709551615) : bits BinOp.and IntKind.u64 a ((2 ^ i - 1 : Nat) : Int) = a % ((2 ^ i : Nat) : Int) := by
  have hp : 2 ^ i - 1 < 18446744073709551616 := by
    have : (2 : Nat) ^ i ≤ 2 ^ 63 := Nat.pow_le_pow_right (by omega) (by omega)
    omega
  have e : a = (a.toNat : Int) := (Int.toNat_of_nonneg h0).symm
  rw [e, u64_and_nat _ _ (by omega) hp, Nat.and_two_pow_sub_one_eq_mod]
  rfl

theorem none129 (w : World) : Calls Try.prog 139 #[.int .i64 12, .int .i64 9] w fun e w' => e = .returned (.bool false) ∧ Ext w w' := by
  go_enter Try.func139, Try.ntmps139
  go_wp2
  all_goals
    go_ret
    exact ⟨rfl, (by repeat (first | exact Ext.refl _ | assumption | refine Ext.alloc ?_ _ | refine Ext.drew ?_ | refine Ext.setCell ?_ (by first | (simp; done) | (dsimp only; omega)) _ | refine Ext.trans ?_ (by assumption)))⟩
theorem ones9 (w : World) : Calls Try.prog 140 #[.int .i64 9] w fun e w' => e = .returned (.int .u64 511) ∧ Ext w w' := by
  go_enter Try.func140, Try.ntmps140
  go_wp2
  all_goals
    go_ret
    exact ⟨rfl, (by repeat (first | exact Ext.refl _ | assumption | refine Ext.alloc ?_ _ | refine Ext.drew ?_ | refine Ext.setCell ?_ (by first | (simp; done) | (dsimp only; omega)) _ | refine Ext.trans ?_ (by assumption)))⟩
theorem get129 (a : Int) (w : World) (h0 : 0 ≤ a) (h1 : a ≤ 18446744073709551615) : Calls Try.prog 127 #[.int .u64 a, .int .i64 12, .int .i64 9] w fun e w' => e = .returned (.int .u64 (a / 4096 % 512)) ∧ Ext w w' := by
  have hm : bits BinOp.and IntKind.u64 (a / 4096) 511 = a / 4096 % 512 := low_mask (a := a / 4096) 9 (by omega) (by omega) (by omega)
  go_enter Try.func127, Try.ntmps127
  go_wp2_with (first | (go_at_call 139; refine (none129 _).mono ?_; rintro e w1 ⟨rfl, hb⟩; have ⟨hc, hf, hh, hs⟩ := hb.facts; try simp only [World.size_alloc, World.size_setCell, World.size_drew] at hs) | (go_at_call 140; refine (ones9 _).mono ?_; rintro e w1 ⟨rfl, hb⟩; have ⟨hc, hf, hh, hs⟩ := hb.facts; try simp only [World.size_alloc, World.size_setCell, World.size_drew] at hs))
  go_ret
  exact ⟨by rw [← hm]; rfl, (by repeat (first | exact Ext.refl _ | assumption | refine Ext.alloc ?_ _ | refine Ext.drew ?_ | refine Ext.setCell ?_ (by first | (simp; done) | (dsimp only; omega)) _ | refine Ext.trans ?_ (by assumption)))⟩
theorem vaIndex1_c (a : Int) (w : World) (h0 : 0 ≤ a) (h1 : a ≤ 18446744073709551615) : Calls Try.prog 121 #[.int .u64 a, .int .i64 1] w fun e w' => e = .returned (.int .i64 (a / 4096 % 512)) ∧ Ext w w' := by
  have hs : ∀ w, Calls Try.prog 135 #[.int .i64 1] w fun e w' => e = .returned (.tuple #[.int .i64 12, .bool true]) ∧ Ext w w' := fun w => vaShift_c 1 w (by omega) (by omega)
  go_enter Try.func121, Try.ntmps121
  go_wp2_with (first | (go_at_call 135; refine (hs _).mono ?_; rintro e w1 ⟨rfl, hb⟩; have ⟨hc, hf, hh, hs⟩ := hb.facts; try simp only [World.size_alloc, World.size_setCell, World.size_drew] at hs) | (go_at_call 127; refine (get129 a _ h0 h1).mono ?_; rintro e w1 ⟨rfl, hb⟩; have ⟨hc, hf, hh, hs⟩ := hb.facts; try simp only [World.size_alloc, World.size_setCell, World.size_drew] at hs))
  go_ret
  exact ⟨rfl, (by repeat (first | exact Ext.refl _ | assumption | refine Ext.alloc ?_ _ | refine Ext.drew ?_ | refine Ext.setCell ?_ (by first | (simp; done) | (dsimp only; omega)) _ | refine Ext.trans ?_ (by assumption)))⟩
def placeI (a : Int) : Int := a / 4096 % 8
theorem placeI_lt (a : Int) (h0 : 0 ≤ a) : 0 ≤ placeI a ∧ placeI a ≤ 7 := by unfold placeI; omega
theorem tlbPlace_c (a : Int) (w : World) (h0 : 0 ≤ a) (h1 : a ≤ 18446744073709551615) : Calls Try.prog 90 #[.int .u64 a] w fun e w' => e = .returned (.int .i64 (placeI a)) ∧ Ext w w' := by
  have hp : (a / 4096 % 512) % 8 = placeI a := by unfold placeI; omega
  go_enter Try.func90, Try.ntmps90
  go_wp2_with (first | (go_at_call 121; refine (vaIndex1_c a _ h0 h1).mono ?_; rintro e w1 ⟨rfl, hb⟩; have ⟨hc, hf, hh, hs⟩ := hb.facts; try simp only [World.size_alloc, World.size_setCell, World.size_drew] at hs))
  go_ret
  exact ⟨by rw [← hp]; rfl, (by repeat (first | exact Ext.refl _ | assumption | refine Ext.alloc ?_ _ | refine Ext.drew ?_ | refine Ext.setCell ?_ (by first | (simp; done) | (dsimp only; omega)) _ | refine Ext.trans ?_ (by assumption)))⟩

/-- The key of an address on a level. -/
def szT (l : Int) : Int := if l = 1 then 32768 else if l = 2 then 2097152 else 1073741824
def kT (p l a : Int) : Key := ⟨p, l, a / szT l⟩
theorem tlbKey_c (p l a : Int) (w : World) (hl : l = 1 ∨ l = 2 ∨ l = 3) (h0 : 0 ≤ a) (h1 : a ≤ 18446744073709551615) : Calls Try.prog 89 #[.int .i64 p, .int .i64 l, .int .u64 a] w fun e w' => e = .returned (kT p l a).val ∧ Ext w w' := by
  have s1 : ∀ w, Calls Try.prog 120 #[.int .i64 1] w fun e w' => e = .returned (.int .u64 4096) ∧ Ext w w' := fun w => vaSize_c 1 w
  have s2 : ∀ w, Calls Try.prog 120 #[.int .i64 2] w fun e w' => e = .returned (.int .u64 2097152) ∧ Ext w w' := fun w => vaSize_c 2 w
  have s3 : ∀ w, Calls Try.prog 120 #[.int .i64 3] w fun e w' => e = .returned (.int .u64 1073741824) ∧ Ext w w' := fun w => vaSize_c 3 w
  unfold kT szT Key.val
  rcases hl with rfl | rfl | rfl
  · simp only [reduceIte]
    go_enter Try.func89, Try.ntmps89
    go_wp2_with (first | (go_at_call 120; refine (s1 _).mono ?_; rintro e w1 ⟨rfl, hb⟩; have ⟨hc, hf, hh, hs⟩ := hb.facts; try simp only [World.size_alloc, World.size_setCell, World.size_drew] at hs))
    refine bodyPost_ret (by simp [results, Try.results89, go_sem, ↓IntWalk.iteOmega, *]; try rfl) rfl ⟨rfl, (by repeat (first | exact Ext.refl _ | assumption | refine Ext.alloc ?_ _ | refine Ext.drew ?_ | refine Ext.setCell ?_ (by first | (simp; done) | (dsimp only; omega)) _ | refine Ext.trans ?_ (by assumption)))⟩
  · simp only [Int.reduceEq, reduceIte]
    go_enter Try.func89, Try.ntmps89
    go_wp2_with (first | (go_at_call 120; refine (s2 _).mono ?_; rintro e w1 ⟨rfl, hb⟩; have ⟨hc, hf, hh, hs⟩ := hb.facts; try simp only [World.size_alloc, World.size_setCell, World.size_drew] at hs))
    refine bodyPost_ret (by simp [results, Try.results89, go_sem, ↓IntWalk.iteOmega, *]; try rfl) rfl ⟨rfl, (by repeat (first | exact Ext.refl _ | assumption | refine Ext.alloc ?_ _ | refine Ext.drew ?_ | refine Ext.setCell ?_ (by first | (simp; done) | (dsimp only; omega)) _ | refine Ext.trans ?_ (by assumption)))⟩
  · simp only [Int.reduceEq, reduceIte]
    go_enter Try.func89, Try.ntmps89
    go_wp2_with (first | (go_at_call 120; refine (s3 _).mono ?_; rintro e w1 ⟨rfl, hb⟩; have ⟨hc, hf, hh, hs⟩ := hb.facts; try simp only [World.size_alloc, World.size_setCell, World.size_drew] at hs))
    refine bodyPost_ret (by simp [results, Try.results89, go_sem, ↓IntWalk.iteOmega, *]; try rfl) rfl ⟨rfl, (by repeat (first | exact Ext.refl _ | assumption | refine Ext.alloc ?_ _ | refine Ext.drew ?_ | refine Ext.setCell ?_ (by first | (simp; done) | (dsimp only; omega)) _ | refine Ext.trans ?_ (by assumption)))⟩

theorem refSize_c (l : Int) (w : World) : Calls Try.prog 48 #[.int .i64 l] w fun e w' => e = .returned (.int .u64 (sizeI l)) ∧ Ext w w' := by
  have : (l ≠ 1 ∧ l ≠ 2 ∧ l ≠ 3) ∨ l = 1 ∨ l = 2 ∨ l = 3 := by omega
  rcases this with ⟨h1, h2, h3⟩ | rfl | rfl | rfl
  · have e1 : (l == 1) = false := by simpa using h1
    have e2 : (l == 2) = false := by simpa using h2
    have e3 : (l == 3) = false := by simpa using h3
    rw [show sizeI l = 0 by unfold sizeI; rw [if_neg h1, if_neg h2, if_neg h3]]
    go_enter Try.func48, Try.ntmps48
    go_wp2
    all_goals
      go_ret
      exact ⟨rfl, (by repeat (first | exact Ext.refl _ | assumption | refine Ext.alloc ?_ _ | refine Ext.drew ?_ | refine Ext.setCell ?_ (by first | (simp; done) | (dsimp only; omega)) _ | refine Ext.trans ?_ (by assumption)))⟩
  all_goals
    go_enter Try.func48, Try.ntmps48
    go_wp2
    all_goals
      go_ret
      exact ⟨rfl, (by repeat (first | exact Ext.refl _ | assumption | refine Ext.alloc ?_ _ | refine Ext.drew ?_ | refine Ext.setCell ?_ (by first | (simp; done) | (dsimp only; omega)) _ | refine Ext.trans ?_ (by assumption)))⟩
theorem refKeyT_c (p l a : Int) (w : World) (hl : l = 1 ∨ l = 2 ∨ l = 3) (h0 : 0 ≤ a) (h1 : a ≤ 18446744073709551615) : Calls Try.prog 91 #[.int .i64 p, .int .i64 l, .int .u64 a] w fun e w' => e = .returned (kT p l a).val ∧ Ext w w' := by
  have s1 : ∀ w, Calls Try.prog 48 #[.int .i64 1] w fun e w' => e = .returned (.int .u64 4096) ∧ Ext w w' := fun w => refSize_c 1 w
  have s2 : ∀ w, Calls Try.prog 48 #[.int .i64 2] w fun e w' => e = .returned (.int .u64 2097152) ∧ Ext w w' := fun w => refSize_c 2 w
  have s3 : ∀ w, Calls Try.prog 48 #[.int .i64 3] w fun e w' => e = .returned (.int .u64 1073741824) ∧ Ext w w' := fun w => refSize_c 3 w
  unfold kT szT Key.val
  rcases hl with rfl | rfl | rfl
  · simp only [reduceIte]
    go_enter Try.func91, Try.ntmps91
    go_wp2_with (first | (go_at_call 48; refine (s1 _).mono ?_; rintro e w1 ⟨rfl, hb⟩; have ⟨hc, hf, hh, hs⟩ := hb.facts; try simp only [World.size_alloc, World.size_setCell, World.size_drew] at hs))
    refine bodyPost_ret (by simp [results, Try.results91, go_sem, ↓IntWalk.iteOmega, *]; try rfl) rfl ⟨rfl, (by repeat (first | exact Ext.refl _ | assumption | refine Ext.alloc ?_ _ | refine Ext.drew ?_ | refine Ext.setCell ?_ (by first | (simp; done) | (dsimp only; omega)) _ | refine Ext.trans ?_ (by assumption)))⟩
  · simp only [Int.reduceEq, reduceIte]
    go_enter Try.func91, Try.ntmps91
    go_wp2_with (first | (go_at_call 48; refine (s2 _).mono ?_; rintro e w1 ⟨rfl, hb⟩; have ⟨hc, hf, hh, hs⟩ := hb.facts; try simp only [World.size_alloc, World.size_setCell, World.size_drew] at hs))
    refine bodyPost_ret (by simp [results, Try.results91, go_sem, ↓IntWalk.iteOmega, *]; try rfl) rfl ⟨rfl, (by repeat (first | exact Ext.refl _ | assumption | refine Ext.alloc ?_ _ | refine Ext.drew ?_ | refine Ext.setCell ?_ (by first | (simp; done) | (dsimp only; omega)) _ | refine Ext.trans ?_ (by assumption)))⟩
  · simp only [Int.reduceEq, reduceIte]
    go_enter Try.func91, Try.ntmps91
    go_wp2_with (first | (go_at_call 48; refine (s3 _).mono ?_; rintro e w1 ⟨rfl, hb⟩; have ⟨hc, hf, hh, hs⟩ := hb.facts; try simp only [World.size_alloc, World.size_setCell, World.size_drew] at hs))
    refine bodyPost_ret (by simp [results, Try.results91, go_sem, ↓IntWalk.iteOmega, *]; try rfl) rfl ⟨rfl, (by repeat (first | exact Ext.refl _ | assumption | refine Ext.alloc ?_ _ | refine Ext.drew ?_ | refine Ext.setCell ?_ (by first | (simp; done) | (dsimp only; omega)) _ | refine Ext.trans ?_ (by assumption)))⟩
end Go.Proofs.Ytnacgmmkmedpdaa
