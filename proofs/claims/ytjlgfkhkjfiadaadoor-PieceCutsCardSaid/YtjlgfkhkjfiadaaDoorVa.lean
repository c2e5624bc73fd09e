/- Contracts of va: what is canonical, sizes, pages. -/
import Derived.Test.YtjlgfkhkjfiadaaDoorBits
namespace Go.Proofs.YtjlgfkhkjfiadaaDoor
set_option linter.unusedVariables false
set_option linter.unusedSimpArgs false
open Go.RowKit
attribute [local go_sem] wext_cell wext_frozen wext_heap alloc_cell alloc_frozen alloc_heap setCell_cell objCell_cells objFrozen_cells

/-- an address's 48 bits, with their sign -/
def signI (a : Int) : Int := if a % 281474976710656 < 140737488355328 then a % 281474976710656 else a % 281474976710656 + 18446462598732840960
def canonB (a : Int) : Bool := decide (a < 140737488355328) || decide (18446603336221196288 ≤ a)
theorem sign_eq (a : Int) : IntKind.u64.wrap (wrap64 (IntKind.u64.wrap (a * 65536)) / 65536) = signI a := by
  unfold signI wrap64
  simp only [IntKind.wrap_u64]
  split <;> omega
theorem canon_eq {a : Int} (h0 : 0 ≤ a) (h1 : a ≤ 18446744073709551615) : (signI a == a) = canonB a := by
  unfold signI canonB
  rw [Bool.eq_iff_iff]
  simp only [beq_iff_eq, Bool.or_eq_true, decide_eq_true_eq]
  split <;> omega
theorem canonB_true {a : Int} : canonB a = true ↔ a < 140737488355328 ∨ 18446603336221196288 ≤ a := by simp [canonB]
theorem canonB_false {a : Int} : canonB a = false ↔ ¬ (a < 140737488355328 ∨ 18446603336221196288 ≤ a) := by
  rw [← canonB_true]; simp

theorem vaSign_c (a : Int) (w : World) (h0 : 0 ≤ a) (h1 : a ≤ 18446744073709551615) :
    Calls Tryd.prog 43 #[.int .u64 a] w fun e w' => e = .returned (.int .u64 (signI a)) ∧ Ext w w' := by
  go_enter Tryd.func43, Tryd.ntmps43
  go_wp2
  go_ret
  exact ⟨by rw [← sign_eq]; rfl, Ext.refl _⟩

theorem vaCanon_c (a : Int) (w : World) (h0 : 0 ≤ a) (h1 : a ≤ 18446744073709551615) :
    Calls Tryd.prog 32 #[.int .u64 a] w fun e w' => e = .returned (.bool (canonB a)) ∧ Ext w w' := by
  have HC := Lib.hid (canon_eq h0 h1)
  go_enter Tryd.func32, Tryd.ntmps32
  go_wp2_with (first | (go_at_call 43; refine (vaSign_c _ _ h0 h1).mono ?_; rintro e w1 ⟨rfl, hb⟩; have ⟨hc, hf, hh, hs⟩ := hb.facts; try simp only [World.size_alloc, World.size_setCell, World.size_drew] at hs))
  go_ret
  exact ⟨by rw [← (HC : Hid _).out]; rfl, hb⟩

def sizeI (l : Int) : Int := if l = 1 then 4096 else if l = 2 then 2097152 else if l = 3 then 1073741824 else 0

theorem vaShift_bad (l : Int) (w : World) (h : l < 1 ∨ 5 ≤ l) :
    Calls Tryd.prog 59 #[.int .i64 l] w fun e w' => e = .returned (.tuple #[.int .i64 0, .bool false]) ∧ Ext w w' := by
  rcases h with h | h
  all_goals
    go_enter Tryd.func59, Tryd.ntmps59
    go_wp2
    all_goals
      go_ret2
      exact ⟨rfl, (by repeat (first | exact Ext.refl _ | assumption | refine Ext.alloc ?_ _ | refine Ext.drew ?_ | refine Ext.setCell ?_ (by first | (simp; done) | (dsimp only; omega)) _ | refine Ext.trans ?_ (by assumption)))⟩
theorem vaShift_c (l : Int) (w : World) (h0 : 1 ≤ l) (h1 : l ≤ 4) :
    Calls Tryd.prog 59 #[.int .i64 l] w fun e w' => e = .returned (.tuple #[.int .i64 (9 * l + 3), .bool true]) ∧ Ext w w' := by
  have : l = 1 ∨ l = 2 ∨ l = 3 ∨ l = 4 := by omega
  rcases this with rfl | rfl | rfl | rfl
  all_goals
    go_enter Tryd.func59, Tryd.ntmps59
    go_wp2
    go_ret2
    exact ⟨rfl, (by repeat (first | exact Ext.refl _ | assumption | refine Ext.alloc ?_ _ | refine Ext.drew ?_ | refine Ext.setCell ?_ (by first | (simp; done) | (dsimp only; omega)) _ | refine Ext.trans ?_ (by assumption)))⟩

theorem vaSize_c (l : Int) (w : World) :
    Calls Tryd.prog 51 #[.int .i64 l] w fun e w' => e = .returned (.int .u64 (sizeI l)) ∧ Ext w w' := by
  have : (l < 1 ∨ 5 ≤ l) ∨ l = 1 ∨ l = 2 ∨ l = 3 ∨ l = 4 := by omega
  rcases this with h | rfl | rfl | rfl | rfl
  case inl =>
    go_enter Tryd.func51, Tryd.ntmps51
    go_wp2_with (first | (go_at_call 59; refine (vaShift_bad _ _ h).mono ?_; rintro e w1 ⟨rfl, hb⟩; have ⟨hc, hf, hh, hs⟩ := hb.facts; try simp only [World.size_alloc, World.size_setCell, World.size_drew] at hs))
    go_ret
    exact ⟨by unfold sizeI; rw [if_neg (by omega), if_neg (by omega), if_neg (by omega)]; rfl, hb⟩
  all_goals
    go_enter Tryd.func51, Tryd.ntmps51
    go_wp2_with (first | (go_at_call 59; refine (vaShift_c _ _ (by omega) (by omega)).mono ?_; rintro e w1 ⟨rfl, hb⟩; have ⟨hc, hf, hh, hs⟩ := hb.facts; try simp only [World.size_alloc, World.size_setCell, World.size_drew] at hs))
    go_ret
    exact ⟨rfl, hb⟩

def lowI (a l : Int) : Int := if sizeI l = 0 then 0 else a % sizeI l
theorem lowI_le {a l : Int} (h0 : 0 ≤ a) : 0 ≤ lowI a l ∧ lowI a l ≤ a := by
  unfold lowI sizeI
  repeat' split
  all_goals omega
theorem low_mask {a : Int} (i : Nat) (hi : i < 64) (h0 : 0 ≤ a) (h1 : a ≤ 18446744073709551615) : bits BinOp.and IntKind.u64 a ((2 ^ i - 1 : Nat) : Int) = a % ((2 ^ i : Nat) : Int) := by
  have hp : 2 ^ i - 1 < 18446744073709551616 := by
    have : (2 : Nat) ^ i ≤ 2 ^ 63 := Nat.pow_le_pow_right (by omega) (by omega)
    omega
  have e : a = (a.toNat : Int) := (Int.toNat_of_nonneg h0).symm
  rw [e, u64_and_nat _ _ (by omega) hp, Nat.and_two_pow_sub_one_eq_mod]
  rfl

theorem vaLow_c (a l : Int) (w : World) (h0 : 0 ≤ a) (h1 : a ≤ 18446744073709551615) :
    Calls Tryd.prog 44 #[.int .u64 a, .int .i64 l] w fun e w' => e = .returned (.int .u64 (lowI a l)) ∧ Ext w w' := by
  have : l = 1 ∨ l = 2 ∨ l = 3 ∨ sizeI l = 0 := by unfold sizeI; split <;> (try split) <;> (try split) <;> omega
  rcases this with rfl | rfl | rfl | h
  case inr.inr.inr =>
    go_enter Tryd.func44, Tryd.ntmps44
    go_wp2_with (first | (go_at_call 51; refine (vaSize_c _ _).mono ?_; rintro e w1 ⟨rfl, hb⟩))
    go_ret
    exact ⟨by unfold lowI; rw [if_pos h]; rfl, hb⟩
  case inl =>
    have e1 : sizeI 1 = 4096 := rfl
    have e2 := Lib.hid (low_mask 12 (by omega) h0 h1)
    go_enter Tryd.func44, Tryd.ntmps44
    go_wp2_with (first | (go_at_call 51; refine (vaSize_c _ _).mono ?_; rintro e w1 ⟨rfl, hb⟩))
    go_ret
    exact ⟨congrArg (fun x => Ending.returned (Value.int .u64 x)) (e2 : Hid _).out, hb⟩
  case inr.inl =>
    have e1 : sizeI 2 = 2097152 := rfl
    have e2 := Lib.hid (low_mask 21 (by omega) h0 h1)
    go_enter Tryd.func44, Tryd.ntmps44
    go_wp2_with (first | (go_at_call 51; refine (vaSize_c _ _).mono ?_; rintro e w1 ⟨rfl, hb⟩))
    go_ret
    exact ⟨congrArg (fun x => Ending.returned (Value.int .u64 x)) (e2 : Hid _).out, hb⟩
  case inr.inr.inl =>
    have e1 : sizeI 3 = 1073741824 := rfl
    have e2 := Lib.hid (low_mask 30 (by omega) h0 h1)
    go_enter Tryd.func44, Tryd.ntmps44
    go_wp2_with (first | (go_at_call 51; refine (vaSize_c _ _).mono ?_; rintro e w1 ⟨rfl, hb⟩))
    go_ret
    exact ⟨congrArg (fun x => Ending.returned (Value.int .u64 x)) (e2 : Hid _).out, hb⟩

theorem vaPage_c (a l : Int) (w : World) (h0 : 0 ≤ a) (h1 : a ≤ 18446744073709551615) :
    Calls Tryd.prog 33 #[.int .u64 a, .int .i64 l] w fun e w' => e = .returned (.int .u64 (a - lowI a l)) ∧ Ext w w' := by
  have ⟨g0, g1⟩ := lowI_le (l := l) h0
  go_enter Tryd.func33, Tryd.ntmps33
  go_wp2_with (first | (go_at_call 44; refine (vaLow_c _ _ _ h0 h1).mono ?_; rintro e w1 ⟨rfl, hb⟩; have ⟨hc, hf, hh, hs⟩ := hb.facts; try simp only [World.size_alloc, World.size_setCell, World.size_drew] at hs))
  go_ret
  exact ⟨rfl, hb⟩
theorem vaPage1_c (a : Int) (w : World) (h0 : 0 ≤ a) (h1 : a ≤ 18446744073709551615) :
    Calls Tryd.prog 33 #[.int .u64 a, .int .i64 1] w fun e w' => e = .returned (.int .u64 (a - a % 4096)) ∧ Ext w w' := vaPage_c a 1 w h0 h1
end Go.Proofs.YtjlgfkhkjfiadaaDoor
