/- Joined texts, part 7 of what the law stands on: each as its own head says. -/
import Derived.Test.YtakkjpdolkokfaaPln6
/- Entries: reserved bits. -/
namespace Go.Proofs.Ytakkjpdolkokfaa
set_option linter.unusedVariables false
set_option linter.unusedSimpArgs false
open Go.RowKit
attribute [local go_sem] wext_cell wext_frozen wext_heap alloc_cell alloc_frozen alloc_heap setCell_cell objCell_cells objFrozen_cells

def gI (x lo n : Int) : Int := x / pow2 lo % pow2 n
theorem fieldGetE_c (x lo n : Int) (w : World) (hx : 0 ≤ x) (hx1 : x ≤ 18446744073709551615) (h0 : 0 ≤ lo) (h1 : 1 ≤ n) (h2 : lo ≤ 63) (h3 : n ≤ 64 - lo) (h4 : n ≤ 63) :
    Calls Try.prog 97 #[.int .u64 x, .int .i64 lo, .int .i64 n] w fun e w' => e = .returned (.int .u64 (gI x lo n)) ∧ Ext w w' := fieldGet_c x lo n w hx hx1 h0 h1 h2 h3 h4
def resJ (x l B : Int) (nxe : Bool) (q7 q63 : Bool) : Bool := gI x B (52 - B) != 0 || (q63 && !nxe) || (l == 4 && q7) || (l == 2 && q7 && gI x 13 8 != 0) || (l == 3 && q7 && gI x 13 17 != 0)
theorem resJ_is (x l B : Int) (nxe : Bool) : resI x l B nxe = resJ x l B nxe (bitB x 7) (bitB x 63) := rfl
theorem entReserved_c (x l B : Int) (nxe : Bool) (w : World) (hl0 : 1 ≤ l) (hl1 : l ≤ 4) (h0 : 0 ≤ x) (h1 : x ≤ 18446744073709551615) (hB0 : 14 ≤ B) (hB1 : B ≤ 22) :
    Calls Try.prog 70 #[.int .u64 x, .int .i64 l, .int .i64 B, .bool nxe] w fun e w' => e = .returned (.bool (resI x l B nxe)) ∧ Ext w w' := by
  have b3 : (bits BinOp.and IntKind.u64 x 9223372036854775808 != 0) = bitB x 63 := bitE 63 (by omega) h0 h1
  have b7 : (bits BinOp.and IntKind.u64 x 128 != 0) = bitB x 7 := bitE 7 (by omega) h0 h1
  have f1 : ∀ w, Calls Try.prog 65 #[.int .u64 x, .int .i64 1] w fun e w' => e = .returned (.bool true) ∧ Ext w w' := fun w => entLeaf_c x 1 w h0 h1
  have f2 : ∀ w, Calls Try.prog 65 #[.int .u64 x, .int .i64 2] w fun e w' => e = .returned (.bool (bitB x 7)) ∧ Ext w w' := fun w => entLeaf_c x 2 w h0 h1
  have f3 : ∀ w, Calls Try.prog 65 #[.int .u64 x, .int .i64 3] w fun e w' => e = .returned (.bool (bitB x 7)) ∧ Ext w w' := fun w => entLeaf_c x 3 w h0 h1
  have f4 : ∀ w, Calls Try.prog 65 #[.int .u64 x, .int .i64 4] w fun e w' => e = .returned (.bool false) ∧ Ext w w' := fun w => entLeaf_c x 4 w h0 h1
  rw [resJ_is]
  generalize bitB x 63 = q63 at *
  generalize bitB x 7 = q7 at *
  rcases (show l = 1 ∨ l = 2 ∨ l = 3 ∨ l = 4 by omega) with rfl | rfl | rfl | rfl
  · have HF := Lib.hid f1
    clear f1 f2 f3 f4 hl0 hl1
    go_enter Try.func70, Try.ntmps70
    go_wp2_with (first | (go_at_call 65; refine (HF.out _).mono ?_; rintro e w1 ⟨rfl, hb⟩) | (go_at_call 97; refine (fieldGetE_c x _ _ _ h0 h1 (by omega) (by omega) (by omega) (by omega) (by omega)).mono ?_; rintro e w1 ⟨rfl, hb⟩))
    all_goals
      go_ret
      exact ⟨by unfold resJ; simp_all, (by repeat (first | exact Ext.refl _ | assumption | refine Ext.alloc ?_ _ | refine Ext.drew ?_ | refine Ext.setCell ?_ (by first | (simp; done) | (dsimp only; omega)) _ | refine Ext.trans ?_ (by assumption)))⟩
  · have HF := Lib.hid f2
    clear f1 f2 f3 f4 hl0 hl1
    go_enter Try.func70, Try.ntmps70
    go_wp2_with (first | (go_at_call 65; refine (HF.out _).mono ?_; rintro e w1 ⟨rfl, hb⟩) | (go_at_call 97; refine (fieldGetE_c x _ _ _ h0 h1 (by omega) (by omega) (by omega) (by omega) (by omega)).mono ?_; rintro e w1 ⟨rfl, hb⟩))
    all_goals
      go_ret
      exact ⟨by unfold resJ; simp_all, (by repeat (first | exact Ext.refl _ | assumption | refine Ext.alloc ?_ _ | refine Ext.drew ?_ | refine Ext.setCell ?_ (by first | (simp; done) | (dsimp only; omega)) _ | refine Ext.trans ?_ (by assumption)))⟩
  · have HF := Lib.hid f3
    clear f1 f2 f3 f4 hl0 hl1
    go_enter Try.func70, Try.ntmps70
    go_wp2_with (first | (go_at_call 65; refine (HF.out _).mono ?_; rintro e w1 ⟨rfl, hb⟩) | (go_at_call 97; refine (fieldGetE_c x _ _ _ h0 h1 (by omega) (by omega) (by omega) (by omega) (by omega)).mono ?_; rintro e w1 ⟨rfl, hb⟩))
    all_goals
      go_ret
      exact ⟨by unfold resJ; simp_all, (by repeat (first | exact Ext.refl _ | assumption | refine Ext.alloc ?_ _ | refine Ext.drew ?_ | refine Ext.setCell ?_ (by first | (simp; done) | (dsimp only; omega)) _ | refine Ext.trans ?_ (by assumption)))⟩
  · have HF := Lib.hid f4
    clear f1 f2 f3 f4 hl0 hl1
    go_enter Try.func70, Try.ntmps70
    go_wp2_with (first | (go_at_call 65; refine (HF.out _).mono ?_; rintro e w1 ⟨rfl, hb⟩) | (go_at_call 97; refine (fieldGetE_c x _ _ _ h0 h1 (by omega) (by omega) (by omega) (by omega) (by omega)).mono ?_; rintro e w1 ⟨rfl, hb⟩))
    all_goals
      go_ret
      exact ⟨by unfold resJ; simp_all, (by repeat (first | exact Ext.refl _ | assumption | refine Ext.alloc ?_ _ | refine Ext.drew ?_ | refine Ext.setCell ?_ (by first | (simp; done) | (dsimp only; omega)) _ | refine Ext.trans ?_ (by assumption)))⟩
end Go.Proofs.Ytakkjpdolkokfaa
