/- Joined texts, part 5 of what the law stands on: each as its own head says. -/
import Derived.Test.YtkfonacokamfiaaGreatGoz4
/- Entries: reserved bits, frames; rights. -/
namespace Go.Proofs.YtkfonacokamfiaaGreat
set_option linter.unusedVariables false
set_option linter.unusedSimpArgs false
open Go.RowKit
attribute [local go_sem] wext_cell wext_frozen wext_heap alloc_cell alloc_frozen alloc_heap setCell_cell objCell_cells objFrozen_cells
theorem rightAndE_c (a b c : Bool) (x : Int) (w : World) (h0 : 0 ≤ x) (h1 : x ≤ 18446744073709551615) :
  Calls Tryz.prog 48 #[.agg #[.bool a, .bool b, .bool c], .int .u64 x] w fun e w' =>
   e = .returned (.agg #[.bool (a && bitB x 1), .bool (b && bitB x 2), .bool (c && !bitB x 63)]) ∧ Ext w w' := by
 have b1 : (bits BinOp.and IntKind.u64 x 2 != 0) = bitB x 1 := bitE 1 (by omega) h0 h1
 have b2 : (bits BinOp.and IntKind.u64 x 4 != 0) = bitB x 2 := bitE 2 (by omega) h0 h1
 have b3' : (bits BinOp.and IntKind.u64 x 9223372036854775808 != 0) = bitB x 63 := bitE 63 (by omega) h0 h1
 have b3 : (bits BinOp.and IntKind.u64 x 9223372036854775808 == 0) = !bitB x 63 := by rw [← b3']; simp [bne]
 clear b3'
 generalize bitB x 1 = q1 at b1 ⊢
 generalize bitB x 2 = q2 at b2 ⊢
 generalize bitB x 63 = q3 at b3 ⊢
 cases a <;> cases b <;> cases c
 all_goals
  go_enter Tryz.func48, Tryz.ntmps48
  go_wp2
  refine bodyPost_ret (by simp [results, Tryz.results48, go_sem]; rfl) rfl ⟨by simp [b1, b2, b3], by repeat (first | exact Ext.refl _ | apply Ext.alloc)⟩
theorem rightAllE_c (w : World) :
  Calls Tryz.prog 52 #[] w fun e w' =>
   e = .returned (.agg #[.bool true, .bool true, .bool true]) ∧ Ext w w' := by
 go_enter Tryz.func52, Tryz.ntmps52
 go_wp2
 refine bodyPost_ret (by simp [results, Tryz.results52, go_sem]; rfl) rfl ⟨by simp, by repeat (first | exact Ext.refl _ | apply Ext.alloc)⟩
theorem vaSizeE_c (l : Int) (w : World) (hl0 : 1 ≤ l) (hl1 : l ≤ 3) :
  Calls Tryz.prog 118 #[.int .i64 l] w fun e w' => e = .returned (.int .u64 (sizeE l)) ∧ Ext w w' := by
 have : l = 1 ∨ l = 2 ∨ l = 3 := by omega
 rcases this with rfl | rfl | rfl
 all_goals
  go_enter Tryz.func118, Tryz.ntmps118
  go_wp2_with (first | (go_at_call 112; refine (vaShiftE_c _ _ (by omega) (by omega)).mono ?_; rintro e w1 ⟨rfl, hb⟩; have ⟨hc, hf, hh, hs⟩ := hb.facts; try simp only [World.size_alloc, World.size_setCell, World.size_drew] at hs))
  go_ret
  exact ⟨rfl, (by repeat (first | exact Ext.refl _ | assumption | refine Ext.alloc ?_ _ | refine Ext.drew ?_ | refine Ext.setCell ?_ (by first | (simp; done) | (dsimp only; omega)) _ | refine Ext.trans ?_ (by assumption)))⟩
theorem emod_le {a n : Int} (h : 0 ≤ a) (hn : 0 < n) : a % n ≤ a := by
 have := Int.emod_def a n
 have := Int.mul_nonneg (Int.le_of_lt hn) (Int.ediv_nonneg h (Int.le_of_lt hn))
 omega
theorem vaLowE_c (a l : Int) (w : World) (hl0 : 1 ≤ l) (hl1 : l ≤ 3) (h0 : 0 ≤ a) (h1 : a ≤ 18446744073709551615) :
  Calls Tryz.prog 115 #[.int .u64 a, .int .i64 l] w fun e w' => e = .returned (.int .u64 (a % sizeE l)) ∧ Ext w w' := by
 have c1 : Calls Tryz.prog 115 #[.int .u64 a, .int .i64 1] w fun e w' => e = .returned (.int .u64 (a % 4096)) ∧ Ext w w' := by
  have hm : bits BinOp.and IntKind.u64 a 4095 = a % 4096 := maskE 12 (by omega) h0 h1
  have hs : ∀ w, Calls Tryz.prog 118 #[.int .i64 1] w fun e w' => e = .returned (.int .u64 4096) ∧ Ext w w' := fun w => vaSizeE_c 1 w (by omega) (by omega)
  go_enter Tryz.func115, Tryz.ntmps115
  go_wp2_with (first | (go_at_call 118; refine (hs _).mono ?_; rintro e w1 ⟨rfl, hb⟩; have ⟨hc, hf, hh, hs⟩ := hb.facts; try simp only [World.size_alloc, World.size_setCell, World.size_drew] at hs))
  go_ret
  exact ⟨rfl, (by repeat (first | exact Ext.refl _ | assumption | refine Ext.alloc ?_ _ | refine Ext.drew ?_ | refine Ext.setCell ?_ (by first | (simp; done) | (dsimp only; omega)) _ | refine Ext.trans ?_ (by assumption)))⟩
 have c2 : Calls Tryz.prog 115 #[.int .u64 a, .int .i64 2] w fun e w' => e = .returned (.int .u64 (a % 2097152)) ∧ Ext w w' := by
  have hm : bits BinOp.and IntKind.u64 a 2097151 = a % 2097152 := maskE 21 (by omega) h0 h1
  have hs : ∀ w, Calls Tryz.prog 118 #[.int .i64 2] w fun e w' => e = .returned (.int .u64 2097152) ∧ Ext w w' := fun w => vaSizeE_c 2 w (by omega) (by omega)
  go_enter Tryz.func115, Tryz.ntmps115
  go_wp2_with (first | (go_at_call 118; refine (hs _).mono ?_; rintro e w1 ⟨rfl, hb⟩; have ⟨hc, hf, hh, hs⟩ := hb.facts; try simp only [World.size_alloc, World.size_setCell, World.size_drew] at hs))
  go_ret
  exact ⟨rfl, (by repeat (first | exact Ext.refl _ | assumption | refine Ext.alloc ?_ _ | refine Ext.drew ?_ | refine Ext.setCell ?_ (by first | (simp; done) | (dsimp only; omega)) _ | refine Ext.trans ?_ (by assumption)))⟩
 have c3 : Calls Tryz.prog 115 #[.int .u64 a, .int .i64 3] w fun e w' => e = .returned (.int .u64 (a % 1073741824)) ∧ Ext w w' := by
  have hm : bits BinOp.and IntKind.u64 a 1073741823 = a % 1073741824 := maskE 30 (by omega) h0 h1
  have hs : ∀ w, Calls Tryz.prog 118 #[.int .i64 3] w fun e w' => e = .returned (.int .u64 1073741824) ∧ Ext w w' := fun w => vaSizeE_c 3 w (by omega) (by omega)
  go_enter Tryz.func115, Tryz.ntmps115
  go_wp2_with (first | (go_at_call 118; refine (hs _).mono ?_; rintro e w1 ⟨rfl, hb⟩; have ⟨hc, hf, hh, hs⟩ := hb.facts; try simp only [World.size_alloc, World.size_setCell, World.size_drew] at hs))
  go_ret
  exact ⟨rfl, (by repeat (first | exact Ext.refl _ | assumption | refine Ext.alloc ?_ _ | refine Ext.drew ?_ | refine Ext.setCell ?_ (by first | (simp; done) | (dsimp only; omega)) _ | refine Ext.trans ?_ (by assumption)))⟩
 rcases (show l = 1 ∨ l = 2 ∨ l = 3 by omega) with rfl | rfl | rfl
 ·exact c1
 ·exact c2
 ·exact c3
theorem vaPageE_c (a l : Int) (w : World) (hl0 : 1 ≤ l) (hl1 : l ≤ 3) (h0 : 0 ≤ a) (h1 : a ≤ 18446744073709551615) :
  Calls Tryz.prog 80 #[.int .u64 a, .int .i64 l] w fun e w' => e = .returned (.int .u64 (a - a % sizeE l)) ∧ Ext w w' := by
 have hl := fun w => vaLowE_c a l w hl0 hl1 h0 h1
 have g : 0 ≤ a % sizeE l ∧ a % sizeE l ≤ a := by
  have : 0 < sizeE l := by unfold sizeE; repeat (split; omega); omega
  exact ⟨Int.emod_nonneg _ (by omega), emod_le h0 this⟩
 generalize a % sizeE l = q at hl g ⊢
 obtain ⟨g0, g1⟩ := g
 go_enter Tryz.func80, Tryz.ntmps80
 go_wp2_with (first | (go_at_call 115; refine (hl _).mono ?_; rintro e w1 ⟨rfl, hb⟩; have ⟨hc, hf, hh, hs⟩ := hb.facts; try simp only [World.size_alloc, World.size_setCell, World.size_drew] at hs))
 go_ret
 exact ⟨rfl, (by repeat (first | exact Ext.refl _ | assumption | refine Ext.alloc ?_ _ | refine Ext.drew ?_ | refine Ext.setCell ?_ (by first | (simp; done) | (dsimp only; omega)) _ | refine Ext.trans ?_ (by assumption)))⟩
theorem entFrame_c (x l : Int) (w : World) (hl0 : 1 ≤ l) (hl1 : l ≤ 4) (h0 : 0 ≤ x) (h1 : x ≤ 18446744073709551615) :
  Calls Tryz.prog 50 #[.int .u64 x, .int .i64 l] w fun e w' => e = .returned (.int .u64 (frameI x l)) ∧ Ext w w' := by
 have hf := fun w => entLeaf_c x l w h0 h1
 have ht := fun w => entTable_c x w h0 h1
 have htl := tabI_le h0
 unfold frameI
 cases hq : leafI x l
 ·rw [hq] at hf
  generalize tabI x = b at ht ⊢
  go_enter Tryz.func50, Tryz.ntmps50
  go_wp2_with (first | (go_at_call 51; refine (ht _).mono ?_; rintro e w1 ⟨rfl, hb⟩; have ⟨hc, hf, hh, hs⟩ := hb.facts; try simp only [World.size_alloc, World.size_setCell, World.size_drew] at hs) | (go_at_call 49; refine (hf _).mono ?_; rintro e w1 ⟨rfl, hb⟩; have ⟨hc, hf, hh, hs⟩ := hb.facts; try simp only [World.size_alloc, World.size_setCell, World.size_drew] at hs))
  go_ret
  exact ⟨by simp, (by repeat (first | exact Ext.refl _ | assumption | refine Ext.alloc ?_ _ | refine Ext.drew ?_ | refine Ext.setCell ?_ (by first | (simp; done) | (dsimp only; omega)) _ | refine Ext.trans ?_ (by assumption)))⟩
 ·rw [hq] at hf
  have hl3 : l ≤ 3 := by
   unfold leafI at hq
   simp only [Bool.or_eq_true, beq_iff_eq, Bool.and_eq_true] at hq
   omega
  have hp := fun w => vaPageE_c (tabI x) l w hl0 hl3 htl.1 (by omega)
  generalize tabI x = b at ht hp ⊢
  go_enter Tryz.func50, Tryz.ntmps50
  go_wp2_with (first | (go_at_call 51; refine (ht _).mono ?_; rintro e w1 ⟨rfl, hb⟩; have ⟨hc, hf, hh, hs⟩ := hb.facts; try simp only [World.size_alloc, World.size_setCell, World.size_drew] at hs) | (go_at_call 49; refine (hf _).mono ?_; rintro e w1 ⟨rfl, hb⟩; have ⟨hc, hf, hh, hs⟩ := hb.facts; try simp only [World.size_alloc, World.size_setCell, World.size_drew] at hs) | (go_at_call 80; refine (hp _).mono ?_; rintro e w1 ⟨rfl, hb⟩; have ⟨hc, hf, hh, hs⟩ := hb.facts; try simp only [World.size_alloc, World.size_setCell, World.size_drew] at hs))
  go_ret
  exact ⟨by simp, (by repeat (first | exact Ext.refl _ | assumption | refine Ext.alloc ?_ _ | refine Ext.drew ?_ | refine Ext.setCell ?_ (by first | (simp; done) | (dsimp only; omega)) _ | refine Ext.trans ?_ (by assumption)))⟩
end Go.Proofs.YtkfonacokamfiaaGreat
/- Entries: reserved bits. -/
namespace Go.Proofs.YtkfonacokamfiaaGreat
set_option linter.unusedVariables false
set_option linter.unusedSimpArgs false
open Go.RowKit
attribute [local go_sem] wext_cell wext_frozen wext_heap alloc_cell alloc_frozen alloc_heap setCell_cell objCell_cells objFrozen_cells
def gI (x lo n : Int) : Int := x / pow2 lo % pow2 n
theorem fieldGetE_c (x lo n : Int) (w : World) (hx : 0 ≤ x) (hx1 : x ≤ 18446744073709551615) (h0 : 0 ≤ lo) (h1 : 1 ≤ n) (h2 : lo ≤ 63) (h3 : n ≤ 64 - lo) (h4 : n ≤ 63) :
  Calls Tryz.prog 79 #[.int .u64 x, .int .i64 lo, .int .i64 n] w fun e w' => e = .returned (.int .u64 (gI x lo n)) ∧ Ext w w' := fieldGet_c x lo n w hx hx1 h0 h1 h2 h3 h4
def resJ (x l B : Int) (nxe : Bool) (q7 q63 : Bool) : Bool := gI x B (52 - B) != 0 || (q63 && !nxe) || (l == 4 && q7) || (l == 2 && q7 && gI x 13 8 != 0) || (l == 3 && q7 && gI x 13 17 != 0)
theorem resJ_is (x l B : Int) (nxe : Bool) : resI x l B nxe = resJ x l B nxe (bitB x 7) (bitB x 63) := rfl
theorem entReserved_c (x l B : Int) (nxe : Bool) (w : World) (hl0 : 1 ≤ l) (hl1 : l ≤ 4) (h0 : 0 ≤ x) (h1 : x ≤ 18446744073709551615) (hB0 : 14 ≤ B) (hB1 : B ≤ 22) :
  Calls Tryz.prog 46 #[.int .u64 x, .int .i64 l, .int .i64 B, .bool nxe] w fun e w' => e = .returned (.bool (resI x l B nxe)) ∧ Ext w w' := by
 have b3 : (bits BinOp.and IntKind.u64 x 9223372036854775808 != 0) = bitB x 63 := bitE 63 (by omega) h0 h1
 have b7 : (bits BinOp.and IntKind.u64 x 128 != 0) = bitB x 7 := bitE 7 (by omega) h0 h1
 have f1 : ∀ w, Calls Tryz.prog 49 #[.int .u64 x, .int .i64 1] w fun e w' => e = .returned (.bool true) ∧ Ext w w' := fun w => entLeaf_c x 1 w h0 h1
 have f2 : ∀ w, Calls Tryz.prog 49 #[.int .u64 x, .int .i64 2] w fun e w' => e = .returned (.bool (bitB x 7)) ∧ Ext w w' := fun w => entLeaf_c x 2 w h0 h1
 have f3 : ∀ w, Calls Tryz.prog 49 #[.int .u64 x, .int .i64 3] w fun e w' => e = .returned (.bool (bitB x 7)) ∧ Ext w w' := fun w => entLeaf_c x 3 w h0 h1
 have f4 : ∀ w, Calls Tryz.prog 49 #[.int .u64 x, .int .i64 4] w fun e w' => e = .returned (.bool false) ∧ Ext w w' := fun w => entLeaf_c x 4 w h0 h1
 rw [resJ_is]
 generalize bitB x 63 = q63 at *
 generalize bitB x 7 = q7 at *
 rcases (show l = 1 ∨ l = 2 ∨ l = 3 ∨ l = 4 by omega) with rfl | rfl | rfl | rfl
 ·have HF := Lib.hid f1
  clear f1 f2 f3 f4 hl0 hl1
  go_enter Tryz.func46, Tryz.ntmps46
  go_wp2_with (first | (go_at_call 49; refine (HF.out _).mono ?_; rintro e w1 ⟨rfl, hb⟩) | (go_at_call 79; refine (fieldGetE_c x _ _ _ h0 h1 (by omega) (by omega) (by omega) (by omega) (by omega)).mono ?_; rintro e w1 ⟨rfl, hb⟩))
  all_goals
   go_ret
   exact ⟨by unfold resJ; simp_all, (by repeat (first | exact Ext.refl _ | assumption | refine Ext.alloc ?_ _ | refine Ext.drew ?_ | refine Ext.setCell ?_ (by first | (simp; done) | (dsimp only; omega)) _ | refine Ext.trans ?_ (by assumption)))⟩
 ·have HF := Lib.hid f2
  clear f1 f2 f3 f4 hl0 hl1
  go_enter Tryz.func46, Tryz.ntmps46
  go_wp2_with (first | (go_at_call 49; refine (HF.out _).mono ?_; rintro e w1 ⟨rfl, hb⟩) | (go_at_call 79; refine (fieldGetE_c x _ _ _ h0 h1 (by omega) (by omega) (by omega) (by omega) (by omega)).mono ?_; rintro e w1 ⟨rfl, hb⟩))
  all_goals
   go_ret
   exact ⟨by unfold resJ; simp_all, (by repeat (first | exact Ext.refl _ | assumption | refine Ext.alloc ?_ _ | refine Ext.drew ?_ | refine Ext.setCell ?_ (by first | (simp; done) | (dsimp only; omega)) _ | refine Ext.trans ?_ (by assumption)))⟩
 ·have HF := Lib.hid f3
  clear f1 f2 f3 f4 hl0 hl1
  go_enter Tryz.func46, Tryz.ntmps46
  go_wp2_with (first | (go_at_call 49; refine (HF.out _).mono ?_; rintro e w1 ⟨rfl, hb⟩) | (go_at_call 79; refine (fieldGetE_c x _ _ _ h0 h1 (by omega) (by omega) (by omega) (by omega) (by omega)).mono ?_; rintro e w1 ⟨rfl, hb⟩))
  all_goals
   go_ret
   exact ⟨by unfold resJ; simp_all, (by repeat (first | exact Ext.refl _ | assumption | refine Ext.alloc ?_ _ | refine Ext.drew ?_ | refine Ext.setCell ?_ (by first | (simp; done) | (dsimp only; omega)) _ | refine Ext.trans ?_ (by assumption)))⟩
 ·have HF := Lib.hid f4
  clear f1 f2 f3 f4 hl0 hl1
  go_enter Tryz.func46, Tryz.ntmps46
  go_wp2_with (first | (go_at_call 49; refine (HF.out _).mono ?_; rintro e w1 ⟨rfl, hb⟩) | (go_at_call 79; refine (fieldGetE_c x _ _ _ h0 h1 (by omega) (by omega) (by omega) (by omega) (by omega)).mono ?_; rintro e w1 ⟨rfl, hb⟩))
  all_goals
   go_ret
   exact ⟨by unfold resJ; simp_all, (by repeat (first | exact Ext.refl _ | assumption | refine Ext.alloc ?_ _ | refine Ext.drew ?_ | refine Ext.setCell ?_ (by first | (simp; done) | (dsimp only; omega)) _ | refine Ext.trans ?_ (by assumption)))⟩
end Go.Proofs.YtkfonacokamfiaaGreat
