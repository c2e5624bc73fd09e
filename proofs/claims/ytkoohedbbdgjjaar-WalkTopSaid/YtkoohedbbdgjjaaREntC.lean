/- Entries: reserved bits, frames; rights. -/
import Derived.Test.YtkoohedbbdgjjaaREntB
namespace Go.Proofs.YtkoohedbbdgjjaaR
set_option linter.unusedVariables false
set_option linter.unusedSimpArgs false
open Go.RowKit
attribute [local go_sem] wext_cell wext_frozen wext_heap alloc_cell alloc_frozen alloc_heap setCell_cell objCell_cells objFrozen_cells

theorem rightAndE_c (a b c : Bool) (x : Int) (w : World) (h0 : 0 ≤ x) (h1 : x ≤ 18446744073709551615) :
    Calls Try.prog 24 #[.agg #[.bool a, .bool b, .bool c], .int .u64 x] w fun e w' =>
      e = .returned (.agg #[.bool (a && bitB x 1), .bool (b && bitB x 2), .bool (c && !bitB x 63)]) ∧ Ext w w' := by
  have b1 : (bits BinOp.and IntKind.u64 x 2 != 0) = bitB x 1 := bitE 1 (by omega) h0 h1
  have b2 : (bits BinOp.and IntKind.u64 x 4 != 0) = bitB x 2 := bitE 2 (by omega) h0 h1
  have b3' : (bits BinOp.and IntKind.u64 x 9223372036854775808 != 0) = bitB x 63 := bitE 63 (by omega) h0 h1
  have b3 : (bits BinOp.and IntKind.u64 x 9223372036854775808 == 0) = !bitB x 63 := by rw [← b3']; simp [bne]
  clear b3'
  generalize bitB x 1 = q1 at b1 ⊢
  generalize bitB x 2 = q2 at b2 ⊢
  generalize bitB x 63 = q3 at b3 ⊢
  cases a <;> cases b <;> cases c
  all_goals
    go_enter Try.func24, Try.ntmps24
    go_wp2
    refine bodyPost_ret (by simp [results, Try.results24, go_sem]; rfl) rfl ⟨by simp [b1, b2, b3], by repeat (first | exact Ext.refl _ | apply Ext.alloc)⟩
theorem rightAllE_c (w : World) :
    Calls Try.prog 23 #[] w fun e w' =>
      e = .returned (.agg #[.bool true, .bool true, .bool true]) ∧ Ext w w' := by
  go_enter Try.func23, Try.ntmps23
  go_wp2
  refine bodyPost_ret (by simp [results, Try.results23, go_sem]; rfl) rfl ⟨by simp, by repeat (first | exact Ext.refl _ | apply Ext.alloc)⟩

theorem vaSizeE_c (l : Int) (w : World) (hl0 : 1 ≤ l) (hl1 : l ≤ 3) :
    Calls Try.prog 151 #[.int .i64 l] w fun e w' => e = .returned (.int .u64 (sizeE l)) ∧ Ext w w' := by
  have : l = 1 ∨ l = 2 ∨ l = 3 := by omega
  rcases this with rfl | rfl | rfl
  all_goals
    go_enter Try.func151, Try.ntmps151
    go_wp2_with (first | (go_at_call 142; refine (vaShiftE_c _ _ (by omega) (by omega)).mono ?_; rintro e w1 ⟨rfl, hb⟩; have ⟨hc, hf, hh, hs⟩ := hb.facts; try simp only [World.size_alloc, World.size_setCell, World.size_drew] at hs))
    go_ret
    exact ⟨rfl, (by repeat (first | exact Ext.refl _ | assumption | refine Ext.alloc ?_ _ | refine Ext.drew ?_ | refine Ext.setCell ?_ (by first | (simp; done) | (dsimp only; omega)) _ | refine Ext.trans ?_ (by assumption)))⟩
theorem emod_le {a n : Int} (h : 0 ≤ a) (hn : 0 < n) : a % n ≤ a := by
  have := Int.emod_def a n
  have := Int.mul_nonneg (Int.le_of_lt hn) (Int.ediv_nonneg h (Int.le_of_lt hn))
  omega
theorem vaLowE_c (a l : Int) (w : World) (hl0 : 1 ≤ l) (hl1 : l ≤ 3) (h0 : 0 ≤ a) (h1 : a ≤ 18446744073709551615) :
    Calls Try.prog 138 #[.int .u64 a, .int .i64 l] w fun e w' => e = .returned (.int .u64 (a % sizeE l)) ∧ Ext w w' := by
  have c1 : Calls Try.prog 138 #[.int .u64 a, .int .i64 1] w fun e w' => e = .returned (.int .u64 (a % 4096)) ∧ Ext w w' := by
    have hm : bits BinOp.and IntKind.u64 a 4095 = a % 4096 := maskE 12 (by omega) h0 h1
    have hs : ∀ w, Calls Try.prog 151 #[.int .i64 1] w fun e w' => e = .returned (.int .u64 4096) ∧ Ext w w' := fun w => vaSizeE_c 1 w (by omega) (by omega)
    go_enter Try.func138, Try.ntmps138
    go_wp2_with (first | (go_at_call 151; refine (hs _).mono ?_; rintro e w1 ⟨rfl, hb⟩; have ⟨hc, hf, hh, hs⟩ := hb.facts; try simp only [World.size_alloc, World.size_setCell, World.size_drew] at hs))
    go_ret
    exact ⟨rfl, (by repeat (first | exact Ext.refl _ | assumption | refine Ext.alloc ?_ _ | refine Ext.drew ?_ | refine Ext.setCell ?_ (by first | (simp; done) | (dsimp only; omega)) _ | refine Ext.trans ?_ (by assumption)))⟩
  have c2 : Calls Try.prog 138 #[.int .u64 a, .int .i64 2] w fun e w' => e = .returned (.int .u64 (a % 2097152)) ∧ Ext w w' := by
    have hm : bits BinOp.and IntKind.u64 a 2097151 = a % 2097152 := maskE 21 (by omega) h0 h1
    have hs : ∀ w, Calls Try.prog 151 #[.int .i64 2] w fun e w' => e = .returned (.int .u64 2097152) ∧ Ext w w' := fun w => vaSizeE_c 2 w (by omega) (by omega)
    go_enter Try.func138, Try.ntmps138
    go_wp2_with (first | (go_at_call 151; refine (hs _).mono ?_; rintro e w1 ⟨rfl, hb⟩; have ⟨hc, hf, hh, hs⟩ := hb.facts; try simp only [World.size_alloc, World.size_setCell, World.size_drew] at hs))
    go_ret
    exact ⟨rfl, (by repeat (first | exact Ext.refl _ | assumption | refine Ext.alloc ?_ _ | refine Ext.drew ?_ | refine Ext.setCell ?_ (by first | (simp; done) | (dsimp only; omega)) _ | refine Ext.trans ?_ (by assumption)))⟩
  have c3 : Calls Try.prog 138 #[.int .u64 a, .int .i64 3] w fun e w' => e = .returned (.int .u64 (a % 1073741824)) ∧ Ext w w' := by
    have hm : bits BinOp.and IntKind.u64 a 1073741823 = a % 1073741824 := maskE 30 (by omega) h0 h1
    have hs : ∀ w, Calls Try.prog 151 #[.int .i64 3] w fun e w' => e = .returned (.int .u64 1073741824) ∧ Ext w w' := fun w => vaSizeE_c 3 w (by omega) (by omega)
    go_enter Try.func138, Try.ntmps138
    go_wp2_with (first | (go_at_call 151; refine (hs _).mono ?_; rintro e w1 ⟨rfl, hb⟩; have ⟨hc, hf, hh, hs⟩ := hb.facts; try simp only [World.size_alloc, World.size_setCell, World.size_drew] at hs))
    go_ret
    exact ⟨rfl, (by repeat (first | exact Ext.refl _ | assumption | refine Ext.alloc ?_ _ | refine Ext.drew ?_ | refine Ext.setCell ?_ (by first | (simp; done) | (dsimp only; omega)) _ | refine Ext.trans ?_ (by assumption)))⟩
  rcases (show l = 1 ∨ l = 2 ∨ l = 3 by omega) with rfl | rfl | rfl
  · exact c1
  · exact c2
  · exact c3
theorem vaPageE_c (a l : Int) (w : World) (hl0 : 1 ≤ l) (hl1 : l ≤ 3) (h0 : 0 ≤ a) (h1 : a ≤ 18446744073709551615) :
    Calls Try.prog 113 #[.int .u64 a, .int .i64 l] w fun e w' => e = .returned (.int .u64 (a - a % sizeE l)) ∧ Ext w w' := by
  have hl := fun w => vaLowE_c a l w hl0 hl1 h0 h1
  have g : 0 ≤ a % sizeE l ∧ a % sizeE l ≤ a := by
    have : 0 < sizeE l := by unfold sizeE; repeat (split; omega); omega
    exact ⟨Int.emod_nonneg _ (by omega), emod_le h0 this⟩
  generalize a % sizeE l = q at hl g ⊢
  obtain ⟨g0, g1⟩ := g
  go_enter Try.func113, Try.ntmps113
  go_wp2_with (first | (go_at_call 138; refine (hl _).mono ?_; rintro e w1 ⟨rfl, hb⟩; have ⟨hc, hf, hh, hs⟩ := hb.facts; try simp only [World.size_alloc, World.size_setCell, World.size_drew] at hs))
  go_ret
  exact ⟨rfl, (by repeat (first | exact Ext.refl _ | assumption | refine Ext.alloc ?_ _ | refine Ext.drew ?_ | refine Ext.setCell ?_ (by first | (simp; done) | (dsimp only; omega)) _ | refine Ext.trans ?_ (by assumption)))⟩
theorem entFrame_c (x l : Int) (w : World) (hl0 : 1 ≤ l) (hl1 : l ≤ 4) (h0 : 0 ≤ x) (h1 : x ≤ 18446744073709551615) :
    Calls Try.prog 74 #[.int .u64 x, .int .i64 l] w fun e w' => e = .returned (.int .u64 (frameI x l)) ∧ Ext w w' := by
  have hf := fun w => entLeaf_c x l w h0 h1
  have ht := fun w => entTable_c x w h0 h1
  have htl := tabI_le h0
  unfold frameI
  cases hq : leafI x l
  · rw [hq] at hf
    generalize tabI x = b at ht ⊢
    go_enter Try.func74, Try.ntmps74
    go_wp2_with (first | (go_at_call 75; refine (ht _).mono ?_; rintro e w1 ⟨rfl, hb⟩; have ⟨hc, hf, hh, hs⟩ := hb.facts; try simp only [World.size_alloc, World.size_setCell, World.size_drew] at hs) | (go_at_call 73; refine (hf _).mono ?_; rintro e w1 ⟨rfl, hb⟩; have ⟨hc, hf, hh, hs⟩ := hb.facts; try simp only [World.size_alloc, World.size_setCell, World.size_drew] at hs))
    go_ret
    exact ⟨by simp, (by repeat (first | exact Ext.refl _ | assumption | refine Ext.alloc ?_ _ | refine Ext.drew ?_ | refine Ext.setCell ?_ (by first | (simp; done) | (dsimp only; omega)) _ | refine Ext.trans ?_ (by assumption)))⟩
  · rw [hq] at hf
    have hl3 : l ≤ 3 := by
      unfold leafI at hq
      simp only [Bool.or_eq_true, beq_iff_eq, Bool.and_eq_true] at hq
      omega
    have hp := fun w => vaPageE_c (tabI x) l w hl0 hl3 htl.1 (by omega)
    generalize tabI x = b at ht hp ⊢
    go_enter Try.func74, Try.ntmps74
    go_wp2_with (first | (go_at_call 75; refine (ht _).mono ?_; rintro e w1 ⟨rfl, hb⟩; have ⟨hc, hf, hh, hs⟩ := hb.facts; try simp only [World.size_alloc, World.size_setCell, World.size_drew] at hs) | (go_at_call 73; refine (hf _).mono ?_; rintro e w1 ⟨rfl, hb⟩; have ⟨hc, hf, hh, hs⟩ := hb.facts; try simp only [World.size_alloc, World.size_setCell, World.size_drew] at hs) | (go_at_call 113; refine (hp _).mono ?_; rintro e w1 ⟨rfl, hb⟩; have ⟨hc, hf, hh, hs⟩ := hb.facts; try simp only [World.size_alloc, World.size_setCell, World.size_drew] at hs))
    go_ret
    exact ⟨by simp, (by repeat (first | exact Ext.refl _ | assumption | refine Ext.alloc ?_ _ | refine Ext.drew ?_ | refine Ext.setCell ?_ (by first | (simp; done) | (dsimp only; omega)) _ | refine Ext.trans ?_ (by assumption)))⟩

end Go.Proofs.YtkoohedbbdgjjaaR
