/- Memories: may, aligned, Bits, Peek. -/
import Derived.Test.YtkoohedbbdgjjaaRMemA
namespace Go.Proofs.YtkoohedbbdgjjaaR
set_option linter.unusedVariables false
set_option linter.unusedSimpArgs false
open Go.RowKit
attribute [local go_sem] wext_cell wext_frozen wext_heap alloc_cell alloc_frozen alloc_heap setCell_cell objCell_cells objFrozen_cells

def limB (B : Int) : Int := if B = 14 then 16384 else if B = 15 then 32768 else if B = 16 then 65536 else if B = 17 then 131072 else if B = 18 then 262144 else if B = 19 then 524288 else if B = 20 then 1048576 else if B = 21 then 2097152 else 4194304
theorem limB_le (B : Int) : limB B ≤ 4194304 := by unfold limB; repeat (split; omega); omega
def errM (B a : Int) : Int := if a < limB B then (if a % 8 = 0 then 0 else 3) else 2
theorem B_cases {B : Int} (h : 14 ≤ B ∧ B ≤ 22) : B = 14 ∨ B = 15 ∨ B = 16 ∨ B = 17 ∨ B = 18 ∨ B = 19 ∨ B = 20 ∨ B = 21 ∨ B = 22 := by omega

theorem MemAt.head {w : World} {mb : Nat} {F : List Nat} {B : Int} {M : Int → Int} {T : List Int} (h : MemAt w mb F B M T) : w.cell? ⟨mb, 0, none⟩ = some (.int .i64 B) ∧ mb < w.heap.size ∧ 14 ≤ B ∧ B ≤ 22 := by
  obtain ⟨pb, tv, es, clock, PL, p1, -, -, -, -, -, -, -, -, -, p⟩ := h
  exact ⟨(heap_cell p1 0).trans rfl, heap_lt p1, p⟩
set_option maxHeartbeats 2000000 in
theorem may_c (mb : Nat) (F : List Nat) (B : Int) (M : Int → Int) (T : List Int) (a : Int) (w : World) (h : MemAt w mb F B M T) (h0 : 0 ≤ a) (h1 : a ≤ 18446744073709551615) :
    Calls Try.prog 128 #[.pointer (some ⟨mb, 0, none⟩), .int .u64 a] w fun e w' => e = .returned (.int .i64 (if a < limB B then 0 else 2)) ∧ Ext w w' := by
  obtain ⟨c0, hlt, hB⟩ := h.head
  clear h
  rcases B_cases hB with rfl | rfl | rfl | rfl | rfl | rfl | rfl | rfl | rfl
  all_goals
    simp only [limB, reduceIte, Int.reduceEq]
    clear hB
    split
    · go_enter Try.func128, Try.ntmps128
      go_wp2
      all_goals
        go_ret
        exact ⟨rfl, (by repeat (first | exact Ext.refl _ | assumption | refine Ext.alloc ?_ _ | refine Ext.drew ?_ | refine Ext.setCell ?_ (by first | (simp; done) | (dsimp only; omega)) _ | refine Ext.trans ?_ (by assumption)))⟩
    · go_enter Try.func128, Try.ntmps128
      go_wp2
      all_goals
        go_ret
        exact ⟨rfl, (by repeat (first | exact Ext.refl _ | assumption | refine Ext.alloc ?_ _ | refine Ext.drew ?_ | refine Ext.setCell ?_ (by first | (simp; done) | (dsimp only; omega)) _ | refine Ext.trans ?_ (by assumption)))⟩
theorem aligned_c (mb : Nat) (F : List Nat) (B : Int) (M : Int → Int) (T : List Int) (a : Int) (w : World) (h : MemAt w mb F B M T) (h0 : 0 ≤ a) (h1 : a ≤ 18446744073709551615) :
    Calls Try.prog 89 #[.pointer (some ⟨mb, 0, none⟩), .int .u64 a] w fun e w' => e = .returned (.int .i64 (errM B a)) ∧ Ext w w' := by
  have hm := fun w' (hx : Ext w w') => may_c mb F B M T a w' (h.ext hx) h0 h1
  clear h
  unfold errM
  by_cases ha : a < limB B
  · rw [if_pos ha]
    simp only [if_pos ha] at hm
    clear ha
    by_cases h8 : a % 8 = 0
    · rw [if_pos h8]
      have h8b : (a % 8 != 0) = false := by simpa using h8
      go_enter Try.func89, Try.ntmps89
      go_wp2_with (first | (go_at_call 128; refine (hm _ (by repeat (first | exact Ext.refl _ | assumption | refine Ext.alloc ?_ _ | refine Ext.drew ?_ | refine Ext.setCell ?_ (by first | (simp; done) | (dsimp only; omega)) _ | refine Ext.trans ?_ (by assumption)))).mono ?_; rintro e w1 ⟨rfl, hb1⟩))
      all_goals
        go_ret
        exact ⟨rfl, (by repeat (first | exact Ext.refl _ | assumption | refine Ext.alloc ?_ _ | refine Ext.drew ?_ | refine Ext.setCell ?_ (by first | (simp; done) | (dsimp only; omega)) _ | refine Ext.trans ?_ (by assumption)))⟩
    · rw [if_neg h8]
      have h8b : (a % 8 != 0) = true := by simpa using h8
      go_enter Try.func89, Try.ntmps89
      go_wp2_with (first | (go_at_call 128; refine (hm _ (by repeat (first | exact Ext.refl _ | assumption | refine Ext.alloc ?_ _ | refine Ext.drew ?_ | refine Ext.setCell ?_ (by first | (simp; done) | (dsimp only; omega)) _ | refine Ext.trans ?_ (by assumption)))).mono ?_; rintro e w1 ⟨rfl, hb1⟩))
      all_goals
        go_ret
        exact ⟨rfl, (by repeat (first | exact Ext.refl _ | assumption | refine Ext.alloc ?_ _ | refine Ext.drew ?_ | refine Ext.setCell ?_ (by first | (simp; done) | (dsimp only; omega)) _ | refine Ext.trans ?_ (by assumption)))⟩
  · rw [if_neg ha]
    simp only [if_neg ha] at hm
    clear ha
    go_enter Try.func89, Try.ntmps89
    go_wp2_with (first | (go_at_call 128; refine (hm _ (by repeat (first | exact Ext.refl _ | assumption | refine Ext.alloc ?_ _ | refine Ext.drew ?_ | refine Ext.setCell ?_ (by first | (simp; done) | (dsimp only; omega)) _ | refine Ext.trans ?_ (by assumption)))).mono ?_; rintro e w1 ⟨rfl, hb1⟩))
    all_goals
      go_ret
      exact ⟨rfl, (by repeat (first | exact Ext.refl _ | assumption | refine Ext.alloc ?_ _ | refine Ext.drew ?_ | refine Ext.setCell ?_ (by first | (simp; done) | (dsimp only; omega)) _ | refine Ext.trans ?_ (by assumption)))⟩
theorem bits_c (mb : Nat) (F : List Nat) (B : Int) (M : Int → Int) (T : List Int) (w : World) (h : MemAt w mb F B M T) :
    Calls Try.prog 72 #[.pointer (some ⟨mb, 0, none⟩)] w fun e w' => e = .returned (.int .i64 B) ∧ Ext w w' := by
  obtain ⟨c0, hlt, hB⟩ := h.head
  clear h
  go_enter Try.func72, Try.ntmps72
  go_wp2
  all_goals
    go_ret
    exact ⟨rfl, (by repeat (first | exact Ext.refl _ | assumption | refine Ext.alloc ?_ _ | refine Ext.drew ?_ | refine Ext.setCell ?_ (by first | (simp; done) | (dsimp only; omega)) _ | refine Ext.trans ?_ (by assumption)))⟩
theorem peek_c (mb : Nat) (F : List Nat) (B : Int) (M : Int → Int) (T : List Int) (a : Int) (w : World) (h : MemAt w mb F B M T) (h0 : 0 ≤ a) (h1 : a ≤ 18446744073709551615) :
    Calls Try.prog 37 #[.pointer (some ⟨mb, 0, none⟩), .int .u64 a] w fun e w' => e = .returned (.tuple #[.int .u64 (if errM B a = 0 then M (a / 8) else 0), .int .i64 (errM B a)]) ∧ Ext w w' := by
  have hal := fun w' (hx : Ext w w') => aligned_c mb F B M T a w' (h.ext hx) h0 h1
  by_cases he : errM B a = 0
  · have ha : a ≤ 4194303 := by
      unfold errM at he
      by_cases hq : a < limB B
      · have := limB_le B; omega
      · rw [if_neg hq] at he; omega
    have hat := fun w' (hx : Ext w w') => mat_c mb F B M T a w' (h.ext hx) h0 ha
    rw [if_pos he, he]
    rw [he] at hal
    generalize M (a / 8) = y at hat
    clear h he ha
    go_enter Try.func37, Try.ntmps37
    go_wp2_with (first | (go_at_call 89; refine (hal _ (by repeat (first | exact Ext.refl _ | assumption | refine Ext.alloc ?_ _ | refine Ext.drew ?_ | refine Ext.setCell ?_ (by first | (simp; done) | (dsimp only; omega)) _ | refine Ext.trans ?_ (by assumption)))).mono ?_; rintro e w1 ⟨rfl, hb1⟩) | (go_at_call 90; refine (hat _ (by repeat (first | exact Ext.refl _ | assumption | refine Ext.alloc ?_ _ | refine Ext.drew ?_ | refine Ext.setCell ?_ (by first | (simp; done) | (dsimp only; omega)) _ | refine Ext.trans ?_ (by assumption)))).mono ?_; rintro e w2 ⟨rfl, hb2⟩))
    all_goals
      go_ret2
      exact ⟨rfl, (by repeat (first | exact Ext.refl _ | assumption | refine Ext.alloc ?_ _ | refine Ext.drew ?_ | refine Ext.setCell ?_ (by first | (simp; done) | (dsimp only; omega)) _ | refine Ext.trans ?_ (by assumption)))⟩
  · rw [if_neg he]
    generalize errM B a = er at hal he
    have heb : (er != 0) = true := by simpa using he
    clear h
    go_enter Try.func37, Try.ntmps37
    go_wp2_with (first | (go_at_call 89; refine (hal _ (by repeat (first | exact Ext.refl _ | assumption | refine Ext.alloc ?_ _ | refine Ext.drew ?_ | refine Ext.setCell ?_ (by first | (simp; done) | (dsimp only; omega)) _ | refine Ext.trans ?_ (by assumption)))).mono ?_; rintro e w1 ⟨rfl, hb1⟩))
    all_goals
      go_ret2
      exact ⟨rfl, (by repeat (first | exact Ext.refl _ | assumption | refine Ext.alloc ?_ _ | refine Ext.drew ?_ | refine Ext.setCell ?_ (by first | (simp; done) | (dsimp only; omega)) _ | refine Ext.trans ?_ (by assumption)))⟩
end Go.Proofs.YtkoohedbbdgjjaaR
