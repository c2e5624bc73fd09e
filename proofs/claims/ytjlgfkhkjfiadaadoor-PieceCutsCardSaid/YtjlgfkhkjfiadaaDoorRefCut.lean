/- The document's Cut. -/
import Derived.Test.YtjlgfkhkjfiadaaDoorPiece
import Derived.Test.YtjlgfkhkjfiadaaDoorRef3
namespace Go.Proofs.YtjlgfkhkjfiadaaDoor
set_option linter.unusedVariables false
set_option linter.unusedSimpArgs false
open Go.RowKit
attribute [local go_sem] wext_cell wext_frozen wext_heap alloc_cell alloc_frozen alloc_heap setCell_cell objCell_cells objFrozen_cells

set_option maxHeartbeats 1600000 in
theorem refCut_bad (a n : Int) (w : World) (h0 : 0 ≤ a) (h1 : a ≤ 18446744073709551615) (hn0 : -9223372036854775808 ≤ n) (hn1 : n ≤ 9223372036854775807) (h : cutB a n = false) :
    Calls Tryd.prog 20 #[.int .u64 a, .int .i64 n] w fun e w' => e = .returned (.tuple #[.slice none 0 0, .bool false]) ∧ Ext w w' := by
  have h2 : n < 1 ∨ 8 < n ∨ (1 ≤ n ∧ n ≤ 8) := by omega
  rcases h2 with h2 | h2 | ⟨g1, g2⟩
  case inl =>
    go_enter Tryd.func20, Tryd.ntmps20
    go_wp2
    go_ret2
    exact ⟨rfl, (by repeat (first | exact Ext.refl _ | assumption | refine Ext.alloc ?_ _ | refine Ext.drew ?_ | refine Ext.setCell ?_ (by first | (simp; done) | (dsimp only; omega)) _ | refine Ext.trans ?_ (by assumption)))⟩
  case inr.inl =>
    go_enter Tryd.func20, Tryd.ntmps20
    go_wp2
    go_ret2
    exact ⟨rfl, (by repeat (first | exact Ext.refl _ | assumption | refine Ext.alloc ?_ _ | refine Ext.drew ?_ | refine Ext.setCell ?_ (by first | (simp; done) | (dsimp only; omega)) _ | refine Ext.trans ?_ (by assumption)))⟩
  case inr.inr =>
    have hl : ∃ L, IntKind.u64.wrap (IntKind.u64.wrap (a + n) - 1) = L ∧ 0 ≤ L ∧ L ≤ 18446744073709551615 ∧ (canonB a = false ∨ (canonB a = true ∧ (canonB L = false ∨ (canonB L = true ∧ L < a)))) := by
      refine ⟨_, rfl, by simp only [IntKind.wrap_u64]; omega, by simp only [IntKind.wrap_u64]; omega, ?_⟩
      cases ha : canonB a
      · exact .inl rfl
      · refine .inr ⟨rfl, ?_⟩
        cases hb : canonB (IntKind.u64.wrap (IntKind.u64.wrap (a + n) - 1))
        · exact .inl rfl
        · refine .inr ⟨rfl, ?_⟩
          by_cases hov : a + n ≤ 18446744073709551616
          · exfalso
            rw [show IntKind.u64.wrap (IntKind.u64.wrap (a + n) - 1) = a + n - 1 by simp only [IntKind.wrap_u64]; omega] at hb
            have : cutB a n = true := by
              simp only [cutB, Bool.and_eq_true, decide_eq_true_eq]
              exact ⟨⟨⟨⟨by omega, by omega⟩, ha⟩, hov⟩, hb⟩
            rw [this] at h; cases h
          · simp only [IntKind.wrap_u64]; omega
    clear h
    have hnw : IntKind.u64.wrap n = n := by rw [IntKind.wrap_u64]; omega
    obtain ⟨L, hL, l0, l1, hl⟩ := hl
    rcases hl with hl | ⟨hl, hl2 | ⟨hl2, hl3⟩⟩
    all_goals
      go_enter Tryd.func20, Tryd.ntmps20
      go_wp2_with (go_at_call 34; refine (refCanon_c _ _ (by omega) (by omega)).mono ?_; rintro e w5 ⟨rfl, hb5⟩)
      go_ret2
      exact ⟨rfl, (by repeat (first | exact Ext.refl _ | assumption | refine Ext.alloc ?_ _ | refine Ext.drew ?_ | refine Ext.setCell ?_ (by first | (simp; done) | (dsimp only; omega)) _ | refine Ext.trans ?_ (by assumption)))⟩

def EndRCut1 (a n : Int) (w : World) (e : Ending) (w' : World) : Prop :=
  ∃ g, e = .returned (.tuple #[.slice (some ⟨g, 0, none⟩) 1 1, .bool true]) ∧ w'.cell? ⟨g, 0, none⟩ = some (.int .u64 a) ∧ w'.cell? ⟨g, 1, none⟩ = some (.int .i64 n) ∧ g < w'.heap.size ∧ Ext w w'
def EndRCut2 (a n b m : Int) (w : World) (e : Ending) (w' : World) : Prop :=
  ∃ g, e = .returned (.tuple #[.slice (some ⟨g, 0, none⟩) 2 2, .bool true]) ∧ w'.cell? ⟨g, 0, none⟩ = some (.int .u64 a) ∧ w'.cell? ⟨g, 1, none⟩ = some (.int .i64 n) ∧
    w'.cell? ⟨g, 2, none⟩ = some (.int .u64 b) ∧ w'.cell? ⟨g, 3, none⟩ = some (.int .i64 m) ∧ g < w'.heap.size ∧ Ext w w'

set_option maxHeartbeats 1600000 in
theorem refCut_one (a n : Int) (w : World) (h0 : 0 ≤ a) (h : cutB a n = true) (hr : n ≤ 4096 - a % 4096) :
    Calls Tryd.prog 20 #[.int .u64 a, .int .i64 n] w (EndRCut1 a n w) := by
  obtain ⟨g1, g2, g3, g4, g5⟩ := cutB_true h
  clear h
  have f2 : IntKind.u64.wrap (IntKind.u64.wrap (a + n) - 1) = a + n - 1 := by simp only [IntKind.wrap_u64]; omega
  generalize hEnd : EndRCut1 a n w = EE
  have HEND := Aside.mk hEnd
  clear hEnd
  go_enter Tryd.func20, Tryd.ntmps20
  go_wp2_with (go_at_call 34; refine (refCanon_c _ _ (by omega) (by omega)).mono ?_; rintro e w5 ⟨rfl, hb5⟩)
  (try go_ret2)
  rw [← HEND.out]
  exact ⟨_, rfl, by simp, by simp, by simp, (by repeat (first | exact Ext.refl _ | assumption | refine Ext.alloc ?_ _ | refine Ext.drew ?_ | refine Ext.setCell ?_ (by first | (simp; done) | (dsimp only; omega)) _ | refine Ext.trans ?_ (by assumption)))⟩
set_option maxHeartbeats 1600000 in
theorem refCut_two (a n : Int) (w : World) (h0 : 0 ≤ a) (h : cutB a n = true) (hr : 4096 - a % 4096 < n) :
    Calls Tryd.prog 20 #[.int .u64 a, .int .i64 n] w (EndRCut2 a (4096 - a % 4096) (a + (4096 - a % 4096)) (n - (4096 - a % 4096)) w) := by
  obtain ⟨g1, g2, g3, g4, g5⟩ := cutB_true h
  clear h
  have f2 : IntKind.u64.wrap (IntKind.u64.wrap (a + n) - 1) = a + n - 1 := by simp only [IntKind.wrap_u64]; omega
  generalize hEnd : EndRCut2 a (4096 - a % 4096) (a + (4096 - a % 4096)) (n - (4096 - a % 4096)) w = EE
  have HEND := Aside.mk hEnd
  clear hEnd
  go_enter Tryd.func20, Tryd.ntmps20
  go_wp2_with (go_at_call 34; refine (refCanon_c _ _ (by omega) (by omega)).mono ?_; rintro e w5 ⟨rfl, hb5⟩)
  (try go_ret2)
  rw [← HEND.out]
  exact ⟨_, rfl, by simp, by simp, by simp, by simp, by simp, (by repeat (first | exact Ext.refl _ | assumption | refine Ext.alloc ?_ _ | refine Ext.drew ?_ | refine Ext.setCell ?_ (by first | (simp; done) | (dsimp only; omega)) _ | refine Ext.trans ?_ (by assumption)))⟩
end Go.Proofs.YtjlgfkhkjfiadaaDoor
