/- Contracts of fault.GP and of piece. -/
import Derived.Test.YtjlgfkhkjfiadaaDoorVa
namespace Go.Proofs.YtjlgfkhkjfiadaaDoor
set_option linter.unusedVariables false
set_option linter.unusedSimpArgs false
open Go.RowKit
attribute [local go_sem] wext_cell wext_frozen wext_heap alloc_cell alloc_frozen alloc_heap setCell_cell objCell_cells objFrozen_cells

/-- A general protection fault in new memory: words ahead of the number 5. -/
def IsGP (s : ByteArray) (w : World) (v : Value) (w' : World) : Prop :=
  ∃ g, v = .iface 60 (.pointer (some ⟨g, 0, none⟩)) ∧ w.heap.size ≤ g ∧ g < w'.heap.size ∧ w'.heap[g]? = some (.cells #[.string s, .iface 33 (.int .i64 5)] 62 (0, 0)) ∧ Ext w w'
theorem IsGP.ext {s : ByteArray} {w w' w2 : World} {v : Value} (h : IsGP s w v w') (k : Ext w' w2) : IsGP s w v w2 := by
  obtain ⟨g, h1, h2, h3, h4, h5⟩ := h
  exact ⟨g, h1, h2, Nat.lt_of_lt_of_le h3 k.size, by rw [k.block g h3]; exact h4, h5.trans k⟩
theorem IsGP.of {s : ByteArray} {w0 w w' : World} {v : Value} (h : IsGP s w v w') (k : Ext w0 w) : IsGP s w0 v w' := by
  obtain ⟨g, h1, h2, h3, h4, h5⟩ := h
  exact ⟨g, h1, Nat.le_trans k.size h2, h3, h4, k.trans h5⟩

def EndGP (s : ByteArray) (w : World) (e : Ending) (w' : World) : Prop := ∃ v, e = .returned v ∧ IsGP s w v w'

theorem faultWrap_c (s : ByteArray) (w : World) :
    Calls Tryd.prog 13 #[.string s, .iface 33 (.int .i64 5)] w (EndGP s w) := by
  go_enter Tryd.func13, Tryd.ntmps13
  go_wp2
  go_ret
  exact ⟨_, rfl, w.heap.size, rfl, Nat.le_refl _, by simp, by rw [alloc_heap, if_neg (by omega), if_pos rfl], (by repeat (first | exact Ext.refl _ | assumption | refine Ext.alloc ?_ _ | refine Ext.drew ?_ | refine Ext.setCell ?_ (by first | (simp; done) | (dsimp only; omega)) _ | refine Ext.trans ?_ (by assumption)))⟩

theorem faultGP_c (s : ByteArray) (w : World) : Calls Tryd.prog 17 #[.string s] w (EndGP s w) := by
  go_enter Tryd.func17, Tryd.ntmps17
  go_wp2_with (go_at_call 13; refine (faultWrap_c _ _).mono ?_; rintro e w1 ⟨v, rfl, hv⟩; have HV := Lib.hid hv; clear hv)
  go_ret
  exact ⟨_, rfl, HV.out⟩

/-! ### piece.Cut -/
/-- whether bytes can be cut -/
def cutB (a n : Int) : Bool := decide (1 ≤ n) && decide (n ≤ 8) && canonB a && decide (a + n ≤ 18446744073709551616) && canonB (a + n - 1)
def EndCutBad (w : World) (e : Ending) (w' : World) : Prop := ∃ v s, e = .returned (.tuple #[.slice none 0 0, v]) ∧ IsGP s w v w'

set_option maxHeartbeats 1600000 in
theorem cut_bad (a n : Int) (w : World) (h0 : 0 ≤ a) (h1 : a ≤ 18446744073709551615) (hn0 : -9223372036854775808 ≤ n) (hn1 : n ≤ 9223372036854775807) (h : cutB a n = false) :
    Calls Tryd.prog 19 #[.int .u64 a, .int .i64 n] w (EndCutBad w) := by
  have h2 : n < 1 ∨ 8 < n ∨ (1 ≤ n ∧ n ≤ 8 ∧ canonB a = false) ∨ (1 ≤ n ∧ n ≤ 8 ∧ canonB a = true ∧ (18446744073709551616 < a + n ∨ canonB (a + n - 1) = false)) := by
    by_cases g1 : 1 ≤ n <;> by_cases g2 : n ≤ 8
    · cases g3 : canonB a
      · exact .inr (.inr (.inl ⟨g1, g2, rfl⟩))
      · refine .inr (.inr (.inr ⟨g1, g2, rfl, ?_⟩))
        by_cases g4 : a + n ≤ 18446744073709551616
        · right
          simpa [cutB, g1, g2, g3, g4] using h
        · left; omega
    · exact .inr (.inl (by omega))
    · exact .inl (by omega)
    · exact .inl (by omega)
  clear h
  rcases h2 with h | h | ⟨g1, g2, g3⟩ | ⟨g1, g2, g3, g4⟩
  case inl =>
    go_enter Tryd.func19, Tryd.ntmps19
    go_wp2_with (go_at_call 17; refine (faultGP_c _ _).mono ?_; rintro e w1 ⟨v, rfl, hv⟩; have HV := Lib.hid hv; clear hv)
    go_ret2
    exact ⟨_, _, rfl, HV.out⟩
  case inr.inl =>
    go_enter Tryd.func19, Tryd.ntmps19
    go_wp2_with (go_at_call 17; refine (faultGP_c _ _).mono ?_; rintro e w1 ⟨v, rfl, hv⟩; have HV := Lib.hid hv; clear hv)
    go_ret2
    exact ⟨_, _, rfl, HV.out⟩
  case inr.inr.inl =>
    go_enter Tryd.func19, Tryd.ntmps19
    go_wp2_with (first | (go_at_call 32; refine (vaCanon_c _ _ h0 h1).mono ?_; rintro e w1 ⟨rfl, hb⟩; have ⟨hc, hf, hh, hs⟩ := hb.facts; try simp only [World.size_alloc, World.size_setCell, World.size_drew] at hs) | (go_at_call 17; refine (faultGP_c _ _).mono ?_; rintro e w2 ⟨v, rfl, hv⟩; have HV := Lib.hid hv; clear hv))
    go_ret2
    exact ⟨_, _, rfl, HV.out.of hb⟩
  case inr.inr.inr =>
    have hl : ∃ L, IntKind.u64.wrap (a + (n - 1)) = L ∧ 0 ≤ L ∧ L ≤ 18446744073709551615 ∧ (canonB L = false ∨ (canonB L = true ∧ L < a)) := by
      refine ⟨_, rfl, by rw [IntKind.wrap_u64]; omega, by rw [IntKind.wrap_u64]; omega, ?_⟩
      cases hb : canonB (IntKind.u64.wrap (a + (n - 1))) with
      | false => exact .inl rfl
      | true =>
        refine .inr ⟨rfl, ?_⟩
        have e : IntKind.u64.wrap (a + (n - 1)) = a + n - 1 ∨ (18446744073709551616 ≤ a + n - 1 ∧ IntKind.u64.wrap (a + (n - 1)) < a) := by
          rw [IntKind.wrap_u64]; omega
        rcases e with e | e
        · rw [e] at hb
          rcases g4 with g4 | g4
          · exfalso; have hw : IntKind.u64.wrap (a + (n - 1)) ≤ 18446744073709551615 := by (rw [IntKind.wrap_u64]; omega)
            omega
          · rw [g4] at hb; cases hb
        · exact e.2
    clear g4
    obtain ⟨L, hL, hl0, hl1, hl⟩ := hl
    rcases hl with hl | ⟨hl, hla⟩
    all_goals
      go_enter Tryd.func19, Tryd.ntmps19
      go_wp2_with (first | (go_at_call 32; refine (vaCanon_c _ _ (by omega) (by omega)).mono ?_; rintro e w1 ⟨rfl, hb⟩; have ⟨hc, hf, hh, hs⟩ := hb.facts; try simp only [World.size_alloc, World.size_setCell, World.size_drew] at hs) | (go_at_call 17; refine (faultGP_c _ _).mono ?_; rintro e w2 ⟨v, rfl, hv⟩; have HV := Lib.hid hv; clear hv))
      all_goals
        go_ret2
        exact ⟨_, _, rfl, HV.out.of (by repeat (first | exact Ext.refl _ | assumption | refine Ext.alloc ?_ _ | refine Ext.drew ?_ | refine Ext.setCell ?_ (by first | (simp; done) | (dsimp only; omega)) _ | refine Ext.trans ?_ (by assumption)))⟩

/-- One piece. -/
def EndCut1 (a n : Int) (w : World) (e : Ending) (w' : World) : Prop :=
  ∃ g, e = .returned (.tuple #[.slice (some ⟨g, 0, none⟩) 1 1, .nilIface]) ∧ w.heap.size ≤ g ∧ g < w'.heap.size ∧ w'.cell? ⟨g, 0, none⟩ = some (.int .u64 a) ∧ w'.cell? ⟨g, 1, none⟩ = some (.int .i64 n) ∧ Ext w w'
/-- Two pieces. -/
def EndCut2 (a n b m : Int) (w : World) (e : Ending) (w' : World) : Prop :=
  ∃ g, e = .returned (.tuple #[.slice (some ⟨g, 0, none⟩) 2 2, .nilIface]) ∧ w.heap.size ≤ g ∧ g < w'.heap.size ∧ w'.cell? ⟨g, 0, none⟩ = some (.int .u64 a) ∧ w'.cell? ⟨g, 1, none⟩ = some (.int .i64 n) ∧
    w'.cell? ⟨g, 2, none⟩ = some (.int .u64 b) ∧ w'.cell? ⟨g, 3, none⟩ = some (.int .i64 m) ∧ Ext w w'

theorem cutB_true {a n : Int} (h : cutB a n = true) : 1 ≤ n ∧ n ≤ 8 ∧ canonB a = true ∧ a + n ≤ 18446744073709551616 ∧ canonB (a + n - 1) = true := by
  simp only [cutB, Bool.and_eq_true, decide_eq_true_eq] at h
  obtain ⟨⟨⟨⟨a, b⟩, c⟩, d⟩, e⟩ := h
  exact ⟨a, b, c, d, e⟩

set_option maxHeartbeats 1600000 in
theorem cut_one (a n : Int) (w : World) (h0 : 0 ≤ a) (h : cutB a n = true) (hr : n ≤ 4096 - a % 4096) :
    Calls Tryd.prog 19 #[.int .u64 a, .int .i64 n] w (EndCut1 a n w) := by
  obtain ⟨g1, g2, g3, g4, g5⟩ := cutB_true h
  clear h
  have h1 : a ≤ 18446744073709551615 := by omega
  have hl0 : 0 ≤ a + (n - 1) := by omega
  have hl1 : a + (n - 1) ≤ 18446744073709551615 := by omega
  have g6 : canonB (a + (n - 1)) = true := by rw [show a + (n - 1) = a + n - 1 by omega]; exact g5
  have g7 : (a - a % 4096 == a + (n - 1) - (a + (n - 1)) % 4096) = true := by rw [beq_iff_eq]; omega
  clear g5 hr
  go_enter Tryd.func19, Tryd.ntmps19
  go_wp2_with (first | (go_at_call 32; refine (vaCanon_c _ _ (by omega) (by omega)).mono ?_; rintro e w1 ⟨rfl, hb⟩; have ⟨hc, hf, hh, hs⟩ := hb.facts; try simp only [World.size_alloc, World.size_setCell, World.size_drew] at hs) | (go_at_call 33; refine (vaPage1_c _ _ (by omega) (by omega)).mono ?_; rintro e w1 ⟨rfl, hb⟩; have ⟨hc, hf, hh, hs⟩ := hb.facts; try simp only [World.size_alloc, World.size_setCell, World.size_drew] at hs))
  go_ret2
  exact ⟨_, rfl, by (try simp only [World.size_alloc]); omega, by simp, by simp, by simp, (by repeat (first | exact Ext.refl _ | assumption | refine Ext.alloc ?_ _ | refine Ext.drew ?_ | refine Ext.setCell ?_ (by first | (simp; done) | (dsimp only; omega)) _ | refine Ext.trans ?_ (by assumption)))⟩

set_option maxHeartbeats 1600000 in
theorem cut_two (a n : Int) (w : World) (h0 : 0 ≤ a) (h : cutB a n = true) (hr : 4096 - a % 4096 < n) :
    Calls Tryd.prog 19 #[.int .u64 a, .int .i64 n] w (EndCut2 a (4096 - a % 4096) (a + (4096 - a % 4096)) (n - (4096 - a % 4096)) w) := by
  obtain ⟨g1, g2, g3, g4, g5⟩ := cutB_true h
  clear h
  have h1 : a ≤ 18446744073709551615 := by omega
  have hl0 : 0 ≤ a + (n - 1) := by omega
  have hl1 : a + (n - 1) ≤ 18446744073709551615 := by omega
  have g6 : canonB (a + (n - 1)) = true := by rw [show a + (n - 1) = a + n - 1 by omega]; exact g5
  have g7 : (a - a % 4096 == a + (n - 1) - (a + (n - 1)) % 4096) = false := by rw [beq_eq_false_iff_ne]; omega
  have e1 := Lib.hid (show a + (n - 1) - (a + (n - 1)) % 4096 = a + (4096 - a % 4096) by omega)
  clear g5
  go_enter Tryd.func19, Tryd.ntmps19
  go_wp2_with (first | (go_at_call 32; refine (vaCanon_c _ _ (by omega) (by omega)).mono ?_; rintro e w1 ⟨rfl, hb⟩; have ⟨hc, hf, hh, hs⟩ := hb.facts; try simp only [World.size_alloc, World.size_setCell, World.size_drew] at hs) | (go_at_call 33; refine (vaPage1_c _ _ (by omega) (by omega)).mono ?_; rintro e w1 ⟨rfl, hb⟩; have ⟨hc, hf, hh, hs⟩ := hb.facts; try simp only [World.size_alloc, World.size_setCell, World.size_drew] at hs))
  go_ret2
  refine ⟨_, rfl, by (try simp only [World.size_alloc]); omega, by simp, by simp, ?_, ?_, ?_, (by repeat (first | exact Ext.refl _ | assumption | refine Ext.alloc ?_ _ | refine Ext.drew ?_ | refine Ext.setCell ?_ (by first | (simp; done) | (dsimp only; omega)) _ | refine Ext.trans ?_ (by assumption)))⟩
  all_goals (simp; omega)

end Go.Proofs.YtjlgfkhkjfiadaaDoor
