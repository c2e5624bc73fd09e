/- RightSums: a code is the sum of what it tells, each by a bit of its own: for every access, and whatever was present or reserved. -/
import Derived.Test.YtcgcmkoeigkiiaaRightA
import Derived.Test.YtcgcmkoeigkiiaaRow
namespace Go.Proofs.Ytcgcmkoeigkiiaa
set_option linter.unusedVariables false
set_option linter.unusedSimpArgs false
open Go.RowKit
attribute [local go_sem] wext_cell wext_frozen wext_heap alloc_cell alloc_frozen alloc_heap setCell_cell objCell_cells objFrozen_cells

theorem codeUp_tells (p s u r f : Bool) : 0 ≤ codeUp p s u r f 5 ∧ codeUp p s u r f 5 ≤ 31 ∧ (codeUp p s u r f 5 % 2 == 1) = p ∧ (codeUp p s u r f 5 / 2 % 2 == 1) = s ∧ (codeUp p s u r f 5 / 4 % 2 == 1) = u ∧ (codeUp p s u r f 5 / 8 % 2 == 1) = r ∧ (16 ≤ codeUp p s u r f 5 → f = true) := by
  cases p <;> cases s <;> cases u <;> cases r <;> cases f <;> decide

set_option maxHeartbeats 3200000 in
theorem rightSums_c (k : Int) (user ac p r : Bool) (w : World) :
    Calls Try.prog 5 #[.agg #[.int .i64 k, .bool user, .bool ac], .bool p, .bool r] w fun e w' => e = .returned (.bool true) ∧ Ext w w' := by
  go_enter Try.func5, Try.ntmps5
  go_wp2_with (first | (go_at_call 13; refine (awake6_c _).mono ?_; rintro e w1 ⟨rfl, hb⟩; have ⟨hc, hf, hh, hs⟩ := hb.facts; try simp only [World.size_alloc, World.size_setCell, World.size_drew] at hs))
  refine wp_gen ?_
  intro W hW
  have hx : Ext w W := by rw [hW]; exact (by repeat (first | exact Ext.refl _ | assumption | refine Ext.alloc ?_ _ | refine Ext.drew ?_ | refine Ext.setCell ?_ (by simp) _ | refine Ext.trans ?_ (by assumption)))
  have q0 : W.cell? ⟨w.heap.size, 0, none⟩ = some (.int .i64 k) := (by rw [hW]; simp [go_sem, ↓IntWalk.iteOmega, *])
  have q1 : W.cell? ⟨w.heap.size, 1, none⟩ = some (.bool user) := (by rw [hW]; simp [go_sem, ↓IntWalk.iteOmega, *])
  have q2 : W.cell? ⟨w.heap.size, 2, none⟩ = some (.bool ac) := (by rw [hW]; simp [go_sem, ↓IntWalk.iteOmega, *])
  have qs : w.heap.size + 1 ≤ W.heap.size := (by rw [hW]; (try simp only [World.size_alloc, World.size_setCell, World.size_drew]); omega)
  clear hW hb hc hf hh hs
  go_loopw [8, 9] (fun i _ wr => ∃ j : Nat, j ≤ 16 ∧ i = .int .i64 j ∧ Ext W wr) (fun i _ _ => (16 - intOf i).toNat)
  case atStart => exact ⟨0, by omega, rfl, Ext.refl _⟩
  case round =>
    obtain ⟨j, hj, rfl, hb⟩ := hrel
    have ⟨hc, hf, hh, hs⟩ := hb.facts
    by_cases hlt : j < 16
    · have hcode := fun w => code_c k user ac (ctlB 1 j) (ctlB 2 j) (ctlB 4 j) (ctlB 8 j) p r w
      have ⟨f0, f1, f2, f3, f4, f5, f6⟩ := codeUp_tells p (k == 2) user r (k == 3 && (ctlB 4 j || ctlB 2 j))
      have f7 : 16 ≤ codeUp p (k == 2) user r (k == 3 && (ctlB 4 j || ctlB 2 j)) 5 → (k == 3) = true := fun h => by
        have := f6 h; simp only [Bool.and_eq_true] at this; exact this.1
      clear f6
      generalize codeUp p (k == 2) user r (k == 3 && (ctlB 4 j || ctlB 2 j)) 5 = K at *
      have HC := Lib.hid hcode
      have H7 := Lib.hid f7
      clear hcode f7
      by_cases h16 : 16 ≤ K
      · have h3 := H7.out h16
        have h3' : (k != 3) = false := by simpa [bne] using h3
        go_upto_region 5 with (fail)
        refine region_ext (by kernel_rfl) (by kernel_rfl) ?_; (repeat (go_big_quiet_step (first | (go_at_call 15; exact calls_wext (ctl6_c _ _ (by omega) (by omega))) | (go_at_call 14; exact calls_wext (HC.out _))))); refine wpQuiet_nil ?_; intro w1 hb; have ⟨hc, hf, hh, hs⟩ := hb.facts; try simp only [World.size_alloc, World.size_setCell, World.size_drew] at hs
        go_wp2
        go_roundw
        case rel => exact ⟨j + 1, by omega, by go_num, (by repeat (first | exact Ext.refl _ | assumption | refine Ext.alloc ?_ _ | refine Ext.drew ?_ | refine Ext.setCell ?_ (by simp) _ | refine Ext.trans ?_ (by assumption)))⟩
        case measure => simp [intOf]; omega
      · go_upto_region 5 with (fail)
        refine region_ext (by kernel_rfl) (by kernel_rfl) ?_; (repeat (go_big_quiet_step (first | (go_at_call 15; exact calls_wext (ctl6_c _ _ (by omega) (by omega))) | (go_at_call 14; exact calls_wext (HC.out _))))); refine wpQuiet_nil ?_; intro w1 hb; have ⟨hc, hf, hh, hs⟩ := hb.facts; try simp only [World.size_alloc, World.size_setCell, World.size_drew] at hs
        go_wp2
        go_roundw
        case rel => exact ⟨j + 1, by omega, by go_num, (by repeat (first | exact Ext.refl _ | assumption | refine Ext.alloc ?_ _ | refine Ext.drew ?_ | refine Ext.setCell ?_ (by simp) _ | refine Ext.trans ?_ (by assumption)))⟩
        case measure => simp [intOf]; omega
    · obtain rfl : j = 16 := by omega
      go_wp2
      go_ret
      exact ⟨rfl, hx.trans hb⟩

theorem rightSums_walk (W : World) (args : List Value) (h : ArgsAre W [.row [.int .i64, .bool, .bool], .bool, .bool] args) :
    Calls Try.prog 5 args.toArray W fun e w' => e = .returned (.bool true) ∧ Ext W w' := by
  obtain ⟨_, _, rfl, ⟨cs, rfl, hl, h1⟩, _, _, rfl, ⟨x, h2⟩, _, _, rfl, ⟨y, h3⟩, rfl⟩ := h
  obtain ⟨a, b, c, rfl⟩ := len3 hl
  simp only [Dsc.IsAll, Dsc.Is, Dsc.size, List.take_succ_cons, List.take_zero, List.drop_succ_cons, List.drop_zero, List.cons.injEq, and_true] at h1 h2 h3
  obtain ⟨⟨a, rfl, _⟩, ⟨b, rfl⟩, ⟨c, rfl⟩⟩ := h1
  subst h2 h3
  exact rightSums_c a b c x y W

theorem rightSumsDscs : okParams Try.prog [.row [.int .i64, .bool, .bool], .bool, .bool] Try.f5.params.toList = true := by kernel_rfl
set_option maxRecDepth 100000 in
theorem rightSums_lifted (os : Os) (started : os.Started) (H : Type) (enc : TypeId × Value → H) :
    ReturnsInHanded {} Try.checked os 5 .any (Rows.rightSumsSpec.pre6 enc Try.prog Try.f5 Rows.rightSumsRow.domain false) (Rows.rightSumsSpec.post enc Try.prog Try.f5 false true false false) :=
  law_lift (C := Try.checked) [.row [.int .i64, .bool, .bool], .bool, .bool] (by kernel_rfl) started (by kernel_rfl) Try.func5
    (ChangeSpec.witness6 (enc := enc) (C := Try.checked) false ⟨#[], #[.agg #[.int .i64 0, .bool false, .bool false], .bool false, .bool false], []⟩ 8 (by kernel_rfl) (by kernel_rfl) (by kernel_rfl) (by kernel_rfl))
    (by kernel_rfl) rightSumsDscs rfl Try.underlying4 rfl (fun ds h => by
      first
        | (obtain ⟨a, rfl⟩ := len1 h; rfl)
        | (obtain ⟨a, b, rfl⟩ := len2 h; rfl)
        | (obtain ⟨a, b, c, rfl⟩ := len3 h; rfl)
        | (obtain ⟨a, b, c, d, rfl⟩ := len4 h; rfl)) rightSums_walk
theorem rightSums_holds : Rows.RightSumsSaid :=
  OpenClaim.holds_of_wide 5 Try.f5 rfl rfl rfl rfl rfl rfl rfl ⟨rfl, rfl, rfl, rfl, rfl⟩ rfl rfl rfl rfl rfl (by kernel_rfl) Try.func5 (by kernel_rfl)
    (of_decide_eq_true (by kernel_rfl)) (by unfold Func.isWrapper; first | (rw [if_pos (by decide +kernel)]; kernel_rfl) | (rw [if_neg (by decide +kernel)]; exact ⟨rfl, rfl⟩))
    (fun os started H enc _ => rightSums_lifted os started H enc)
#print axioms rightSums_holds
end Go.Proofs.Ytcgcmkoeigkiiaa
