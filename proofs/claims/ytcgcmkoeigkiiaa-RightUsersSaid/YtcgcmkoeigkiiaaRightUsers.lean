/- RightUsers: a user who may with less may with more; what a user may of a page others may, too, if nothing keeps them from it: for any two rights and any kind. -/
import Derived.Test.YtcgcmkoeigkiiaaRightA
import Derived.Test.YtcgcmkoeigkiiaaRow
namespace Go.Proofs.Ytcgcmkoeigkiiaa
set_option linter.unusedVariables false
set_option linter.unusedSimpArgs false
open Go.RowKit
attribute [local go_sem] wext_cell wext_frozen wext_heap alloc_cell alloc_frozen alloc_heap setCell_cell objCell_cells objFrozen_cells

theorem may_more (a b c a' b' c' ac wp nxe smep smap : Bool) (k : Int) (h1 : leastB a b c a' b' c' = true) (h2 : mayB a b c k true ac wp nxe smep smap = true) : mayB a' b' c' k true ac wp nxe smep smap = true := by
  simp only [mayB, userB, leastB, if_true] at *
  cases a <;> cases b <;> cases c <;> cases a' <;> cases b' <;> cases c' <;> simp_all <;> omega
theorem may_others (a b c ac wp nxe : Bool) (k : Int) (h2 : mayB a b c k true ac wp nxe false false = true) : mayB a b c k false ac wp nxe false false = true := by
  simp only [mayB, userB, if_true] at *
  cases a <;> cases b <;> cases c <;> cases wp <;> simp_all <;> omega

set_option maxHeartbeats 6400000 in
theorem rightUsers_c (a b c a' b' c' : Bool) (k : Int) (w : World) :
    Calls Try.prog 8 #[.agg #[.bool a, .bool b, .bool c], .agg #[.bool a', .bool b', .bool c'], .int .i64 k] w fun e w' => e = .returned (.bool true) ∧ Ext w w' := by
  go_enter Try.func8, Try.ntmps8
  go_wp2_with (first | (go_at_call 13; refine (awake6_c _).mono ?_; rintro e w1 ⟨rfl, hb⟩; have ⟨hc, hf, hh, hs⟩ := hb.facts; try simp only [World.size_alloc, World.size_setCell, World.size_drew] at hs))
  refine wp_gen ?_
  intro W hW
  have hx : Ext w W := by rw [hW]; exact (by repeat (first | exact Ext.refl _ | assumption | refine Ext.alloc ?_ _ | refine Ext.drew ?_ | refine Ext.setCell ?_ (by simp) _ | refine Ext.trans ?_ (by assumption)))
  have q0 : W.cell? ⟨w.heap.size, 0, none⟩ = some (.bool a) := (by rw [hW]; simp [go_sem, ↓IntWalk.iteOmega, *])
  have q1 : W.cell? ⟨w.heap.size, 1, none⟩ = some (.bool b) := (by rw [hW]; simp [go_sem, ↓IntWalk.iteOmega, *])
  have q2 : W.cell? ⟨w.heap.size, 2, none⟩ = some (.bool c) := (by rw [hW]; simp [go_sem, ↓IntWalk.iteOmega, *])
  have q3 : W.cell? ⟨w.heap.size + 1, 0, none⟩ = some (.bool a') := (by rw [hW]; simp [go_sem, ↓IntWalk.iteOmega, *])
  have q4 : W.cell? ⟨w.heap.size + 1, 1, none⟩ = some (.bool b') := (by rw [hW]; simp [go_sem, ↓IntWalk.iteOmega, *])
  have q5 : W.cell? ⟨w.heap.size + 1, 2, none⟩ = some (.bool c') := (by rw [hW]; simp [go_sem, ↓IntWalk.iteOmega, *])
  have q6 : W.cell? ⟨w1.heap.size, 0, none⟩ = some (.int .i64 k) := (by rw [hW]; simp [go_sem, ↓IntWalk.iteOmega, *])
  have q7 : W.cell? ⟨w1.heap.size, 1, none⟩ = some (.bool true) := (by rw [hW]; simp [go_sem, ↓IntWalk.iteOmega, *])
  have q8 : W.cell? ⟨w1.heap.size, 2, none⟩ = some (.bool false) := (by rw [hW]; simp [go_sem, ↓IntWalk.iteOmega, *])
  have q9 : W.cell? ⟨w1.heap.size + 1, 0, none⟩ = some (.int .i64 k) := (by rw [hW]; simp [go_sem, ↓IntWalk.iteOmega, *])
  have q10 : W.cell? ⟨w1.heap.size + 1, 1, none⟩ = some (.bool false) := (by rw [hW]; simp [go_sem, ↓IntWalk.iteOmega, *])
  have q11 : W.cell? ⟨w1.heap.size + 1, 2, none⟩ = some (.bool false) := (by rw [hW]; simp [go_sem, ↓IntWalk.iteOmega, *])
  have qs : w1.heap.size + 2 ≤ W.heap.size := (by rw [hW]; (try simp only [World.size_alloc, World.size_setCell, World.size_drew]); omega)
  clear hW hb hc hf hh
  go_loopw [10, 11] (fun i _ wr => ∃ j : Nat, j ≤ 16 ∧ i = .int .i64 j ∧ Ext W wr) (fun i _ _ => (16 - intOf i).toNat)
  case atStart => exact ⟨0, by omega, rfl, Ext.refl _⟩
  case round =>
    obtain ⟨j, hj, rfl, hb⟩ := hrel
    have ⟨hc, hf, hh, hs⟩ := hb.facts
    by_cases hlt : j < 16
    · have g1 := may_more a b c a' b' c' false (ctlB 1 j) (ctlB 2 j) (ctlB 4 j) (ctlB 8 j) k
      have g2 := may_others a b c false (ctlB 1 j) (ctlB 2 j) k
      cases hA : leastB a b c a' b' c' <;> cases hM : mayB a b c k true false (ctlB 1 j) (ctlB 2 j) (ctlB 4 j) (ctlB 8 j)
      all_goals
        rw [hA, hM] at g1
        cases h4 : ctlB 4 j <;> cases h8 : ctlB 8 j
        all_goals
          rw [h4, h8] at hM g1
          try rw [hM] at g2
          try have G1 := g1 rfl rfl
          try have G2 := g2 rfl
          clear g1 g2
          go_wp2_with (first | (go_at_call 15; refine (ctl6_c _ _ (by omega) (by omega)).mono ?_; rintro e w1 ⟨rfl, hb⟩; have ⟨hc, hf, hh, hs⟩ := hb.facts; try simp only [World.size_alloc, World.size_setCell, World.size_drew] at hs) | (go_at_call 22; refine (rightLeast_c _ _ _ _ _ _ _).mono ?_; rintro e w1 ⟨rfl, hb⟩; have ⟨hc, hf, hh, hs⟩ := hb.facts; try simp only [World.size_alloc, World.size_setCell, World.size_drew] at hs) | (go_at_call 17; refine (may_c _ _ _ _ _ _ _ _ _ _ _).mono ?_; rintro e w1 ⟨rfl, hb⟩; have ⟨hc, hf, hh, hs⟩ := hb.facts; try simp only [World.size_alloc, World.size_setCell, World.size_drew] at hs))
          go_roundw
          case rel => exact ⟨j + 1, by omega, by go_num, (by repeat (first | exact Ext.refl _ | assumption | refine Ext.alloc ?_ _ | refine Ext.drew ?_ | refine Ext.setCell ?_ (by simp) _ | refine Ext.trans ?_ (by assumption)))⟩
          case measure => simp [intOf]; omega
    · obtain rfl : j = 16 := by omega
      go_wp2
      go_ret
      exact ⟨rfl, hx.trans hb⟩

theorem rightUsers_walk (W : World) (args : List Value) (h : ArgsAre W [.row [.bool, .bool, .bool], .row [.bool, .bool, .bool], .int .i64] args) :
    Calls Try.prog 8 args.toArray W fun e w' => e = .returned (.bool true) ∧ Ext W w' := by
  obtain ⟨_, _, rfl, ⟨cs, rfl, hl, h1⟩, _, _, rfl, ⟨cs', rfl, hl', h2⟩, _, _, rfl, ⟨y, h3, _⟩, rfl⟩ := h
  obtain ⟨a, b, c, rfl⟩ := len3 hl
  obtain ⟨a', b', c', rfl⟩ := len3 hl'
  simp only [Dsc.IsAll, Dsc.Is, Dsc.size, List.take_succ_cons, List.take_zero, List.drop_succ_cons, List.drop_zero, List.cons.injEq, and_true] at h1 h2 h3
  obtain ⟨⟨a, rfl⟩, ⟨b, rfl⟩, ⟨c, rfl⟩⟩ := h1
  obtain ⟨⟨a', rfl⟩, ⟨b', rfl⟩, ⟨c', rfl⟩⟩ := h2
  subst h3
  exact rightUsers_c a b c a' b' c' y W

theorem rightUsersDscs : okParams Try.prog [.row [.bool, .bool, .bool], .row [.bool, .bool, .bool], .int .i64] Try.f8.params.toList = true := by kernel_rfl
set_option maxRecDepth 100000 in
theorem rightUsers_lifted (os : Os) (started : os.Started) (H : Type) (enc : TypeId × Value → H) :
    ReturnsInHanded {} Try.checked os 8 .any (Rows.rightUsersSpec.pre6 enc Try.prog Try.f8 Rows.rightUsersRow.domain false) (Rows.rightUsersSpec.post enc Try.prog Try.f8 false true false false) :=
  law_lift (C := Try.checked) [.row [.bool, .bool, .bool], .row [.bool, .bool, .bool], .int .i64] (by kernel_rfl) started (by kernel_rfl) Try.func8
    (ChangeSpec.witness6 (enc := enc) (C := Try.checked) false ⟨#[], #[.agg #[.bool false, .bool false, .bool false], .agg #[.bool false, .bool false, .bool false], .int .i64 0], []⟩ 8 (by kernel_rfl) (by kernel_rfl) (by kernel_rfl) (by kernel_rfl))
    (by kernel_rfl) rightUsersDscs rfl Try.underlying4 rfl (fun ds h => by
      first
        | (obtain ⟨a, rfl⟩ := len1 h; rfl)
        | (obtain ⟨a, b, rfl⟩ := len2 h; rfl)
        | (obtain ⟨a, b, c, rfl⟩ := len3 h; rfl)
        | (obtain ⟨a, b, c, d, rfl⟩ := len4 h; rfl)) rightUsers_walk
theorem rightUsers_holds : Rows.RightUsersSaid :=
  OpenClaim.holds_of_wide 8 Try.f8 rfl rfl rfl rfl rfl rfl rfl ⟨rfl, rfl, rfl, rfl, rfl⟩ rfl rfl rfl rfl rfl (by kernel_rfl) Try.func8 (by kernel_rfl)
    (of_decide_eq_true (by kernel_rfl)) (by unfold Func.isWrapper; first | (rw [if_pos (by decide +kernel)]; kernel_rfl) | (rw [if_neg (by decide +kernel)]; exact ⟨rfl, rfl⟩))
    (fun os started H enc _ => rightUsers_lifted os started H enc)
#print axioms rightUsers_holds
end Go.Proofs.Ytcgcmkoeigkiiaa
