/- RightKeeps: of a page without U no user may anything; of one with it others may load just with AC, if SMAP is, and never fetch, if SMEP is; write protection keeps them from what has no W: for any right, any kind, with AC and without. -/
import Derived.Test.YtcgcmkoeigkiiaaRightA
import Derived.Test.YtcgcmkoeigkiiaaRow
namespace Go.Proofs.Ytcgcmkoeigkiiaa
set_option linter.unusedVariables false
set_option linter.unusedSimpArgs false
open Go.RowKit
attribute [local go_sem] wext_cell wext_frozen wext_heap alloc_cell alloc_frozen alloc_heap setCell_cell objCell_cells objFrozen_cells

set_option maxHeartbeats 6400000 in
theorem rightKeeps_c (a b c : Bool) (k : Int) (ac : Bool) (w : World) :
    Calls Try.prog 4 #[.agg #[.bool a, .bool b, .bool c], .int .i64 k, .bool ac] w fun e w' => e = .returned (.bool true) ∧ Ext w w' := by
  go_enter Try.func4, Try.ntmps4
  go_wp2_with (first | (go_at_call 13; refine (awake6_c _).mono ?_; rintro e w1 ⟨rfl, hb⟩; have ⟨hc, hf, hh, hs⟩ := hb.facts; try simp only [World.size_alloc, World.size_setCell, World.size_drew] at hs))
  refine wp_gen ?_
  intro W hW
  have hx : Ext w W := by rw [hW]; exact (by repeat (first | exact Ext.refl _ | assumption | refine Ext.alloc ?_ _ | refine Ext.drew ?_ | refine Ext.setCell ?_ (by simp) _ | refine Ext.trans ?_ (by assumption)))
  have q0 : W.cell? ⟨w1.heap.size, 0, none⟩ = some (.bool a) := (by rw [hW]; simp [go_sem, ↓IntWalk.iteOmega, *])
  have q1 : W.cell? ⟨w1.heap.size, 1, none⟩ = some (.bool false) := (by rw [hW]; simp [go_sem, ↓IntWalk.iteOmega, *])
  have q2 : W.cell? ⟨w1.heap.size, 2, none⟩ = some (.bool c) := (by rw [hW]; simp [go_sem, ↓IntWalk.iteOmega, *])
  have q3 : W.cell? ⟨w1.heap.size + 1, 0, none⟩ = some (.bool a) := (by rw [hW]; simp [go_sem, ↓IntWalk.iteOmega, *])
  have q4 : W.cell? ⟨w1.heap.size + 1, 1, none⟩ = some (.bool true) := (by rw [hW]; simp [go_sem, ↓IntWalk.iteOmega, *])
  have q5 : W.cell? ⟨w1.heap.size + 1, 2, none⟩ = some (.bool c) := (by rw [hW]; simp [go_sem, ↓IntWalk.iteOmega, *])
  have q6 : W.cell? ⟨w1.heap.size + 2, 0, none⟩ = some (.bool false) := (by rw [hW]; simp [go_sem, ↓IntWalk.iteOmega, *])
  have q7 : W.cell? ⟨w1.heap.size + 2, 1, none⟩ = some (.bool b) := (by rw [hW]; simp [go_sem, ↓IntWalk.iteOmega, *])
  have q8 : W.cell? ⟨w1.heap.size + 2, 2, none⟩ = some (.bool c) := (by rw [hW]; simp [go_sem, ↓IntWalk.iteOmega, *])
  have qs : w1.heap.size + 3 ≤ W.heap.size := (by rw [hW]; (try simp only [World.size_alloc, World.size_setCell, World.size_drew]); omega)
  clear hW hb hc hf hh
  go_loopw [11, 12] (fun i _ wr => ∃ j : Nat, j ≤ 16 ∧ i = .int .i64 j ∧ Ext W wr) (fun i _ _ => (16 - intOf i).toNat)
  case atStart => exact ⟨0, by omega, rfl, Ext.refl _⟩
  case round =>
    obtain ⟨j, hj, rfl, hb⟩ := hrel
    have ⟨hc, hf, hh, hs⟩ := hb.facts
    by_cases hlt : j < 16
    · cases h1 : ctlB 1 j <;> cases h4 : ctlB 4 j <;> cases h8 : ctlB 8 j
      all_goals
        have g1 : ∀ wp nxe smep smap, mayB a false c k true ac wp nxe smep smap = false := fun wp nxe smep smap => by simp [mayB, userB]
        have g2 : ∀ wp nxe smep smap, mayB false b c 2 true false wp nxe smep smap = false := fun wp nxe smep smap => by simp [mayB, userB]
        have g3 : ∀ wp nxe smep smap, mayB a true c 1 false ac wp nxe smep smap = (!smap || ac) := fun wp nxe smep smap => by simp [mayB]
        have g4 : ∀ wp nxe smap, mayB a true c 3 false ac wp nxe true smap = false := fun wp nxe smap => by simp [mayB]
        have g5 : ∀ nxe smep smap, mayB false b c 2 false ac true nxe smep smap = false := fun nxe smep smap => by simp [mayB]
        have g6 : ∀ nxe smep smap, mayB a false c 2 false false false nxe smep smap = true := fun nxe smep smap => by simp [mayB]
        go_upto_region 14 with (first | (go_at_call 15; refine (ctl6_c _ _ (by omega) (by omega)).mono ?_; rintro e w1 ⟨rfl, hb⟩; have ⟨hc, hf, hh, hs⟩ := hb.facts; try simp only [World.size_alloc, World.size_setCell, World.size_drew] at hs) | (go_at_call 17; refine (may_c _ _ _ _ _ _ _ _ _ _ _).mono ?_; rintro e w1 ⟨rfl, hb⟩; have ⟨hc, hf, hh, hs⟩ := hb.facts; try simp only [World.size_alloc, World.size_setCell, World.size_drew] at hs))
        refine region_ext (by kernel_rfl) (by kernel_rfl) ?_; (repeat (go_big_quiet_step (first | (go_at_call 17; exact calls_wext (may_c _ _ _ _ _ _ _ _ _ _ _))))); refine wpQuiet_nil ?_; intro w1 hb; have ⟨hc, hf, hh, hs⟩ := hb.facts; try simp only [World.size_alloc, World.size_setCell, World.size_drew] at hs
        go_wp2_with (first | (go_at_call 17; refine (may_c _ _ _ _ _ _ _ _ _ _ _).mono ?_; rintro e w1 ⟨rfl, hb⟩; have ⟨hc, hf, hh, hs⟩ := hb.facts; try simp only [World.size_alloc, World.size_setCell, World.size_drew] at hs))
        go_roundw
        case rel => exact ⟨j + 1, by omega, by go_num, (by repeat (first | exact Ext.refl _ | assumption | refine Ext.alloc ?_ _ | refine Ext.drew ?_ | refine Ext.setCell ?_ (by simp) _ | refine Ext.trans ?_ (by assumption)))⟩
        case measure => simp [intOf]; omega
    · obtain rfl : j = 16 := by omega
      have g0 : ∀ ac wp nxe smep smap, mayB true true true 0 false ac wp nxe smep smap = false := fun ac wp nxe smep smap => by simp [mayB]
      have g4 : ∀ ac wp nxe smep smap, mayB true true true 4 false ac wp nxe smep smap = false := fun ac wp nxe smep smap => by simp [mayB]
      go_wp2_with (first | (go_at_call 17; refine (may_c _ _ _ _ _ _ _ _ _ _ _).mono ?_; rintro e w1 ⟨rfl, hb⟩; have ⟨hc, hf, hh, hs⟩ := hb.facts; try simp only [World.size_alloc, World.size_setCell, World.size_drew] at hs) | (go_at_call 18; refine (rightAll_c _).mono ?_; rintro e w1 ⟨rfl, hb⟩; have ⟨hc, hf, hh, hs⟩ := hb.facts; try simp only [World.size_alloc, World.size_setCell, World.size_drew] at hs))
      go_ret
      exact ⟨rfl, (by repeat (first | exact Ext.refl _ | assumption | refine Ext.alloc ?_ _ | refine Ext.drew ?_ | refine Ext.setCell ?_ (by simp) _ | refine Ext.trans ?_ (by assumption)))⟩

theorem rightKeeps_walk (W : World) (args : List Value) (h : ArgsAre W [.row [.bool, .bool, .bool], .int .i64, .bool] args) :
    Calls Try.prog 4 args.toArray W fun e w' => e = .returned (.bool true) ∧ Ext W w' := by
  obtain ⟨_, _, rfl, ⟨cs, rfl, hl, h1⟩, _, _, rfl, ⟨x, h2, _⟩, _, _, rfl, ⟨y, h3⟩, rfl⟩ := h
  obtain ⟨a, b, c, rfl⟩ := len3 hl
  simp only [Dsc.IsAll, Dsc.Is, Dsc.size, List.take_succ_cons, List.take_zero, List.drop_succ_cons, List.drop_zero, List.cons.injEq, and_true] at h1 h2 h3
  obtain ⟨⟨a, rfl⟩, ⟨b, rfl⟩, ⟨c, rfl⟩⟩ := h1
  subst h2 h3
  exact rightKeeps_c a b c x y W

theorem rightKeepsDscs : okParams Try.prog [.row [.bool, .bool, .bool], .int .i64, .bool] Try.f4.params.toList = true := by kernel_rfl
set_option maxRecDepth 100000 in
theorem rightKeeps_lifted (os : Os) (started : os.Started) (H : Type) (enc : TypeId × Value → H) :
    ReturnsInHanded {} Try.checked os 4 .any (Rows.rightKeepsSpec.pre6 enc Try.prog Try.f4 Rows.rightKeepsRow.domain false) (Rows.rightKeepsSpec.post enc Try.prog Try.f4 false true false false) :=
  law_lift (C := Try.checked) [.row [.bool, .bool, .bool], .int .i64, .bool] (by kernel_rfl) started (by kernel_rfl) Try.func4
    (ChangeSpec.witness6 (enc := enc) (C := Try.checked) false ⟨#[], #[.agg #[.bool false, .bool false, .bool false], .int .i64 0, .bool false], []⟩ 8 (by kernel_rfl) (by kernel_rfl) (by kernel_rfl) (by kernel_rfl))
    (by kernel_rfl) rightKeepsDscs rfl Try.underlying4 rfl (fun ds h => by
      first
        | (obtain ⟨a, rfl⟩ := len1 h; rfl)
        | (obtain ⟨a, b, rfl⟩ := len2 h; rfl)
        | (obtain ⟨a, b, c, rfl⟩ := len3 h; rfl)
        | (obtain ⟨a, b, c, d, rfl⟩ := len4 h; rfl)) rightKeeps_walk
theorem rightKeeps_holds : Rows.RightKeepsSaid :=
  OpenClaim.holds_of_wide 4 Try.f4 rfl rfl rfl rfl rfl rfl rfl ⟨rfl, rfl, rfl, rfl, rfl⟩ rfl rfl rfl rfl rfl (by kernel_rfl) Try.func4 (by kernel_rfl)
    (of_decide_eq_true (by kernel_rfl)) (by unfold Func.isWrapper; first | (rw [if_pos (by decide +kernel)]; kernel_rfl) | (rw [if_neg (by decide +kernel)]; exact ⟨rfl, rfl⟩))
    (fun os started H enc _ => rightKeeps_lifted os started H enc)
#print axioms rightKeeps_holds
end Go.Proofs.Ytcgcmkoeigkiiaa
