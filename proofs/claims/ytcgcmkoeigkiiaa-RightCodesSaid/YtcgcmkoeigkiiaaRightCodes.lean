/- RightCodes: any fault's error code is the document's: for every access, and whatever was present or reserved. -/
import Derived.Test.YtcgcmkoeigkiiaaRightA
import Derived.Test.YtcgcmkoeigkiiaaRow
namespace Go.Proofs.Ytcgcmkoeigkiiaa
set_option linter.unusedVariables false
set_option linter.unusedSimpArgs false
open Go.RowKit
attribute [local go_sem] wext_cell wext_frozen wext_heap alloc_cell alloc_frozen alloc_heap setCell_cell objCell_cells objFrozen_cells

set_option maxHeartbeats 3200000 in
theorem refCode_c (k : Int) (user ac wp nxe smep smap p r : Bool) (w : World) :
    Calls Try.prog 16 #[.agg #[.int .i64 k, .bool user, .bool ac], .agg #[.bool wp, .bool nxe, .bool smep, .bool smap], .bool p, .bool r] w fun e w' =>
      e = .returned (.int .i64 (codeUp p (k == 2) user r (k == 3 && (smep || nxe)) 5)) ∧ Ext w w' := by
  cases p <;> cases user <;> cases r
  all_goals
    go_enter Try.func16, Try.ntmps16
    go_wp2
    all_goals
      go_ret
      exact ⟨by simp_all [codeUp, flag5], (by repeat (first | exact Ext.refl _ | assumption | refine Ext.alloc ?_ _ | refine Ext.drew ?_ | refine Ext.setCell ?_ (by simp) _ | refine Ext.trans ?_ (by assumption)))⟩

set_option maxHeartbeats 3200000 in
theorem rightCodes_c (k : Int) (user ac p r : Bool) (w : World) :
    Calls Try.prog 3 #[.agg #[.int .i64 k, .bool user, .bool ac], .bool p, .bool r] w fun e w' => e = .returned (.bool true) ∧ Ext w w' := by
  go_enter Try.func3, Try.ntmps3
  go_wp2_with (first | (go_at_call 13; refine (awake6_c _).mono ?_; rintro e w1 ⟨rfl, hb⟩; have ⟨hc, hf, hh, hs⟩ := hb.facts; try simp only [World.size_alloc, World.size_setCell, World.size_drew] at hs))
  refine wp_gen ?_
  intro W hW
  have hx : Ext w W := by rw [hW]; exact (by repeat (first | exact Ext.refl _ | assumption | refine Ext.alloc ?_ _ | refine Ext.drew ?_ | refine Ext.setCell ?_ (by simp) _ | refine Ext.trans ?_ (by assumption)))
  have q0 : W.cell? ⟨w.heap.size, 0, none⟩ = some (.int .i64 k) := (by rw [hW]; simp [go_sem, ↓IntWalk.iteOmega, *])
  have q1 : W.cell? ⟨w.heap.size, 1, none⟩ = some (.bool user) := (by rw [hW]; simp [go_sem, ↓IntWalk.iteOmega, *])
  have q2 : W.cell? ⟨w.heap.size, 2, none⟩ = some (.bool ac) := (by rw [hW]; simp [go_sem, ↓IntWalk.iteOmega, *])
  have qs : w.heap.size + 1 ≤ W.heap.size := (by rw [hW]; (try simp only [World.size_alloc, World.size_setCell, World.size_drew]); omega)
  clear hW hb hc hf hh hs
  go_loopw [8] (fun i wr => ∃ j : Nat, j ≤ 16 ∧ i = .int .i64 j ∧ Ext W wr) (fun i _ => (16 - intOf i).toNat)
  case atStart => exact ⟨0, by omega, rfl, Ext.refl _⟩
  case round =>
    obtain ⟨j, hj, rfl, hb⟩ := hrel
    have ⟨hc, hf, hh, hs⟩ := hb.facts
    by_cases hlt : j < 16
    · go_upto_region 5 with (fail)
      refine region_ext (by kernel_rfl) (by kernel_rfl) ?_; (repeat (go_big_quiet_step (first | (go_at_call 15; exact calls_wext (ctl6_c _ _ (by omega) (by omega))) | (go_at_call 14; exact calls_wext (code_c _ _ _ _ _ _ _ _ _ _)) | (go_at_call 16; exact calls_wext (refCode_c _ _ _ _ _ _ _ _ _ _))))); refine wpQuiet_nil ?_; intro w1 hb; have ⟨hc, hf, hh, hs⟩ := hb.facts; try simp only [World.size_alloc, World.size_setCell, World.size_drew] at hs
      go_wp2
      go_roundw
      case rel => exact ⟨j + 1, by omega, by go_num, (by repeat (first | exact Ext.refl _ | assumption | refine Ext.alloc ?_ _ | refine Ext.drew ?_ | refine Ext.setCell ?_ (by simp) _ | refine Ext.trans ?_ (by assumption)))⟩
      case measure => simp [intOf]; omega
    · obtain rfl : j = 16 := by omega
      go_wp2
      go_ret
      exact ⟨rfl, hx.trans hb⟩

theorem rightCodes_walk (W : World) (args : List Value) (h : ArgsAre W [.row [.int .i64, .bool, .bool], .bool, .bool] args) :
    Calls Try.prog 3 args.toArray W fun e w' => e = .returned (.bool true) ∧ Ext W w' := by
  obtain ⟨_, _, rfl, ⟨cs, rfl, hl, h1⟩, _, _, rfl, ⟨x, h2⟩, _, _, rfl, ⟨y, h3⟩, rfl⟩ := h
  obtain ⟨a, b, c, rfl⟩ := len3 hl
  simp only [Dsc.IsAll, Dsc.Is, Dsc.size, List.take_succ_cons, List.take_zero, List.drop_succ_cons, List.drop_zero, List.cons.injEq, and_true] at h1 h2 h3
  obtain ⟨⟨a, rfl, _⟩, ⟨b, rfl⟩, ⟨c, rfl⟩⟩ := h1
  subst h2 h3
  exact rightCodes_c a b c x y W

theorem rightCodesDscs : okParams Try.prog [.row [.int .i64, .bool, .bool], .bool, .bool] Try.f3.params.toList = true := by kernel_rfl
set_option maxRecDepth 100000 in
theorem rightCodes_lifted (os : Os) (started : os.Started) (H : Type) (enc : TypeId × Value → H) :
    ReturnsInHanded {} Try.checked os 3 .any (Rows.rightCodesSpec.pre6 enc Try.prog Try.f3 Rows.rightCodesRow.domain false) (Rows.rightCodesSpec.post enc Try.prog Try.f3 false true false false) :=
  law_lift (C := Try.checked) [.row [.int .i64, .bool, .bool], .bool, .bool] (by kernel_rfl) started (by kernel_rfl) Try.func3
    (ChangeSpec.witness6 (enc := enc) (C := Try.checked) false ⟨#[], #[.agg #[.int .i64 0, .bool false, .bool false], .bool false, .bool false], []⟩ 8 (by kernel_rfl) (by kernel_rfl) (by kernel_rfl) (by kernel_rfl))
    (by kernel_rfl) rightCodesDscs rfl Try.underlying4 rfl (fun ds h => by
      first
        | (obtain ⟨a, rfl⟩ := len1 h; rfl)
        | (obtain ⟨a, b, rfl⟩ := len2 h; rfl)
        | (obtain ⟨a, b, c, rfl⟩ := len3 h; rfl)
        | (obtain ⟨a, b, c, d, rfl⟩ := len4 h; rfl)) rightCodes_walk
theorem rightCodes_holds : Rows.RightCodesSaid :=
  OpenClaim.holds_of_wide 3 Try.f3 rfl rfl rfl rfl rfl rfl rfl ⟨rfl, rfl, rfl, rfl, rfl⟩ rfl rfl rfl rfl rfl (by kernel_rfl) Try.func3 (by kernel_rfl)
    (of_decide_eq_true (by kernel_rfl)) (by unfold Func.isWrapper; first | (rw [if_pos (by decide +kernel)]; kernel_rfl) | (rw [if_neg (by decide +kernel)]; exact ⟨rfl, rfl⟩))
    (fun os started H enc _ => rightCodes_lifted os started H enc)
#print axioms rightCodes_holds
end Go.Proofs.Ytcgcmkoeigkiiaa
