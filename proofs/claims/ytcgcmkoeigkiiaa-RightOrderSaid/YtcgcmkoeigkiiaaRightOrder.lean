/- RightOrder: entries may be laid one over the other in any order, and twice; nothing gets more by one: for every right and any two words. -/
import Derived.Test.YtcgcmkoeigkiiaaRightA
import Derived.Test.YtcgcmkoeigkiiaaRow
namespace Go.Proofs.Ytcgcmkoeigkiiaa
set_option linter.unusedVariables false
set_option linter.unusedSimpArgs false
open Go.RowKit
attribute [local go_sem] wext_cell wext_frozen wext_heap alloc_cell alloc_frozen alloc_heap setCell_cell objCell_cells objFrozen_cells


set_option maxHeartbeats 3200000 in
theorem rightOrder_c (a b c : Bool) (x y : Int) (w : World) :
    Calls Try.prog 7 #[.agg #[.bool a, .bool b, .bool c], .int .u64 x, .int .u64 y] w fun e w' => e = .returned (.bool true) ∧ Ext w w' := by
  have e1 : bw 6 = true := by show _ = _; kernel_rfl
  have e2 : bu 6 = true := by show _ = _; kernel_rfl
  have e3 : bx 6 = true := by show _ = _; kernel_rfl
  have p1 : ∀ p q r : Bool, (p && q && r) = (p && r && q) := Bool.and_right_comm
  have p2 : ∀ p q : Bool, (p && q && q) = (p && q) := fun p q => by cases p <;> cases q <;> rfl
  have p3 := leastB_refl
  have p4 := leastB_and
  have p5 := leastB_and2
  have p6 := leastB_all
  go_enter Try.func7, Try.ntmps7
  go_upto_region 3 with (first | (go_at_call 13; refine (awake6_c _).mono ?_; rintro e w1 ⟨rfl, hb⟩; have ⟨hc, hf, hh, hs⟩ := hb.facts; try simp only [World.size_alloc, World.size_setCell, World.size_drew] at hs) | (go_at_call 20; refine (rightAnd_c _ _ _ _ _).mono ?_; rintro e w1 ⟨rfl, hb⟩; have ⟨hc, hf, hh, hs⟩ := hb.facts; try simp only [World.size_alloc, World.size_setCell, World.size_drew] at hs))
  refine region_ext (by kernel_rfl) (by kernel_rfl) ?_; (repeat (go_big_quiet_step (first | (go_at_call 20; exact calls_wext (rightAnd_c _ _ _ _ _)) | (go_at_call 18; exact calls_wext (rightAll_c _)) | (go_at_call 22; exact calls_wext (rightLeast_c _ _ _ _ _ _ _))))); refine wpQuiet_nil ?_; intro w1 hb; have ⟨hc, hf, hh, hs⟩ := hb.facts; try simp only [World.size_alloc, World.size_setCell, World.size_drew] at hs
  go_wp2
  go_ret
  exact ⟨rfl, (by repeat (first | exact Ext.refl _ | assumption | refine Ext.alloc ?_ _ | refine Ext.drew ?_ | refine Ext.setCell ?_ (by simp) _ | refine Ext.trans ?_ (by assumption)))⟩

theorem rightOrder_walk (W : World) (args : List Value) (h : ArgsAre W [.row [.bool, .bool, .bool], .int .u64, .int .u64] args) :
    Calls Try.prog 7 args.toArray W fun e w' => e = .returned (.bool true) ∧ Ext W w' := by
  obtain ⟨_, _, rfl, ⟨cs, rfl, hl, h1⟩, _, _, rfl, ⟨x, h2, _⟩, _, _, rfl, ⟨y, h3, _⟩, rfl⟩ := h
  obtain ⟨a, b, c, rfl⟩ := len3 hl
  simp only [Dsc.IsAll, Dsc.Is, Dsc.size, List.take_succ_cons, List.take_zero, List.drop_succ_cons, List.drop_zero, List.cons.injEq, and_true] at h1 h2 h3
  obtain ⟨⟨a, rfl⟩, ⟨b, rfl⟩, ⟨c, rfl⟩⟩ := h1
  subst h2 h3
  exact rightOrder_c a b c x y W

theorem rightOrderDscs : okParams Try.prog [.row [.bool, .bool, .bool], .int .u64, .int .u64] Try.f7.params.toList = true := by kernel_rfl
set_option maxRecDepth 100000 in
theorem rightOrder_lifted (os : Os) (started : os.Started) (H : Type) (enc : TypeId × Value → H) :
    ReturnsInHanded {} Try.checked os 7 .any (Rows.rightOrderSpec.pre6 enc Try.prog Try.f7 Rows.rightOrderRow.domain false) (Rows.rightOrderSpec.post enc Try.prog Try.f7 false true false false) :=
  law_lift (C := Try.checked) [.row [.bool, .bool, .bool], .int .u64, .int .u64] (by kernel_rfl) started (by kernel_rfl) Try.func7
    (ChangeSpec.witness6 (enc := enc) (C := Try.checked) false ⟨#[], #[.agg #[.bool false, .bool false, .bool false], .int .u64 0, .int .u64 0], []⟩ 8 (by kernel_rfl) (by kernel_rfl) (by kernel_rfl) (by kernel_rfl))
    (by kernel_rfl) rightOrderDscs rfl Try.underlying4 rfl (fun ds h => by
      first
        | (obtain ⟨a, rfl⟩ := len1 h; rfl)
        | (obtain ⟨a, b, rfl⟩ := len2 h; rfl)
        | (obtain ⟨a, b, c, rfl⟩ := len3 h; rfl)
        | (obtain ⟨a, b, c, d, rfl⟩ := len4 h; rfl)) rightOrder_walk
theorem rightOrder_holds : Rows.RightOrderSaid :=
  OpenClaim.holds_of_wide 7 Try.f7 rfl rfl rfl rfl rfl rfl rfl ⟨rfl, rfl, rfl, rfl, rfl⟩ rfl rfl rfl rfl rfl (by kernel_rfl) Try.func7 (by kernel_rfl)
    (of_decide_eq_true (by kernel_rfl)) (by unfold Func.isWrapper; first | (rw [if_pos (by decide +kernel)]; kernel_rfl) | (rw [if_neg (by decide +kernel)]; exact ⟨rfl, rfl⟩))
    (fun os started H enc _ => rightOrder_lifted os started H enc)
#print axioms rightOrder_holds
end Go.Proofs.Ytcgcmkoeigkiiaa
