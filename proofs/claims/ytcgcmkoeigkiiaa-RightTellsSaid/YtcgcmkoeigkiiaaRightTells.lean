/- RightTells: what is left of any right behind any word, whether any access may be, and which right is less: as the document says, for any two rights, any word and any access. -/
import Derived.Test.YtcgcmkoeigkiiaaRightA
import Derived.Test.YtcgcmkoeigkiiaaBits
import Derived.Test.YtcgcmkoeigkiiaaRow
namespace Go.Proofs.Ytcgcmkoeigkiiaa
set_option linter.unusedVariables false
set_option linter.unusedSimpArgs false
open Go.RowKit
attribute [local go_sem] wext_cell wext_frozen wext_heap alloc_cell alloc_frozen alloc_heap setCell_cell objCell_cells objFrozen_cells

set_option maxHeartbeats 6400000 in
theorem rightTells_c (a b c a' b' c' : Bool) (x : Int) (k : Int) (user ac : Bool) (w : World) (hx0 : 0 ≤ x) (hx1 : x ≤ 18446744073709551615) :
    Calls Try.prog 6 #[.agg #[.bool a, .bool b, .bool c, .bool a', .bool b', .bool c'], .int .u64 x, .agg #[.int .i64 k, .bool user, .bool ac]] w fun e w' => e = .returned (.bool true) ∧ Ext w w' := by
  have b1 := bw_bit hx0 hx1
  have b2 := bu_bit hx0 hx1
  have b3 := bx_bit hx0 hx1
  have hand := fun a b c w => rightAnd_c a b c x w
  rw [b1, b2, b3] at hand
  have HAND := Lib.hid hand
  clear hand b1 b2 b3
  go_enter Try.func6, Try.ntmps6
  go_wp2_with (first | (go_at_call 13; refine (awake6_c _).mono ?_; rintro e w1 ⟨rfl, hb⟩; have ⟨hc, hf, hh, hs⟩ := hb.facts; try simp only [World.size_alloc, World.size_setCell, World.size_drew] at hs))
  refine wp_gen ?_
  intro W hW
  have hx : Ext w W := by rw [hW]; exact (by repeat (first | exact Ext.refl _ | assumption | refine Ext.alloc ?_ _ | refine Ext.drew ?_ | refine Ext.setCell ?_ (by simp) _ | refine Ext.trans ?_ (by assumption)))
  have q0 : W.cell? ⟨w.heap.size + 1, 0, none⟩ = some (.int .i64 k) := (by rw [hW]; simp [go_sem, ↓IntWalk.iteOmega, *])
  have q1 : W.cell? ⟨w.heap.size + 1, 1, none⟩ = some (.bool user) := (by rw [hW]; simp [go_sem, ↓IntWalk.iteOmega, *])
  have q2 : W.cell? ⟨w.heap.size + 1, 2, none⟩ = some (.bool ac) := (by rw [hW]; simp [go_sem, ↓IntWalk.iteOmega, *])
  have q6 : W.cell? ⟨w1.heap.size, 0, none⟩ = some (.bool a) := (by rw [hW]; simp [go_sem, ↓IntWalk.iteOmega, *])
  have q7 : W.cell? ⟨w1.heap.size, 1, none⟩ = some (.bool b) := (by rw [hW]; simp [go_sem, ↓IntWalk.iteOmega, *])
  have q8 : W.cell? ⟨w1.heap.size, 2, none⟩ = some (.bool c) := (by rw [hW]; simp [go_sem, ↓IntWalk.iteOmega, *])
  have q9 : W.cell? ⟨w1.heap.size + 1, 0, none⟩ = some (.bool a') := (by rw [hW]; simp [go_sem, ↓IntWalk.iteOmega, *])
  have q10 : W.cell? ⟨w1.heap.size + 1, 1, none⟩ = some (.bool b') := (by rw [hW]; simp [go_sem, ↓IntWalk.iteOmega, *])
  have q11 : W.cell? ⟨w1.heap.size + 1, 2, none⟩ = some (.bool c') := (by rw [hW]; simp [go_sem, ↓IntWalk.iteOmega, *])
  have qs : w1.heap.size + 2 ≤ W.heap.size := (by rw [hW]; (try simp only [World.size_alloc, World.size_setCell, World.size_drew]); omega)
  clear hW hb hc hf hh
  go_loopw [10, 11] (fun i _ wr => ∃ j : Nat, j ≤ 16 ∧ i = .int .i64 j ∧ Ext W wr) (fun i _ _ => (16 - intOf i).toNat)
  case atStart => exact ⟨0, by omega, rfl, Ext.refl _⟩
  case round =>
    obtain ⟨j, hj, rfl, hb⟩ := hrel
    have ⟨hc, hf, hh, hs⟩ := hb.facts
    by_cases hlt : j < 16
    · go_upto_region 8 with (first | (go_at_call 15; refine (ctl6_c _ _ (by omega) (by omega)).mono ?_; rintro e w1 ⟨rfl, hb⟩; have ⟨hc, hf, hh, hs⟩ := hb.facts; try simp only [World.size_alloc, World.size_setCell, World.size_drew] at hs))
      refine region_ext (by kernel_rfl) (by kernel_rfl) ?_; (repeat (go_big_quiet_step (first | (go_at_call 17; exact calls_wext (may_c _ _ _ _ _ _ _ _ _ _ _)) | (go_at_call 19; exact calls_wext (refMay_c _ _ _ _ _ _ _ _ _ _ _))))); refine wpQuiet_nil ?_; intro w1 hb; have ⟨hc, hf, hh, hs⟩ := hb.facts; try simp only [World.size_alloc, World.size_setCell, World.size_drew] at hs
      go_wp2
      go_roundw
      case rel => exact ⟨j + 1, by omega, by go_num, (by repeat (first | exact Ext.refl _ | assumption | refine Ext.alloc ?_ _ | refine Ext.drew ?_ | refine Ext.setCell ?_ (by simp) _ | refine Ext.trans ?_ (by assumption)))⟩
      case measure => simp [intOf]; omega
    · obtain rfl : j = 16 := by omega
      go_upto_region 10 with (fail)
      refine region_ext (by kernel_rfl) (by kernel_rfl) ?_; (repeat (go_big_quiet_step (first | (go_at_call 22; exact calls_wext (rightLeast_c _ _ _ _ _ _ _)) | (go_at_call 23; exact calls_wext (refLeast_c _ _ _ _ _ _ _)) | (go_at_call 21; exact calls_wext (refAnd_c _ _ _ _ _ hx0 hx1)) | (go_at_call 20; exact calls_wext (HAND.out _ _ _ _)) | (go_at_call 18; exact calls_wext (rightAll_c _))))); refine wpQuiet_nil ?_; intro w1 hb; have ⟨hc, hf, hh, hs⟩ := hb.facts; try simp only [World.size_alloc, World.size_setCell, World.size_drew] at hs
      go_wp2
      go_ret
      exact ⟨rfl, (by repeat (first | exact Ext.refl _ | assumption | refine Ext.alloc ?_ _ | refine Ext.drew ?_ | refine Ext.setCell ?_ (by simp) _ | refine Ext.trans ?_ (by assumption)))⟩

theorem rightTells_walk (W : World) (args : List Value) (h : ArgsAre W [.row [.row [.bool, .bool, .bool], .row [.bool, .bool, .bool]], .int .u64, .row [.int .i64, .bool, .bool]] args) :
    Calls Try.prog 6 args.toArray W fun e w' => e = .returned (.bool true) ∧ Ext W w' := by
  obtain ⟨_, _, rfl, ⟨cs, rfl, hl, h1⟩, _, _, rfl, ⟨x, h2, hx⟩, _, _, rfl, ⟨cs', rfl, hl', h3⟩, rfl⟩ := h
  obtain ⟨a, b, c, a', b', c', rfl⟩ := len6 hl
  obtain ⟨d, e, f, rfl⟩ := len3 hl'
  simp only [Dsc.IsAll, Dsc.Is, Dsc.size, Dsc.sizes, Nat.reduceAdd, Nat.add_zero, List.take_succ_cons, List.take_zero, List.drop_succ_cons, List.drop_zero, List.cons.injEq, and_true] at h1 h2 h3
  obtain ⟨⟨⟨a, rfl⟩, ⟨b, rfl⟩, ⟨c, rfl⟩⟩, ⟨a', rfl⟩, ⟨b', rfl⟩, ⟨c', rfl⟩⟩ := h1
  obtain ⟨⟨d, rfl, _⟩, ⟨e, rfl⟩, ⟨f, rfl⟩⟩ := h3
  subst h2
  have ⟨g0, g1⟩ := u64_of_wf hx
  exact rightTells_c a b c a' b' c' x d e f W g0 g1

theorem rightTellsDscs : okParams Try.prog [.row [.row [.bool, .bool, .bool], .row [.bool, .bool, .bool] ], .int .u64, .row [.int .i64, .bool, .bool] ] Try.f6.params.toList = true := by kernel_rfl
set_option maxRecDepth 100000 in
theorem rightTells_lifted (os : Os) (started : os.Started) (H : Type) (enc : TypeId × Value → H) :
    ReturnsInHanded {} Try.checked os 6 .any (Rows.rightTellsSpec.pre6 enc Try.prog Try.f6 Rows.rightTellsRow.domain false) (Rows.rightTellsSpec.post enc Try.prog Try.f6 false true false false) :=
  law_lift (C := Try.checked) [.row [.row [.bool, .bool, .bool], .row [.bool, .bool, .bool] ], .int .u64, .row [.int .i64, .bool, .bool] ] (by kernel_rfl) started (by kernel_rfl) Try.func6
    (ChangeSpec.witness6 (enc := enc) (C := Try.checked) false ⟨#[], #[.agg #[.bool false, .bool false, .bool false, .bool false, .bool false, .bool false], .int .u64 0, .agg #[.int .i64 0, .bool false, .bool false] ], []⟩ 8 (by kernel_rfl) (by kernel_rfl) (by kernel_rfl) (by kernel_rfl))
    (by kernel_rfl) rightTellsDscs rfl Try.underlying4 rfl (fun ds h => by
      first
        | (obtain ⟨a, rfl⟩ := len1 h; rfl)
        | (obtain ⟨a, b, rfl⟩ := len2 h; rfl)
        | (obtain ⟨a, b, c, rfl⟩ := len3 h; rfl)
        | (obtain ⟨a, b, c, d, rfl⟩ := len4 h; rfl)) rightTells_walk
theorem rightTells_holds : Rows.RightTellsSaid :=
  OpenClaim.holds_of_wide 6 Try.f6 rfl rfl rfl rfl rfl rfl rfl ⟨rfl, rfl, rfl, rfl, rfl⟩ rfl rfl rfl rfl rfl (by kernel_rfl) Try.func6 (by kernel_rfl)
    (of_decide_eq_true (by kernel_rfl)) (by unfold Func.isWrapper; first | (rw [if_pos (by decide +kernel)]; kernel_rfl) | (rw [if_neg (by decide +kernel)]; exact ⟨rfl, rfl⟩))
    (fun os started H enc _ => rightTells_lifted os started H enc)
#print axioms rightTells_holds
end Go.Proofs.Ytcgcmkoeigkiiaa
