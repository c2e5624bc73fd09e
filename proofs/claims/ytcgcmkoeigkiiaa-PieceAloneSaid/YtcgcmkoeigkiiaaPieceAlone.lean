/- PieceAlone: a piece, cut alone, is itself; the first one of two has what is left of its page: for every address and any number of bytes. -/
import Derived.Test.YtcgcmkoeigkiiaaPieceA
import Derived.Test.YtcgcmkoeigkiiaaRow
namespace Go.Proofs.Ytcgcmkoeigkiiaa
set_option linter.unusedVariables false
set_option linter.unusedSimpArgs false
open Go.RowKit
attribute [local go_sem] wext_cell wext_frozen wext_heap alloc_cell alloc_frozen alloc_heap setCell_cell objCell_cells objFrozen_cells

theorem cutB_first {a n : Int} (h0 : 0 ≤ a) (h : cutB a n = true) (hr : 4096 - a % 4096 < n) : cutB a (4096 - a % 4096) = true ∧ cutB (a + (4096 - a % 4096)) (n - (4096 - a % 4096)) = true := by
  obtain ⟨g1, g2, g3, g4, g5⟩ := cutB_true h
  rw [canonB_true] at g3 g5
  have e1 : canonB (a + (4096 - a % 4096) - 1) = true := by rw [canonB_true]; omega
  have e2 : canonB (a + (4096 - a % 4096)) = true := by rw [canonB_true]; omega
  have e3 : canonB (a + (4096 - a % 4096) + (n - (4096 - a % 4096)) - 1) = true := by rw [canonB_true]; omega
  constructor
  · simp only [cutB, Bool.and_eq_true, decide_eq_true_eq]
    exact ⟨⟨⟨⟨by omega, by omega⟩, by rw [canonB_true]; exact g3⟩, by omega⟩, e1⟩
  · simp only [cutB, Bool.and_eq_true, decide_eq_true_eq]
    exact ⟨⟨⟨⟨by omega, by omega⟩, e2⟩, by omega⟩, e3⟩

set_option maxHeartbeats 3200000 in
theorem pieceAlone_c (a n : Int) (w : World) (h0 : 0 ≤ a) (h1 : a ≤ 18446744073709551615) (n0 : 0 ≤ n) (n1 : n ≤ 255) :
    Calls Try.prog 12 #[.int .u64 a, .int .u8 n] w fun e w' => e = .returned (.bool true) ∧ Ext w w' := by
  cases hC : cutB a (1 + n % 8)
  case false =>
    go_enter Try.func12, Try.ntmps12
    go_wp2_with (first | (go_at_call 24; refine (awake17_c _).mono ?_; rintro e w1 ⟨rfl, hb⟩; have ⟨hc, hf, hh, hs⟩ := hb.facts; try simp only [World.size_alloc, World.size_setCell, World.size_drew] at hs) | (go_at_call 30; refine (cut_bad _ _ _ h0 h1 (by omega) (by omega) hC).mono ?_; rintro e w4 ⟨v, s, rfl, g, rfl, g1, g2, g3, hb4⟩))
    go_ret
    exact ⟨rfl, (by repeat (first | exact Ext.refl _ | assumption | refine Ext.alloc ?_ _ | refine Ext.drew ?_ | refine Ext.setCell ?_ (by simp) _ | refine Ext.trans ?_ (by assumption)))⟩
  case true =>
    by_cases hr : 1 + n % 8 ≤ 4096 - a % 4096
    · go_enter Try.func12, Try.ntmps12
      go_wp2_with (first | (go_at_call 24; refine (awake17_c _).mono ?_; rintro e w1 ⟨rfl, hb⟩; have ⟨hc, hf, hh, hs⟩ := hb.facts; try simp only [World.size_alloc, World.size_setCell, World.size_drew] at hs) | (go_at_call 30; refine (cut_one _ _ _ h0 hC hr).mono ?_; rintro e w4 ⟨g, rfl, g1, g2, c0, c1, hb4⟩))
      go_loopw [9, 10, 11] (fun i _ _ wr => (i = .int .i64 0 ∨ i = .int .i64 1) ∧ Ext w4 wr) (fun i _ _ _ => (1 - intOf i).toNat)
      case atStart => exact ⟨.inl rfl, Ext.refl _⟩
      case round =>
        obtain ⟨hi, hb5⟩ := hrel
        have ⟨hc, hf, hh, hs⟩ := hb5.facts
        rcases hi with rfl | rfl
        · go_upto_region 9 with (fail)
          refine region_loud 10 (by kernel_rfl) (by kernel_rfl) ?_; simp only [List.take_succ_cons, List.take_zero, List.drop_succ_cons, List.drop_zero]; (repeat (go_big_quiet_step (fail))); refine wpQuiet_nil ?_; intro w1 hb; have ⟨hc, hf, hh, hs⟩ := hb.facts; try simp only [World.size_alloc, World.size_setCell, World.size_drew] at hs
          go_wp2_with (first | (go_at_call 30; refine (cut_one _ _ _ h0 hC hr).mono ?_; rintro e w6 ⟨k, rfl, k1, k2, d0, d1, hb6⟩; have ⟨hc, hf, hh, hs⟩ := hb6.facts))
          (repeat (go_big_quiet_step (fail))); refine wpQuiet_nil ?_; intro w3 hb3; have ⟨hc, hf, hh, hs⟩ := hb3.facts; try simp only [World.size_alloc, World.size_setCell, World.size_drew] at hs
          go_upto_region 10 with (fail)
          refine region_ext (by kernel_rfl) (by kernel_rfl) ?_; (repeat (go_big_quiet_step (fail))); refine wpQuiet_nil ?_; intro w1 hb; have ⟨hc, hf, hh, hs⟩ := hb.facts; try simp only [World.size_alloc, World.size_setCell, World.size_drew] at hs
          go_wp2
          go_roundw
          case rel => exact ⟨.inr rfl, (by repeat (first | exact Ext.refl _ | assumption | refine Ext.alloc ?_ _ | refine Ext.drew ?_ | refine Ext.setCell ?_ (by simp) _ | refine Ext.trans ?_ (by assumption)))⟩
          case measure => simp [intOf]
        · go_wp2
          go_ret
          exact ⟨by simp, (by repeat (first | exact Ext.refl _ | assumption | refine Ext.alloc ?_ _ | refine Ext.drew ?_ | refine Ext.setCell ?_ (by simp) _ | refine Ext.trans ?_ (by assumption)))⟩
    · have hr' : 4096 - a % 4096 < 1 + n % 8 := by omega
      have ⟨hA, hB⟩ := cutB_first h0 hC hr'
      have x1 : 4096 - a % 4096 ≤ 4096 - a % 4096 := Int.le_refl _
      have x2 : 1 + n % 8 - (4096 - a % 4096) ≤ 4096 - (a + (4096 - a % 4096)) % 4096 := by omega
      have x3 : 0 ≤ a + (4096 - a % 4096) := by omega
      go_enter Try.func12, Try.ntmps12
      go_wp2_with (first | (go_at_call 24; refine (awake17_c _).mono ?_; rintro e w1 ⟨rfl, hb⟩; have ⟨hc, hf, hh, hs⟩ := hb.facts; try simp only [World.size_alloc, World.size_setCell, World.size_drew] at hs) | (go_at_call 30; refine (cut_two _ _ _ h0 hC hr').mono ?_; rintro e w4 ⟨g, rfl, g1, g2, c0, c1, c2, c3, hb4⟩))
      go_loopw [9, 10, 11] (fun i _ _ wr => (i = .int .i64 0 ∨ i = .int .i64 1 ∨ i = .int .i64 2) ∧ Ext w4 wr) (fun i _ _ _ => (2 - intOf i).toNat)
      case atStart => exact ⟨.inl rfl, Ext.refl _⟩
      case round =>
        obtain ⟨hi, hb5⟩ := hrel
        have ⟨hc, hf, hh, hs⟩ := hb5.facts
        rcases hi with rfl | rfl | rfl
        · go_upto_region 9 with (fail)
          refine region_loud 10 (by kernel_rfl) (by kernel_rfl) ?_; simp only [List.take_succ_cons, List.take_zero, List.drop_succ_cons, List.drop_zero]; (repeat (go_big_quiet_step (fail))); refine wpQuiet_nil ?_; intro w1 hb; have ⟨hc, hf, hh, hs⟩ := hb.facts; try simp only [World.size_alloc, World.size_setCell, World.size_drew] at hs
          go_wp2_with (first | (go_at_call 30; refine (cut_one _ _ _ h0 hA x1).mono ?_; rintro e w6 ⟨k, rfl, k1, k2, d0, d1, hb6⟩; have ⟨hc, hf, hh, hs⟩ := hb6.facts))
          (repeat (go_big_quiet_step (fail))); refine wpQuiet_nil ?_; intro w3 hb3; have ⟨hc, hf, hh, hs⟩ := hb3.facts; try simp only [World.size_alloc, World.size_setCell, World.size_drew] at hs
          go_upto_region 10 with (fail)
          refine region_ext (by kernel_rfl) (by kernel_rfl) ?_; (repeat (go_big_quiet_step (fail))); refine wpQuiet_nil ?_; intro w1 hb; have ⟨hc, hf, hh, hs⟩ := hb.facts; try simp only [World.size_alloc, World.size_setCell, World.size_drew] at hs
          go_wp2
          go_roundw
          case rel => exact ⟨.inr (.inl rfl), (by repeat (first | exact Ext.refl _ | assumption | refine Ext.alloc ?_ _ | refine Ext.drew ?_ | refine Ext.setCell ?_ (by simp) _ | refine Ext.trans ?_ (by assumption)))⟩
          case measure => simp [intOf]
        · go_upto_region 9 with (fail)
          refine region_loud 10 (by kernel_rfl) (by kernel_rfl) ?_; simp only [List.take_succ_cons, List.take_zero, List.drop_succ_cons, List.drop_zero]; (repeat (go_big_quiet_step (fail))); refine wpQuiet_nil ?_; intro w1 hb; have ⟨hc, hf, hh, hs⟩ := hb.facts; try simp only [World.size_alloc, World.size_setCell, World.size_drew] at hs
          go_wp2_with (first | (go_at_call 30; refine (cut_one _ _ _ x3 hB x2).mono ?_; rintro e w6 ⟨k, rfl, k1, k2, d0, d1, hb6⟩; have ⟨hc, hf, hh, hs⟩ := hb6.facts))
          (repeat (go_big_quiet_step (fail))); refine wpQuiet_nil ?_; intro w3 hb3; have ⟨hc, hf, hh, hs⟩ := hb3.facts; try simp only [World.size_alloc, World.size_setCell, World.size_drew] at hs
          go_upto_region 10 with (fail)
          refine region_ext (by kernel_rfl) (by kernel_rfl) ?_; (repeat (go_big_quiet_step (fail))); refine wpQuiet_nil ?_; intro w1 hb; have ⟨hc, hf, hh, hs⟩ := hb.facts; try simp only [World.size_alloc, World.size_setCell, World.size_drew] at hs
          go_wp2
          go_roundw
          case rel => exact ⟨.inr (.inr rfl), (by repeat (first | exact Ext.refl _ | assumption | refine Ext.alloc ?_ _ | refine Ext.drew ?_ | refine Ext.setCell ?_ (by simp) _ | refine Ext.trans ?_ (by assumption)))⟩
          case measure => simp [intOf]
        · go_wp2
          go_ret
          exact ⟨by simp, (by repeat (first | exact Ext.refl _ | assumption | refine Ext.alloc ?_ _ | refine Ext.drew ?_ | refine Ext.setCell ?_ (by simp) _ | refine Ext.trans ?_ (by assumption)))⟩

theorem pieceAlone_walk (W : World) (args : List Value) (h : ArgsAre W [.int .u64, .int .u8] args) :
    Calls Try.prog 12 args.toArray W fun e w' => e = .returned (.bool true) ∧ Ext W w' := by
  obtain ⟨_, _, rfl, ⟨a, h2, ha⟩, _, _, rfl, ⟨n, h3, hn⟩, rfl⟩ := h
  simp only [List.cons.injEq, and_true] at h2 h3
  subst h2 h3
  have ⟨i0, i1⟩ := bounds_u64 ha
  have ⟨a0, a1⟩ := bounds_u8 hn
  exact pieceAlone_c a n W i0 i1 a0 a1

theorem pieceAloneDscs : okParams Try.prog [.int .u64, .int .u8] Try.f12.params.toList = true := by kernel_rfl
set_option maxRecDepth 100000 in
theorem pieceAlone_lifted (os : Os) (started : os.Started) (H : Type) (enc : TypeId × Value → H) :
    ReturnsInHanded {} Try.checked os 12 .any (Rows.pieceAloneSpec.pre6 enc Try.prog Try.f12 Rows.pieceAloneRow.domain false) (Rows.pieceAloneSpec.post enc Try.prog Try.f12 false true false false) :=
  law_lift (C := Try.checked) [.int .u64, .int .u8] (by kernel_rfl) started (by kernel_rfl) Try.func12
    (ChangeSpec.witness6 (enc := enc) (C := Try.checked) false ⟨#[], #[.int .u64 0, .int .u8 0], []⟩ 8 (by kernel_rfl) (by kernel_rfl) (by kernel_rfl) (by kernel_rfl))
    (by kernel_rfl) pieceAloneDscs rfl Try.underlying4 rfl (fun ds h => by
      first
        | (obtain ⟨a, rfl⟩ := len1 h; rfl)
        | (obtain ⟨a, b, rfl⟩ := len2 h; rfl)
        | (obtain ⟨a, b, c, rfl⟩ := len3 h; rfl)
        | (obtain ⟨a, b, c, d, rfl⟩ := len4 h; rfl)) pieceAlone_walk
theorem pieceAlone_holds : Rows.PieceAloneSaid :=
  OpenClaim.holds_of_wide 12 Try.f12 rfl rfl rfl rfl rfl rfl rfl ⟨rfl, rfl, rfl, rfl, rfl⟩ rfl rfl rfl rfl rfl (by kernel_rfl) Try.func12 (by kernel_rfl)
    (of_decide_eq_true (by kernel_rfl)) (by unfold Func.isWrapper; first | (rw [if_pos (by decide +kernel)]; kernel_rfl) | (rw [if_neg (by decide +kernel)]; exact ⟨rfl, rfl⟩))
    (fun os started H enc _ => pieceAlone_lifted os started H enc)
#print axioms pieceAlone_holds
end Go.Proofs.Ytcgcmkoeigkiiaa
