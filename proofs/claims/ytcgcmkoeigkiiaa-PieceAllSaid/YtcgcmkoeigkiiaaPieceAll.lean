/- PieceAll: pieces stand one behind the other, are all that was cut, each with a byte at least, and each lies on one page; what is not cut is not canonical or runs over: for every address and any number of bytes. -/
import Derived.Test.YtcgcmkoeigkiiaaPieceA
import Derived.Test.YtcgcmkoeigkiiaaRef3
import Derived.Test.YtcgcmkoeigkiiaaRow
namespace Go.Proofs.Ytcgcmkoeigkiiaa
set_option linter.unusedVariables false
set_option linter.unusedSimpArgs false
open Go.RowKit
attribute [local go_sem] wext_cell wext_frozen wext_heap alloc_cell alloc_frozen alloc_heap setCell_cell objCell_cells objFrozen_cells

set_option maxRecDepth 100000 in
set_option maxHeartbeats 3200000 in
theorem pieceAll_c (a n : Int) (w : World) (h0 : 0 ≤ a) (h1 : a ≤ 18446744073709551615) (n0 : 0 ≤ n) (n1 : n ≤ 255) :
    Calls Try.prog 10 #[.int .u64 a, .int .u8 n] w fun e w' => e = .returned (.bool true) ∧ Ext w w' := by
  cases hC : cutB a (1 + n % 8)
  case false =>
    have hl : ∃ L, IntKind.u64.wrap (IntKind.u64.wrap (a + (1 + n % 8)) - 1) = L ∧ 0 ≤ L ∧ L ≤ 18446744073709551615 ∧ (canonB a = false ∨ (canonB a = true ∧ (canonB L = false ∨ (canonB L = true ∧ L < a)))) := by
      refine ⟨_, rfl, by simp only [IntKind.wrap_u64]; omega, by simp only [IntKind.wrap_u64]; omega, ?_⟩
      cases ha : canonB a
      · exact .inl rfl
      · refine .inr ⟨rfl, ?_⟩
        cases hb : canonB (IntKind.u64.wrap (IntKind.u64.wrap (a + (1 + n % 8)) - 1))
        · exact .inl rfl
        · refine .inr ⟨rfl, ?_⟩
          by_cases hov : a + (1 + n % 8) ≤ 18446744073709551616
          · exfalso
            rw [show IntKind.u64.wrap (IntKind.u64.wrap (a + (1 + n % 8)) - 1) = a + (1 + n % 8) - 1 by simp only [IntKind.wrap_u64]; omega] at hb
            have : cutB a (1 + n % 8) = true := by
              simp only [cutB, Bool.and_eq_true, decide_eq_true_eq]
              exact ⟨⟨⟨⟨by omega, by omega⟩, ha⟩, hov⟩, hb⟩
            rw [this] at hC; cases hC
          · simp only [IntKind.wrap_u64]; omega
    obtain ⟨L, hL, l0, l1, hl⟩ := hl
    rcases hl with hl | ⟨hl, hl2 | ⟨hl2, hl3⟩⟩
    all_goals
      go_enter Try.func10, Try.ntmps10
      go_wp2_with (first | (go_at_call 24; refine (awake17_c _).mono ?_; rintro e w1 ⟨rfl, hb⟩; have ⟨hc, hf, hh, hs⟩ := hb.facts; try simp only [World.size_alloc, World.size_setCell, World.size_drew] at hs) | (go_at_call 30; refine (cut_bad _ _ _ h0 h1 (by omega) (by omega) hC).mono ?_; rintro e w4 ⟨v, s, rfl, g, rfl, g1, g2, g3, hb4⟩) | (go_at_call 31; refine (refCanon_c _ _ (by omega) (by omega)).mono ?_; rintro e w5 ⟨rfl, hb5⟩))
      go_ret
      exact ⟨rfl, (by repeat (first | exact Ext.refl _ | assumption | refine Ext.alloc ?_ _ | refine Ext.drew ?_ | refine Ext.setCell ?_ (by simp) _ | refine Ext.trans ?_ (by assumption)))⟩
  case true =>
    obtain ⟨c1, c2, c3, c4, c5⟩ := cutB_true hC
    clear c5 c3
    by_cases hr : 1 + n % 8 ≤ 4096 - a % 4096
    · go_enter Try.func10, Try.ntmps10
      go_wp2_with (first | (go_at_call 24; refine (awake17_c _).mono ?_; rintro e w1 ⟨rfl, hb⟩; have ⟨hc, hf, hh, hs⟩ := hb.facts; try simp only [World.size_alloc, World.size_setCell, World.size_drew] at hs) | (go_at_call 30; refine (cut_one _ _ _ h0 hC hr).mono ?_; rintro e w4 ⟨g, rfl, g1, g2, d0, d1, hb4⟩))
      go_loopw [9, 10, 11] (fun p s i wr => ((i = .int .i64 0 ∧ p = .int .u64 a ∧ s = .int .i64 0) ∨ (i = .int .i64 1 ∧ s = .int .i64 (1 + n % 8))) ∧ Ext w4 wr) (fun _ _ i _ => (1 - intOf i).toNat)
      case atStart => exact ⟨.inl ⟨rfl, rfl, rfl⟩, Ext.refl _⟩
      case round =>
        obtain ⟨hi, hb5⟩ := hrel
        have ⟨hc, hf, hh, hs⟩ := hb5.facts
        have f1 : (a / 4096 != (a + (1 + n % 8) - 1) / 4096) = false := by rw [bne_eq_false_iff_eq]; omega
        have f2 : IntKind.u64.wrap (IntKind.u64.wrap (a + (1 + n % 8)) - 1) = a + (1 + n % 8) - 1 := by simp only [IntKind.wrap_u64]; omega
        have f7 : decide (1 + n % 8 < 1) = false := decide_eq_false (by omega)
        rcases hi with ⟨rfl, rfl, rfl⟩ | ⟨rfl, rfl⟩
        · go_upto_region 11 with (fail)
          refine region_ext (by kernel_rfl) (by kernel_rfl) ?_; (repeat (go_big_quiet_step (fail))); refine wpQuiet_nil ?_; intro w1 hb; have ⟨hc, hf, hh, hs⟩ := hb.facts; try simp only [World.size_alloc, World.size_setCell, World.size_drew] at hs
          go_wp2
          go_roundw
          case rel => exact ⟨.inr ⟨rfl, rfl⟩, (by repeat (first | exact Ext.refl _ | assumption | refine Ext.alloc ?_ _ | refine Ext.drew ?_ | refine Ext.setCell ?_ (by simp) _ | refine Ext.trans ?_ (by assumption)))⟩
          case measure => simp [intOf]
        · go_wp2
          go_ret
          exact ⟨by simp, (by repeat (first | exact Ext.refl _ | assumption | refine Ext.alloc ?_ _ | refine Ext.drew ?_ | refine Ext.setCell ?_ (by simp) _ | refine Ext.trans ?_ (by assumption)))⟩
    · have hr' : 4096 - a % 4096 < 1 + n % 8 := by omega
      have f1 : (a / 4096 != (a + (4096 - a % 4096) - 1) / 4096) = false := by rw [bne_eq_false_iff_eq]; omega
      have f3 : IntKind.u64.wrap (IntKind.u64.wrap (a + (4096 - a % 4096)) - 1) = a + (4096 - a % 4096) - 1 := by simp only [IntKind.wrap_u64]; omega
      have f2 : ((a + (4096 - a % 4096)) / 4096 != (a + (4096 - a % 4096) + (1 + n % 8 - (4096 - a % 4096)) - 1) / 4096) = false := by rw [bne_eq_false_iff_eq]; omega
      have f4 : IntKind.u64.wrap (IntKind.u64.wrap (a + (4096 - a % 4096) + (1 + n % 8 - (4096 - a % 4096))) - 1) = a + (4096 - a % 4096) + (1 + n % 8 - (4096 - a % 4096)) - 1 := by simp only [IntKind.wrap_u64]; omega
      have f5 : ((a + (4096 - a % 4096)) % 4096 != 0) = false := by rw [bne_eq_false_iff_eq]; omega
      go_enter Try.func10, Try.ntmps10
      go_wp2_with (first | (go_at_call 24; refine (awake17_c _).mono ?_; rintro e w1 ⟨rfl, hb⟩; have ⟨hc, hf, hh, hs⟩ := hb.facts; try simp only [World.size_alloc, World.size_setCell, World.size_drew] at hs) | (go_at_call 30; refine (cut_two _ _ _ h0 hC hr').mono ?_; rintro e w4 ⟨g, rfl, g1, g2, d0, d1, d2, d3, hb4⟩))
      go_loopw [9, 10, 11] (fun p s i wr => ((i = .int .i64 0 ∧ p = .int .u64 a ∧ s = .int .i64 0) ∨ (i = .int .i64 1 ∧ p = .int .u64 (a + (4096 - a % 4096)) ∧ s = .int .i64 (4096 - a % 4096)) ∨ (i = .int .i64 2 ∧ s = .int .i64 (4096 - a % 4096 + (1 + n % 8 - (4096 - a % 4096))))) ∧ Ext w4 wr) (fun _ _ i _ => (2 - intOf i).toNat)
      case atStart => exact ⟨.inl ⟨rfl, rfl, rfl⟩, Ext.refl _⟩
      case round =>
        obtain ⟨hi, hb5⟩ := hrel
        have ⟨hc, hf, hh, hs⟩ := hb5.facts
        have f7 : decide (4096 - a % 4096 < 1) = false := decide_eq_false (by omega)
        have f8 : decide (1 + n % 8 - (4096 - a % 4096) < 1) = false := decide_eq_false (by omega)
        rcases hi with ⟨rfl, rfl, rfl⟩ | ⟨rfl, rfl, rfl⟩ | ⟨rfl, rfl⟩
        · go_upto_region 11 with (fail)
          refine region_ext (by kernel_rfl) (by kernel_rfl) ?_; (repeat (go_big_quiet_step (fail))); refine wpQuiet_nil ?_; intro w1 hb; have ⟨hc, hf, hh, hs⟩ := hb.facts; try simp only [World.size_alloc, World.size_setCell, World.size_drew] at hs
          go_wp2
          go_roundw
          case rel => exact ⟨.inr (.inl ⟨rfl, rfl, rfl⟩), (by repeat (first | exact Ext.refl _ | assumption | refine Ext.alloc ?_ _ | refine Ext.drew ?_ | refine Ext.setCell ?_ (by simp) _ | refine Ext.trans ?_ (by assumption)))⟩
          case measure => simp [intOf]
        · go_upto_region 11 with (fail)
          refine region_ext (by kernel_rfl) (by kernel_rfl) ?_; (repeat (go_big_quiet_step (fail))); refine wpQuiet_nil ?_; intro w1 hb; have ⟨hc, hf, hh, hs⟩ := hb.facts; try simp only [World.size_alloc, World.size_setCell, World.size_drew] at hs
          go_wp2
          go_roundw
          case rel => exact ⟨.inr (.inr ⟨rfl, rfl⟩), (by repeat (first | exact Ext.refl _ | assumption | refine Ext.alloc ?_ _ | refine Ext.drew ?_ | refine Ext.setCell ?_ (by simp) _ | refine Ext.trans ?_ (by assumption)))⟩
          case measure => simp [intOf]
        · have f6 : (4096 - a % 4096 + (1 + n % 8 - (4096 - a % 4096)) == 1 + n % 8) = true := by rw [beq_iff_eq]; omega
          go_wp2
          go_ret
          exact ⟨by simp, (by repeat (first | exact Ext.refl _ | assumption | refine Ext.alloc ?_ _ | refine Ext.drew ?_ | refine Ext.setCell ?_ (by simp) _ | refine Ext.trans ?_ (by assumption)))⟩

theorem pieceAll_walk (W : World) (args : List Value) (h : ArgsAre W [.int .u64, .int .u8] args) :
    Calls Try.prog 10 args.toArray W fun e w' => e = .returned (.bool true) ∧ Ext W w' := by
  obtain ⟨_, _, rfl, ⟨a, h2, ha⟩, _, _, rfl, ⟨n, h3, hn⟩, rfl⟩ := h
  simp only [List.cons.injEq, and_true] at h2 h3
  subst h2 h3
  have ⟨i0, i1⟩ := bounds_u64 ha
  have ⟨a0, a1⟩ := bounds_u8 hn
  exact pieceAll_c a n W i0 i1 a0 a1

theorem pieceAllDscs : okParams Try.prog [.int .u64, .int .u8] Try.f10.params.toList = true := by kernel_rfl
set_option maxRecDepth 100000 in
theorem pieceAll_lifted (os : Os) (started : os.Started) (H : Type) (enc : TypeId × Value → H) :
    ReturnsInHanded {} Try.checked os 10 .any (Rows.pieceAllSpec.pre6 enc Try.prog Try.f10 Rows.pieceAllRow.domain false) (Rows.pieceAllSpec.post enc Try.prog Try.f10 false true false false) :=
  law_lift (C := Try.checked) [.int .u64, .int .u8] (by kernel_rfl) started (by kernel_rfl) Try.func10
    (ChangeSpec.witness6 (enc := enc) (C := Try.checked) false ⟨#[], #[.int .u64 0, .int .u8 0], []⟩ 8 (by kernel_rfl) (by kernel_rfl) (by kernel_rfl) (by kernel_rfl))
    (by kernel_rfl) pieceAllDscs rfl Try.underlying4 rfl (fun ds h => by
      first
        | (obtain ⟨a, rfl⟩ := len1 h; rfl)
        | (obtain ⟨a, b, rfl⟩ := len2 h; rfl)
        | (obtain ⟨a, b, c, rfl⟩ := len3 h; rfl)
        | (obtain ⟨a, b, c, d, rfl⟩ := len4 h; rfl)) pieceAll_walk
theorem pieceAll_holds : Rows.PieceAllSaid :=
  OpenClaim.holds_of_wide 10 Try.f10 rfl rfl rfl rfl rfl rfl rfl ⟨rfl, rfl, rfl, rfl, rfl⟩ rfl rfl rfl rfl rfl (by kernel_rfl) Try.func10 (by kernel_rfl)
    (of_decide_eq_true (by kernel_rfl)) (by unfold Func.isWrapper; first | (rw [if_pos (by decide +kernel)]; kernel_rfl) | (rw [if_neg (by decide +kernel)]; exact ⟨rfl, rfl⟩))
    (fun os started H enc _ => pieceAll_lifted os started H enc)
#print axioms pieceAll_holds
end Go.Proofs.Ytcgcmkoeigkiiaa
