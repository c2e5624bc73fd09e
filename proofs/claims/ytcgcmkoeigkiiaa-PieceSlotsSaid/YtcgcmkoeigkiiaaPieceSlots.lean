/- PieceSlots: each byte lies in one of the slots; each slot has one of the bytes; there are two at most: for every address of 32 bits and any number of bytes. -/
import Derived.Test.YtcgcmkoeigkiiaaPieceA
import Derived.Test.YtcgcmkoeigkiiaaRow
namespace Go.Proofs.Ytcgcmkoeigkiiaa
set_option linter.unusedVariables false
set_option linter.unusedSimpArgs false
open Go.RowKit
attribute [local go_sem] wext_cell wext_frozen wext_heap alloc_cell alloc_frozen alloc_heap setCell_cell objCell_cells objFrozen_cells

set_option maxHeartbeats 3200000 in
theorem pieceSlots_c (a n : Int) (w : World) (h0 : 0 ≤ a) (h1 : a ≤ 4294967295) (n0 : 0 ≤ n) (n1 : n ≤ 255) :
    Calls Try.prog 11 #[.int .u32 a, .int .u8 n] w fun e w' => e = .returned (.bool true) ∧ Ext w w' := by
  have hS : slotB a (1 + n % 8) = true := by simp [slotB]; omega
  cases hO : oneB a (1 + n % 8)
  case true =>
    have ho : a % 8 + (1 + n % 8) ≤ 8 := by simpa [oneB] using hO
    go_enter Try.func11, Try.ntmps11
    go_wp2_with (first | (go_at_call 24; refine (awake17_c _).mono ?_; rintro e w1 ⟨rfl, hb⟩; have ⟨hc, hf, hh, hs⟩ := hb.facts; try simp only [World.size_alloc, World.size_setCell, World.size_drew] at hs) | (go_at_call 28; refine (slots_one _ _ _ h0 hS hO).mono ?_; rintro e w4 ⟨g, cap, rfl, g1, g2, g3, hb4⟩))
    go_loop [9, 10, 11, 12] (fun i _ _ _ => ∃ j : Nat, (j : Int) ≤ 1 + n % 8 ∧ i = .int .i64 j) (fun i _ _ _ => (1 + n % 8 - intOf i).toNat)
    case atStart => exact ⟨0, by omega, rfl⟩
    case round =>
      obtain ⟨j, hj, rfl⟩ := hrel
      by_cases hlt : (j : Int) < 1 + n % 8
      · have f0 : (a - a % 8 == a + (j : Int) - (a + (j : Int)) % 8) = true := by rw [beq_iff_eq]; omega
        go_wp2
        go_loop [11, 12] (fun f i => (i = .int .i64 0 ∧ f = .bool false) ∨ (i = .int .i64 1 ∧ f = .bool true)) (fun _ i => (1 - intOf i).toNat)
        case atStart => exact .inl ⟨rfl, rfl⟩
        case round =>
          rcases hrel with ⟨rfl, rfl⟩ | ⟨rfl, rfl⟩
          · go_wp2
            go_round
            case rel => exact .inr ⟨rfl, rfl⟩
            case measure => simp [intOf]
          · go_wp2
            go_round
            case rel => exact ⟨j + 1, by omega, by go_num⟩
            case measure => simp [intOf]; omega
      · go_wp2
        go_loop [13] (fun i => i = .int .i64 0 ∨ i = .int .i64 1) (fun i => (1 - intOf i).toNat)
        case atStart => exact .inl rfl
        case round =>
          have f1 : ((a - a % 8) % 8 != 0) = false := by rw [bne_eq_false_iff_eq]; omega
          rcases hrel with rfl | rfl
          · go_wp2
            go_round
            case rel => exact .inr rfl
            case measure => simp [intOf]
          · have hs0 : slotB a 0 = false := by simp [slotB]
            have hs9 : slotB a 9 = false := by simp [slotB]
            go_wp2_with (first | (go_at_call 28; refine (slots_bad _ _ _ h0 (by omega) (by omega) (by omega) (by assumption)).mono ?_; rintro e w5 ⟨rfl, hb5⟩))
            go_ret
            exact ⟨rfl, (by repeat (first | exact Ext.refl _ | assumption | refine Ext.alloc ?_ _ | refine Ext.drew ?_ | refine Ext.setCell ?_ (by simp) _ | refine Ext.trans ?_ (by assumption)))⟩
  case false =>
    have ho : ¬ a % 8 + (1 + n % 8) ≤ 8 := by simpa [oneB] using hO
    go_enter Try.func11, Try.ntmps11
    go_wp2_with (first | (go_at_call 24; refine (awake17_c _).mono ?_; rintro e w1 ⟨rfl, hb⟩; have ⟨hc, hf, hh, hs⟩ := hb.facts; try simp only [World.size_alloc, World.size_setCell, World.size_drew] at hs) | (go_at_call 28; refine (slots_two _ _ _ h0 hS hO).mono ?_; rintro e w4 ⟨g, cap, rfl, g1, g2, g3, g4, hb4⟩))
    go_loop [9, 10, 11, 12] (fun i _ _ _ => ∃ j : Nat, (j : Int) ≤ 1 + n % 8 ∧ i = .int .i64 j) (fun i _ _ _ => (1 + n % 8 - intOf i).toNat)
    case atStart => exact ⟨0, by omega, rfl⟩
    case round =>
      obtain ⟨j, hj, rfl⟩ := hrel
      by_cases hlt : (j : Int) < 1 + n % 8
      · have f0 : (a - a % 8 == a + (j : Int) - (a + (j : Int)) % 8) = true ∨ ((a - a % 8 == a + (j : Int) - (a + (j : Int)) % 8) = false ∧ (a - a % 8 + 8 == a + (j : Int) - (a + (j : Int)) % 8) = true) := by
          simp only [beq_iff_eq, beq_eq_false_iff_ne]; omega
        rcases f0 with f0 | ⟨f0, f1⟩
        all_goals
          go_wp2
          go_loop [11, 12] (fun f i => (i = .int .i64 0 ∧ f = .bool false) ∨ (i = .int .i64 1 ∧ f = .bool (a - a % 8 == a + (j : Int) - (a + (j : Int)) % 8)) ∨ (i = .int .i64 2 ∧ f = .bool true)) (fun _ i => (2 - intOf i).toNat)
          case atStart => exact .inl ⟨rfl, rfl⟩
          case round =>
            rcases hrel with ⟨rfl, rfl⟩ | ⟨rfl, rfl⟩ | ⟨rfl, rfl⟩
            · go_wp2
              go_round
              case rel => exact .inr (.inl ⟨rfl, by rw [f0]⟩)
              case measure => simp [intOf]
            · go_wp2
              go_round
              case rel => exact .inr (.inr ⟨rfl, rfl⟩)
              case measure => simp [intOf]
            · go_wp2
              go_round
              case rel => exact ⟨j + 1, by omega, by go_num⟩
              case measure => simp [intOf]; omega
      · go_wp2
        go_loop [13] (fun i => i = .int .i64 0 ∨ i = .int .i64 1 ∨ i = .int .i64 2) (fun i => (2 - intOf i).toNat)
        case atStart => exact .inl rfl
        case round =>
          have f1 : ((a - a % 8) % 8 != 0) = false := by rw [bne_eq_false_iff_eq]; omega
          have f2 : ((a - a % 8 + 8) % 8 != 0) = false := by rw [bne_eq_false_iff_eq]; omega
          rcases hrel with rfl | rfl | rfl
          · go_wp2
            go_round
            case rel => exact .inr (.inl rfl)
            case measure => simp [intOf]
          · go_wp2
            go_round
            case rel => exact .inr (.inr rfl)
            case measure => simp [intOf]
          · have hs0 : slotB a 0 = false := by simp [slotB]
            have hs9 : slotB a 9 = false := by simp [slotB]
            go_wp2_with (first | (go_at_call 28; refine (slots_bad _ _ _ h0 (by omega) (by omega) (by omega) (by assumption)).mono ?_; rintro e w5 ⟨rfl, hb5⟩))
            go_ret
            exact ⟨rfl, (by repeat (first | exact Ext.refl _ | assumption | refine Ext.alloc ?_ _ | refine Ext.drew ?_ | refine Ext.setCell ?_ (by simp) _ | refine Ext.trans ?_ (by assumption)))⟩

theorem pieceSlots_walk (W : World) (args : List Value) (h : ArgsAre W [.int .u32, .int .u8] args) :
    Calls Try.prog 11 args.toArray W fun e w' => e = .returned (.bool true) ∧ Ext W w' := by
  obtain ⟨_, _, rfl, ⟨a, h2, ha⟩, _, _, rfl, ⟨n, h3, hn⟩, rfl⟩ := h
  simp only [List.cons.injEq, and_true] at h2 h3
  subst h2 h3
  have ⟨i0, i1⟩ := bounds_u32 ha
  have ⟨a0, a1⟩ := bounds_u8 hn
  exact pieceSlots_c a n W i0 i1 a0 a1

theorem pieceSlotsDscs : okParams Try.prog [.int .u32, .int .u8] Try.f11.params.toList = true := by kernel_rfl
set_option maxRecDepth 100000 in
theorem pieceSlots_lifted (os : Os) (started : os.Started) (H : Type) (enc : TypeId × Value → H) :
    ReturnsInHanded {} Try.checked os 11 .any (Rows.pieceSlotsSpec.pre6 enc Try.prog Try.f11 Rows.pieceSlotsRow.domain false) (Rows.pieceSlotsSpec.post enc Try.prog Try.f11 false true false false) :=
  law_lift (C := Try.checked) [.int .u32, .int .u8] (by kernel_rfl) started (by kernel_rfl) Try.func11
    (ChangeSpec.witness6 (enc := enc) (C := Try.checked) false ⟨#[], #[.int .u32 0, .int .u8 0], []⟩ 8 (by kernel_rfl) (by kernel_rfl) (by kernel_rfl) (by kernel_rfl))
    (by kernel_rfl) pieceSlotsDscs rfl Try.underlying4 rfl (fun ds h => by
      first
        | (obtain ⟨a, rfl⟩ := len1 h; rfl)
        | (obtain ⟨a, b, rfl⟩ := len2 h; rfl)
        | (obtain ⟨a, b, c, rfl⟩ := len3 h; rfl)
        | (obtain ⟨a, b, c, d, rfl⟩ := len4 h; rfl)) pieceSlots_walk
theorem pieceSlots_holds : Rows.PieceSlotsSaid :=
  OpenClaim.holds_of_wide 11 Try.f11 rfl rfl rfl rfl rfl rfl rfl ⟨rfl, rfl, rfl, rfl, rfl⟩ rfl rfl rfl rfl rfl (by kernel_rfl) Try.func11 (by kernel_rfl)
    (of_decide_eq_true (by kernel_rfl)) (by unfold Func.isWrapper; first | (rw [if_pos (by decide +kernel)]; kernel_rfl) | (rw [if_neg (by decide +kernel)]; exact ⟨rfl, rfl⟩))
    (fun os started H enc _ => pieceSlots_lifted os started H enc)
#print axioms pieceSlots_holds
end Go.Proofs.Ytcgcmkoeigkiiaa
