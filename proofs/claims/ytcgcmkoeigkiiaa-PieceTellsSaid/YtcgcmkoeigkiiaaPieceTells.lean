/- PieceTells: any pick is the document's, and so are any bytes' slots: for all picks, any number and any address. -/
import Derived.Test.YtcgcmkoeigkiiaaPieceA
import Derived.Test.YtcgcmkoeigkiiaaRow
namespace Go.Proofs.Ytcgcmkoeigkiiaa
set_option linter.unusedVariables false
set_option linter.unusedSimpArgs false
open Go.RowKit
attribute [local go_sem] wext_cell wext_frozen wext_heap alloc_cell alloc_frozen alloc_heap setCell_cell objCell_cells objFrozen_cells

set_option maxHeartbeats 1600000 in
theorem pieceTells_c (a : Int) (i : Int) (v : Value) (w : World) (h0 : 0 ≤ a) (h1 : a ≤ 18446744073709551615) (hn0 : -9223372036854775808 ≤ i) (hn1 : i ≤ 9223372036854775807)
    (hp : ∃ x, ∀ W, Ext w W → (Calls Try.prog 25 #[v, .int .i64 i] W fun e w' => e = .returned (.int .i64 x) ∧ Ext W w') ∧ (Calls Try.prog 26 #[v, .int .i64 i] W fun e w' => e = .returned (.int .i64 x) ∧ Ext W w')) :
    Calls Try.prog 9 #[v, .int .i64 i, .int .u64 a] w fun e w' => e = .returned (.bool true) ∧ Ext w w' := by
  obtain ⟨x, hp⟩ := hp
  have HP := Lib.hid hp
  clear hp
  cases hSB : slotB a i
  case false =>
    go_enter Try.func9, Try.ntmps9
    go_wp2_with (first | (go_at_call 24; refine (awake17_c _).mono ?_; rintro e w1 ⟨rfl, hb⟩; have ⟨hc, hf, hh, hs⟩ := hb.facts; try simp only [World.size_alloc, World.size_setCell, World.size_drew] at hs) | (go_at_call 25; refine (HP.out _ ?_).1.mono ?_; exact (by repeat (first | exact Ext.refl _ | assumption | refine Ext.alloc ?_ _ | refine Ext.drew ?_ | refine Ext.setCell ?_ (by simp) _ | refine Ext.trans ?_ (by assumption))); rintro e w2 ⟨rfl, hb2⟩) | (go_at_call 26; refine (HP.out _ ?_).2.mono ?_; exact (by repeat (first | exact Ext.refl _ | assumption | refine Ext.alloc ?_ _ | refine Ext.drew ?_ | refine Ext.setCell ?_ (by simp) _ | refine Ext.trans ?_ (by assumption))); rintro e w3 ⟨rfl, hb3⟩) | (go_at_call 28; refine (slots_bad _ _ _ h0 h1 hn0 hn1 hSB).mono ?_; rintro e w4 ⟨rfl, hb4⟩) | (go_at_call 29; refine (refSlots_bad _ _ _ h0 h1 hn0 hn1 hSB).mono ?_; rintro e w5 ⟨rfl, hb5⟩) | (go_at_call 27; refine (same_nil _).mono ?_; rintro e w6 ⟨rfl, hb6⟩))
    go_ret
    exact ⟨rfl, (by repeat (first | exact Ext.refl _ | assumption | refine Ext.alloc ?_ _ | refine Ext.drew ?_ | refine Ext.setCell ?_ (by simp) _ | refine Ext.trans ?_ (by assumption)))⟩
  case true =>
    cases ho : oneB a i
    case true =>
      go_enter Try.func9, Try.ntmps9
      go_wp2_with (first | (go_at_call 24; refine (awake17_c _).mono ?_; rintro e w1 ⟨rfl, hb⟩; have ⟨hc, hf, hh, hs⟩ := hb.facts; try simp only [World.size_alloc, World.size_setCell, World.size_drew] at hs) | (go_at_call 25; refine (HP.out _ ?_).1.mono ?_; exact (by repeat (first | exact Ext.refl _ | assumption | refine Ext.alloc ?_ _ | refine Ext.drew ?_ | refine Ext.setCell ?_ (by simp) _ | refine Ext.trans ?_ (by assumption))); rintro e w2 ⟨rfl, hb2⟩) | (go_at_call 26; refine (HP.out _ ?_).2.mono ?_; exact (by repeat (first | exact Ext.refl _ | assumption | refine Ext.alloc ?_ _ | refine Ext.drew ?_ | refine Ext.setCell ?_ (by simp) _ | refine Ext.trans ?_ (by assumption))); rintro e w3 ⟨rfl, hb3⟩) | (go_at_call 28; refine (slots_one _ _ _ h0 hSB ho).mono ?_; rintro e w4 ⟨g, cap, rfl, g1, g2, g3, hb4⟩) | (go_at_call 29; refine (refSlots_one _ _ _ h0 hSB ho).mono ?_; rintro e w5 ⟨k, kap, rfl, k1, k2, k3, hb5⟩) | (go_at_call 27; refine (same_eq _ _ _ _ _ _ 1 (fun _ => a - a % 8) _ (by omega) (fun i hi => ?_) (fun i hi => ?_)).mono ?_; (obtain rfl : i = 0 := by omega); exact hb5.someCell g3; (obtain rfl : i = 0 := by omega); exact k3; rintro e w6 ⟨rfl, hb6⟩))
      go_ret
      exact ⟨rfl, (by repeat (first | exact Ext.refl _ | assumption | refine Ext.alloc ?_ _ | refine Ext.drew ?_ | refine Ext.setCell ?_ (by simp) _ | refine Ext.trans ?_ (by assumption)))⟩
    case false =>
      go_enter Try.func9, Try.ntmps9
      go_wp2_with (first | (go_at_call 24; refine (awake17_c _).mono ?_; rintro e w1 ⟨rfl, hb⟩; have ⟨hc, hf, hh, hs⟩ := hb.facts; try simp only [World.size_alloc, World.size_setCell, World.size_drew] at hs) | (go_at_call 25; refine (HP.out _ ?_).1.mono ?_; exact (by repeat (first | exact Ext.refl _ | assumption | refine Ext.alloc ?_ _ | refine Ext.drew ?_ | refine Ext.setCell ?_ (by simp) _ | refine Ext.trans ?_ (by assumption))); rintro e w2 ⟨rfl, hb2⟩) | (go_at_call 26; refine (HP.out _ ?_).2.mono ?_; exact (by repeat (first | exact Ext.refl _ | assumption | refine Ext.alloc ?_ _ | refine Ext.drew ?_ | refine Ext.setCell ?_ (by simp) _ | refine Ext.trans ?_ (by assumption))); rintro e w3 ⟨rfl, hb3⟩) | (go_at_call 28; refine (slots_two _ _ _ h0 hSB ho).mono ?_; rintro e w4 ⟨g, cap, rfl, g1, g2, g3, g4, hb4⟩) | (go_at_call 29; refine (refSlots_two _ _ _ h0 hSB ho).mono ?_; rintro e w5 ⟨k, kap, rfl, k1, k2, k3, k4, hb5⟩) | (go_at_call 27; refine (same_eq _ _ _ _ _ _ 2 (fun i => if i = 0 then a - a % 8 else a - a % 8 + 8) _ (by omega) (fun i hi => ?_) (fun i hi => ?_)).mono ?_; rcases (show i = 0 ∨ i = 1 by omega) with rfl | rfl; exact hb5.someCell g3; exact hb5.someCell g4; rcases (show i = 0 ∨ i = 1 by omega) with rfl | rfl; exact k3; exact k4; rintro e w6 ⟨rfl, hb6⟩))
      go_ret
      exact ⟨rfl, (by repeat (first | exact Ext.refl _ | assumption | refine Ext.alloc ?_ _ | refine Ext.drew ?_ | refine Ext.setCell ?_ (by simp) _ | refine Ext.trans ?_ (by assumption)))⟩

theorem pieceTells_walk (W : World) (args : List Value) (h : ArgsAre W [.slice (.int .i64), .int .i64, .int .u64] args) :
    Calls Try.prog 9 args.toArray W fun e w' => e = .returned (.bool true) ∧ Ext W w' := by
  obtain ⟨_, _, rfl, h1, _, _, rfl, ⟨i, h2, hi⟩, _, _, rfl, ⟨a, h3, ha⟩, rfl⟩ := h
  simp only [List.cons.injEq, and_true] at h2 h3
  subst h2 h3
  have ⟨i0, i1⟩ := bounds_i64 hi
  have ⟨a0, a1⟩ := bounds_u64 ha
  refine pieceTells_c a i _ W a0 a1 i0 i1 ?_
  rcases h1 with h1 | ⟨ad, len, cap, h1, hlc, hcm, hcells⟩
  · simp only [List.cons.injEq, and_true] at h1
    subst h1
    have : i < 0 ∨ ((0 : Nat) : Int) ≤ i := by omega
    exact ⟨0, fun W' _ => ⟨pick_out _ 0 0 i W' (by decide) this, refPick_out _ 0 0 i W' (by decide) this⟩⟩
  · simp only [List.cons.injEq, and_true] at h1
    subst h1
    by_cases hin : 0 ≤ i ∧ i < (len : Int)
    · obtain ⟨b, off, rfl, _, hc⟩ := slice_open (e := .int .i64) (by simp [Dsc.size]) (by omega) hcells
      obtain ⟨vs, hl, hj, x, rfl, _⟩ := hc i.toNat (by omega)
      have := hj 0 (by simp [Dsc.size])
      simp only [Dsc.size, Nat.mul_one, Nat.add_zero] at this
      exact ⟨x, fun W' hb => ⟨pick_in b off len cap i x W' (by omega) hin.1 hin.2 (hb.someCell this), refPick_in b off len cap i x W' (by omega) hin.1 hin.2 (hb.someCell this)⟩⟩
    · have : i < 0 ∨ (len : Int) ≤ i := by omega
      exact ⟨0, fun W' _ => ⟨pick_out _ len cap i W' (by omega) this, refPick_out _ len cap i W' (by omega) this⟩⟩

theorem pieceTellsDscs : okParams Try.prog [.slice (.int .i64), .int .i64, .int .u64] Try.f9.params.toList = true := by kernel_rfl
set_option maxRecDepth 100000 in
theorem pieceTells_lifted (os : Os) (started : os.Started) (H : Type) (enc : TypeId × Value → H) :
    ReturnsInHanded {} Try.checked os 9 .any (Rows.pieceTellsSpec.pre6 enc Try.prog Try.f9 Rows.pieceTellsRow.domain false) (Rows.pieceTellsSpec.post enc Try.prog Try.f9 false true false false) :=
  law_lift (C := Try.checked) [.slice (.int .i64), .int .i64, .int .u64] (by kernel_rfl) started (by kernel_rfl) Try.func9
    (ChangeSpec.witness6 (enc := enc) (C := Try.checked) false ⟨#[], #[.slice none 0 0, .int .i64 0, .int .u64 0], []⟩ 8 (by kernel_rfl) (by kernel_rfl) (by kernel_rfl) (by kernel_rfl))
    (by kernel_rfl) pieceTellsDscs rfl Try.underlying4 rfl (fun ds h => by
      first
        | (obtain ⟨a, rfl⟩ := len1 h; rfl)
        | (obtain ⟨a, b, rfl⟩ := len2 h; rfl)
        | (obtain ⟨a, b, c, rfl⟩ := len3 h; rfl)
        | (obtain ⟨a, b, c, d, rfl⟩ := len4 h; rfl)) pieceTells_walk
theorem pieceTells_holds : Rows.PieceTellsSaid :=
  OpenClaim.holds_of_wide 9 Try.f9 rfl rfl rfl rfl rfl rfl rfl ⟨rfl, rfl, rfl, rfl, rfl⟩ rfl rfl rfl rfl rfl (by kernel_rfl) Try.func9 (by kernel_rfl)
    (of_decide_eq_true (by kernel_rfl)) (by unfold Func.isWrapper; first | (rw [if_pos (by decide +kernel)]; kernel_rfl) | (rw [if_neg (by decide +kernel)]; exact ⟨rfl, rfl⟩))
    (fun os started H enc _ => pieceTells_lifted os started H enc)
#print axioms pieceTells_holds
end Go.Proofs.Ytcgcmkoeigkiiaa
