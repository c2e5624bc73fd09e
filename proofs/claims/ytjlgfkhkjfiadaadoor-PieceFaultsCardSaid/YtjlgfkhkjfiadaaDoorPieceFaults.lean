/- PieceFaults: no bytes, and more than eight, fault; so do bytes that run out of either half of the addresses. -/
import Derived.Test.YtjlgfkhkjfiadaaDoorPieceF
import Derived.Test.YtjlgfkhkjfiadaaDoorRowL
namespace Go.Proofs.YtjlgfkhkjfiadaaDoor
set_option linter.unusedVariables false
set_option linter.unusedSimpArgs false
open Go.RowKit
attribute [local go_sem] wext_cell wext_frozen wext_heap alloc_cell alloc_frozen alloc_heap setCell_cell objCell_cells objFrozen_cells

theorem eights (n : Int) (h0 : 0 ≤ n) : 2 + n % 7 = 2 ∨ 2 + n % 7 = 3 ∨ 2 + n % 7 = 4 ∨ 2 + n % 7 = 5 ∨ 2 + n % 7 = 6 ∨ 2 + n % 7 = 7 ∨ 2 + n % 7 = 8 := by omega
set_option maxRecDepth 100000 in
set_option maxHeartbeats 3200000 in
theorem pieceFaults_c (n a : Int) (w : World) (hg : Glob w) (n0 : 0 ≤ n) (n1 : n ≤ 255) (h0 : 0 ≤ a) (h1 : a ≤ 18446744073709551615) :
    Calls Tryd.prog 6 #[.int .u8 n, .int .u64 a] w fun e w' => e = .returned (.bool true) ∧ Ext w w' := by
  have b1 : cutB a 0 = false := by simp [cutB]
  have b2 : cutB a (9 + n) = false := by
    have : decide (9 + n ≤ 8) = false := decide_eq_false (by omega)
    simp [cutB, this]
  have b3 : cutB 140737488355327 (2 + n % 7) = false := by rcases eights n n0 with h | h | h | h | h | h | h <;> rw [h] <;> decide
  have b4 : cutB 18446744073709551615 (2 + n % 7) = false := by rcases eights n n0 with h | h | h | h | h | h | h <;> rw [h] <;> decide
  have b5 : cutB 18446603336221196287 (2 + n % 7) = false := by rcases eights n n0 with h | h | h | h | h | h | h <;> rw [h] <;> decide
  have HG := Lib.hid hg
  clear hg
  go_enter Tryd.func6, Tryd.ntmps6
  go_wp2_with (first | (go_at_call 18; refine (awake17_c _).mono ?_; rintro e w1 ⟨rfl, hb⟩; have ⟨hc, hf, hh, hs⟩ := hb.facts; try simp only [World.size_alloc, World.size_setCell, World.size_drew] at hs) | (go_at_call 19; refine (cut_gp _ _ _ (by omega) (by omega) (by omega) (by omega) (by assumption)).mono ?_; rintro e w4 ⟨t, x, rfl, hv4, hb4⟩) | (go_at_call 15; refine (kindGP_c _ _ (by apply GPv.ext; assumption; exact (by repeat (first | exact Ext.refl _ | assumption | refine Ext.alloc ?_ _ | refine Ext.drew ?_ | refine Ext.setCell ?_ (by first | (simp; done) | (dsimp only; omega)) _ | refine Ext.trans ?_ (by assumption)))) (HG.out.ext (by repeat (first | exact Ext.refl _ | assumption | refine Ext.alloc ?_ _ | refine Ext.drew ?_ | refine Ext.setCell ?_ (by first | (simp; done) | (dsimp only; omega)) _ | refine Ext.trans ?_ (by assumption))))).mono ?_; rintro e w5 ⟨rfl, hb5⟩) | (go_at_call 21; refine (pick_out none 0 0 n _ (by decide) (by omega)).mono ?_; rintro e w6 ⟨rfl, hb6⟩))
  go_ret
  exact ⟨rfl, (by repeat (first | exact Ext.refl _ | assumption | refine Ext.alloc ?_ _ | refine Ext.drew ?_ | refine Ext.setCell ?_ (by first | (simp; done) | (dsimp only; omega)) _ | refine Ext.trans ?_ (by assumption)))⟩

theorem pieceFaults_walk (W : World) (args : List Value) (hg : Glob W) (h : ArgsAre W [.int .u8, .int .u64] args) :
    Calls Tryd.prog 6 args.toArray W fun e w' => e = .returned (.bool true) ∧ Ext W w' := by
  obtain ⟨_, _, rfl, ⟨n, h2, hn⟩, _, _, rfl, ⟨a, h3, ha⟩, rfl⟩ := h
  simp only [List.cons.injEq, and_true] at h2 h3
  subst h2 h3
  have ⟨i0, i1⟩ := bounds_u64 ha
  have ⟨a0, a1⟩ := bounds_u8 hn
  exact pieceFaults_c _ _ W hg a0 a1 i0 i1

theorem pieceFaultsDscs : okParams Tryd.prog [.int .u8, .int .u64] Tryd.f6.params.toList = true := by kernel_rfl
set_option maxRecDepth 100000 in
theorem pieceFaults_lifted (os : Os) (started : os.Started) (H : Type) (enc : TypeId × Value → H) :
    ReturnsInHanded {} Tryd.checked os 6 .any (fun w args => (Rows.pieceFaultsSpec.pre enc Tryd.prog Tryd.f6 [] false w args ∧ laidMetH Tryd.prog Rows.pieceFaultsRow.laid w) ∧ sizedMet enc Tryd.prog Tryd.f6 (OpenSpec.ofChange Rows.pieceFaultsSpec) false w args)
      (Rows.pieceFaultsSpec.post enc Tryd.prog Tryd.f6 false true false false) :=
  law_lift_laid (C := Tryd.checked) (X := fun w => laidMetH Tryd.prog Rows.pieceFaultsRow.laid w) (fun _ _ hh h => h.of_heap hh) [.int .u8, .int .u64] (by kernel_rfl) started (by kernel_rfl) Tryd.func6
    (ChangeSpec.witness_at (enc := enc) (C := Tryd.checked) (os := os) (X := fun w _ => laidMetH Tryd.prog Rows.pieceFaultsRow.laid w) false (laidWorld os) #[.int .u8 0, .int .u64 0] 8 rfl (by kernel_rfl) (by kernel_rfl) (by kernel_rfl) (by kernel_rfl) (by kernel_rfl) (laidMetH_of_parts (laidMet_nil _ _) (by kernel_rfl)))
    (by kernel_rfl) pieceFaultsDscs rfl Tryd.underlying4 rfl (fun ds h => by
      first
        | (obtain ⟨a, rfl⟩ := len1 h; rfl)
        | (obtain ⟨a, b, rfl⟩ := len2 h; rfl)
        | (obtain ⟨a, b, c, rfl⟩ := len3 h; rfl)
        | (obtain ⟨a, b, c, d, rfl⟩ := len4 h; rfl)) (fun W args hL hA => pieceFaults_walk W args (glob_of_laid hL) hA)
theorem pieceFaults_holds : Rows.PieceFaultsSaid :=
  OpenClaim.holds_of_wide 6 Tryd.f6 rfl rfl rfl rfl rfl rfl rfl ⟨rfl, rfl, rfl, rfl, rfl⟩ rfl rfl rfl rfl rfl (by kernel_rfl) Tryd.func6 (by kernel_rfl)
    (of_decide_eq_true (by kernel_rfl)) (by unfold Func.isWrapper; first | (rw [if_pos (by decide +kernel)]; kernel_rfl) | (rw [if_neg (by decide +kernel)]; exact ⟨rfl, rfl⟩))
    (fun os started H enc _ => pieceFaults_lifted os started H enc)
#print axioms pieceFaults_holds
end Go.Proofs.YtjlgfkhkjfiadaaDoor
