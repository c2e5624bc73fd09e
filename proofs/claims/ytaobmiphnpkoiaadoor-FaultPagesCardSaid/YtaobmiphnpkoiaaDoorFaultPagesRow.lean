/- FaultPages: a Page wraps the page fault's number, and says its words; two are the same just if both their fields are: for whatever addresses and code. -/
import Derived.Test.YtaobmiphnpkoiaaDoorFaultPages
import Derived.Test.YtaobmiphnpkoiaaDoorRowP
namespace Go.Proofs.YtaobmiphnpkoiaaDoor
set_option linter.unusedVariables false
set_option linter.unusedSimpArgs false
open Go.RowKit
attribute [local go_sem] wext_cell wext_frozen wext_heap alloc_cell alloc_frozen alloc_heap setCell_cell objCell_cells objFrozen_cells

theorem faultPages_walk (W : World) (args : List Value) (hL : laidMetH Tryd.prog Rows.faultPagesRow.laid W) (h : ArgsAre W [.int .u64, .int .u64, .int .u8] args) :
    Calls Tryd.prog 3 args.toArray W fun e w' => e = .returned (.bool true) ∧ Ext W w' := by
  obtain ⟨hg, hT, hP⟩ := parts_of_laid hL
  obtain ⟨_, _, rfl, ⟨a, h2, ha⟩, _, _, rfl, ⟨b, h3, hb⟩, _, _, rfl, ⟨c, h4, hc⟩, rfl⟩ := h
  simp only [List.cons.injEq, and_true] at h2 h3 h4
  subst h2 h3 h4
  have ⟨a0, a1⟩ := bounds_u64 ha
  have ⟨b0, b1⟩ := bounds_u64 hb
  have ⟨c0, c1⟩ := bounds_u8 hc
  obtain ⟨n, rfl⟩ := Int.eq_ofNat_of_zero_le a0
  obtain ⟨m, rfl⟩ := Int.eq_ofNat_of_zero_le b0
  obtain ⟨k, rfl⟩ := Int.eq_ofNat_of_zero_le c0
  exact faultPages_c n m k W hg hT hP (by omega) (by omega)

set_option maxRecDepth 100000 in
theorem laidWorldP_met (os : Os) (args : Array Value) : laidMetH Tryd.prog Rows.faultPagesRow.laid ((laidWorldP os).forCall (fun _ _ => 0) ⟨#[], args, []⟩).memory :=
  laidMetH_of_parts (laidMet_of_run' 8 (by kernel_rfl) (by kernel_rfl)) (by kernel_rfl)
theorem faultPagesDscs : okParams Tryd.prog [.int .u64, .int .u64, .int .u8] Tryd.f3.params.toList = true := by kernel_rfl
set_option maxRecDepth 100000 in
theorem faultPages_lifted (os : Os) (started : os.Started) (H : Type) (enc : TypeId × Value → H) :
    ReturnsInHanded {} Tryd.checked os 3 .any (fun w args => (Rows.faultPagesSpec.pre enc Tryd.prog Tryd.f3 [] false w args ∧ laidMetH Tryd.prog Rows.faultPagesRow.laid w) ∧ sizedMet enc Tryd.prog Tryd.f3 (OpenSpec.ofChange Rows.faultPagesSpec) false w args)
      (Rows.faultPagesSpec.post enc Tryd.prog Tryd.f3 false true false false) :=
  law_lift_laid (C := Tryd.checked) (X := fun w => laidMetH Tryd.prog Rows.faultPagesRow.laid w) (fun _ _ hh h => h.of_heap hh) [.int .u64, .int .u64, .int .u8] (by kernel_rfl) started (by kernel_rfl) Tryd.func3
    (ChangeSpec.witness_at (enc := enc) (C := Tryd.checked) (os := os) (X := fun w _ => laidMetH Tryd.prog Rows.faultPagesRow.laid w) false (laidWorldP os) #[.int .u64 0, .int .u64 0, .int .u8 0] 8 rfl (by kernel_rfl) (by kernel_rfl) (by kernel_rfl) (by kernel_rfl) (by kernel_rfl) (laidWorldP_met os _))
    (by kernel_rfl) faultPagesDscs rfl Tryd.underlying4 rfl (fun ds h => by
      obtain ⟨a, b, c, rfl⟩ := len3 h; rfl) (fun W args hL hA => faultPages_walk W args hL hA)
theorem faultPages_holds : Rows.FaultPagesSaid :=
  OpenClaim.holds_of_wide 3 Tryd.f3 rfl rfl rfl rfl rfl rfl rfl ⟨rfl, rfl, rfl, rfl, rfl⟩ rfl rfl rfl rfl rfl (by kernel_rfl) Tryd.func3 (by kernel_rfl)
    (of_decide_eq_true (by kernel_rfl)) (by unfold Func.isWrapper; first | (rw [if_pos (by decide +kernel)]; kernel_rfl) | (rw [if_neg (by decide +kernel)]; exact ⟨rfl, rfl⟩))
    (fun os started H enc _ => faultPages_lifted os started H enc)
#print axioms faultPages_holds
end Go.Proofs.YtaobmiphnpkoiaaDoor
