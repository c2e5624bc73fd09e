/- WalkGoes: any walk, through any words, from any place on: its steps, what was loaded, and the memory, marked: for all words, places and addresses. -/
import Derived.Test.YtfaekfdngkpkdaaHWalkGoes
namespace Go.Proofs.Ytfaekfdngkpkdaa
set_option linter.unusedVariables false
set_option linter.unusedSimpArgs false
open Go.RowKit
attribute [local go_sem] wext_cell wext_frozen wext_heap alloc_cell alloc_frozen alloc_heap setCell_cell objCell_cells objFrozen_cells
open Go.Proofs

def startD : Dsc := .row [.int .i64, .int .u64, .row [.bool, .bool, .bool], .bool]
theorem walkGoes_walk (W : World) (args : List Value) (h : ArgsAre W [.slice putD, startD, .int .u64] args) :
    Calls Try.prog 3 args.toArray W fun e w' => e = .returned (.bool true) ∧ Ext W w' := by
  obtain ⟨v, _, rfl, hv, _, _, rfl, ⟨cs, rfl, hl, hI⟩, _, _, rfl, ⟨a, h3, ha⟩, rfl⟩ := h
  simp only [List.cons.injEq, and_true] at h3
  subst h3
  simp [Dsc.sizes, Dsc.size] at hl
  match cs, hl with
  | [l, t, x, y, z, n], _ =>
    simp only [Dsc.Is, Dsc.IsAll, Dsc.size, Dsc.sizes, List.take_succ_cons, List.take_zero, List.drop_succ_cons, List.drop_zero, List.cons.injEq, and_true] at hI
    obtain ⟨⟨n0, rfl, w0⟩, ⟨n1, rfl, w1⟩, ⟨⟨b0, rfl⟩, ⟨b1, rfl⟩, ⟨b2, rfl⟩⟩, ⟨b3, rfl⟩⟩ := hI
    obtain ⟨ds, hds⟩ := puts_of hv
    have ⟨i0, i1⟩ := bounds_i64 w0
    have ⟨j0, j1⟩ := bounds_u64 w1
    have ⟨k0, k1⟩ := bounds_u64 ha
    exact walkGoes_c v ds n0 n1 a b0 b1 b2 b3 W hds i0 i1 j0 j1 k0 k1

theorem walkGoesDscs : okParams Try.prog [.slice putD, startD, .int .u64] Try.f3.params.toList = true := by kernel_rfl
set_option maxRecDepth 100000 in
theorem walkGoes_lifted (os : Os) (started : os.Started) (H : Type) (enc : TypeId × Value → H) :
    ReturnsInHanded {} Try.checked os 3 .any (Rows.walkGoesSpec.pre6 enc Try.prog Try.f3 Rows.walkGoesRow.domain false) (Rows.walkGoesSpec.post enc Try.prog Try.f3 false true false false) :=
  law_lift (C := Try.checked) [.slice putD, startD, .int .u64] (by kernel_rfl) started (by kernel_rfl) Try.func3
    (ChangeSpec.witness6 (enc := enc) (C := Try.checked) false ⟨#[], #[.slice none 0 0, .agg #[.int .i64 0, .int .u64 0, .bool false, .bool false, .bool false, .bool false], .int .u64 0], []⟩ 8 (by kernel_rfl) (by kernel_rfl) (by kernel_rfl) (by kernel_rfl))
    (by kernel_rfl) walkGoesDscs rfl Try.underlying4 rfl (fun ds h => by
      first
        | (obtain ⟨a, rfl⟩ := len1 h; rfl)
        | (obtain ⟨a, b, rfl⟩ := len2 h; rfl)
        | (obtain ⟨a, b, c, rfl⟩ := len3 h; rfl)
        | (obtain ⟨a, b, c, d, rfl⟩ := len4 h; rfl)) walkGoes_walk
theorem walkGoes_holds : Rows.WalkGoesSaid :=
  OpenClaim.holds_of_wide 3 Try.f3 rfl rfl rfl rfl rfl rfl rfl ⟨rfl, rfl, rfl, rfl, rfl⟩ rfl rfl rfl rfl rfl (by kernel_rfl) Try.func3 (by kernel_rfl)
    (of_decide_eq_true (by kernel_rfl)) (by unfold Func.isWrapper; first | (rw [if_pos (by decide +kernel)]; kernel_rfl) | (rw [if_neg (by decide +kernel)]; exact ⟨rfl, rfl⟩))
    (fun os started H enc _ => walkGoes_lifted os started H enc)
#print axioms walkGoes_holds
end Go.Proofs.Ytfaekfdngkpkdaa
