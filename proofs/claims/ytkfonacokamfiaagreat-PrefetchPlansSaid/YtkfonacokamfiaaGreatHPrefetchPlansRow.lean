/- PrefetchPlans: which pages are planned of any address; which slots any page's path has, in any memory, which isn't changed: for all words, addresses and asks. -/
import Derived.Test.YtkfonacokamfiaaGreatPlb47
import Derived.Test.YtkfonacokamfiaaGreatPlb22
namespace Go.Proofs.YtkfonacokamfiaaGreat
set_option linter.unusedVariables false
set_option linter.unusedSimpArgs false
open Go.RowKit
attribute [local go_sem] wext_cell wext_frozen wext_heap alloc_cell alloc_frozen alloc_heap setCell_cell objCell_cells objFrozen_cells
open Go.Proofs

def useD : Dsc := .row [.int .u64, .row [.int .i64, .bool, .bool], .row [.bool, .bool, .bool, .bool]]
def whoD : Dsc := .row [.int .i64, .row [.int .i64, .int .i64, .int .i64, .int .i64]]
def askD : Dsc := .row [useD, whoD, .int .u8, .int .i64]
theorem len15 {α : Type} {l : List α} (h : l.length = 15) : ∃ a b c d e f g i j k m n o p q, l = [a, b, c, d, e, f, g, i, j, k, m, n, o, p, q] := by
  match l, h with
  | [a, b, c, d, e, f, g, i, j, k, m, n, o, p, q], _ => exact ⟨a, b, c, d, e, f, g, i, j, k, m, n, o, p, q, rfl⟩
theorem ask_is {W : World} {cs : List Value} (hl : cs.length = 15) (h : askD.Is W cs) :
    ∃ (u : Who) (kd room many : Int) (us ac wp sp sm : Bool), u.ok ∧ 0 ≤ room ∧ room ≤ 255 ∧ -9223372036854775808 ≤ many ∧ many ≤ 9223372036854775807 ∧
      cs = [.int .u64 u.root, .int .i64 kd, .bool us, .bool ac, .bool wp, .bool u.nxe, .bool sp, .bool sm, .int .i64 u.p, .int .i64 u.k0, .int .i64 u.k1, .int .i64 u.k2, .int .i64 u.k3, .int .u8 room, .int .i64 many] := by
  obtain ⟨a, b, c, d, e, f, g, i, j, k, m, n, o, p, q, rfl⟩ := len15 hl
  simp only [askD, useD, whoD, Dsc.Is, Dsc.IsAll, Dsc.size, Dsc.sizes, List.take_succ_cons, List.take_zero, List.drop_succ_cons, List.drop_zero, List.cons.injEq, and_true] at h
  obtain ⟨⟨⟨n0, rfl, w0⟩, ⟨⟨n1, rfl, w1⟩, ⟨b0, rfl⟩, ⟨b1, rfl⟩⟩, ⟨b2, rfl⟩, ⟨b3, rfl⟩, ⟨b4, rfl⟩, ⟨b5, rfl⟩⟩, ⟨⟨n2, rfl, w2⟩, ⟨n3, rfl, w3⟩, ⟨n4, rfl, w4⟩, ⟨n5, rfl, w5⟩, ⟨n6, rfl, w6⟩⟩, ⟨n7, rfl, w7⟩, ⟨n8, rfl, w8⟩⟩ := h
  refine ⟨⟨n2, n3, n4, n5, n6, n0, b3⟩, n1, n7, n8, b0, b1, b2, b4, b5, ⟨bounds_i64 w3, fun l => ?_, bounds_u64 w0⟩, (bounds_u8 w7).1, (bounds_u8 w7).2, (bounds_i64 w8).1, (bounds_i64 w8).2, rfl⟩
  show -9223372036854775808 ≤ pkF n4 n5 n6 l ∧ pkF n4 n5 n6 l ≤ 9223372036854775807
  unfold pkF
  split
  · exact bounds_i64 w4
  · split
    · exact bounds_i64 w5
    · exact bounds_i64 w6
theorem prefetchPlans_walk (W : World) (args : List Value) (h : ArgsAre W [.slice putD, .int .u64, askD] args) :
    Calls Tryz.prog 3 args.toArray W fun e w' => e = .returned (.bool true) ∧ Ext W w' := by
  obtain ⟨v, _, rfl, hv, _, _, rfl, ⟨n, h2, hn⟩, _, _, rfl, ⟨cs, rfl, hl, hI⟩, rfl⟩ := h
  simp only [List.cons.injEq, and_true] at h2
  subst h2
  obtain ⟨ds, hds⟩ := puts_of hv
  have ⟨i0, i1⟩ := bounds_u64 hn
  have hl15 : cs.length = 15 := hl
  obtain ⟨u, kd, room, many, us, ac, wp, sp, sm, hu, -, -, m0, m1, rfl⟩ := ask_is hl15 hI
  exact prefetchPlans_c v ds n u kd room many us ac wp sp sm W hds i0 i1 hu m0 m1

theorem prefetchPlansDscs : okParams Tryz.prog [.slice putD, .int .u64, askD] Tryz.f3.params.toList = true := by kernel_rfl
set_option maxRecDepth 100000 in
theorem prefetchPlans_lifted (os : Os) (started : os.Started) (H : Type) (enc : TypeId × Value → H) :
    ReturnsInHanded {} Tryz.checked os 3 .any (Rows.prefetchPlansSpec.pre6 enc Tryz.prog Tryz.f3 Rows.prefetchPlansRow.domain false) (Rows.prefetchPlansSpec.post enc Tryz.prog Tryz.f3 false true false false) :=
  law_lift (C := Tryz.checked) [.slice putD, .int .u64, askD] (by kernel_rfl) started (by kernel_rfl) Tryz.func3
    (ChangeSpec.witness6 (enc := enc) (C := Tryz.checked) false ⟨#[], #[.slice none 0 0, .int .u64 0, .agg #[.int .u64 0, .int .i64 0, .bool false, .bool false, .bool false, .bool false, .bool false, .bool false, .int .i64 0, .int .i64 0, .int .i64 0, .int .i64 0, .int .i64 0, .int .u8 0, .int .i64 0] ], []⟩ 8 (by kernel_rfl) (by kernel_rfl) (by kernel_rfl) (by kernel_rfl))
    (by kernel_rfl) prefetchPlansDscs rfl Tryz.underlying4 rfl (fun ds h => by
      first
        | (obtain ⟨a, rfl⟩ := len1 h; rfl)
        | (obtain ⟨a, b, rfl⟩ := len2 h; rfl)
        | (obtain ⟨a, b, c, rfl⟩ := len3 h; rfl)
        | (obtain ⟨a, b, c, d, rfl⟩ := len4 h; rfl)) prefetchPlans_walk
theorem prefetchPlans_holds : Rows.PrefetchPlansSaid :=
  OpenClaim.holds_of_wide 3 Tryz.f3 rfl rfl rfl rfl rfl rfl rfl ⟨rfl, rfl, rfl, rfl, rfl⟩ rfl rfl rfl rfl rfl (by kernel_rfl) Tryz.func3 (by kernel_rfl)
    (of_decide_eq_true (by kernel_rfl)) (by unfold Func.isWrapper; first | (rw [if_pos (by decide +kernel)]; kernel_rfl) | (rw [if_neg (by decide +kernel)]; exact ⟨rfl, rfl⟩))
    (fun os started H enc _ => prefetchPlans_lifted os started H enc)
#print axioms prefetchPlans_holds
end Go.Proofs.YtkfonacokamfiaaGreat
