/- Joined texts, part 39 of what the law stands on: each as its own head says. -/
import Derived.Test.YtkfonacokamfiaaGreatGoz34
import Derived.Test.YtkfonacokamfiaaGreatGoz6
/- A law's real: a path as the document has it. -/
namespace Go.Proofs.YtkfonacokamfiaaGreat
set_option linter.unusedVariables false
set_option linter.unusedSimpArgs false
open Go.RowKit
attribute [local go_sem] wext_cell wext_frozen wext_heap alloc_cell alloc_frozen alloc_heap setCell_cell objCell_cells objFrozen_cells
theorem rowS_oneC (L : List Stp) : ∀ u ∈ rowS L, u.oneCell' = true := by
 intro u hu
 obtain ⟨k, _, hk⟩ := List.mem_flatMap.1 hu
 simp [Stp.cells] at hk
 rcases hk with rfl | rfl | rfl <;> rfl
theorem StepsAt.ofT {U : World} {e : TypeId} {sa : Option Addr} {sc : Nat} {L : List Stp} (h : Owns U e 3 (.slice sa L.length sc) L.length (rowS L)) : StepsAt U sa L := fun i hi => by
 obtain ⟨g, hg⟩ : ∃ g, sa = some ⟨g, 0, none⟩ := by
  rcases h.2 with ⟨h1, h0⟩ | ⟨g, _, _, he, _⟩
  ·omega
  ·exact ⟨g, by injection he⟩
 subst hg
 have H := fun j hj u hu => h.cells (g := g) rfl (i * 3 + j) u ((rowS_at L i hi j hj).trans hu)
 exact ⟨g, 0, rfl, h.lt g rfl, by rw [Nat.zero_add]; exact H 0 (by omega) _ rfl, by rw [Nat.zero_add]; exact H 1 (by omega) _ rfl, by rw [Nat.zero_add]; exact H 2 (by omega) _ rfl⟩
theorem refStepRow : RowT Tryz.prog 100 109 3 24 := RowT.of (z := .agg #[.int .i64 0, .int .u64 0, .int .u64 0]) Tryz.underlying100 (by kernel_rfl) rfl
theorem rowS_take (L : List Stp) (j : Nat) (h : j < L.length) : rowS (L.take (j + 1)) = rowS (L.take j) ++ (stpAt L j).cells := by
 have e : L.take (j + 1) = L.take j ++ [stpAt L j] := by rw [List.take_add_one, List.getElem?_eq_getElem h]; simp [stpAt, List.getD, h]
 rw [e]; simp [rowS]
def EndReal (L : List Stp) (why : Int) (r : Rt) (lv fr : Int) (w : World) (e : Ending) (w' : World) : Prop :=
 ∃ ra rc, e = .returned (.agg #[.slice ra L.length rc, .int .i64 why, .bool r.1, .bool r.2.1, .bool r.2.2, .int .i64 lv, .int .u64 fr]) ∧ Owns w' 109 3 (.slice ra L.length rc) L.length (rowS L) ∧ Ext w w'
end Go.Proofs.YtkfonacokamfiaaGreat
