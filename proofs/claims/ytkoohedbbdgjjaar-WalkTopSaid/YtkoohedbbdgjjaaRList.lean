/- Lists that a slice of plain data holds. -/
import Derived.Test.YtkoohedbbdgjjaaRRow
import Derived.OpenShut
namespace Go.Proofs.YtkoohedbbdgjjaaR
set_option linter.unusedVariables false
set_option linter.unusedSimpArgs false
open Go.RowKit
attribute [local go_sem] wext_cell wext_frozen wext_heap alloc_cell alloc_frozen alloc_heap setCell_cell objCell_cells objFrozen_cells
open Go.Proofs

/-- v holds these, each of so many cells. -/
def ListAt {α : Type} [Inhabited α] (w : World) (v : Value) (size : Nat) (cells : α → List Value) (ok : α → Prop) (ds : List α) : Prop :=
  ∃ a cap, v = .slice a ds.length cap ∧ ds.length ≤ cap ∧ cap ≤ maxLen ∧ (∀ i, i < ds.length → ok (ds.getD i default)) ∧
    ∀ i, i < ds.length → ∃ g o, a = some ⟨g, o, none⟩ ∧ g < w.heap.size ∧ ∀ j u, (cells (ds.getD i default))[j]? = some u → w.cell? ⟨g, o + i * size + j, none⟩ = some u
theorem ListAt.ext {α : Type} [Inhabited α] {w w' : World} {v : Value} {size : Nat} {cells : α → List Value} {ok : α → Prop} {ds : List α} (h : ListAt w v size cells ok ds) (k : Ext w w') : ListAt w' v size cells ok ds := by
  obtain ⟨a, cap, h1, h2, h3, h4, h5⟩ := h
  refine ⟨a, cap, h1, h2, h3, h4, fun i hi => ?_⟩
  obtain ⟨g, o, e1, e2, e3⟩ := h5 i hi
  exact ⟨g, o, e1, Nat.lt_of_lt_of_le e2 k.size, fun j u hu => k.someCell (e3 j u hu)⟩
theorem list_of {α : Type} [Inhabited α] {W : World} {v : Value} {size : Nat} {cells : α → List Value} {ok : α → Prop} {d : Dsc} (hs : d.size = size) (h0 : 0 < d.size) (hc : ∀ x, (cells x).length = size)
    (his : ∀ cs : List Value, cs.length = size → d.Is W cs → ∃ x, ok x ∧ cs = cells x) (h : (Dsc.slice d).Is W [v]) : ∃ ds, ListAt W v size cells ok ds := by
  simp only [Dsc.Is, List.cons.injEq, and_true] at h
  rcases h with rfl | ⟨a, n, cap, rfl, hn, hm, hall⟩
  · exact ⟨[], none, 0, rfl, by simp, by simp, fun i hi => by simp at hi, fun i hi => by simp at hi⟩
  · by_cases hcp : 0 < cap
    · obtain ⟨b, off, rfl, hb, hcell⟩ := slice_open (e := d) h0 hcp hall
      have hall2 : ∀ i, i < cap → ∃ x : α, ok x ∧ ∀ j u, (cells x)[j]? = some u → W.cell? ⟨b, off + i * size + j, none⟩ = some u := fun i hi => by
        obtain ⟨vs, hl, hcc, hI⟩ := hcell i hi
        obtain ⟨x, hx, rfl⟩ := his vs (by rw [← hs]; exact hl) hI
        refine ⟨x, hx, fun j u hu => ?_⟩
        have hj := (List.getElem?_eq_some_iff.1 hu).1
        rw [hc] at hj
        have := hcc j (by omega)
        rw [hs] at this
        exact this.trans hu
      have : ∃ f : Nat → α, ∀ i, i < cap → ok (f i) ∧ ∀ j u, (cells (f i))[j]? = some u → W.cell? ⟨b, off + i * size + j, none⟩ = some u :=
        ⟨fun i => if h : i < cap then Classical.choose (hall2 i h) else default, fun i hi => by
          simp only [hi, dite_true]
          exact Classical.choose_spec (hall2 i hi)⟩
      obtain ⟨f, hf⟩ := this
      have hd : ∀ i, i < n → ((List.range n).map f).getD i default = f i := fun i hi => by simp [List.getD, hi]
      refine ⟨(List.range n).map f, some ⟨b, off, none⟩, cap, by simp, by simpa using hn, hm, fun i hi => ?_, fun i hi => ⟨b, off, rfl, hb, fun j u hu => ?_⟩⟩
      · have hi : i < n := by simpa using hi
        rw [hd i hi]; exact (hf i (by omega)).1
      · have hi : i < n := by simpa using hi
        rw [hd i hi] at hu; exact (hf i (by omega)).2 j u hu
    · obtain rfl : cap = 0 := by omega
      obtain rfl : n = 0 := by omega
      exact ⟨[], some a, 0, rfl, by simp, by simp, fun i hi => by simp at hi, fun i hi => by simp at hi⟩
end Go.Proofs.YtkoohedbbdgjjaaR
