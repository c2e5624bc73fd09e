/- The cache laws' arguments. -/
import Derived.Test.YtnacgmmkmedpdaaLawCE
import Derived.Test.YtnacgmmkmedpdaaRow
import Derived.OpenShut
namespace Go.Proofs.Ytnacgmmkmedpdaa
set_option linter.unusedVariables false
set_option linter.unusedSimpArgs false
open Go.RowKit
attribute [local go_sem] wext_cell wext_frozen wext_heap alloc_cell alloc_frozen alloc_heap setCell_cell objCell_cells objFrozen_cells
open Go.Proofs

def keyD : Dsc := .row [.int .i64, .int .i64, .int .u64]
def lineD : Dsc := .row [.int .u64, .row [.bool, .bool, .bool], .bool, .int .u8]
def deedD : Dsc := .row [.int .i64, .int .i64, keyD, lineD]
theorem len11 {α : Type} {l : List α} (h : l.length = 11) : ∃ a b c d e f g i j k m, l = [a, b, c, d, e, f, g, i, j, k, m] := by
  match l, h with
  | [a, b, c, d, e, f, g, i, j, k, m], _ => exact ⟨a, b, c, d, e, f, g, i, j, k, m, rfl⟩
theorem key_is {W : World} {cs : List Value} (hl : cs.length = 3) (h : keyD.Is W cs) : ∃ k : Key, cs = k.cells := by
  obtain ⟨a, b, c, rfl⟩ := len3 hl
  simp only [keyD, Dsc.Is, Dsc.IsAll, Dsc.size, List.take_succ_cons, List.take_zero, List.drop_succ_cons, List.drop_zero, List.cons.injEq, and_true] at h
  obtain ⟨⟨p, rfl, _⟩, ⟨l, rfl, _⟩, ⟨t, rfl, _⟩⟩ := h
  exact ⟨⟨p, l, t⟩, rfl⟩
theorem deed_is {W : World} {cs : List Value} (hl : cs.length = 11) (h : deedD.Is W cs) : ∃ d : Deed, d.ok ∧ cs = d.cells := by
  obtain ⟨a, b, c, d, e, f, g, i, j, k, m, rfl⟩ := len11 hl
  simp only [deedD, keyD, lineD, Dsc.Is, Dsc.IsAll, Dsc.size, Dsc.sizes, List.take_succ_cons, List.take_zero, List.drop_succ_cons, List.drop_zero, List.cons.injEq, and_true] at h
  obtain ⟨⟨n0, rfl, w0⟩, ⟨n1, rfl, w1⟩, ⟨⟨n2, rfl, _⟩, ⟨n3, rfl, _⟩, ⟨n4, rfl, _⟩⟩, ⟨n5, rfl, _⟩, ⟨⟨b1, rfl⟩, ⟨b2, rfl⟩, ⟨b3, rfl⟩⟩, ⟨b4, rfl⟩, ⟨n6, rfl, _⟩⟩ := h
  exact ⟨⟨n0, n1, ⟨n2, n3, n4⟩, ⟨n5, b1, b2, b3, b4, n6⟩⟩, bounds_i64 w1, rfl⟩
theorem deeds_of {W : World} {v : Value} (h : (Dsc.slice deedD).Is W [v]) : ∃ ds, DeedsAt W v ds := by
  simp only [Dsc.Is, List.cons.injEq, and_true] at h
  rcases h with rfl | ⟨a, n, cap, rfl, hn, hm, hall⟩
  · exact ⟨[], none, 0, rfl, by simp, by simp, fun i hi => by simp at hi, fun i hi => by simp at hi⟩
  · by_cases hc : 0 < cap
    · obtain ⟨b, off, rfl, hb, hcell⟩ := slice_open (e := deedD) (by decide) hc hall
      have hall2 : ∀ i, i < cap → ∃ d : Deed, d.ok ∧ ∀ j u, d.cells[j]? = some u → W.cell? ⟨b, off + i * 11 + j, none⟩ = some u := fun i hi => by
        obtain ⟨vs, hl, hc, hI⟩ := hcell i hi
        obtain ⟨d, hd, rfl⟩ := deed_is hl hI
        exact ⟨d, hd, fun j u hu => (hc j (by have := (List.getElem?_eq_some_iff.1 hu).1; simpa [Deed.cells, deedD, keyD, lineD, Dsc.size, Dsc.sizes] using this)).trans hu⟩
      have : ∃ f : Nat → Deed, ∀ i, i < cap → (f i).ok ∧ ∀ j u, (f i).cells[j]? = some u → W.cell? ⟨b, off + i * 11 + j, none⟩ = some u :=
        ⟨fun i => if h : i < cap then Classical.choose (hall2 i h) else default, fun i hi => by
          simp only [hi, dite_true]
          exact Classical.choose_spec (hall2 i hi)⟩
      obtain ⟨f, hf⟩ := this
      have hd : ∀ i, i < n → dAt ((List.range n).map f) i = f i := fun i hi => by simp [dAt, List.getD, hi]
      refine ⟨(List.range n).map f, some ⟨b, off, none⟩, cap, by simp, by simpa using hn, hm, fun i hi => ?_, fun i hi => ⟨b, off, rfl, hb, fun j u hu => ?_⟩⟩
      · have hi : i < n := by simpa using hi
        rw [hd i hi]; exact (hf i (by omega)).1
      · have hi : i < n := by simpa using hi
        rw [hd i hi] at hu; exact (hf i (by omega)).2 j u hu
    · obtain rfl : cap = 0 := by omega
      obtain rfl : n = 0 := by omega
      exact ⟨[], some a, 0, rfl, by simp, by simp, fun i hi => by simp at hi, fun i hi => by simp at hi⟩

set_option maxHeartbeats 1000000 in
theorem nil_dropOf (pcid : Int) (w : World) : Calls Try.prog 28 #[.pointer none, .int .i64 pcid] w fun e w' => e = .returned (.tuple #[]) ∧ Ext w w' := by
  go_enter Try.func28, Try.ntmps28
  go_wp2_with (first | (go_at_call 25; refine (nil_keys _).mono ?_; rintro e w1 ⟨rfl, hb⟩))
  go_loopw [9] (fun i wr => i = .int .i64 0 ∧ Ext w wr) (fun i _ => 0)
  case atStart => exact ⟨rfl, Ext.trans (by repeat (first | exact Ext.refl _ | assumption | refine Ext.alloc ?_ _ | refine Ext.drew ?_ | refine Ext.setCell ?_ (by first | (simp; done) | (dsimp only; omega)) _ | refine Ext.trans ?_ (by assumption))) hb⟩
  case round =>
    obtain ⟨rfl, hR⟩ := hrel
    go_wp2
    all_goals
      refine ⟨rfl, .tuple #[], (by simp [results, Try.results28, go_sem]), ?_⟩
      exact ⟨rfl, hR.trans (by repeat (first | exact Ext.refl _ | assumption | refine Ext.alloc ?_ _ | refine Ext.drew ?_ | refine Ext.setCell ?_ (by first | (simp; done) | (dsimp only; omega)) _ | refine Ext.trans ?_ (by assumption)))⟩
end Go.Proofs.Ytnacgmmkmedpdaa
