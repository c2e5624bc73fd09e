/- piece.Cut where it faults, and the fault's number. -/
import Derived.Test.YtjlgfkhkjfiadaaDoorPieceA
import Derived.Test.YtjlgfkhkjfiadaaDoorErrC
namespace Go.Proofs.YtjlgfkhkjfiadaaDoor
set_option linter.unusedVariables false
set_option linter.unusedSimpArgs false
open Go.RowKit
attribute [local go_sem] wext_cell wext_frozen wext_heap alloc_cell alloc_frozen alloc_heap setCell_cell objCell_cells objFrozen_cells

/-- A general protection fault with some words ahead. -/
def GPv (w : World) (v : Value) : Prop := ∃ s, ErIs w (.ahead s (.no 5)) v
theorem GPv.ext {w w' : World} {v : Value} (h : GPv w v) (k : Ext w w') : GPv w' v := by obtain ⟨s, hs⟩ := h; exact ⟨s, hs.ext k⟩
theorem GPv.form {w : World} {v : Value} (h : GPv w v) : ∃ t x, v = .iface t x := by obtain ⟨s, hs⟩ := h; exact hs.form
theorem IsGP.er {s : ByteArray} {w w' : World} {v : Value} (h : IsGP s w v w') : GPv w' v := by
  obtain ⟨g, rfl, h2, h3, h4, h5⟩ := h
  exact ⟨s, g, _, rfl, by rw [cell_heap, h4]; rfl, by rw [cell_heap, h4]; rfl, rfl⟩
def EndCutGP (w : World) (e : Ending) (w' : World) : Prop := ∃ t x, e = .returned (.tuple #[.slice none 0 0, .iface t x]) ∧ GPv w' (.iface t x) ∧ Ext w w'
theorem cut_gp (a n : Int) (w : World) (h0 : 0 ≤ a) (h1 : a ≤ 18446744073709551615) (hn0 : -9223372036854775808 ≤ n) (hn1 : n ≤ 9223372036854775807) (h : cutB a n = false) :
    Calls Tryd.prog 19 #[.int .u64 a, .int .i64 n] w (EndCutGP w) :=
  (cut_bad a n w h0 h1 hn0 hn1 h).mono fun e w' hh => by
    obtain ⟨v, s, rfl, hv⟩ := hh
    have h2 := hv.er
    have h3 : Ext w w' := by obtain ⟨g, k1, k2, k3, k4, k5⟩ := hv; exact k5
    obtain ⟨t, x, rfl⟩ := h2.form
    exact ⟨t, x, rfl, h2, h3⟩
theorem kindGP_c (v : Value) (w : World) (h : GPv w v) (hg : Glob w) : Calls Tryd.prog 15 #[v] w fun e w' => e = .returned (.int .i64 5) ∧ Ext w w' := by
  obtain ⟨s, hs⟩ := h
  exact kind_c 5 _ v w hs hg rfl
end Go.Proofs.YtjlgfkhkjfiadaaDoor
