/- strconv.Itoa, at whatever byte. -/
import Derived.Test.YtaobmiphnpkoiaaDoorLayI
import Derived.Test.YtaobmiphnpkoiaaDoorHexR
namespace Go.Proofs.YtaobmiphnpkoiaaDoor
set_option linter.unusedVariables false
set_option linter.unusedSimpArgs false
open Go.RowKit
attribute [local go_sem] wext_cell wext_frozen wext_heap alloc_cell alloc_frozen alloc_heap setCell_cell objCell_cells objFrozen_cells

theorem ext_grow {a w : World} (h : Ext a w) (os : Array Obj) : Ext a (Go.Sort.grow w os) :=
  ⟨h.os, h.tape, h.output, by show _ ≤ (w.heap ++ os).size; rw [Array.size_append]; have := h.size; omega, fun k hk => by
    show (w.heap ++ os)[k]? = _
    rw [Array.getElem?_append_left (Nat.lt_of_lt_of_le hk h.size)]
    exact h.block k hk⟩
def PowAt (w : World) : Prop := Lib.TabIs Tryd.prog w "internal/strconv.uint64pow10" .u64 Lib.pow10Tab
theorem PowAt.ext {w w' : World} (h : PowAt w) (k : Ext w w') : PowAt w' := by
  have hg : Tryd.prog.globalNamed "internal/strconv.uint64pow10" = some 1 := by kernel_rfl
  unfold PowAt Lib.TabIs World.var? at h ⊢
  rw [hg] at h ⊢
  simp only [Option.bind_some] at h ⊢
  rcases Nat.lt_or_ge 1 w.heap.size with hl | hl
  · rw [k.block _ hl]; exact h
  · rw [Array.getElem?_eq_none hl] at h; cases h
theorem dec_itoa : ∀ c : Fin 256, (Lib.itoa (c.val : Int)) = (decS 3 c.val).data.toList := by decide +kernel
theorem itoa_c (c : Nat) (hc : c < 256) (w : World) (h : PowAt w) : Calls Tryd.prog 18 #[.int .i64 c] w fun e w' => e = .returned (.string (decS 3 c)) ∧ Ext w w' := by
  have H := Any.strconv_Itoa laysM171 (c : Int) (by omega) (by omega) w h
  refine H.mono ?_
  rintro e w' ⟨rfl, k, os, rfl⟩
  refine ⟨?_, ext_grow ((Ext.refl w).drewN k) os⟩
  rw [dec_itoa ⟨c, hc⟩]
end Go.Proofs.YtaobmiphnpkoiaaDoor
