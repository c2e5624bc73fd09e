/- A page fault's words, by the code. (strconv.Itoa's answer stands as a premise of the text's own theorem: it is to be proved.) -/
import Derived.Test.YtaobmiphnpkoiaaDoorFmtD
namespace Go.Proofs.YtaobmiphnpkoiaaDoor
set_option linter.unusedVariables false
set_option linter.unusedSimpArgs false
open Go.RowKit
attribute [local go_sem] wext_cell wext_frozen wext_heap alloc_cell alloc_frozen alloc_heap setCell_cell objCell_cells objFrozen_cells

set_option maxRecDepth 100000 in
set_option maxHeartbeats 1000000 in
theorem pageErr_c (a c b : Nat) (w : World) (ha : a < 18446744073709551616) (hT : TzAt w)
    (HI : ∀ w1, Ext w w1 → Calls Tryd.prog 18 #[.int .i64 c] w1 fun e w' => e = .returned (.string (decS 3 c)) ∧ Ext w1 w')
    (h0 : w.cell? ⟨b, 0, none⟩ = some (.int .u64 a)) (h1 : w.cell? ⟨b, 1, none⟩ = some (.int .i64 c)) :
    Calls Tryd.prog 9 #[.pointer (some ⟨b, 0, none⟩)] w fun e w' => e = .returned (.string (pageS a c)) ∧ Ext w w' := by
  have H1 := Lib.hid (fun (w1 : World) (k : Ext w w1) => fmtU_c a w1 ha (hT.ext k))
  have H2 := Lib.hid HI
  unfold pageS
  have hX := hexS_size 16 a
  have hY := decS_size 3 c
  generalize hexS 16 a = X at H1 hX ⊢
  generalize decS 3 c = Y at H2 hY ⊢
  clear ha hT HI
  have s1 : (⟨#[112, 97, 103, 101, 32, 102, 97, 117, 108, 116, 32, 97, 116, 32]⟩ : ByteArray).size = 14 := rfl
  have s2 : (⟨#[44, 32, 99, 111, 100, 101, 32]⟩ : ByteArray).size = 7 := rfl
  have hb : b < w.heap.size := by
    rcases Nat.lt_or_ge b w.heap.size with h | h
    · exact h
    · rw [World.cell?, Array.getElem?_eq_none h] at h0; simp at h0
  go_enter Tryd.func9, Tryd.ntmps9
  go_upto_region 1 with (fail)
  refine region_ext (by kernel_rfl) (by kernel_rfl) ?_; (repeat (go_big_quiet_step (first | (go_at_call 17; exact calls_wext (H1.out _ (wext_ext _ _))) | (go_at_call 18; exact calls_wext (H2.out _ (wext_ext _ _)))))); refine wpQuiet_nil ?_; intro w1 hb; have ⟨hc, hf, hh, hs⟩ := hb.facts; try simp only [World.size_alloc, World.size_setCell, World.size_drew] at hs
  go_wp2
  (try go_ret)
  exact ⟨rfl, (by repeat (first | exact Ext.refl _ | assumption | refine Ext.alloc ?_ _ | refine Ext.drew ?_ | refine Ext.setCell ?_ (by first | (simp; done) | (dsimp only; omega)) _ | refine Ext.trans ?_ (by assumption)))⟩
end Go.Proofs.YtaobmiphnpkoiaaDoor
