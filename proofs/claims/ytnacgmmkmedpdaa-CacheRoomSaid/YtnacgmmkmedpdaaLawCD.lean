/- The cache laws' example: it is as the document says. -/
import Derived.Test.YtnacgmmkmedpdaaLawCC
namespace Go.Proofs.Ytnacgmmkmedpdaa
set_option linter.unusedVariables false
set_option linter.unusedSimpArgs false
open Go.RowKit
attribute [local go_sem] wext_cell wext_frozen wext_heap alloc_cell alloc_frozen alloc_heap setCell_cell objCell_cells objFrozen_cells
attribute [local go_sem high] key_eql

theorem key1_c (w : World) : Calls Try.prog 75 #[.int .i64 1] w fun e w' => e = .returned (.agg #[.int .i64 1, .int .i64 1, .int .u64 1]) ∧ Ext w w' := keyn_c 1 w (by omega) (by omega)
theorem key2_c (w : World) : Calls Try.prog 75 #[.int .i64 2] w fun e w' => e = .returned (.agg #[.int .i64 2, .int .i64 1, .int .u64 2]) ∧ Ext w w' := keyn_c 2 w (by omega) (by omega)
theorem key3_c (w : World) : Calls Try.prog 75 #[.int .i64 3] w fun e w' => e = .returned (.agg #[.int .i64 0, .int .i64 1, .int .u64 3]) ∧ Ext w w' := keyn_c 3 w (by omega) (by omega)

def exLine (n : Int) : Line := ⟨n, false, false, false, false, 0⟩
def exL : Nat → List (Key × Line)
  | 0 => []
  | j + 1 => putC (keyN ((j + 1 : Nat) : Int)) (exLine ((j + 1 : Nat) : Int)) 0 2 (exL j)
theorem exL3 : exL 3 = [(⟨2, 1, 2⟩, exLine 2), (⟨0, 1, 3⟩, exLine 3)] := by decide +kernel
theorem ex_keys : keysOf (exL 3) = [⟨2, 1, 2⟩, ⟨0, 1, 3⟩] := by rw [exL3]; rfl
theorem ex_get3 : getLine ⟨0, 1, 3⟩ (exL 3) = ⟨3, false, false, false, false, 0⟩ := by decide +kernel
theorem ex_has3 : hasK ⟨0, 1, 3⟩ (exL 3) = true := by decide +kernel
theorem ex_has1 : hasK ⟨1, 1, 1⟩ (exL 3) = false := by decide +kernel
theorem ex_get1 : getLine ⟨1, 1, 1⟩ (exL 3) = ⟨0, false, false, false, false, 0⟩ := by decide +kernel

set_option maxHeartbeats 2000000 in
theorem awake10_c (w : World) : Calls Try.prog 21 #[] w fun e w' => e = .returned (.bool true) ∧ Ext w w' := by
  go_enter Try.func21, Try.ntmps21
  go_upto_region 4 with (first | (go_at_call 22; refine (new_c 2 _ (by omega) (by omega)).mono ?_; rintro e w1 ⟨cb, F, rfl, hC, hE, hF⟩; rw [show clampR 2 = 2 by rfl] at hC))
  have HC := Lib.hid hC
  have HE := Lib.hid hE
  have HF := Lib.hid hF
  clear hC hE hF
  go_wp2
  go_loopw [2] (fun i wr => ∃ (j : Nat) (F' : List Nat), j ≤ 3 ∧ i = .int .i64 ((j : Int) + 1) ∧ Hid (CAt wr cb F' (exL j) 2 ∧ Ext w wr ∧ ∀ x ∈ F', w.heap.size ≤ x)) (fun i _ => 4 - (intOf i).toNat)
  case atStart => exact ⟨0, F, by omega, rfl, Lib.hid ⟨HC.out, HE.out, HF.out⟩⟩
  case round =>
    obtain ⟨j, F', hj, rfl, hR⟩ := hrel
    by_cases hlt : j < 3
    · go_wp2_with (first | (go_at_call 75; refine (keyn_c ((j : Int) + 1) _ (by omega) (by omega)).mono ?_; rintro e w2 ⟨rfl, hb2⟩) | (go_at_call 36; refine (put_c cb F' (exL j) 2 (keyN ((j : Int) + 1)) (exLine ((j : Int) + 1)) 0 _ (hR.out.1.ext (by repeat (first | exact Ext.refl _ | assumption | refine Ext.alloc ?_ _ | refine Ext.drew ?_ | refine Ext.setCell ?_ (by first | (simp; done) | (dsimp only; omega)) _ | refine Ext.trans ?_ (by assumption)))) (by omega) (by omega)).mono ?_; rintro e w3 ⟨rfl, F3, hC3, hK3, hF3⟩))
      have hs2 := hb2.size
      have hsr := hR.out.2.1.size
      refine ⟨⟨j + 1, F3, by omega, by go_num, Lib.hid ⟨hC3, ?_, fun x hx => ?_⟩⟩, by simp [intOf]; omega⟩
      · exact Keeps.to_ext (hR.out.2.1.trans (Ext.trans (by repeat (first | exact Ext.refl _ | assumption | refine Ext.alloc ?_ _ | refine Ext.drew ?_ | refine Ext.setCell ?_ (by first | (simp; done) | (dsimp only; omega)) _ | refine Ext.trans ?_ (by assumption))) hb2)) hK3 hR.out.2.2
      · rcases hF3 x hx with h | h
        · exact hR.out.2.2 x h
        · omega
    · obtain rfl : j = 3 := by omega
      have HR := hR
      go_upto_region 9 with (first | (go_at_call 25; refine (keys_c cb F' (exL 3) 2 _ (hR.out.1.ext (by repeat (first | exact Ext.refl _ | assumption | refine Ext.alloc ?_ _ | refine Ext.drew ?_ | refine Ext.setCell ?_ (by first | (simp; done) | (dsimp only; omega)) _ | refine Ext.trans ?_ (by assumption))))).mono ?_; rintro e w2 ⟨v, rfl, hv, hx2, -⟩))
      rw [ex_keys] at hv
      have hg3 : ∀ w1, Ext wr w1 → Calls Try.prog 29 #[.pointer (some ⟨cb, 0, none⟩), .agg #[.int .i64 0, .int .i64 1, .int .u64 3]] w1 fun e w' => e = .returned (.tuple #[.agg #[.int .u64 3, .bool false, .bool false, .bool false, .bool false, .int .u8 0], .bool true]) ∧ Ext w1 w' := fun w1 hx => by
        have := get_c cb F' (exL 3) 2 ⟨0, 1, 3⟩ w1 (HR.out.1.ext hx)
        rw [ex_get3, ex_has3] at this
        exact this
      have hg1 : ∀ w1, Ext wr w1 → Calls Try.prog 29 #[.pointer (some ⟨cb, 0, none⟩), .agg #[.int .i64 1, .int .i64 1, .int .u64 1]] w1 fun e w' => e = .returned (.tuple #[.agg #[.int .u64 0, .bool false, .bool false, .bool false, .bool false, .int .u8 0], .bool false]) ∧ Ext w1 w' := fun w1 hx => by
        have := get_c cb F' (exL 3) 2 ⟨1, 1, 1⟩ w1 (HR.out.1.ext hx)
        rw [ex_get1, ex_has1] at this
        exact this
      have HG3 := Lib.hid hg3
      have HG1 := Lib.hid hg1
      rcases hv.2 with ⟨-, h0⟩ | ⟨g, cap, cur, rfl, hgg, -, hcap, -, -⟩
      · cases h0
      have c0 := hv.cells (g := g) rfl 0 _ rfl
      have c1 := hv.cells (g := g) rfl 1 _ rfl
      have c2 := hv.cells (g := g) rfl 2 _ rfl
      have c3 := hv.cells (g := g) rfl 3 _ rfl
      have c4 := hv.cells (g := g) rfl 4 _ rfl
      have c5 := hv.cells (g := g) rfl 5 _ rfl
      have hgl := heap_lt hgg
      have H2 := Lib.hid hx2
      unfold maxLen at hcap
      clear hg3 hg1 hv hgg hx2 hR
      go_upto_region 10 with (first | (go_at_call 75; refine (key3_c _).mono ?_; rintro e w3 ⟨rfl, hb3⟩) | (go_at_call 29; refine (HG3.out _ (H2.out.trans hb3)).mono ?_; rintro e w4 ⟨rfl, hb4⟩))
      have H4 := Lib.hid (H2.out.trans (hb3.trans hb4))
      have E24 := hb3.trans hb4
      clear hb3 hb4
      go_upto_region 11 with (first | (go_at_call 75; refine (key1_c _).mono ?_; rintro e w5 ⟨rfl, hb5⟩) | (go_at_call 29; refine (HG1.out _ (H4.out.trans (Ext.trans (by repeat (first | exact Ext.refl _ | assumption | refine Ext.alloc ?_ _ | refine Ext.drew ?_ | refine Ext.setCell ?_ (by first | (simp; done) | (dsimp only; omega)) _ | refine Ext.trans ?_ (by assumption))) hb5))).mono ?_; rintro e w6 ⟨rfl, hb6⟩))
      refine wp_gen ?_; intro W hW
      have E46 : Ext w4 W := by rw [hW]; exact (Ext.trans (Ext.trans (by repeat (first | exact Ext.refl _ | assumption | refine Ext.alloc ?_ _ | refine Ext.drew ?_ | refine Ext.setCell ?_ (by first | (simp; done) | (dsimp only; omega)) _ | refine Ext.trans ?_ (by assumption))) hb5) hb6).alloc _
      have E2W := E24.trans E46
      have n4 : W.heap[w4.heap.size]? = some (.cells #[.int .u64 3, .bool false, .bool false, .bool false, .bool false, .int .u8 0] 38 (0, 0)) := by
        rw [hW]; exact (alloc_other _ _ (by have := hb5.size; have := hb6.size; simp at *; omega)).trans ((hb6.block _ (by have := hb5.size; simp at *; omega)).trans ((hb5.block _ (by simp)).trans (alloc_same ..)))
      have f0 := (heap_cell n4 0).trans rfl
      have c0 : W.cell? ⟨g, 0, none⟩ = some (.int .i64 2) := E2W.someCell c0
      have c1 : W.cell? ⟨g, 1, none⟩ = some (.int .i64 1) := E2W.someCell c1
      have c2 : W.cell? ⟨g, 2, none⟩ = some (.int .u64 2) := E2W.someCell c2
      have c3 : W.cell? ⟨g, 3, none⟩ = some (.int .i64 0) := E2W.someCell c3
      have c4 : W.cell? ⟨g, 4, none⟩ = some (.int .i64 1) := E2W.someCell c4
      have c5 : W.cell? ⟨g, 5, none⟩ = some (.int .u64 3) := E2W.someCell c5
      have hgW : g < W.heap.size := by have := E2W.size; omega
      have h4W := heap_lt n4
      have HW := Lib.hid (HR.out.2.1.trans (H2.out.trans E2W))
      clear hW n4 E46 E2W E24 hb5 hb6
      have kb1 : keyB ⟨2, 1, 2⟩ ⟨2, 1, 2⟩ = true := by decide
      have kb2 : keyB ⟨0, 1, 3⟩ ⟨0, 1, 3⟩ = true := by decide
      have kn2 : (keyN 2).val = .agg #[.int .i64 2, .int .i64 1, .int .u64 2] := rfl
      have kn3 : (keyN 3).val = .agg #[.int .i64 0, .int .i64 1, .int .u64 3] := rfl
      refine region_ext (by kernel_rfl) (by kernel_rfl) ?_; (repeat (go_big_quiet_step (first | (go_at_call 75; exact calls_wext (keyn_c _ _ (by omega) (by omega)))))); refine wpQuiet_nil ?_; intro w1 hb; have ⟨hc, hf, hh, hs⟩ := hb.facts; try simp only [World.size_alloc, World.size_setCell, World.size_drew] at hs
      go_wp2
      go_ret
      exact ⟨rfl, HW.out.trans hb⟩
end Go.Proofs.Ytnacgmmkmedpdaa
