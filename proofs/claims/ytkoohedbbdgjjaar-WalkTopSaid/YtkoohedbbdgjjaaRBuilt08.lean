/- The laws' helper: a memory with some words written. -/
import Derived.Test.YtkoohedbbdgjjaaRPuts8
namespace Go.Proofs.YtkoohedbbdgjjaaR
set_option linter.unusedVariables false
set_option linter.unusedSimpArgs false
open Go.RowKit
attribute [local go_sem] wext_cell wext_frozen wext_heap alloc_cell alloc_frozen alloc_heap setCell_cell objCell_cells objFrozen_cells

def EndBuilt (ds : List PutD) (w : World) (e : Ending) (w' : World) : Prop :=
  ∃ mb F, e = .returned (.pointer (some ⟨mb, 0, none⟩)) ∧ MemAt w' mb F 16 (builtM (ds.take 100)) [] ∧ Ext w w' ∧ (∀ x ∈ F, w.heap.size ≤ x) ∧ w.heap.size ≤ mb
theorem MemAt.mem {w : World} {mb : Nat} {F : List Nat} {B : Int} {M : Int → Int} {T : List Int} (h : MemAt w mb F B M T) : mb ∈ F := by
  obtain ⟨pb, tv, es, clock, PL, p1, p2, p3, p4, p5, p6, p7, p8, p9, rfl, p10⟩ := h
  simp
set_option maxHeartbeats 2000000 in
set_option maxRecDepth 20000 in
theorem built_c (v : Value) (ds : List PutD) (w : World) (h : ListAt w v 4 PutD.cells PutD.ok ds) :
    Calls Try.prog 19 #[v] w (EndBuilt ds w) := by
  have HD := Lib.hid h
  obtain ⟨a, cap, rfl, hn, hm, hok, -⟩ := h
  unfold maxLen at hm
  have HK := Lib.hid hok
  have HN := Lib.hid (fun w => memNew_c 16 w ⟨by omega, by omega⟩)
  generalize hEnd : EndBuilt ds w = E
  have HEND := Aside.mk hEnd
  clear hEnd hok
  go_enter Try.func19, Try.ntmps19
  go_upto_region 2 with (first | (go_at_call 67; refine (HN.out _).mono ?_; rintro e w1 ⟨mb, F, rfl, hC, hE, hF⟩))
  have HC := Lib.hid hC
  have HE := Lib.hid hE
  have HF := Lib.hid hF
  clear hC hE hF
  go_wp2
  go_loopw [4] (fun i wr => ∃ (j : Nat) (F' : List Nat), j ≤ ds.length ∧ j ≤ 100 ∧ i = .int .i64 j ∧ Hid (MemAt wr mb F' 16 (builtM (ds.take j)) [] ∧ (∀ x ∈ F', w.heap.size ≤ x) ∧ Ext w wr)) (fun i _ => ds.length - (intOf i).toNat)
  case atStart => exact ⟨0, F, by omega, by omega, rfl, Lib.hid ⟨HC.out, HF.out, HE.out⟩⟩
  case round =>
    obtain ⟨j, F', hj, hj2, rfl, hR⟩ := hrel
    by_cases hlt : j < ds.length
    · by_cases h120 : j < 100
      · obtain ⟨a', cap', he, -, -, -, hcl⟩ := HD.out
        obtain ⟨g, o, e1, e2, e3⟩ := hcl j hlt
        have he' : a = a' := by injection he
        have hstep := builtM_take ds j hlt
        have hdok := HK.out j hlt
        generalize ds.getD j default = d at e3 hstep hdok
        subst he'
        subst e1
        have hsw := hR.out.2.2.size
        have e3w : ∀ i u, d.cells[i]? = some u → wr.cell? ⟨g, o + j * 4 + i, none⟩ = some u := fun i u hu => hR.out.2.2.someCell (e3 i u hu)
        have d0 : wr.cell? ⟨g, o + j * 4, none⟩ = some (.int .u16 d.s) := e3w 0 _ rfl
        have d1 := e3w 1 _ rfl
        have d2 := e3w 2 _ rfl
        have d3 := e3w 3 _ rfl
        have hgr : g < wr.heap.size := by omega
        have HS := Aside.mk hstep
        have HAT := Lib.hid (fun w => at8_c d w hdok)
        have hs := atS_le hdok
        have hx := atX_le hdok
        have HST := Lib.hid (fun w' (k : Ext wr w') => store_c mb F' 16 (builtM (ds.take j)) [] (atS d) (atX d) w' (hR.out.1.ext k) (by omega) (by omega) hx.1 hx.2)
        clear he hcl e3 e3w hstep hs hx
        generalize atS d = s at *
        generalize atX d = x at *
        go_wp2_with (first | (go_at_call 36; refine (HAT.out _).mono ?_; rintro e w2 ⟨rfl, hb2⟩) | (go_at_call 38; refine (HST.out _ (by repeat (first | exact Ext.refl _ | assumption | refine Ext.alloc ?_ _ | refine Ext.drew ?_ | refine Ext.setCell ?_ (by first | (simp; done) | (dsimp only; omega)) _ | refine Ext.trans ?_ (by assumption)))).mono ?_; rintro e w3 ⟨rfl, F3, q1, q2, q3⟩))
        have hFw := hR.out.2.1
        refine ⟨⟨j + 1, F3, by omega, by omega, by go_num, Lib.hid ⟨?_, ?_, ?_⟩⟩, by simp [intOf]; omega⟩
        · rw [HS.out]; exact q1
        · intro y hy
          rcases q3 y hy with k | k
          · exact hFw y k
          · have := hb2.size; omega
        · exact Keeps.to_ext (hR.out.2.2.trans (by repeat (first | exact Ext.refl _ | assumption | refine Ext.alloc ?_ _ | refine Ext.drew ?_ | refine Ext.setCell ?_ (by first | (simp; done) | (dsimp only; omega)) _ | refine Ext.trans ?_ (by assumption)))) q2 hFw
      · obtain rfl : j = 100 := by omega
        go_wp2
        (try go_ret)
        rw [← HEND.out]
        exact ⟨mb, F', rfl, hR.out.1, hR.out.2.2, hR.out.2.1, hR.out.2.1 _ hR.out.1.mem⟩
    · obtain rfl : j = ds.length := by omega
      go_wp2
      (try go_ret)
      rw [← HEND.out]
      refine ⟨mb, F', rfl, ?_, hR.out.2.2, hR.out.2.1, hR.out.2.1 _ hR.out.1.mem⟩
      have := hR.out.1
      rw [List.take_of_length_le (Nat.le_refl _)] at this
      rw [List.take_of_length_le hj2]
      exact this
end Go.Proofs.YtkoohedbbdgjjaaR
