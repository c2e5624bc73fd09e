/- Joined texts, part 43 of what the law stands on: each as its own head says. -/
import Derived.Test.YtkfonacokamfiaaGreatGoz42
import Derived.Test.YtkfonacokamfiaaGreatGoz20
/- The document's memory with some words written. -/
namespace Go.Proofs.YtkfonacokamfiaaGreat
set_option linter.unusedVariables false
set_option linter.unusedSimpArgs false
open Go.RowKit
attribute [local go_sem] wext_cell wext_frozen wext_heap alloc_cell alloc_frozen alloc_heap setCell_cell objCell_cells objFrozen_cells
def EndRBuilt (ds : List PutD) (w : World) (e : Ending) (w' : World) : Prop :=
 ∃ sa sc S, e = .returned (.agg #[.int .i64 16, .slice sa S.length sc, .slice none 0 0]) ∧ SAt w' sa sc S ∧ RefOk 16 S (builtM (ds.take 100)) ∧ S.length ≤ 100 ∧ Ext w w'
set_option maxHeartbeats 2000000 in
set_option maxRecDepth 20000 in
theorem rBuilt_c (v : Value) (ds : List PutD) (w : World) (h : ListAt w v 4 PutD.cells PutD.ok ds) :
  Calls Tryz.prog 7 #[v] w (EndRBuilt ds w) := by
 have HD := Lib.hid h
 obtain ⟨a, cap, rfl, hn, hm, hok, -⟩ := h
 unfold maxLen at hm
 have HK := Lib.hid hok
 generalize hE : EndRBuilt ds w = E
 have HE := Lib.hid hE
 clear hE hok
 go_enter Tryz.func7, Tryz.ntmps7
 go_wp2
 refine wp_gen ?_; intro V hV
 have hVE : Ext w V := by rw [hV]; exact (by repeat (first | exact Ext.refl _ | assumption | refine Ext.alloc ?_ _ | refine Ext.drew ?_ | refine Ext.setCell ?_ (by first | (simp; done) | (dsimp only; omega)) _ | refine Ext.trans ?_ (by assumption)))
 have hV0 : V.heap[w.heap.size]? = some (.cells #[.int .i64 0, .slice none 0 0, .slice none 0 0] 41 (0, 0)) := by rw [hV]; exact (alloc_other _ _ (by simp)).trans (alloc_same ..)
 have hV1 : V.heap[w.heap.size + 1]? = some (.cells #[.int .i64 16, .slice none 0 0, .slice none 0 0] 41 (0, 0)) := by rw [hV]; exact alloc_same1 ..
 obtain ⟨vb, hvb⟩ : ∃ vb, w.heap.size = vb := ⟨_, rfl⟩
 rw [hvb] at hV0 hV1 ⊢
 have hwv : w.heap.size ≤ vb := by omega
 have VE := Lib.hid hVE
 have V0 := Lib.hid hV0
 have V1 := Lib.hid hV1
 clear hV hVE hV0 hV1 hvb
 go_loopw [4] (fun iv wr => ∃ (i : Nat) (S : List (Int × Int)) (sa : Option Addr) (sc : Nat), i ≤ ds.length ∧ i ≤ 100 ∧ iv = .int .i64 i ∧ S.length ≤ i ∧ Hid (wr.heap[vb]? = some (.cells #[.int .i64 0, .slice none 0 0, .slice none 0 0] 41 (0, 0)) ∧
  wr.heap[vb + 1]? = some (.cells #[.int .i64 16, .slice sa S.length sc, .slice none 0 0] 41 (0, 0)) ∧ SAt wr sa sc S ∧ RefOk 16 S (builtM (ds.take i)) ∧ Ext w wr)) (fun iv _ => ds.length - (intOf iv).toNat)
 case atStart => exact ⟨0, [], none, 0, by omega, by omega, rfl, by simp, Lib.hid ⟨V0.out, V1.out, Owns.nil _ _ _, RefOk.nil 16, VE.out⟩⟩
 case round =>
  obtain ⟨i, S, sa, sc, hi, hi2, rfl, hSl, hR⟩ := hrel
  have c0 := (heap_cell hR.out.2.1 0).trans rfl
  have c1 := (heap_cell hR.out.2.1 1).trans rfl
  have c2 := (heap_cell hR.out.2.1 2).trans rfl
  have cl := heap_lt hR.out.2.1
  by_cases hrun : i < ds.length ∧ i < 100
  ·obtain ⟨hlt, h120⟩ := hrun
   obtain ⟨a', cap', he, -, -, -, hcl⟩ := HD.out
   obtain ⟨g, o, e1, e2, e3⟩ := hcl i hlt
   have he' : a = a' := by injection he
   have hstep := builtM_take ds i hlt
   have hdok := HK.out i hlt
   generalize ds.getD i default = d at e3 hstep hdok
   subst he'
   subst e1
   have hwr := hR.out.2.2.2.2
   have e3w : ∀ j u, d.cells[j]? = some u → wr.cell? ⟨g, o + i * 4 + j, none⟩ = some u := fun j u hu => hwr.someCell (e3 j u hu)
   have d0 : wr.cell? ⟨g, o + i * 4, none⟩ = some (.int .u16 d.s) := e3w 0 _ rfl
   have d1 := e3w 1 _ rfl
   have d2 := e3w 2 _ rfl
   have d3 := e3w 3 _ rfl
   have hgr : g < wr.heap.size := Nat.lt_of_lt_of_le e2 hwr.size
   have HAT := Lib.hid (fun w => at8_c d w hdok)
   have hs := atS_le hdok
   have hx := atX_le hdok
   have he16 := err16 (s := atS d) (by omega) hs.2.2
   have hok2 := hR.out.2.2.2.1.set hs.1 he16 hx.1 hx.2
   have hb2 : builtM (ds.take (i + 1)) = setM (builtM (ds.take i)) (atS d / 8) (atX d) := by rw [hstep]; unfold setIf; rw [if_pos he16]
   rw [← hb2] at hok2
   obtain ⟨S2, hS2⟩ : ∃ S2, setL (atS d) (atX d) false S = S2 := ⟨_, rfl⟩
   have hl2 : S2.length ≤ i + 1 := by rw [← hS2]; have := set_length (atS d) (atX d) S false; omega
   rw [hS2] at hok2
   have hst := fun w' (k : SAt w' sa sc S) => rStore_c 16 (by omega) sa none S 0 sc 0 (atS d) (atX d) w' k (by omega) hs.1 (by omega) he16
   rw [hS2] at hst
   have HST := Lib.hid hst
   have HO2 := Lib.hid hok2
   clear he hcl e3 e3w hstep hs hx hst hok2 hb2 hS2 he16 hwr
   generalize atS d = s at *
   generalize atX d = x at *
   go_upto_region 6 with (first | (go_at_call 20; refine (HAT.out _).mono ?_; rintro e w2 ⟨rfl, hb2⟩))
   have E2 : Hid (Ext wr w2) := Lib.hid (Ext.trans (by repeat (first | exact Ext.refl _ | assumption | refine Ext.alloc ?_ _ | refine Ext.drew ?_ | refine Ext.setCell ?_ (by first | (simp; done) | (dsimp only; omega)) _ | refine Ext.trans ?_ (by assumption))) hb2)
   have b1 := (E2.out.block _ (heap_lt hR.out.2.1)).trans hR.out.2.1
   clear hb2 c0 c1 c2 d0 d1 d2 d3
   have c0 := (heap_cell b1 0).trans rfl
   have c1 := (heap_cell b1 1).trans rfl
   have c2 := (heap_cell b1 2).trans rfl
   have bl := heap_lt b1
   clear b1
   go_upto_region 7 with (first | (go_at_call 22; refine (HST.out _ (SAt.ext hR.out.2.2.1 (E2.out.trans (by repeat (first | exact Ext.refl _ | assumption | refine Ext.alloc ?_ _ | refine Ext.drew ?_ | refine Ext.setCell ?_ (by first | (simp; done) | (dsimp only; omega)) _ | refine Ext.trans ?_ (by assumption)))))).mono ?_; rintro e w3 ⟨sa2, sc2, rfl, hs2, hb3⟩))
   refine wp_gen ?_; intro U hU
   have E3 : Ext wr w3 := E2.out.trans (Ext.trans (by repeat (first | exact Ext.refl _ | assumption | refine Ext.alloc ?_ _ | refine Ext.drew ?_ | refine Ext.setCell ?_ (by first | (simp; done) | (dsimp only; omega)) _ | refine Ext.trans ?_ (by assumption))) hb3)
   have hUE : Ext wr U := by rw [hU]; exact E3.alloc _
   have hUn : U.heap[w3.heap.size]? = some (.cells #[.int .i64 16, .slice sa2 S2.length sc2, .slice none 0 0] 41 (0, 0)) := by rw [hU]; exact alloc_same ..
   have hUs : SAt U sa2 sc2 S2 := by rw [hU]; exact SAt.ext hs2 ((Ext.refl _).alloc _)
   obtain ⟨nb, hnb⟩ : ∃ nb, w3.heap.size = nb := ⟨_, rfl⟩
   rw [hnb] at hUn ⊢
   have hb0 := (hUE.block _ (heap_lt hR.out.1)).trans hR.out.1
   have hb1 := (hUE.block _ (heap_lt hR.out.2.1)).trans hR.out.2.1
   have B0 := Lib.hid hb0
   have B1 := Lib.hid hb1
   have US := Lib.hid hUs
   have UE := Lib.hid (hR.out.2.2.2.2.trans hUE)
   clear hU hUE hUs hnb hb0 E3 hb3 hs2 c0 c1 c2 bl cl
   have c0 := (heap_cell hb1 0).trans rfl
   have c1 := (heap_cell hb1 1).trans rfl
   have c2 := (heap_cell hb1 2).trans rfl
   have cf := frozen_of hb1
   have cl := heap_lt hb1
   have n0 := (heap_cell hUn 0).trans rfl
   have n1 := (heap_cell hUn 1).trans rfl
   have n2 := (heap_cell hUn 2).trans rfl
   have nl := heap_lt hUn
   clear hb1 hUn
   go_wp2
   refine ⟨⟨i + 1, S2, sa2, sc2, by omega, by omega, by go_num, hl2, Lib.hid ⟨(store3_other (by omega)).trans B0.out, store3_heap B1.out, Owns.keep US.out fun g hg => store3_other (Owns.ne US.out B1.out (by decide) g hg), HO2.out, ext3 UE.out (by omega)⟩⟩, by simp [intOf]; omega⟩
  ·have hstop : (i = 100 ∧ 100 < ds.length) ∨ i = ds.length := by omega
   have hbt : builtM (ds.take i) = builtM (ds.take 100) := by
    rcases hstop with ⟨rfl, -⟩ | rfl
    ·rfl
    ·rw [List.take_of_length_le (Nat.le_refl _), List.take_of_length_le hi2]
   have HBT := Lib.hid hbt
   have r0 := (heap_cell hR.out.1 0).trans rfl
   have r1 := (heap_cell hR.out.1 1).trans rfl
   have r2 := (heap_cell hR.out.1 2).trans rfl
   have rf := frozen_of hR.out.1
   have rl := heap_lt hR.out.1
   clear hbt hrun
   rcases hstop with ⟨rfl, h100⟩ | rfl
   all_goals
    go_wp2
    refine post_gen (fun U => U.heap[vb]? = some (.cells #[.int .i64 16, .slice sa S.length sc, .slice none 0 0] 41 (0, 0)) ∧ SAt U sa sc S ∧ Ext w U) ⟨store3_heap hR.out.1, Owns.keep hR.out.2.2.1 fun g hg => store3_other (Owns.ne hR.out.2.2.1 hR.out.1 (by decide) g hg), ext3 hR.out.2.2.2.2 hwv⟩ ?_
    clear c0 c1 c2 r0 r1 r2 rf
    rintro U ⟨m3, s3, e3⟩
    have v0 := (heap_cell m3 0).trans rfl
    have v1 := (heap_cell m3 1).trans rfl
    have v2 := (heap_cell m3 2).trans rfl
    have HE3 := Lib.hid e3
    have HS3 := Lib.hid s3
    clear m3 e3 s3
    refine bodyPost_ret (by simp [results, Tryz.results7, go_sem, ↓IntWalk.iteOmega, *]; try rfl) rfl (by rw [← HE.out]; exact ⟨sa, sc, S, rfl, HS3.out, by first | exact hR.out.2.2.2.1 | (rw [← HBT.out]; exact hR.out.2.2.2.1), by omega, HE3.out⟩)
end Go.Proofs.YtkfonacokamfiaaGreat
