/- Joined texts, part 37 of what the law stands on: each as its own head says. -/
import Derived.Test.YtkfonacokamfiaaGreatGoz36
import Derived.Test.YtkfonacokamfiaaGreatGoz32
import Derived.Test.YtkfonacokamfiaaGreatGoz6
import Derived.Test.YtkfonacokamfiaaGreatGoz34
import Derived.Test.YtkfonacokamfiaaGreatGoz5
import Derived.Test.YtkfonacokamfiaaGreatGoz4
/- The document's memory: set, Store. -/
namespace Go.Proofs.YtkfonacokamfiaaGreat
set_option linter.unusedVariables false
set_option linter.unusedSimpArgs false
open Go.RowKit
attribute [local go_sem] wext_cell wext_frozen wext_heap alloc_cell alloc_frozen alloc_heap setCell_cell objCell_cells objFrozen_cells
theorem slotRow : RowT Tryz.prog 38 113 2 16 := RowT.of (z := .agg #[.int .u64 0, .int .u64 0]) Tryz.underlying38 (by kernel_rfl) rfl
def EndSet (B : Int) (S' : List (Int × Int)) (ta : Option Addr) (k tc : Nat) (w : World) (e : Ending) (w' : World) : Prop :=
 ∃ sa sc, e = .returned (.agg #[.int .i64 B, .slice sa S'.length sc, .slice ta k tc]) ∧ SAt w' sa sc S' ∧ Ext w w'
set_option maxHeartbeats 4000000 in
set_option maxRecDepth 20000 in
theorem rSet_c (B : Int) (sa ta : Option Addr) (L : List (Int × Int)) (k sc tc : Nat) (a x : Int) (w : World) (h : SAt w sa sc L) (hl : L.length ≤ 1000000) :
  Calls Tryz.prog 43 #[.agg #[.int .i64 B, .slice sa L.length sc, .slice ta k tc], .int .u64 a, .int .u64 x] w (EndSet B (setL a x false L) ta k tc w) := by
 have HS := Lib.hid h
 generalize hE : EndSet B (setL a x false L) ta k tc w = E
 have HE := Lib.hid hE
 clear hE h
 go_enter Tryz.func43, Tryz.ntmps43
 go_wp2
 refine wp_gen ?_; intro W hW
 have hEW : Ext w W := by rw [hW]; exact (by repeat (first | exact Ext.refl _ | assumption | refine Ext.alloc ?_ _ | refine Ext.drew ?_ | refine Ext.setCell ?_ (by first | (simp; done) | (dsimp only; omega)) _ | refine Ext.trans ?_ (by assumption)))
 have hb0 : W.heap[w.heap.size]? = some (.cells #[.int .i64 B, .slice sa L.length sc, .slice ta k tc] 41 (0, 0)) := by rw [hW]; exact (alloc_other _ _ (by simp)).trans (alloc_same ..)
 have hb1 : W.heap[w.heap.size + 1]? = some (.cells #[.int .i64 0, .slice none 0 0, .slice none 0 0] 41 (0, 0)) := by rw [hW]; exact alloc_same1 ..
 have hsz : w.heap.size + 2 ≤ W.heap.size := by rw [hW]; simp
 obtain ⟨pb, hpb⟩ : ∃ pb, w.heap.size = pb := ⟨_, rfl⟩
 have h01 : w.heap.size ≤ pb ∧ w.heap.size ≤ pb + 1 ∧ w.heap.size ≤ pb + 2 := by omega
 obtain ⟨h01, h02, h03⟩ := h01
 rw [hpb] at hb0 hb1 hsz ⊢
 have EW := Lib.hid hEW
 have B0 := Lib.hid hb0
 have B1 := Lib.hid hb1
 clear hW hpb hEW hb0 hb1
 go_loopw [7, 8, 9] (fun o d i wr => ∃ (j : Nat) (K : List (Int × Int)) (db : Bool) (oa : Option Addr) (n oc : Nat), j ≤ L.length ∧ i = .int .i64 j ∧ d = .bool db ∧ o = .slice oa n oc ∧ n = K.length ∧ n ≤ j + 1 ∧ Hid (db = false → n ≤ j) ∧ pb + 2 ≤ wr.heap.size ∧ Hid (setL a x false L = K ++ setL a x db (L.drop j)) ∧
  Hid (Owns wr 113 2 (.slice oa n oc) n (rowW K) ∧ (∀ g, (Value.slice oa n oc).ownBlock = some g → pb + 2 ≤ g) ∧ Ext w wr ∧
   wr.heap[pb]? = some (.cells #[.int .i64 B, .slice sa L.length sc, .slice ta k tc] 41 (0, 0)) ∧ wr.heap[pb + 1]? = some (.cells #[.int .i64 0, .slice none 0 0, .slice none 0 0] 41 (0, 0)))) (fun _ _ i _ => L.length - (intOf i).toNat)
 case atStart => exact ⟨0, [], false, none, 0, 0, by omega, rfl, rfl, rfl, rfl, by omega, Lib.hid (fun _ => Nat.le_refl _), hsz, Lib.hid (by simp), Lib.hid ⟨by simpa [rowW] using Owns.nil _ _ _, fun g hg => by simp [Value.ownBlock] at hg, EW.out, B0.out, B1.out⟩⟩
 case round =>
  obtain ⟨j, K, db, oa, n, oc, hj, rfl, rfl, rfl, hn, hnj, hNJ, hwr, hK, hR⟩ := hrel
  obtain ⟨hO, hG, hX, hp, hq⟩ := hR.out
  have c1 := (heap_cell hp 1).trans rfl
  have hlp := heap_lt hp
  have hlq := heap_lt hq
  have HO := Lib.hid hO
  have HG := Lib.hid hG
  have HX := Lib.hid hX
  have P0 := Lib.hid hp
  have P1 := Lib.hid hq
  have HN := Lib.hid hn
  clear hO hG hX hR hn
  by_cases hlt : j < L.length
  ·obtain ⟨g, rfl, hgl, d0, d1⟩ := (HS.out.ext HX.out).at hlt
   clear hp hq
   have hd : L.drop j = wAt L j :: L.drop (j + 1) := by
    rw [List.drop_eq_getElem_cons hlt]
    congr 1
    simp [wAt, List.getD, hlt]
   have HK : Hid (setL a x false L = K ++ setL a x db (wAt L j :: L.drop (j + 1))) := Lib.hid (by rw [← hd]; exact hK.out)
   obtain ⟨z, hz0⟩ : ∃ z, wAt L j = z := ⟨_, rfl⟩
   rw [hz0] at d0 d1 HK
   obtain ⟨z1, z2⟩ := z
   have hZ := Lib.hid hz0
   clear hz0
   dsimp only at d0 d1
   clear hd hK
   by_cases hz : z1 = a
   ·have HK2 : Hid (setL a x false L = K ++ setL a x db (L.drop (j + 1))) := Lib.hid (by rw [HK.out, setL_same hz])
    have hzb : (z1 == a) = true := by simpa using hz
    clear hz HK
    go_wp2
    refine ⟨⟨j + 1, K, db, oa, n, oc, by omega, by go_num, rfl, rfl, HN.out, by omega, Lib.hid (fun h => Nat.le_succ_of_le (hNJ.out h)), hwr, HK2, Lib.hid ⟨HO.out, HG.out, HX.out, P0.out, P1.out⟩⟩, by simp [intOf]; omega⟩
   have hzb : (z1 == a) = false := by simpa using hz
   cases db
   case true =>
    have hNM : Hid (true = false → n + 1 ≤ j + 1) := Lib.hid (fun h => by cases h)
    have HK2 : Hid (setL a x false L = (K ++ [(z1, z2)]) ++ setL a x true (L.drop (j + 1))) := Lib.hid (by rw [HK.out, setL_done hz]; simp)
    clear hz HK
    have HA := Lib.hid (HO.out.ext ((Ext.refl wr).alloc (.cells #[.int .u64 z1, .int .u64 z2] 113)))
    go_wp2_with (first | (at_builtin; refine wpList_append_owns rfl _ _ _ _ 2 16 slotRow rfl _ rfl n _ HA.out _ 1 1 rfl [.int .u64 z1, .int .u64 z2] rfl (fun j u hu => by rw [add0, heap_cell (alloc_same wr _) j]; simpa using hu) (by simp [Value.oneCell']) (by unfold maxLen; omega) (by omega) ?_; intro v9 w9 q1 q2 q3; replace q2 : (wr.alloc (.cells #[.int .u64 z1, .int .u64 z2] 113)).grownBy w9 (Value.slice oa n oc).ownBlock := q2; replace q3 : v9.ownBlock = (Value.slice oa n oc).ownBlock ∨ v9.ownBlock = some (wr.alloc (.cells #[.int .u64 z1, .int .u64 z2] 113)).heap.size := q3; obtain ⟨a9, c9, rfl, -, -⟩ := q1.form; simp only [Act.put, Array.set!_eq_setIfInBounds, List.setIfInBounds_toArray, List.set_cons_succ, List.set_cons_zero]))
    all_goals
     have ⟨g1, g2, g3, g4⟩ := grown_after (prev := Value.slice oa n oc) (o := (.cells #[.int .u64 z1, .int .u64 z2] 113)) (base := pb + 2) hwr h03 HX.out HG.out q2 q3
     refine ⟨⟨j + 1, K ++ [(z1, z2)], true, a9, n + 1, c9, by omega, by go_num, rfl, rfl, by rw [List.length_append, HN.out]; rfl, by omega, hNM, g4, HK2, Lib.hid ⟨by rw [rowW_append]; simpa [rowW] using q1, g3, g1, g2 _ _ (by omega) P0.out, g2 _ _ (by omega) P1.out⟩⟩, by simp [intOf]; omega⟩
   case false =>
    by_cases hlt2 : a < z1
    case neg =>
     have hNM : Hid (false = false → n + 1 ≤ j + 1) := Lib.hid (fun _ => Nat.succ_le_succ (hNJ.out rfl))
     have HK2 : Hid (setL a x false L = (K ++ [(z1, z2)]) ++ setL a x false (L.drop (j + 1))) := Lib.hid (by rw [HK.out, setL_on hz hlt2]; simp)
     have hgb : decide (a < z1) = false := by simpa using hlt2
     clear hz HK
     have HA := Lib.hid (HO.out.ext ((Ext.refl wr).alloc (.cells #[.int .u64 z1, .int .u64 z2] 113)))
     go_wp2_with (first | (at_builtin; refine wpList_append_owns rfl _ _ _ _ 2 16 slotRow rfl _ rfl n _ HA.out _ 1 1 rfl [.int .u64 z1, .int .u64 z2] rfl (fun j u hu => by rw [add0, heap_cell (alloc_same wr _) j]; simpa using hu) (by simp [Value.oneCell']) (by unfold maxLen; omega) (by omega) ?_; intro v9 w9 q1 q2 q3; replace q2 : (wr.alloc (.cells #[.int .u64 z1, .int .u64 z2] 113)).grownBy w9 (Value.slice oa n oc).ownBlock := q2; replace q3 : v9.ownBlock = (Value.slice oa n oc).ownBlock ∨ v9.ownBlock = some (wr.alloc (.cells #[.int .u64 z1, .int .u64 z2] 113)).heap.size := q3; obtain ⟨a9, c9, rfl, -, -⟩ := q1.form; simp only [Act.put, Array.set!_eq_setIfInBounds, List.setIfInBounds_toArray, List.set_cons_succ, List.set_cons_zero]))
     all_goals
      have ⟨g1, g2, g3, g4⟩ := grown_after (prev := Value.slice oa n oc) (o := (.cells #[.int .u64 z1, .int .u64 z2] 113)) (base := pb + 2) hwr h03 HX.out HG.out q2 q3
      refine ⟨⟨j + 1, K ++ [(z1, z2)], false, a9, n + 1, c9, by omega, by go_num, rfl, rfl, by rw [List.length_append, HN.out]; rfl, by omega, hNM, g4, HK2, Lib.hid ⟨by rw [rowW_append]; simpa [rowW] using q1, g3, g1, g2 _ _ (by omega) P0.out, g2 _ _ (by omega) P1.out⟩⟩, by simp [intOf]; omega⟩
    have HK2 : Hid (setL a x false L = (K ++ [(a, x)] ++ [(z1, z2)]) ++ setL a x true (L.drop (j + 1))) := Lib.hid (by rw [HK.out, setL_in hz hlt2]; simp)
    have hgb : decide (a < z1) = true := by simpa using hlt2
    clear hz HK
    have HA := Lib.hid (HO.out.ext ((Ext.refl wr).alloc (.cells #[.int .u64 a, .int .u64 x] 113)))
    go_upto_region 9 with (first | (at_builtin; refine wpList_append_owns rfl _ _ _ _ 2 16 slotRow rfl _ rfl n _ HA.out _ 1 1 rfl [.int .u64 a, .int .u64 x] rfl (fun j u hu => by rw [add0, heap_cell (alloc_same wr _) j]; simpa using hu) (by simp [Value.oneCell']) (by unfold maxLen; omega) (by omega) ?_; intro v8 w8 q1 q2 q3; replace q2 : (wr.alloc (.cells #[.int .u64 a, .int .u64 x] 113)).grownBy w8 (Value.slice oa n oc).ownBlock := q2; replace q3 : v8.ownBlock = (Value.slice oa n oc).ownBlock ∨ v8.ownBlock = some (wr.alloc (.cells #[.int .u64 a, .int .u64 x] 113)).heap.size := q3; obtain ⟨a8, c8, rfl, -, -⟩ := q1.form; simp only [Act.put, Array.set!_eq_setIfInBounds, List.setIfInBounds_toArray, List.set_cons_succ, List.set_cons_zero]))
    have ⟨g1, g2, g3, g4⟩ := grown_after (prev := Value.slice oa n oc) (o := (.cells #[.int .u64 a, .int .u64 x] 113)) (base := pb + 2) hwr h03 HX.out HG.out q2 q3
    have HX8 := Lib.hid g1
    have HG8 := Lib.hid g3
    have P8 := Lib.hid (g2 _ _ (by omega) P0.out)
    have Q8 := Lib.hid (g2 _ _ (by omega) P1.out)
    have HO8 : Hid (Owns w8 113 2 (.slice a8 (n + 1) c8) (n + 1) (rowW (K ++ [(a, x)]))) := Lib.hid (by rw [rowW_append]; simpa [rowW] using q1)
    have e1 := (heap_cell P8.out 1).trans rfl
    have hlp8 := heap_lt P8.out
    clear q1 q2 q3 g1 g2 g3 c1 d0 d1
    obtain ⟨g', hg', hgl', d0, d1⟩ := (HS.out.ext HX8.out).at hlt
    simp only [Option.some.injEq, Addr.mk.injEq, and_true] at hg'
    subst hg'
    rw [hZ.out] at d0 d1
    dsimp only at d0 d1
    have HA8 := Lib.hid (HO8.out.ext ((Ext.refl w8).alloc (.cells #[.int .u64 z1, .int .u64 z2] 113)))
    go_wp2_with (first | (at_builtin; refine wpList_append_owns rfl _ _ _ _ 2 16 slotRow rfl _ rfl (n + 1) _ HA8.out _ 1 1 rfl [.int .u64 z1, .int .u64 z2] rfl (fun j u hu => by rw [add0, heap_cell (alloc_same w8 _) j]; simpa using hu) (by simp [Value.oneCell']) (by unfold maxLen; omega) (by omega) ?_; intro v9 w9 q1 q2 q3; replace q2 : (w8.alloc (.cells #[.int .u64 z1, .int .u64 z2] 113)).grownBy w9 (Value.slice a8 (n + 1) c8).ownBlock := q2; replace q3 : v9.ownBlock = (Value.slice a8 (n + 1) c8).ownBlock ∨ v9.ownBlock = some (w8.alloc (.cells #[.int .u64 z1, .int .u64 z2] 113)).heap.size := q3; obtain ⟨a9, c9, rfl, -, -⟩ := q1.form; simp only [Act.put, Array.set!_eq_setIfInBounds, List.setIfInBounds_toArray, List.set_cons_succ, List.set_cons_zero]))
    all_goals
     have ⟨g1, g2, g3, g5⟩ := grown_after (prev := Value.slice a8 (n + 1) c8) (o := (.cells #[.int .u64 z1, .int .u64 z2] 113)) (base := pb + 2) g4 h03 HX8.out HG8.out q2 q3
     refine ⟨⟨j + 1, K ++ [(a, x)] ++ [(z1, z2)], true, a9, n + 1 + 1, c9, by omega, by go_num, rfl, rfl, by rw [List.length_append, List.length_append, HN.out]; rfl, by have := hNJ.out rfl; omega, Lib.hid (fun h => by cases h), g5, HK2, Lib.hid ⟨by rw [rowW_append]; simpa [rowW] using q1, g3, g1, g2 _ _ (by omega) P8.out, g2 _ _ (by omega) Q8.out⟩⟩, by simp [intOf]; omega⟩
  ·have hdn : L.drop j = [] := List.drop_of_length_le (by omega)
   have HK2 : Hid (setL a x false L = K ++ setL a x db []) := Lib.hid (by rw [← hdn]; exact hK.out)
   clear hK hdn
   have fin : ∀ (V : World) (J : List (Int × Int)) (ja : Option Addr) (jc : Nat), setL a x false L = J → Owns V 113 2 (.slice ja J.length jc) J.length (rowW J) → (∀ g, (Value.slice ja J.length jc).ownBlock = some g → pb + 2 ≤ g) → Ext w V →
     V.heap[pb]? = some (.cells #[.int .i64 B, .slice sa L.length sc, .slice ta k tc] 41 (0, 0)) → V.heap[pb + 1]? = some (.cells #[.int .i64 0, .slice none 0 0, .slice none 0 0] 41 (0, 0)) →
     ((((V.setCell ⟨pb, 1, none⟩ (.slice ja J.length jc)).setCell ⟨pb + 1, 0, none⟩ (.int .i64 B)).setCell ⟨pb + 1, 1, none⟩ (.slice ja J.length jc)).setCell ⟨pb + 1, 2, none⟩ (.slice ta k tc)).heap[pb + 1]? = some (.cells #[.int .i64 B, .slice ja J.length jc, .slice ta k tc] 41 (0, 0)) ∧
     SAt ((((V.setCell ⟨pb, 1, none⟩ (.slice ja J.length jc)).setCell ⟨pb + 1, 0, none⟩ (.int .i64 B)).setCell ⟨pb + 1, 1, none⟩ (.slice ja J.length jc)).setCell ⟨pb + 1, 2, none⟩ (.slice ta k tc)) ja jc (setL a x false L) ∧
     Ext w ((((V.setCell ⟨pb, 1, none⟩ (.slice ja J.length jc)).setCell ⟨pb + 1, 0, none⟩ (.int .i64 B)).setCell ⟨pb + 1, 1, none⟩ (.slice ja J.length jc)).setCell ⟨pb + 1, 2, none⟩ (.slice ta k tc)) := fun V J ja jc e h1 h2 h3 h4 h5 => by
    refine ⟨setCell_heap_same (setCell_heap_same (setCell_heap_same ((setCell_heap _ _ _ _ _ (by omega)).trans h5))), ?_, ?_⟩
    ·rw [e]
     refine Owns.keep h1 fun g hg => ?_
     have := h2 g hg
     rw [setCell_heap _ _ _ _ _ (by omega), setCell_heap _ _ _ _ _ (by omega), setCell_heap _ _ _ _ _ (by omega), setCell_heap _ _ _ _ _ (by omega)]
    ·exact Ext.setCell (Ext.setCell (Ext.setCell (Ext.setCell h3 (by dsimp only; omega) _) (by dsimp only; omega) _) (by dsimp only; omega) _) (by dsimp only; omega) _
   have FIN := Lib.hid fin
   clear fin
   cases db
   case true =>
    have HK3 : Hid (setL a x false L = K) := Lib.hid (by rw [HK2.out]; simp [setL])
    have y0 := (heap_cell hp 0).trans rfl
    have y2 := (heap_cell hp 2).trans rfl
    have x0 := (heap_cell hq 0).trans rfl
    have x1 := (heap_cell hq 1).trans rfl
    have x2 := (heap_cell hq 2).trans rfl
    have pf := frozen_of hp
    have qf := frozen_of hq
    clear hp hq HK2
    go_wp2
    obtain rfl := HN.out
    have ⟨r1, r2, r3⟩ := FIN.out wr K oa oc HK3.out HO.out HG.out HX.out P0.out P1.out
    refine post_gen (fun V => V.heap[pb + 1]? = some (.cells #[.int .i64 B, .slice oa K.length oc, .slice ta k tc] 41 (0, 0)) ∧ SAt V oa oc (setL a x false L) ∧ Ext w V) ⟨r1, r2, r3⟩ ?_
    clear r1 r2 r3 y0 y2 x0 x1 x2 pf qf c1
    rintro V ⟨m, s, e⟩
    have v0 := (heap_cell m 0).trans rfl
    have v1 := (heap_cell m 1).trans rfl
    have v2 := (heap_cell m 2).trans rfl
    have SS := Lib.hid s
    have EE := Lib.hid e
    clear m s e
    refine bodyPost_ret (by simp [results, Tryz.results43, go_sem, ↓IntWalk.iteOmega, *]; try rfl) rfl (by rw [← HE.out]; exact ⟨oa, oc, by rw [HK3.out], SS.out, EE.out⟩)
   case false =>
    have HK3 : Hid (setL a x false L = K ++ [(a, x)]) := Lib.hid (by rw [HK2.out]; simp [setL])
    clear hp hq HK2
    have HA := Lib.hid (HO.out.ext ((Ext.refl wr).alloc (.cells #[.int .u64 a, .int .u64 x] 113)))
    go_upto_region 13 with (first | (at_builtin; refine wpList_append_owns rfl _ _ _ _ 2 16 slotRow rfl _ rfl n _ HA.out _ 1 1 rfl [.int .u64 a, .int .u64 x] rfl (fun j u hu => by rw [add0, heap_cell (alloc_same wr _) j]; simpa using hu) (by simp [Value.oneCell']) (by unfold maxLen; omega) (by omega) ?_; intro v8 w8 q1 q2 q3; replace q2 : (wr.alloc (.cells #[.int .u64 a, .int .u64 x] 113)).grownBy w8 (Value.slice oa n oc).ownBlock := q2; replace q3 : v8.ownBlock = (Value.slice oa n oc).ownBlock ∨ v8.ownBlock = some (wr.alloc (.cells #[.int .u64 a, .int .u64 x] 113)).heap.size := q3; obtain ⟨a8, c8, rfl, -, -⟩ := q1.form; simp only [Act.put, Array.set!_eq_setIfInBounds, List.setIfInBounds_toArray, List.set_cons_succ, List.set_cons_zero]))
    have ⟨g1, g2, g3, g4⟩ := grown_after (prev := Value.slice oa n oc) (o := (.cells #[.int .u64 a, .int .u64 x] 113)) (base := pb + 2) hwr h03 HX.out HG.out q2 q3
    have hp := g2 _ _ (by omega) P0.out
    have hq := g2 _ _ (by omega) P1.out
    have y0 := (heap_cell hp 0).trans rfl
    have y1 := (heap_cell hp 1).trans rfl
    have y2 := (heap_cell hp 2).trans rfl
    have x0 := (heap_cell hq 0).trans rfl
    have x1 := (heap_cell hq 1).trans rfl
    have x2 := (heap_cell hq 2).trans rfl
    have pf := frozen_of hp
    have qf := frozen_of hq
    have hlp8 := heap_lt hp
    have hlq8 := heap_lt hq
    have hJ : (K ++ [(a, x)]).length = n + 1 := by rw [List.length_append, HN.out]; rfl
    have RR := FIN.out w8 (K ++ [(a, x)]) a8 c8 HK3.out (by rw [hJ, rowW_append]; simpa [rowW] using q1) (by rw [hJ]; exact g3) g1 hp hq
    rw [hJ] at RR
    have FF := Lib.hid RR
    clear hp hq q1 q2 q3 g1 g2 g3 c1 RR hJ
    go_wp2
    refine post_gen (fun V => V.heap[pb + 1]? = some (.cells #[.int .i64 B, .slice a8 (n + 1) c8, .slice ta k tc] 41 (0, 0)) ∧ SAt V a8 c8 (setL a x false L) ∧ Ext w V) FF.out ?_
    clear y0 y1 y2 x0 x1 x2 pf qf
    rintro V ⟨m, s, e⟩
    have v0 := (heap_cell m 0).trans rfl
    have v1 := (heap_cell m 1).trans rfl
    have v2 := (heap_cell m 2).trans rfl
    have SS := Lib.hid s
    have EE := Lib.hid e
    clear m s e
    refine bodyPost_ret (by simp [results, Tryz.results43, go_sem, ↓IntWalk.iteOmega, *]; try rfl) rfl (by rw [← HE.out]; exact ⟨a8, c8, by rw [HK3.out, List.length_append, HN.out]; rfl, SS.out, EE.out⟩)
end Go.Proofs.YtkfonacokamfiaaGreat
/- The document's memory: Store, Same. -/
namespace Go.Proofs.YtkfonacokamfiaaGreat
set_option linter.unusedVariables false
set_option linter.unusedSimpArgs false
open Go.RowKit
attribute [local go_sem] wext_cell wext_frozen wext_heap alloc_cell alloc_frozen alloc_heap setCell_cell objCell_cells objFrozen_cells
def EndStore (B : Int) (S' : List (Int × Int)) (ta : Option Addr) (k tc : Nat) (w : World) (e : Ending) (w' : World) : Prop :=
 ∃ sa sc, e = .returned (.tuple #[.agg #[.int .i64 B, .slice sa S'.length sc, .slice ta k tc], .int .i64 0]) ∧ SAt w' sa sc S' ∧ Ext w w'
set_option maxHeartbeats 2000000 in
set_option maxRecDepth 20000 in
theorem rStore_c (B : Int) (hB : 14 ≤ B ∧ B ≤ 22) (sa ta : Option Addr) (S : List (Int × Int)) (k sc tc : Nat) (a x : Int) (w : World) (h : SAt w sa sc S) (hl : S.length ≤ 1000000) (h0 : 0 ≤ a) (h1 : a ≤ 18446744073709551615) (he : errM B a = 0) :
  Calls Tryz.prog 22 #[.agg #[.int .i64 B, .slice sa S.length sc, .slice ta k tc], .int .u64 a, .int .u64 x] w (EndStore B (setL a x false S) ta k tc w) := by
 have hp := fun w h => rPeek_c B hB sa ta S sc k tc a w h hl h0 h1
 rw [if_pos he, he] at hp
 have HP := Lib.hid hp
 have HQ := Lib.hid (fun w h => rSet_c B sa ta S k sc tc a x w h hl)
 have HS := Lib.hid h
 generalize hE : EndStore B (setL a x false S) ta k tc w = E
 have HE := Lib.hid hE
 generalize wordL a S = y at HP
 clear hE hp he h hB
 go_enter Tryz.func22, Tryz.ntmps22
 go_wp2_with (first | (go_at_call 42; refine (HP.out _ (HS.out.ext (by repeat (first | exact Ext.refl _ | assumption | refine Ext.alloc ?_ _ | refine Ext.drew ?_ | refine Ext.setCell ?_ (by first | (simp; done) | (dsimp only; omega)) _ | refine Ext.trans ?_ (by assumption))))).mono ?_; rintro e w1 ⟨rfl, hb1⟩; have ⟨hc, hf, hh, hs⟩ := hb1.facts; try simp only [World.size_alloc, World.size_setCell, World.size_drew] at hs) | (go_at_call 43; refine (HQ.out _ (HS.out.ext (Ext.trans (by repeat (first | exact Ext.refl _ | assumption | refine Ext.alloc ?_ _ | refine Ext.drew ?_ | refine Ext.setCell ?_ (by first | (simp; done) | (dsimp only; omega)) _ | refine Ext.trans ?_ (by assumption))) hb1))).mono ?_; rintro e w2 ⟨sa2, sc2, rfl, hs2, hb2⟩; have ⟨hc2, hf2, hh2, hz2⟩ := hb2.facts))
 have A1 := (hb1.block (w.heap.size + 1) (by simp)).trans (alloc_same1 ..)
 have A2 := (hb2.block _ (heap_lt A1)).trans A1
 have E2 : Ext w w2 := Ext.trans (Ext.trans (by repeat (first | exact Ext.refl _ | assumption | refine Ext.alloc ?_ _ | refine Ext.drew ?_ | refine Ext.setCell ?_ (by first | (simp; done) | (dsimp only; omega)) _ | refine Ext.trans ?_ (by assumption))) hb1) hb2
 refine post_gen (fun U => U.heap[w.heap.size + 1]? = some (.cells #[.int .i64 B, .slice sa2 (setL a x false S).length sc2, .slice ta k tc] 41 (0, 0)) ∧ SAt U sa2 sc2 (setL a x false S) ∧ Ext w U) ⟨setCell_heap_same (setCell_heap_same (setCell_heap_same A2)), ?_, Ext.setCell (Ext.setCell (Ext.setCell E2 (by simp) _) (by simp) _) (by simp) _⟩ ?_
 ·refine Owns.keep hs2 fun g hg => ?_
  obtain ⟨c, hc'⟩ := Owns.heap hs2 g hg
  have hne : w.heap.size + 1 ≠ g := fun e => by
   rw [← e, A2] at hc'
   simp only [Option.some.injEq, Obj.cells.injEq] at hc'
   exact absurd hc'.2.1 (by decide)
  rw [setCell_heap _ _ _ _ _ hne, setCell_heap _ _ _ _ _ hne, setCell_heap _ _ _ _ _ hne]
 clear hc hf hh hs hb1 hc2 hf2 hh2 hz2 hb2 A1 A2 E2 hs2
 rintro U ⟨m3, s3, e3⟩
 have v0 := (heap_cell m3 0).trans rfl
 have v1 := (heap_cell m3 1).trans rfl
 have v2 := (heap_cell m3 2).trans rfl
 have HE3 := Lib.hid e3
 have HS3 := Lib.hid s3
 clear m3 e3 s3
 refine bodyPost_ret (by simp [results, Tryz.results22, go_sem, ↓IntWalk.iteOmega, *]; try rfl) rfl (by rw [← HE.out]; exact ⟨sa2, sc2, rfl, HS3.out, HE3.out⟩)
def WsAt (w : World) (a : Option Addr) (T : List Int) : Prop := ∀ i, i < T.length → ∃ g o, a = some ⟨g, o, none⟩ ∧ g < w.heap.size ∧ w.cell? ⟨g, o + i, none⟩ = some (.int .u64 (T.getD i 0))
theorem TrAt.ws {w : World} {ta : Option Addr} {tc : Nat} {T : List Int} (h : TrAt w ta tc T) : WsAt w ta T := fun i hi => by
 obtain ⟨g, hg⟩ : ∃ g, ta = some ⟨g, 0, none⟩ := by
  rcases h.2 with ⟨h1, h0⟩ | ⟨g, _, _, he, _⟩
  ·omega
  ·exact ⟨g, by injection he⟩
 subst hg
 exact ⟨g, 0, rfl, h.lt g rfl, by rw [Nat.zero_add]; exact h.cells (g := g) rfl i _ (by simp [List.getD, hi])⟩
theorem WsAt.ext {U V : World} {a : Option Addr} {T : List Int} (h : WsAt U a T) (k : Ext U V) : WsAt V a T := fun i hi => by
 obtain ⟨g, o, h1, h2, h3⟩ := h i hi
 exact ⟨g, o, h1, Nat.lt_of_lt_of_le h2 k.size, k.someCell h3⟩
set_option maxHeartbeats 2000000 in
theorem rSame_c (a b : Option Addr) (T K : List Int) (ac bc : Nat) (w : World) (ha : WsAt w a T) (hb : WsAt w b K) (hl : T.length ≤ 1000000) (hk : K.length ≤ 1000000) :
  Calls Tryz.prog 9 #[.slice a T.length ac, .slice b K.length bc] w fun e w' => e = .returned (.bool (decide (T = K))) ∧ Ext w w' := by
 have HA := Lib.hid ha
 have HB := Lib.hid hb
 clear ha hb
 obtain ⟨r, hr⟩ : ∃ r, decide (T = K) = r := ⟨_, rfl⟩
 rw [hr]
 have HR := Lib.hid hr
 clear hr
 by_cases hq : T.length = K.length
 case neg =>
  have e1 : ((T.length : Int) != (K.length : Int)) = true := by rw [bne_iff_ne]; omega
  have : r = false := by rw [← HR.out]; simp; intro e; rw [e] at hq; exact hq rfl
  subst this
  clear hq
  go_enter Tryz.func9, Tryz.ntmps9
  go_wp2
  go_ret
  exact ⟨rfl, (by repeat (first | exact Ext.refl _ | assumption | refine Ext.alloc ?_ _ | refine Ext.drew ?_ | refine Ext.setCell ?_ (by first | (simp; done) | (dsimp only; omega)) _ | refine Ext.trans ?_ (by assumption)))⟩
 have e1 : ((T.length : Int) != (K.length : Int)) = false := by rw [hq]; simp
 have HQ := Lib.hid hq
 have hfull : Hid (r = decide (T.drop 0 = K.drop 0)) := Lib.hid (by rw [← HR.out]; simp)
 clear hq
 generalize hE : (fun (e : Ending) (w' : World) => e = .returned (.bool r) ∧ Ext w w') = E
 have HE := Lib.hid hE
 clear hE
 go_enter Tryz.func9, Tryz.ntmps9
 go_wp2
 clear e1
 go_loopw [5] (fun i wr => ∃ j : Nat, j ≤ T.length ∧ i = .int .i64 j ∧ Hid (Ext w wr ∧ r = decide (T.drop j = K.drop j))) (fun i _ => T.length - (intOf i).toNat)
 case atStart => exact ⟨0, by omega, rfl, Lib.hid ⟨Ext.refl _, hfull.out⟩⟩
 case round =>
  obtain ⟨j, hj, rfl, hR⟩ := hrel
  by_cases hlt : j < T.length
  ·have hlt2 : j < K.length := by rw [← HQ.out]; exact hlt
   obtain ⟨g1, o1, rfl, hg1, d1⟩ := (HA.out.ext hR.out.1) j hlt
   obtain ⟨g2, o2, rfl, hg2, d2⟩ := (HB.out.ext hR.out.1) j hlt2
   have hd : ∀ L : List Int, j < L.length → L.drop j = L.getD j 0 :: L.drop (j + 1) := fun L h => by
    rw [List.drop_eq_getElem_cons h]
    congr 1
    simp [List.getD, h]
   have hst : r = (decide (T.getD j 0 = K.getD j 0) && decide (T.drop (j + 1) = K.drop (j + 1))) := by
    rw [hR.out.2, hd T hlt, hd K hlt2]; simp [List.cons.injEq]
   generalize T.getD j 0 = x at d1 hst
   generalize K.getD j 0 = y at d2 hst
   by_cases hxy : x = y
   ·have HT : Hid (r = decide (T.drop (j + 1) = K.drop (j + 1))) := Lib.hid (by rw [hst]; simp [hxy])
    have hne : (x != y) = false := by simpa using hxy
    clear hst hd hxy
    go_upto_region 6 with (fail)
    refine region_ext (by kernel_rfl) (by kernel_rfl) ?_; (repeat (go_big_quiet_step (fail))); refine wpQuiet_nil ?_; intro w1 hb; have ⟨hc, hf, hh, hs⟩ := hb.facts; try simp only [World.size_alloc, World.size_setCell, World.size_drew] at hs
    go_wp2
    refine ⟨⟨j + 1, by omega, by go_num, Lib.hid ⟨hR.out.1.trans (by repeat (first | exact Ext.refl _ | assumption | refine Ext.alloc ?_ _ | refine Ext.drew ?_ | refine Ext.setCell ?_ (by first | (simp; done) | (dsimp only; omega)) _ | refine Ext.trans ?_ (by assumption))), HT.out⟩⟩, by simp [intOf]; omega⟩
   ·have HT : Hid (r = false) := Lib.hid (by rw [hst]; simp [hxy])
    have hne : (x != y) = true := by simpa using hxy
    clear hst hd hxy
    go_upto_region 6 with (fail)
    refine region_ext (by kernel_rfl) (by kernel_rfl) ?_; (repeat (go_big_quiet_step (fail))); refine wpQuiet_nil ?_; intro w1 hb; have ⟨hc, hf, hh, hs⟩ := hb.facts; try simp only [World.size_alloc, World.size_setCell, World.size_drew] at hs
    go_wp2
    all_goals
     (try go_ret)
     rw [← HE.out]
     exact ⟨by rw [HT.out]; rfl, hR.out.1.trans (by repeat (first | exact Ext.refl _ | assumption | refine Ext.alloc ?_ _ | refine Ext.drew ?_ | refine Ext.setCell ?_ (by first | (simp; done) | (dsimp only; omega)) _ | refine Ext.trans ?_ (by assumption)))⟩
  ·have HT : Hid (r = true) := Lib.hid (by rw [hR.out.2, List.drop_of_length_le (by omega), List.drop_of_length_le (by have := HQ.out; omega)]; simp)
   go_wp2
   all_goals
    (try go_ret)
    rw [← HE.out]
    exact ⟨by rw [HT.out]; rfl, hR.out.1.trans (by repeat (first | exact Ext.refl _ | assumption | refine Ext.alloc ?_ _ | refine Ext.drew ?_ | refine Ext.setCell ?_ (by first | (simp; done) | (dsimp only; omega)) _ | refine Ext.trans ?_ (by assumption)))⟩
end Go.Proofs.YtkfonacokamfiaaGreat
/- The document's entries: slots, leaves, reserved bits, frames. -/
namespace Go.Proofs.YtkfonacokamfiaaGreat
set_option linter.unusedVariables false
set_option linter.unusedSimpArgs false
open Go.RowKit
attribute [local go_sem] wext_cell wext_frozen wext_heap alloc_cell alloc_frozen alloc_heap setCell_cell objCell_cells objFrozen_cells
theorem rIndex_c (a l : Int) (w : World) (h0 : 0 ≤ a) (h1 : a ≤ 18446744073709551615) (hl0 : 1 ≤ l) (hl1 : l ≤ 4) :
  Calls Tryz.prog 83 #[.int .u64 a, .int .i64 l] w fun e w' => e = .returned (.int .i64 (idxI a l)) ∧ Ext w w' := by
 have key : ∀ (p : Int) (n : Int), 0 ≤ n → n ≤ 63 → pow2 n = p → ∀ w, Calls Tryz.prog 84 #[.int .i64 n] w fun e w' => e = .returned (.int .u64 p) ∧ Ext w w' := fun p n h1 h2 e w => by rw [← e]; exact power_c n w h1 h2
 rcases (show l = 1 ∨ l = 2 ∨ l = 3 ∨ l = 4 by omega) with rfl | rfl | rfl | rfl
 ·have HP := Lib.hid (key 4096 12 (by omega) (by omega) (by decide))
  clear key
  go_enter Tryz.func83, Tryz.ntmps83
  go_wp2_with (first | (go_at_call 84; refine (HP.out _).mono ?_; rintro e w1 ⟨rfl, hb1⟩))
  go_ret
  exact ⟨rfl, hb1⟩
 ·have HP := Lib.hid (key 2097152 21 (by omega) (by omega) (by decide))
  clear key
  go_enter Tryz.func83, Tryz.ntmps83
  go_wp2_with (first | (go_at_call 84; refine (HP.out _).mono ?_; rintro e w1 ⟨rfl, hb1⟩))
  go_ret
  exact ⟨rfl, hb1⟩
 ·have HP := Lib.hid (key 1073741824 30 (by omega) (by omega) (by decide))
  clear key
  go_enter Tryz.func83, Tryz.ntmps83
  go_wp2_with (first | (go_at_call 84; refine (HP.out _).mono ?_; rintro e w1 ⟨rfl, hb1⟩))
  go_ret
  exact ⟨rfl, hb1⟩
 ·have HP := Lib.hid (key 549755813888 39 (by omega) (by omega) (by decide))
  clear key
  go_enter Tryz.func83, Tryz.ntmps83
  go_wp2_with (first | (go_at_call 84; refine (HP.out _).mono ?_; rintro e w1 ⟨rfl, hb1⟩))
  go_ret
  exact ⟨rfl, hb1⟩
theorem rSlot_c (t a l : Int) (w : World) (t0 : 0 ≤ t) (t1 : t ≤ 18446744073709551615) (h0 : 0 ≤ a) (h1 : a ≤ 18446744073709551615) (hl0 : 1 ≤ l) (hl1 : l ≤ 4) :
  Calls Tryz.prog 57 #[.int .u64 t, .int .u64 a, .int .i64 l] w fun e w' => e = .returned (.int .u64 (slotI t a l)) ∧ Ext w w' := by
 have HT := Lib.hid (fun w => refTable_c t w t0 t1)
 have HI := Lib.hid (fun w => rIndex_c a l w h0 h1 hl0 hl1)
 have hi := idxI_le a l
 have ht := tabI_le t0
 have ht2 : tabI t ≤ 18446744073709551615 - 5000 := by unfold tabI; omega
 have hs : Hid (slotI t a l = tabI t + 8 * idxI a l) := Lib.hid rfl
 generalize slotI t a l = s at hs ⊢
 generalize tabI t = tb at HT ht ht2 hs
 generalize idxI a l = ix at HI hi hs
 obtain ⟨hi0, hi1⟩ := hi
 go_enter Tryz.func57, Tryz.ntmps57
 go_wp2_with (first | (go_at_call 64; refine (HT.out _).mono ?_; rintro e w1 ⟨rfl, hb1⟩) | (go_at_call 83; refine (HI.out _).mono ?_; rintro e w2 ⟨rfl, hb2⟩))
 go_ret
 exact ⟨by rw [hs.out]; rfl, hb1.trans hb2⟩
theorem rLeaf_c (x l : Int) (w : World) (h0 : 0 ≤ x) (h1 : x ≤ 18446744073709551615) (hl0 : 1 ≤ l) (hl1 : l ≤ 4) :
  Calls Tryz.prog 62 #[.int .u64 x, .int .i64 l] w fun e w' => e = .returned (.bool (leafI x l)) ∧ Ext w w' := by
 have hb7 : ∀ w, Calls Tryz.prog 59 #[.int .u64 x, .int .i64 7] w fun e w' => e = .returned (.bool (bitB x 7)) ∧ Ext w w' := fun w => bit_c x 7 w h0 h1 (by omega) (by omega)
 have H7 := Lib.hid hb7
 have hd : Hid (leafI x l = (l == 1 || ((l == 2 || l == 3) && bitB x 7))) := Lib.hid rfl
 generalize leafI x l = r at hd ⊢
 generalize bitB x 7 = q at H7 hd
 clear hb7
 rcases (show l = 1 ∨ l = 2 ∨ l = 3 ∨ l = 4 by omega) with rfl | rfl | rfl | rfl
 all_goals
  go_enter Tryz.func62, Tryz.ntmps62
  go_wp2_with (first | (go_at_call 59; refine (H7.out _).mono ?_; rintro e w1 ⟨rfl, hb1⟩))
  go_ret
  exact ⟨by rw [hd.out]; simp, (by repeat (first | exact Ext.refl _ | assumption | refine Ext.alloc ?_ _ | refine Ext.drew ?_ | refine Ext.setCell ?_ (by first | (simp; done) | (dsimp only; omega)) _ | refine Ext.trans ?_ (by assumption)))⟩
theorem rSize3_c (l : Int) (w : World) (hl0 : 1 ≤ l) (hl1 : l ≤ 3) : Calls Tryz.prog 86 #[.int .i64 l] w fun e w' => e = .returned (.int .u64 (sizeE l)) ∧ Ext w w' := by
 rcases (show l = 1 ∨ l = 2 ∨ l = 3 by omega) with rfl | rfl | rfl
 all_goals
  go_enter Tryz.func86, Tryz.ntmps86
  go_wp2
  all_goals
   go_ret
   exact ⟨rfl, (by repeat (first | exact Ext.refl _ | assumption | refine Ext.alloc ?_ _ | refine Ext.drew ?_ | refine Ext.setCell ?_ (by first | (simp; done) | (dsimp only; omega)) _ | refine Ext.trans ?_ (by assumption)))⟩
theorem rFrame_c (x l : Int) (w : World) (h0 : 0 ≤ x) (h1 : x ≤ 18446744073709551615) (hl0 : 1 ≤ l) (hl1 : l ≤ 4) :
  Calls Tryz.prog 63 #[.int .u64 x, .int .i64 l] w fun e w' => e = .returned (.int .u64 (frameI x l)) ∧ Ext w w' := by
 have HL := Lib.hid (fun w => rLeaf_c x l w h0 h1 hl0 hl1)
 have HT := Lib.hid (fun w => refTable_c x w h0 h1)
 have ht := tabI_le h0
 have ht2 : tabI x ≤ 18446744073709551615 := by unfold tabI; omega
 have hd : Hid (frameI x l = if leafI x l then tabI x - tabI x % sizeE l else tabI x) := Lib.hid rfl
 have hl3 : leafI x l = true → l ≤ 3 := fun h => by
  rcases (show l = 1 ∨ l = 2 ∨ l = 3 ∨ l = 4 by omega) with rfl | rfl | rfl | rfl
  ·omega
  ·omega
  ·omega
  ·simp [leafI] at h
 generalize frameI x l = r at hd ⊢
 generalize tabI x = tb at HT ht ht2 hd
 cases hlf : leafI x l
 ·rw [hlf] at HL hd
  clear hl3
  go_enter Tryz.func63, Tryz.ntmps63
  go_wp2_with (first | (go_at_call 62; refine (HL.out _).mono ?_; rintro e w1 ⟨rfl, hb1⟩) | (go_at_call 64; refine (HT.out _).mono ?_; rintro e w2 ⟨rfl, hb2⟩))
  go_ret
  exact ⟨by rw [hd.out]; rfl, hb1.trans hb2⟩
 ·have hl4 := hl3 hlf
  have HS := Lib.hid (fun w => rSize3_c l w hl0 hl4)
  have hsz : 1 ≤ sizeE l ∧ sizeE l ≤ 1073741824 := by unfold sizeE; split; omega; split; omega; split <;> omega
  rw [hlf] at HL hd
  clear hl3 hlf
  generalize sizeE l = sz at HS hsz hd
  obtain ⟨hs0, hs1⟩ := hsz
  have hm0 := Int.emod_nonneg tb (b := sz) (by omega)
  have hm1 := Int.emod_lt_of_pos tb (b := sz) (by omega)
  have hm2 : tb % sz ≤ tb := by
   by_cases h : tb < sz
   ·rw [Int.emod_eq_of_lt (by omega) h]; exact Int.le_refl _
   ·omega
  go_enter Tryz.func63, Tryz.ntmps63
  go_wp2_with (first | (go_at_call 62; refine (HL.out _).mono ?_; rintro e w1 ⟨rfl, hb1⟩) | (go_at_call 64; refine (HT.out _).mono ?_; rintro e w2 ⟨rfl, hb2⟩) | (go_at_call 86; refine (HS.out _).mono ?_; rintro e w3 ⟨rfl, hb3⟩))
  go_ret
  exact ⟨by rw [hd.out]; rfl, (by repeat (first | exact Ext.refl _ | assumption | refine Ext.alloc ?_ _ | refine Ext.drew ?_ | refine Ext.setCell ?_ (by first | (simp; done) | (dsimp only; omega)) _ | refine Ext.trans ?_ (by assumption)))⟩
end Go.Proofs.YtkfonacokamfiaaGreat
