/- The document's caches: Put. -/
import Derived.Test.YtnacgmmkmedpdaaRefCE
namespace Go.Proofs.Ytnacgmmkmedpdaa
set_option linter.unusedVariables false
set_option linter.unusedSimpArgs false
open Go.RowKit
attribute [local go_sem] wext_cell wext_frozen wext_heap alloc_cell alloc_frozen alloc_heap setCell_cell objCell_cells objFrozen_cells
attribute [local go_sem high] refKey_eql

/-- One cell written in a row that is held. -/
theorem Owns.setCell {w : World} {e : TypeId} {size n c g j : Nat} {xs : List Value} {u : Value} (h : Owns w e size (.slice (some ⟨g, 0, none⟩) n c) n xs) (hj : j < xs.length) :
    Owns (w.setCell ⟨g, j, none⟩ u) e size (.slice (some ⟨g, 0, none⟩) n c) n (xs.set j u) := by
  refine ⟨by rw [List.length_set]; exact h.1, ?_⟩
  rcases h.2 with ⟨hv, _⟩ | ⟨g', cap, cur, hv, hg, h1, h2, h3, h4⟩
  · cases hv
  · cases hv
    refine .inr ⟨g, c, cur.setIfInBounds j u, rfl, setCell_heap_same hg, h1, h2, by simpa using h3, ?_⟩
    have hj2 : j < n * size := by rw [← h.1]; exact hj
    rw [Array.toList_setIfInBounds, List.take_set, h4]

theorem rowP_set : ∀ (L : List (Key × Line)) (i : Nat) (k : Key) (x : Line), (∃ y, L[i]? = some (k, y)) →
    rowP (L.set i (k, x)) = ((((((rowP L).set (i * 9 + 3) (.int .u64 x.f)).set (i * 9 + 4) (.bool x.a)).set (i * 9 + 5) (.bool x.b)).set (i * 9 + 6) (.bool x.c)).set (i * 9 + 7) (.bool x.d)).set (i * 9 + 8) (.int .u8 x.m)
  | [], i, k, x, h => by obtain ⟨y, hy⟩ := h; simp at hy
  | z :: L, 0, k, x, h => by
    obtain ⟨y, hy⟩ := h
    obtain rfl : z = (k, y) := by simpa using hy
    simp [rowP, pairC]
  | z :: L, i + 1, k, x, h => by
    have ih := rowP_set L i k x (by simpa using h)
    have e : ∀ (l : List Value) (j : Nat) (u : Value), (pairC z ++ l).set (j + 9) u = pairC z ++ l.set j u := fun l j u => by simp [pairC]
    rw [List.set_cons_succ]
    show pairC z ++ rowP (L.set i (k, x)) = _
    rw [ih, show rowP (z :: L) = pairC z ++ rowP L from rfl]
    rw [show (i + 1) * 9 + 3 = (i * 9 + 3) + 9 by omega, show (i + 1) * 9 + 4 = (i * 9 + 4) + 9 by omega, show (i + 1) * 9 + 5 = (i * 9 + 5) + 9 by omega,
      show (i + 1) * 9 + 6 = (i * 9 + 6) + 9 by omega, show (i + 1) * 9 + 7 = (i * 9 + 7) + 9 by omega, show (i + 1) * 9 + 8 = (i * 9 + 8) + 9 by omega]
    simp only [e]

/-- A copy: append([]Pair{}, ..). -/
theorem refPut_has (L : List (Key × Line)) (k : Key) (x : Line) (i : Nat) (y : Line) (pick : Int) (v : Value) (r : Nat) (w : World) (ho : RefAt w v L) (hl : look k L 0 = some (i, y)) :
    Calls Try.prog 76 #[.agg #[v, .int .i64 r], k.val, x.val, .int .i64 pick] w (EndRef (L.set i (k, x)) r w) := by
  have HO := Lib.hid ho
  have hL := ho.2
  obtain ⟨p, l, t⟩ := k
  obtain ⟨a, cap, rfl, hn, hm⟩ := ho.1.form
  unfold maxLen at hm
  have hix := ix_look ⟨p, l, t⟩ L 0
  have hfc := fun w ho => find_c L ⟨p, l, t⟩ (.slice a L.length cap) r w ho
  have hlt : i < L.length := (List.getElem?_eq_some_iff.1 (look_some hl).2.1).1
  have hget : ∃ y, L[i]? = some (⟨p, l, t⟩, y) := ⟨y, by have := (look_some hl).2.1; simpa using this⟩
  have hi : ixK ⟨p, l, t⟩ (keysOf L) 0 = (i : Int) := by have : ixK ⟨p, l, t⟩ (keysOf L) 0 = _ := hix; rw [this, hl]
  rw [hi] at hfc
  have hset := rowP_set L i ⟨p, l, t⟩ x hget
  obtain ⟨g, rfl⟩ : ∃ g, a = some ⟨g, 0, none⟩ := by
    rcases ho.1.2 with ⟨_, h0⟩ | ⟨g, _, _, he, _⟩
    · omega
    · exact ⟨g, by injection he⟩
  have hgl := ho.1.lt g rfl
  obtain ⟨xf, xa, xb, xc, xd, xm⟩ := x
  unfold Key.val Line.val at *
  have HF := Lib.hid hfc
  have HS := Lib.hid hset
  clear hix ho hl hi hfc hget hset
  go_enter Try.func76, Try.ntmps76
  go_upto_region 3 with (first | (go_at_call 117; refine (HF.out _ (HO.out.ext (by repeat (first | exact Ext.refl _ | assumption | refine Ext.alloc ?_ _ | refine Ext.drew ?_ | refine Ext.setCell ?_ (by first | (simp; done) | (dsimp only; omega)) _ | refine Ext.trans ?_ (by assumption))))).mono ?_; rintro e w2 ⟨rfl, hb2⟩))
  have B0 := (hb2.block w.heap.size (by simp; omega)).trans ((alloc_other _ _ (by simp; omega)).trans ((alloc_other _ _ (by simp; omega)).trans ((alloc_other _ _ (by simp)).trans (alloc_same ..))))
  have B2 := (hb2.block (w.heap.size + 1 + 1) (by simp)).trans ((alloc_other _ _ (by simp)).trans (alloc_same2 ..))
  have B3 := (hb2.block (w.heap.size + 1 + 1 + 1) (by simp)).trans (alloc_same3 ..)
  have E2 : Ext w w2 := Ext.trans (by repeat (first | exact Ext.refl _ | assumption | refine Ext.alloc ?_ _ | refine Ext.drew ?_ | refine Ext.setCell ?_ (by first | (simp; done) | (dsimp only; omega)) _ | refine Ext.trans ?_ (by assumption))) hb2
  have hsz := heap_lt B3
  have p0 := (heap_cell B0 0).trans rfl
  have p1 := (heap_cell B0 1).trans rfl
  have l0 := (heap_cell B2 0).trans rfl
  have l1 := (heap_cell B2 1).trans rfl
  have l2 := (heap_cell B2 2).trans rfl
  have l3 := (heap_cell B2 3).trans rfl
  have l4 := (heap_cell B2 4).trans rfl
  have l5 := (heap_cell B2 5).trans rfl
  have BB0 := Lib.hid B0
  have BB2 := Lib.hid B2
  have BB3 := Lib.hid B3
  have EE := Lib.hid E2
  clear hb2 B0 B2 B3
  have hcl : ∀ j u, (rowP L)[j]? = some u → (w2.alloc (.cells #[] 58)).cell? ((⟨g, 0, none⟩ : Addr).add j) = some u := fun j u hu => by
    rw [add0]; exact ((HO.out.1.ext E2).ext ((Ext.refl w2).alloc _)).cells rfl j u hu
  have HC := Lib.hid hcl
  clear hcl E2
  go_upto_region 4 with (first | (at_builtin; refine wpList_append_owns rfl _ _ _ _ 9 40 pairRow rfl _ rfl 0 [] (Owns.fresh (c := #[]) (alloc_same ..)) _ _ _ rfl (rowP L) (rowP_length L) HC.out (rowP_one L) (by unfold maxLen; omega) (by omega) ?_; intro v3 w3 q1 q2 q3; replace q2 : (w2.alloc (.cells #[] 58)).grownBy w3 (some w2.heap.size) := q2; replace q3 : v3.ownBlock = some w2.heap.size ∨ v3.ownBlock = some (w2.alloc (.cells #[] 58)).heap.size := q3; obtain ⟨a3, c3, rfl, -, -⟩ := q1.form; simp only [Act.put, Array.set!_eq_setIfInBounds, List.setIfInBounds_toArray, List.set_cons_succ, List.set_cons_zero]))
  rw [Nat.zero_add, List.nil_append] at q1
  obtain ⟨g3, rfl⟩ : ∃ g, a3 = some ⟨g, 0, none⟩ := by
    rcases q1.2 with ⟨_, h0⟩ | ⟨g, _, _, he, _⟩
    · omega
    · exact ⟨g, by injection he⟩
  have E3 : Ext w2 w3 := Keeps.to_ext (F := []) (Ext.refl w2) ((Keeps.of_ext ((Ext.refl w2).alloc _)).grown q2 (fun x hx => .inr (by cases hx; exact Nat.le_refl _))) (by simp)
  have hg3 : w2.heap.size ≤ g3 := by rcases q3 with q3 | q3 <;> (simp [Value.ownBlock] at q3; omega)
  have c3' := fun j hj u hu => q1.cells (g := g3) rfl (i * 9 + j) u ((rowP_at L i hlt j hj).trans hu)
  have y3 := c3' 3 (by omega) _ rfl
  have y4 := c3' 4 (by omega) _ rfl
  have y5 := c3' 5 (by omega) _ rfl
  have y6 := c3' 6 (by omega) _ rfl
  have y7 := c3' 7 (by omega) _ rfl
  have y8 := c3' 8 (by omega) _ rfl
  obtain ⟨cc, hcc⟩ := q1.heap g3 rfl
  have fz := frozen_of hcc
  have hlen : (rowP L).length = L.length * 9 := rowP_length L
  have Q1 := Lib.hid q1
  have HE3 := Lib.hid E3
  have D0 := Lib.hid ((E3.block _ (by omega)).trans BB0.out)
  have D2 := Lib.hid ((E3.block _ (by omega)).trans BB2.out)
  have D3 := Lib.hid ((E3.block _ (by omega)).trans BB3.out)
  have l0 := (heap_cell D2.out 0).trans rfl
  have l1 := (heap_cell D2.out 1).trans rfl
  have l2 := (heap_cell D2.out 2).trans rfl
  have l3 := (heap_cell D2.out 3).trans rfl
  have l4 := (heap_cell D2.out 4).trans rfl
  have l5 := (heap_cell D2.out 5).trans rfl
  clear c3' q1 q2 q3 hcc E3 p0 p1
  rw [Nat.zero_add]
  go_upto_region 5 with (fail)
  refine wp_gen ?_; intro V hV
  have hlx : i * 9 + 8 < (rowP L).length := by rw [hlen]; omega
  have OV : Owns V 58 9 (.slice (some ⟨g3, 0, none⟩) L.length c3) L.length (rowP (L.set i (⟨p, l, t⟩, ⟨xf, xa, xb, xc, xd, xm⟩))) := by
    rw [hV, HS.out]
    exact Owns.setCell (Owns.setCell (Owns.setCell (Owns.setCell (Owns.setCell (Owns.setCell Q1.out (by omega)) (by simp only [List.length_set]; omega)) (by simp only [List.length_set]; omega)) (by simp only [List.length_set]; omega)) (by simp only [List.length_set]; omega)) (by simp only [List.length_set]; omega)
  have n0 : g3 ≠ w.heap.size := by omega
  have n3 : g3 ≠ w.heap.size + 1 + 1 + 1 := by omega
  have V0 : V.heap[w.heap.size]? = some (.cells #[.slice (some ⟨g, 0, none⟩) L.length cap, .int .i64 r] 28 (0, 0)) := by rw [hV, setCell_heap _ _ _ _ _ n0, setCell_heap _ _ _ _ _ n0, setCell_heap _ _ _ _ _ n0, setCell_heap _ _ _ _ _ n0, setCell_heap _ _ _ _ _ n0, setCell_heap _ _ _ _ _ n0]; exact D0.out
  have V3 : V.heap[w.heap.size + 1 + 1 + 1]? = some (.cells #[.slice none 0 0, .int .i64 0] 28 (0, 0)) := by rw [hV, setCell_heap _ _ _ _ _ n3, setCell_heap _ _ _ _ _ n3, setCell_heap _ _ _ _ _ n3, setCell_heap _ _ _ _ _ n3, setCell_heap _ _ _ _ _ n3, setCell_heap _ _ _ _ _ n3]; exact D3.out
  have EV : Ext w V := by
    rw [hV]
    have hg : w.heap.size ≤ g3 := by omega
    exact Ext.setCell (Ext.setCell (Ext.setCell (Ext.setCell (Ext.setCell (Ext.setCell (EE.out.trans HE3.out) hg _) hg _) hg _) hg _) hg _) hg _
  have p0 := (heap_cell V0 0).trans rfl
  have p1 := (heap_cell V0 1).trans rfl
  have r0 := (heap_cell V3 0).trans rfl
  have r1 := (heap_cell V3 1).trans rfl
  have f0 := frozen_of V0
  have f3 := frozen_of V3
  have HV3 := Lib.hid V3
  have HV := Lib.hid EV
  have HOV := Lib.hid OV
  have hng : g3 < V.heap.size := OV.lt g3 rfl
  clear hV V0 V3 EV OV y3 y4 y5 y6 y7 y8 fz l0 l1 l2 l3 l4 l5 hlx hlen
  go_wp2
  refine post_gen (fun U => U.heap[w.heap.size + 1 + 1 + 1]? = some (.cells #[.slice (some ⟨g3, 0, none⟩) L.length c3, .int .i64 r] 28 (0, 0)) ∧ Owns U 58 9 (.slice (some ⟨g3, 0, none⟩) L.length c3) L.length (rowP (L.set i (⟨p, l, t⟩, ⟨xf, xa, xb, xc, xd, xm⟩))) ∧ Ext w U) ⟨?_, ?_, ?_⟩ ?_
  · exact store2_heap ((setCell_heap _ _ _ _ _ (by omega)).trans HV3.out)
  · refine HOV.out.keep fun g' hg' => ?_
    obtain rfl : g3 = g' := by simpa [Value.ownBlock] using hg'
    rw [setCell_heap _ _ _ _ _ (by omega), setCell_heap _ _ _ _ _ (by omega), setCell_heap _ _ _ _ _ (by omega)]
  · exact Ext.setCell (Ext.setCell (Ext.setCell HV.out (by simp) _) (by simp; omega) _) (by simp; omega) _
  rintro U ⟨m5, o5, E5⟩
  have v0 := (heap_cell m5 0).trans rfl
  have v1 := (heap_cell m5 1).trans rfl
  clear m5 p0 p1 r0 r1 f0 f3
  have O5 := Lib.hid o5
  clear o5
  refine bodyPost_ret (by simp [results, Try.results76, go_sem, ↓IntWalk.iteOmega, *]; try rfl) rfl ⟨_, rfl, ⟨by rw [List.length_set]; exact O5.out, by rw [List.length_set]; exact hL⟩, E5⟩
end Go.Proofs.Ytnacgmmkmedpdaa
