/- Joined texts, part 13 of what the law stands on: each as its own head says. -/
import Derived.Test.YtkfonacokamfiaaGreatGoz12
import Derived.Test.YtkfonacokamfiaaGreatGoz2
/- The document's caches: Put. -/
namespace Go.Proofs.YtkfonacokamfiaaGreat
set_option linter.unusedVariables false
set_option linter.unusedSimpArgs false
open Go.RowKit
attribute [local go_sem] wext_cell wext_frozen wext_heap alloc_cell alloc_frozen alloc_heap setCell_cell objCell_cells objFrozen_cells
attribute [local go_sem high] refKey_eql
theorem Owns.setCell {w : World} {e : TypeId} {size n c g j : Nat} {xs : List Value} {u : Value} (h : Owns w e size (.slice (some ⟨g, 0, none⟩) n c) n xs) (hj : j < xs.length) :
  Owns (w.setCell ⟨g, j, none⟩ u) e size (.slice (some ⟨g, 0, none⟩) n c) n (xs.set j u) := by
 refine ⟨by rw [List.length_set]; exact h.1, ?_⟩
 rcases h.2 with ⟨hv, _⟩ | ⟨g', cap, cur, hv, hg, h1, h2, h3, h4⟩
 ·cases hv
 ·cases hv
  refine .inr ⟨g, c, cur.setIfInBounds j u, rfl, setCell_heap_same hg, h1, h2, by simpa using h3, ?_⟩
  have hj2 : j < n * size := by rw [← h.1]; exact hj
  rw [Array.toList_setIfInBounds, List.take_set, h4]
theorem rowP_set : ∀ (L : List (Key × Line)) (i : Nat) (k : Key) (x : Line), (∃ y, L[i]? = some (k, y)) →
  rowP (L.set i (k, x)) = ((((((rowP L).set (i * 9 + 3) (.int .u64 x.f)).set (i * 9 + 4) (.bool x.a)).set (i * 9 + 5) (.bool x.b)).set (i * 9 + 6) (.bool x.c)).set (i * 9 + 7) (.bool x.d)).set (i * 9 + 8) (.int .u8 x.m)
 | [], i, k, x, h => by obtain ⟨y, hy⟩ := h; simp at hy
 | z :: L, 0, k, x, h => by
  obtain ⟨y, hy⟩ := h
  obtain rfl : z = (k, y) := by simpa using hy
  simp [rowP, pairC]
 | z :: L, i + 1, k, x, h => by
  have ih := rowP_set L i k x (by simpa using h)
  have e : ∀ (l : List Value) (j : Nat) (u : Value), (pairC z ++ l).set (j + 9) u = pairC z ++ l.set j u := fun l j u => by simp [pairC]
  rw [List.set_cons_succ]
  show pairC z ++ rowP (L.set i (k, x)) = _
  rw [ih, show rowP (z :: L) = pairC z ++ rowP L from rfl]
  rw [show (i + 1) * 9 + 3 = (i * 9 + 3) + 9 by omega, show (i + 1) * 9 + 4 = (i * 9 + 4) + 9 by omega, show (i + 1) * 9 + 5 = (i * 9 + 5) + 9 by omega,
   show (i + 1) * 9 + 6 = (i * 9 + 6) + 9 by omega, show (i + 1) * 9 + 7 = (i * 9 + 7) + 9 by omega, show (i + 1) * 9 + 8 = (i * 9 + 8) + 9 by omega]
  simp only [e]
theorem refPut_has (L : List (Key × Line)) (k : Key) (x : Line) (i : Nat) (y : Line) (pick : Int) (v : Value) (r : Nat) (w : World) (ho : RefAt w v L) (hl : look k L 0 = some (i, y)) :
  Calls Tryz.prog 126 #[.agg #[v, .int .i64 r], k.val, x.val, .int .i64 pick] w (EndRef (L.set i (k, x)) r w) := by
 have HO := Lib.hid ho
 have hL := ho.2
 obtain ⟨p, l, t⟩ := k
 obtain ⟨a, cap, rfl, hn, hm⟩ := ho.1.form
 unfold maxLen at hm
 have hix := ix_look ⟨p, l, t⟩ L 0
 have hfc := fun w ho => find_c L ⟨p, l, t⟩ (.slice a L.length cap) r w ho
 have hlt : i < L.length := (List.getElem?_eq_some_iff.1 (look_some hl).2.1).1
 have hget : ∃ y, L[i]? = some (⟨p, l, t⟩, y) := ⟨y, by have := (look_some hl).2.1; simpa using this⟩
 have hi : ixK ⟨p, l, t⟩ (keysOf L) 0 = (i : Int) := by have : ixK ⟨p, l, t⟩ (keysOf L) 0 = _ := hix; rw [this, hl]
 rw [hi] at hfc
 have hset := rowP_set L i ⟨p, l, t⟩ x hget
 obtain ⟨g, rfl⟩ : ∃ g, a = some ⟨g, 0, none⟩ := by
  rcases ho.1.2 with ⟨_, h0⟩ | ⟨g, _, _, he, _⟩
  ·omega
  ·exact ⟨g, by injection he⟩
 have hgl := ho.1.lt g rfl
 obtain ⟨xf, xa, xb, xc, xd, xm⟩ := x
 unfold Key.val Line.val at *
 have HF := Lib.hid hfc
 have HS := Lib.hid hset
 clear hix ho hl hi hfc hget hset
 go_enter Tryz.func126, Tryz.ntmps126
 go_upto_region 3 with (first | (go_at_call 124; refine (HF.out _ (HO.out.ext (by repeat (first | exact Ext.refl _ | assumption | refine Ext.alloc ?_ _ | refine Ext.drew ?_ | refine Ext.setCell ?_ (by first | (simp; done) | (dsimp only; omega)) _ | refine Ext.trans ?_ (by assumption))))).mono ?_; rintro e w2 ⟨rfl, hb2⟩))
 have B0 := (hb2.block w.heap.size (by simp; omega)).trans ((alloc_other _ _ (by simp; omega)).trans ((alloc_other _ _ (by simp; omega)).trans ((alloc_other _ _ (by simp)).trans (alloc_same ..))))
 have B2 := (hb2.block (w.heap.size + 1 + 1) (by simp)).trans ((alloc_other _ _ (by simp)).trans (alloc_same2 ..))
 have B3 := (hb2.block (w.heap.size + 1 + 1 + 1) (by simp)).trans (alloc_same3 ..)
 have E2 : Ext w w2 := Ext.trans (by repeat (first | exact Ext.refl _ | assumption | refine Ext.alloc ?_ _ | refine Ext.drew ?_ | refine Ext.setCell ?_ (by first | (simp; done) | (dsimp only; omega)) _ | refine Ext.trans ?_ (by assumption))) hb2
 have hsz := heap_lt B3
 have p0 := (heap_cell B0 0).trans rfl
 have p1 := (heap_cell B0 1).trans rfl
 have l0 := (heap_cell B2 0).trans rfl
 have l1 := (heap_cell B2 1).trans rfl
 have l2 := (heap_cell B2 2).trans rfl
 have l3 := (heap_cell B2 3).trans rfl
 have l4 := (heap_cell B2 4).trans rfl
 have l5 := (heap_cell B2 5).trans rfl
 have BB0 := Lib.hid B0
 have BB2 := Lib.hid B2
 have BB3 := Lib.hid B3
 have EE := Lib.hid E2
 clear hb2 B0 B2 B3
 have hcl : ∀ j u, (rowP L)[j]? = some u → (w2.alloc (.cells #[] 227)).cell? ((⟨g, 0, none⟩ : Addr).add j) = some u := fun j u hu => by
  rw [add0]; exact ((HO.out.1.ext E2).ext ((Ext.refl w2).alloc _)).cells rfl j u hu
 have HC := Lib.hid hcl
 clear hcl E2
 go_upto_region 4 with (first | (at_builtin; refine wpList_append_owns rfl _ _ _ _ 9 40 pairRow rfl _ rfl 0 [] (Owns.fresh (c := #[]) (alloc_same ..)) _ _ _ rfl (rowP L) (rowP_length L) HC.out (rowP_one L) (by unfold maxLen; omega) (by omega) ?_; intro v3 w3 q1 q2 q3; replace q2 : (w2.alloc (.cells #[] 227)).grownBy w3 (some w2.heap.size) := q2; replace q3 : v3.ownBlock = some w2.heap.size ∨ v3.ownBlock = some (w2.alloc (.cells #[] 227)).heap.size := q3; obtain ⟨a3, c3, rfl, -, -⟩ := q1.form; simp only [Act.put, Array.set!_eq_setIfInBounds, List.setIfInBounds_toArray, List.set_cons_succ, List.set_cons_zero]))
 rw [Nat.zero_add, List.nil_append] at q1
 obtain ⟨g3, rfl⟩ : ∃ g, a3 = some ⟨g, 0, none⟩ := by
  rcases q1.2 with ⟨_, h0⟩ | ⟨g, _, _, he, _⟩
  ·omega
  ·exact ⟨g, by injection he⟩
 have E3 : Ext w2 w3 := Keeps.to_ext (F := []) (Ext.refl w2) ((Keeps.of_ext ((Ext.refl w2).alloc _)).grown q2 (fun x hx => .inr (by cases hx; exact Nat.le_refl _))) (by simp)
 have hg3 : w2.heap.size ≤ g3 := by rcases q3 with q3 | q3 <;> (simp [Value.ownBlock] at q3; omega)
 have c3' := fun j hj u hu => q1.cells (g := g3) rfl (i * 9 + j) u ((rowP_at L i hlt j hj).trans hu)
 have y3 := c3' 3 (by omega) _ rfl
 have y4 := c3' 4 (by omega) _ rfl
 have y5 := c3' 5 (by omega) _ rfl
 have y6 := c3' 6 (by omega) _ rfl
 have y7 := c3' 7 (by omega) _ rfl
 have y8 := c3' 8 (by omega) _ rfl
 obtain ⟨cc, hcc⟩ := q1.heap g3 rfl
 have fz := frozen_of hcc
 have hlen : (rowP L).length = L.length * 9 := rowP_length L
 have Q1 := Lib.hid q1
 have HE3 := Lib.hid E3
 have D0 := Lib.hid ((E3.block _ (by omega)).trans BB0.out)
 have D2 := Lib.hid ((E3.block _ (by omega)).trans BB2.out)
 have D3 := Lib.hid ((E3.block _ (by omega)).trans BB3.out)
 have l0 := (heap_cell D2.out 0).trans rfl
 have l1 := (heap_cell D2.out 1).trans rfl
 have l2 := (heap_cell D2.out 2).trans rfl
 have l3 := (heap_cell D2.out 3).trans rfl
 have l4 := (heap_cell D2.out 4).trans rfl
 have l5 := (heap_cell D2.out 5).trans rfl
 clear c3' q1 q2 q3 hcc E3 p0 p1
 rw [Nat.zero_add]
 go_upto_region 5 with (fail)
 refine wp_gen ?_; intro V hV
 have hlx : i * 9 + 8 < (rowP L).length := by rw [hlen]; omega
 have OV : Owns V 227 9 (.slice (some ⟨g3, 0, none⟩) L.length c3) L.length (rowP (L.set i (⟨p, l, t⟩, ⟨xf, xa, xb, xc, xd, xm⟩))) := by
  rw [hV, HS.out]
  exact Owns.setCell (Owns.setCell (Owns.setCell (Owns.setCell (Owns.setCell (Owns.setCell Q1.out (by omega)) (by simp only [List.length_set]; omega)) (by simp only [List.length_set]; omega)) (by simp only [List.length_set]; omega)) (by simp only [List.length_set]; omega)) (by simp only [List.length_set]; omega)
 have n0 : g3 ≠ w.heap.size := by omega
 have n3 : g3 ≠ w.heap.size + 1 + 1 + 1 := by omega
 have V0 : V.heap[w.heap.size]? = some (.cells #[.slice (some ⟨g, 0, none⟩) L.length cap, .int .i64 r] 52 (0, 0)) := by rw [hV, setCell_heap _ _ _ _ _ n0, setCell_heap _ _ _ _ _ n0, setCell_heap _ _ _ _ _ n0, setCell_heap _ _ _ _ _ n0, setCell_heap _ _ _ _ _ n0, setCell_heap _ _ _ _ _ n0]; exact D0.out
 have V3 : V.heap[w.heap.size + 1 + 1 + 1]? = some (.cells #[.slice none 0 0, .int .i64 0] 52 (0, 0)) := by rw [hV, setCell_heap _ _ _ _ _ n3, setCell_heap _ _ _ _ _ n3, setCell_heap _ _ _ _ _ n3, setCell_heap _ _ _ _ _ n3, setCell_heap _ _ _ _ _ n3, setCell_heap _ _ _ _ _ n3]; exact D3.out
 have EV : Ext w V := by
  rw [hV]
  have hg : w.heap.size ≤ g3 := by omega
  exact Ext.setCell (Ext.setCell (Ext.setCell (Ext.setCell (Ext.setCell (Ext.setCell (EE.out.trans HE3.out) hg _) hg _) hg _) hg _) hg _) hg _
 have p0 := (heap_cell V0 0).trans rfl
 have p1 := (heap_cell V0 1).trans rfl
 have r0 := (heap_cell V3 0).trans rfl
 have r1 := (heap_cell V3 1).trans rfl
 have f0 := frozen_of V0
 have f3 := frozen_of V3
 have HV3 := Lib.hid V3
 have HV := Lib.hid EV
 have HOV := Lib.hid OV
 have hng : g3 < V.heap.size := OV.lt g3 rfl
 clear hV V0 V3 EV OV y3 y4 y5 y6 y7 y8 fz l0 l1 l2 l3 l4 l5 hlx hlen
 go_wp2
 refine post_gen (fun U => U.heap[w.heap.size + 1 + 1 + 1]? = some (.cells #[.slice (some ⟨g3, 0, none⟩) L.length c3, .int .i64 r] 52 (0, 0)) ∧ Owns U 227 9 (.slice (some ⟨g3, 0, none⟩) L.length c3) L.length (rowP (L.set i (⟨p, l, t⟩, ⟨xf, xa, xb, xc, xd, xm⟩))) ∧ Ext w U) ⟨?_, ?_, ?_⟩ ?_
 ·exact store2_heap ((setCell_heap _ _ _ _ _ (by omega)).trans HV3.out)
 ·refine HOV.out.keep fun g' hg' => ?_
  obtain rfl : g3 = g' := by simpa [Value.ownBlock] using hg'
  rw [setCell_heap _ _ _ _ _ (by omega), setCell_heap _ _ _ _ _ (by omega), setCell_heap _ _ _ _ _ (by omega)]
 ·exact Ext.setCell (Ext.setCell (Ext.setCell HV.out (by simp) _) (by simp; omega) _) (by simp; omega) _
 rintro U ⟨m5, o5, E5⟩
 have v0 := (heap_cell m5 0).trans rfl
 have v1 := (heap_cell m5 1).trans rfl
 clear m5 p0 p1 r0 r1 f0 f3
 have O5 := Lib.hid o5
 clear o5
 refine bodyPost_ret (by simp [results, Tryz.results126, go_sem, ↓IntWalk.iteOmega, *]; try rfl) rfl ⟨_, rfl, ⟨by rw [List.length_set]; exact O5.out, by rw [List.length_set]; exact hL⟩, E5⟩
end Go.Proofs.YtkfonacokamfiaaGreat
/- An append of a whole row that is held. -/
namespace Go.Proofs.YtkfonacokamfiaaGreat
open Go.RowKit
section
variable {P : Program} {w : World} {ops : Array Oper} {rest : List Oper} {o : Oper} {a : Act} {Q : Exit → Act → World → Prop}
theorem wpList_append_two (hgd : o.guard = none) (s x : Operand) (t e : TypeId) (size bytes : Nat) (R : RowT P t e size bytes)
  (ho : o.op = .call { callee := .builtin .append, args := #[s, x], argTypes := #[t, t] }) (v : Value) (hs : a.eval s = v) (n : Nat) (xs : List Value) (hown : Owns w e size v n xs)
  (u : Value) (hx : a.eval x = u) (m : Nat) (news : List Value) (hown2 : Owns w e size u m news) (h1 : ∀ u ∈ news, u.oneCell' = true)
  (h63 : n + m ≤ maxLen) (hbytes : (n + m) * bytes ≤ 140737488355328)
  (h : ∀ v' w', Owns w' e size v' (n + m) (xs ++ news) → w.grownBy w' v.ownBlock → (v'.ownBlock = v.ownBlock ∨ v'.ownBlock = some w.heap.size) → wpList P ops Q rest (a.put o.dst v') w') : wpList P ops Q (o :: rest) a w := by
 have H2 := hown2
 rcases hown2.2 with ⟨rfl, rfl⟩ | ⟨g, cap, cur, rfl, _⟩
 ·have hn : news = [] := List.eq_nil_of_length_eq_zero (by simpa using H2.1)
  subst hn
  exact wpList_append_owns_nil hgd s x t e size bytes R ho v hs n xs hown hx (h v w (by simpa using hown) ⟨rfl, rfl, rfl, Nat.le_refl _, fun _ _ _ => rfl⟩ (.inl rfl))
 ·exact wpList_append_owns hgd s x t e size bytes R ho v hs n xs hown ⟨g, 0, none⟩ m cap hx news H2.1 (fun j y hy => by rw [add0]; exact H2.cells (g := g) rfl j y hy) h1 h63 hbytes h
end
end Go.Proofs.YtkfonacokamfiaaGreat
/- The document's caches: Put of a key that isn't there; Put. -/
namespace Go.Proofs.YtkfonacokamfiaaGreat
set_option linter.unusedVariables false
set_option linter.unusedSimpArgs false
open Go.RowKit
attribute [local go_sem] wext_cell wext_frozen wext_heap alloc_cell alloc_frozen alloc_heap setCell_cell objCell_cells objFrozen_cells
attribute [local go_sem high] refKey_eql
set_option maxHeartbeats 2000000 in
theorem refPut_new (L : List (Key × Line)) (k : Key) (x : Line) (pick : Int) (v : Value) (r : Nat) (w : World) (ho : RefAt w v L) (hl : look k L 0 = none) (hLr : L.length ≤ r) (hr64 : r ≤ 64)
  (hp0 : -9223372036854775808 ≤ pick) (hp1 : pick ≤ 9223372036854775807) :
  Calls Tryz.prog 126 #[.agg #[v, .int .i64 r], k.val, x.val, .int .i64 pick] w (EndRef (putC k x pick r L) r w) := by
 have HO := Lib.hid ho
 have hL := ho.2
 obtain ⟨p, l, t⟩ := k
 obtain ⟨a, cap, rfl, hn, hm⟩ := ho.1.form
 unfold maxLen at hm
 have hix := ix_look ⟨p, l, t⟩ L 0
 have hfc := fun w ho => find_c L ⟨p, l, t⟩ (.slice a L.length cap) r w ho
 have hi : ixK ⟨p, l, t⟩ (keysOf L) 0 = -1 := by have : ixK ⟨p, l, t⟩ (keysOf L) 0 = _ := hix; rw [this, hl]
 rw [hi] at hfc
 have hhas : hasK ⟨p, l, t⟩ L = false := by unfold hasK; rw [hl]; rfl
 have hput : putC ⟨p, l, t⟩ x pick r L = if r = 0 then L else (if L.length < r then L else evictL pick L) ++ [(⟨p, l, t⟩, x)] := by unfold putC; rw [hhas]; simp
 generalize hLE : putC ⟨p, l, t⟩ x pick r L = LE at hput ⊢
 have HLE := Aside.mk hput
 obtain ⟨xf, xa, xb, xc, xd, xm⟩ := x
 unfold Key.val Line.val at *
 have HF := Lib.hid hfc
 clear hix ho hl hi hfc hput hhas hLE
 go_enter Tryz.func126, Tryz.ntmps126
 go_upto_region 7 with (first | (go_at_call 124; refine (HF.out _ (HO.out.ext (by repeat (first | exact Ext.refl _ | assumption | refine Ext.alloc ?_ _ | refine Ext.drew ?_ | refine Ext.setCell ?_ (by first | (simp; done) | (dsimp only; omega)) _ | refine Ext.trans ?_ (by assumption))))).mono ?_; rintro e w2 ⟨rfl, hb2⟩))
 have B0 := (hb2.block w.heap.size (by simp; omega)).trans ((alloc_other _ _ (by simp; omega)).trans ((alloc_other _ _ (by simp; omega)).trans ((alloc_other _ _ (by simp)).trans (alloc_same ..))))
 have B1 := (hb2.block (w.heap.size + 1) (by simp)).trans ((alloc_other _ _ (by simp)).trans ((alloc_other _ _ (by simp)).trans (alloc_same1 ..)))
 have B2 := (hb2.block (w.heap.size + 1 + 1) (by simp)).trans ((alloc_other _ _ (by simp)).trans (alloc_same2 ..))
 have B3 := (hb2.block (w.heap.size + 1 + 1 + 1) (by simp)).trans (alloc_same3 ..)
 have E2 : Ext w w2 := Ext.trans (by repeat (first | exact Ext.refl _ | assumption | refine Ext.alloc ?_ _ | refine Ext.drew ?_ | refine Ext.setCell ?_ (by first | (simp; done) | (dsimp only; omega)) _ | refine Ext.trans ?_ (by assumption))) hb2
 have hsz := heap_lt B3
 have p0 := (heap_cell B0 0).trans rfl
 have p1 := (heap_cell B0 1).trans rfl
 have r0 := (heap_cell B3 0).trans rfl
 have r1 := (heap_cell B3 1).trans rfl
 have f3 := frozen_of B3
 have BB0 := Lib.hid B0
 have BB1 := Lib.hid B1
 have BB2 := Lib.hid B2
 have BB3 := Lib.hid B3
 have EE := Lib.hid E2
 clear hb2 B0 B1 B2 B3 E2
 by_cases hr : r = 0
 ·subst hr
  go_wp2
  refine post_gen (fun U => U.heap[w.heap.size + 1 + 1 + 1]? = some (.cells #[.slice a L.length cap, .int .i64 0] 52 (0, 0)) ∧ RefAt U (.slice a L.length cap) L ∧ Ext w U) ⟨?_, ?_, ?_⟩ ?_
  ·exact store2_heap BB3.out
  ·exact (HO.out.ext EE.out).store2 BB3.out
  ·exact Ext.setCell (Ext.setCell EE.out (by simp; omega) _) (by simp; omega) _
  rintro U ⟨m5, o5, E5⟩
  have v0 := (heap_cell m5 0).trans rfl
  have v1 := (heap_cell m5 1).trans rfl
  have O5 := Lib.hid o5
  clear m5 o5 p0 p1 r0 r1 f3
  refine bodyPost_ret (by simp [results, Tryz.results126, go_sem, ↓IntWalk.iteOmega, *]; try rfl) rfl ⟨_, rfl, by rw [HLE.out, if_pos trivial]; exact O5.out, E5⟩
 have hr1 : ((r : Int) == 0) = false := by simpa using hr
 have HC := Lib.hid (HO.out.ext EE.out)
 go_upto_if 38 with (fail)
 go_cut [] (fun wx => ∃ a6 c6 L6, Hid (RefAt wx (.slice a6 L6.length c6) L6 ∧ wx.heap[w.heap.size]? = some (.cells #[.slice a6 L6.length c6, .int .i64 r] 52 (0, 0)) ∧
  LE = L6 ++ [(⟨p, l, t⟩, ⟨xf, xa, xb, xc, xd, xm⟩)] ∧ L6.length ≤ 64 ∧ c6 ≤ maxLen ∧ Ext w wx ∧
  wx.heap[w.heap.size + 1]? = some (.cells #[.int .i64 p, .int .i64 l, .int .u64 t] 208 (0, 0)) ∧
  wx.heap[w.heap.size + 1 + 1]? = some (.cells #[.int .u64 xf, .bool xa, .bool xb, .bool xc, .bool xd, .int .u8 xm] 205 (0, 0)) ∧
  wx.heap[w.heap.size + 1 + 1 + 1]? = some (.cells #[.slice none 0 0, .int .i64 0] 52 (0, 0))))
 case first =>
  by_cases hfull : L.length < r
  ·go_wp2
   go_meet
   exact ⟨a, cap, L, ⟨HC.out, BB0.out, by rw [HLE.out, if_neg hr, if_pos hfull], by omega, by unfold maxLen; omega, EE.out, BB1.out, BB2.out, BB3.out⟩⟩
  ·have h0 : L.length ≠ 0 := by omega
   have hdel : evictL pick L = woL (pickI pick L.length) L := by
    unfold evictL woL
    rw [if_neg h0, if_neg (by have := Int.emod_nonneg pick (b := (L.length : Int)) (by omega); unfold pickI; omega)]
   have hq : 0 ≤ pickI pick L.length ∧ pickI pick L.length ≤ 1000 := by
    have := Int.emod_nonneg pick (b := (L.length : Int)) (by omega)
    have := Int.emod_lt_of_pos pick (b := (L.length : Int)) (by omega)
    unfold pickI; omega
   have hpc := fun w => picked_c pick L.length w hp0 hp1 (by omega) (by omega)
   have hev := evictL_length (pick := pick) (L := L) (by omega)
   generalize pickI pick L.length = q at hdel hq hpc
   rw [hdel] at hev
   have HP := Lib.hid hpc
   have HD := Aside.mk hdel
   have HEV := Aside.mk hev
   clear hdel hpc hev
   obtain ⟨hq0, hq1⟩ := hq
   have f0 := frozen_of BB0.out
   go_upto_region 10 with (fail)
   refine region_mix [.q [0, 1, 2, 3, 4], .l 5 3, .l 6 3, .l 7 2] (by kernel_rfl) (by kernel_rfl) ?_
   (try refine ⟨fun h => absurd h (by simp), ?_⟩); (repeat (unfold wpPlan; simp only [pickL, List.map_cons, List.map_nil, List.getD_cons_succ, List.getD_cons_zero]; (repeat go_big_quiet_step (fail)); refine wpQuiet_nil ?_)); unfold wpPlan; intro w3 hb3; (try simp only [pickL, List.map_cons, List.map_nil, List.getD_cons_succ, List.getD_cons_zero])
   go_wp2_with (first | (go_at_call 131; refine (HP.out _).mono ?_; rintro e w4 ⟨rfl, hb4⟩))
   refine ⟨?_, ?_⟩
   ·(try intro _); exact hb3.trans hb4
   have HB4 := Lib.hid (hb3.trans hb4)
   clear hb3 hb4
   (try refine ⟨fun h => absurd h (by simp), ?_⟩); (repeat (unfold wpPlan; simp only [pickL, List.map_cons, List.map_nil, List.getD_cons_succ, List.getD_cons_zero]; (repeat go_big_quiet_step (fail)); refine wpQuiet_nil ?_)); unfold wpPlan; intro w5 hb5; (try simp only [pickL, List.map_cons, List.map_nil, List.getD_cons_succ, List.getD_cons_zero])
   go_wp2_with (first | (go_at_call 130; refine (without_c L q _ r _ ((HC.out.ext HB4.out).ext hb5) (by omega) (by omega)).mono ?_; rintro e w6 ⟨v6, rfl, hv6, hb6⟩; obtain ⟨a6, c6, rfl, -, hc6⟩ := hv6.1.form))
   refine ⟨?_, ?_⟩
   ·(try intro _); exact hb5.trans hb6
   have HB6 := Lib.hid (HB4.out.trans (hb5.trans hb6))
   have HV6 := Lib.hid hv6
   clear hb5 hb6 hv6
   (try refine ⟨fun h => absurd h (by simp), ?_⟩); (repeat (unfold wpPlan; simp only [pickL, List.map_cons, List.map_nil, List.getD_cons_succ, List.getD_cons_zero]; (repeat go_big_quiet_step (fail)); refine wpQuiet_nil ?_)); unfold wpPlan; intro w7 hb7; (try simp only [pickL, List.map_cons, List.map_nil, List.getD_cons_succ, List.getD_cons_zero])
   have E7 := HB6.out.trans hb7
   have m0 := (E7.block _ (by omega)).trans BB0.out
   have y0 := (heap_cell m0 0).trans rfl
   have y1 := (heap_cell m0 1).trans rfl
   have z0 := frozen_of m0
   have M0 := Lib.hid m0
   have HB7 := Lib.hid E7
   have hV7 := HV6.out.ext hb7
   have HV7 := Lib.hid hV7
   clear hb7 m0 hV7 E7
   go_wp2
   (try refine ⟨fun h => absurd h (by simp), ?_⟩); (repeat (unfold wpPlan; simp only [pickL, List.map_cons, List.map_nil, List.getD_cons_succ, List.getD_cons_zero]; (repeat go_big_quiet_step (fail)); refine wpQuiet_nil ?_)); unfold wpPlan; intro w8 hb8; (try simp only [pickL, List.map_cons, List.map_nil, List.getD_cons_succ, List.getD_cons_zero])
   have hz7 := HB7.out.size
   go_wp2
   go_meet
   refine ⟨a6, c6, woL q L, ⟨(HV7.out.store2 M0.out).ext hb8, ?_, ?_, ?_, hc6, ?_, ?_, ?_, ?_⟩⟩
   ·exact (hb8.block _ (by simp; omega)).trans (store2_heap M0.out)
   ·rw [HLE.out, if_neg hr, if_neg hfull, HD.out]
   ·rw [HEV.out]; omega
   ·exact (Ext.setCell (Ext.setCell (EE.out.trans HB7.out) (by simp) _) (by simp) _).trans hb8
   ·exact (hb8.block _ (by simp; omega)).trans ((setCell_heap _ _ _ _ _ (by omega)).trans ((setCell_heap _ _ _ _ _ (by omega)).trans ((HB7.out.block _ (by omega)).trans BB1.out)))
   ·exact (hb8.block _ (by simp; omega)).trans ((setCell_heap _ _ _ _ _ (by omega)).trans ((setCell_heap _ _ _ _ _ (by omega)).trans ((HB7.out.block _ (by omega)).trans BB2.out)))
   ·exact (hb8.block _ (by simp; omega)).trans ((setCell_heap _ _ _ _ _ (by omega)).trans ((setCell_heap _ _ _ _ _ (by omega)).trans ((HB7.out.block _ (by omega)).trans BB3.out)))
 case rest =>
  obtain ⟨a6, c6, L6, hcut⟩ := hcut
  obtain ⟨P1, P2, P3, h64, hcm, P4, P5, P6, P7⟩ := hcut.out
  unfold maxLen at hcm
  have x0 := (heap_cell P2 0).trans rfl
  have x1 := (heap_cell P2 1).trans rfl
  have k0 := (heap_cell P5 0).trans rfl
  have k1 := (heap_cell P5 1).trans rfl
  have k2 := (heap_cell P5 2).trans rfl
  have l0 := (heap_cell P6 0).trans rfl
  have l1 := (heap_cell P6 1).trans rfl
  have l2 := (heap_cell P6 2).trans rfl
  have l3 := (heap_cell P6 3).trans rfl
  have l4 := (heap_cell P6 4).trans rfl
  have l5 := (heap_cell P6 5).trans rfl
  have hlt3 := heap_lt P7
  have Q1 := Lib.hid P1
  have Q2 := Lib.hid P2
  have Q3 := Aside.mk P3
  have Q4 := Lib.hid P4
  have Q5 := Lib.hid P5
  have Q6 := Lib.hid P6
  have Q7 := Lib.hid P7
  have HA := Lib.hid (P1.1.ext ((Ext.refl wc).alloc (.cells #[] 227)))
  clear hcut P1 P2 P3 P4 P5 P6 P7 p0 p1 r0 r1 f3
  go_upto_region 12 with (first | (at_builtin; refine wpList_append_two rfl _ _ _ _ 9 40 pairRow rfl _ rfl 0 [] (Owns.fresh (c := #[]) (alloc_same ..)) _ rfl L6.length (rowP L6) HA.out (rowP_one L6) (by unfold maxLen; omega) (by omega) ?_; intro v3 w3 q1 q2 q3; replace q2 : (wc.alloc (.cells #[] 227)).grownBy w3 (some wc.heap.size) := q2; replace q3 : v3.ownBlock = some wc.heap.size ∨ v3.ownBlock = some (wc.alloc (.cells #[] 227)).heap.size := q3; obtain ⟨a3, c3, rfl, -, -⟩ := q1.form; simp only [Act.put, Array.set!_eq_setIfInBounds, List.setIfInBounds_toArray, List.set_cons_succ, List.set_cons_zero]))
  rw [Nat.zero_add, List.nil_append] at q1
  rw [Nat.zero_add]
  have E3 : Ext wc w3 := Keeps.to_ext (F := []) (Ext.refl wc) ((Keeps.of_ext ((Ext.refl wc).alloc _)).grown q2 (fun x hx => .inr (by cases hx; exact Nat.le_refl _))) (by simp)
  have hg3 : ∀ g, (Value.slice a3 L6.length c3).ownBlock = some g → wc.heap.size ≤ g := fun g hg => by
   rw [Nat.zero_add] at q3
   rcases q3 with q3 | q3 <;> (rw [q3] at hg; cases hg; simp)
  have HE3 := Lib.hid E3
  have G3 := Lib.hid hg3
  have O3 := Lib.hid q1
  have O3a := Lib.hid (q1.ext ((Ext.refl w3).alloc (.cells #[.int .i64 p, .int .i64 l, .int .u64 t, .int .u64 xf, .bool xa, .bool xb, .bool xc, .bool xd, .int .u8 xm] 227)))
  have s3 := E3.size
  have k0 := E3.someCell k0
  have k1 := E3.someCell k1
  have k2 := E3.someCell k2
  have l0 := E3.someCell l0
  have l1 := E3.someCell l1
  have l2 := E3.someCell l2
  have l3 := E3.someCell l3
  have l4 := E3.someCell l4
  have l5 := E3.someCell l5
  clear q1 q2 q3 hg3 E3 HA x0 x1
  go_upto_region 13 with (first | (at_builtin; refine wpList_append_owns rfl _ _ _ _ 9 40 pairRow rfl _ rfl L6.length _ O3a.out _ 1 1 rfl (pairC (⟨p, l, t⟩, ⟨xf, xa, xb, xc, xd, xm⟩)) rfl (fun j u hu => by rw [add0, heap_cell (alloc_same w3 _) j]; simpa [pairC] using hu) (by simp [pairC, Value.oneCell']) (by unfold maxLen; omega) (by omega) ?_; intro v9 w9 q1 q2 q3; replace q2 : (w3.alloc (.cells #[.int .i64 p, .int .i64 l, .int .u64 t, .int .u64 xf, .bool xa, .bool xb, .bool xc, .bool xd, .int .u8 xm] 227)).grownBy w9 (Value.slice a3 L6.length c3).ownBlock := q2; replace q3 : v9.ownBlock = (Value.slice a3 L6.length c3).ownBlock ∨ v9.ownBlock = some (w3.alloc (.cells #[.int .i64 p, .int .i64 l, .int .u64 t, .int .u64 xf, .bool xa, .bool xb, .bool xc, .bool xd, .int .u8 xm] 227)).heap.size := q3; obtain ⟨a9, c9, rfl, -, -⟩ := q1.form; simp only [Act.put, Array.set!_eq_setIfInBounds, List.setIfInBounds_toArray, List.set_cons_succ, List.set_cons_zero]))
  have E9 : Ext wc w9 := Keeps.to_ext (F := []) (Ext.refl wc) ((Keeps.of_ext (HE3.out.alloc _)).grown q2 (fun x hx => .inr (G3.out x hx))) (by simp)
  have hg9 : ∀ g, (Value.slice a9 (L6.length + 1) c9).ownBlock = some g → wc.heap.size ≤ g := fun g hg => by
   rcases q3 with q3 | q3 <;> rw [q3] at hg
   ·exact G3.out g hg
   ·cases hg; simp; omega
  have hown9 : Owns w9 227 9 (.slice a9 (L6.length + 1) c9) (L6 ++ [((⟨p, l, t⟩ : Key), (⟨xf, xa, xb, xc, xd, xm⟩ : Line))]).length (rowP (L6 ++ [(⟨p, l, t⟩, ⟨xf, xa, xb, xc, xd, xm⟩)])) := by
   rw [rowP_append, List.length_append]; simpa [rowP] using q1
  have O9 := Lib.hid hown9
  have G9 := Lib.hid hg9
  have m0 := (E9.block _ (by omega)).trans Q2.out
  have m3 := (E9.block _ (by omega)).trans Q7.out
  have p0 := (heap_cell m0 0).trans rfl
  have p1 := (heap_cell m0 1).trans rfl
  have r0 := (heap_cell m3 0).trans rfl
  have r1 := (heap_cell m3 1).trans rfl
  have f0 := frozen_of m0
  have f3 := frozen_of m3
  have s9 := E9.size
  have M0 := Lib.hid m0
  have M3 := Lib.hid m3
  have HE9 := Lib.hid E9
  clear q1 q2 q3 m0 m3 hown9 hg9 E9 k0 k1 k2 l0 l1 l2 l3 l4 l5
  go_wp2
  refine post_gen (fun U => U.heap[w.heap.size + 1 + 1 + 1]? = some (.cells #[.slice a9 (L6.length + 1) c9, .int .i64 r] 52 (0, 0)) ∧ RefAt U (.slice a9 (L6.length + 1) c9) (L6 ++ [((⟨p, l, t⟩ : Key), (⟨xf, xa, xb, xc, xd, xm⟩ : Line))]) ∧ Ext w U) ⟨?_, ?_, ?_⟩ ?_
  ·exact store2_heap ((setCell_heap _ _ _ _ _ (by omega)).trans M3.out)
  ·refine ⟨O9.out.keep fun g' hg' => ?_, by simp; omega⟩
   have := G9.out g' hg'
   rw [setCell_heap _ _ _ _ _ (by omega), setCell_heap _ _ _ _ _ (by omega), setCell_heap _ _ _ _ _ (by omega)]
  ·exact Ext.setCell (Ext.setCell (Ext.setCell (Q4.out.trans HE9.out) (by simp) _) (by simp; omega) _) (by simp; omega) _
  rintro U ⟨m5, o5, E5⟩
  have v0 := (heap_cell m5 0).trans rfl
  have v1 := (heap_cell m5 1).trans rfl
  have O5 := Lib.hid o5
  clear m5 o5 p0 p1 r0 r1 f0 f3
  refine bodyPost_ret (by simp [results, Tryz.results126, go_sem, ↓IntWalk.iteOmega, *]; try rfl) rfl ⟨_, rfl, by rw [Q3.out]; exact O5.out, E5⟩
theorem putL_set {k : Key} {x : Line} {L : List (Key × Line)} {i : Nat} {y : Line} (h : look k L 0 = some (i, y)) : putL k x L = L.set i (k, x) := by
 unfold putL; rw [h]
theorem refPut_c (L : List (Key × Line)) (k : Key) (x : Line) (pick : Int) (v : Value) (r : Nat) (w : World) (ho : RefAt w v L) (hLr : L.length ≤ r) (hr64 : r ≤ 64)
  (hp0 : -9223372036854775808 ≤ pick) (hp1 : pick ≤ 9223372036854775807) :
  Calls Tryz.prog 126 #[.agg #[v, .int .i64 r], k.val, x.val, .int .i64 pick] w (EndRef (putC k x pick r L) r w) := by
 cases hl : look k L 0 with
 | none => exact refPut_new L k x pick v r w ho hl hLr hr64 hp0 hp1
 | some y =>
  obtain ⟨i, y⟩ := y
  have hlt : i < L.length := (List.getElem?_eq_some_iff.1 (look_some hl).2.1).1
  have e : putC k x pick r L = L.set i (k, x) := by
   unfold putC
   rw [if_neg (by omega), if_pos (by unfold hasK; rw [hl]; rfl), putL_set hl]
  rw [e]
  exact refPut_has L k x i y pick v r w ho hl
end Go.Proofs.YtkfonacokamfiaaGreat
