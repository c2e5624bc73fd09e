/- Joined texts, part 2 of what the law stands on: each as its own head says. -/
import Derived.Test.YtkfonacokamfiaaGreatGoz1
import Derived.Laws.AppendOwn
import Derived.Deep.Upon
import Derived.OwnWalk
import Derived.DeepKeys3
import Derived.ChangeMaps5
/- Rows of cells that somebody holds: what an append leaves; worlds of which a list of blocks may have changed. Own text. -/
namespace Go.Proofs.YtkfonacokamfiaaGreat
set_option linter.unusedVariables false
set_option linter.unusedSimpArgs false
open Go.RowKit
attribute [local go_sem] wext_cell wext_frozen wext_heap alloc_cell alloc_frozen alloc_heap setCell_cell objCell_cells objFrozen_cells
structure Keeps (F : List Nat) (w w' : World) : Prop where
 os : w'.os = w.os
 tape : w'.tape = w.tape
 output : w'.output = w.output
 size : w.heap.size ≤ w'.heap.size
 block : ∀ b, b < w.heap.size → b ∉ F → w'.heap[b]? = w.heap[b]?
theorem Keeps.refl (F : List Nat) (w : World) : Keeps F w w := ⟨rfl, rfl, rfl, Nat.le_refl _, fun _ _ _ => rfl⟩
theorem Keeps.trans {F F' : List Nat} {a b c : World} (h : Keeps F a b) (k : Keeps F' b c) (hF : ∀ x ∈ F', x ∈ F ∨ a.heap.size ≤ x) : Keeps F a c :=
 ⟨k.os.trans h.os, k.tape.trans h.tape, k.output.trans h.output, Nat.le_trans h.size k.size, fun x hx hn =>
  (k.block x (Nat.lt_of_lt_of_le hx h.size) (fun hm => (hF x hm).elim hn (fun h2 => by omega))).trans (h.block x hx hn)⟩
theorem Keeps.same {F : List Nat} {a b c : World} (h : Keeps F a b) (k : Keeps F b c) : Keeps F a c := h.trans k fun _ hx => .inl hx
theorem Keeps.mono {F F' : List Nat} {a b : World} (h : Keeps F a b) (hF : ∀ x ∈ F, x ∈ F' ∨ a.heap.size ≤ x) : Keeps F' a b :=
 ⟨h.os, h.tape, h.output, h.size, fun x hx hn => h.block x hx fun hm => (hF x hm).elim hn fun h2 => by omega⟩
theorem Keeps.ext {F : List Nat} {a b c : World} (h : Keeps F a b) (k : Ext b c) : Keeps F a c :=
 ⟨k.os.trans h.os, k.tape.trans h.tape, k.output.trans h.output, Nat.le_trans h.size k.size, fun x hx hn => (k.block x (Nat.lt_of_lt_of_le hx h.size)).trans (h.block x hx hn)⟩
theorem Keeps.of_ext {F : List Nat} {a b : World} (k : Ext a b) : Keeps F a b := (Keeps.refl F a).ext k
theorem Keeps.to_ext {F : List Nat} {W a b : World} (h : Ext W a) (k : Keeps F a b) (hF : ∀ x ∈ F, W.heap.size ≤ x) : Ext W b :=
 ⟨k.os.trans h.os, k.tape.trans h.tape, k.output.trans h.output, Nat.le_trans h.size k.size, fun x hx =>
  (k.block x (Nat.lt_of_lt_of_le hx h.size) (fun hm => by have := hF x hm; omega)).trans (h.block x hx)⟩
theorem Keeps.grown {F : List Nat} {a b c : World} {row : Option Nat} (h : Keeps F a b) (k : b.grownBy c row) (hr : ∀ x, row = some x → x ∈ F ∨ a.heap.size ≤ x) : Keeps F a c :=
 ⟨k.os.trans h.os, k.tape.trans h.tape, k.output.trans h.output, Nat.le_trans h.size k.size, fun x hx hn =>
  (k.block x (Nat.lt_of_lt_of_le hx h.size) (fun hm => (hr x hm.symm).elim hn (fun h2 => by omega))).trans (h.block x hx hn)⟩
def putBlk (w : World) (r : Nat) (o : Obj) : World := { w with heap := w.heap.setIfInBounds r o }
theorem putBlk_size (w : World) (r : Nat) (o : Obj) : (putBlk w r o).heap.size = w.heap.size := by simp [putBlk]
theorem putBlk_heap (w : World) (r b : Nat) (o : Obj) (hne : r ≠ b) : (putBlk w r o).heap[b]? = w.heap[b]? := by simp [putBlk, Array.getElem?_setIfInBounds, hne]
theorem putBlk_same (w : World) (r : Nat) (o : Obj) (h : r < w.heap.size) : (putBlk w r o).heap[r]? = some o := by simp [putBlk, h]
theorem Keeps.put {F : List Nat} {a b : World} (h : Keeps F a b) {r : Nat} (hr : r ∈ F ∨ a.heap.size ≤ r) (o : Obj) : Keeps F a (putBlk b r o) :=
 ⟨h.os, h.tape, h.output, by rw [putBlk_size]; exact h.size, fun x hx hn => by
  have : r ≠ x := fun e => by subst e; exact hr.elim hn (fun h2 => by omega)
  rw [← h.block x hx hn]; exact putBlk_heap _ _ _ _ this⟩
theorem setCell_heap (w : World) (b i b' : Nat) (v : Value) (hne : b ≠ b') : (w.setCell ⟨b, i, none⟩ v).heap[b']? = w.heap[b']? := by
 simp [World.setCell, Array.getElem?_modify, hne]
theorem setCell_heap_same {w : World} {b i : Nat} {v : Value} {c : Array Value} {e : TypeId} {f : Nat × Nat} (h : w.heap[b]? = some (.cells c e f)) : (w.setCell ⟨b, i, none⟩ v).heap[b]? = some (.cells (c.setIfInBounds i v) e f) := by
 simp [World.setCell, Array.getElem?_modify, h]
theorem Keeps.setCell {F : List Nat} {a b : World} (h : Keeps F a b) {r i : Nat} (hr : r ∈ F ∨ a.heap.size ≤ r) (v : Value) : Keeps F a (b.setCell ⟨r, i, none⟩ v) :=
 ⟨h.os, h.tape, h.output, by simpa using h.size, fun x hx hn => by
  have : r ≠ x := fun e => by subst e; exact hr.elim hn (fun h2 => by omega)
  rw [setCell_heap _ _ _ _ _ this, h.block x hx hn]⟩
theorem store6_heap {w : World} {b : Nat} {c0 c1 c2 c3 c4 c5 v0 v1 v2 v3 v4 v5 : Value} {e : TypeId} {f : Nat × Nat} (h : w.heap[b]? = some (.cells #[c0, c1, c2, c3, c4, c5] e f)) :
  ((((((w.setCell ⟨b, 0, none⟩ v0).setCell ⟨b, 1, none⟩ v1).setCell ⟨b, 2, none⟩ v2).setCell ⟨b, 3, none⟩ v3).setCell ⟨b, 4, none⟩ v4).setCell ⟨b, 5, none⟩ v5).heap[b]? = some (.cells #[v0, v1, v2, v3, v4, v5] e f) :=
 setCell_heap_same (setCell_heap_same (setCell_heap_same (setCell_heap_same (setCell_heap_same (setCell_heap_same h)))))
theorem store6_other {w : World} {b b' : Nat} {v0 v1 v2 v3 v4 v5 : Value} (h : b ≠ b') :
  ((((((w.setCell ⟨b, 0, none⟩ v0).setCell ⟨b, 1, none⟩ v1).setCell ⟨b, 2, none⟩ v2).setCell ⟨b, 3, none⟩ v3).setCell ⟨b, 4, none⟩ v4).setCell ⟨b, 5, none⟩ v5).heap[b']? = w.heap[b']? := by
 rw [setCell_heap _ _ _ _ _ h, setCell_heap _ _ _ _ _ h, setCell_heap _ _ _ _ _ h, setCell_heap _ _ _ _ _ h, setCell_heap _ _ _ _ _ h, setCell_heap _ _ _ _ _ h]
theorem ext6 {a w : World} {b : Nat} {v0 v1 v2 v3 v4 v5 : Value} (h : Ext a w) (hb : a.heap.size ≤ b) :
  Ext a ((((((w.setCell ⟨b, 0, none⟩ v0).setCell ⟨b, 1, none⟩ v1).setCell ⟨b, 2, none⟩ v2).setCell ⟨b, 3, none⟩ v3).setCell ⟨b, 4, none⟩ v4).setCell ⟨b, 5, none⟩ v5) :=
 Ext.setCell (Ext.setCell (Ext.setCell (Ext.setCell (Ext.setCell (Ext.setCell h hb _) hb _) hb _) hb _) hb _) hb _
theorem post_gen {P : Program} {fn : Func} {R : Ending → World → Prop} {e : Exit} {a : Act} {w : World} (C : World → Prop) (hw : C w) (h : ∀ V, C V → bodyPost P fn R e a V) : bodyPost P fn R e a w := h w hw
theorem alloc_same (w : World) (o : Obj) : (w.alloc o).heap[w.heap.size]? = some o := by rw [alloc_heap]; simp
theorem alloc_same1 (w : World) (o o1 : Obj) : ((w.alloc o1).alloc o).heap[w.heap.size + 1]? = some o := by
 have := alloc_same (w.alloc o1) o
 rwa [World.size_alloc] at this
theorem alloc_same2 (w : World) (o o1 o2 : Obj) : (((w.alloc o1).alloc o2).alloc o).heap[w.heap.size + 1 + 1]? = some o := by
 have := alloc_same1 (w.alloc o1) o o2
 rwa [World.size_alloc] at this
theorem alloc_same3 (w : World) (o o1 o2 o3 : Obj) : ((((w.alloc o1).alloc o2).alloc o3).alloc o).heap[w.heap.size + 1 + 1 + 1]? = some o := by
 have := alloc_same2 (w.alloc o1) o o2 o3
 rwa [World.size_alloc] at this
theorem alloc_other (w : World) (o : Obj) {b : Nat} (h : b < w.heap.size) : (w.alloc o).heap[b]? = w.heap[b]? := by rw [alloc_heap, if_pos h]
def Owns (w : World) (e : TypeId) (size : Nat) (v : Value) (n : Nat) (xs : List Value) : Prop :=
 xs.length = n * size ∧
 ((v = .slice none 0 0 ∧ n = 0) ∨
  ∃ g cap cur, v = .slice (some ⟨g, 0, none⟩) n cap ∧ w.heap[g]? = some (.cells cur e (0, 0)) ∧ n ≤ cap ∧ cap ≤ maxLen ∧ cap * size ≤ cur.size ∧ cur.toList.take (n * size) = xs)
section
variable {w w' : World} {e : TypeId} {size : Nat} {v : Value} {n : Nat} {xs : List Value}
theorem Owns.nil (w : World) (e : TypeId) (size : Nat) : Owns w e size (.slice none 0 0) 0 [] := ⟨by simp, .inl ⟨rfl, rfl⟩⟩
theorem Owns.lt (h : Owns w e size v n xs) : ∀ g, v.ownBlock = some g → g < w.heap.size := by
 intro k hk
 rcases h.2 with ⟨rfl, _⟩ | ⟨g, cap, cur, rfl, hg, _⟩
 ·simp [Value.ownBlock] at hk
 ·simp [Value.ownBlock] at hk
  subst hk
  exact (Array.getElem?_eq_some_iff.1 hg).1
theorem Owns.heap (h : Owns w e size v n xs) : ∀ g, v.ownBlock = some g → ∃ c, w.heap[g]? = some (.cells c e (0, 0)) := by
 intro k hk
 rcases h.2 with ⟨rfl, _⟩ | ⟨g, cap, cur, rfl, hg, _⟩
 ·simp [Value.ownBlock] at hk
 ·simp [Value.ownBlock] at hk
  subst hk
  exact ⟨cur, hg⟩
theorem Owns.keep (h : Owns w e size v n xs) (hk : ∀ g, v.ownBlock = some g → w'.heap[g]? = w.heap[g]?) : Owns w' e size v n xs := by
 refine ⟨h.1, ?_⟩
 rcases h.2 with hn | ⟨g, cap, cur, rfl, hg, rest⟩
 ·exact .inl hn
 ·exact .inr ⟨g, cap, cur, rfl, by rw [hk g rfl]; exact hg, rest⟩
theorem Owns.ext (h : Owns w e size v n xs) (k : Ext w w') : Owns w' e size v n xs := h.keep fun g hg => k.block g (h.lt g hg)
theorem Owns.form (h : Owns w e size v n xs) : ∃ a cap, v = .slice a n cap ∧ n ≤ cap ∧ cap ≤ maxLen := by
 rcases h.2 with ⟨rfl, rfl⟩ | ⟨g, cap, cur, rfl, hg, h1, h2, _⟩
 ·exact ⟨none, 0, rfl, Nat.le_refl _, Nat.zero_le _⟩
 ·exact ⟨_, cap, rfl, h1, h2⟩
theorem Owns.cells (h : Owns w e size v n xs) {g : Nat} (hg : v.ownBlock = some g) : ∀ j u, xs[j]? = some u → w.cell? ⟨g, j, none⟩ = some u := by
 intro j u hu
 rcases h.2 with ⟨rfl, _⟩ | ⟨g', cap, cur, rfl, hgg, _, _, _, htake⟩
 ·simp [Value.ownBlock] at hg
 ·simp [Value.ownBlock] at hg
  subst hg
  rw [cell_of_row w g' j cur e (0, 0) hgg]
  rw [← htake, List.getElem?_take] at hu
  split at hu
  ·simpa using hu
  ·cases hu
theorem Owns.take (h : Owns w e size v n xs) {g cap : Nat} (hv : v = .slice (some ⟨g, 0, none⟩) n cap) (k : Nat) (hk : k ≤ n) : Owns w e size (.slice (some ⟨g, 0, none⟩) k k) k (xs.take (k * size)) := by
 refine ⟨by rw [List.length_take, h.1]; exact Nat.min_eq_left (Nat.mul_le_mul_right _ hk), ?_⟩
 rcases h.2 with ⟨rfl, _⟩ | ⟨g', cap', cur, rfl, hgg, h1, h2, h3, htake⟩
 ·cases hv
 ·cases hv
  refine .inr ⟨g, k, cur, rfl, hgg, Nat.le_refl _, by omega, Nat.le_trans (Nat.mul_le_mul_right _ (by omega)) h3, ?_⟩
  rw [← htake, List.take_take, Nat.min_eq_left (Nat.mul_le_mul_right _ hk)]
end
theorem add0 (g j : Nat) : (⟨g, 0, none⟩ : Addr).add j = ⟨g, j, none⟩ := by unfold Addr.add; split <;> simp_all
section
variable {P : Program} (w : World)
theorem run_append_owns (t ty e : TypeId) (i : TypeInfo) (z : Value) (size bytes : Nat) (ht : P.underlying t = some (.slice e)) (hi : P.info? e = some i) (hz : i.zero = some z)
  (hsize : i.size = size) (hby : i.bytes = bytes) (hzs : z.cells.size = size)
  (v : Value) (n : Nat) (xs : List Value) (hown : Owns w e size v n xs)
  (a : Addr) (m c : Nat) (news : List Value) (hl : news.length = m * size) (hnews : ∀ j u, news[j]? = some u → w.cell? (a.add j) = some u) (h1 : ∀ u ∈ news, u.oneCell' = true)
  (h63 : n + m ≤ maxLen) (hbytes : (n + m) * bytes ≤ 140737488355328) :
  ∃ v' w', (Builtin.append_ #[t, t] ty #[v, .slice (some a) m c]).run P w = .ok v' w' ∧ Owns w' e size v' (n + m) (xs ++ news) ∧ w.grownBy w' v.ownBlock ∧ (v'.ownBlock = v.ownBlock ∨ v'.ownBlock = some w.heap.size) := by
 subst hsize
 subst hby
 have hsmall : n + m ≤ 9223372036854775807 := by simp only [maxLen] at h63; omega
 have hlen : (xs ++ news).length = (n + m) * i.size := by rw [List.length_append, hown.1, hl, Nat.add_mul]
 have grown : ∀ (old : Nat) (row : Option Nat),
   Owns (w.drew.alloc (.cells (xs.toArray ++ news.toArray ++ Builtin.zeroCells z.cells (grownCap w (n + m) old e - (n + m))) e)) e i.size
    (.slice (some ⟨w.heap.size, 0, none⟩) (n + m) (grownCap w (n + m) old e)) (n + m) (xs ++ news) ∧
   w.grownBy (w.drew.alloc (.cells (xs.toArray ++ news.toArray ++ Builtin.zeroCells z.cells (grownCap w (n + m) old e - (n + m))) e)) row := by
  intro old row
  have hge := grownCap_ge w (n + m) old e
  refine ⟨⟨hlen, .inr ⟨w.heap.size, _, _, rfl, heap_alloc_new w.drew _, hge, grownCap_le_maxLen w (n + m) old e h63, ?_, ?_⟩⟩, ⟨rfl, rfl, rfl, by simp, fun k hk _ => heap_alloc_old w.drew _ hk⟩⟩
  ·apply Nat.le_of_eq
   simp only [Array.size_append, List.size_toArray, size_zeroCells, hzs, hown.1, hl, ← Nat.add_mul]
   congr 1
   omega
  ·simp only [Array.toList_append, List.append_assoc]
   rw [← List.append_assoc, ← hlen]
   exact List.take_left
 rcases hown.2 with ⟨rfl, rfl⟩ | ⟨g, cap, cur, rfl, hg, hnc, hcm, hcs, htake⟩
 ·have hx : xs = [] := List.eq_nil_of_length_eq_zero (by simpa using hown.1)
  subst hx
  by_cases hm : m = 0
  ·subst hm
   have hn : news = [] := List.eq_nil_of_length_eq_zero (by simpa using hl)
   subst hn
   refine ⟨.slice none 0 0, w, ?_, Owns.nil w e i.size, ⟨rfl, rfl, rfl, Nat.le_refl _, fun _ _ _ => rfl⟩, .inl rfl⟩
   simp [Builtin.append_, run_underlying ht, sizeOf, typeInfo, hi, Builtin.lenOf, Builtin.firstCells, loadCells, loadCellsFrom]
  ·have hr := run_append_nil (P := P) w t ty e i z ht hi hz a m c news hl hnews (by omega) (by omega) (by have hb := hbytes; simp only [Nat.zero_add] at hb; omega)
   have hgr := grown 0 (Value.ownBlock (.slice none 0 0))
   simp only [Nat.zero_add, List.nil_append, Array.empty_append] at hgr ⊢
   exact ⟨_, _, hr, hgr.1, hgr.2, .inr rfl⟩
 ·by_cases hroom : n + m ≤ cap
  ·have hfit : n * i.size + news.length ≤ cur.size := by rw [hl, ← Nat.add_mul]; exact Nat.le_trans (Nat.mul_le_mul_right _ hroom) hcs
   have hr := run_append_room (P := P) w t ty e i ht hi g n cap cur hg a m c news hl hnews h1 hroom hfit
   refine ⟨_, _, hr, ⟨hlen, .inr ⟨g, cap, _, rfl, setRow_heap w g cur _ e _ hg, hroom, hcm, ?_, ?_⟩⟩, ⟨rfl, rfl, rfl, by simp, fun k _ hk => setRow_other w g k _ (fun e => hk (by simp [Value.ownBlock, e]))⟩, .inl rfl⟩
   ·simp only [List.size_toArray, List.length_append, List.length_take, List.length_drop, Array.length_toList]
    omega
   ·rw [htake, ← hlen]
    exact List.take_left
  ·have holds : ∀ j u, xs[j]? = some u → w.cell? ((⟨g, 0, none⟩ : Addr).add j) = some u := fun j u hu => by rw [add0]; exact hown.cells (g := g) rfl j u hu
   have hr := run_append_grow (P := P) w t ty e i z ht hi hz ⟨g, 0, none⟩ n cap xs hown.1 holds a m c news hl hnews (by omega) (by omega) (growslice_fits (by omega) hbytes)
   have hgr := grown cap (Value.ownBlock (.slice (some ⟨g, 0, none⟩) n cap))
   exact ⟨_, _, hr, hgr.1, hgr.2, .inr rfl⟩
theorem run_append_owns_nil (t ty e : TypeId) (i : TypeInfo) (size : Nat) (ht : P.underlying t = some (.slice e)) (hi : P.info? e = some i)
  (v : Value) (n : Nat) (xs : List Value) (hown : Owns w e size v n xs) : (Builtin.append_ #[t, t] ty #[v, .slice none 0 0]).run P w = .ok v w := by
 rcases hown.2 with ⟨rfl, rfl⟩ | ⟨g, cap, cur, rfl, hg, hnc, _⟩
 ·simp [Builtin.append_, run_underlying ht, sizeOf, typeInfo, hi, Builtin.lenOf, Builtin.firstCells, loadCells, loadCellsFrom]
 ·simp [Builtin.append_, run_underlying ht, sizeOf, typeInfo, hi, Builtin.lenOf, Builtin.firstCells, hnc, storeCells]
end
def RowT (P : Program) (t e : TypeId) (size bytes : Nat) : Prop := ∃ i z, P.underlying t = some (.slice e) ∧ P.info? e = some i ∧ i.zero = some z ∧ i.size = size ∧ i.bytes = bytes ∧ z.cells.size = size
theorem RowT.of {P : Program} {t e : TypeId} {size bytes : Nat} {z : Value} (ht : P.underlying t = some (.slice e)) (hi : (P.info? e).map (fun i => (i.zero, i.size, i.bytes)) = some (some z, size, bytes)) (hz : z.cells.size = size) : RowT P t e size bytes := by
 cases h : P.info? e with
 | none => rw [h] at hi; cases hi
 | some i =>
  rw [h] at hi
  simp only [Option.map_some, Option.some.injEq, Prod.mk.injEq] at hi
  exact ⟨i, z, ht, h, hi.1, hi.2.1, hi.2.2, hz⟩
section
variable {P : Program} {w : World} {ops : Array Oper} {rest : List Oper} {o : Oper} {a : Act} {Q : Exit → Act → World → Prop}
theorem wp_append_run {K : Act → World → Prop} (s x : Operand) (t : TypeId)
  (ho : o.op = .call { callee := .builtin .append, args := #[s, x], argTypes := #[t, t] }) (v x' : Value) (hs : a.eval s = v) (hx : a.eval x = x') (v' : Value) (w' : World)
  (hr : (Builtin.append_ #[t, t] o.type #[v, x']).run P w = .ok v' w') (h : K (a.put o.dst v') w') : o.wp P a w K Q := by
 unfold Oper.wp execOp
 simp only [ho, resolve, invoke, builtin, Sem.run_bind, Sem.run_pure, Result.andThen_ok, List.map_toArray, List.map_cons, List.map_nil, hs, hx, hr]
 exact h
theorem wpList_append_owns (hgd : o.guard = none) (s x : Operand) (t e : TypeId) (size bytes : Nat) (R : RowT P t e size bytes)
  (ho : o.op = .call { callee := .builtin .append, args := #[s, x], argTypes := #[t, t] }) (v : Value) (hs : a.eval s = v) (n : Nat) (xs : List Value) (hown : Owns w e size v n xs)
  (b : Addr) (m c : Nat) (hx : a.eval x = .slice (some b) m c) (news : List Value) (hl : news.length = m * size) (hnews : ∀ j u, news[j]? = some u → w.cell? (b.add j) = some u) (h1 : ∀ u ∈ news, u.oneCell' = true)
  (h63 : n + m ≤ maxLen) (hbytes : (n + m) * bytes ≤ 140737488355328)
  (h : ∀ v' w', Owns w' e size v' (n + m) (xs ++ news) → w.grownBy w' v.ownBlock → (v'.ownBlock = v.ownBlock ∨ v'.ownBlock = some w.heap.size) → wpList P ops Q rest (a.put o.dst v') w') : wpList P ops Q (o :: rest) a w := by
 obtain ⟨i, z, ht, hi, hz, hsi, hby, hzs⟩ := R
 obtain ⟨v', w', hr, q1, q2, q3⟩ := run_append_owns w t o.type e i z size bytes ht hi hz hsi hby hzs v n xs hown b m c news hl hnews h1 h63 hbytes
 exact wpList_plain hgd fun _ hK => wp_append_run s x t ho v _ hs hx v' w' hr (hK _ _ (h v' w' q1 q2 q3))
theorem wpList_append_owns_nil (hgd : o.guard = none) (s x : Operand) (t e : TypeId) (size bytes : Nat) (R : RowT P t e size bytes)
  (ho : o.op = .call { callee := .builtin .append, args := #[s, x], argTypes := #[t, t] }) (v : Value) (hs : a.eval s = v) (n : Nat) (xs : List Value) (hown : Owns w e size v n xs)
  (hx : a.eval x = .slice none 0 0) (h : wpList P ops Q rest (a.put o.dst v) w) : wpList P ops Q (o :: rest) a w := by
 obtain ⟨i, z, ht, hi, hz, hsi, hby, hzs⟩ := R
 exact wpList_plain hgd fun _ hK => wp_append_run s x t ho v _ hs hx v w (run_append_owns_nil w t o.type e i size ht hi v n xs hown) (hK _ _ h)
theorem Owns.fresh {w : World} {e : TypeId} {size : Nat} {g : Nat} {c : Array Value} (h : w.heap[g]? = some (.cells c e (0, 0))) : Owns w e size (.slice (some ⟨g, 0, none⟩) 0 0) 0 [] :=
 ⟨by simp, .inr ⟨g, 0, c, rfl, h, Nat.le_refl _, Nat.zero_le _, by simp, by simp⟩⟩
theorem Owns.fresh1 {w : World} {e : TypeId} {size : Nat} {g : Nat} {c : Array Value} (h : w.heap[g]? = some (.cells c e (0, 0))) (hc : c.size = size) : Owns w e size (.slice (some ⟨g, 0, none⟩) 1 1) 1 c.toList :=
 ⟨by simp [hc], .inr ⟨g, 1, c, rfl, h, Nat.le_refl _, by unfold maxLen; omega, by simp [hc], by rw [Nat.one_mul, List.take_of_length_le (by simp [hc])]⟩⟩
end
theorem heap_cell {w : World} {b : Nat} {c : Array Value} {e : TypeId} {f : Nat × Nat} (h : w.heap[b]? = some (.cells c e f)) (i : Nat) : w.cell? ⟨b, i, none⟩ = c[i]? := by
 rw [cell_heap, h]; rfl
theorem heap_lt {w : World} {b : Nat} {o : Obj} (h : w.heap[b]? = some o) : b < w.heap.size := (Array.getElem?_eq_some_iff.1 h).1
theorem frozen_of {w : World} {b : Nat} {c : Array Value} {e : TypeId} (h : w.heap[b]? = some (.cells c e (0, 0))) (o : Nat) : w.frozen? ⟨b, o, none⟩ = false := by rw [frozen_heap, h]; simp [objFrozen]
theorem getObj_at {P : Program} {w : World} {r : Nat} {es : Array MapEntry} {c : Nat} (h : w.heap[r]? = some (.map es c)) : (getObj r).run P w = .ok (.map es c) w := by simp [getObj, Sem.run, h]
theorem setObj_at {P : Program} {w : World} {r : Nat} {es : Array MapEntry} {c : Nat} (o' : Obj) (h : w.heap[r]? = some (.map es c)) : (setObj r o').run P w = .ok () (putBlk w r o') := by simp [setObj, Sem.run, h, putBlk]
end Go.Proofs.YtkfonacokamfiaaGreat
/- Memories: maps from pages' numbers to pages; what a memory is; may, aligned, at, Bits, Peek, New. -/
namespace Go.Proofs.YtkfonacokamfiaaGreat
set_option linter.unusedVariables false
set_option linter.unusedSimpArgs false
open Go.RowKit
attribute [local go_sem] wext_cell wext_frozen wext_heap alloc_cell alloc_frozen alloc_heap setCell_cell objCell_cells objFrozen_cells
def EntP (es : Array MapEntry) (clock : Nat) (PL : List (Int × Nat)) : Prop := ((∀ e ∈ es.toList, e.born < clock) ∧ (es.toList.map (·.born)).Nodup) ∧ es.toList.map (fun e => (e.key, e.val)) = PL.map fun x => (.int .u64 x.1, .pointer (some ⟨x.2, 0, none⟩))
def findI (n : Int) : List (Int × Nat) → Nat → Option (Nat × Nat)
 | [], _ => none
 | x :: L, i => if n = x.1 then some (i, x.2) else findI n L (i + 1)
def findP (n : Int) (PL : List (Int × Nat)) : Option Nat := (findI n PL 0).map (·.2)
theorem findNowP (n : Int) : ∀ (l : List MapEntry) (PL : List (Int × Nat)) (i : Nat), l.map (fun e => (e.key, e.val)) = PL.map (fun x => (Value.int .u64 x.1, Value.pointer (some ⟨x.2, 0, none⟩))) →
  Instr.findNow (.int .u64) (.int .u64 n) l i = some ((findI n PL i).map fun x => (x.1, .pointer (some ⟨x.2, 0, none⟩)))
 | [], [], i, _ => rfl
 | [], x :: L, i, h => by cases h
 | e :: l, [], i, h => by cases h
 | e :: l, x :: L, i, h => by
  simp only [List.map_cons, List.cons.injEq, Prod.mk.injEq] at h
  unfold Instr.findNow findI
  rw [h.1.1]
  simp only [Instr.sameNow, if_true]
  by_cases hk : n = x.1
  ·simp [hk, h.1.2]
  ·have : (n == x.1) = false := by simpa using hk
   rw [this, if_neg hk]
   exact findNowP n l L (i + 1) h.2
theorem findKeyP (n : Int) (w : World) (es : Array MapEntry) (clock : Nat) (PL : List (Int × Nat)) (h : EntP es clock PL) :
  (Instr.findKey 23 (.int .u64 n) es.toList).run Tryz.prog w = .ok ((findI n PL 0).map fun x => (x.1, .pointer (some ⟨x.2, 0, none⟩))) w := by
 unfold Instr.findKey
 rw [Sem.run_bind, run_underlying Tryz.underlying23]
 simp only [Result.andThen_ok, findNowP n es.toList PL 0 h.2]
 rfl
theorem checkP_at (e : Bool) (n : Int) (w : World) (d : Nat) : (Instr.checkKey e (d + 1) 23 (.int .u64 n)).run Tryz.prog w = .ok () w := by
 simp [Instr.checkKey, go_sem]
theorem checkP (e : Bool) (n : Int) (w : World) : (Instr.checkKey e 10000 23 (.int .u64 n)).run Tryz.prog w = .ok () w := checkP_at e n w 9999
theorem lookupP_run (n : Int) (w : World) (pb : Nat) (es : Array MapEntry) (clock : Nat) (PL : List (Int × Nat)) (hb : w.heap[pb]? = some (.map es clock)) (h : EntP es clock PL) :
  (Instr.lookup 122 (.map (some pb)) (.int .u64 n) false).run Tryz.prog w = .ok (match findP n PL with | some g => .pointer (some ⟨g, 0, none⟩) | none => .pointer none) w := by
 unfold Instr.lookup
 rw [Sem.run_bind, run_underlying Tryz.underlying122]
 simp only [Result.andThen_ok, Sem.run_bind, getObj_at hb, Sem.run_pure, checkP, findKeyP n w es clock PL h]
 unfold findP
 cases hl : findI n PL 0 with
 | none => simp [go_sem]
 | some x => simp
theorem updateP_run (n : Int) (g : Nat) (w : World) (pb : Nat) (es : Array MapEntry) (clock : Nat) (PL : List (Int × Nat)) (hb : w.heap[pb]? = some (.map es clock)) (h : EntP es clock PL) (hn : findP n PL = none) :
  ∃ es' c', (Instr.mapUpdate 122 (.map (some pb)) (.int .u64 n) (.pointer (some ⟨g, 0, none⟩))).run Tryz.prog w = .ok () (putBlk w pb (.map es' c')) ∧ EntP es' c' (PL ++ [(n, g)]) := by
 unfold Instr.mapUpdate
 rw [Sem.run_bind, run_underlying Tryz.underlying122]
 simp only [Result.andThen_ok, Sem.run_bind, getObj_at hb, Sem.run_pure, checkP, findKeyP n w es clock PL h]
 unfold findP at hn
 cases hl : findI n PL 0 with
 | some x => rw [hl] at hn; cases hn
 | none =>
  refine ⟨_, _, setObj_at _ hb, ?_⟩
  obtain ⟨⟨h1, h2⟩, h3⟩ := h
  refine ⟨⟨fun e he => ?_, ?_⟩, by simp [h3]⟩
  ·simp only [Array.toList_push, List.mem_append, List.mem_singleton] at he
   rcases he with he | rfl
   ·have := h1 e he; omega
   ·exact Nat.lt_succ_self _
  ·simp only [Array.toList_push, List.map_append, List.map_cons, List.map_nil]
   rw [List.nodup_append]
   refine ⟨h2, by simp, fun a ha b hb => ?_⟩
   obtain ⟨e, he, rfl⟩ := List.mem_map.1 ha
   simp only [List.mem_singleton] at hb
   have := h1 e he
   omega
def PageAt (w : World) (g : Nat) (n : Int) (M : Int → Int) : Prop := ∃ c, w.heap[g]? = some (.cells c 139 (0, 0)) ∧ c.size = 512 ∧ ∀ i : Nat, i < 512 → c[i]? = some (.int .u64 (M (n * 512 + i)))
def MemAt (w : World) (mb : Nat) (F : List Nat) (B : Int) (M : Int → Int) (T : List Int) : Prop :=
 ∃ pb tv es clock PL, w.heap[mb]? = some (.cells #[.int .i64 B, .map (some pb), tv] 124 (0, 0)) ∧ w.heap[pb]? = some (.map es clock) ∧ EntP es clock PL ∧ (PL.map (·.1)).Nodup ∧ (PL.map (·.2)).Nodup ∧
  (∀ x ∈ PL, PageAt w x.2 x.1 M) ∧ (∀ s, findP (s / 512) PL = none → M s = 0) ∧ (∀ s, 0 ≤ M s ∧ M s ≤ 18446744073709551615) ∧
  Owns w 23 1 tv T.length (T.map (.int .u64 ·)) ∧ F = mb :: pb :: (tv.ownBlock.toList ++ PL.map (·.2)) ∧ (14 ≤ B ∧ B ≤ 22)
theorem MemAt.lt {w : World} {mb : Nat} {F : List Nat} {B : Int} {M : Int → Int} {T : List Int} (h : MemAt w mb F B M T) : ∀ x ∈ F, x < w.heap.size := by
 obtain ⟨pb, tv, es, clock, PL, h1, h2, h3, h4, h5, h6, h7, h8, h9, rfl, h10⟩ := h
 intro x hx
 simp only [List.mem_cons, List.mem_append, Option.mem_toList, List.mem_map] at hx
 rcases hx with rfl | rfl | hx | ⟨y, hy, rfl⟩
 ·exact heap_lt h1
 ·exact heap_lt h2
 ·exact h9.lt x hx
 ·obtain ⟨c, hc, _⟩ := h6 y hy; exact heap_lt hc
theorem MemAt.keeps {w w' : World} {mb : Nat} {F G : List Nat} {B : Int} {M : Int → Int} {T : List Int} (h : MemAt w mb F B M T) (k : Keeps G w w') (hd : ∀ x ∈ F, x ∉ G) : MemAt w' mb F B M T := by
 have hlt := h.lt
 have hk : ∀ b ∈ F, w'.heap[b]? = w.heap[b]? := fun b hb => k.block b (hlt b hb) (hd b hb)
 obtain ⟨pb, tv, es, clock, PL, h1, h2, h3, h4, h5, h6, h7, h8, h9, hF, h10⟩ := h
 refine ⟨pb, tv, es, clock, PL, (hk _ (by rw [hF]; simp)).trans h1, (hk _ (by rw [hF]; simp)).trans h2, h3, h4, h5, fun x hx => ?_, h7, h8, h9.keep fun g hg => hk g (by rw [hF]; simp [hg]), hF, h10⟩
 obtain ⟨c, q1, q2, q3⟩ := h6 x hx
 exact ⟨c, (hk _ (by rw [hF]; simp only [List.mem_cons, List.mem_append, List.mem_map]; exact .inr (.inr (.inr ⟨x, hx, rfl⟩)))).trans q1, q2, q3⟩
theorem MemAt.ext {w w' : World} {mb : Nat} {F : List Nat} {B : Int} {M : Int → Int} {T : List Int} (h : MemAt w mb F B M T) (k : Ext w w') : MemAt w' mb F B M T :=
 h.keeps (G := []) (Keeps.of_ext k) (fun _ _ => by simp)
theorem findI_mem {n : Int} : ∀ {L : List (Int × Nat)} {i j g : Nat}, findI n L i = some (j, g) → (n, g) ∈ L
 | [], _, _, _, h => by cases h
 | x :: L, i, j, g, h => by
  unfold findI at h
  split at h
  ·rename_i hn
   cases h
   rw [hn]; exact List.mem_cons_self ..
  ·exact List.mem_cons_of_mem _ (findI_mem h)
theorem findP_mem {n : Int} {L : List (Int × Nat)} {g : Nat} (h : findP n L = some g) : (n, g) ∈ L := by
 unfold findP at h
 cases hl : findI n L 0 with
 | none => rw [hl] at h; cases h
 | some x => rw [hl] at h; cases h; exact findI_mem hl
set_option maxHeartbeats 1000000 in
set_option maxRecDepth 20000 in
theorem mat_c (mb : Nat) (F : List Nat) (B : Int) (M : Int → Int) (T : List Int) (a : Int) (w : World) (h : MemAt w mb F B M T) (h0 : 0 ≤ a) (h1 : a ≤ 4194303) :
  Calls Tryz.prog 66 #[.pointer (some ⟨mb, 0, none⟩), .int .u64 a] w fun e w' => e = .returned (.int .u64 (M (a / 8))) ∧ Ext w w' := by
 obtain ⟨pb, tv, es, clock, PL, p1, p2, p3, -, -, p6, p7, -, -, -, -⟩ := h
 have c1 := (heap_cell p1 1).trans rfl
 have hlt := heap_lt p1
 have hlk := lookupP_run (a / 4096) w pb es clock PL p2 p3
 cases hf : findP (a / 4096) PL with
 | none =>
  have hz : M (a / 8) = 0 := p7 (a / 8) (by rw [show a / 8 / 512 = a / 4096 by omega]; exact hf)
  rw [hf] at hlk
  rw [hz]
  dsimp only at hlk
  clear p1 p2 p3 p6 p7
  go_enter Tryz.func66, Tryz.ntmps66
  go_wp2
  all_goals
   go_ret
   exact ⟨rfl, (by repeat (first | exact Ext.refl _ | assumption | refine Ext.alloc ?_ _ | refine Ext.drew ?_ | refine Ext.setCell ?_ (by first | (simp; done) | (dsimp only; omega)) _ | refine Ext.trans ?_ (by assumption)))⟩
 | some g =>
  obtain ⟨c, q1, q2, q3⟩ := p6 _ (findP_mem hf)
  rw [hf] at hlk
  dsimp only at hlk q3
  have hcell : w.cell? ⟨g, (a % 4096 / 8).toNat, none⟩ = some (.int .u64 (M (a / 8))) := by
   rw [heap_cell q1, q3 _ (by omega)]
   congr 3; omega
  have hgl := heap_lt q1
  clear p1 p2 p3 p6 p7 q1 q2 q3
  go_enter Tryz.func66, Tryz.ntmps66
  go_wp2
  all_goals
   go_ret
   exact ⟨rfl, (by repeat (first | exact Ext.refl _ | assumption | refine Ext.alloc ?_ _ | refine Ext.drew ?_ | refine Ext.setCell ?_ (by first | (simp; done) | (dsimp only; omega)) _ | refine Ext.trans ?_ (by assumption)))⟩
end Go.Proofs.YtkfonacokamfiaaGreat
