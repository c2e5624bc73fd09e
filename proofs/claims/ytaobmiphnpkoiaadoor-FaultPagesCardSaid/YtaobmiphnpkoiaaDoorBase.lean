/- Words that all walks of this family share: a world that has grown (Ext), a region whose operations read or lay new memory, walked once, with a tail that writes. Own text. -/
import Derived.Test.YtaobmiphnpkoiaaDoorProg
import Derived.WalkKit
import Derived.WalkSpells
import Derived.WalkLawsBesides
import Derived.KernelRfl
import Derived.Deep.QuietTactic
import Derived.BigQuiet
import Derived.StillTail
import Derived.Deep.LoopGhost
import Derived.Deep.DeepCutAuto
import Derived.Deep.CutBlock
import Derived.Lib.Hide
namespace Go.Proofs.YtaobmiphnpkoiaaDoor
open Go.RowKit

/-- w' is w with new blocks. -/
def Ext (w w' : World) : Prop := Below w.heap.size w w'

theorem Ext.refl (w : World) : Ext w w := Below.refl _ _
theorem Ext.size {w w' : World} (h : Ext w w') : w.heap.size ≤ w'.heap.size := Below.size h
theorem Ext.trans {a b c : World} (h : Ext a b) (k : Ext b c) : Ext a c := Below.trans h (Below.mono k h.size)
theorem Ext.alloc {a w : World} (h : Ext a w) (o : Obj) : Ext a (w.alloc o) := Below.alloc h h.size o
theorem Ext.drew {a w : World} (h : Ext a w) : Ext a w.drew := Below.drew h
theorem Ext.drewN {a w : World} (h : Ext a w) (n : Nat) : Ext a (w.drewN n) := ⟨h.os, h.tape, h.output, h.size, h.block⟩
theorem Ext.setCell {a w : World} (h : Ext a w) {p : Addr} (hp : a.heap.size ≤ p.block) (u : Value) : Ext a (w.setCell p u) := Below.setCell h hp u
theorem Ext.cell {w w' : World} (h : Ext w w') (b o : Nat) (hb : b < w.heap.size) : w'.cell? ⟨b, o, none⟩ = w.cell? ⟨b, o, none⟩ := Below.cell (p := ⟨b, o, none⟩) h hb
theorem Ext.frozen {w w' : World} (h : Ext w w') (b o : Nat) (hb : b < w.heap.size) : w'.frozen? ⟨b, o, none⟩ = w.frozen? ⟨b, o, none⟩ := Below.frozen (p := ⟨b, o, none⟩) h hb
theorem Ext.block {w w' : World} (h : Ext w w') (b : Nat) (hb : b < w.heap.size) : w'.heap[b]? = w.heap[b]? := Below.block h b hb
theorem Ext.someCell {w w' : World} (h : Ext w w') {p : Addr} {v : Value} (hv : w.cell? p = some v) : w'.cell? p = some v := by
  rw [Below.cell h (World.block_lt_of_cell? _ _ hv)]; exact hv

/-- A fact that the walk does not look into. -/
structure Aside (p : Prop) : Prop where
  mk ::
  out : p

/-- The world under a name of its own. -/
theorem wp_gen {P : Program} {c : Code} {Q : Exit → Act → World → Prop} {a : Act} {w : World} (h : ∀ W, W = w → Code.wp P c Q a W) : Code.wp P c Q a w := h w rfl

/-- Cells, marks and blocks under a second name: no rule speaks of them. -/
def cell2 (w : World) (b o : Nat) : Option Value := w.cell? ⟨b, o, none⟩
def frozen2 (w : World) (b o : Nat) : Bool := w.frozen? ⟨b, o, none⟩
def heap2 (w : World) (b : Nat) : Option Obj := w.heap[b]?

/-- What a caller wants to know behind a call that only lays new memory. -/
theorem Ext.facts {w w' : World} (h : Ext w w') : (∀ b o, w'.cell? ⟨b, o, none⟩ = if b < w.heap.size then w.cell? ⟨b, o, none⟩ else cell2 w' b o) ∧
    (∀ b o, w'.frozen? ⟨b, o, none⟩ = if b < w.heap.size then w.frozen? ⟨b, o, none⟩ else frozen2 w' b o) ∧
    (∀ b, w'.heap[b]? = if b < w.heap.size then w.heap[b]? else heap2 w' b) ∧ w.heap.size ≤ w'.heap.size := by
  refine ⟨fun b o => ?_, fun b o => ?_, fun b => ?_, h.size⟩
  · split
    · rename_i hb; exact h.cell b o hb
    · rfl
  · split
    · rename_i hb; exact h.frozen b o hb
    · rfl
  · split
    · rename_i hb; exact h.block b hb
    · rfl

/-- d, if it is w with new blocks; else w: all worlds that have grown out of w, in one term. -/
noncomputable def wext (w d : World) : World := open Classical in if Ext w d then d else w

theorem wext_ext (w d : World) : Ext w (wext w d) := by
  unfold wext; split
  · assumption
  · exact Ext.refl w
theorem wext_of {w d : World} (h : Ext w d) : d = wext w d := by unfold wext; rw [if_pos h]
theorem wext_trans {w d e : World} (h : Ext (wext w d) e) : ∃ n, e = wext w n := ⟨e, wext_of ((wext_ext w d).trans h)⟩
theorem wext_cell {w d : World} {b o : Nat} : (wext w d).cell? ⟨b, o, none⟩ = if b < w.heap.size then w.cell? ⟨b, o, none⟩ else cell2 (wext w d) b o := (wext_ext w d).facts.1 b o
theorem wext_frozen {w d : World} {b o : Nat} : (wext w d).frozen? ⟨b, o, none⟩ = if b < w.heap.size then w.frozen? ⟨b, o, none⟩ else frozen2 (wext w d) b o := (wext_ext w d).facts.2.1 b o
theorem wext_heap {w d : World} {b : Nat} : (wext w d).heap[b]? = if b < w.heap.size then w.heap[b]? else heap2 (wext w d) b := (wext_ext w d).facts.2.2.1 b

/-- A cell of a block by itself. -/
def objCell : Obj → Nat → Option Value
  | .cells c _ _, i => c[i]?
  | _, _ => none
theorem objCell_cells (c : Array Value) (t : TypeId) (fr : Nat × Nat) (i : Nat) : objCell (.cells c t fr) i = c[i]? := rfl
def objFrozen : Obj → Nat → Bool
  | .cells _ _ (lo, hi), i => lo ≤ i && i < hi
  | _, _ => false
theorem objFrozen_cells (c : Array Value) (t : TypeId) (lo hi i : Nat) : objFrozen (.cells c t (lo, hi)) i = (decide (lo ≤ i) && decide (i < hi)) := rfl
theorem alloc_heap (w : World) (o : Obj) (b : Nat) : (w.alloc o).heap[b]? = if b < w.heap.size then w.heap[b]? else if b = w.heap.size then some o else none := by
  show (w.heap.push o)[b]? = _
  rw [Array.getElem?_push]
  by_cases h : b = w.heap.size
  · rw [if_pos h, if_neg (by omega), if_pos h]
  · rw [if_neg h]
    by_cases h2 : b < w.heap.size
    · rw [if_pos h2]
    · rw [if_neg h2, if_neg h, Array.getElem?_eq_none (by omega)]
theorem cell_heap (w : World) (b i : Nat) : w.cell? ⟨b, i, none⟩ = (w.heap[b]?).bind (objCell · i) := by
  unfold World.cell?
  cases h : w.heap[b]? with
  | none => simp
  | some o => cases o <;> simp [objCell]
theorem frozen_heap (w : World) (b i : Nat) : w.frozen? ⟨b, i, none⟩ = ((w.heap[b]?).map (objFrozen · i)).getD false := by
  unfold World.frozen?
  cases h : w.heap[b]? with
  | none => simp
  | some o => cases o <;> simp [objFrozen]
theorem alloc_cell (w : World) (o : Obj) (b i : Nat) : (w.alloc o).cell? ⟨b, i, none⟩ = if b < w.heap.size then w.cell? ⟨b, i, none⟩ else if b = w.heap.size then objCell o i else none := by
  rw [cell_heap, cell_heap, alloc_heap]
  split
  · rfl
  · split <;> rfl
theorem alloc_frozen (w : World) (o : Obj) (b i : Nat) : (w.alloc o).frozen? ⟨b, i, none⟩ = if b < w.heap.size then w.frozen? ⟨b, i, none⟩ else if b = w.heap.size then objFrozen o i else false := by
  rw [frozen_heap, frozen_heap, alloc_heap]
  split
  · rfl
  · split <;> rfl
theorem setCell_cell (w : World) (b i b' j : Nat) (v : Value) : (w.setCell ⟨b, i, none⟩ v).cell? ⟨b', j, none⟩ = if b = b' then (if i = j then (w.cell? ⟨b', j, none⟩).map (fun _ => v) else w.cell? ⟨b', j, none⟩) else w.cell? ⟨b', j, none⟩ := by
  rw [cell_heap, cell_heap]
  simp only [World.setCell, Array.getElem?_modify]
  by_cases h : b = b'
  · subst h
    rw [if_pos rfl, if_pos rfl]
    cases hb : w.heap[b]? with
    | none => simp
    | some o =>
      cases o <;> simp [objCell]
      by_cases hij : i = j
      · subst hij; simp [Array.getElem?_setIfInBounds]
        split <;> simp_all
      · simp [hij]
  · rw [if_neg h, if_neg h]

theorem wext_some {w d : World} {p : Addr} {v : Value} (h : w.cell? p = some v) : (wext w d).cell? p = some v := (wext_ext w d).someCell h

/-- A callee's contract, met in one of these worlds. -/
theorem calls_wext {P : Program} {f : FuncId} {args : Array Value} {w d : World} {v : Value}
    (h : Calls P f args (wext w d) fun e w' => e = .returned v ∧ Ext (wext w d) w') : Calls P f args (wext w d) fun e w'' => e = .returned v ∧ ∃ m, w'' = wext w m :=
  h.mono fun _ _ ⟨he, hm⟩ => ⟨he, wext_trans hm⟩

section
variable {P : Program} {ops : Array Oper} {md : Region.Mode} {C : World → Prop}

/-- The head's operations in whatever order, the tail reached at their end. -/
def anyHead (P : Program) (md : Region.Mode) (ops : Array Oper) (C : World → Prop) (n : Nat) (L : Array Bool → Act → Prop) : Nat → Array Bool → Act → Prop
  | 0, seen, a => L seen a
  | f + 1, seen, a => Region.ready md ops seen ≠ [] ∧ ∀ i ∈ Region.ready md ops seen, i < n ∧ qOp P ops C i (anyHead P md ops C n L f (seen.setIfInBounds i true)) a

theorem any_of_head {n g : Nat} {L : Array Bool → Act → Prop} {Q : Exit → Act → World → Prop} (hL : ∀ seen a w, C w → L seen a → wpAny P md ops Q g seen a w) :
    ∀ (f : Nat) (seen : Array Bool) (a : Act) (w : World), C w → anyHead P md ops C n L f seen a → wpAny P md ops Q (f + g) seen a w := by
  intro f
  induction f with
  | zero => intro seen a w hw h; rw [Nat.zero_add]; exact hL _ _ _ hw h
  | succ f ih =>
    intro seen a w hw h
    rw [show f + 1 + g = (f + g) + 1 by omega]
    exact ⟨fun h0 => absurd h0 h.1, fun i hi => wpOp_of_qOp hw (fun a' w' hw' h' => ih _ a' w' hw' h') (h.2 i hi).2⟩

theorem head_first {n i : Nat} {oi : Oper} {v : Value} {L : Array Bool → Act → Prop} (hi : ops[i]? = some oi) (hsel : ∀ (j : Nat) (o : Oper) cs b, ops[j]? = some o → o.op ≠ .select cs b)
    (hs : Region.sinkB md ops n = true) (hc : Region.chainB md ops n = true) (hn : n < ops.size) (hin : i < n)
    (hdone : ∀ seen a, L seen a → ∀ j ∈ Region.ready md ops seen, n ≤ j) :
    ∀ (f : Nat) (seen : Array Bool) (a : Act), HeadInv md ops n seen →
      (∀ j oj, ops[j]? = some oj → j ≠ i → seen.getD j true = false → (∀ e ∈ oj.after, Region.binds md e = true → e.on ≠ i) → oi.apart ops oj = true) →
      i ∈ Region.ready md ops seen → YieldsIn P ops C oi v a →
      anyHead P md ops C n L f (seen.setIfInBounds i true) (a.put oi.dst v) → anyHead P md ops C n L (f + 1) seen a := by
  intro f
  induction f with
  | zero =>
    intro seen a inv _ hr hy H
    have hun := (mem_ready.1 hr).1
    refine ⟨fun h => (by rw [h] at hr; cases hr), fun j hj => ?_⟩
    have hjn : j < n := by
      rcases Nat.lt_or_ge j n with h | h
      · exact h
      · exact absurd hj (tail_waits hs hc hn inv _ i rfl hin hun j h)
    refine ⟨hjn, ?_⟩
    by_cases hji : j = i
    · subst hji; exact hy.qOp hi H
    · have := hdone _ _ H j (ready_mono hj hji)
      omega
  | succ f ih =>
    intro seen a inv hfree hr hy H
    have hun := (mem_ready.1 hr).1
    refine ⟨fun h => (by rw [h] at hr; cases hr), fun j hj => ?_⟩
    have hjn : j < n := by
      rcases Nat.lt_or_ge j n with h | h
      · exact h
      · exact absurd hj (tail_waits hs hc hn inv _ i rfl hin hun j h)
    refine ⟨hjn, ?_⟩
    by_cases hji : j = i
    · subst hji; exact hy.qOp hi H
    · have h1 := (H.2 j (ready_mono hj hji)).2
      obtain ⟨hjun, oj, hoj, hall⟩ := mem_ready.1 hj
      have hnot : ∀ e ∈ oj.after, Region.binds md e = true → e.on ≠ i := fun e he hb heq => by
        have h1 := hall e he hb
        rw [heq, getD_both hun] at h1
        cases h1
      have h2 := qOp_put hoj (hfree j oj hoj hji hjun hnot) (fun cs b => hsel i oi cs b hi) (fun cs b => hsel j oj cs b hoj) hy h1
      have hfree' : ∀ k ok, ops[k]? = some ok → k ≠ i → (seen.setIfInBounds j true).getD k true = false →
          (∀ e ∈ ok.after, Region.binds md e = true → e.on ≠ i) → oi.apart ops ok = true := fun k ok hk hki hun hno => by
        refine hfree k ok hk hki ?_ hno
        by_cases hjk : j = k
        · subst hjk; exact hjun
        · rw [getD_set_ne true hjk] at hun; exact hun
      refine qOp_mono (fun a' h3 => ih (seen.setIfInBounds j true) a' (inv.set hj hjn) hfree' (ready_mono hr (Ne.symm hji)) h3.1 ?_) h2
      rw [Array.setIfInBounds_comm _ _ hji]
      exact h3.2

theorem head_lex {n g : Nat} {Lq : Act → Prop} (hsel : Region.noSelect ops = true) (hs : Region.sinkB md ops n = true) (hc : Region.chainB md ops n = true) (hn : n < ops.size) :
    ∀ (l : List Oper) (k : Nat) (seen : Array Bool) (a : Act), (∀ j, j < l.length → l[j]? = ops[k + j]?) → k + l.length = n → HeadInv md ops n seen →
    Region.lexHead md ops g l.length k seen = true → wpQuiet P ops C Lq l a →
    anyHead P md ops C n (fun seen' a' => Region.seqB md ops g n seen' = true ∧ Lq a') l.length seen a := by
  intro l
  induction l with
  | nil =>
    intro k seen a _ hk _ hB h
    have : k = n := by simpa using hk
    subst this
    exact ⟨by simpa [Region.lexHead] using hB, h⟩
  | cons o l ih =>
    intro k seen a hl hk inv hB h
    have h0 : ops[k]? = some o := by simpa using (hl 0 (by simp)).symm
    simp only [List.length_cons, Region.lexHead, Bool.and_eq_true] at hB
    obtain ⟨⟨hr, hf⟩, hB'⟩ := hB
    have hkn : k < n := by simp only [List.length_cons] at hk; omega
    have hr' : k ∈ Region.ready md ops seen := by simpa using hr
    have hst : qOp P ops C k (wpQuiet P ops C Lq l) a := by unfold qOp; simp only [h0]; exact h
    obtain ⟨v, hy, hK⟩ := yieldsIn_of_qOp h0 hst
    exact head_first h0 (Region.noSelect_spec hsel) hs hc hn hkn (fun seen' a' hL => seqB_ready hL.1) l.length seen a inv (Region.free_spec h0 hf) hr' hy
      (ih (k + 1) _ _ (fun j hj => by have := hl (j + 1) (by simp; omega); simpa [Nat.add_assoc, Nat.add_comm 1 j] using this) (by simp only [List.length_cons] at hk; omega) (inv.set hr' hkn) hB' hK)

/-! ### A region with one loud operation: what stands before it, and what hangs on it, yields the same in every world of a class -/

/-- Behind n each operation waits for one from n on. -/
def chainP (md : Region.Mode) (ops : Array Oper) (n : Nat) : Bool :=
  (List.range ops.size).all fun t => decide (t ≤ n) || (List.range t).any fun k => decide (n ≤ k) && Region.waitsFor md ops t k

theorem none_behind {n : Nat} {seen : Array Bool} (hs : Region.sinkB md ops n = true) (hc : chainP md ops n = true) (hn : n < ops.size) (inv : HeadInv md ops n seen) :
    ∀ (d i : Nat), n - i = d → i < n → seen.getD i true = false → ∀ t, n ≤ t → t ∉ Region.ready md ops seen := by
  intro d
  induction d using Nat.strongRecOn with
  | _ d ih =>
    intro i hd hi hun t ht hr
    obtain ⟨_, ot, hot, hall⟩ := mem_ready.1 hr
    have htlt : t < ops.size := (Array.getElem?_eq_some_iff.1 hot).1
    by_cases htn : t = n
    · subst htn
      obtain ⟨j, hj, hj2⟩ := List.any_eq_true.1 (List.all_eq_true.1 hs i (List.mem_range.2 hi))
      simp only [Bool.and_eq_true, decide_eq_true_eq] at hj2
      obtain ⟨oj, hoj, e, he, hb, hon⟩ := Region.waitsFor_spec hj2.2
      have hjle : j ≤ t := by have := List.mem_range.1 hj; omega
      by_cases hjt : j = t
      · subst hjt
        obtain rfl : oj = ot := Option.some.inj (hoj.symm.trans hot)
        have h2 := hall e he hb
        rw [hon, getD_both hun] at h2
        cases h2
      · cases hl : seen.getD j false with
        | true =>
          have h2 := inv.closed j oj hoj hl e he hb
          rw [hon, getD_both hun] at h2
          cases h2
        | false =>
          have hjs : j < seen.size := by rw [inv.size]; omega
          exact ih (t - j) (by omega) j rfl (by omega) (getD_in hjs hl) t (Nat.le_refl _) hr
    · have h1 := List.all_eq_true.1 hc t (List.mem_range.2 htlt)
      simp only [Bool.or_eq_true, decide_eq_true_eq] at h1
      rcases h1 with h1 | h1
      · omega
      · obtain ⟨k, hk, hk2⟩ := List.any_eq_true.1 h1
        simp only [Bool.and_eq_true, decide_eq_true_eq] at hk2
        have hkt := List.mem_range.1 hk
        obtain ⟨o', ho', e, he, hb, hon⟩ := Region.waitsFor_spec hk2.2
        obtain rfl : o' = ot := Option.some.inj (ho'.symm.trans hot)
        have h2 := hall e he hb
        rw [hon, getD_both (inv.tail k hk2.1 (by omega))] at h2
        cases h2

theorem head_first2 {n i : Nat} {oi : Oper} {v : Value} {L : Array Bool → Act → Prop} (hi : ops[i]? = some oi) (hsel : ∀ (j : Nat) (o : Oper) cs b, ops[j]? = some o → o.op ≠ .select cs b)
    (hs : Region.sinkB md ops n = true) (hc : chainP md ops n = true) (hn : n < ops.size) (hin : i < n)
    (hdone : ∀ seen a, L seen a → ∀ j ∈ Region.ready md ops seen, n ≤ j) :
    ∀ (f : Nat) (seen : Array Bool) (a : Act), HeadInv md ops n seen →
      (∀ j oj, ops[j]? = some oj → j ≠ i → seen.getD j true = false → (∀ e ∈ oj.after, Region.binds md e = true → e.on ≠ i) → oi.apart ops oj = true) →
      i ∈ Region.ready md ops seen → YieldsIn P ops C oi v a →
      anyHead P md ops C n L f (seen.setIfInBounds i true) (a.put oi.dst v) → anyHead P md ops C n L (f + 1) seen a := by
  intro f
  induction f with
  | zero =>
    intro seen a inv _ hr hy H
    have hun := (mem_ready.1 hr).1
    refine ⟨fun h => (by rw [h] at hr; cases hr), fun j hj => ?_⟩
    have hjn : j < n := by
      rcases Nat.lt_or_ge j n with h | h
      · exact h
      · exact absurd hj (none_behind hs hc hn inv _ i rfl hin hun j h)
    refine ⟨hjn, ?_⟩
    by_cases hji : j = i
    · subst hji; exact hy.qOp hi H
    · have := hdone _ _ H j (ready_mono hj hji)
      omega
  | succ f ih =>
    intro seen a inv hfree hr hy H
    have hun := (mem_ready.1 hr).1
    refine ⟨fun h => (by rw [h] at hr; cases hr), fun j hj => ?_⟩
    have hjn : j < n := by
      rcases Nat.lt_or_ge j n with h | h
      · exact h
      · exact absurd hj (none_behind hs hc hn inv _ i rfl hin hun j h)
    refine ⟨hjn, ?_⟩
    by_cases hji : j = i
    · subst hji; exact hy.qOp hi H
    · have h1 := (H.2 j (ready_mono hj hji)).2
      obtain ⟨hjun, oj, hoj, hall⟩ := mem_ready.1 hj
      have hnot : ∀ e ∈ oj.after, Region.binds md e = true → e.on ≠ i := fun e he hb heq => by
        have h1 := hall e he hb
        rw [heq, getD_both hun] at h1
        cases h1
      have h2 := qOp_put hoj (hfree j oj hoj hji hjun hnot) (fun cs b => hsel i oi cs b hi) (fun cs b => hsel j oj cs b hoj) hy h1
      have hfree' : ∀ k ok, ops[k]? = some ok → k ≠ i → (seen.setIfInBounds j true).getD k true = false →
          (∀ e ∈ ok.after, Region.binds md e = true → e.on ≠ i) → oi.apart ops ok = true := fun k ok hk hki hun hno => by
        refine hfree k ok hk hki ?_ hno
        by_cases hjk : j = k
        · subst hjk; exact hjun
        · rw [getD_set_ne true hjk] at hun; exact hun
      refine qOp_mono (fun a' h3 => ih (seen.setIfInBounds j true) a' (inv.set hj hjn) hfree' (ready_mono hr (Ne.symm hji)) h3.1 ?_) h2
      rw [Array.setIfInBounds_comm _ _ hji]
      exact h3.2

/-- The head in index order; then just n is ready; then the rest in index order. -/
def lexP (md : Region.Mode) (ops : Array Oper) (n : Nat) : Nat → Nat → Array Bool → Bool
  | 0, _, seen => decide (Region.ready md ops seen = [n]) && Region.lexFrom md ops (ops.size - (n + 1)) (n + 1) (seen.setIfInBounds n true)
  | f + 1, k, seen => (Region.ready md ops seen).contains k && Region.free md ops seen k && lexP md ops n f (k + 1) (seen.setIfInBounds k true)

theorem head_lex2 {n : Nat} {Lq : Act → Prop} (hsel : Region.noSelect ops = true) (hs : Region.sinkB md ops n = true) (hc : chainP md ops n = true) (hn : n < ops.size) :
    ∀ (l : List Oper) (k : Nat) (seen : Array Bool) (a : Act), (∀ j, j < l.length → l[j]? = ops[k + j]?) → k + l.length = n → HeadInv md ops n seen →
    lexP md ops n l.length k seen = true → wpQuiet P ops C Lq l a →
    anyHead P md ops C n (fun seen' a' => (Region.ready md ops seen' = [n] ∧ Region.lexFrom md ops (ops.size - (n + 1)) (n + 1) (seen'.setIfInBounds n true) = true) ∧ Lq a') l.length seen a := by
  intro l
  induction l with
  | nil =>
    intro k seen a _ hk _ hB h
    simp only [List.length_nil, lexP, Bool.and_eq_true, decide_eq_true_eq] at hB
    exact ⟨hB, h⟩
  | cons o l ih =>
    intro k seen a hl hk inv hB h
    have h0 : ops[k]? = some o := by simpa using (hl 0 (by simp)).symm
    simp only [List.length_cons, lexP, Bool.and_eq_true] at hB
    obtain ⟨⟨hr, hf⟩, hB'⟩ := hB
    have hkn : k < n := by simp only [List.length_cons] at hk; omega
    have hr' : k ∈ Region.ready md ops seen := by simpa using hr
    have hst : qOp P ops C k (wpQuiet P ops C Lq l) a := by unfold qOp; simp only [h0]; exact h
    obtain ⟨v, hy, hK⟩ := yieldsIn_of_qOp h0 hst
    exact head_first2 h0 (Region.noSelect_spec hsel) hs hc hn hkn (fun seen' a' hL j hj => by rw [hL.1.1] at hj; simp at hj; omega) l.length seen a inv (Region.free_spec h0 hf) hr' hy
      (ih (k + 1) _ _ (fun j hj => by have := hl (j + 1) (by simp; omega); simpa [Nat.add_assoc, Nat.add_comm 1 j] using this) (by simp only [List.length_cons] at hk; omega) (inv.set hr' hkn) hB' hK)

/-- The Bool of such a region. -/
def pivotB (md : Region.Mode) (ops : Array Oper) (n : Nat) : Bool :=
  Region.noSelect ops && decide (n < ops.size) && Region.sinkB md ops n && chainP md ops n && lexP md ops n n 0 (Array.replicate ops.size false)

/-- What is asked behind the loud operation. -/
def behindP (P : Program) (ops : Array Oper) (Q : Exit → Act → World → Prop) (l : List Oper) : Exit → Act → World → Prop :=
  Exit.then (fun a w => wpQuiet P ops (fun w' => ∃ d, w' = wext w d) (fun a3 => ∀ w3, Ext w w3 → Q .normal a3 w3) l a) Q

theorem region_pivot {id : Nat} {Q : Exit → Act → World → Prop} {a : Act} {w : World} {l : List Oper} (n : Nat) (hm : P.follows .mixedOrders = true) (hB : pivotB .any l.toArray n = true)
    (h : wpQuiet P l.toArray (fun w' => ∃ d, w' = wext w d) (fun a' => ∀ w1, Ext w w1 → wpList P l.toArray (behindP P l.toArray Q (l.drop (n + 1))) ((l.drop n).take 1) a' w1) (l.take n) a) : (Code.region id l.toArray true).wp P Q a w := by
  simp only [pivotB, Bool.and_eq_true, decide_eq_true_eq] at hB
  obtain ⟨⟨⟨⟨hsel, hn⟩, hs⟩, hc⟩, hlex⟩ := hB
  have hn' : n < l.length := by simpa using hn
  have htl : (l.take n).length = n := by simp; omega
  have inv0 : HeadInv .any l.toArray n (Array.replicate l.toArray.size false) :=
    ⟨by simp, fun j oj _ hl => (by rw [getD_replicate_false] at hl; cases hl), fun t _ ht => getD_in (by simpa using ht) (getD_replicate_false _ _)⟩
  have H := head_lex2 (md := .any) (C := fun w' => ∃ d, w' = wext w d) hsel hs hc hn (l.take n) 0 _ a (fun j hj => by
    have hj' : j < n := by rw [htl] at hj; exact hj
    simp [hj']) (by simpa using htl) inv0 (by rw [htl]; exact hlex) h
  refine wp_region_any hm ?_
  have := any_of_head (Q := Q) (g := l.toArray.size - n) (fun seen a' w' hw' hL => by
    obtain ⟨d, rfl⟩ := hw'
    obtain ⟨⟨hrd, hlf⟩, hpiv⟩ := hL
    have hp := hpiv _ (wext_ext w d)
    obtain ⟨o, ho⟩ : ∃ o, l[n]? = some o := ⟨l[n], by simp⟩
    have ho' : l.toArray[n]? = some o := by simpa using ho
    have ed : (l.drop n).take 1 = [o] := by
      have e0 : l[n]? = some l[n] := by simp
      rw [e0] at ho
      rw [List.drop_eq_getElem_cons hn', Option.some.inj ho]; rfl
    rw [ed] at hp
    rw [show l.toArray.size - n = (l.toArray.size - (n + 1)) + 1 by omega]
    refine ⟨fun h0 => (by rw [hrd] at h0; cases h0), fun i hi => ?_⟩
    obtain rfl : i = n := by rw [hrd] at hi; simpa using hi
    have hcont : ∀ a2 w2, wpList P l.toArray (behindP P l.toArray Q (l.drop (i + 1))) [] a2 w2 → wpAny P .any l.toArray Q (l.toArray.size - (i + 1)) (seen.setIfInBounds i true) a2 w2 := fun a2 w2 h2 => by
      have h3 : wpQuiet P l.toArray (fun w' => ∃ d, w' = wext w2 d) (fun a3 => ∀ w3, Ext w2 w3 → Q .normal a3 w3) (l.drop (i + 1)) a2 := h2
      have hlen : (l.drop (i + 1)).length = l.toArray.size - (i + 1) := by simp
      have h4 := wpAnyQ_lex (md := .any) hsel (l.drop (i + 1)) (i + 1) (seen.setIfInBounds i true) a2 (fun j => by simp [List.getElem?_drop]) (by rw [hlen]; exact hlf) h3
      rw [hlen] at h4
      exact wpAny_of_quiet (C := fun w' => ∃ d, w' = wext w2 d) (fun a5 w5 hw5 hq => by obtain ⟨d5, rfl⟩ := hw5; exact hq _ (wext_ext w2 d5)) _ _ _ _ ⟨w2, wext_of (Ext.refl w2)⟩ h4
    unfold wpList at hp
    unfold wpOp
    simp only [ho']
    split at hp
    · rename_i hw
      rw [if_pos hw]
      rcases hp with hp | hp
      · refine .inl ?_
        have hx : ∀ e a5 w5, behindP P l.toArray Q (l.drop (i + 1)) e a5 w5 → e ≠ .normal → Q e a5 w5 := fun e a5 w5 hq he => by
          cases e <;> first | exact absurd rfl he | exact hq
        unfold Oper.wp at hp ⊢
        generalize (execOp a'.eval o).run P (wext w d) = r at hp ⊢
        cases r with
        | ok nx w6 =>
          cases nx with
          | value v => exact hcont _ _ hp
          | skip => exact hcont _ _ hp
          | defer df => exact hcont _ _ hp
          | enter f args =>
            exact hp.mono fun e w7 h7 => by
              cases e with
              | returned v => exact hcont _ _ h7
              | panicked ch => exact h7
              | outgrown => exact h7
          | row rw args => exact hp.mono fun v w7 h7 => hcont _ _ h7
          | _ => exact hp
        | halt hh w6 =>
          cases hh with
          | panic v => exact hp
          | _ => exact hp
      · exact .inr hp
    · rename_i hw
      rw [if_neg hw]
      exact hcont _ _ hp) _ _ _ _ ⟨_, wext_of (Ext.drew (Ext.refl w))⟩ H
  rw [htl, show n + (l.toArray.size - n) = l.toArray.size by omega] at this
  exact this

theorem region_loud {id : Nat} {Q : Exit → Act → World → Prop} {a : Act} {w : World} {l : List Oper} (n : Nat) (hm : P.follows .mixedOrders = true) (hB : pivotB .any l.toArray n = true)
    (h : wpQuiet P l.toArray (fun w' => ∃ d, w' = wext w d) (fun a' => ∀ w1, Ext w w1 → wpList P l.toArray (Exit.then (fun a w => wpQuiet P l.toArray (fun w' => ∃ d, w' = wext w d) (fun a3 => ∀ w3, Ext w w3 → Q .normal a3 w3) (l.drop (n + 1)) a) Q) ((l.drop n).take 1) a' w1) (l.take n) a) : (Code.region id l.toArray true).wp P Q a w :=
  region_pivot n hm hB h

/-- A region that draws its order: n operations that yield the same in every world of a class, then a tail in a row. -/
theorem region_tail {id : Nat} {Q : Exit → Act → World → Prop} {a : Act} {w : World} {l : List Oper} (n : Nat) (hm : P.follows .mixedOrders = true) (hB : Region.lexTailB .any l.toArray n = true) (hC : C { w with drawn := w.drawn + 1 })
    (h : wpQuiet P l.toArray C (fun a' => ∀ w', C w' → wpList P l.toArray Q (l.drop n) a' w') (l.take n) a) : (Code.region id l.toArray true).wp P Q a w := by
  simp only [Region.lexTailB, Bool.and_eq_true, decide_eq_true_eq] at hB
  obtain ⟨⟨⟨⟨hsel, hn⟩, hs⟩, hc⟩, hlex⟩ := hB
  have hn' : n < l.length := by simpa using hn
  have htl : (l.take n).length = n := by simp; omega
  have hdl : (l.drop n).length = l.toArray.size - n := by simp
  have inv0 : HeadInv .any l.toArray n (Array.replicate l.toArray.size false) :=
    ⟨by simp, fun j oj _ hl => (by rw [getD_replicate_false] at hl; cases hl), fun t _ ht => getD_in (by simpa using ht) (getD_replicate_false _ _)⟩
  have H := head_lex (md := .any) (g := l.toArray.size - n) hsel hs hc hn (l.take n) 0 _ a (fun j hj => by
    have hj' : j < n := by rw [htl] at hj; exact hj
    simp [hj']) (by simpa using htl) inv0 (by rw [htl]; exact hlex) h
  refine wp_region_any hm ?_
  have := any_of_head (Q := Q) (g := l.toArray.size - n) (fun seen a' w' hw' hL => by
    have := wpAny_of_seq (md := .any) (Q' := Q) (l.drop n) n seen a' w' (fun j => by simp [List.getElem?_drop]) (by rw [hdl]; exact hL.1) (hL.2 w' hw')
    rwa [hdl] at this) _ _ _ _ hC H
  rw [htl, show n + (l.toArray.size - n) = l.toArray.size by omega] at this
  exact this

theorem wpQuiet_post {Q Q' : Act → Prop} (hq : ∀ a, Q a → Q' a) : ∀ (l : List Oper) (a : Act), wpQuiet P ops C Q l a → wpQuiet P ops C Q' l a
  | [], a, h => hq a h
  | o :: l, a, h => by
    unfold wpQuiet at h ⊢
    split
    · rename_i hw; rw [if_pos hw] at h; exact Oper.quiet_mono (fun a' => wpQuiet_post hq l a') h
    · rename_i hw; rw [if_neg hw] at h; exact wpQuiet_post hq l _ h

/-- .. at the class 'w, grown'. -/
theorem region_ext_tail {id : Nat} {Q : Exit → Act → World → Prop} {a : Act} {w : World} {l : List Oper} (n : Nat) (hm : P.follows .mixedOrders = true) (hB : Region.lexTailB .any l.toArray n = true)
    (h : wpQuiet P l.toArray (fun w' => ∃ d, w' = wext w d) (fun a' => ∀ w1, Ext w w1 → wpList P l.toArray Q (l.drop n) a' w1) (l.take n) a) : (Code.region id l.toArray true).wp P Q a w :=
  region_tail (C := fun w' => ∃ d, w' = wext w d) n hm hB ⟨_, wext_of (Ext.drew (Ext.refl w))⟩ (wpQuiet_post (fun _ h w' ⟨d, hd⟩ => h w' (hd ▸ wext_ext w d)) _ _ h)

theorem region_ext {id : Nat} {Q : Exit → Act → World → Prop} {a : Act} {w : World} {l : List Oper} (hm : P.follows .mixedOrders = true) (hB : Region.lexB .any l.toArray = true)
    (h : wpQuiet P l.toArray (fun w' => ∃ d, w' = wext w d) (fun a' => ∀ w1, Ext w w1 → Q .normal a' w1) l a) : (Code.region id l.toArray true).wp P Q a w :=
  wp_region_quiet (C := fun w' => ∃ d, w' = wext w d) hm hB ⟨_, wext_of (Ext.drew (Ext.refl w))⟩ (wpQuiet_post (Q' := fun a' => ∀ w', (∃ d, w' = wext w d) → Q .normal a' w') (fun _ h w' ⟨d, hd⟩ => h w' (hd ▸ wext_ext w d)) _ _ h)
end

end Go.Proofs.YtaobmiphnpkoiaaDoor
