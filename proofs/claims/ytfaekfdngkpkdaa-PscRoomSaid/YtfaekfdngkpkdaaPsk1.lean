/- Joined texts, part 1 of what the law stands on: each as its own head says. -/
import Derived.Test.YtfaekfdngkpkdaaProg
import Derived.WalkKit
import Derived.WalkSpells
import Derived.WalkLawsBesides
import Derived.KernelRfl
import Derived.Deep.QuietTactic
import Derived.BigQuiet
import Derived.StillTail
import Derived.Deep.LoopGhost
import Derived.Deep.DeepCutAuto
import Derived.Deep.CutBlock
import Derived.Lib.Hide
import Derived.Laws.AppendOwn
import Derived.Deep.Upon
import Derived.OwnWalk
import Derived.DeepKeys3
import Derived.ChangeMaps5
/- Words that all walks of this family share: a world that has grown (Ext), a region whose operations read or lay new memory, walked once, with a tail that writes. Own text. -/
namespace Go.Proofs.Ytfaekfdngkpkdaa
open Go.RowKit

/-- w' is w with new blocks. -/
def Ext (w w' : World) : Prop := Below w.heap.size w w'

theorem Ext.refl (w : World) : Ext w w := Below.refl _ _
theorem Ext.size {w w' : World} (h : Ext w w') : w.heap.size ≤ w'.heap.size := Below.size h
theorem Ext.trans {a b c : World} (h : Ext a b) (k : Ext b c) : Ext a c := Below.trans h (Below.mono k h.size)
theorem Ext.alloc {a w : World} (h : Ext a w) (o : Obj) : Ext a (w.alloc o) := Below.alloc h h.size o
theorem Ext.drew {a w : World} (h : Ext a w) : Ext a w.drew := Below.drew h
theorem Ext.drewN {a w : World} (h : Ext a w) (n : Nat) : Ext a (w.drewN n) := ⟨h.os, h.tape, h.output, h.size, h.block⟩
theorem Ext.setCell {a w : World} (h : Ext a w) {p : Addr} (hp : a.heap.size ≤ p.block) (u : Value) : Ext a (w.setCell p u) := Below.setCell h hp u
theorem Ext.cell {w w' : World} (h : Ext w w') (b o : Nat) (hb : b < w.heap.size) : w'.cell? ⟨b, o, none⟩ = w.cell? ⟨b, o, none⟩ := Below.cell (p := ⟨b, o, none⟩) h hb
theorem Ext.frozen {w w' : World} (h : Ext w w') (b o : Nat) (hb : b < w.heap.size) : w'.frozen? ⟨b, o, none⟩ = w.frozen? ⟨b, o, none⟩ := Below.frozen (p := ⟨b, o, none⟩) h hb
theorem Ext.block {w w' : World} (h : Ext w w') (b : Nat) (hb : b < w.heap.size) : w'.heap[b]? = w.heap[b]? := Below.block h b hb
theorem Ext.someCell {w w' : World} (h : Ext w w') {p : Addr} {v : Value} (hv : w.cell? p = some v) : w'.cell? p = some v := by
  rw [Below.cell h (World.block_lt_of_cell? _ _ hv)]; exact hv

/-- A fact that the walk does not look into. -/
structure Aside (p : Prop) : Prop where
  mk ::
  out : p

/-- The world under a name of its own. -/
theorem wp_gen {P : Program} {c : Code} {Q : Exit → Act → World → Prop} {a : Act} {w : World} (h : ∀ W, W = w → Code.wp P c Q a W) : Code.wp P c Q a w := h w rfl

/-- Cells, marks and blocks under a second name: no rule speaks of them. -/
def cell2 (w : World) (b o : Nat) : Option Value := w.cell? ⟨b, o, none⟩
def frozen2 (w : World) (b o : Nat) : Bool := w.frozen? ⟨b, o, none⟩
def heap2 (w : World) (b : Nat) : Option Obj := w.heap[b]?

/-- What a caller wants to know behind a call that only lays new memory. -/
theorem Ext.facts {w w' : World} (h : Ext w w') : (∀ b o, w'.cell? ⟨b, o, none⟩ = if b < w.heap.size then w.cell? ⟨b, o, none⟩ else cell2 w' b o) ∧
    (∀ b o, w'.frozen? ⟨b, o, none⟩ = if b < w.heap.size then w.frozen? ⟨b, o, none⟩ else frozen2 w' b o) ∧
    (∀ b, w'.heap[b]? = if b < w.heap.size then w.heap[b]? else heap2 w' b) ∧ w.heap.size ≤ w'.heap.size := by
  refine ⟨fun b o => ?_, fun b o => ?_, fun b => ?_, h.size⟩
  · split
    · rename_i hb; exact h.cell b o hb
    · rfl
  · split
    · rename_i hb; exact h.frozen b o hb
    · rfl
  · split
    · rename_i hb; exact h.block b hb
    · rfl

/-- d, if it is w with new blocks; else w: all worlds that have grown out of w, in one term. -/
noncomputable def wext (w d : World) : World := open Classical in if Ext w d then d else w

theorem wext_ext (w d : World) : Ext w (wext w d) := by
  unfold wext; split
  · assumption
  · exact Ext.refl w
theorem wext_of {w d : World} (h : Ext w d) : d = wext w d := by unfold wext; rw [if_pos h]
theorem wext_trans {w d e : World} (h : Ext (wext w d) e) : ∃ n, e = wext w n := ⟨e, wext_of ((wext_ext w d).trans h)⟩
theorem wext_cell {w d : World} {b o : Nat} : (wext w d).cell? ⟨b, o, none⟩ = if b < w.heap.size then w.cell? ⟨b, o, none⟩ else cell2 (wext w d) b o := (wext_ext w d).facts.1 b o
theorem wext_frozen {w d : World} {b o : Nat} : (wext w d).frozen? ⟨b, o, none⟩ = if b < w.heap.size then w.frozen? ⟨b, o, none⟩ else frozen2 (wext w d) b o := (wext_ext w d).facts.2.1 b o
theorem wext_heap {w d : World} {b : Nat} : (wext w d).heap[b]? = if b < w.heap.size then w.heap[b]? else heap2 (wext w d) b := (wext_ext w d).facts.2.2.1 b

/-- A cell of a block by itself. -/
def objCell : Obj → Nat → Option Value
  | .cells c _ _, i => c[i]?
  | _, _ => none
theorem objCell_cells (c : Array Value) (t : TypeId) (fr : Nat × Nat) (i : Nat) : objCell (.cells c t fr) i = c[i]? := rfl
def objFrozen : Obj → Nat → Bool
  | .cells _ _ (lo, hi), i => lo ≤ i && i < hi
  | _, _ => false
theorem objFrozen_cells (c : Array Value) (t : TypeId) (lo hi i : Nat) : objFrozen (.cells c t (lo, hi)) i = (decide (lo ≤ i) && decide (i < hi)) := rfl
theorem alloc_heap (w : World) (o : Obj) (b : Nat) : (w.alloc o).heap[b]? = if b < w.heap.size then w.heap[b]? else if b = w.heap.size then some o else none := by
  show (w.heap.push o)[b]? = _
  rw [Array.getElem?_push]
  by_cases h : b = w.heap.size
  · rw [if_pos h, if_neg (by omega), if_pos h]
  · rw [if_neg h]
    by_cases h2 : b < w.heap.size
    · rw [if_pos h2]
    · rw [if_neg h2, if_neg h, Array.getElem?_eq_none (by omega)]
theorem cell_heap (w : World) (b i : Nat) : w.cell? ⟨b, i, none⟩ = (w.heap[b]?).bind (objCell · i) := by
  unfold World.cell?
  cases h : w.heap[b]? with
  | none => simp
  | some o => cases o <;> simp [objCell]
theorem frozen_heap (w : World) (b i : Nat) : w.frozen? ⟨b, i, none⟩ = ((w.heap[b]?).map (objFrozen · i)).getD false := by
  unfold World.frozen?
  cases h : w.heap[b]? with
  | none => simp
  | some o => cases o <;> simp [objFrozen]
theorem alloc_cell (w : World) (o : Obj) (b i : Nat) : (w.alloc o).cell? ⟨b, i, none⟩ = if b < w.heap.size then w.cell? ⟨b, i, none⟩ else if b = w.heap.size then objCell o i else none := by
  rw [cell_heap, cell_heap, alloc_heap]
  split
  · rfl
  · split <;> rfl
theorem alloc_frozen (w : World) (o : Obj) (b i : Nat) : (w.alloc o).frozen? ⟨b, i, none⟩ = if b < w.heap.size then w.frozen? ⟨b, i, none⟩ else if b = w.heap.size then objFrozen o i else false := by
  rw [frozen_heap, frozen_heap, alloc_heap]
  split
  · rfl
  · split <;> rfl
theorem setCell_cell (w : World) (b i b' j : Nat) (v : Value) : (w.setCell ⟨b, i, none⟩ v).cell? ⟨b', j, none⟩ = if b = b' then (if i = j then (w.cell? ⟨b', j, none⟩).map (fun _ => v) else w.cell? ⟨b', j, none⟩) else w.cell? ⟨b', j, none⟩ := by
  rw [cell_heap, cell_heap]
  simp only [World.setCell, Array.getElem?_modify]
  by_cases h : b = b'
  · subst h
    rw [if_pos rfl, if_pos rfl]
    cases hb : w.heap[b]? with
    | none => simp
    | some o =>
      cases o <;> simp [objCell]
      by_cases hij : i = j
      · subst hij; simp [Array.getElem?_setIfInBounds]
        split <;> simp_all
      · simp [hij]
  · rw [if_neg h, if_neg h]

theorem wext_some {w d : World} {p : Addr} {v : Value} (h : w.cell? p = some v) : (wext w d).cell? p = some v := (wext_ext w d).someCell h

/-- A callee's contract, met in one of these worlds. -/
theorem calls_wext {P : Program} {f : FuncId} {args : Array Value} {w d : World} {v : Value}
    (h : Calls P f args (wext w d) fun e w' => e = .returned v ∧ Ext (wext w d) w') : Calls P f args (wext w d) fun e w'' => e = .returned v ∧ ∃ m, w'' = wext w m :=
  h.mono fun _ _ ⟨he, hm⟩ => ⟨he, wext_trans hm⟩

section
variable {P : Program} {ops : Array Oper} {md : Region.Mode} {C : World → Prop}

/-- The head's operations in whatever order, the tail reached at their end. -/
def anyHead (P : Program) (md : Region.Mode) (ops : Array Oper) (C : World → Prop) (n : Nat) (L : Array Bool → Act → Prop) : Nat → Array Bool → Act → Prop
  | 0, seen, a => L seen a
  | f + 1, seen, a => Region.ready md ops seen ≠ [] ∧ ∀ i ∈ Region.ready md ops seen, i < n ∧ qOp P ops C i (anyHead P md ops C n L f (seen.setIfInBounds i true)) a

theorem any_of_head {n g : Nat} {L : Array Bool → Act → Prop} {Q : Exit → Act → World → Prop} (hL : ∀ seen a w, C w → L seen a → wpAny P md ops Q g seen a w) :
    ∀ (f : Nat) (seen : Array Bool) (a : Act) (w : World), C w → anyHead P md ops C n L f seen a → wpAny P md ops Q (f + g) seen a w := by
  intro f
  induction f with
  | zero => intro seen a w hw h; rw [Nat.zero_add]; exact hL _ _ _ hw h
  | succ f ih =>
    intro seen a w hw h
    rw [show f + 1 + g = (f + g) + 1 by omega]
    exact ⟨fun h0 => absurd h0 h.1, fun i hi => wpOp_of_qOp hw (fun a' w' hw' h' => ih _ a' w' hw' h') (h.2 i hi).2⟩

theorem head_first {n i : Nat} {oi : Oper} {v : Value} {L : Array Bool → Act → Prop} (hi : ops[i]? = some oi) (hsel : ∀ (j : Nat) (o : Oper) cs b, ops[j]? = some o → o.op ≠ .select cs b)
    (hs : Region.sinkB md ops n = true) (hc : Region.chainB md ops n = true) (hn : n < ops.size) (hin : i < n)
    (hdone : ∀ seen a, L seen a → ∀ j ∈ Region.ready md ops seen, n ≤ j) :
    ∀ (f : Nat) (seen : Array Bool) (a : Act), HeadInv md ops n seen →
      (∀ j oj, ops[j]? = some oj → j ≠ i → seen.getD j true = false → (∀ e ∈ oj.after, Region.binds md e = true → e.on ≠ i) → oi.apart ops oj = true) →
      i ∈ Region.ready md ops seen → YieldsIn P ops C oi v a →
      anyHead P md ops C n L f (seen.setIfInBounds i true) (a.put oi.dst v) → anyHead P md ops C n L (f + 1) seen a := by
  intro f
  induction f with
  | zero =>
    intro seen a inv _ hr hy H
    have hun := (mem_ready.1 hr).1
    refine ⟨fun h => (by rw [h] at hr; cases hr), fun j hj => ?_⟩
    have hjn : j < n := by
      rcases Nat.lt_or_ge j n with h | h
      · exact h
      · exact absurd hj (tail_waits hs hc hn inv _ i rfl hin hun j h)
    refine ⟨hjn, ?_⟩
    by_cases hji : j = i
    · subst hji; exact hy.qOp hi H
    · have := hdone _ _ H j (ready_mono hj hji)
      omega
  | succ f ih =>
    intro seen a inv hfree hr hy H
    have hun := (mem_ready.1 hr).1
    refine ⟨fun h => (by rw [h] at hr; cases hr), fun j hj => ?_⟩
    have hjn : j < n := by
      rcases Nat.lt_or_ge j n with h | h
      · exact h
      · exact absurd hj (tail_waits hs hc hn inv _ i rfl hin hun j h)
    refine ⟨hjn, ?_⟩
    by_cases hji : j = i
    · subst hji; exact hy.qOp hi H
    · have h1 := (H.2 j (ready_mono hj hji)).2
      obtain ⟨hjun, oj, hoj, hall⟩ := mem_ready.1 hj
      have hnot : ∀ e ∈ oj.after, Region.binds md e = true → e.on ≠ i := fun e he hb heq => by
        have h1 := hall e he hb
        rw [heq, getD_both hun] at h1
        cases h1
      have h2 := qOp_put hoj (hfree j oj hoj hji hjun hnot) (fun cs b => hsel i oi cs b hi) (fun cs b => hsel j oj cs b hoj) hy h1
      have hfree' : ∀ k ok, ops[k]? = some ok → k ≠ i → (seen.setIfInBounds j true).getD k true = false →
          (∀ e ∈ ok.after, Region.binds md e = true → e.on ≠ i) → oi.apart ops ok = true := fun k ok hk hki hun hno => by
        refine hfree k ok hk hki ?_ hno
        by_cases hjk : j = k
        · subst hjk; exact hjun
        · rw [getD_set_ne true hjk] at hun; exact hun
      refine qOp_mono (fun a' h3 => ih (seen.setIfInBounds j true) a' (inv.set hj hjn) hfree' (ready_mono hr (Ne.symm hji)) h3.1 ?_) h2
      rw [Array.setIfInBounds_comm _ _ hji]
      exact h3.2

theorem head_lex {n g : Nat} {Lq : Act → Prop} (hsel : Region.noSelect ops = true) (hs : Region.sinkB md ops n = true) (hc : Region.chainB md ops n = true) (hn : n < ops.size) :
    ∀ (l : List Oper) (k : Nat) (seen : Array Bool) (a : Act), (∀ j, j < l.length → l[j]? = ops[k + j]?) → k + l.length = n → HeadInv md ops n seen →
    Region.lexHead md ops g l.length k seen = true → wpQuiet P ops C Lq l a →
    anyHead P md ops C n (fun seen' a' => Region.seqB md ops g n seen' = true ∧ Lq a') l.length seen a := by
  intro l
  induction l with
  | nil =>
    intro k seen a _ hk _ hB h
    have : k = n := by simpa using hk
    subst this
    exact ⟨by simpa [Region.lexHead] using hB, h⟩
  | cons o l ih =>
    intro k seen a hl hk inv hB h
    have h0 : ops[k]? = some o := by simpa using (hl 0 (by simp)).symm
    simp only [List.length_cons, Region.lexHead, Bool.and_eq_true] at hB
    obtain ⟨⟨hr, hf⟩, hB'⟩ := hB
    have hkn : k < n := by simp only [List.length_cons] at hk; omega
    have hr' : k ∈ Region.ready md ops seen := by simpa using hr
    have hst : qOp P ops C k (wpQuiet P ops C Lq l) a := by unfold qOp; simp only [h0]; exact h
    obtain ⟨v, hy, hK⟩ := yieldsIn_of_qOp h0 hst
    exact head_first h0 (Region.noSelect_spec hsel) hs hc hn hkn (fun seen' a' hL => seqB_ready hL.1) l.length seen a inv (Region.free_spec h0 hf) hr' hy
      (ih (k + 1) _ _ (fun j hj => by have := hl (j + 1) (by simp; omega); simpa [Nat.add_assoc, Nat.add_comm 1 j] using this) (by simp only [List.length_cons] at hk; omega) (inv.set hr' hkn) hB' hK)

/-! ### A region with one loud operation: what stands before it, and what hangs on it, yields the same in every world of a class -/

/-- Behind n each operation waits for one from n on. -/
def chainP (md : Region.Mode) (ops : Array Oper) (n : Nat) : Bool :=
  (List.range ops.size).all fun t => decide (t ≤ n) || (List.range t).any fun k => decide (n ≤ k) && Region.waitsFor md ops t k

theorem none_behind {n : Nat} {seen : Array Bool} (hs : Region.sinkB md ops n = true) (hc : chainP md ops n = true) (hn : n < ops.size) (inv : HeadInv md ops n seen) :
    ∀ (d i : Nat), n - i = d → i < n → seen.getD i true = false → ∀ t, n ≤ t → t ∉ Region.ready md ops seen := by
  intro d
  induction d using Nat.strongRecOn with
  | _ d ih =>
    intro i hd hi hun t ht hr
    obtain ⟨_, ot, hot, hall⟩ := mem_ready.1 hr
    have htlt : t < ops.size := (Array.getElem?_eq_some_iff.1 hot).1
    by_cases htn : t = n
    · subst htn
      obtain ⟨j, hj, hj2⟩ := List.any_eq_true.1 (List.all_eq_true.1 hs i (List.mem_range.2 hi))
      simp only [Bool.and_eq_true, decide_eq_true_eq] at hj2
      obtain ⟨oj, hoj, e, he, hb, hon⟩ := Region.waitsFor_spec hj2.2
      have hjle : j ≤ t := by have := List.mem_range.1 hj; omega
      by_cases hjt : j = t
      · subst hjt
        obtain rfl : oj = ot := Option.some.inj (hoj.symm.trans hot)
        have h2 := hall e he hb
        rw [hon, getD_both hun] at h2
        cases h2
      · cases hl : seen.getD j false with
        | true =>
          have h2 := inv.closed j oj hoj hl e he hb
          rw [hon, getD_both hun] at h2
          cases h2
        | false =>
          have hjs : j < seen.size := by rw [inv.size]; omega
          exact ih (t - j) (by omega) j rfl (by omega) (getD_in hjs hl) t (Nat.le_refl _) hr
    · have h1 := List.all_eq_true.1 hc t (List.mem_range.2 htlt)
      simp only [Bool.or_eq_true, decide_eq_true_eq] at h1
      rcases h1 with h1 | h1
      · omega
      · obtain ⟨k, hk, hk2⟩ := List.any_eq_true.1 h1
        simp only [Bool.and_eq_true, decide_eq_true_eq] at hk2
        have hkt := List.mem_range.1 hk
        obtain ⟨o', ho', e, he, hb, hon⟩ := Region.waitsFor_spec hk2.2
        obtain rfl : o' = ot := Option.some.inj (ho'.symm.trans hot)
        have h2 := hall e he hb
        rw [hon, getD_both (inv.tail k hk2.1 (by omega))] at h2
        cases h2

theorem head_first2 {n i : Nat} {oi : Oper} {v : Value} {L : Array Bool → Act → Prop} (hi : ops[i]? = some oi) (hsel : ∀ (j : Nat) (o : Oper) cs b, ops[j]? = some o → o.op ≠ .select cs b)
    (hs : Region.sinkB md ops n = true) (hc : chainP md ops n = true) (hn : n < ops.size) (hin : i < n)
    (hdone : ∀ seen a, L seen a → ∀ j ∈ Region.ready md ops seen, n ≤ j) :
    ∀ (f : Nat) (seen : Array Bool) (a : Act), HeadInv md ops n seen →
      (∀ j oj, ops[j]? = some oj → j ≠ i → seen.getD j true = false → (∀ e ∈ oj.after, Region.binds md e = true → e.on ≠ i) → oi.apart ops oj = true) →
      i ∈ Region.ready md ops seen → YieldsIn P ops C oi v a →
      anyHead P md ops C n L f (seen.setIfInBounds i true) (a.put oi.dst v) → anyHead P md ops C n L (f + 1) seen a := by
  intro f
  induction f with
  | zero =>
    intro seen a inv _ hr hy H
    have hun := (mem_ready.1 hr).1
    refine ⟨fun h => (by rw [h] at hr; cases hr), fun j hj => ?_⟩
    have hjn : j < n := by
      rcases Nat.lt_or_ge j n with h | h
      · exact h
      · exact absurd hj (none_behind hs hc hn inv _ i rfl hin hun j h)
    refine ⟨hjn, ?_⟩
    by_cases hji : j = i
    · subst hji; exact hy.qOp hi H
    · have := hdone _ _ H j (ready_mono hj hji)
      omega
  | succ f ih =>
    intro seen a inv hfree hr hy H
    have hun := (mem_ready.1 hr).1
    refine ⟨fun h => (by rw [h] at hr; cases hr), fun j hj => ?_⟩
    have hjn : j < n := by
      rcases Nat.lt_or_ge j n with h | h
      · exact h
      · exact absurd hj (none_behind hs hc hn inv _ i rfl hin hun j h)
    refine ⟨hjn, ?_⟩
    by_cases hji : j = i
    · subst hji; exact hy.qOp hi H
    · have h1 := (H.2 j (ready_mono hj hji)).2
      obtain ⟨hjun, oj, hoj, hall⟩ := mem_ready.1 hj
      have hnot : ∀ e ∈ oj.after, Region.binds md e = true → e.on ≠ i := fun e he hb heq => by
        have h1 := hall e he hb
        rw [heq, getD_both hun] at h1
        cases h1
      have h2 := qOp_put hoj (hfree j oj hoj hji hjun hnot) (fun cs b => hsel i oi cs b hi) (fun cs b => hsel j oj cs b hoj) hy h1
      have hfree' : ∀ k ok, ops[k]? = some ok → k ≠ i → (seen.setIfInBounds j true).getD k true = false →
          (∀ e ∈ ok.after, Region.binds md e = true → e.on ≠ i) → oi.apart ops ok = true := fun k ok hk hki hun hno => by
        refine hfree k ok hk hki ?_ hno
        by_cases hjk : j = k
        · subst hjk; exact hjun
        · rw [getD_set_ne true hjk] at hun; exact hun
      refine qOp_mono (fun a' h3 => ih (seen.setIfInBounds j true) a' (inv.set hj hjn) hfree' (ready_mono hr (Ne.symm hji)) h3.1 ?_) h2
      rw [Array.setIfInBounds_comm _ _ hji]
      exact h3.2

/-- The head in index order; then just n is ready; then the rest in index order. -/
def lexP (md : Region.Mode) (ops : Array Oper) (n : Nat) : Nat → Nat → Array Bool → Bool
  | 0, _, seen => decide (Region.ready md ops seen = [n]) && Region.lexFrom md ops (ops.size - (n + 1)) (n + 1) (seen.setIfInBounds n true)
  | f + 1, k, seen => (Region.ready md ops seen).contains k && Region.free md ops seen k && lexP md ops n f (k + 1) (seen.setIfInBounds k true)

theorem head_lex2 {n : Nat} {Lq : Act → Prop} (hsel : Region.noSelect ops = true) (hs : Region.sinkB md ops n = true) (hc : chainP md ops n = true) (hn : n < ops.size) :
    ∀ (l : List Oper) (k : Nat) (seen : Array Bool) (a : Act), (∀ j, j < l.length → l[j]? = ops[k + j]?) → k + l.length = n → HeadInv md ops n seen →
    lexP md ops n l.length k seen = true → wpQuiet P ops C Lq l a →
    anyHead P md ops C n (fun seen' a' => (Region.ready md ops seen' = [n] ∧ Region.lexFrom md ops (ops.size - (n + 1)) (n + 1) (seen'.setIfInBounds n true) = true) ∧ Lq a') l.length seen a := by
  intro l
  induction l with
  | nil =>
    intro k seen a _ hk _ hB h
    simp only [List.length_nil, lexP, Bool.and_eq_true, decide_eq_true_eq] at hB
    exact ⟨hB, h⟩
  | cons o l ih =>
    intro k seen a hl hk inv hB h
    have h0 : ops[k]? = some o := by simpa using (hl 0 (by simp)).symm
    simp only [List.length_cons, lexP, Bool.and_eq_true] at hB
    obtain ⟨⟨hr, hf⟩, hB'⟩ := hB
    have hkn : k < n := by simp only [List.length_cons] at hk; omega
    have hr' : k ∈ Region.ready md ops seen := by simpa using hr
    have hst : qOp P ops C k (wpQuiet P ops C Lq l) a := by unfold qOp; simp only [h0]; exact h
    obtain ⟨v, hy, hK⟩ := yieldsIn_of_qOp h0 hst
    exact head_first2 h0 (Region.noSelect_spec hsel) hs hc hn hkn (fun seen' a' hL j hj => by rw [hL.1.1] at hj; simp at hj; omega) l.length seen a inv (Region.free_spec h0 hf) hr' hy
      (ih (k + 1) _ _ (fun j hj => by have := hl (j + 1) (by simp; omega); simpa [Nat.add_assoc, Nat.add_comm 1 j] using this) (by simp only [List.length_cons] at hk; omega) (inv.set hr' hkn) hB' hK)

/-- The Bool of such a region. -/
def pivotB (md : Region.Mode) (ops : Array Oper) (n : Nat) : Bool :=
  Region.noSelect ops && decide (n < ops.size) && Region.sinkB md ops n && chainP md ops n && lexP md ops n n 0 (Array.replicate ops.size false)

/-- What is asked behind the loud operation. -/
def behindP (P : Program) (ops : Array Oper) (Q : Exit → Act → World → Prop) (l : List Oper) : Exit → Act → World → Prop :=
  Exit.then (fun a w => wpQuiet P ops (fun w' => ∃ d, w' = wext w d) (fun a3 => ∀ w3, Ext w w3 → Q .normal a3 w3) l a) Q

theorem region_pivot {id : Nat} {Q : Exit → Act → World → Prop} {a : Act} {w : World} {l : List Oper} (n : Nat) (hm : P.follows .mixedOrders = true) (hB : pivotB .any l.toArray n = true)
    (h : wpQuiet P l.toArray (fun w' => ∃ d, w' = wext w d) (fun a' => ∀ w1, Ext w w1 → wpList P l.toArray (behindP P l.toArray Q (l.drop (n + 1))) ((l.drop n).take 1) a' w1) (l.take n) a) : (Code.region id l.toArray true).wp P Q a w := by
  simp only [pivotB, Bool.and_eq_true, decide_eq_true_eq] at hB
  obtain ⟨⟨⟨⟨hsel, hn⟩, hs⟩, hc⟩, hlex⟩ := hB
  have hn' : n < l.length := by simpa using hn
  have htl : (l.take n).length = n := by simp; omega
  have inv0 : HeadInv .any l.toArray n (Array.replicate l.toArray.size false) :=
    ⟨by simp, fun j oj _ hl => (by rw [getD_replicate_false] at hl; cases hl), fun t _ ht => getD_in (by simpa using ht) (getD_replicate_false _ _)⟩
  have H := head_lex2 (md := .any) (C := fun w' => ∃ d, w' = wext w d) hsel hs hc hn (l.take n) 0 _ a (fun j hj => by
    have hj' : j < n := by rw [htl] at hj; exact hj
    simp [hj']) (by simpa using htl) inv0 (by rw [htl]; exact hlex) h
  refine wp_region_any hm ?_
  have := any_of_head (Q := Q) (g := l.toArray.size - n) (fun seen a' w' hw' hL => by
    obtain ⟨d, rfl⟩ := hw'
    obtain ⟨⟨hrd, hlf⟩, hpiv⟩ := hL
    have hp := hpiv _ (wext_ext w d)
    obtain ⟨o, ho⟩ : ∃ o, l[n]? = some o := ⟨l[n], by simp⟩
    have ho' : l.toArray[n]? = some o := by simpa using ho
    have ed : (l.drop n).take 1 = [o] := by
      have e0 : l[n]? = some l[n] := by simp
      rw [e0] at ho
      rw [List.drop_eq_getElem_cons hn', Option.some.inj ho]; rfl
    rw [ed] at hp
    rw [show l.toArray.size - n = (l.toArray.size - (n + 1)) + 1 by omega]
    refine ⟨fun h0 => (by rw [hrd] at h0; cases h0), fun i hi => ?_⟩
    obtain rfl : i = n := by rw [hrd] at hi; simpa using hi
    have hcont : ∀ a2 w2, wpList P l.toArray (behindP P l.toArray Q (l.drop (i + 1))) [] a2 w2 → wpAny P .any l.toArray Q (l.toArray.size - (i + 1)) (seen.setIfInBounds i true) a2 w2 := fun a2 w2 h2 => by
      have h3 : wpQuiet P l.toArray (fun w' => ∃ d, w' = wext w2 d) (fun a3 => ∀ w3, Ext w2 w3 → Q .normal a3 w3) (l.drop (i + 1)) a2 := h2
      have hlen : (l.drop (i + 1)).length = l.toArray.size - (i + 1) := by simp
      have h4 := wpAnyQ_lex (md := .any) hsel (l.drop (i + 1)) (i + 1) (seen.setIfInBounds i true) a2 (fun j => by simp [List.getElem?_drop]) (by rw [hlen]; exact hlf) h3
      rw [hlen] at h4
      exact wpAny_of_quiet (C := fun w' => ∃ d, w' = wext w2 d) (fun a5 w5 hw5 hq => by obtain ⟨d5, rfl⟩ := hw5; exact hq _ (wext_ext w2 d5)) _ _ _ _ ⟨w2, wext_of (Ext.refl w2)⟩ h4
    unfold wpList at hp
    unfold wpOp
    simp only [ho']
    split at hp
    · rename_i hw
      rw [if_pos hw]
      rcases hp with hp | hp
      · refine .inl ?_
        have hx : ∀ e a5 w5, behindP P l.toArray Q (l.drop (i + 1)) e a5 w5 → e ≠ .normal → Q e a5 w5 := fun e a5 w5 hq he => by
          cases e <;> first | exact absurd rfl he | exact hq
        unfold Oper.wp at hp ⊢
        generalize (execOp a'.eval o).run P (wext w d) = r at hp ⊢
        cases r with
        | ok nx w6 =>
          cases nx with
          | value v => exact hcont _ _ hp
          | skip => exact hcont _ _ hp
          | defer df => exact hcont _ _ hp
          | enter f args =>
            exact hp.mono fun e w7 h7 => by
              cases e with
              | returned v => exact hcont _ _ h7
              | panicked ch => exact h7
              | outgrown => exact h7
          | row rw args => exact hp.mono fun v w7 h7 => hcont _ _ h7
          | _ => exact hp
        | halt hh w6 =>
          cases hh with
          | panic v => exact hp
          | _ => exact hp
      · exact .inr hp
    · rename_i hw
      rw [if_neg hw]
      exact hcont _ _ hp) _ _ _ _ ⟨_, wext_of (Ext.drew (Ext.refl w))⟩ H
  rw [htl, show n + (l.toArray.size - n) = l.toArray.size by omega] at this
  exact this

theorem region_loud {id : Nat} {Q : Exit → Act → World → Prop} {a : Act} {w : World} {l : List Oper} (n : Nat) (hm : P.follows .mixedOrders = true) (hB : pivotB .any l.toArray n = true)
    (h : wpQuiet P l.toArray (fun w' => ∃ d, w' = wext w d) (fun a' => ∀ w1, Ext w w1 → wpList P l.toArray (Exit.then (fun a w => wpQuiet P l.toArray (fun w' => ∃ d, w' = wext w d) (fun a3 => ∀ w3, Ext w w3 → Q .normal a3 w3) (l.drop (n + 1)) a) Q) ((l.drop n).take 1) a' w1) (l.take n) a) : (Code.region id l.toArray true).wp P Q a w :=
  region_pivot n hm hB h

/-- A region that draws its order: n operations that yield the same in every world of a class, then a tail in a row. -/
theorem region_tail {id : Nat} {Q : Exit → Act → World → Prop} {a : Act} {w : World} {l : List Oper} (n : Nat) (hm : P.follows .mixedOrders = true) (hB : Region.lexTailB .any l.toArray n = true) (hC : C { w with drawn := w.drawn + 1 })
    (h : wpQuiet P l.toArray C (fun a' => ∀ w', C w' → wpList P l.toArray Q (l.drop n) a' w') (l.take n) a) : (Code.region id l.toArray true).wp P Q a w := by
  simp only [Region.lexTailB, Bool.and_eq_true, decide_eq_true_eq] at hB
  obtain ⟨⟨⟨⟨hsel, hn⟩, hs⟩, hc⟩, hlex⟩ := hB
  have hn' : n < l.length := by simpa using hn
  have htl : (l.take n).length = n := by simp; omega
  have hdl : (l.drop n).length = l.toArray.size - n := by simp
  have inv0 : HeadInv .any l.toArray n (Array.replicate l.toArray.size false) :=
    ⟨by simp, fun j oj _ hl => (by rw [getD_replicate_false] at hl; cases hl), fun t _ ht => getD_in (by simpa using ht) (getD_replicate_false _ _)⟩
  have H := head_lex (md := .any) (g := l.toArray.size - n) hsel hs hc hn (l.take n) 0 _ a (fun j hj => by
    have hj' : j < n := by rw [htl] at hj; exact hj
    simp [hj']) (by simpa using htl) inv0 (by rw [htl]; exact hlex) h
  refine wp_region_any hm ?_
  have := any_of_head (Q := Q) (g := l.toArray.size - n) (fun seen a' w' hw' hL => by
    have := wpAny_of_seq (md := .any) (Q' := Q) (l.drop n) n seen a' w' (fun j => by simp [List.getElem?_drop]) (by rw [hdl]; exact hL.1) (hL.2 w' hw')
    rwa [hdl] at this) _ _ _ _ hC H
  rw [htl, show n + (l.toArray.size - n) = l.toArray.size by omega] at this
  exact this

theorem wpQuiet_post {Q Q' : Act → Prop} (hq : ∀ a, Q a → Q' a) : ∀ (l : List Oper) (a : Act), wpQuiet P ops C Q l a → wpQuiet P ops C Q' l a
  | [], a, h => hq a h
  | o :: l, a, h => by
    unfold wpQuiet at h ⊢
    split
    · rename_i hw; rw [if_pos hw] at h; exact Oper.quiet_mono (fun a' => wpQuiet_post hq l a') h
    · rename_i hw; rw [if_neg hw] at h; exact wpQuiet_post hq l _ h

/-- .. at the class 'w, grown'. -/
theorem region_ext_tail {id : Nat} {Q : Exit → Act → World → Prop} {a : Act} {w : World} {l : List Oper} (n : Nat) (hm : P.follows .mixedOrders = true) (hB : Region.lexTailB .any l.toArray n = true)
    (h : wpQuiet P l.toArray (fun w' => ∃ d, w' = wext w d) (fun a' => ∀ w1, Ext w w1 → wpList P l.toArray Q (l.drop n) a' w1) (l.take n) a) : (Code.region id l.toArray true).wp P Q a w :=
  region_tail (C := fun w' => ∃ d, w' = wext w d) n hm hB ⟨_, wext_of (Ext.drew (Ext.refl w))⟩ (wpQuiet_post (fun _ h w' ⟨d, hd⟩ => h w' (hd ▸ wext_ext w d)) _ _ h)

theorem region_ext {id : Nat} {Q : Exit → Act → World → Prop} {a : Act} {w : World} {l : List Oper} (hm : P.follows .mixedOrders = true) (hB : Region.lexB .any l.toArray = true)
    (h : wpQuiet P l.toArray (fun w' => ∃ d, w' = wext w d) (fun a' => ∀ w1, Ext w w1 → Q .normal a' w1) l a) : (Code.region id l.toArray true).wp P Q a w :=
  wp_region_quiet (C := fun w' => ∃ d, w' = wext w d) hm hB ⟨_, wext_of (Ext.drew (Ext.refl w))⟩ (wpQuiet_post (Q' := fun a' => ∀ w', (∃ d, w' = wext w d) → Q .normal a' w') (fun _ h w' ⟨d, hd⟩ => h w' (hd ▸ wext_ext w d)) _ _ h)
end

end Go.Proofs.Ytfaekfdngkpkdaa
/- Rows of cells that somebody holds: what an append leaves; worlds of which a list of blocks may have changed. Own text. -/
namespace Go.Proofs.Ytfaekfdngkpkdaa
set_option linter.unusedVariables false
set_option linter.unusedSimpArgs false
open Go.RowKit
attribute [local go_sem] wext_cell wext_frozen wext_heap alloc_cell alloc_frozen alloc_heap setCell_cell objCell_cells objFrozen_cells

/-- w' is w with new blocks; of the old ones those of F may have changed. -/
structure Keeps (F : List Nat) (w w' : World) : Prop where
  os : w'.os = w.os
  tape : w'.tape = w.tape
  output : w'.output = w.output
  size : w.heap.size ≤ w'.heap.size
  block : ∀ b, b < w.heap.size → b ∉ F → w'.heap[b]? = w.heap[b]?

theorem Keeps.refl (F : List Nat) (w : World) : Keeps F w w := ⟨rfl, rfl, rfl, Nat.le_refl _, fun _ _ _ => rfl⟩
theorem Keeps.trans {F F' : List Nat} {a b c : World} (h : Keeps F a b) (k : Keeps F' b c) (hF : ∀ x ∈ F', x ∈ F ∨ a.heap.size ≤ x) : Keeps F a c :=
  ⟨k.os.trans h.os, k.tape.trans h.tape, k.output.trans h.output, Nat.le_trans h.size k.size, fun x hx hn =>
    (k.block x (Nat.lt_of_lt_of_le hx h.size) (fun hm => (hF x hm).elim hn (fun h2 => by omega))).trans (h.block x hx hn)⟩
theorem Keeps.same {F : List Nat} {a b c : World} (h : Keeps F a b) (k : Keeps F b c) : Keeps F a c := h.trans k fun _ hx => .inl hx
theorem Keeps.mono {F F' : List Nat} {a b : World} (h : Keeps F a b) (hF : ∀ x ∈ F, x ∈ F' ∨ a.heap.size ≤ x) : Keeps F' a b :=
  ⟨h.os, h.tape, h.output, h.size, fun x hx hn => h.block x hx fun hm => (hF x hm).elim hn fun h2 => by omega⟩
theorem Keeps.ext {F : List Nat} {a b c : World} (h : Keeps F a b) (k : Ext b c) : Keeps F a c :=
  ⟨k.os.trans h.os, k.tape.trans h.tape, k.output.trans h.output, Nat.le_trans h.size k.size, fun x hx hn => (k.block x (Nat.lt_of_lt_of_le hx h.size)).trans (h.block x hx hn)⟩
theorem Keeps.of_ext {F : List Nat} {a b : World} (k : Ext a b) : Keeps F a b := (Keeps.refl F a).ext k
theorem Keeps.to_ext {F : List Nat} {W a b : World} (h : Ext W a) (k : Keeps F a b) (hF : ∀ x ∈ F, W.heap.size ≤ x) : Ext W b :=
  ⟨k.os.trans h.os, k.tape.trans h.tape, k.output.trans h.output, Nat.le_trans h.size k.size, fun x hx =>
    (k.block x (Nat.lt_of_lt_of_le hx h.size) (fun hm => by have := hF x hm; omega)).trans (h.block x hx)⟩
theorem Keeps.grown {F : List Nat} {a b c : World} {row : Option Nat} (h : Keeps F a b) (k : b.grownBy c row) (hr : ∀ x, row = some x → x ∈ F ∨ a.heap.size ≤ x) : Keeps F a c :=
  ⟨k.os.trans h.os, k.tape.trans h.tape, k.output.trans h.output, Nat.le_trans h.size k.size, fun x hx hn =>
    (k.block x (Nat.lt_of_lt_of_le hx h.size) (fun hm => (hr x hm.symm).elim hn (fun h2 => by omega))).trans (h.block x hx hn)⟩
/-- w with another object in a block. -/
def putBlk (w : World) (r : Nat) (o : Obj) : World := { w with heap := w.heap.setIfInBounds r o }
theorem putBlk_size (w : World) (r : Nat) (o : Obj) : (putBlk w r o).heap.size = w.heap.size := by simp [putBlk]
theorem putBlk_heap (w : World) (r b : Nat) (o : Obj) (hne : r ≠ b) : (putBlk w r o).heap[b]? = w.heap[b]? := by simp [putBlk, Array.getElem?_setIfInBounds, hne]
theorem putBlk_same (w : World) (r : Nat) (o : Obj) (h : r < w.heap.size) : (putBlk w r o).heap[r]? = some o := by simp [putBlk, h]
theorem Keeps.put {F : List Nat} {a b : World} (h : Keeps F a b) {r : Nat} (hr : r ∈ F ∨ a.heap.size ≤ r) (o : Obj) : Keeps F a (putBlk b r o) :=
  ⟨h.os, h.tape, h.output, by rw [putBlk_size]; exact h.size, fun x hx hn => by
    have : r ≠ x := fun e => by subst e; exact hr.elim hn (fun h2 => by omega)
    rw [← h.block x hx hn]; exact putBlk_heap _ _ _ _ this⟩
theorem setCell_heap (w : World) (b i b' : Nat) (v : Value) (hne : b ≠ b') : (w.setCell ⟨b, i, none⟩ v).heap[b']? = w.heap[b']? := by
  simp [World.setCell, Array.getElem?_modify, hne]
theorem setCell_heap_same {w : World} {b i : Nat} {v : Value} {c : Array Value} {e : TypeId} {f : Nat × Nat} (h : w.heap[b]? = some (.cells c e f)) : (w.setCell ⟨b, i, none⟩ v).heap[b]? = some (.cells (c.setIfInBounds i v) e f) := by
  simp [World.setCell, Array.getElem?_modify, h]
theorem Keeps.setCell {F : List Nat} {a b : World} (h : Keeps F a b) {r i : Nat} (hr : r ∈ F ∨ a.heap.size ≤ r) (v : Value) : Keeps F a (b.setCell ⟨r, i, none⟩ v) :=
  ⟨h.os, h.tape, h.output, by simpa using h.size, fun x hx hn => by
    have : r ≠ x := fun e => by subst e; exact hr.elim hn (fun h2 => by omega)
    rw [setCell_heap _ _ _ _ _ this, h.block x hx hn]⟩

theorem store6_heap {w : World} {b : Nat} {c0 c1 c2 c3 c4 c5 v0 v1 v2 v3 v4 v5 : Value} {e : TypeId} {f : Nat × Nat} (h : w.heap[b]? = some (.cells #[c0, c1, c2, c3, c4, c5] e f)) :
    ((((((w.setCell ⟨b, 0, none⟩ v0).setCell ⟨b, 1, none⟩ v1).setCell ⟨b, 2, none⟩ v2).setCell ⟨b, 3, none⟩ v3).setCell ⟨b, 4, none⟩ v4).setCell ⟨b, 5, none⟩ v5).heap[b]? = some (.cells #[v0, v1, v2, v3, v4, v5] e f) :=
  setCell_heap_same (setCell_heap_same (setCell_heap_same (setCell_heap_same (setCell_heap_same (setCell_heap_same h)))))
theorem store6_other {w : World} {b b' : Nat} {v0 v1 v2 v3 v4 v5 : Value} (h : b ≠ b') :
    ((((((w.setCell ⟨b, 0, none⟩ v0).setCell ⟨b, 1, none⟩ v1).setCell ⟨b, 2, none⟩ v2).setCell ⟨b, 3, none⟩ v3).setCell ⟨b, 4, none⟩ v4).setCell ⟨b, 5, none⟩ v5).heap[b']? = w.heap[b']? := by
  rw [setCell_heap _ _ _ _ _ h, setCell_heap _ _ _ _ _ h, setCell_heap _ _ _ _ _ h, setCell_heap _ _ _ _ _ h, setCell_heap _ _ _ _ _ h, setCell_heap _ _ _ _ _ h]
theorem ext6 {a w : World} {b : Nat} {v0 v1 v2 v3 v4 v5 : Value} (h : Ext a w) (hb : a.heap.size ≤ b) :
    Ext a ((((((w.setCell ⟨b, 0, none⟩ v0).setCell ⟨b, 1, none⟩ v1).setCell ⟨b, 2, none⟩ v2).setCell ⟨b, 3, none⟩ v3).setCell ⟨b, 4, none⟩ v4).setCell ⟨b, 5, none⟩ v5) :=
  Ext.setCell (Ext.setCell (Ext.setCell (Ext.setCell (Ext.setCell (Ext.setCell h hb _) hb _) hb _) hb _) hb _) hb _
theorem post_gen {P : Program} {fn : Func} {R : Ending → World → Prop} {e : Exit} {a : Act} {w : World} (C : World → Prop) (hw : C w) (h : ∀ V, C V → bodyPost P fn R e a V) : bodyPost P fn R e a w := h w hw
theorem alloc_same (w : World) (o : Obj) : (w.alloc o).heap[w.heap.size]? = some o := by rw [alloc_heap]; simp
theorem alloc_same1 (w : World) (o o1 : Obj) : ((w.alloc o1).alloc o).heap[w.heap.size + 1]? = some o := by
  have := alloc_same (w.alloc o1) o
  rwa [World.size_alloc] at this
theorem alloc_same2 (w : World) (o o1 o2 : Obj) : (((w.alloc o1).alloc o2).alloc o).heap[w.heap.size + 1 + 1]? = some o := by
  have := alloc_same1 (w.alloc o1) o o2
  rwa [World.size_alloc] at this
theorem alloc_same3 (w : World) (o o1 o2 o3 : Obj) : ((((w.alloc o1).alloc o2).alloc o3).alloc o).heap[w.heap.size + 1 + 1 + 1]? = some o := by
  have := alloc_same2 (w.alloc o1) o o2 o3
  rwa [World.size_alloc] at this
theorem alloc_other (w : World) (o : Obj) {b : Nat} (h : b < w.heap.size) : (w.alloc o).heap[b]? = w.heap[b]? := by rw [alloc_heap, if_pos h]

/-- v holds n elements of so many cells each: xs. -/
def Owns (w : World) (e : TypeId) (size : Nat) (v : Value) (n : Nat) (xs : List Value) : Prop :=
  xs.length = n * size ∧
  ((v = .slice none 0 0 ∧ n = 0) ∨
   ∃ g cap cur, v = .slice (some ⟨g, 0, none⟩) n cap ∧ w.heap[g]? = some (.cells cur e (0, 0)) ∧ n ≤ cap ∧ cap ≤ maxLen ∧ cap * size ≤ cur.size ∧ cur.toList.take (n * size) = xs)

section
variable {w w' : World} {e : TypeId} {size : Nat} {v : Value} {n : Nat} {xs : List Value}
theorem Owns.nil (w : World) (e : TypeId) (size : Nat) : Owns w e size (.slice none 0 0) 0 [] := ⟨by simp, .inl ⟨rfl, rfl⟩⟩
theorem Owns.lt (h : Owns w e size v n xs) : ∀ g, v.ownBlock = some g → g < w.heap.size := by
  intro k hk
  rcases h.2 with ⟨rfl, _⟩ | ⟨g, cap, cur, rfl, hg, _⟩
  · simp [Value.ownBlock] at hk
  · simp [Value.ownBlock] at hk
    subst hk
    exact (Array.getElem?_eq_some_iff.1 hg).1
theorem Owns.heap (h : Owns w e size v n xs) : ∀ g, v.ownBlock = some g → ∃ c, w.heap[g]? = some (.cells c e (0, 0)) := by
  intro k hk
  rcases h.2 with ⟨rfl, _⟩ | ⟨g, cap, cur, rfl, hg, _⟩
  · simp [Value.ownBlock] at hk
  · simp [Value.ownBlock] at hk
    subst hk
    exact ⟨cur, hg⟩
theorem Owns.keep (h : Owns w e size v n xs) (hk : ∀ g, v.ownBlock = some g → w'.heap[g]? = w.heap[g]?) : Owns w' e size v n xs := by
  refine ⟨h.1, ?_⟩
  rcases h.2 with hn | ⟨g, cap, cur, rfl, hg, rest⟩
  · exact .inl hn
  · exact .inr ⟨g, cap, cur, rfl, by rw [hk g rfl]; exact hg, rest⟩
theorem Owns.ext (h : Owns w e size v n xs) (k : Ext w w') : Owns w' e size v n xs := h.keep fun g hg => k.block g (h.lt g hg)
theorem Owns.form (h : Owns w e size v n xs) : ∃ a cap, v = .slice a n cap ∧ n ≤ cap ∧ cap ≤ maxLen := by
  rcases h.2 with ⟨rfl, rfl⟩ | ⟨g, cap, cur, rfl, hg, h1, h2, _⟩
  · exact ⟨none, 0, rfl, Nat.le_refl _, Nat.zero_le _⟩
  · exact ⟨_, cap, rfl, h1, h2⟩
theorem Owns.cells (h : Owns w e size v n xs) {g : Nat} (hg : v.ownBlock = some g) : ∀ j u, xs[j]? = some u → w.cell? ⟨g, j, none⟩ = some u := by
  intro j u hu
  rcases h.2 with ⟨rfl, _⟩ | ⟨g', cap, cur, rfl, hgg, _, _, _, htake⟩
  · simp [Value.ownBlock] at hg
  · simp [Value.ownBlock] at hg
    subst hg
    rw [cell_of_row w g' j cur e (0, 0) hgg]
    rw [← htake, List.getElem?_take] at hu
    split at hu
    · simpa using hu
    · cases hu
/-- Its first k, as c[:k:k]. -/
theorem Owns.take (h : Owns w e size v n xs) {g cap : Nat} (hv : v = .slice (some ⟨g, 0, none⟩) n cap) (k : Nat) (hk : k ≤ n) : Owns w e size (.slice (some ⟨g, 0, none⟩) k k) k (xs.take (k * size)) := by
  refine ⟨by rw [List.length_take, h.1]; exact Nat.min_eq_left (Nat.mul_le_mul_right _ hk), ?_⟩
  rcases h.2 with ⟨rfl, _⟩ | ⟨g', cap', cur, rfl, hgg, h1, h2, h3, htake⟩
  · cases hv
  · cases hv
    refine .inr ⟨g, k, cur, rfl, hgg, Nat.le_refl _, by omega, Nat.le_trans (Nat.mul_le_mul_right _ (by omega)) h3, ?_⟩
    rw [← htake, List.take_take, Nat.min_eq_left (Nat.mul_le_mul_right _ hk)]
end

theorem add0 (g j : Nat) : (⟨g, 0, none⟩ : Addr).add j = ⟨g, j, none⟩ := by unfold Addr.add; split <;> simp_all

section
variable {P : Program} (w : World)
theorem run_append_owns (t ty e : TypeId) (i : TypeInfo) (z : Value) (size bytes : Nat) (ht : P.underlying t = some (.slice e)) (hi : P.info? e = some i) (hz : i.zero = some z)
    (hsize : i.size = size) (hby : i.bytes = bytes) (hzs : z.cells.size = size)
    (v : Value) (n : Nat) (xs : List Value) (hown : Owns w e size v n xs)
    (a : Addr) (m c : Nat) (news : List Value) (hl : news.length = m * size) (hnews : ∀ j u, news[j]? = some u → w.cell? (a.add j) = some u) (h1 : ∀ u ∈ news, u.oneCell' = true)
    (h63 : n + m ≤ maxLen) (hbytes : (n + m) * bytes ≤ 140737488355328) :
    ∃ v' w', (Builtin.append_ #[t, t] ty #[v, .slice (some a) m c]).run P w = .ok v' w' ∧ Owns w' e size v' (n + m) (xs ++ news) ∧ w.grownBy w' v.ownBlock ∧ (v'.ownBlock = v.ownBlock ∨ v'.ownBlock = some w.heap.size) := by
  subst hsize
  subst hby
  have hsmall : n + m ≤ 9223372036854775807 := by simp only [maxLen] at h63; omega
  have hlen : (xs ++ news).length = (n + m) * i.size := by rw [List.length_append, hown.1, hl, Nat.add_mul]
  have grown : ∀ (old : Nat) (row : Option Nat),
      Owns (w.drew.alloc (.cells (xs.toArray ++ news.toArray ++ Builtin.zeroCells z.cells (grownCap w (n + m) old e - (n + m))) e)) e i.size
        (.slice (some ⟨w.heap.size, 0, none⟩) (n + m) (grownCap w (n + m) old e)) (n + m) (xs ++ news) ∧
      w.grownBy (w.drew.alloc (.cells (xs.toArray ++ news.toArray ++ Builtin.zeroCells z.cells (grownCap w (n + m) old e - (n + m))) e)) row := by
    intro old row
    have hge := grownCap_ge w (n + m) old e
    refine ⟨⟨hlen, .inr ⟨w.heap.size, _, _, rfl, heap_alloc_new w.drew _, hge, grownCap_le_maxLen w (n + m) old e h63, ?_, ?_⟩⟩, ⟨rfl, rfl, rfl, by simp, fun k hk _ => heap_alloc_old w.drew _ hk⟩⟩
    · apply Nat.le_of_eq
      simp only [Array.size_append, List.size_toArray, size_zeroCells, hzs, hown.1, hl, ← Nat.add_mul]
      congr 1
      omega
    · simp only [Array.toList_append, List.append_assoc]
      rw [← List.append_assoc, ← hlen]
      exact List.take_left
  rcases hown.2 with ⟨rfl, rfl⟩ | ⟨g, cap, cur, rfl, hg, hnc, hcm, hcs, htake⟩
  · have hx : xs = [] := List.eq_nil_of_length_eq_zero (by simpa using hown.1)
    subst hx
    by_cases hm : m = 0
    · subst hm
      have hn : news = [] := List.eq_nil_of_length_eq_zero (by simpa using hl)
      subst hn
      refine ⟨.slice none 0 0, w, ?_, Owns.nil w e i.size, ⟨rfl, rfl, rfl, Nat.le_refl _, fun _ _ _ => rfl⟩, .inl rfl⟩
      simp [Builtin.append_, run_underlying ht, sizeOf, typeInfo, hi, Builtin.lenOf, Builtin.firstCells, loadCells, loadCellsFrom]
    · have hr := run_append_nil (P := P) w t ty e i z ht hi hz a m c news hl hnews (by omega) (by omega) (by have hb := hbytes; simp only [Nat.zero_add] at hb; omega)
      have hgr := grown 0 (Value.ownBlock (.slice none 0 0))
      simp only [Nat.zero_add, List.nil_append, Array.empty_append] at hgr ⊢
      exact ⟨_, _, hr, hgr.1, hgr.2, .inr rfl⟩
  · by_cases hroom : n + m ≤ cap
    · have hfit : n * i.size + news.length ≤ cur.size := by rw [hl, ← Nat.add_mul]; exact Nat.le_trans (Nat.mul_le_mul_right _ hroom) hcs
      have hr := run_append_room (P := P) w t ty e i ht hi g n cap cur hg a m c news hl hnews h1 hroom hfit
      refine ⟨_, _, hr, ⟨hlen, .inr ⟨g, cap, _, rfl, setRow_heap w g cur _ e _ hg, hroom, hcm, ?_, ?_⟩⟩, ⟨rfl, rfl, rfl, by simp, fun k _ hk => setRow_other w g k _ (fun e => hk (by simp [Value.ownBlock, e]))⟩, .inl rfl⟩
      · simp only [List.size_toArray, List.length_append, List.length_take, List.length_drop, Array.length_toList]
        omega
      · rw [htake, ← hlen]
        exact List.take_left
    · have holds : ∀ j u, xs[j]? = some u → w.cell? ((⟨g, 0, none⟩ : Addr).add j) = some u := fun j u hu => by rw [add0]; exact hown.cells (g := g) rfl j u hu
      have hr := run_append_grow (P := P) w t ty e i z ht hi hz ⟨g, 0, none⟩ n cap xs hown.1 holds a m c news hl hnews (by omega) (by omega) (growslice_fits (by omega) hbytes)
      have hgr := grown cap (Value.ownBlock (.slice (some ⟨g, 0, none⟩) n cap))
      exact ⟨_, _, hr, hgr.1, hgr.2, .inr rfl⟩

/-- Of a slice that is nil nothing is appended. -/
theorem run_append_owns_nil (t ty e : TypeId) (i : TypeInfo) (size : Nat) (ht : P.underlying t = some (.slice e)) (hi : P.info? e = some i)
    (v : Value) (n : Nat) (xs : List Value) (hown : Owns w e size v n xs) : (Builtin.append_ #[t, t] ty #[v, .slice none 0 0]).run P w = .ok v w := by
  rcases hown.2 with ⟨rfl, rfl⟩ | ⟨g, cap, cur, rfl, hg, hnc, _⟩
  · simp [Builtin.append_, run_underlying ht, sizeOf, typeInfo, hi, Builtin.lenOf, Builtin.firstCells, loadCells, loadCellsFrom]
  · simp [Builtin.append_, run_underlying ht, sizeOf, typeInfo, hi, Builtin.lenOf, Builtin.firstCells, hnc, storeCells]
end

/-- A slice's type, its elements' type, their cells and bytes. -/
def RowT (P : Program) (t e : TypeId) (size bytes : Nat) : Prop := ∃ i z, P.underlying t = some (.slice e) ∧ P.info? e = some i ∧ i.zero = some z ∧ i.size = size ∧ i.bytes = bytes ∧ z.cells.size = size
theorem RowT.of {P : Program} {t e : TypeId} {size bytes : Nat} {z : Value} (ht : P.underlying t = some (.slice e)) (hi : (P.info? e).map (fun i => (i.zero, i.size, i.bytes)) = some (some z, size, bytes)) (hz : z.cells.size = size) : RowT P t e size bytes := by
  cases h : P.info? e with
  | none => rw [h] at hi; cases hi
  | some i =>
    rw [h] at hi
    simp only [Option.map_some, Option.some.injEq, Prod.mk.injEq] at hi
    exact ⟨i, z, ht, h, hi.1, hi.2.1, hi.2.2, hz⟩

section
variable {P : Program} {w : World} {ops : Array Oper} {rest : List Oper} {o : Oper} {a : Act} {Q : Exit → Act → World → Prop}
theorem wp_append_run {K : Act → World → Prop} (s x : Operand) (t : TypeId)
    (ho : o.op = .call { callee := .builtin .append, args := #[s, x], argTypes := #[t, t] }) (v x' : Value) (hs : a.eval s = v) (hx : a.eval x = x') (v' : Value) (w' : World)
    (hr : (Builtin.append_ #[t, t] o.type #[v, x']).run P w = .ok v' w') (h : K (a.put o.dst v') w') : o.wp P a w K Q := by
  unfold Oper.wp execOp
  simp only [ho, resolve, invoke, builtin, Sem.run_bind, Sem.run_pure, Result.andThen_ok, List.map_toArray, List.map_cons, List.map_nil, hs, hx, hr]
  exact h
theorem wpList_append_owns (hgd : o.guard = none) (s x : Operand) (t e : TypeId) (size bytes : Nat) (R : RowT P t e size bytes)
    (ho : o.op = .call { callee := .builtin .append, args := #[s, x], argTypes := #[t, t] }) (v : Value) (hs : a.eval s = v) (n : Nat) (xs : List Value) (hown : Owns w e size v n xs)
    (b : Addr) (m c : Nat) (hx : a.eval x = .slice (some b) m c) (news : List Value) (hl : news.length = m * size) (hnews : ∀ j u, news[j]? = some u → w.cell? (b.add j) = some u) (h1 : ∀ u ∈ news, u.oneCell' = true)
    (h63 : n + m ≤ maxLen) (hbytes : (n + m) * bytes ≤ 140737488355328)
    (h : ∀ v' w', Owns w' e size v' (n + m) (xs ++ news) → w.grownBy w' v.ownBlock → (v'.ownBlock = v.ownBlock ∨ v'.ownBlock = some w.heap.size) → wpList P ops Q rest (a.put o.dst v') w') : wpList P ops Q (o :: rest) a w := by
  obtain ⟨i, z, ht, hi, hz, hsi, hby, hzs⟩ := R
  obtain ⟨v', w', hr, q1, q2, q3⟩ := run_append_owns w t o.type e i z size bytes ht hi hz hsi hby hzs v n xs hown b m c news hl hnews h1 h63 hbytes
  exact wpList_plain hgd fun _ hK => wp_append_run s x t ho v _ hs hx v' w' hr (hK _ _ (h v' w' q1 q2 q3))
theorem wpList_append_owns_nil (hgd : o.guard = none) (s x : Operand) (t e : TypeId) (size bytes : Nat) (R : RowT P t e size bytes)
    (ho : o.op = .call { callee := .builtin .append, args := #[s, x], argTypes := #[t, t] }) (v : Value) (hs : a.eval s = v) (n : Nat) (xs : List Value) (hown : Owns w e size v n xs)
    (hx : a.eval x = .slice none 0 0) (h : wpList P ops Q rest (a.put o.dst v) w) : wpList P ops Q (o :: rest) a w := by
  obtain ⟨i, z, ht, hi, hz, hsi, hby, hzs⟩ := R
  exact wpList_plain hgd fun _ hK => wp_append_run s x t ho v _ hs hx v w (run_append_owns_nil w t o.type e i size ht hi v n xs hown) (hK _ _ h)
theorem Owns.fresh {w : World} {e : TypeId} {size : Nat} {g : Nat} {c : Array Value} (h : w.heap[g]? = some (.cells c e (0, 0))) : Owns w e size (.slice (some ⟨g, 0, none⟩) 0 0) 0 [] :=
  ⟨by simp, .inr ⟨g, 0, c, rfl, h, Nat.le_refl _, Nat.zero_le _, by simp, by simp⟩⟩
theorem Owns.fresh1 {w : World} {e : TypeId} {size : Nat} {g : Nat} {c : Array Value} (h : w.heap[g]? = some (.cells c e (0, 0))) (hc : c.size = size) : Owns w e size (.slice (some ⟨g, 0, none⟩) 1 1) 1 c.toList :=
  ⟨by simp [hc], .inr ⟨g, 1, c, rfl, h, Nat.le_refl _, by unfold maxLen; omega, by simp [hc], by rw [Nat.one_mul, List.take_of_length_le (by simp [hc])]⟩⟩
end
theorem heap_cell {w : World} {b : Nat} {c : Array Value} {e : TypeId} {f : Nat × Nat} (h : w.heap[b]? = some (.cells c e f)) (i : Nat) : w.cell? ⟨b, i, none⟩ = c[i]? := by
  rw [cell_heap, h]; rfl
theorem heap_lt {w : World} {b : Nat} {o : Obj} (h : w.heap[b]? = some o) : b < w.heap.size := (Array.getElem?_eq_some_iff.1 h).1
theorem frozen_of {w : World} {b : Nat} {c : Array Value} {e : TypeId} (h : w.heap[b]? = some (.cells c e (0, 0))) (o : Nat) : w.frozen? ⟨b, o, none⟩ = false := by rw [frozen_heap, h]; simp [objFrozen]
theorem getObj_at {P : Program} {w : World} {r : Nat} {es : Array MapEntry} {c : Nat} (h : w.heap[r]? = some (.map es c)) : (getObj r).run P w = .ok (.map es c) w := by simp [getObj, Sem.run, h]
theorem setObj_at {P : Program} {w : World} {r : Nat} {es : Array MapEntry} {c : Nat} (o' : Obj) (h : w.heap[r]? = some (.map es c)) : (setObj r o').run P w = .ok () (putBlk w r o') := by simp [setObj, Sem.run, h, putBlk]
end Go.Proofs.Ytfaekfdngkpkdaa
/- Keys and lines of caches: what the model does with them as keys of maps, in the order of the entries. -/
namespace Go.Proofs.Ytfaekfdngkpkdaa
set_option linter.unusedVariables false
set_option linter.unusedSimpArgs false
open Go.RowKit
attribute [local go_sem] wext_cell wext_frozen wext_heap alloc_cell alloc_frozen alloc_heap setCell_cell objCell_cells objFrozen_cells

structure Key where
  p : Int
  l : Int
  t : Int
deriving DecidableEq, Inhabited
def Key.val (k : Key) : Value := .agg #[.int .i64 k.p, .int .i64 k.l, .int .u64 k.t]
structure Line where
  f : Int
  a : Bool
  b : Bool
  c : Bool
  d : Bool
  m : Int
deriving DecidableEq, Inhabited
def Line.val (x : Line) : Value := .agg #[.int .u64 x.f, .bool x.a, .bool x.b, .bool x.c, .bool x.d, .int .u8 x.m]

theorem key_equal (k k' : Key) (w : World) : (Op.equal 159 k.val k'.val).run Try.prog w = .ok (decide (k = k')) w := by
  show (Op.equalIn 10000 _ _ _).run _ _ = _
  obtain ⟨p, l, t⟩ := k
  obtain ⟨p', l', t'⟩ := k'
  simp [Key.val, go_sem]
  by_cases h1 : p = p' <;> by_cases h2 : l = l' <;> by_cases h3 : t = t' <;> simp [*]

theorem key_check_at (e : Bool) (k : Key) (w : World) (d : Nat) : (Instr.checkKey e (d + 1 + 1) 159 k.val).run Try.prog w = .ok () w := by
  obtain ⟨p, l, t⟩ := k
  simp [Key.val, Instr.checkKey, go_sem]
theorem key_check (e : Bool) (k : Key) (w : World) : (Instr.checkKey e 10000 159 k.val).run Try.prog w = .ok () w := key_check_at e k w 9998

/-- The entries of a map, in turn. -/
def EntOk (es : Array MapEntry) (L : List (Key × Line)) : Prop := es.toList.map (fun e => (e.key, e.val)) = L.map fun x => (x.1.val, x.2.val)
def look (k : Key) : List (Key × Line) → Nat → Option (Nat × Line)
  | [], _ => none
  | x :: L, i => if k = x.1 then some (i, x.2) else look k L (i + 1)

theorem findAsking_run (k : Key) (w : World) : ∀ (l : List MapEntry) (L : List (Key × Line)) (i : Nat), l.map (fun e => (e.key, e.val)) = L.map (fun x => (x.1.val, x.2.val)) →
    (Instr.findAsking 159 k.val l i).run Try.prog w = .ok ((look k L i).map fun x => (x.1, x.2.val)) w
  | [], [], i, _ => rfl
  | [], x :: L, i, h => by cases h
  | e :: l, [], i, h => by cases h
  | e :: l, x :: L, i, h => by
    simp only [List.map_cons, List.cons.injEq, Prod.mk.injEq] at h
    unfold Instr.findAsking look
    rw [Sem.run_bind, h.1.1, key_equal]
    simp only [Result.andThen_ok]
    by_cases hk : k = x.1
    · simp [hk, h.1.2]
    · simp only [hk, decide_false, Bool.false_eq_true, if_false]
      exact findAsking_run k w l L (i + 1) h.2

theorem findKey_run (k : Key) (w : World) (l : List MapEntry) (L : List (Key × Line)) (h : l.map (fun e => (e.key, e.val)) = L.map (fun x => (x.1.val, x.2.val))) :
    (Instr.findKey 159 k.val l).run Try.prog w = .ok ((look k L 0).map fun x => (x.1, x.2.val)) w := by
  unfold Instr.findKey
  rw [Sem.run_bind, run_underlying Try.underlying159]
  simp only [Result.andThen_ok]
  cases l with
  | nil =>
    cases L with
    | nil => rfl
    | cons x L => cases h
  | cons e l =>
    split
    · rename_i r hr
      simp [Instr.findNow, Instr.sameNow] at hr
    · exact findAsking_run k w (e :: l) L 0 h

theorem lookup_run (k : Key) (w : World) (mb : Nat) (es : Array MapEntry) (clock : Nat) (L : List (Key × Line)) (hb : w.heap[mb]? = some (.map es clock)) (h : EntOk es L) :
    (Instr.lookup 202 (.map (some mb)) k.val true).run Try.prog w =
      .ok (.tuple #[(match look k L 0 with | some x => x.2 | none => ⟨0, false, false, false, false, 0⟩ : Line).val, .bool (look k L 0).isSome]) w := by
  unfold Instr.lookup
  rw [Sem.run_bind, run_underlying Try.underlying202]
  simp only [Result.andThen_ok, Sem.run_bind, getObj_at hb, Sem.run_pure, key_check, findKey_run k w es.toList L h]
  cases hl : look k L 0 with
  | none => simp [Line.val, go_sem]
  | some x => simp

theorem EntOk.push {es : Array MapEntry} {L : List (Key × Line)} (h : EntOk es L) (k : Key) (x : Line) (c : Nat) : EntOk (es.push { key := k.val, val := x.val, born := c }) (L ++ [(k, x)]) := by
  unfold EntOk at h ⊢
  simp [h]
theorem EntOk.set {es : Array MapEntry} {L : List (Key × Line)} (h : EntOk es L) (k : Key) (x : Line) (i : Nat) : EntOk (es.modify i fun e => { e with key := k.val, val := x.val }) (L.set i (k, x)) := by
  unfold EntOk at h ⊢
  rw [List.map_set, ← h, Array.toList_modify]
  apply List.ext_getElem?
  intro j
  simp only [List.getElem?_map, List.getElem?_modify, List.getElem?_set]
  by_cases hij : i = j
  · subst hij
    by_cases hi : i < es.toList.length
    · have hi2 : i < es.size := by simpa using hi
      simp [hi2]
    · simp only [List.getElem?_eq_none (Nat.le_of_not_lt hi)]; simp; simpa using hi
  · simp [hij]
theorem EntOk.erase {es : Array MapEntry} {L : List (Key × Line)} (h : EntOk es L) (i : Nat) : EntOk (es.eraseIdxIfInBounds i) (L.eraseIdx i) := by
  unfold EntOk at h ⊢
  rw [ChangeMaps.map_eraseIdx, ← h, ← ChangeMaps.map_eraseIdx]
  congr 1
  simp [Array.eraseIdxIfInBounds]
  split
  · simp
  · rename_i h; rw [List.eraseIdx_of_length_le (by simpa using h)]

theorem look_some {k : Key} : ∀ {L : List (Key × Line)} {i j : Nat} {x : Line}, look k L i = some (j, x) → i ≤ j ∧ L[j - i]? = some (k, x) ∧ (L.take (j - i)).all (fun y => y.1 ≠ k) = true
  | [], _, _, _, h => by cases h
  | y :: L, i, j, x, h => by
    unfold look at h
    split at h
    · rename_i hk
      obtain ⟨rfl, rfl⟩ := Prod.mk.inj (Option.some.inj h)
      refine ⟨Nat.le_refl _, ?_, ?_⟩ <;> simp [hk]
    · rename_i hk
      obtain ⟨h1, h2, h3⟩ := look_some h
      have : j - i = (j - (i + 1)) + 1 := by omega
      refine ⟨by omega, ?_, ?_⟩
      · rw [this]; simpa using h2
      · rw [this]; simp only [List.take_succ_cons, List.all_cons, h3, Bool.and_true, decide_eq_true_eq]; exact fun h => hk h.symm
theorem look_none {k : Key} : ∀ {L : List (Key × Line)} {i : Nat}, look k L i = none → ∀ y ∈ L, y.1 ≠ k
  | [], _, _, y, hy => by cases hy
  | x :: L, i, h, y, hy => by
    unfold look at h
    split at h
    · cases h
    · rename_i hk
      rcases List.mem_cons.1 hy with rfl | hy
      · exact fun h => hk h.symm
      · exact look_none h y hy

def putL (k : Key) (x : Line) (L : List (Key × Line)) : List (Key × Line) :=
  match look k L 0 with
  | some (i, _) => L.set i (k, x)
  | none => L ++ [(k, x)]
def delL (k : Key) (L : List (Key × Line)) : List (Key × Line) :=
  match look k L 0 with
  | some (i, _) => L.eraseIdx i
  | none => L

theorem same_key (k : Key) (n : Nat) : Instr.sameBits (n + 1 + 1) k.val k.val = true := by
  simp [Key.val, Instr.sameBits]

theorem mapUpdate_run (k : Key) (x : Line) (w : World) (mb : Nat) (es : Array MapEntry) (clock : Nat) (L : List (Key × Line)) (hb : w.heap[mb]? = some (.map es clock)) (h : EntOk es L) :
    ∃ es' c', (Instr.mapUpdate 202 (.map (some mb)) k.val x.val).run Try.prog w = .ok () (putBlk w mb (.map es' c')) ∧ EntOk es' (putL k x L) := by
  unfold Instr.mapUpdate putL
  rw [Sem.run_bind, run_underlying Try.underlying202]
  simp only [Result.andThen_ok, Sem.run_bind, getObj_at hb, Sem.run_pure, key_check, findKey_run k w es.toList L h]
  cases hl : look k L 0 with
  | none => exact ⟨_, _, setObj_at _ hb, h.push k x clock⟩
  | some y =>
    obtain ⟨j, y⟩ := y
    have hj := (look_some hl).2.1
    have hkey : ((es[j]?).map (·.key)).getD k.val = k.val := by
      have h2 : (es.toList.map (fun e => (e.key, e.val)))[j]? = (L.map fun x => (x.1.val, x.2.val))[j]? := by rw [h]
      simp only [List.getElem?_map] at h2
      simp only [Nat.sub_zero] at hj
      rw [hj] at h2
      cases he : es[j]? with
      | none => rfl
      | some e =>
        rw [Array.getElem?_toList, he] at h2
        simp only [Option.map_some, Option.some.injEq, Prod.mk.injEq] at h2
        simpa using h2.1
    refine ⟨es.modify j fun e => { e with key := k.val, val := x.val }, clock, ?_, h.set k x j⟩
    simp only [Option.map_some, hkey, Sem.run_bind, Instr.keyThatStays, same_key k 9998, if_true, Sem.run_pure, Result.andThen_ok]
    exact setObj_at _ hb

theorem delete_run (k : Key) (w : World) (mb : Nat) (es : Array MapEntry) (clock : Nat) (L : List (Key × Line)) (hb : w.heap[mb]? = some (.map es clock)) (h : EntOk es L) :
    ∃ es', (∀ ty t2 : TypeId, (Builtin.delete_ #[202, t2] ty #[.map (some mb), k.val]).run Try.prog w = .ok (.tuple #[]) (putBlk w mb (.map es' clock))) ∧ EntOk es' (delL k L) := by
  unfold Builtin.delete_ delL
  simp only [List.getElem?_toArray, List.getElem?_cons_zero, List.getElem?_cons_succ]
  rw [Sem.run_bind, run_underlying Try.underlying202]
  simp only [Result.andThen_ok, Sem.run_bind, getObj_at hb, Sem.run_pure, key_check, findKey_run k w es.toList L h]
  cases hl : look k L 0 with
  | none => exact ⟨es, by simp [setObj_at _ hb], h⟩
  | some y => exact ⟨_, by simp [setObj_at _ hb], h.erase y.1⟩
end Go.Proofs.Ytfaekfdngkpkdaa
/- Caches: slices.Index, slices.Clone of keys. -/
namespace Go.Proofs.Ytfaekfdngkpkdaa
set_option linter.unusedVariables false
set_option linter.unusedSimpArgs false
open Go.RowKit
attribute [local go_sem] wext_cell wext_frozen wext_heap alloc_cell alloc_frozen alloc_heap setCell_cell objCell_cells objFrozen_cells

def Key.cells (k : Key) : List Value := [.int .i64 k.p, .int .i64 k.l, .int .u64 k.t]
def rowK (ks : List Key) : List Value := ks.flatMap Key.cells
def kAt (ks : List Key) (i : Nat) : Key := ks.getD i default
theorem rowK_length (ks : List Key) : (rowK ks).length = ks.length * 3 := by
  induction ks with
  | nil => rfl
  | cons k ks ih => simp only [rowK, List.flatMap_cons, List.length_append, List.length_cons] at *; simp only [Key.cells, List.length_cons, List.length_nil]; omega
theorem rowK_get : ∀ (ks : List Key) (i : Nat), i < ks.length → (rowK ks)[i * 3]? = some (.int .i64 (kAt ks i).p) ∧ (rowK ks)[i * 3 + 1]? = some (.int .i64 (kAt ks i).l) ∧ (rowK ks)[i * 3 + 2]? = some (.int .u64 (kAt ks i).t)
  | [], i, h => by simp at h
  | k :: ks, 0, h => by simp [rowK, Key.cells, kAt]
  | k :: ks, i + 1, h => by
    have h2 : i < ks.length := by simpa using h
    obtain ⟨a, b, c⟩ := rowK_get ks i h2
    have e : ∀ j, (rowK (k :: ks))[j + 3]? = (rowK ks)[j]? := fun j => by simp [rowK, Key.cells]
    have e2 : kAt (k :: ks) (i + 1) = kAt ks i := by simp [kAt]
    rw [e2]
    refine ⟨?_, ?_, ?_⟩
    · rw [show (i + 1) * 3 = i * 3 + 3 by omega, e]; exact a
    · rw [show (i + 1) * 3 + 1 = (i * 3 + 1) + 3 by omega, e]; exact b
    · rw [show (i + 1) * 3 + 2 = (i * 3 + 2) + 3 by omega, e]; exact c
theorem rowK_take (ks : List Key) (i : Nat) : rowK (ks.take i) = (rowK ks).take (i * 3) := by
  induction ks generalizing i with
  | nil => simp [rowK]
  | cons k ks ih =>
    cases i with
    | zero => simp [rowK]
    | succ i =>
      have := ih i
      rw [show (i + 1) * 3 = i * 3 + 3 by omega]
      simp only [List.take_succ_cons, rowK, List.flatMap_cons] at *
      rw [this]; simp [Key.cells]
theorem rowK_drop (ks : List Key) (i : Nat) : rowK (ks.drop i) = (rowK ks).drop (i * 3) := by
  induction ks generalizing i with
  | nil => simp [rowK]
  | cons k ks ih =>
    cases i with
    | zero => simp [rowK]
    | succ i =>
      have := ih i
      rw [show (i + 1) * 3 = i * 3 + 3 by omega]
      simp only [List.drop_succ_cons, rowK, List.flatMap_cons] at *
      rw [this]; simp [Key.cells]
theorem rowK_append (a b : List Key) : rowK (a ++ b) = rowK a ++ rowK b := by simp [rowK]
theorem rowK_one (a : List Key) : ∀ u ∈ rowK a, u.oneCell' = true := by
  intro u hu
  obtain ⟨k, _, hk⟩ := List.mem_flatMap.1 hu
  simp [Key.cells] at hk
  rcases hk with rfl | rfl | rfl <;> rfl

/-- whether two keys are the same -/
def keyB (k k' : Key) : Bool := decide (k = k')
theorem key_eql (p l t p' l' t' : Int) (w : World) : (binOp .eql 159 (.agg #[.int .i64 p, .int .i64 l, .int .u64 t]) (.agg #[.int .i64 p', .int .i64 l', .int .u64 t'])).run Try.prog w = .ok (.bool (keyB ⟨p, l, t⟩ ⟨p', l', t'⟩)) w := by
  have := key_equal ⟨p, l, t⟩ ⟨p', l', t'⟩ w
  rw [run_eql_struct]
  show ((Op.equal _ _ _).run _ _).andThen _ = _
  simp only [Key.val] at this
  rw [this]; rfl
attribute [local go_sem high] key_eql

/-- the place of a key; -1: it isn't there -/
def ixK (k : Key) : List Key → Int → Int
  | [], _ => -1
  | x :: ks, i => if k = x then i else ixK k ks (i + 1)
theorem ixK_drop (k : Key) (ks : List Key) (i : Nat) (h : i < ks.length) : ixK k (ks.drop i) i = if keyB k (kAt ks i) = true then (i : Int) else ixK k (ks.drop (i + 1)) ((i + 1 : Nat) : Int) := by
  have : ks.drop i = kAt ks i :: ks.drop (i + 1) := by
    rw [List.drop_eq_getElem_cons h]; simp [kAt, List.getD, h]
  rw [this, ixK]
  simp [keyB]

set_option maxHeartbeats 1000000 in
theorem indexK_c (ks : List Key) (k : Key) (v : Value) (w : World) (ho : Owns w 159 3 v ks.length (rowK ks)) :
    Calls Try.prog 121 #[v, k.val] w fun e w' => e = .returned (.int .i64 (ixK k ks 0)) ∧ Ext w w' := by
  obtain ⟨p, l, t⟩ := k
  obtain ⟨a, cap, rfl, hn, hm⟩ := ho.form
  unfold Key.val
  unfold maxLen at hm
  have hlen : ((ks.length : Nat) : Int) ≤ 9223372036854775807 := by omega
  go_enter Try.func121, Try.ntmps121
  go_wp2
  refine wp_gen ?_; intro W hW
  have hE : Ext w W := by rw [hW]; exact (by repeat (first | exact Ext.refl _ | assumption | refine Ext.alloc ?_ _ | refine Ext.drew ?_ | refine Ext.setCell ?_ (by first | (simp; done) | (dsimp only; omega)) _ | refine Ext.trans ?_ (by assumption)))
  have hbox : W.cell? ⟨w.heap.size, 0, none⟩ = some (.int .i64 p) ∧ W.cell? ⟨w.heap.size, 1, none⟩ = some (.int .i64 l) ∧ W.cell? ⟨w.heap.size, 2, none⟩ = some (.int .u64 t) := by
    rw [hW]; simp [go_sem]
  have hsz : w.heap.size < W.heap.size := by rw [hW]; simp
  obtain ⟨hb0, hb1, hb2⟩ := hbox
  clear hW
  go_loopw [8] (fun i wr => ∃ j : Nat, j ≤ ks.length ∧ i = .int .i64 j ∧ Aside (ixK ⟨p, l, t⟩ ks 0 = ixK ⟨p, l, t⟩ (ks.drop j) j) ∧ Ext W wr) (fun i _ => ks.length - (intOf i).toNat)
  case atStart => exact ⟨0, by omega, rfl, ⟨by simp⟩, Ext.refl _⟩
  case round =>
    obtain ⟨j, hj, rfl, hi, hb⟩ := hrel
    have HB := Lib.hid hb
    clear hb
    have HO := Lib.hid ho
    have HE := Lib.hid hE
    clear ho hE
    by_cases hlt : j < ks.length
    · obtain ⟨g, hg⟩ : ∃ g, a = some ⟨g, 0, none⟩ := by
        rcases HO.out.2 with ⟨_, h0⟩ | ⟨g, _, _, he, _⟩
        · omega
        · exact ⟨g, by injection he⟩
      subst hg
      have hgl := HO.out.lt g rfl
      obtain ⟨c0, c1, c2⟩ := rowK_get ks j hlt
      have d0 := HO.out.cells (g := g) rfl _ _ c0
      have d1 := HO.out.cells (g := g) rfl _ _ c1
      have d2 := HO.out.cells (g := g) rfl _ _ c2
      rw [← (HE.out.trans HB.out).cell _ _ hgl] at d0 d1 d2
      have e0 := fun d => wext_some (d := d) d0
      have e1 := fun d => wext_some (d := d) d1
      have e2 := fun d => wext_some (d := d) d2
      have f0 := fun d => wext_some (d := d) (HB.out.someCell hb0)
      have f1 := fun d => wext_some (d := d) (HB.out.someCell hb1)
      have f2 := fun d => wext_some (d := d) (HB.out.someCell hb2)
      clear hb0 hb1 hb2 d0 d1 d2 c0 c1 c2
      have hdrop := Aside.mk (ixK_drop ⟨p, l, t⟩ ks j hlt)
      go_upto_region 4 with (fail)
      refine region_ext (by kernel_rfl) (by kernel_rfl) ?_; (repeat (go_big_quiet_step (fail))); refine wpQuiet_nil ?_; intro w1 hb; have ⟨hc, hf, hh, hs⟩ := hb.facts; try simp only [World.size_alloc, World.size_setCell, World.size_drew] at hs
      go_wp2
      · go_ret
        refine ⟨?_, (HE.out.trans HB.out).trans hb⟩
        rename_i hq
        rw [hi.out, hdrop.out, if_pos hq]
        rfl
      · refine ⟨⟨j + 1, by omega, by go_num, ⟨?_⟩, HB.out.trans hb⟩, by simp [intOf]; omega⟩
        rw [hi.out, hdrop.out, if_neg]
        rename_i hq
        rw [show (kAt ks j) = ⟨(kAt ks j).p, (kAt ks j).l, (kAt ks j).t⟩ from rfl, hq]; simp
    · go_wp2
      go_ret
      refine ⟨?_, HE.out.trans HB.out⟩
      rw [hi.out, List.drop_eq_nil_of_le (by omega)]
      rfl

theorem keyRow : RowT Try.prog 165 159 3 24 := RowT.of (z := .agg #[.int .i64 0, .int .i64 0, .int .u64 0]) Try.underlying165 (by kernel_rfl) rfl

/-- What Clone hands back. -/
def EndKeys (w : World) (ks : List Key) (e : Ending) (w' : World) : Prop :=
  ∃ v', e = .returned v' ∧ Owns w' 159 3 v' ks.length (rowK ks) ∧ Ext w w' ∧ ∀ g, v'.ownBlock = some g → w.heap.size ≤ g

theorem cloneK_c (ks : List Key) (v : Value) (w : World) (ho : Owns w 159 3 v ks.length (rowK ks)) (hl : ks.length ≤ 1000) :
    Calls Try.prog 120 #[v] w (EndKeys w ks) := by
  have HO := Lib.hid ho
  have qT : ∀ (w : World) (a : Option Addr) (n c n' c' : Nat), (binOp .eql 165 (.slice a n c) (.slice none n' c')).run Try.prog w = .ok (.bool a.isNone) w := fun w a n c n' c' => Lib.run_eql_slice_nil w _ _ a n c n' c' Try.underlying165
  rcases ho.2 with ⟨rfl, h0⟩ | ⟨g, cap, cur, rfl, hg, hn, hm, hcs, htake⟩
  · go_enter Try.func120, Try.ntmps120
    clear ho h0
    go_wp2
    all_goals
      go_ret
      exact ⟨_, rfl, HO.out, (by repeat (first | exact Ext.refl _ | assumption | refine Ext.alloc ?_ _ | refine Ext.drew ?_ | refine Ext.setCell ?_ (by first | (simp; done) | (dsimp only; omega)) _ | refine Ext.trans ?_ (by assumption))), fun g hg => by cases hg⟩
  · go_enter Try.func120, Try.ntmps120
    unfold maxLen at hm
    clear ho htake hcs hg
    have hcl : ∀ j u, (rowK ks)[j]? = some u → (w.alloc (.cells #[] 159)).cell? ((⟨g, 0, none⟩ : Addr).add j) = some u := fun j u hu => by
      rw [add0, alloc_cell, if_pos (HO.out.lt g rfl)]; exact HO.out.cells rfl j u hu
    go_wp2_with (first | (at_builtin; refine wpList_append_owns rfl _ _ _ _ 3 24 keyRow rfl _ rfl 0 [] (Owns.fresh (c := #[]) (by rw [alloc_heap]; simp)) _ _ _ rfl (rowK ks) (rowK_length ks) hcl (rowK_one ks) (by unfold maxLen; omega) (by omega) ?_; intro v1 w1 q1 q2 q3; replace q2 : (w.alloc (.cells #[] 159)).grownBy w1 (some w.heap.size) := q2; replace q3 : v1.ownBlock = some w.heap.size ∨ v1.ownBlock = some (w.alloc (.cells #[] 159)).heap.size := q3))
    all_goals
      go_ret
      refine ⟨_, rfl, ?_, ?_, ?_⟩
      · show Owns w1 _ 3 v1 _ _
        simpa using q1
      · refine Keeps.to_ext (F := []) (Ext.refl w) ?_ (by simp)
        exact ((Keeps.of_ext ((Ext.refl w).alloc _)).grown q2 (fun x hx => .inr (by cases hx; exact Nat.le_refl _)))
      · intro g hg
        replace hg : v1.ownBlock = some g := hg
        rcases q3 with q3 | q3 <;> rw [q3] at hg <;> cases hg <;> simp
end Go.Proofs.Ytfaekfdngkpkdaa
/- A region that draws its order, with several loud operations: a plan of segments, walked once. Own text.
   Kinds: 0 blind (the same in every world), 1 quiet (the same in every world that has grown out of the present one), 2 loud, 3 loud that only lays new memory.
   Conditions (a Bool over the region): in the plan's order each operation stands behind what it waits for; behind a loud one all wait for it; what stands before a loud one is blind (or quiet, if the loud one only lays memory), or it waits for that. -/
namespace Go.Proofs.Ytfaekfdngkpkdaa
open Go.RowKit
section
variable {P : Program} {ops : Array Oper} {Q : Exit → Act → World → Prop}

def depsOf (ops : Array Oper) (j : Nat) : List Nat :=
  match ops[j]? with
  | some o => (o.after.toList.filter (Region.binds .any ·)).map (·.on)
  | none => []
theorem mem_depsOf {j : Nat} {o : Oper} {d : Nat} (ho : ops[j]? = some o) : d ∈ depsOf ops j ↔ ∃ e ∈ o.after, Region.binds .any e = true ∧ e.on = d := by
  simp only [depsOf, ho, List.mem_map, List.mem_filter]
  constructor
  · rintro ⟨e, ⟨h1, h2⟩, h3⟩; exact ⟨e, by simpa using h1, h2, h3⟩
  · rintro ⟨e, h1, h2, h3⟩; exact ⟨e, ⟨by simpa using h1, h2⟩, h3⟩

/-- What is listed waits for nothing that isn't. -/
def Shut (ops : Array Oper) (seen : Array Bool) : Prop := ∀ j, seen.getD j false = true → ∀ d ∈ depsOf ops j, seen.getD d false = true
/-- i is listed wherever j may come up. -/
def Waits (ops : Array Oper) (j i : Nat) : Prop := ∀ seen, Shut ops seen → (∀ d ∈ depsOf ops j, seen.getD d false = true) → seen.getD i false = true

def closeStep (ops : Array Oper) (acc : List (Nat × List Nat)) (j : Nat) : List (Nat × List Nat) :=
  (j, (depsOf ops j ++ (depsOf ops j).flatMap fun k => (acc.lookup k).getD []).eraseDups) :: acc
theorem lookup_mem {α : Type} {l : List (Nat × α)} {k : Nat} {x : α} (h : l.lookup k = some x) : (k, x) ∈ l := by
  induction l with
  | nil => simp at h
  | cons p l ih =>
    obtain ⟨k', x'⟩ := p
    simp only [List.lookup] at h
    split at h
    · rename_i heq
      obtain rfl : k = k' := by simpa using heq
      cases h; exact List.mem_cons_self ..
    · exact List.mem_cons_of_mem _ (ih h)
theorem close_ok : ∀ (ord : List Nat) (acc : List (Nat × List Nat)), (∀ j ds, (j, ds) ∈ acc → ∀ i ∈ ds, Waits ops j i) →
    ∀ j ds, (j, ds) ∈ ord.foldl (closeStep ops) acc → ∀ i ∈ ds, Waits ops j i
  | [], _, h => h
  | x :: ord, acc, h => by
    refine close_ok ord _ (fun j ds hm i hi => ?_)
    rcases List.mem_cons.1 hm with hm | hm
    · obtain ⟨rfl, rfl⟩ := Prod.mk.inj hm
      rw [List.mem_eraseDups, List.mem_append] at hi
      intro seen hs hd
      rcases hi with hi | hi
      · exact hd i hi
      · obtain ⟨k, hk, hi⟩ := List.mem_flatMap.1 hi
        cases hl : acc.lookup k with
        | none => rw [hl] at hi; cases hi
        | some ds' =>
          rw [hl] at hi
          exact h k ds' (lookup_mem hl) i hi seen hs (hs k (hd k hk))
    · exact h j ds hm i hi
def waitsB (cl : List (Nat × List Nat)) (j i : Nat) : Bool := ((cl.lookup j).getD []).contains i
theorem waitsB_ok {ord : List Nat} {j i : Nat} (h : waitsB (ord.foldl (closeStep ops) []) j i = true) : Waits ops j i := by
  unfold waitsB at h
  cases hl : (ord.foldl (closeStep ops) []).lookup j with
  | none => rw [hl] at h; simp at h
  | some ds =>
    rw [hl] at h
    exact close_ok ord [] (fun _ _ hm => by cases hm) j ds (lookup_mem hl) i (by simpa using h)

/-- The mixed walk. -/
def wpMix (P : Program) (ops : Array Oper) (Q : Exit → Act → World → Prop) : List (Nat × Nat) → Act → World → Prop
  | [], a, w => ∀ w1, Ext w w1 → Q .normal a w1
  | (i, k) :: U, a, w => ∃ o, ops[i]? = some o ∧
    (Region.wanted o (yielded ops a.tmps) = true →
      (2 ≤ k → ∀ w1, Ext w w1 → o.wp P a w1 (fun a' w' => (k = 3 → Ext w w') ∧ wpMix P ops Q U a' w') (fun _ _ _ => False)) ∧
      (k < 2 → ∃ v, (∀ w', (k = 0 ∨ Ext w w') → (execOp a.eval o).run P w' = .ok (.value v) w') ∧ wpMix P ops Q U (a.put o.dst v) w)) ∧
    (Region.wanted o (yielded ops a.tmps) = false → wpMix P ops Q U (a.put o.dst undef) w)

theorem upon_mono {o : Oper} {a : Act} {K K' : Act → World → Prop} {R R' : Exit → Act → World → Prop} {r : Result Next} (hk : ∀ a w, K a w → K' a w) (hq : ∀ e a w, R e a w → R' e a w)
    (h : o.upon P a K R r) : o.upon P a K' R' r := by
  cases r with
  | ok nx w =>
    cases nx with
    | value v => exact hk _ _ h
    | skip => exact hk _ _ h
    | defer d => exact hk _ _ h
    | enter f args =>
      exact Calls.mono h fun e w' h' => by
        cases e with
        | returned v => exact hk _ _ h'
        | panicked c => exact hq _ _ _ h'
        | outgrown => obtain ⟨a, w, h'⟩ := h'; exact ⟨a, w, hq _ _ _ h'⟩
    | row rw args => exact Rows.mono h fun v w' h' => hk _ _ h'
    | _ => exact h
  | halt x w =>
    cases x with
    | panic v => exact hq _ _ _ h
    | _ => exact h

theorem upon_exit {o : Oper} {a : Act} {K : Act → World → Prop} {R R' : Exit → Act → World → Prop} {r : Result Next} (hq : ∀ e a w, e ≠ .normal → R e a w → R' e a w)
    (h : o.upon P a K R r) : o.upon P a K R' r := by
  cases r with
  | ok nx w =>
    cases nx with
    | value v => exact h
    | skip => exact h
    | defer d => exact h
    | enter f args =>
      exact Calls.mono h fun e w' h' => by
        cases e with
        | returned v => exact h'
        | panicked c => exact hq _ _ _ (by simp) h'
        | outgrown => obtain ⟨a, w, h'⟩ := h'; exact ⟨a, w, hq _ _ _ (by simp) h'⟩
    | row rw args => exact h
    | _ => exact h
  | halt x w =>
    cases x with
    | panic v => exact hq _ _ _ (by simp) h
    | _ => exact h

theorem mix_cong {x : Nat × Nat} {L L' : List (Nat × Nat)} (h : ∀ a w, wpMix P ops Q L a w → wpMix P ops Q L' a w) (a : Act) (w : World) (hm : wpMix P ops Q (x :: L) a w) : wpMix P ops Q (x :: L') a w := by
  obtain ⟨i, k⟩ := x
  obtain ⟨o, ho, h1, h2⟩ := hm
  refine ⟨o, ho, fun hw => ⟨fun hk w1 hx => upon_mono (fun a w hh => ⟨hh.1, h a w hh.2⟩) (fun _ _ _ hf => hf) ((h1 hw).1 hk w1 hx), fun hk => ?_⟩, fun hw => h _ _ (h2 hw)⟩
  obtain ⟨v, a1, a3⟩ := (h1 hw).2 hk
  exact ⟨v, a1, h _ _ a3⟩

theorem put_defers (a : Act) (dst : Option Tmp) (v : Value) (D : List Deferred) : ({ a with defers := D } : Act).put dst v = { a.put dst v with defers := D } := by cases dst <;> rfl

/-- Two that stand side by side and do not look at each other, the first one not loud, and blind if the second one is loud. -/
theorem mix_swap {q kq i k : Nat} {R : List (Nat × Nat)} {oq oi : Oper} (hsel : Region.noSelect ops = true) (hq : ops[q]? = some oq) (hi : ops[i]? = some oi) (hap : oq.apart ops oi = true) (hkq : kq < 2) (hk : k = 2 → kq = 0) (hk3 : k ≤ 3)
    (a : Act) (w : World) (hm : wpMix P ops Q ((q, kq) :: (i, k) :: R) a w) : wpMix P ops Q ((i, k) :: (q, kq) :: R) a w := by
  obtain ⟨p1, p2, p3⟩ := Oper.apart_spec hap
  have si := fun cs b => Region.noSelect_spec hsel i oi cs b hi
  have sq := fun cs b => Region.noSelect_spec hsel q oq cs b hq
  have wi : ∀ (a : Act) v, Region.wanted oi (yielded ops (a.put oq.dst v).tmps) = Region.wanted oi (yielded ops a.tmps) := fun a v => wanted_put oi a oq.dst v p1
  have wq : ∀ (a : Act) v, Region.wanted oq (yielded ops (a.put oi.dst v).tmps) = Region.wanted oq (yielded ops a.tmps) := fun a v => wanted_put oq a oi.dst v p3
  have ei : ∀ (a : Act) v, execOp (a.put oq.dst v).eval oi = execOp a.eval oi := fun a v => execOp_put oi si a oq.dst v p1
  have eq : ∀ (a : Act) v, execOp (a.put oi.dst v).eval oq = execOp a.eval oq := fun a v => execOp_put oq sq a oi.dst v p3
  have pc : ∀ (a : Act) v u, (a.put oq.dst v).put oi.dst u = (a.put oi.dst u).put oq.dst v := fun a v u => Act.put_comm a v u p2
  obtain ⟨oq', hq', h1, h2⟩ := hm
  obtain rfl : oq' = oq := Option.some.inj (hq'.symm.trans hq)
  -- what the first one leaves, and that it leaves it from any frame that has the second one's value too
  have key : ∃ vq, wpMix P ops Q ((i, k) :: R) (a.put oq'.dst vq) w ∧ ∀ (u : Value) (D : List Deferred) (w' : World), (kq = 0 ∨ Ext w w') →
      wpMix P ops Q R ({ (a.put oi.dst u).put oq'.dst vq with defers := D }) w' → wpMix P ops Q ((q, kq) :: R) ({ a.put oi.dst u with defers := D }) w' := by
    cases hw : Region.wanted oq' (yielded ops a.tmps) with
    | true =>
      obtain ⟨vq, b0, hmix⟩ := (h1 hw).2 hkq
      refine ⟨vq, hmix, fun u D w' hw' hR => ⟨oq', hq, fun _ => ⟨fun h => absurd h (by omega), fun _ => ⟨vq, fun w2 h0 => ?_, ?_⟩⟩, fun hf => ?_⟩⟩
      · have := b0 w2 (by
          rcases h0 with h0 | h0
          · exact .inl h0
          · rcases hw' with h1 | h1
            · exact .inl h1
            · exact .inr (h1.trans h0))
        rw [← eq a u] at this
        exact this
      · rw [put_defers]; exact hR
      · exfalso
        have : Region.wanted oq' (yielded ops (a.put oi.dst u).tmps) = false := hf
        rw [wq, hw] at this; cases this
    | false =>
      refine ⟨undef, h2 hw, fun u D w' _ hR => ⟨oq', hq, fun ht => ?_, fun _ => ?_⟩⟩
      · exfalso
        have : Region.wanted oq' (yielded ops (a.put oi.dst u).tmps) = true := ht
        rw [wq, hw] at this; cases this
      · rw [put_defers]; exact hR
  obtain ⟨vq, hmix, hback⟩ := key
  obtain ⟨oi', hi', g1, g2⟩ := hmix
  obtain rfl : oi' = oi := Option.some.inj (hi'.symm.trans hi)
  refine ⟨oi', hi, fun hw => ⟨fun h2 w1 hx => ?_, fun h2 => ?_⟩, fun hw => ?_⟩
  · -- loud
    have hl := (g1 (by rw [wi]; exact hw)).1 h2 w1 hx
    unfold Oper.wp at hl ⊢
    rw [ei] at hl
    generalize (execOp a.eval oi').run P w1 = r at hl ⊢
    have bk : ∀ (u : Value) (D : List Deferred) (w' : World), ((k = 3 → Ext w w') ∧ wpMix P ops Q R ({ (a.put oq'.dst vq).put oi'.dst u with defers := D }) w') →
        (k = 3 → Ext w w') ∧ wpMix P ops Q ((q, kq) :: R) ({ a.put oi'.dst u with defers := D }) w' := fun u D w' hR => by
      refine ⟨hR.1, ?_⟩
      have hR := hR.2
      rw [pc] at hR
      refine hback u D w' ?_ hR
      by_cases h3 : k = 3
      · exact .inr (‹(k = 3 → Ext w w') ∧ _›.1 h3)
      · exact .inl (hk (by omega))
    cases r with
    | ok nx w2 =>
      cases nx with
      | value v => exact bk v (a.put oi'.dst v).defers w2 (by have : (a.put oi'.dst v).defers = ((a.put oq'.dst vq).put oi'.dst v).defers := (by cases oi'.dst <;> cases oq'.dst <;> rfl); rw [this]; exact hl)
      | skip => exact bk undef (a.put oi'.dst undef).defers w2 (by have : (a.put oi'.dst undef).defers = ((a.put oq'.dst vq).put oi'.dst undef).defers := (by cases oi'.dst <;> cases oq'.dst <;> rfl); rw [this]; exact hl)
      | defer d =>
        have hl' : (k = 3 → Ext w w2) ∧ wpMix P ops Q R (({ a.put oq'.dst vq with defers := d :: (a.put oq'.dst vq).defers } : Act).put oi'.dst undef) w2 := hl
        rw [put_defers] at hl'
        have hd : (a.put oq'.dst vq).defers = a.defers := by cases oq'.dst <;> rfl
        rw [hd] at hl'
        show (k = 3 → Ext w w2) ∧ wpMix P ops Q ((q, kq) :: R) (({ a with defers := d :: a.defers } : Act).put oi'.dst undef) w2
        rw [put_defers]
        exact bk undef (d :: a.defers) w2 hl'
      | enter f args =>
        exact Calls.mono hl fun e w3 h3 => by
          cases e with
          | returned v => exact bk v (a.put oi'.dst v).defers w3 (by have : (a.put oi'.dst v).defers = ((a.put oq'.dst vq).put oi'.dst v).defers := (by cases oi'.dst <;> cases oq'.dst <;> rfl); rw [this]; exact h3)
          | panicked c => exact h3
          | outgrown => exact h3
      | row rw args => exact Rows.mono hl fun v w3 h3 => bk v (a.put oi'.dst v).defers w3 (by have : (a.put oi'.dst v).defers = ((a.put oq'.dst vq).put oi'.dst v).defers := (by cases oi'.dst <;> cases oq'.dst <;> rfl); rw [this]; exact h3)
      | _ => exact hl
    | halt x w2 =>
      cases x with
      | panic v => exact hl
      | _ => exact hl
  · obtain ⟨v, c0, hR⟩ := (g1 (by rw [wi]; exact hw)).2 h2
    refine ⟨v, fun w' h0 => ?_, ?_⟩
    · have := c0 w' h0; rwa [ei] at this
    · rw [pc] at hR
      exact hback v (a.put oi'.dst v).defers w (.inr (Ext.refl w)) (by
        have : (a.put oi'.dst v).defers = ((a.put oi'.dst v).put oq'.dst vq).defers := (by cases oi'.dst <;> cases oq'.dst <;> rfl)
        rw [this]; exact hR)
  · have hR := g2 (by rw [wi]; exact hw)
    rw [pc] at hR
    exact hback undef (a.put oi'.dst undef).defers w (.inr (Ext.refl w)) (by
      have : (a.put oi'.dst undef).defers = ((a.put oi'.dst undef).put oq'.dst vq).defers := (by cases oi'.dst <;> cases oq'.dst <;> rfl)
      rw [this]; exact hR)

theorem mix_pull (hsel : Region.noSelect ops = true) {i k : Nat} {oi : Oper} (hk3 : k ≤ 3) (hi : ops[i]? = some oi) {post : List (Nat × Nat)} : ∀ (pre : List (Nat × Nat)),
    (∀ q ∈ pre, q.2 < 2 ∧ (k = 2 → q.2 = 0) ∧ ∃ oq, ops[q.1]? = some oq ∧ oq.apart ops oi = true) → ∀ a w, wpMix P ops Q (pre ++ (i, k) :: post) a w → wpMix P ops Q ((i, k) :: (pre ++ post)) a w
  | [], _, _, _, h => h
  | (q, kq) :: pre, hp, a, w, h => by
    obtain ⟨h1, h2, oq, h3, h4⟩ := hp (q, kq) (List.mem_cons_self ..)
    exact mix_swap hsel h3 hi h4 h1 h2 hk3 a w (mix_cong (mix_pull hsel hk3 hi pre (fun x hx => hp x (List.mem_cons_of_mem _ hx))) a w h)

/-- The static relation of two operations in the plan's order. -/
def relB (ops : Array Oper) (cl : List (Nat × List Nat)) (x y : Nat × Nat) : Bool :=
  ((depsOf ops y.1).contains x.1 || (match ops[x.1]?, ops[y.1]? with | some ox, some oy => ox.apart ops oy | _, _ => false)) &&
  !(depsOf ops x.1).contains y.1 && (decide (x.2 < 2) || waitsB cl y.1 x.1) && (y.2 != 2 || x.2 == 0 || waitsB cl y.1 x.1) && x.1 != y.1
def pairB (r : Nat × Nat → Nat × Nat → Bool) : List (Nat × Nat) → Bool
  | [] => true
  | x :: l => l.all (r x) && pairB r l
theorem pairB_ok {r : Nat × Nat → Nat × Nat → Bool} : ∀ {l : List (Nat × Nat)}, pairB r l = true → l.Pairwise (fun x y => r x y = true)
  | [], _ => List.Pairwise.nil
  | x :: l, h => by
    simp only [pairB, Bool.and_eq_true, List.all_eq_true] at h
    exact List.pairwise_cons.2 ⟨h.1, pairB_ok h.2⟩
def oneB1 (ops : Array Oper) (x : Nat × Nat) : Bool := ((depsOf ops x.1).all fun d => decide (d < ops.size) && d != x.1) && decide (x.2 ≤ 3)

theorem mix_any (hsel : Region.noSelect ops = true) (ord : List Nat) : ∀ (n : Nat) (U : List (Nat × Nat)) (seen : Array Bool) (a : Act) (w : World), U.length = n → seen.size = ops.size → Shut ops seen →
    (∀ j, j < ops.size → (seen.getD j false = false ↔ ∃ k, (j, k) ∈ U)) → U.Pairwise (fun x y => relB ops (ord.foldl (closeStep ops) []) x y = true) → (∀ x ∈ U, oneB1 ops x = true) →
    wpMix P ops Q U a w → ∀ w1, Ext w w1 → wpAny P .any ops Q n seen a w1 := by
  intro n
  induction n with
  | zero =>
    intro U seen a w hU hsz _ hin _ _ hm w1 hx
    obtain rfl : U = [] := List.length_eq_zero_iff.1 hU
    refine ⟨?_, hm w1 hx⟩
    apply List.eq_nil_iff_forall_not_mem.2
    intro j hj
    obtain ⟨h0, o, ho, _⟩ := mem_ready.1 hj
    obtain ⟨k, hk⟩ := (hin j (Array.getElem?_eq_some_iff.1 ho).1).1 (getD_both h0)
    cases hk
  | succ n ih =>
    intro U seen a w hU hsz hshut hin hpw hone hm w1 hx
    have listed : ∀ j, j < ops.size → (¬ ∃ k, (j, k) ∈ U) → seen.getD j false = true := fun j hj hn => by
      cases h : seen.getD j false with
      | true => rfl
      | false => exact absurd ((hin j hj).1 h) hn
    constructor
    · intro h0
      exfalso
      match U, hU, hm with
      | (i, k) :: U', _, hm =>
        obtain ⟨o, ho, _⟩ := hm
        have hil : i < ops.size := (Array.getElem?_eq_some_iff.1 ho).1
        have : i ∈ Region.ready .any ops seen := mem_ready.2 ⟨getD_in (by omega) ((hin i hil).2 ⟨k, List.mem_cons_self ..⟩), o, ho, fun e he hb => by
          have h1 := hone (i, k) (List.mem_cons_self ..)
          simp only [oneB1, List.all_eq_true, Bool.and_eq_true, decide_eq_true_eq, bne_iff_ne] at h1
          replace h1 := h1.1
          have hd : e.on ∈ depsOf ops i := (mem_depsOf ho).2 ⟨e, he, hb, rfl⟩
          refine listed e.on (h1 _ hd).1 fun ⟨k', hk'⟩ => ?_
          rcases List.mem_cons.1 hk' with hk' | hk'
          · exact (h1 _ hd).2 (Prod.mk.inj hk').1
          · have := (List.pairwise_cons.1 hpw).1 _ hk'
            simp only [relB, Bool.and_eq_true, Bool.not_eq_true'] at this
            have h2 := this.1.1.1.2
            rw [List.contains_eq_mem] at h2
            simp [hd] at h2⟩
        rw [h0] at this; cases this
    · intro i hi
      obtain ⟨hun, oi, hoi, hall⟩ := mem_ready.1 hi
      have hil : i < ops.size := (Array.getElem?_eq_some_iff.1 hoi).1
      obtain ⟨k, hk⟩ := (hin i hil).1 (getD_both hun)
      obtain ⟨pre, post, rfl⟩ := List.append_of_mem hk
      have hdeps : ∀ d ∈ depsOf ops i, seen.getD d false = true := fun d hd => by
        obtain ⟨e, he, hb, rfl⟩ := (mem_depsOf hoi).1 hd
        exact hall e he hb
      have hpre : ∀ q ∈ pre, q.2 < 2 ∧ (k = 2 → q.2 = 0) ∧ ∃ oq, ops[q.1]? = some oq ∧ oq.apart ops oi = true := fun q hq => by
        have hrel := (List.pairwise_append.1 hpw).2.2 q hq (i, k) (List.mem_cons_self ..)
        simp only [relB, Bool.and_eq_true, Bool.or_eq_true, Bool.not_eq_true', bne_iff_ne, ne_eq, beq_iff_eq, decide_eq_true_eq] at hrel
        obtain ⟨⟨⟨⟨r1, r2⟩, r3⟩, r4⟩, _⟩ := hrel
        have hqun : seen.getD q.1 false = false := by
          cases h : ops[q.1]? with
          | none =>
            rw [h] at r1
            rcases r1 with r1 | r1
            · have : q.1 ∈ depsOf ops i := by simpa using r1
              have h1 := hone (i, k) (by simp)
              simp only [oneB1, List.all_eq_true, Bool.and_eq_true, decide_eq_true_eq] at h1
              replace h1 := h1.1
              have := (h1 _ this).1
              exact (hin q.1 this).2 ⟨q.2, by simp [hq]⟩
            · cases r1
          | some oq => exact (hin q.1 (Array.getElem?_eq_some_iff.1 h).1).2 ⟨q.2, by simp [hq]⟩
        have hnd : q.1 ∉ depsOf ops i := fun hd => by rw [hdeps _ hd] at hqun; cases hqun
        have hnw : ¬ waitsB (ord.foldl (closeStep ops) []) i q.1 = true := fun hw => by
          rw [waitsB_ok hw seen hshut hdeps] at hqun; cases hqun
        refine ⟨?_, fun h2 => ?_, ?_⟩
        · rcases r3 with r3 | r3
          · exact r3
          · exact absurd r3 hnw
        · rcases r4 with (r4 | r4) | r4
          · exact absurd h2 r4
          · exact r4
          · exact absurd r4 hnw
        · rcases r1 with r1 | r1
          · exact absurd (by simpa using r1) hnd
          · cases h : ops[q.1]? with
            | none => rw [h] at r1; cases r1
            | some oq => rw [h, hoi] at r1; exact ⟨oq, rfl, r1⟩
      have hk3 : k ≤ 3 := by
        have h1 := hone (i, k) hk
        simp only [oneB1, Bool.and_eq_true, decide_eq_true_eq] at h1
        exact h1.2
      have hpull := mix_pull hsel hk3 hoi pre hpre a w hm
      obtain ⟨o', ho', b1, b2⟩ := hpull
      obtain rfl : o' = oi := Option.some.inj (ho'.symm.trans hoi)
      have hsub : (pre ++ post).Sublist (pre ++ (i, k) :: post) := List.Sublist.append_left (List.sublist_cons_self _ _) _
      have cont : ∀ a' w', wpMix P ops Q (pre ++ post) a' w' → ∀ w2, Ext w' w2 → wpAny P .any ops Q n (seen.setIfInBounds i true) a' w2 := fun a' w' h' w2 hx2 => by
        refine ih (pre ++ post) _ a' w' (by simp at hU ⊢; omega) (by simp [hsz]) (fun j hj d hd => ?_) (fun j hj => ?_) (hpw.sublist hsub) (fun x hx => hone x (hsub.subset hx)) h' w2 hx2
        · by_cases hij : i = j
          · subst hij; exact getD_set_true (hdeps d hd)
          · rw [getD_set_ne false hij] at hj
            exact getD_set_true (hshut j hj d hd)
        · by_cases hij : i = j
          · subst hij
            constructor
            · intro hf
              exfalso
              have : (seen.setIfInBounds i true).getD i false = true := by simp [show i < seen.size by omega]
              rw [this] at hf; cases hf
            · rintro ⟨k', hk'⟩
              exfalso
              have hp2 := List.pairwise_append.1 hpw
              rcases List.mem_append.1 hk' with hk' | hk'
              · have := hp2.2.2 _ hk' (i, k) (List.mem_cons_self ..)
                simp [relB] at this
              · have := (List.pairwise_cons.1 hp2.2.1).1 _ hk'
                simp [relB] at this
          · rw [getD_set_ne false hij, hin j hj]
            constructor
            · rintro ⟨k', hk'⟩
              refine ⟨k', ?_⟩
              rcases List.mem_append.1 hk' with hk' | hk'
              · exact List.mem_append.2 (.inl hk')
              · rcases List.mem_cons.1 hk' with hk' | hk'
                · exact absurd (Prod.mk.inj hk').1.symm hij
                · exact List.mem_append.2 (.inr hk')
            · rintro ⟨k', hk'⟩; exact ⟨k', hsub.subset hk'⟩
      unfold wpOp
      simp only [hoi]
      cases hw : Region.wanted o' (yielded ops a.tmps) with
      | false =>
        simp only [Bool.false_eq_true, if_false]
        exact cont _ _ (b2 hw) w1 hx
      | true =>
        simp only [if_true]
        refine .inl ?_
        by_cases h2 : 2 ≤ k
        · exact upon_mono (fun a' w' h' => cont a' w' h'.2 w' (Ext.refl _)) (fun _ _ _ hf => hf.elim) ((b1 hw).1 h2 w1 hx)
        · obtain ⟨v, c0, hR⟩ := (b1 hw).2 (by omega)
          unfold Oper.wp
          rw [c0 w1 (.inr hx)]
          exact cont _ _ hR w1 hx
end

/-! ### Plans -/

/-- Operations that yield a value, and nothing else. -/
def calm : Op → Bool
  | .move _ | .assign _ | .pick .. | .build .. | .load .. | .nilCheck _ | .binOp .. | .unOp .. | .convert .. | .slice .. | .fieldAddr .. | .field .. | .indexAddr .. | .index .. | .lookup .. | .extract .. | .makeInterface .. | .typeAssert .. => true
  | .call c => match c.callee with
    | .builtin b => b == .len || b == .cap || b == .min || b == .max
    | _ => false
  | _ => false
def ValOnly (P : Program) (s : Sem Next) : Prop := ∀ w nx w', s.run P w = .ok nx w' → ∃ v, nx = .value v
theorem ValOnly.pure {P : Program} (v : Value) : ValOnly P (Pure.pure (.value v)) := fun w nx w' h => by
  have h2 : (Result.ok (Next.value v) w : Result Next) = .ok nx w' := h
  cases h2; exact ⟨v, rfl⟩
theorem ValOnly.bind {P : Program} {α : Type} {s : Sem α} {f : α → Sem Next} (hf : ∀ x, ValOnly P (f x)) : ValOnly P (s >>= f) := fun w nx w' h => by
  rw [Sem.run_bind] at h
  cases hs : s.run P w with
  | ok v w2 => rw [hs] at h; exact hf v w2 nx w' h
  | halt x w2 => rw [hs] at h; cases h
theorem ValOnly.panic {P : Program} : ValOnly P (runtimePanic .nilDeref) := fun w nx w' h => by
  simp [runtimePanic, goPanic] at h
theorem calm_only {P : Program} {ρ : Operand → Value} {o : Oper} (hc : calm o.op = true) : ValOnly P (execOp ρ o) := by
  unfold execOp
  cases ho : o.op <;> rw [ho] at hc <;> simp only [calm] at hc ⊢ <;> first | exact ValOnly.pure _ | exact ValOnly.bind fun _ => ValOnly.pure _ | (exfalso; exact hc) | (exfalso; cases hc; done) | skip
  · split
    · exact ValOnly.panic
    · exact ValOnly.panic
    · exact ValOnly.panic
    · split
      · exact ValOnly.panic
      · exact ValOnly.bind fun _ => ValOnly.bind fun _ => (by split; exact ValOnly.bind fun _ => ValOnly.pure _; exact ValOnly.pure _)
      · exact ValOnly.pure _
    · exact ValOnly.pure _
  · rename_i c
    cases hcc : c.callee with
    | builtin b =>
      rw [hcc] at hc
      simp only [resolve, hcc]
      show ValOnly P (builtin b _ _ _ _)
      cases b <;> first | exact ValOnly.bind fun _ => ValOnly.pure _ | (exfalso; revert hc; decide)
    | _ => rw [hcc] at hc; cases hc
theorem calm_run {P : Program} {a : Act} {o : Oper} {C : World → Prop} {w : World} {v : Value} (hc : calm o.op = true) (h : o.quietAt P a C w v) : (execOp a.eval o).run P w = .ok (.value v) w := by
  unfold Oper.quietAt at h
  generalize hr : (execOp a.eval o).run P w = r at h
  cases r with
  | halt x w2 => simp only [Oper.quietUpon] at h
  | ok nx w2 =>
    obtain ⟨u, rfl⟩ := calm_only hc w nx w2 hr
    simp only [Oper.quietUpon] at h
    obtain ⟨rfl, rfl⟩ := h
    rfl

/-- The worlds that have grown out of w. -/
def grown (w : World) (w' : World) : Prop := ∃ d, w' = wext w d
theorem grown_iff {w w' : World} : grown w w' ↔ Ext w w' := ⟨fun ⟨d, h⟩ => h ▸ wext_ext w d, fun h => ⟨w', wext_of h⟩⟩

def pickL (l : List Oper) (is : List Nat) : List Oper := is.map fun i => l.getD i default
/-- A plan's parts: blind operations, quiet ones, a loud one and its kind. -/
inductive Seg where
  | b (is : List Nat)
  | q (is : List Nat)
  | l (i k : Nat)
def planOf : List Seg → List (Nat × Nat)
  | [] => []
  | .b is :: t => is.map (·, 0) ++ planOf t
  | .q is :: t => is.map (·, 1) ++ planOf t
  | .l i k :: t => (i, k) :: planOf t

def wpPlan (P : Program) (l : List Oper) (Q : Exit → Act → World → Prop) : List Seg → Act → World → Prop
  | [], a, w => ∀ w1, Ext w w1 → Q .normal a w1
  | .b is :: t, a, w => wpQuiet P l.toArray (fun _ => True) (fun a1 => wpPlan P l Q t a1 w) (pickL l is) a
  | .q is :: t, a, w => wpQuiet P l.toArray (fun w' => ∃ d, w' = wext w d) (fun a1 => wpPlan P l Q t a1 w) (pickL l is) a
  | .l i k :: t, a, w => ∀ w1, Ext w w1 → wpList P l.toArray (Exit.then (fun a3 w3 => (k = 3 → Ext w w3) ∧ wpPlan P l Q t a3 w3) (fun _ _ _ => False)) (pickL l [i]) a w1

def calmB (l : List Oper) (is : List Nat) : Bool := is.all fun i => decide (i < l.length) && calm (l.getD i default).op
def segB (l : List Oper) : Seg → Bool
  | .b is => calmB l is
  | .q is => calmB l is
  | .l i k => decide (i < l.length) && decide (2 ≤ k) && (l.getD i default).guard.isNone

section
variable {P : Program} {l : List Oper} {Q : Exit → Act → World → Prop}
theorem getD_some {l : List Oper} {i : Nat} (h : i < l.length) : l.toArray[i]? = some (l.getD i default) := by
  simp [List.getD, h]

theorem mix_calm {U : List (Nat × Nat)} (k : Nat) (hk : k < 2) {w : World} {C : World → Prop} (hC : ∀ w', (k = 0 ∨ Ext w w') → C w') : ∀ (is : List Nat) (a : Act), calmB l is = true →
    wpQuiet P l.toArray C (fun a' => wpMix P l.toArray Q U a' w) (pickL l is) a → wpMix P l.toArray Q (is.map (·, k) ++ U) a w
  | [], a, _, h => h
  | i :: is, a, hB, h => by
    simp only [calmB, List.all_cons, Bool.and_eq_true, decide_eq_true_eq] at hB
    refine ⟨_, getD_some hB.1.1, fun hw => ⟨fun h2 => absurd h2 (by omega), fun _ => ?_⟩, fun hw => ?_⟩
    · simp only [pickL, List.map_cons, wpQuiet] at h
      rw [if_pos hw] at h
      obtain ⟨v, h1, h2⟩ := h
      exact ⟨v, fun w' h0 => calm_run hB.1.2 (h1 w' (hC w' h0)), mix_calm k hk hC is _ hB.2 h2⟩
    · simp only [pickL, List.map_cons, wpQuiet] at h
      rw [if_neg (by rw [hw]; simp)] at h
      exact mix_calm k hk hC is _ hB.2 h

theorem upon_normal {P : Program} {o : Oper} {a : Act} {K : Act → World → Prop} {R : Act → World → Prop} {r : Result Next} (h : o.upon P a K (Exit.then R fun _ _ _ => False) r) : o.upon P a K (fun _ _ _ => False) r := by
  refine upon_exit (fun e a w he hq => ?_) h
  cases e <;> first | exact absurd rfl he | exact hq

theorem mix_loud {U : List (Nat × Nat)} {i k : Nat} {a : Act} {w : World} (hi : i < l.length) (hk : 2 ≤ k) (hg : (l.getD i default).guard = none)
    (h : ∀ w1, Ext w w1 → wpList P l.toArray (Exit.then (fun a3 w3 => (k = 3 → Ext w w3) ∧ wpMix P l.toArray Q U a3 w3) (fun _ _ _ => False)) (pickL l [i]) a w1) : wpMix P l.toArray Q ((i, k) :: U) a w := by
  have hwd : ∀ y, Region.wanted (l.getD i default) y = true := fun y => by unfold Region.wanted; rw [hg]
  refine ⟨_, getD_some hi, fun hw => ⟨fun _ w1 hx => ?_, fun h2 => absurd h2 (by omega)⟩, fun hw => ?_⟩
  · have := h w1 hx
    simp only [pickL, List.map_cons, List.map_nil, wpList] at this
    rw [if_pos hw] at this
    rcases this with this | ⟨_, _, _, hf⟩
    · exact upon_mono (fun _ _ h' => h') (fun e _ _ h' => by cases e <;> first | exact h' | exact h'.elim) (upon_normal this)
    · exact hf.elim
  · rw [hwd] at hw; cases hw

theorem wpList_post {K K' : Act → World → Prop} (hk : ∀ a w, K a w → K' a w) : ∀ (os : List Oper) (a : Act) (w : World), wpList P l.toArray (Exit.then K fun _ _ _ => False) os a w → wpList P l.toArray (Exit.then K' fun _ _ _ => False) os a w
  | [], a, w, h => hk a w h
  | o :: os, a, w, h => by
    have hR : ∀ e a w, Exit.then K (fun _ _ _ => False) e a w → Exit.then K' (fun _ _ _ => False) e a w := fun e a w hh => by cases e <;> first | exact hk a w hh | exact hh
    simp only [wpList] at h ⊢
    split
    · rename_i hw
      rw [if_pos hw] at h
      rcases h with h | ⟨h1, a', w', h2⟩
      · exact .inl (upon_mono (fun a w h => wpList_post hk os a w h) hR h)
      · exact .inr ⟨h1, a', w', hR _ _ _ h2⟩
    · rename_i hw
      rw [if_neg hw] at h
      exact wpList_post hk os _ _ h

theorem plan_mix : ∀ (t : List Seg) (a : Act) (w : World), t.all (segB l) = true → wpPlan P l Q t a w → wpMix P l.toArray Q (planOf t) a w
  | [], a, w, _, h => h
  | .b is :: t, a, w, hB, h => by
    simp only [List.all_cons, segB, Bool.and_eq_true] at hB
    exact mix_calm 0 (by omega) (C := fun _ => True) (fun _ _ => trivial) is a hB.1 (wpQuiet_post (fun a1 h1 => plan_mix t a1 w hB.2 h1) _ _ h)
  | .q is :: t, a, w, hB, h => by
    simp only [List.all_cons, segB, Bool.and_eq_true] at hB
    exact mix_calm 1 (by omega) (C := fun w' => ∃ d, w' = wext w d) (fun w' h => grown_iff.2 (h.resolve_left (by omega))) is a hB.1 (wpQuiet_post (fun a1 h1 => plan_mix t a1 w hB.2 h1) _ _ h)
  | .l i k :: t, a, w, hB, h => by
    simp only [List.all_cons, segB, Bool.and_eq_true, decide_eq_true_eq, Option.isNone_iff_eq_none] at hB
    exact mix_loud hB.1.1.1 hB.1.1.2 hB.1.2 fun w1 hx => wpList_post (fun a3 w3 h3 => ⟨h3.1, plan_mix t a3 w3 hB.2 h3.2⟩) _ _ _ (h w1 hx)

/-- The Bool of such a region. -/
def planB (l : List Oper) (t : List Seg) : Bool :=
  let U := planOf t
  Region.noSelect l.toArray && t.all (segB l) && decide (U.length = l.length) && ((List.range l.length).all fun j => U.any fun x => x.1 == j) &&
    (U.all fun x => oneB1 l.toArray x) && pairB (relB l.toArray ((U.map (·.1)).foldl (closeStep l.toArray) [])) U

theorem region_mix {id : Nat} {a : Act} {w : World} (t : List Seg) (hm : P.follows .mixedOrders = true) (hB : planB l t = true)
    (h : wpPlan P l Q t a w) : (Code.region id l.toArray true).wp P Q a w := by
  simp only [planB, Bool.and_eq_true, decide_eq_true_eq] at hB
  obtain ⟨⟨⟨⟨⟨h1, h2⟩, h4⟩, h5⟩, h6⟩, h7⟩ := hB
  refine wp_region_any hm ?_
  refine mix_any (n := l.toArray.size) h1 _ (planOf t) _ a w (by simpa using h4) (by simp) ?_ ?_ (pairB_ok h7) (fun x hx => List.all_eq_true.1 h6 x hx) (plan_mix t a w h2 h) _ (Ext.drew (Ext.refl w))
  · intro j hj
    rw [getD_replicate_false] at hj; cases hj
  · intro j hj
    rw [getD_replicate_false]
    simp only [true_iff]
    have := List.all_eq_true.1 h5 j (List.mem_range.2 (by simpa using hj))
    obtain ⟨x, hx, hx2⟩ := List.any_eq_true.1 this
    exact ⟨x.2, by rw [beq_iff_eq] at hx2; rw [← hx2]; exact hx⟩
end
end Go.Proofs.Ytfaekfdngkpkdaa
/- Caches: what a cache is in memory; cut, Drop, Evict. -/
namespace Go.Proofs.Ytfaekfdngkpkdaa
set_option linter.unusedVariables false
set_option linter.unusedSimpArgs false
open Go.RowKit
attribute [local go_sem] wext_cell wext_frozen wext_heap alloc_cell alloc_frozen alloc_heap setCell_cell objCell_cells objFrozen_cells
attribute [local go_sem high] key_eql

def keysOf (L : List (Key × Line)) : List Key := L.map (·.1)
theorem keysOf_length (L : List (Key × Line)) : (keysOf L).length = L.length := by simp [keysOf]

/-- The cache in block cb, its blocks, its lines in turn, its room. -/
def CAt (w : World) (cb : Nat) (F : List Nat) (L : List (Key × Line)) (r : Nat) : Prop :=
  ∃ mb ov es clock, w.heap[cb]? = some (.cells #[.map (some mb), ov, .int .i64 r] 204 (0, 0)) ∧ w.heap[mb]? = some (.map es clock) ∧ EntOk es L ∧
    Owns w 159 3 ov (keysOf L).length (rowK (keysOf L)) ∧ F = cb :: mb :: ov.ownBlock.toList ∧ L.length ≤ r ∧ r ≤ 64 ∧ (keysOf L).Nodup

/-- What an operation leaves. -/
def EndC (cb : Nat) (F : List Nat) (w : World) (L' : List (Key × Line)) (r : Nat) (e : Ending) (w' : World) : Prop :=
  e = .returned (.tuple #[]) ∧ ∃ F', CAt w' cb F' L' r ∧ Keeps F w w' ∧ ∀ x ∈ F', x ∈ F ∨ w.heap.size ≤ x


theorem nodup_look {k : Key} {x : Line} : ∀ {L : List (Key × Line)} {i : Nat}, (keysOf L).Nodup → L[i]? = some (k, x) → ∀ j, look k L j = some (i + j, x)
  | [], i, _, h, _ => by simp at h
  | y :: L, 0, _, h, j => by
    obtain rfl : y = (k, x) := by simpa using h
    simp [look]
  | y :: L, i + 1, hn, h, j => by
    have hn2 := List.nodup_cons.1 hn
    have h2 : L[i]? = some (k, x) := by simpa using h
    have hne : k ≠ y.1 := fun e => hn2.1 (by
      exact List.mem_map.2 ⟨(k, x), List.mem_of_getElem? h2, e⟩)
    unfold look
    rw [if_neg hne, nodup_look hn2.2 h2 (j + 1)]
    congr 2; omega

theorem kAt_get {k : Key} {L : List (Key × Line)} {n : Nat} (hn : n < L.length) (h : kAt (keysOf L) n = k) : ∃ x, L[n]? = some (k, x) := by
  refine ⟨(L[n]).2, ?_⟩
  rw [← h]
  simp [kAt, keysOf, List.getD, hn]
theorem keysOf_erase (L : List (Key × Line)) (n : Nat) : keysOf (L.eraseIdx n) = (keysOf L).take n ++ (keysOf L).drop (n + 1) := by
  rw [keysOf, ChangeMaps.map_eraseIdx, List.eraseIdx_eq_take_drop_succ]; rfl

set_option maxHeartbeats 1000000 in
theorem cut_c (cb : Nat) (F : List Nat) (L : List (Key × Line)) (r n : Nat) (w : World) (h : CAt w cb F L r) (hn : n < L.length) :
    Calls Try.prog 122 #[.pointer (some ⟨cb, 0, none⟩), .int .i64 n] w (EndC cb F w (L.eraseIdx n) r) := by
  obtain ⟨mb, ov, es, clock, h1, h2, h3, h4, h5, h6, h7, h8⟩ := h
  have hn' : n < (keysOf L).length := by rw [keysOf_length]; exact hn
  obtain ⟨g, cap, cur, rfl, hg, hnc, hcm, hcs, htake⟩ := h4.2.resolve_left (fun h => by omega)
  obtain ⟨c0, c1, c2⟩ := rowK_get (keysOf L) n hn'
  have d0 := h4.cells (g := g) rfl _ _ c0
  have d1 := h4.cells (g := g) rfl _ _ c1
  have d2 := h4.cells (g := g) rfl _ _ c2
  have e0 := fun d => wext_some (d := d) d0
  have e1 := fun d => wext_some (d := d) d1
  have e2 := fun d => wext_some (d := d) d2
  have a0 : ∀ d, (wext w d).cell? ⟨cb, 0, none⟩ = some (.map (some mb)) := fun d => wext_some (d := d) ((heap_cell h1 0).trans rfl)
  have a1 : ∀ d, (wext w d).cell? ⟨cb, 1, none⟩ = some (.slice (some ⟨g, 0, none⟩) (keysOf L).length cap) := fun d => wext_some (d := d) ((heap_cell h1 1).trans rfl)
  have k4 := keysOf_length L
  have hcap : cap ≤ 9223372036854775807 := by unfold maxLen at hcm; omega
  have H1 := Lib.hid h1
  have H2 := Lib.hid h2
  have H3 := Lib.hid h3
  have H4 := Lib.hid h4
  have H8 := Lib.hid h8
  clear h1 h2 h3 h4 h8 c0 c1 c2 d0 d1 d2 hg hcs htake hcm
  generalize hk : kAt (keysOf L) n = kk at e0 e1 e2
  obtain ⟨p, l, t⟩ := kk
  go_enter Try.func122, Try.ntmps122
  go_upto_region 0 with (fail)
  refine region_mix [.q [0, 1, 2, 3, 4, 5, 6, 7, 8, 9, 10], .l 11 2] (by kernel_rfl) (by kernel_rfl) ?_
  (try refine ⟨fun h => absurd h (by simp), ?_⟩); (repeat (unfold wpPlan; simp only [pickL, List.map_cons, List.map_nil, List.getD_cons_succ, List.getD_cons_zero]; (repeat go_big_quiet_step (fail)); refine wpQuiet_nil ?_)); unfold wpPlan; intro w1 hb1; (try simp only [pickL, List.map_cons, List.map_nil, List.getD_cons_succ, List.getD_cons_zero])
  have m1 : w1.heap[mb]? = some (.map es clock) := by rw [hb1.block _ (heap_lt H2.out)]; exact H2.out
  obtain ⟨es', hdel, hent⟩ := delete_run ⟨p, l, t⟩ w1 mb es clock L m1 H3.out
  unfold Key.val at hdel
  have HE := Lib.hid hent
  clear hent
  go_wp2
  (try refine ⟨fun h => absurd h (by simp), ?_⟩); (repeat (unfold wpPlan; simp only [pickL, List.map_cons, List.map_nil, List.getD_cons_succ, List.getD_cons_zero]; (repeat go_big_quiet_step (fail)); refine wpQuiet_nil ?_)); unfold wpPlan; intro w2 hb2; (try simp only [pickL, List.map_cons, List.map_nil, List.getD_cons_succ, List.getD_cons_zero])
  have hmc : mb ≠ cb := fun e => by have := H1.out; rw [← e, H2.out] at this; cases this
  have hmg : mb ≠ g := fun e => by obtain ⟨c, hc⟩ := H4.out.heap g rfl; rw [← e, H2.out] at hc; cases hc
  have hcg : cb ≠ g := fun e => by obtain ⟨c, hc⟩ := H4.out.heap g rfl; rw [← e, H1.out] at hc; cases hc
  have s1 : (putBlk w1 mb (.map es' clock)).heap.size = w1.heap.size := putBlk_size ..
  have lt1 := heap_lt H1.out
  have lt2 := heap_lt H2.out
  have ltg := H4.out.lt g rfl
  have sz1 := hb1.size
  have n1 : w2.heap[cb]? = _ := ((hb2.block cb (by omega)).trans (putBlk_heap _ _ _ _ hmc)).trans ((hb1.block cb lt1).trans H1.out)
  have n2 : w2.heap[mb]? = _ := (hb2.block mb (by omega)).trans (putBlk_same _ _ _ (by omega))
  have n4 : Owns w2 _ 3 _ _ _ := H4.out.keep (w' := w2) fun x hx => by
    cases hx
    exact ((hb2.block g (by omega)).trans (putBlk_heap _ _ _ _ hmg)).trans (hb1.block g ltg)
  have K2 : Keeps [mb] w w2 := ((Keeps.of_ext hb1).put (.inl (by simp)) _).ext hb2
  clear hdel m1 hb1 hb2 s1 sz1 e0 e1 e2 a0 a1
  have a1 : ∀ d, (wext w2 d).cell? ⟨cb, 1, none⟩ = some (.slice (some ⟨g, 0, none⟩) L.length cap) := fun d => wext_some (d := d) ((heap_cell n1 1).trans (by rw [← k4]; rfl))
  rw [k4] at hnc
  have N1 := Lib.hid n1
  have N2 := Lib.hid n2
  have N4 := Lib.hid n4
  have KK := Lib.hid K2
  clear n1 n2 n4 K2
  have hT : ∀ w3, Ext w2 w3 → Owns w3 159 3 (.slice (some ⟨g, 0, none⟩) n n) n ((rowK (keysOf L)).take (n * 3)) := fun w3 hx => (N4.out.ext hx).take rfl n (by omega)
  have hlen : ((rowK (keysOf L)).drop ((n + 1) * 3)).length = (L.length - (n + 1)) * 3 := by rw [List.length_drop, rowK_length, keysOf_length]; omega
  have hone : ∀ u ∈ (rowK (keysOf L)).drop ((n + 1) * 3), u.oneCell' = true := fun u hu => rowK_one _ u (List.mem_of_mem_drop hu)
  have hS : ∀ A : Addr, (A = ⟨g, (n + 1) * 3, none⟩ ∨ L.length = n + 1) → ∀ w3, Ext w2 w3 → ∀ j u, ((rowK (keysOf L)).drop ((n + 1) * 3))[j]? = some u → w3.cell? (A.add j) = some u := by
    intro A hA w3 hx j u hu
    rcases hA with rfl | hA
    · rw [List.getElem?_drop] at hu
      have : (⟨g, (n + 1) * 3, none⟩ : Addr).add j = ⟨g, (n + 1) * 3 + j, none⟩ := by unfold Addr.add; split <;> simp_all
      rw [this]
      exact (N4.out.ext hx).cells rfl _ _ hu
    · exfalso
      have h2 := (List.getElem?_eq_some_iff.1 hu).1
      rw [hlen] at h2; omega
  have HT := Lib.hid hT
  have HL := Lib.hid hlen
  have HO := Lib.hid hone
  have HS := Lib.hid hS
  clear hT hlen hone hS
  by_cases hce : cap = n + 1
  all_goals
    go_upto_region 1 with (fail)
    refine region_mix [.b [0], .q [1, 2, 3, 4, 5, 6, 7, 8, 9, 10, 11, 12, 13, 14], .l 15 2, .q [16, 17], .l 18 2] (by kernel_rfl) (by kernel_rfl) ?_
    (try refine ⟨fun h => absurd h (by simp), ?_⟩); (repeat (unfold wpPlan; simp only [pickL, List.map_cons, List.map_nil, List.getD_cons_succ, List.getD_cons_zero]; (repeat go_big_quiet_step (fail)); refine wpQuiet_nil ?_)); unfold wpPlan; intro w3 hb3; (try simp only [pickL, List.map_cons, List.map_nil, List.getD_cons_succ, List.getD_cons_zero])
    have HB3 := Lib.hid hb3
    clear hb3
    go_wp2_with (first | (at_builtin; refine wpList_append_owns rfl _ _ _ _ 3 24 keyRow rfl _ rfl n _ (HT.out w3 HB3.out) _ _ _ rfl _ HL.out (HS.out _ (by first | (left; rfl) | (right; omega)) w3 HB3.out) HO.out (by unfold maxLen; omega) (by omega) ?_; intro v4 w4 q1 q2 q3; replace q2 : w3.grownBy w4 (some g) := q2; replace q3 : v4.ownBlock = some g ∨ v4.ownBlock = some w3.heap.size := q3; obtain ⟨a4, c4, rfl, -, -⟩ := q1.form; simp only [Act.put, Array.set!_eq_setIfInBounds, List.setIfInBounds_toArray, List.set_cons_succ, List.set_cons_zero]))
    (try refine ⟨fun h => absurd h (by simp), ?_⟩); (repeat (unfold wpPlan; simp only [pickL, List.map_cons, List.map_nil, List.getD_cons_succ, List.getD_cons_zero]; (repeat go_big_quiet_step (fail)); refine wpQuiet_nil ?_)); unfold wpPlan; intro w5 hb5; (try simp only [pickL, List.map_cons, List.map_nil, List.getD_cons_succ, List.getD_cons_zero])
    have lt1 : cb < w2.heap.size := heap_lt N1.out
    have lt2 : mb < w2.heap.size := heap_lt N2.out
    have ltg : g < w2.heap.size := N4.out.lt g rfl
    have sz3 := HB3.out.size
    have sz4 := q2.size
    have sz5 := hb5.size
    have z1 : w5.heap[cb]? = _ := ((hb5.block cb (by omega)).trans (q2.block cb (by omega) (by simpa using hcg))).trans ((HB3.out.block cb lt1).trans N1.out)
    have z2 : w5.heap[mb]? = _ := ((hb5.block mb (by omega)).trans (q2.block mb (by omega) (by simpa using hmg))).trans ((HB3.out.block mb lt2).trans N2.out)
    have x1 : w5.cell? ⟨cb, 1, none⟩ = some (.slice (some ⟨g, 0, none⟩) L.length cap) := (heap_cell z1 1).trans (by rw [← k4]; rfl)
    have x2 : w5.frozen? ⟨cb, 1, none⟩ = false := by rw [frozen_heap, z1]; rfl
    have Z1 := Lib.hid z1
    have Z2 := Lib.hid z2
    have K5 := Lib.hid (((KK.out.mono (F' := F) (fun x hx => .inl (by rw [h5]; simp at hx; simp [hx]))).ext HB3.out).grown q2 (fun x hx => .inl (by cases hx; rw [h5]; simp [Value.ownBlock]))|>.ext hb5)
    have Q1 := Lib.hid (Owns.ext q1 hb5)
    clear z1 z2 q1 q2 hb5
    go_wp2
    (try refine ⟨fun h => absurd h (by simp), ?_⟩); (repeat (unfold wpPlan; simp only [pickL, List.map_cons, List.map_nil, List.getD_cons_succ, List.getD_cons_zero]; (repeat go_big_quiet_step (fail)); refine wpQuiet_nil ?_)); unfold wpPlan; intro w6 hb6; (try simp only [pickL, List.map_cons, List.map_nil, List.getD_cons_succ, List.getD_cons_zero])
    go_wp2
    refine ⟨rfl, .tuple #[], (by simp [results, Try.results122, go_sem]), ?_⟩
    have y1 := setCell_heap_same (i := 1) (v := .slice a4 (n + (L.length - (n + 1))) c4) Z1.out
    refine ⟨rfl, cb :: mb :: (Value.slice a4 (n + (L.length - (n + 1))) c4).ownBlock.toList, ⟨mb, .slice a4 (n + (L.length - (n + 1))) c4, es', clock, ?_, ?_, ?_, ?_, rfl, ?_, h7, ?_⟩, ?_, ?_⟩
    · rw [hb6.block cb (by simp; exact heap_lt Z1.out), y1]
      rfl
    · rw [hb6.block mb (by simp; exact heap_lt Z2.out), setCell_heap _ _ _ _ _ (Ne.symm hmc)]
      exact Z2.out
    · have e0 : delL ⟨p, l, t⟩ L = L.eraseIdx n := by
        unfold delL
        obtain ⟨x, hx⟩ : ∃ x, L[n]? = some (⟨p, l, t⟩, x) := kAt_get hn hk
        rw [nodup_look H8.out hx 0]
        simp
      rw [← e0]; exact HE.out
    · have e1 : (keysOf (L.eraseIdx n)).length = n + (L.length - (n + 1)) := by rw [keysOf_length, List.length_eraseIdx]; split <;> omega
      rw [e1, keysOf_erase, rowK_append, rowK_take, rowK_drop]
      refine (Q1.out.keep (w' := w5.setCell ⟨cb, 1, none⟩ (.slice a4 (n + (L.length - (n + 1))) c4)) fun x hx => setCell_heap _ _ _ _ _ fun e => ?_).ext hb6
      obtain ⟨c, hc⟩ := Q1.out.heap x hx
      rw [← e, Z1.out] at hc
      cases hc
    · rw [List.length_eraseIdx]; split <;> omega
    · rw [keysOf, ChangeMaps.map_eraseIdx]; exact List.Nodup.sublist (List.eraseIdx_sublist _ _) H8.out
    · exact (K5.out.setCell (.inl (by rw [h5]; simp)) _).ext hb6
    · intro x hx
      simp only [List.mem_cons, Option.mem_toList] at hx
      rcases hx with rfl | rfl | hx
      · exact .inl (by rw [h5]; simp)
      · exact .inl (by rw [h5]; simp)
      · rcases q3 with q3 | q3 <;> rw [q3] at hx <;> cases hx
        · exact .inl (by rw [h5]; simp [Value.ownBlock])
        · have := KK.out.size; exact .inr (by omega)
end Go.Proofs.Ytfaekfdngkpkdaa
/- Caches: Drop, Evict, Get, Room, Keys, Clear. -/
namespace Go.Proofs.Ytfaekfdngkpkdaa
set_option linter.unusedVariables false
set_option linter.unusedSimpArgs false
open Go.RowKit
attribute [local go_sem] wext_cell wext_frozen wext_heap alloc_cell alloc_frozen alloc_heap setCell_cell objCell_cells objFrozen_cells
attribute [local go_sem high] key_eql

theorem CAt.ext {w w' : World} {cb : Nat} {F : List Nat} {L : List (Key × Line)} {r : Nat} (h : CAt w cb F L r) (k : Ext w w') : CAt w' cb F L r := by
  obtain ⟨mb, ov, es, clock, h1, h2, h3, h4, h5⟩ := h
  exact ⟨mb, ov, es, clock, (k.block cb (heap_lt h1)).trans h1, (k.block mb (heap_lt h2)).trans h2, h3, h4.ext k, h5⟩
theorem CAt.keeps {w w' : World} {cb : Nat} {F G : List Nat} {L : List (Key × Line)} {r : Nat} (h : CAt w cb F L r) (k : Keeps G w w') (hd : ∀ x ∈ F, x ∉ G) : CAt w' cb F L r := by
  obtain ⟨mb, ov, es, clock, h1, h2, h3, h4, h5, h6⟩ := h
  refine ⟨mb, ov, es, clock, (k.block cb (heap_lt h1) (hd _ (by rw [h5]; simp))).trans h1, (k.block mb (heap_lt h2) (hd _ (by rw [h5]; simp))).trans h2, h3, h4.keep fun g hg => k.block g (h4.lt g hg) (hd _ (by rw [h5]; simp [hg])), h5, h6⟩
theorem CAt.lt {w : World} {cb : Nat} {F : List Nat} {L : List (Key × Line)} {r : Nat} (h : CAt w cb F L r) : ∀ x ∈ F, x < w.heap.size := by
  obtain ⟨mb, ov, es, clock, h1, h2, h3, h4, h5, h6⟩ := h
  intro x hx
  rw [h5] at hx
  simp only [List.mem_cons, Option.mem_toList] at hx
  rcases hx with rfl | rfl | hx
  · exact heap_lt h1
  · exact heap_lt h2
  · exact h4.lt x hx
theorem EndC.none {w w' : World} {cb : Nat} {F : List Nat} {L : List (Key × Line)} {r : Nat} (h : CAt w cb F L r) (k : Ext w w') : EndC cb F w L r (.returned (.tuple #[])) w' :=
  ⟨rfl, F, h.ext k, Keeps.of_ext k, fun _ hx => .inl hx⟩
theorem EndC.after {w w1 w2 : World} {cb : Nat} {F : List Nat} {L : List (Key × Line)} {r : Nat} {e : Ending} (k : Ext w w1) (h : EndC cb F w1 L r e w2) : EndC cb F w L r e w2 := by
  obtain ⟨he, F', h1, h2, h3⟩ := h
  exact ⟨he, F', h1, (Keeps.of_ext k).same h2, fun x hx => (h3 x hx).elim .inl fun h => .inr (Nat.le_trans k.size h)⟩
theorem EndC.before {w w1 w2 : World} {cb : Nat} {F : List Nat} {L : List (Key × Line)} {r : Nat} {e : Ending} (h : EndC cb F w L r e w1) (k : Ext w1 w2) : EndC cb F w L r e w2 := by
  obtain ⟨he, F', h1, h2, h3⟩ := h
  exact ⟨he, F', h1.ext k, h2.ext k, h3⟩

theorem ix_look (k : Key) : ∀ (L : List (Key × Line)) (j : Nat), ixK k (keysOf L) j = match look k L j with | some (i, _) => (i : Int) | none => -1
  | [], j => rfl
  | x :: L, j => by
    have := ix_look k L (j + 1)
    simp only [keysOf, List.map_cons, ixK, look] at *
    split
    · rfl
    · rw [← this]; congr 1

/-- The order's value, as the cell has it. -/
theorem CAt.order {w : World} {cb : Nat} {F : List Nat} {L : List (Key × Line)} {r : Nat} (h : CAt w cb F L r) :
    ∃ mb a cap, w.cell? ⟨cb, 0, none⟩ = some (.map (some mb)) ∧ w.cell? ⟨cb, 1, none⟩ = some (.slice a L.length cap) ∧ w.cell? ⟨cb, 2, none⟩ = some (.int .i64 r) ∧
      Owns w 159 3 (.slice a L.length cap) (keysOf L).length (rowK (keysOf L)) ∧ L.length ≤ cap ∧ cap ≤ 9223372036854775807 ∧ cb < w.heap.size ∧ L.length ≤ r ∧ r ≤ 64 ∧ (L.length = 0 ∨ a.isSome = true) := by
  obtain ⟨mb, ov, es, clock, h1, h2, h3, h4, h5, h6, h7, h8⟩ := h
  have k4 := keysOf_length L
  obtain ⟨a, cap, rfl, hn, hm⟩ := h4.form
  refine ⟨mb, a, cap, (heap_cell h1 0).trans rfl, (heap_cell h1 1).trans (by rw [← k4]; rfl), (heap_cell h1 2).trans rfl, by rw [← k4]; rw [k4]; rw [k4] at h4; exact h4, by omega, by unfold maxLen at hm; omega, heap_lt h1, h6, h7, ?_⟩
  rcases h4.2 with ⟨_, h0⟩ | ⟨g, cap', cur, he, _⟩
  · left; omega
  · right; injection he with e1; rw [e1]; rfl

set_option maxHeartbeats 1000000 in
theorem drop_c (cb : Nat) (F : List Nat) (L : List (Key × Line)) (r : Nat) (k : Key) (w : World) (h : CAt w cb F L r) :
    Calls Try.prog 86 #[.pointer (some ⟨cb, 0, none⟩), k.val] w (EndC cb F w (delL k L) r) := by
  have HC := Lib.hid h
  obtain ⟨mb, a, cap, c0, c1, c2, ho, b1, b2, b3, b4, b5, b6⟩ := h.order
  have HO := Lib.hid ho
  have hix := ix_look k L 0
  obtain ⟨p, l, t⟩ := k
  unfold Key.val
  clear h ho b6 c0 c2
  go_enter Try.func86, Try.ntmps86
  go_upto_region 2 with (fail)
  refine wp_gen ?_; intro W hW
  have hE : Ext w W := by rw [hW]; exact (by repeat (first | exact Ext.refl _ | assumption | refine Ext.alloc ?_ _ | refine Ext.drew ?_ | refine Ext.setCell ?_ (by first | (simp; done) | (dsimp only; omega)) _ | refine Ext.trans ?_ (by assumption)))
  have HE := Lib.hid hE
  have x1 : W.cell? ⟨cb, 1, none⟩ = some (.slice a L.length cap) := by rw [hE.cell _ _ b3]; exact c1
  have x2 : W.cell? ⟨w.heap.size, 0, none⟩ = some (.int .i64 p) := (by rw [hW]; simp [go_sem, ↓IntWalk.iteOmega, *])
  have x3 : W.cell? ⟨w.heap.size, 1, none⟩ = some (.int .i64 l) := (by rw [hW]; simp [go_sem, ↓IntWalk.iteOmega, *])
  have x4 : W.cell? ⟨w.heap.size, 2, none⟩ = some (.int .u64 t) := (by rw [hW]; simp [go_sem, ↓IntWalk.iteOmega, *])
  have x5 : w.heap.size < W.heap.size := (by rw [hW]; (try simp only [World.size_alloc, World.size_setCell, World.size_drew]); omega)
  have b3' : cb < W.heap.size := by omega
  clear hW hE c1
  have HX := Aside.mk hix
  clear hix
  refine region_ext (by kernel_rfl) (by kernel_rfl) ?_; (repeat (go_big_quiet_step ((go_at_call 121; exact calls_wext (indexK_c (keysOf L) ⟨p, l, t⟩ _ _ ((HO.out.ext HE.out).ext (wext_ext _ _))))))); refine wpQuiet_nil ?_; intro w1 hb; have ⟨hc, hf, hh, hs⟩ := hb.facts; try simp only [World.size_alloc, World.size_setCell, World.size_drew] at hs
  have HB := Lib.hid hb
  clear hb hc hf hh
  cases hl : look ⟨p, l, t⟩ L 0 with
  | none =>
    have hi : ixK ⟨p, l, t⟩ (keysOf L) 0 = -1 := by have := HX.out; rw [hl] at this; exact this
    go_wp2
    refine ⟨rfl, .tuple #[], (by simp [results, Try.results86, go_sem]), ?_⟩
    rw [show delL ⟨p, l, t⟩ L = L by unfold delL; rw [hl]]
    exact EndC.none HC.out (HE.out.trans HB.out)
  | some y =>
    obtain ⟨i, y⟩ := y
    have hi : ixK ⟨p, l, t⟩ (keysOf L) 0 = (i : Int) := by have := HX.out; rw [hl] at this; exact this
    have hlt : i < L.length := (List.getElem?_eq_some_iff.1 (look_some hl).2.1).1
    go_wp2_with (first | (go_at_call 122; refine (cut_c cb F L r i _ ((HC.out.ext HE.out).ext HB.out) hlt).mono ?_; rintro e w2 ⟨rfl, hC2⟩))
    refine ⟨rfl, .tuple #[], (by simp [results, Try.results86, go_sem]), ?_⟩
    rw [show delL ⟨p, l, t⟩ L = L.eraseIdx i by unfold delL; rw [hl]]
    exact EndC.after (HE.out.trans HB.out) ⟨rfl, hC2⟩

/-- the place that is picked -/
def pickI (pick n : Int) : Int := pick % n
def evictL (pick : Int) (L : List (Key × Line)) : List (Key × Line) := if L.length = 0 then L else L.eraseIdx (pickI pick L.length).toNat
theorem tmod_mod (a n : Int) : a.tmod n % n = a % n := by
  rw [Int.tmod_def, Int.sub_mul_emod_self_left]

set_option maxHeartbeats 1000000 in
theorem evict_c (cb : Nat) (F : List Nat) (L : List (Key × Line)) (r : Nat) (pick : Int) (w : World) (h : CAt w cb F L r) (hp0 : -9223372036854775808 ≤ pick) (hp1 : pick ≤ 9223372036854775807) :
    Calls Try.prog 97 #[.pointer (some ⟨cb, 0, none⟩), .int .i64 pick] w (EndC cb F w (evictL pick L) r) := by
  have HC := Lib.hid h
  obtain ⟨mb, a, cap, c0, c1, c2, ho, b1, b2, b3, b4, b5, b6⟩ := h.order
  clear h ho b6 c0 c2
  by_cases h0 : L.length = 0
  · go_enter Try.func97, Try.ntmps97
    have hz : ((L.length : Nat) : Int) = 0 := by omega
    go_wp2
    all_goals
      refine ⟨rfl, .tuple #[], (by simp [results, Try.results97, go_sem]), ?_⟩
      rw [show evictL pick L = L by unfold evictL; rw [if_pos h0]]
      exact EndC.none HC.out (by repeat (first | exact Ext.refl _ | assumption | refine Ext.alloc ?_ _ | refine Ext.drew ?_ | refine Ext.setCell ?_ (by first | (simp; done) | (dsimp only; omega)) _ | refine Ext.trans ?_ (by assumption)))
  · go_enter Try.func97, Try.ntmps97
    have hz : (((L.length : Nat) : Int) == 0) = false := by simp; simpa using h0
    have h1 : -(L.length : Int) < pick.tmod L.length := Int.lt_tmod_of_pos pick (by omega)
    have h2 : pick.tmod L.length < L.length := Int.tmod_lt_of_pos pick (by omega)
    have hnz : ¬ ((L.length : Int) = 0) := by omega
    have e1 : 0 ≤ pickI pick L.length := Int.emod_nonneg _ hnz
    have e2 : pickI pick L.length < L.length := Int.emod_lt_of_pos _ (by omega)
    have hq : pick.tmod L.length % L.length = ((pickI pick L.length).toNat : Int) := by rw [tmod_mod]; unfold pickI at *; omega
    have hlt : (pickI pick L.length).toNat < L.length := by omega
    have he : evictL pick L = L.eraseIdx (pickI pick L.length).toNat := by unfold evictL; rw [if_neg h0]
    generalize (pickI pick L.length).toNat = q at hq hlt he
    clear e1 e2
    have HQ := Aside.mk he
    clear he
    go_wp2_with (first | (go_at_call 122; refine (cut_c cb F L r q _ (HC.out.ext (by repeat (first | exact Ext.refl _ | assumption | refine Ext.alloc ?_ _ | refine Ext.drew ?_ | refine Ext.setCell ?_ (by first | (simp; done) | (dsimp only; omega)) _ | refine Ext.trans ?_ (by assumption)))) hlt).mono ?_; rintro e w2 ⟨rfl, hC2⟩))
    all_goals
      refine ⟨rfl, .tuple #[], (by simp [results, Try.results97, go_sem]), ?_⟩
      rw [HQ.out]
      exact ⟨rfl, hC2⟩
end Go.Proofs.Ytfaekfdngkpkdaa
/- Caches: Get, Room, Keys, Clear, New; of nil. -/
namespace Go.Proofs.Ytfaekfdngkpkdaa
set_option linter.unusedVariables false
set_option linter.unusedSimpArgs false
open Go.RowKit
attribute [local go_sem] wext_cell wext_frozen wext_heap alloc_cell alloc_frozen alloc_heap setCell_cell objCell_cells objFrozen_cells
attribute [local go_sem high] key_eql

def noLine : Line := ⟨0, false, false, false, false, 0⟩
def getLine (k : Key) (L : List (Key × Line)) : Line := match look k L 0 with | some x => x.2 | none => noLine
def hasK (k : Key) (L : List (Key × Line)) : Bool := (look k L 0).isSome

/-- The map's block. -/
theorem CAt.mapAt {w : World} {cb : Nat} {F : List Nat} {L : List (Key × Line)} {r : Nat} (h : CAt w cb F L r) :
    ∃ mb es clock, w.cell? ⟨cb, 0, none⟩ = some (.map (some mb)) ∧ w.heap[mb]? = some (.map es clock) ∧ EntOk es L ∧ cb < w.heap.size ∧ mb < w.heap.size := by
  obtain ⟨mb, ov, es, clock, h1, h2, h3, h4, h5, h6, h7, h8⟩ := h
  exact ⟨mb, es, clock, (heap_cell h1 0).trans rfl, h2, h3, heap_lt h1, heap_lt h2⟩

set_option maxHeartbeats 1000000 in
theorem get_c (cb : Nat) (F : List Nat) (L : List (Key × Line)) (r : Nat) (k : Key) (w : World) (h : CAt w cb F L r) :
    Calls Try.prog 81 #[.pointer (some ⟨cb, 0, none⟩), k.val] w fun e w' => e = .returned (.tuple #[(getLine k L).val, .bool (hasK k L)]) ∧ Ext w w' := by
  obtain ⟨mb, es, clock, c0, m0, hent, b1, b2⟩ := h.mapAt
  have hlk : ∀ w2, Ext w w2 → (Instr.lookup 202 (.map (some mb)) k.val true).run Try.prog w2 = .ok (.tuple #[(getLine k L).val, .bool (hasK k L)]) w2 := fun w2 hx =>
    lookup_run k w2 mb es clock L (by rw [hx.block _ b2]; exact m0) hent
  obtain ⟨p, l, t⟩ := k
  generalize getLine ⟨p, l, t⟩ L = z at hlk ⊢
  generalize hasK ⟨p, l, t⟩ L = q at hlk ⊢
  obtain ⟨zf, za, zb, zc, zd, zm⟩ := z
  unfold Key.val Line.val at *
  have HL := Lib.hid hlk
  clear h hent m0 hlk
  go_enter Try.func81, Try.ntmps81
  go_upto_region 3 with (fail)
  refine wp_gen ?_; intro W hW
  have hE : Ext w W := by rw [hW]; exact (by repeat (first | exact Ext.refl _ | assumption | refine Ext.alloc ?_ _ | refine Ext.drew ?_ | refine Ext.setCell ?_ (by first | (simp; done) | (dsimp only; omega)) _ | refine Ext.trans ?_ (by assumption)))
  have HX := Lib.hid hE
  have hl2 : ∀ d, (Instr.lookup 202 (.map (some mb)) (.agg #[.int .i64 p, .int .i64 l, .int .u64 t]) true).run Try.prog (wext W d) =
      .ok (.tuple #[.agg #[.int .u64 zf, .bool za, .bool zb, .bool zc, .bool zd, .int .u8 zm], .bool q]) (wext W d) := fun d => HL.out _ (HX.out.trans (wext_ext W d))
  have x1 : W.cell? ⟨cb, 0, none⟩ = some (.map (some mb)) := by rw [hE.cell _ _ b1]; exact c0
  have x2 : W.cell? ⟨w.heap.size, 0, none⟩ = some (.int .i64 p) := (by rw [hW]; simp [go_sem, ↓IntWalk.iteOmega, *])
  have x3 : W.cell? ⟨w.heap.size, 1, none⟩ = some (.int .i64 l) := (by rw [hW]; simp [go_sem, ↓IntWalk.iteOmega, *])
  have x4 : W.cell? ⟨w.heap.size, 2, none⟩ = some (.int .u64 t) := (by rw [hW]; simp [go_sem, ↓IntWalk.iteOmega, *])
  have x5 : w.heap.size + 1 < W.heap.size := (by rw [hW]; (try simp only [World.size_alloc, World.size_setCell, World.size_drew]); omega)
  have n0 : W.heap[w.heap.size + 1]? = some (.cells #[.int .u64 0, .bool false, .bool false, .bool false, .bool false, .int .u8 0] 153 (0, 0)) := by rw [hW]; exact alloc_same1 ..
  have N0 := Lib.hid n0
  clear n0
  have x6 := hE.size
  clear hW hE c0
  refine region_mix [.q [0, 1, 2, 3, 4, 5, 6, 7], .b [8], .l 9 3, .l 10 2, .q [11]] (by kernel_rfl) (by kernel_rfl) ?_
  (try refine ⟨fun h => absurd h (by simp), ?_⟩); (repeat (unfold wpPlan; simp only [pickL, List.map_cons, List.map_nil, List.getD_cons_succ, List.getD_cons_zero]; (repeat go_big_quiet_step (fail)); refine wpQuiet_nil ?_)); unfold wpPlan; intro w1 hb1; (try simp only [pickL, List.map_cons, List.map_nil, List.getD_cons_succ, List.getD_cons_zero])
  have HB1 := Lib.hid hb1
  have s1 := hb1.size
  clear hb1
  go_wp2
  refine ⟨(by repeat (first | exact Ext.refl _ | assumption | refine Ext.alloc ?_ _ | refine Ext.drew ?_ | refine Ext.setCell ?_ (by first | (simp; done) | (dsimp only; omega)) _ | refine Ext.trans ?_ (by assumption))), ?_⟩
  (try refine ⟨fun h => absurd h (by simp), ?_⟩); (repeat (unfold wpPlan; simp only [pickL, List.map_cons, List.map_nil, List.getD_cons_succ, List.getD_cons_zero]; (repeat go_big_quiet_step (fail)); refine wpQuiet_nil ?_)); unfold wpPlan; intro w2 hb2; (try simp only [pickL, List.map_cons, List.map_nil, List.getD_cons_succ, List.getD_cons_zero])
  have s2 := hb2.size
  rw [World.size_alloc] at s2
  have m2 := (hb2.block w1.heap.size (by simp)).trans (alloc_same w1 _)
  have n2 := (hb2.block (w.heap.size + 1) (by simp; omega)).trans ((alloc_other w1 _ (by omega)).trans ((HB1.out.block _ x5).trans N0.out))
  have N2 := Lib.hid n2
  have M2 := Lib.hid m2
  have y0 := (heap_cell m2 0).trans rfl
  have y1 := (heap_cell m2 1).trans rfl
  have y2 := (heap_cell m2 2).trans rfl
  have y3 := (heap_cell m2 3).trans rfl
  have y4 := (heap_cell m2 4).trans rfl
  have y5 := (heap_cell m2 5).trans rfl
  have y6 : ∀ o, w2.frozen? ⟨w1.heap.size, o, none⟩ = false := fun o => by rw [frozen_heap, m2]; simp [objFrozen]
  have HB2 := Lib.hid hb2
  clear hb2 m2 n2
  go_wp2
  (try refine ⟨fun h => absurd h (by simp), ?_⟩); (repeat (unfold wpPlan; simp only [pickL, List.map_cons, List.map_nil, List.getD_cons_succ, List.getD_cons_zero]; (repeat go_big_quiet_step (fail)); refine wpQuiet_nil ?_)); unfold wpPlan; intro w3 hb3; (try simp only [pickL, List.map_cons, List.map_nil, List.getD_cons_succ, List.getD_cons_zero])
  have s3 := hb3.size
  simp only [World.size_setCell] at s3
  have m3 := (hb3.block w1.heap.size (by simp only [World.size_setCell]; omega)).trans (store6_heap M2.out)
  have n3 := (hb3.block (w.heap.size + 1) (by simp only [World.size_setCell]; omega)).trans ((store6_other (by omega)).trans N2.out)
  have N3 := Lib.hid n3
  have E3 : Ext w w3 := (HX.out.trans HB1.out).trans ((ext6 ((Ext.refl w1).alloc _ |>.trans HB2.out) (Nat.le_refl _)).trans hb3)
  clear y0 y1 y2 y3 y4 y5 y6 x1 x2 x3 x4 hl2
  have y0 := (heap_cell m3 0).trans rfl
  have y1 := (heap_cell m3 1).trans rfl
  have y2 := (heap_cell m3 2).trans rfl
  have y3 := (heap_cell m3 3).trans rfl
  have y4 := (heap_cell m3 4).trans rfl
  have y5 := (heap_cell m3 5).trans rfl
  have z0 := (heap_cell n3 0).trans rfl
  have z1 := (heap_cell n3 1).trans rfl
  have z2 := (heap_cell n3 2).trans rfl
  have z3 := (heap_cell n3 3).trans rfl
  have z4 := (heap_cell n3 4).trans rfl
  have z5 := (heap_cell n3 5).trans rfl
  have z6 : ∀ o, w3.frozen? ⟨w.heap.size + 1, o, none⟩ = false := fun o => by rw [frozen_heap, n3]; simp [objFrozen]
  clear m3 n3 hb3
  go_wp2
  refine post_gen (fun V => V.heap[w.heap.size + 1]? = some (.cells #[.int .u64 zf, .bool za, .bool zb, .bool zc, .bool zd, .int .u8 zm] 153 (0, 0)) ∧ Ext w V) ⟨store6_heap N3.out, ext6 E3 (by omega)⟩ ?_
  rintro V ⟨m5, E5⟩
  have v0 := (heap_cell m5 0).trans rfl
  have v1 := (heap_cell m5 1).trans rfl
  have v2 := (heap_cell m5 2).trans rfl
  have v3 := (heap_cell m5 3).trans rfl
  have v4 := (heap_cell m5 4).trans rfl
  have v5 := (heap_cell m5 5).trans rfl
  clear m5
  refine bodyPost_ret (by simp [results, Try.results81, go_sem, ↓IntWalk.iteOmega, *]; try rfl) rfl ⟨rfl, E5⟩
end Go.Proofs.Ytfaekfdngkpkdaa
/- Caches: Room, Keys, Clear, New; of nil. -/
namespace Go.Proofs.Ytfaekfdngkpkdaa
set_option linter.unusedVariables false
set_option linter.unusedSimpArgs false
open Go.RowKit
attribute [local go_sem] wext_cell wext_frozen wext_heap alloc_cell alloc_frozen alloc_heap setCell_cell objCell_cells objFrozen_cells
attribute [local go_sem high] key_eql

theorem keys_c (cb : Nat) (F : List Nat) (L : List (Key × Line)) (r : Nat) (w : World) (h : CAt w cb F L r) :
    Calls Try.prog 85 #[.pointer (some ⟨cb, 0, none⟩)] w (EndKeys w (keysOf L)) := by
  obtain ⟨mb, a, cap, c0, c1, c2, ho, b1, b2, b3, b4, b5, b6⟩ := h.order
  have HO := Lib.hid ho
  have k4 := keysOf_length L
  have hl : (keysOf L).length ≤ 1000 := by omega
  clear h ho c0 c2 b6
  go_enter Try.func85, Try.ntmps85
  go_wp2_with (first | (go_at_call 120; refine (cloneK_c (keysOf L) _ _ (HO.out.ext (by repeat (first | exact Ext.refl _ | assumption | refine Ext.alloc ?_ _ | refine Ext.drew ?_ | refine Ext.setCell ?_ (by first | (simp; done) | (dsimp only; omega)) _ | refine Ext.trans ?_ (by assumption)))) hl).mono ?_; rintro e w1 ⟨v, rfl, q1, q2, q3⟩))
  all_goals
    go_ret
    exact ⟨v, rfl, q1, q2, q3⟩

def clampR (room : Int) : Nat := if room < 0 then 0 else if 64 < room then 64 else room.toNat
theorem clampR_le (r : Int) : clampR r ≤ 64 := by
  unfold clampR
  split
  · omega
  · split <;> omega
def EndNew (room : Int) (w : World) (e : Ending) (w' : World) : Prop :=
  ∃ cb F, e = .returned (.pointer (some ⟨cb, 0, none⟩)) ∧ CAt w' cb F [] (clampR room) ∧ Ext w w' ∧ ∀ x ∈ F, w.heap.size ≤ x
theorem new_c (room : Int) (w : World) (h0 : -9223372036854775808 ≤ room) (h1 : room ≤ 9223372036854775807) :
    Calls Try.prog 83 #[.int .i64 room] w (EndNew room w) := by
  have hmk : ∀ w, (Instr.makeMap 202 none).run Try.prog w = .ok (.map (some w.heap.size)) (w.alloc (.map #[] 0)) := fun _ => rfl
  go_enter Try.func83, Try.ntmps83
  go_wp2
  all_goals
    go_ret
    refine ⟨w.heap.size + 1, [w.heap.size + 1, w.heap.size], rfl, ⟨w.heap.size, .slice none 0 0, #[], 0, ?_, ?_, rfl, Owns.nil .., rfl, Nat.zero_le _, clampR_le _, List.nodup_nil⟩, (by repeat (first | exact Ext.refl _ | assumption | refine Ext.alloc ?_ _ | refine Ext.drew ?_ | refine Ext.setCell ?_ (by first | (simp; done) | (dsimp only; omega)) _ | refine Ext.trans ?_ (by assumption))), by simp⟩
    · rw [alloc_same1]
      unfold clampR
      first | (rw [if_pos (by omega)]; rfl) | (rw [if_neg (by omega), if_pos (by omega)]; rfl) | (rw [if_neg (by omega), if_neg (by omega), Int.toNat_of_nonneg (by omega)])
    · rw [alloc_other _ _ (by simp), alloc_same]

theorem clear_run (w : World) (mb : Nat) (es : Array MapEntry) (clock : Nat) (hb : w.heap[mb]? = some (.map es clock)) (ty : TypeId) :
    (Builtin.clear_ #[202] ty #[.map (some mb)]).run Try.prog w = .ok (.tuple #[]) (putBlk w mb (.map #[] clock)) := by
  simp [Builtin.clear_, run_underlying Try.underlying202, getObj_at hb, setObj_at _ hb]

theorem clear_c (cb : Nat) (F : List Nat) (L : List (Key × Line)) (r : Nat) (w : World) (h : CAt w cb F L r) :
    Calls Try.prog 98 #[.pointer (some ⟨cb, 0, none⟩)] w (EndC cb F w [] r) := by
  obtain ⟨mb, ov, es, clock, h1, h2, h3, h4, h5, h6, h7, h8⟩ := h
  obtain ⟨a, cap, rfl, hn, hm⟩ := h4.form
  have c0 := (heap_cell h1 0).trans rfl
  have hcl := clear_run w mb es clock h2
  have hmc : mb ≠ cb := fun e => by have := h1; rw [← e, h2] at this; cases this
  have m1 := (putBlk_heap w mb cb (.map #[] clock) hmc).trans h1
  have m2 := putBlk_same w mb (.map #[] clock) (heap_lt h2)
  have x1 := (heap_cell m1 1).trans rfl
  have x2 : (putBlk w mb (.map #[] clock)).frozen? ⟨cb, 1, none⟩ = false := by rw [frozen_heap, m1]; rfl
  have M1 := Lib.hid m1
  have M2 := Lib.hid m2
  have H5 := Lib.hid h5
  have K : Keeps F w (putBlk w mb (.map #[] clock)) := (Keeps.refl F w).put (.inl (by rw [h5]; simp)) _
  have y1 := setCell_heap_same (i := 1) (v := .slice none 0 0) m1
  have Y1 := Lib.hid y1
  have lt1 := heap_lt h1
  clear h1 h2 h3 h4 h5 h6 h8 hn hm m1 m2 y1
  go_enter Try.func98, Try.ntmps98
  go_wp2
  refine ⟨rfl, .tuple #[], (by simp [results, Try.results98, go_sem]), ?_⟩
  exact ⟨rfl, [cb, mb], ⟨mb, .slice none 0 0, #[], clock, Y1.out, (setCell_heap _ _ _ _ _ (Ne.symm hmc)).trans M2.out, rfl, Owns.nil .., rfl, Nat.zero_le _, h7, List.nodup_nil⟩,
    K.setCell (.inl (by rw [H5.out]; simp)) _, fun x hx => .inl (by rw [H5.out]; simp at hx; rcases hx with rfl | rfl <;> simp)⟩

/-! ### of nil -/
theorem nil_put (k : Key) (x : Line) (pick : Int) (w : World) : Calls Try.prog 84 #[.pointer none, k.val, x.val, .int .i64 pick] w fun e w' => e = .returned (.tuple #[]) ∧ Ext w w' := by
  obtain ⟨p, l, t⟩ := k
  obtain ⟨zf, za, zb, zc, zd, zm⟩ := x
  unfold Key.val Line.val
  go_enter Try.func84, Try.ntmps84
  go_wp2
  refine ⟨rfl, .tuple #[], (by simp [results, Try.results84, go_sem]), ?_⟩
  exact ⟨rfl, (by repeat (first | exact Ext.refl _ | assumption | refine Ext.alloc ?_ _ | refine Ext.drew ?_ | refine Ext.setCell ?_ (by first | (simp; done) | (dsimp only; omega)) _ | refine Ext.trans ?_ (by assumption)))⟩
theorem nil_drop (k : Key) (w : World) : Calls Try.prog 86 #[.pointer none, k.val] w fun e w' => e = .returned (.tuple #[]) ∧ Ext w w' := by
  obtain ⟨p, l, t⟩ := k
  unfold Key.val
  go_enter Try.func86, Try.ntmps86
  go_wp2
  refine ⟨rfl, .tuple #[], (by simp [results, Try.results86, go_sem]), ?_⟩
  exact ⟨rfl, (by repeat (first | exact Ext.refl _ | assumption | refine Ext.alloc ?_ _ | refine Ext.drew ?_ | refine Ext.setCell ?_ (by first | (simp; done) | (dsimp only; omega)) _ | refine Ext.trans ?_ (by assumption)))⟩
theorem nil_keys (w : World) : Calls Try.prog 85 #[.pointer none] w fun e w' => e = .returned (.slice none 0 0) ∧ Ext w w' := by
  go_enter Try.func85, Try.ntmps85
  go_wp2
  go_ret
  exact ⟨rfl, (by repeat (first | exact Ext.refl _ | assumption | refine Ext.alloc ?_ _ | refine Ext.drew ?_ | refine Ext.setCell ?_ (by first | (simp; done) | (dsimp only; omega)) _ | refine Ext.trans ?_ (by assumption)))⟩
theorem nil_clear (w : World) : Calls Try.prog 98 #[.pointer none] w fun e w' => e = .returned (.tuple #[]) ∧ Ext w w' := by
  go_enter Try.func98, Try.ntmps98
  go_wp2
  refine ⟨rfl, .tuple #[], (by simp [results, Try.results98, go_sem]), ?_⟩
  exact ⟨rfl, (by repeat (first | exact Ext.refl _ | assumption | refine Ext.alloc ?_ _ | refine Ext.drew ?_ | refine Ext.setCell ?_ (by first | (simp; done) | (dsimp only; omega)) _ | refine Ext.trans ?_ (by assumption)))⟩
theorem nil_evict (pick : Int) (w : World) : Calls Try.prog 97 #[.pointer none, .int .i64 pick] w fun e w' => e = .returned (.tuple #[]) ∧ Ext w w' := by
  go_enter Try.func97, Try.ntmps97
  go_wp2
  refine ⟨rfl, .tuple #[], (by simp [results, Try.results97, go_sem]), ?_⟩
  exact ⟨rfl, (by repeat (first | exact Ext.refl _ | assumption | refine Ext.alloc ?_ _ | refine Ext.drew ?_ | refine Ext.setCell ?_ (by first | (simp; done) | (dsimp only; omega)) _ | refine Ext.trans ?_ (by assumption)))⟩
theorem nil_get (k : Key) (w : World) : Calls Try.prog 81 #[.pointer none, k.val] w fun e w' => e = .returned (.tuple #[noLine.val, .bool false]) ∧ Ext w w' := by
  obtain ⟨p, l, t⟩ := k
  unfold Key.val
  go_enter Try.func81, Try.ntmps81
  go_wp2
  refine bodyPost_ret (by simp [results, Try.results81, go_sem, ↓IntWalk.iteOmega, *]; try rfl) rfl ⟨rfl, (by repeat (first | exact Ext.refl _ | assumption | refine Ext.alloc ?_ _ | refine Ext.drew ?_ | refine Ext.setCell ?_ (by first | (simp; done) | (dsimp only; omega)) _ | refine Ext.trans ?_ (by assumption)))⟩
end Go.Proofs.Ytfaekfdngkpkdaa
/- Caches: Put. -/
namespace Go.Proofs.Ytfaekfdngkpkdaa
set_option linter.unusedVariables false
set_option linter.unusedSimpArgs false
open Go.RowKit
attribute [local go_sem] wext_cell wext_frozen wext_heap alloc_cell alloc_frozen alloc_heap setCell_cell objCell_cells objFrozen_cells
attribute [local go_sem high] key_eql

def putC (k : Key) (x : Line) (pick : Int) (r : Nat) (L : List (Key × Line)) : List (Key × Line) :=
  if r = 0 then L else if hasK k L = true then putL k x L else (if L.length < r then L else evictL pick L) ++ [(k, x)]

/-- Between the order's store and the map's. -/
def PAt (w : World) (cb : Nat) (F : List Nat) (L' L : List (Key × Line)) (r : Nat) : Prop :=
  ∃ mb ov es clock, w.heap[cb]? = some (.cells #[.map (some mb), ov, .int .i64 r] 204 (0, 0)) ∧ w.heap[mb]? = some (.map es clock) ∧ EntOk es L ∧
    Owns w 159 3 ov (keysOf L').length (rowK (keysOf L')) ∧ F = cb :: mb :: ov.ownBlock.toList ∧ L'.length ≤ r ∧ r ≤ 64 ∧ (keysOf L').Nodup

theorem keysOf_putL {k : Key} {x : Line} {L : List (Key × Line)} (h : hasK k L = true) : keysOf (putL k x L) = keysOf L := by
  unfold putL
  unfold hasK at h
  cases hl : look k L 0 with
  | none => rw [hl] at h; cases h
  | some y =>
    obtain ⟨i, y⟩ := y
    have := (look_some hl).2.1
    simp only [Nat.sub_zero] at this
    simp only [keysOf, List.map_set]
    apply List.ext_getElem?
    intro j
    rw [List.getElem?_set]
    split
    · rename_i hij
      subst hij
      have h2 := (List.getElem?_eq_some_iff.1 this)
      simp [h2.1, h2.2]
    · rfl
theorem putL_new {k : Key} {x : Line} {L : List (Key × Line)} (h : hasK k L = false) : putL k x L = L ++ [(k, x)] := by
  unfold putL
  unfold hasK at h
  cases hl : look k L 0 with
  | none => rfl
  | some y => rw [hl] at h; cases h
theorem hasK_iff {k : Key} {L : List (Key × Line)} : hasK k L = true ↔ k ∈ keysOf L := by
  unfold hasK
  cases hl : look k L 0 with
  | none =>
    simp only [Option.isSome_none, Bool.false_eq_true, false_iff]
    intro hm
    obtain ⟨y, hy, he⟩ := List.mem_map.1 hm
    exact look_none hl y hy he
  | some y =>
    simp only [Option.isSome_some, true_iff]
    exact List.mem_map.2 ⟨_, List.mem_of_getElem? (look_some hl).2.1, rfl⟩
theorem evictL_sub {pick : Int} {L : List (Key × Line)} : (evictL pick L).Sublist L := by
  unfold evictL
  split
  · exact List.Sublist.refl _
  · exact List.eraseIdx_sublist ..
theorem hasK_sub {k : Key} {L L' : List (Key × Line)} (hs : L'.Sublist L) (h : hasK k L = false) : hasK k L' = false := by
  cases hh : hasK k L' with
  | false => rfl
  | true =>
    have := hasK_iff.1 hh
    rw [hasK_iff.2 ((hs.map (·.1)).subset this)] at h
    cases h
theorem evictL_length {pick : Int} {L : List (Key × Line)} (h : 0 < L.length) : (evictL pick L).length = L.length - 1 := by
  unfold evictL
  rw [if_neg (by omega), List.length_eraseIdx, if_pos]
  have := Int.emod_nonneg pick (b := (L.length : Int)) (by omega)
  have := Int.emod_lt_of_pos pick (b := (L.length : Int)) (by omega)
  unfold pickI
  omega

set_option maxHeartbeats 2000000 in
theorem put_c (cb : Nat) (F : List Nat) (L : List (Key × Line)) (r : Nat) (k : Key) (x : Line) (pick : Int) (w : World) (h : CAt w cb F L r) (hp0 : -9223372036854775808 ≤ pick) (hp1 : pick ≤ 9223372036854775807) :
    Calls Try.prog 84 #[.pointer (some ⟨cb, 0, none⟩), k.val, x.val, .int .i64 pick] w (EndC cb F w (putC k x pick r L) r) := by
  have HC := Lib.hid h
  obtain ⟨mb, es, clock, c0, m0, hent, b1, b2⟩ := h.mapAt
  obtain ⟨-, -, -, -, -, c2, -, -, -, -, b4, b5, -⟩ := h.order
  have hlk : ∀ w2, Ext w w2 → (Instr.lookup 202 (.map (some mb)) k.val true).run Try.prog w2 = .ok (.tuple #[(getLine k L).val, .bool (hasK k L)]) w2 := fun w2 hx =>
    lookup_run k w2 mb es clock L (by rw [hx.block _ b2]; exact m0) hent
  obtain ⟨p, l, t⟩ := k
  obtain ⟨xf, xa, xb, xc, xd, xm⟩ := x
  generalize getLine ⟨p, l, t⟩ L = z at hlk
  generalize hq : hasK ⟨p, l, t⟩ L = q at hlk
  obtain ⟨zf, za, zb, zc, zd, zm⟩ := z
  generalize hL' : putC ⟨p, l, t⟩ ⟨xf, xa, xb, xc, xd, xm⟩ pick r L = L'
  unfold Key.val Line.val at *
  have HL := Lib.hid hlk
  have HQ := Aside.mk hq
  have HP := Aside.mk hL'
  clear h hent m0 hlk hq hL'
  by_cases hr : r = 0
  · subst hr
    go_enter Try.func84, Try.ntmps84
    go_wp2
    all_goals
      refine ⟨rfl, .tuple #[], (by simp [results, Try.results84, go_sem]), ?_⟩
      have : L' = L := by rw [← HP.out]; simp [putC]
      rw [this]
      exact EndC.none HC.out (by repeat (first | exact Ext.refl _ | assumption | refine Ext.alloc ?_ _ | refine Ext.drew ?_ | refine Ext.setCell ?_ (by first | (simp; done) | (dsimp only; omega)) _ | refine Ext.trans ?_ (by assumption)))
  have hr1 : ((r : Int) == 0) = false := by simpa using hr
  go_enter Try.func84, Try.ntmps84
  go_upto_region 2 with (fail)
  refine wp_gen ?_; intro W hW
  have hE : Ext w W := by rw [hW]; exact (by repeat (first | exact Ext.refl _ | assumption | refine Ext.alloc ?_ _ | refine Ext.drew ?_ | refine Ext.setCell ?_ (by first | (simp; done) | (dsimp only; omega)) _ | refine Ext.trans ?_ (by assumption)))
  have HX := Lib.hid hE
  have hl2 : ∀ d, (Instr.lookup 202 (.map (some mb)) (.agg #[.int .i64 p, .int .i64 l, .int .u64 t]) true).run Try.prog (wext W d) =
      .ok (.tuple #[.agg #[.int .u64 zf, .bool za, .bool zb, .bool zc, .bool zd, .int .u8 zm], .bool q]) (wext W d) := fun d => HL.out _ (HX.out.trans (wext_ext W d))
  have x1 : W.cell? ⟨cb, 0, none⟩ = some (.map (some mb)) := by rw [hE.cell _ _ b1]; exact c0
  have n0 : W.heap[w.heap.size]? = some (.cells #[.int .i64 p, .int .i64 l, .int .u64 t] 159 (0, 0)) := by rw [hW]; exact (alloc_other _ _ (by simp)).trans (alloc_same ..)
  have n1 : W.heap[w.heap.size + 1]? = some (.cells #[.int .u64 xf, .bool xa, .bool xb, .bool xc, .bool xd, .int .u8 xm] 153 (0, 0)) := by rw [hW]; exact alloc_same1 ..
  have N0 := Lib.hid n0
  have N1 := Lib.hid n1
  have x2 := (heap_cell n0 0).trans rfl
  have x3 := (heap_cell n0 1).trans rfl
  have x4 := (heap_cell n0 2).trans rfl
  have x5 : w.heap.size + 1 < W.heap.size := (by rw [hW]; (try simp only [World.size_alloc, World.size_setCell, World.size_drew]); omega)
  have x6 := hE.size
  clear hW hE c0 n0 n1
  refine region_mix [.q [0, 1, 2, 3, 4, 5, 6, 7], .b [8], .l 9 3, .l 10 2, .q [11]] (by kernel_rfl) (by kernel_rfl) ?_
  (try refine ⟨fun h => absurd h (by simp), ?_⟩); (repeat (unfold wpPlan; simp only [pickL, List.map_cons, List.map_nil, List.getD_cons_succ, List.getD_cons_zero]; (repeat go_big_quiet_step (fail)); refine wpQuiet_nil ?_)); unfold wpPlan; intro w1 hb1; (try simp only [pickL, List.map_cons, List.map_nil, List.getD_cons_succ, List.getD_cons_zero])
  have HB1 := Lib.hid hb1
  have s1 := hb1.size
  clear hb1
  go_wp2
  refine ⟨(by repeat (first | exact Ext.refl _ | assumption | refine Ext.alloc ?_ _ | refine Ext.drew ?_ | refine Ext.setCell ?_ (by first | (simp; done) | (dsimp only; omega)) _ | refine Ext.trans ?_ (by assumption))), ?_⟩
  (try refine ⟨fun h => absurd h (by simp), ?_⟩); (repeat (unfold wpPlan; simp only [pickL, List.map_cons, List.map_nil, List.getD_cons_succ, List.getD_cons_zero]; (repeat go_big_quiet_step (fail)); refine wpQuiet_nil ?_)); unfold wpPlan; intro w2 hb2; (try simp only [pickL, List.map_cons, List.map_nil, List.getD_cons_succ, List.getD_cons_zero])
  have s2 := hb2.size
  rw [World.size_alloc] at s2
  have m2 := (hb2.block w1.heap.size (by simp)).trans (alloc_same w1 _)
  have y0 := (heap_cell m2 0).trans rfl
  have y1 := (heap_cell m2 1).trans rfl
  have y2 := (heap_cell m2 2).trans rfl
  have y3 := (heap_cell m2 3).trans rfl
  have y4 := (heap_cell m2 4).trans rfl
  have y5 := (heap_cell m2 5).trans rfl
  have y6 : ∀ o, w2.frozen? ⟨w1.heap.size, o, none⟩ = false := fun o => by rw [frozen_heap, m2]; simp [objFrozen]
  have HB2 := Lib.hid hb2
  clear hb2 m2
  go_wp2
  (try refine ⟨fun h => absurd h (by simp), ?_⟩); (repeat (unfold wpPlan; simp only [pickL, List.map_cons, List.map_nil, List.getD_cons_succ, List.getD_cons_zero]; (repeat go_big_quiet_step (fail)); refine wpQuiet_nil ?_)); unfold wpPlan; intro w3 hb3; (try simp only [pickL, List.map_cons, List.map_nil, List.getD_cons_succ, List.getD_cons_zero])
  have E3 : Ext W w3 := HB1.out.trans ((ext6 ((Ext.refl w1).alloc _ |>.trans HB2.out) (Nat.le_refl _)).trans hb3)
  have H3 := Lib.hid E3
  clear y0 y1 y2 y3 y4 y5 y6 x1 x2 x3 x4 hl2 HB1 HB2 hb3 E3
  go_upto_if 29 with (fail)
  go_cut [] (fun wx => ∃ F' L6, Hid (PAt wx cb F' L' L6 r ∧ putL ⟨p, l, t⟩ ⟨xf, xa, xb, xc, xd, xm⟩ L6 = L' ∧ Keeps F w wx ∧ (∀ y ∈ F', y ∈ F ∨ w.heap.size ≤ y) ∧
    wx.heap[w.heap.size]? = W.heap[w.heap.size]? ∧ wx.heap[w.heap.size + 1]? = W.heap[w.heap.size + 1]?))
  case first =>
    have x7 := (H3.out.size)
    have n0 := (H3.out.block w.heap.size (by omega)).trans N0.out
    have n1 := (H3.out.block (w.heap.size + 1) (by omega)).trans N1.out
    have k0 := (heap_cell n0 0).trans rfl
    have k1 := (heap_cell n0 1).trans rfl
    have k2 := (heap_cell n0 2).trans rfl
    have A0 := Lib.hid n0
    have A1 := Lib.hid n1
    have C3 := Lib.hid (HC.out.ext (HX.out.trans H3.out))
    obtain ⟨mb3, a3, cap3, -, d1, d2, ho3, e1, e2, e3, e4, e5, e6⟩ := C3.out.order
    have e7 := heap_lt n1
    clear n0 n1 e6 ho3 c2
    cases q with
    | true =>
      go_wp2
      go_meet
      refine ⟨F, L, ⟨?_, ?_, Keeps.of_ext (HX.out.trans H3.out), fun y hy => .inl hy, H3.out.block _ (by omega), H3.out.block _ (by omega)⟩⟩
      · have hk : keysOf L' = keysOf L := by rw [← HP.out]; unfold putC; rw [if_neg hr, if_pos HQ.out]; exact keysOf_putL HQ.out
        have hl : L'.length = L.length := by rw [← keysOf_length L', hk, keysOf_length]
        unfold PAt
        rw [hk, hl]
        exact C3.out
      · rw [← HP.out]; unfold putC; rw [if_neg hr, if_pos HQ.out]
    | false =>
      have hL : L' = (if L.length < r then L else evictL pick L) ++ [(⟨p, l, t⟩, ⟨xf, xa, xb, xc, xd, xm⟩)] := by rw [← HP.out]; unfold putC; rw [if_neg hr, if_neg (by rw [HQ.out]; simp)]
      have HLL := Aside.mk hL
      clear hL
      have hno := HQ.out
      by_cases hfull : L.length < r
      · go_upto_region 4 with (fail)
        refine region_ext (by kernel_rfl) (by kernel_rfl) ?_; (repeat (go_big_quiet_step (fail))); refine wpQuiet_nil ?_; intro w1 hb; have ⟨hc, hf, hh, hs⟩ := hb.facts; try simp only [World.size_alloc, World.size_setCell, World.size_drew] at hs
        go_upto_region 6 with (fail)
        obtain ⟨F6, L6, hC6, hl6, hn6, hK6, hF6, hb0, hb1, hLL⟩ : ∃ F6 L6, CAt w1 cb F6 L6 r ∧ L6.length < r ∧ hasK ⟨p, l, t⟩ L6 = false ∧ Keeps F w w1 ∧ (∀ y ∈ F6, y ∈ F ∨ W.heap.size ≤ y) ∧
            w1.heap[w.heap.size]? = W.heap[w.heap.size]? ∧ w1.heap[w.heap.size + 1]? = W.heap[w.heap.size + 1]? ∧ L' = L6 ++ [(⟨p, l, t⟩, ⟨xf, xa, xb, xc, xd, xm⟩)] :=
          ⟨F, L, C3.out.ext hb, hfull, hno, Keeps.of_ext ((HX.out.trans H3.out).trans hb), fun y hy => .inl hy, (H3.out.trans hb).block _ (by omega), (H3.out.trans hb).block _ (by omega), by rw [HLL.out, if_pos hfull]⟩
        refine wp_gen ?_; intro w6 hw6
        rw [← hw6] at hC6 hK6 hb0 hb1
        have HC6 := Lib.hid hC6
        have HK6 := Lib.hid hK6
        have HS6 := Lib.hid hF6
        have hF7 : ∀ y ∈ F6, y ∈ F ∨ w.heap.size ≤ y := fun y hy => (hF6 y hy).elim .inl fun h => .inr (by omega)
        have HF6 := Lib.hid hF7
        clear hF7
        have HB0 := Lib.hid hb0
        have HB1 := Lib.hid hb1
        have HL6 := Aside.mk hLL
        have HN6 := Aside.mk hn6
        clear hC6 hK6 hF6 hb0 hb1 hLL hn6 hw6 hc hf hh hb hs k0 k1 k2 d1 d2 hno
        obtain ⟨mb6, ov6, es6, clock6, p1, p2, p3, p4, p5, p6, p7, p8⟩ := HC6.out
        have k6 := keysOf_length L6
        obtain ⟨a6, cap6, rfl, hn6, hm6⟩ := p4.form
        rw [k6] at p4 hn6 p1 p5
        have hmx : cap6 ≤ 9223372036854775807 := by unfold maxLen at hm6; omega
        have f1 : w6.cell? ⟨cb, 1, none⟩ = some (.slice a6 L6.length cap6) := (heap_cell p1 1).trans rfl
        have n6 := HB0.out.trans N0.out
        have g0 := (heap_cell n6 0).trans rfl
        have g1 := (heap_cell n6 1).trans rfl
        have g2 := (heap_cell n6 2).trans rfl
        have lt0 := heap_lt n6
        have lt0b := heap_lt (HB1.out.trans N1.out)
        have lt1 := heap_lt p1
        have lt2 := heap_lt p2
        have hmc : mb6 ≠ cb := fun e => by rw [← e, p2] at p1; cases p1
        have hmo : ∀ g, (Value.slice a6 L6.length cap6).ownBlock = some g → mb6 ≠ g ∧ cb ≠ g := fun g hg => by
          obtain ⟨c, hc⟩ := p4.heap g hg
          exact ⟨fun e => (by rw [← e, p2] at hc; cases hc), fun e => (by rw [← e, p1] at hc; cases hc)⟩
        have hog := p4.lt
        have P1 := Lib.hid p1
        have P2 := Lib.hid p2
        have P3 := Lib.hid p3
        have P4 := Lib.hid p4
        have P5 := Lib.hid p5
        have P8 := Lib.hid p8
        have HO := Lib.hid hmo
        have HG := Lib.hid hog
        clear p1 p2 p3 p4 p5 p8 n6 hmo hog hm6
        refine region_mix [.b [0], .q [1, 2, 3, 4, 5], .l 6 3, .l 7 2, .q [8, 9], .l 10 2] (by kernel_rfl) (by kernel_rfl) ?_
        (try refine ⟨fun h => absurd h (by simp), ?_⟩); (repeat (unfold wpPlan; simp only [pickL, List.map_cons, List.map_nil, List.getD_cons_succ, List.getD_cons_zero]; (repeat go_big_quiet_step (fail)); refine wpQuiet_nil ?_)); unfold wpPlan; intro w7 hb7; (try simp only [pickL, List.map_cons, List.map_nil, List.getD_cons_succ, List.getD_cons_zero])
        have s7 := hb7.size
        have HB7 := Lib.hid hb7
        clear hb7
        go_wp2
        refine ⟨?_, ?_⟩
        · (try intro _); exact (by repeat (first | exact Ext.refl _ | assumption | refine Ext.alloc ?_ _ | refine Ext.drew ?_ | refine Ext.setCell ?_ (by first | (simp; done) | (dsimp only; omega)) _ | refine Ext.trans ?_ (by assumption)))
        (try refine ⟨fun h => absurd h (by simp), ?_⟩); (repeat (unfold wpPlan; simp only [pickL, List.map_cons, List.map_nil, List.getD_cons_succ, List.getD_cons_zero]; (repeat go_big_quiet_step (fail)); refine wpQuiet_nil ?_)); unfold wpPlan; intro w8 hb8; (try simp only [pickL, List.map_cons, List.map_nil, List.getD_cons_succ, List.getD_cons_zero])
        have s8 := hb8.size
        rw [World.size_alloc] at s8
        have m8 := (hb8.block w7.heap.size (by simp)).trans (alloc_same w7 _)
        have hnews : ∀ j u, [Value.int .i64 p, .int .i64 l, .int .u64 t][j]? = some u → w8.cell? ((⟨w7.heap.size, 0, none⟩ : Addr).add j) = some u := fun j u hu => by
          rw [add0, heap_cell m8 j]; simpa using hu
        have HN8 := Lib.hid hnews
        have HO8 := Lib.hid (((P4.out.ext HB7.out).ext ((Ext.refl w7).alloc _)).ext hb8)
        have HB8 := Lib.hid (((Ext.refl w7).alloc _).trans hb8)
        clear hnews m8 hb8
        go_wp2_with (first | (at_builtin; refine wpList_append_owns rfl _ _ _ _ 3 24 keyRow rfl _ rfl L6.length (rowK (keysOf L6)) HO8.out _ 1 1 rfl [.int .i64 p, .int .i64 l, .int .u64 t] rfl HN8.out (by simp [Value.oneCell']) (by unfold maxLen; omega) (by omega) ?_; intro v9 w9 q1 q2 q3; replace q2 : w8.grownBy w9 (Value.slice a6 L6.length cap6).ownBlock := q2; replace q3 : v9.ownBlock = (Value.slice a6 L6.length cap6).ownBlock ∨ v9.ownBlock = some w8.heap.size := q3; obtain ⟨a9, c9, rfl, -, -⟩ := q1.form; simp only [Act.put, Array.set!_eq_setIfInBounds, List.setIfInBounds_toArray, List.set_cons_succ, List.set_cons_zero]))
        (try refine ⟨fun h => absurd h (by simp), ?_⟩); (repeat (unfold wpPlan; simp only [pickL, List.map_cons, List.map_nil, List.getD_cons_succ, List.getD_cons_zero]; (repeat go_big_quiet_step (fail)); refine wpQuiet_nil ?_)); unfold wpPlan; intro w10 hb10; (try simp only [pickL, List.map_cons, List.map_nil, List.getD_cons_succ, List.getD_cons_zero])
        have s9 := q2.size
        have s10 := hb10.size
        have z1 : w10.heap[cb]? = _ := ((hb10.block cb (by omega)).trans (q2.block cb (by omega) (fun e => (HO.out cb e.symm).2 rfl))).trans ((HB8.out.block cb (by omega)).trans ((HB7.out.block cb lt1).trans P1.out))
        have z2 : w10.heap[mb6]? = _ := ((hb10.block mb6 (by omega)).trans (q2.block mb6 (by omega) (fun e => (HO.out mb6 e.symm).1 rfl))).trans ((HB8.out.block mb6 (by omega)).trans ((HB7.out.block mb6 lt2).trans P2.out))
        have K10 : Keeps F w w10 := ((((HK6.out.ext HB7.out).ext HB8.out).grown q2 (fun y hy => HF6.out y (by rw [P5.out]; simp [hy])))).ext hb10
        have hbl : ∀ b, w.heap.size ≤ b → b < W.heap.size → b ∉ F6 → w6.heap[b]? = W.heap[b]? → b < w6.heap.size → w10.heap[b]? = W.heap[b]? := fun b _ _ h1 h2 h3 =>
          ((hb10.block b (by omega)).trans (q2.block b (by omega) (fun e => h1 (by rw [P5.out]; simp [e.symm])))).trans ((HB8.out.block b (by omega)).trans ((HB7.out.block b h3).trans h2))
        have x1 : w10.cell? ⟨cb, 1, none⟩ = some (.slice a6 L6.length cap6) := (heap_cell z1 1).trans rfl
        have x2 : w10.frozen? ⟨cb, 1, none⟩ = false := by rw [frozen_heap, z1]; rfl
        have Z1 := Lib.hid z1
        have Z2 := Lib.hid z2
        have K5 := Lib.hid K10
        have Q1 := Lib.hid (Owns.ext q1 hb10)
        have BL := Lib.hid hbl
        clear z1 z2 q1 q2 hb10 K10 hbl g0 g1 g2 f1
        go_wp2
        (try refine ⟨fun h => absurd h (by simp), ?_⟩); (repeat (unfold wpPlan; simp only [pickL, List.map_cons, List.map_nil, List.getD_cons_succ, List.getD_cons_zero]; (repeat go_big_quiet_step (fail)); refine wpQuiet_nil ?_)); unfold wpPlan; intro w11 hb11; (try simp only [pickL, List.map_cons, List.map_nil, List.getD_cons_succ, List.getD_cons_zero])
        go_wp2
        go_meet
        refine ⟨cb :: mb6 :: (Value.slice a9 (L6.length + 1) c9).ownBlock.toList, L6, ⟨⟨mb6, .slice a9 (L6.length + 1) c9, es6, clock6, ?_, ?_, P3.out, ?_, rfl, ?_, p7, ?_⟩, ?_, ?_, ?_, ?_, ?_⟩⟩
        · exact (hb11.block cb (by simp; exact heap_lt Z1.out)).trans (setCell_heap_same Z1.out)
        · exact (hb11.block mb6 (by simp; exact heap_lt Z2.out)).trans ((setCell_heap _ _ _ _ _ (Ne.symm hmc)).trans Z2.out)
        · have e1 : keysOf L' = keysOf L6 ++ [⟨p, l, t⟩] := by rw [HL6.out]; simp [keysOf]
          rw [e1, rowK_append, List.length_append, keysOf_length]
          refine (Q1.out.keep (w' := w10.setCell ⟨cb, 1, none⟩ (.slice a9 (L6.length + 1) c9)) fun y hy => setCell_heap _ _ _ _ _ fun e => ?_).ext hb11
          obtain ⟨c, hc⟩ := Q1.out.heap y hy
          rw [← e, Z1.out] at hc
          cases hc
        · rw [HL6.out]; simp; omega
        · have e1 : keysOf L' = keysOf L6 ++ [⟨p, l, t⟩] := by rw [HL6.out]; simp [keysOf]
          rw [e1, List.nodup_append]
          refine ⟨P8.out, by simp, fun y hy z hz e => ?_⟩
          obtain rfl : z = ⟨p, l, t⟩ := by simpa using hz
          have := hasK_iff.2 (e ▸ hy)
          rw [HN6.out] at this; cases this
        · rw [putL_new HN6.out, HL6.out]
        · exact (K5.out.setCell (by exact HF6.out cb (by rw [P5.out]; simp)) _).ext hb11
        · intro y hy
          simp only [List.mem_cons, Option.mem_toList] at hy
          rcases hy with rfl | rfl | hy
          · exact HF6.out _ (by rw [P5.out]; simp)
          · exact HF6.out _ (by rw [P5.out]; simp)
          · rcases q3 with q3 | q3 <;> rw [q3] at hy
            · exact HF6.out _ (by rw [P5.out]; simp [hy])
            · cases hy; have := HK6.out.size; exact .inr (by omega)
        · refine (hb11.block _ (by simp; omega)).trans ((setCell_heap _ _ _ _ _ (by omega)).trans (BL.out _ (by omega) (by omega) (fun hm => ?_) HB0.out (by omega)))
          rcases HS6.out _ hm with h | h
          · have := HC.out.lt _ h; omega
          · omega
        · refine (hb11.block _ (by simp; omega)).trans ((setCell_heap _ _ _ _ _ (by omega)).trans (BL.out _ (by omega) (by omega) (fun hm => ?_) HB1.out (by omega)))
          rcases HS6.out _ hm with h | h
          · have := HC.out.lt _ h; omega
          · omega
      · go_upto_region 4 with (fail)
        refine region_ext (by kernel_rfl) (by kernel_rfl) ?_; (repeat (go_big_quiet_step (fail))); refine wpQuiet_nil ?_; intro w1 hb; have ⟨hc, hf, hh, hs⟩ := hb.facts; try simp only [World.size_alloc, World.size_setCell, World.size_drew] at hs
        go_upto_region 6 with (first | (go_at_call 97; refine (evict_c cb F L r pick _ (C3.out.ext hb) hp0 hp1).mono ?_; rintro e w5 ⟨rfl, F5, hC5, hK5, hF5⟩))
        have E1 := (HX.out.trans H3.out).trans hb
        have E1s := E1.size
        have hFlt := HC.out.lt
        obtain ⟨F6, L6, hC6, hl6, hn6, hK6, hF6, hb0, hb1, hLL⟩ : ∃ F6 L6, CAt w5 cb F6 L6 r ∧ L6.length < r ∧ hasK ⟨p, l, t⟩ L6 = false ∧ Keeps F w w5 ∧ (∀ y ∈ F6, y ∈ F ∨ W.heap.size ≤ y) ∧
            w5.heap[w.heap.size]? = W.heap[w.heap.size]? ∧ w5.heap[w.heap.size + 1]? = W.heap[w.heap.size + 1]? ∧ L' = L6 ++ [(⟨p, l, t⟩, ⟨xf, xa, xb, xc, xd, xm⟩)] :=
          ⟨F5, evictL pick L, hC5, by rw [evictL_length (by omega)]; omega, hasK_sub evictL_sub hno, (Keeps.of_ext E1).same hK5, fun y hy => (hF5 y hy).elim .inl fun h => .inr (by omega),
            (hK5.block _ (by omega) (fun hm => by have := hFlt _ hm; omega)).trans ((H3.out.trans hb).block _ (by omega)), (hK5.block _ (by omega) (fun hm => by have := hFlt _ hm; omega)).trans ((H3.out.trans hb).block _ (by omega)), by rw [HLL.out, if_neg hfull]⟩
        refine wp_gen ?_; intro w6 hw6
        rw [← hw6] at hC6 hK6 hb0 hb1
        have HC6 := Lib.hid hC6
        have HK6 := Lib.hid hK6
        have HS6 := Lib.hid hF6
        have hF7 : ∀ y ∈ F6, y ∈ F ∨ w.heap.size ≤ y := fun y hy => (hF6 y hy).elim .inl fun h => .inr (by omega)
        have HF6 := Lib.hid hF7
        clear hF7
        have HB0 := Lib.hid hb0
        have HB1 := Lib.hid hb1
        have HL6 := Aside.mk hLL
        have HN6 := Aside.mk hn6
        clear hC6 hK6 hF6 hb0 hb1 hLL hn6 hw6 hc hf hh hb hs k0 k1 k2 d1 d2 hno hC5 hK5 hF5 hFlt E1
        obtain ⟨mb6, ov6, es6, clock6, p1, p2, p3, p4, p5, p6, p7, p8⟩ := HC6.out
        have k6 := keysOf_length L6
        obtain ⟨a6, cap6, rfl, hn6, hm6⟩ := p4.form
        rw [k6] at p4 hn6 p1 p5
        have hmx : cap6 ≤ 9223372036854775807 := by unfold maxLen at hm6; omega
        have f1 : w6.cell? ⟨cb, 1, none⟩ = some (.slice a6 L6.length cap6) := (heap_cell p1 1).trans rfl
        have n6 := HB0.out.trans N0.out
        have g0 := (heap_cell n6 0).trans rfl
        have g1 := (heap_cell n6 1).trans rfl
        have g2 := (heap_cell n6 2).trans rfl
        have lt0 := heap_lt n6
        have lt0b := heap_lt (HB1.out.trans N1.out)
        have lt1 := heap_lt p1
        have lt2 := heap_lt p2
        have hmc : mb6 ≠ cb := fun e => by rw [← e, p2] at p1; cases p1
        have hmo : ∀ g, (Value.slice a6 L6.length cap6).ownBlock = some g → mb6 ≠ g ∧ cb ≠ g := fun g hg => by
          obtain ⟨c, hc⟩ := p4.heap g hg
          exact ⟨fun e => (by rw [← e, p2] at hc; cases hc), fun e => (by rw [← e, p1] at hc; cases hc)⟩
        have hog := p4.lt
        have P1 := Lib.hid p1
        have P2 := Lib.hid p2
        have P3 := Lib.hid p3
        have P4 := Lib.hid p4
        have P5 := Lib.hid p5
        have P8 := Lib.hid p8
        have HO := Lib.hid hmo
        have HG := Lib.hid hog
        clear p1 p2 p3 p4 p5 p8 n6 hmo hog hm6
        refine region_mix [.b [0], .q [1, 2, 3, 4, 5], .l 6 3, .l 7 2, .q [8, 9], .l 10 2] (by kernel_rfl) (by kernel_rfl) ?_
        (try refine ⟨fun h => absurd h (by simp), ?_⟩); (repeat (unfold wpPlan; simp only [pickL, List.map_cons, List.map_nil, List.getD_cons_succ, List.getD_cons_zero]; (repeat go_big_quiet_step (fail)); refine wpQuiet_nil ?_)); unfold wpPlan; intro w7 hb7; (try simp only [pickL, List.map_cons, List.map_nil, List.getD_cons_succ, List.getD_cons_zero])
        have s7 := hb7.size
        have HB7 := Lib.hid hb7
        clear hb7
        go_wp2
        refine ⟨?_, ?_⟩
        · (try intro _); exact (by repeat (first | exact Ext.refl _ | assumption | refine Ext.alloc ?_ _ | refine Ext.drew ?_ | refine Ext.setCell ?_ (by first | (simp; done) | (dsimp only; omega)) _ | refine Ext.trans ?_ (by assumption)))
        (try refine ⟨fun h => absurd h (by simp), ?_⟩); (repeat (unfold wpPlan; simp only [pickL, List.map_cons, List.map_nil, List.getD_cons_succ, List.getD_cons_zero]; (repeat go_big_quiet_step (fail)); refine wpQuiet_nil ?_)); unfold wpPlan; intro w8 hb8; (try simp only [pickL, List.map_cons, List.map_nil, List.getD_cons_succ, List.getD_cons_zero])
        have s8 := hb8.size
        rw [World.size_alloc] at s8
        have m8 := (hb8.block w7.heap.size (by simp)).trans (alloc_same w7 _)
        have hnews : ∀ j u, [Value.int .i64 p, .int .i64 l, .int .u64 t][j]? = some u → w8.cell? ((⟨w7.heap.size, 0, none⟩ : Addr).add j) = some u := fun j u hu => by
          rw [add0, heap_cell m8 j]; simpa using hu
        have HN8 := Lib.hid hnews
        have HO8 := Lib.hid (((P4.out.ext HB7.out).ext ((Ext.refl w7).alloc _)).ext hb8)
        have HB8 := Lib.hid (((Ext.refl w7).alloc _).trans hb8)
        clear hnews m8 hb8
        go_wp2_with (first | (at_builtin; refine wpList_append_owns rfl _ _ _ _ 3 24 keyRow rfl _ rfl L6.length (rowK (keysOf L6)) HO8.out _ 1 1 rfl [.int .i64 p, .int .i64 l, .int .u64 t] rfl HN8.out (by simp [Value.oneCell']) (by unfold maxLen; omega) (by omega) ?_; intro v9 w9 q1 q2 q3; replace q2 : w8.grownBy w9 (Value.slice a6 L6.length cap6).ownBlock := q2; replace q3 : v9.ownBlock = (Value.slice a6 L6.length cap6).ownBlock ∨ v9.ownBlock = some w8.heap.size := q3; obtain ⟨a9, c9, rfl, -, -⟩ := q1.form; simp only [Act.put, Array.set!_eq_setIfInBounds, List.setIfInBounds_toArray, List.set_cons_succ, List.set_cons_zero]))
        (try refine ⟨fun h => absurd h (by simp), ?_⟩); (repeat (unfold wpPlan; simp only [pickL, List.map_cons, List.map_nil, List.getD_cons_succ, List.getD_cons_zero]; (repeat go_big_quiet_step (fail)); refine wpQuiet_nil ?_)); unfold wpPlan; intro w10 hb10; (try simp only [pickL, List.map_cons, List.map_nil, List.getD_cons_succ, List.getD_cons_zero])
        have s9 := q2.size
        have s10 := hb10.size
        have z1 : w10.heap[cb]? = _ := ((hb10.block cb (by omega)).trans (q2.block cb (by omega) (fun e => (HO.out cb e.symm).2 rfl))).trans ((HB8.out.block cb (by omega)).trans ((HB7.out.block cb lt1).trans P1.out))
        have z2 : w10.heap[mb6]? = _ := ((hb10.block mb6 (by omega)).trans (q2.block mb6 (by omega) (fun e => (HO.out mb6 e.symm).1 rfl))).trans ((HB8.out.block mb6 (by omega)).trans ((HB7.out.block mb6 lt2).trans P2.out))
        have K10 : Keeps F w w10 := ((((HK6.out.ext HB7.out).ext HB8.out).grown q2 (fun y hy => HF6.out y (by rw [P5.out]; simp [hy])))).ext hb10
        have hbl : ∀ b, w.heap.size ≤ b → b < W.heap.size → b ∉ F6 → w6.heap[b]? = W.heap[b]? → b < w6.heap.size → w10.heap[b]? = W.heap[b]? := fun b _ _ h1 h2 h3 =>
          ((hb10.block b (by omega)).trans (q2.block b (by omega) (fun e => h1 (by rw [P5.out]; simp [e.symm])))).trans ((HB8.out.block b (by omega)).trans ((HB7.out.block b h3).trans h2))
        have x1 : w10.cell? ⟨cb, 1, none⟩ = some (.slice a6 L6.length cap6) := (heap_cell z1 1).trans rfl
        have x2 : w10.frozen? ⟨cb, 1, none⟩ = false := by rw [frozen_heap, z1]; rfl
        have Z1 := Lib.hid z1
        have Z2 := Lib.hid z2
        have K5 := Lib.hid K10
        have Q1 := Lib.hid (Owns.ext q1 hb10)
        have BL := Lib.hid hbl
        clear z1 z2 q1 q2 hb10 K10 hbl g0 g1 g2 f1
        go_wp2
        (try refine ⟨fun h => absurd h (by simp), ?_⟩); (repeat (unfold wpPlan; simp only [pickL, List.map_cons, List.map_nil, List.getD_cons_succ, List.getD_cons_zero]; (repeat go_big_quiet_step (fail)); refine wpQuiet_nil ?_)); unfold wpPlan; intro w11 hb11; (try simp only [pickL, List.map_cons, List.map_nil, List.getD_cons_succ, List.getD_cons_zero])
        go_wp2
        go_meet
        refine ⟨cb :: mb6 :: (Value.slice a9 (L6.length + 1) c9).ownBlock.toList, L6, ⟨⟨mb6, .slice a9 (L6.length + 1) c9, es6, clock6, ?_, ?_, P3.out, ?_, rfl, ?_, p7, ?_⟩, ?_, ?_, ?_, ?_, ?_⟩⟩
        · exact (hb11.block cb (by simp; exact heap_lt Z1.out)).trans (setCell_heap_same Z1.out)
        · exact (hb11.block mb6 (by simp; exact heap_lt Z2.out)).trans ((setCell_heap _ _ _ _ _ (Ne.symm hmc)).trans Z2.out)
        · have e1 : keysOf L' = keysOf L6 ++ [⟨p, l, t⟩] := by rw [HL6.out]; simp [keysOf]
          rw [e1, rowK_append, List.length_append, keysOf_length]
          refine (Q1.out.keep (w' := w10.setCell ⟨cb, 1, none⟩ (.slice a9 (L6.length + 1) c9)) fun y hy => setCell_heap _ _ _ _ _ fun e => ?_).ext hb11
          obtain ⟨c, hc⟩ := Q1.out.heap y hy
          rw [← e, Z1.out] at hc
          cases hc
        · rw [HL6.out]; simp; omega
        · have e1 : keysOf L' = keysOf L6 ++ [⟨p, l, t⟩] := by rw [HL6.out]; simp [keysOf]
          rw [e1, List.nodup_append]
          refine ⟨P8.out, by simp, fun y hy z hz e => ?_⟩
          obtain rfl : z = ⟨p, l, t⟩ := by simpa using hz
          have := hasK_iff.2 (e ▸ hy)
          rw [HN6.out] at this; cases this
        · rw [putL_new HN6.out, HL6.out]
        · exact (K5.out.setCell (by exact HF6.out cb (by rw [P5.out]; simp)) _).ext hb11
        · intro y hy
          simp only [List.mem_cons, Option.mem_toList] at hy
          rcases hy with rfl | rfl | hy
          · exact HF6.out _ (by rw [P5.out]; simp)
          · exact HF6.out _ (by rw [P5.out]; simp)
          · rcases q3 with q3 | q3 <;> rw [q3] at hy
            · exact HF6.out _ (by rw [P5.out]; simp [hy])
            · cases hy; have := HK6.out.size; exact .inr (by omega)
        · refine (hb11.block _ (by simp; omega)).trans ((setCell_heap _ _ _ _ _ (by omega)).trans (BL.out _ (by omega) (by omega) (fun hm => ?_) HB0.out (by omega)))
          rcases HS6.out _ hm with h | h
          · have := HC.out.lt _ h; omega
          · omega
        · refine (hb11.block _ (by simp; omega)).trans ((setCell_heap _ _ _ _ _ (by omega)).trans (BL.out _ (by omega) (by omega) (fun hm => ?_) HB1.out (by omega)))
          rcases HS6.out _ hm with h | h
          · have := HC.out.lt _ h; omega
          · omega
  case rest =>
    obtain ⟨F', L6, hcut⟩ := hcut
    obtain ⟨⟨mb', ov, es', clock', p1, p2, p3, p4, p5, p6, p7, p8⟩, p10, p11, p12, p13, p14⟩ := hcut.out
    rw [N0.out] at p13
    rw [N1.out] at p14
    have a0 := (heap_cell p1 0).trans rfl
    have k0 := (heap_cell p13 0).trans rfl
    have k1 := (heap_cell p13 1).trans rfl
    have k2 := (heap_cell p13 2).trans rfl
    have l0 := (heap_cell p14 0).trans rfl
    have l1 := (heap_cell p14 1).trans rfl
    have l2 := (heap_cell p14 2).trans rfl
    have l3 := (heap_cell p14 3).trans rfl
    have l4 := (heap_cell p14 4).trans rfl
    have l5 := (heap_cell p14 5).trans rfl
    have lt1 := heap_lt p1
    have lt2 := heap_lt p2
    have lt3 := heap_lt p14
    have P1 := Lib.hid p1
    have P2 := Lib.hid p2
    have P3 := Lib.hid p3
    have P4 := Lib.hid p4
    have P5 := Lib.hid p5
    have P8 := Lib.hid p8
    have PA := Aside.mk p10
    have PK := Lib.hid p11
    have PF := Lib.hid p12
    have hmc : mb' ≠ cb := fun e => by rw [← e, p2] at p1; cases p1
    have hmo : ∀ g, ov.ownBlock = some g → mb' ≠ g := fun g hg e => by obtain ⟨c, hc⟩ := p4.heap g hg; rw [← e, p2] at hc; cases hc
    have HO := Lib.hid hmo
    clear hcut p1 p2 p3 p4 p5 p8 p10 p11 p12 p13 p14 c2 hmo x5 x6
    go_upto_region 7 with (fail)
    refine region_mix [.q [0, 1, 2, 3, 4, 5], .l 6 2] (by kernel_rfl) (by kernel_rfl) ?_
    (try refine ⟨fun h => absurd h (by simp), ?_⟩); (repeat (unfold wpPlan; simp only [pickL, List.map_cons, List.map_nil, List.getD_cons_succ, List.getD_cons_zero]; (repeat go_big_quiet_step (fail)); refine wpQuiet_nil ?_)); unfold wpPlan; intro w4 hb4; (try simp only [pickL, List.map_cons, List.map_nil, List.getD_cons_succ, List.getD_cons_zero])
    have q2 := (hb4.block mb' lt2).trans P2.out
    obtain ⟨es4, c4, hup, hent4⟩ := mapUpdate_run ⟨p, l, t⟩ ⟨xf, xa, xb, xc, xd, xm⟩ w4 mb' es' clock' L6 q2 P3.out
    unfold Key.val Line.val at hup
    have HE := Lib.hid hent4
    have HB4 := Lib.hid hb4
    clear hent4 hb4 q2
    go_wp2
    (try refine ⟨fun h => absurd h (by simp), ?_⟩); (repeat (unfold wpPlan; simp only [pickL, List.map_cons, List.map_nil, List.getD_cons_succ, List.getD_cons_zero]; (repeat go_big_quiet_step (fail)); refine wpQuiet_nil ?_)); unfold wpPlan; intro w5 hb5; (try simp only [pickL, List.map_cons, List.map_nil, List.getD_cons_succ, List.getD_cons_zero])
    go_wp2
    refine ⟨rfl, .tuple #[], (by simp [results, Try.results84, go_sem]), ?_⟩
    have z1 := HB4.out.size
    have z2 : (putBlk w4 mb' (.map es4 c4)).heap.size = w4.heap.size := putBlk_size ..
    refine ⟨rfl, F', ⟨mb', ov, es4, c4, ?_, ?_, by rw [← PA.out]; exact HE.out, ?_, P5.out, p6, p7, P8.out⟩, ?_, PF.out⟩
    · exact (hb5.block cb (by omega)).trans ((putBlk_heap _ _ _ _ hmc).trans ((HB4.out.block cb lt1).trans P1.out))
    · exact (hb5.block mb' (by omega)).trans (putBlk_same _ _ _ (by omega))
    · refine (P4.out.ext HB4.out).keep fun g hg => ?_
      have hg2 := P4.out.lt g hg
      exact (hb5.block g (by omega)).trans (putBlk_heap _ _ _ _ (HO.out g hg))
    · have hm : mb' ∈ F' := by rw [P5.out]; simp
      exact (((PK.out.ext HB4.out).put (PF.out mb' hm) _).ext hb5)
end Go.Proofs.Ytfaekfdngkpkdaa
/- Caches: DropOf. -/
namespace Go.Proofs.Ytfaekfdngkpkdaa
set_option linter.unusedVariables false
set_option linter.unusedSimpArgs false
open Go.RowKit
attribute [local go_sem] wext_cell wext_frozen wext_heap alloc_cell alloc_frozen alloc_heap setCell_cell objCell_cells objFrozen_cells
attribute [local go_sem high] key_eql

def dropN (pcid : Int) (ks : List Key) (L : List (Key × Line)) : List (Key × Line) := ks.foldl (fun L k => if k.p = pcid then delL k L else L) L

set_option maxHeartbeats 1000000 in
theorem dropOf_c (cb : Nat) (F : List Nat) (L : List (Key × Line)) (r : Nat) (pcid : Int) (w : World) (h : CAt w cb F L r) :
    Calls Try.prog 87 #[.pointer (some ⟨cb, 0, none⟩), .int .i64 pcid] w (EndC cb F w (dropN pcid (keysOf L) L) r) := by
  have HC := Lib.hid h
  obtain ⟨-, -, -, -, -, -, -, -, -, -, b4, b5, -⟩ := h.order
  have k4 := keysOf_length L
  clear h
  go_enter Try.func87, Try.ntmps87
  go_upto_region 0 with (fail)
  go_wp2_with (first | (go_at_call 85; refine (keys_c cb F L r _ (HC.out.ext (by repeat (first | exact Ext.refl _ | assumption | refine Ext.alloc ?_ _ | refine Ext.drew ?_ | refine Ext.setCell ?_ (by first | (simp; done) | (dsimp only; omega)) _ | refine Ext.trans ?_ (by assumption))))).mono ?_; rintro e w1 ⟨v, rfl, q1, q2, q3⟩; obtain ⟨va, vc, rfl, hv1, hv2⟩ := q1.form))
  have Q1 := Lib.hid q1
  have Q2 := Lib.hid q2
  have Q3 := Lib.hid q3
  clear q1 q2 q3
  unfold maxLen at hv2
  rw [k4] at hv1 Q1 Q3
  go_loopw [9] (fun i wr => ∃ (j : Nat) (F' : List Nat), j ≤ L.length ∧ i = .int .i64 j ∧ Hid (CAt wr cb F' (dropN pcid ((keysOf L).take j) L) r ∧ Keeps F w wr ∧ (∀ y ∈ F', y ∈ F ∨ w1.heap.size ≤ y) ∧
    Owns wr 159 3 (.slice va L.length vc) L.length (rowK (keysOf L)) ∧ w1.heap.size ≤ wr.heap.size)) (fun i _ => L.length - (intOf i).toNat)
  case atStart => exact ⟨0, F, by omega, rfl, Lib.hid ⟨HC.out.ext Q2.out, Keeps.of_ext Q2.out, fun y hy => .inl hy, Q1.out, Nat.le_refl _⟩⟩
  case round =>
    obtain ⟨j, F', hj, rfl, hR⟩ := hrel
    have hw1 := Q2.out.size
    by_cases hlt : j < L.length
    · obtain ⟨g, rfl⟩ : ∃ g, va = some ⟨g, 0, none⟩ := by
        rcases Q1.out.2 with ⟨_, h0⟩ | ⟨g, _, _, he, _⟩
        · omega
        · exact ⟨g, by injection he⟩
      obtain ⟨c0, c1, c2⟩ := rowK_get (keysOf L) j (by omega)
      have d0 := hR.out.2.2.2.1.cells (g := g) rfl _ _ c0
      have d1 := hR.out.2.2.2.1.cells (g := g) rfl _ _ c1
      have d2 := hR.out.2.2.2.1.cells (g := g) rfl _ _ c2
      have hgl := hR.out.2.2.2.1.lt g rfl
      have hg1 := Q1.out.lt g rfl
      have hg0 := Q3.out g rfl
      have e0 : dropN pcid ((keysOf L).take (j + 1)) L = if (kAt (keysOf L) j).p = pcid then delL (kAt (keysOf L) j) (dropN pcid ((keysOf L).take j) L) else dropN pcid ((keysOf L).take j) L := by
        have : (keysOf L).take (j + 1) = (keysOf L).take j ++ [kAt (keysOf L) j] := by
          rw [List.take_add_one, kAt, List.getD, List.getElem?_eq_getElem (by omega)]; simp
        rw [this, dropN, List.foldl_append]; rfl
      have HE := Aside.mk e0
      clear e0 c0 c1 c2
      generalize hk : kAt (keysOf L) j = kk at d0 d1 d2 HE
      obtain ⟨p, l, t⟩ := kk
      have HK := Aside.mk hk
      clear hk
      by_cases hp : p = pcid
      · subst hp
        go_wp2_with (first | (go_at_call 86; refine (drop_c cb F' _ r ⟨p, l, t⟩ _ (hR.out.1.ext (by repeat (first | exact Ext.refl _ | assumption | refine Ext.alloc ?_ _ | refine Ext.drew ?_ | refine Ext.setCell ?_ (by first | (simp; done) | (dsimp only; omega)) _ | refine Ext.trans ?_ (by assumption))))).mono ?_; rintro e w5 ⟨rfl, F5, hC5, hK5, hF5⟩))
        have hsz := hR.out.2.2.2.2
        have hFlt := HC.out.lt
        refine ⟨⟨j + 1, F5, by omega, by go_num, Lib.hid ⟨?_, ?_, ?_, ?_, ?_⟩⟩, by simp [intOf]; omega⟩
        · rw [HE.out, if_pos trivial]; exact hC5
        · exact (hR.out.2.1.ext (by repeat (first | exact Ext.refl _ | assumption | refine Ext.alloc ?_ _ | refine Ext.drew ?_ | refine Ext.setCell ?_ (by first | (simp; done) | (dsimp only; omega)) _ | refine Ext.trans ?_ (by assumption)))).trans hK5 fun x hx => (hR.out.2.2.1 x hx).elim .inl fun h => .inr (by omega)
        · intro y hy
          rcases hF5 y hy with h | h
          · exact hR.out.2.2.1 y h
          · simp only [World.size_alloc] at h; exact .inr (by omega)
        · refine hR.out.2.2.2.1.keep fun x hx => ?_
          obtain rfl : g = x := by simpa [Value.ownBlock] using hx
          refine (hK5.block g (by simp only [World.size_alloc]; omega) fun hm => ?_).trans (alloc_other _ _ hgl)
          rcases hR.out.2.2.1 _ hm with h | h
          · have := hFlt _ h; omega
          · omega
        · have := hK5.size; simp only [World.size_alloc] at this; omega
      · have hpb : (p == pcid) = false := by simpa using hp
        go_wp2
        refine ⟨⟨j + 1, F', by omega, by go_num, Lib.hid ⟨?_, hR.out.2.1.ext (by repeat (first | exact Ext.refl _ | assumption | refine Ext.alloc ?_ _ | refine Ext.drew ?_ | refine Ext.setCell ?_ (by first | (simp; done) | (dsimp only; omega)) _ | refine Ext.trans ?_ (by assumption))), hR.out.2.2.1, hR.out.2.2.2.1.ext (by repeat (first | exact Ext.refl _ | assumption | refine Ext.alloc ?_ _ | refine Ext.drew ?_ | refine Ext.setCell ?_ (by first | (simp; done) | (dsimp only; omega)) _ | refine Ext.trans ?_ (by assumption))), by have := hR.out.2.2.2.2; simp; omega⟩⟩, by simp [intOf]; omega⟩
        rw [HE.out, if_neg hp]
        exact hR.out.1.ext (by repeat (first | exact Ext.refl _ | assumption | refine Ext.alloc ?_ _ | refine Ext.drew ?_ | refine Ext.setCell ?_ (by first | (simp; done) | (dsimp only; omega)) _ | refine Ext.trans ?_ (by assumption)))
    · go_wp2
      refine ⟨rfl, .tuple #[], (by simp [results, Try.results87, go_sem]), ?_⟩
      have : (keysOf L).take j = keysOf L := List.take_of_length_le (by omega)
      rw [this] at hR
      exact ⟨rfl, F', hR.out.1, hR.out.2.1, fun y hy => (hR.out.2.2.1 y hy).elim .inl fun h => .inr (by omega)⟩
end Go.Proofs.Ytfaekfdngkpkdaa
/- The document's caches: rows of pairs; find. -/
namespace Go.Proofs.Ytfaekfdngkpkdaa
set_option linter.unusedVariables false
set_option linter.unusedSimpArgs false
open Go.RowKit
attribute [local go_sem] wext_cell wext_frozen wext_heap alloc_cell alloc_frozen alloc_heap setCell_cell objCell_cells objFrozen_cells

def pairC (x : Key × Line) : List Value := [.int .i64 x.1.p, .int .i64 x.1.l, .int .u64 x.1.t, .int .u64 x.2.f, .bool x.2.a, .bool x.2.b, .bool x.2.c, .bool x.2.d, .int .u8 x.2.m]
def rowP (L : List (Key × Line)) : List Value := L.flatMap pairC
def pAt (L : List (Key × Line)) (i : Nat) : Key × Line := L.getD i default
theorem rowP_length (L : List (Key × Line)) : (rowP L).length = L.length * 9 := by
  induction L with
  | nil => rfl
  | cons k L ih => simp only [rowP, List.flatMap_cons, List.length_append, List.length_cons] at *; simp only [pairC, List.length_cons, List.length_nil]; omega
theorem rowP_at : ∀ (L : List (Key × Line)) (i : Nat), i < L.length → ∀ j, j < 9 → (rowP L)[i * 9 + j]? = (pairC (pAt L i))[j]?
  | [], i, h, _, _ => by simp at h
  | x :: L, 0, h, j, hj => by
    simp only [rowP, List.flatMap_cons, Nat.zero_mul, Nat.zero_add]
    rw [List.getElem?_append_left (by simpa [pairC] using hj)]; rfl
  | x :: L, i + 1, h, j, hj => by
    have h2 : i < L.length := by simpa using h
    have := rowP_at L i h2 j hj
    have e2 : pAt (x :: L) (i + 1) = pAt L i := by simp [pAt]
    rw [e2, ← this, show (i + 1) * 9 + j = (i * 9 + j) + 9 by omega]
    simp [rowP, pairC]
theorem rowP_append (a b : List (Key × Line)) : rowP (a ++ b) = rowP a ++ rowP b := by simp [rowP]
theorem rowP_one (a : List (Key × Line)) : ∀ u ∈ rowP a, u.oneCell' = true := by
  intro u hu
  obtain ⟨k, _, hk⟩ := List.mem_flatMap.1 hu
  simp [pairC] at hk
  rcases hk with rfl | rfl | rfl | rfl | rfl | rfl | rfl | rfl | rfl <;> rfl

/-- The nine cells of a pair. -/
def NineAt (w : World) (g o : Nat) (x : Key × Line) : Prop :=
  w.cell? ⟨g, o, none⟩ = some (.int .i64 x.1.p) ∧ w.cell? ⟨g, o + 1, none⟩ = some (.int .i64 x.1.l) ∧ w.cell? ⟨g, o + 2, none⟩ = some (.int .u64 x.1.t) ∧
  w.cell? ⟨g, o + 3, none⟩ = some (.int .u64 x.2.f) ∧ w.cell? ⟨g, o + 4, none⟩ = some (.bool x.2.a) ∧ w.cell? ⟨g, o + 5, none⟩ = some (.bool x.2.b) ∧ w.cell? ⟨g, o + 6, none⟩ = some (.bool x.2.c) ∧
  w.cell? ⟨g, o + 7, none⟩ = some (.bool x.2.d) ∧ w.cell? ⟨g, o + 8, none⟩ = some (.int .u8 x.2.m)
theorem nineAt {w : World} {g cap : Nat} {L : List (Key × Line)} {n : Nat} {e : TypeId} (h : Owns w e 9 (.slice (some ⟨g, 0, none⟩) n cap) n (rowP L)) {i : Nat} (hi : i < L.length) : NineAt w g (i * 9) (pAt L i) := by
  have H := fun j hj u hu => h.cells (g := g) rfl (i * 9 + j) u ((rowP_at L i hi j hj).trans hu)
  exact ⟨H 0 (by omega) _ rfl, H 1 (by omega) _ rfl, H 2 (by omega) _ rfl, H 3 (by omega) _ rfl, H 4 (by omega) _ rfl, H 5 (by omega) _ rfl, H 6 (by omega) _ rfl, H 7 (by omega) _ rfl, H 8 (by omega) _ rfl⟩
theorem NineAt.ext {w w' : World} {g o : Nat} {x : Key × Line} (h : NineAt w g o x) (k : Ext w w') : NineAt w' g o x := by
  obtain ⟨a, b, c, d, e, f, g, i, j⟩ := h
  exact ⟨k.someCell a, k.someCell b, k.someCell c, k.someCell d, k.someCell e, k.someCell f, k.someCell g, k.someCell i, k.someCell j⟩

theorem pairRow : RowT Try.prog 79 212 9 40 := RowT.of (z := .agg #[.int .i64 0, .int .i64 0, .int .u64 0, .int .u64 0, .bool false, .bool false, .bool false, .bool false, .int .u8 0]) Try.underlying79 (by kernel_rfl) rfl

theorem refKey_equal (k k' : Key) (w : World) : (Op.equal 178 k.val k'.val).run Try.prog w = .ok (decide (k = k')) w := by
  show (Op.equalIn 10000 _ _ _).run _ _ = _
  obtain ⟨p, l, t⟩ := k
  obtain ⟨p', l', t'⟩ := k'
  simp [Key.val, go_sem]
  by_cases h1 : p = p' <;> by_cases h2 : l = l' <;> by_cases h3 : t = t' <;> simp [*]
theorem refKey_eql (p l t p' l' t' : Int) (w : World) : (binOp .eql 178 (.agg #[.int .i64 p, .int .i64 l, .int .u64 t]) (.agg #[.int .i64 p', .int .i64 l', .int .u64 t'])).run Try.prog w = .ok (.bool (keyB ⟨p, l, t⟩ ⟨p', l', t'⟩)) w := by
  have := refKey_equal ⟨p, l, t⟩ ⟨p', l', t'⟩ w
  rw [run_eql_struct]
  show ((Op.equal _ _ _).run _ _).andThen _ = _
  simp only [Key.val] at this
  rw [this]; rfl
attribute [local go_sem high] refKey_eql

/-- The document's cache as a value. -/
def RefAt (w : World) (v : Value) (L : List (Key × Line)) : Prop := Owns w 212 9 v L.length (rowP L) ∧ L.length ≤ 1000
theorem RefAt.ext {w w' : World} {v : Value} {L : List (Key × Line)} (h : RefAt w v L) (k : Ext w w') : RefAt w' v L := ⟨h.1.ext k, h.2⟩

theorem keyB_symm (a b : Key) : keyB a b = keyB b a := by simp [keyB, eq_comm]

set_option maxHeartbeats 1000000 in
theorem find_c (L : List (Key × Line)) (k : Key) (v : Value) (r : Int) (w : World) (ho : RefAt w v L) :
    Calls Try.prog 127 #[.agg #[v, .int .i64 r], k.val] w fun e w' => e = .returned (.int .i64 (ixK k (keysOf L) 0)) ∧ Ext w w' := by
  have hL := ho.2
  have HO := Lib.hid ho.1
  clear ho
  obtain ⟨p, l, t⟩ := k
  obtain ⟨a, cap, rfl, hn, hm⟩ := HO.out.form
  unfold Key.val
  unfold maxLen at hm
  go_enter Try.func127, Try.ntmps127
  go_wp2
  refine wp_gen ?_; intro W hW
  have hE : Ext w W := by rw [hW]; exact (by repeat (first | exact Ext.refl _ | assumption | refine Ext.alloc ?_ _ | refine Ext.drew ?_ | refine Ext.setCell ?_ (by first | (simp; done) | (dsimp only; omega)) _ | refine Ext.trans ?_ (by assumption)))
  have hb0 : W.cell? ⟨w.heap.size, 0, none⟩ = some (.slice a L.length cap) := (by rw [hW]; simp [go_sem, ↓IntWalk.iteOmega, *])
  have hb1 : W.cell? ⟨w.heap.size + 1, 0, none⟩ = some (.int .i64 p) := (by rw [hW]; simp [go_sem, ↓IntWalk.iteOmega, *])
  have hb2 : W.cell? ⟨w.heap.size + 1, 1, none⟩ = some (.int .i64 l) := (by rw [hW]; simp [go_sem, ↓IntWalk.iteOmega, *])
  have hb3 : W.cell? ⟨w.heap.size + 1, 2, none⟩ = some (.int .u64 t) := (by rw [hW]; simp [go_sem, ↓IntWalk.iteOmega, *])
  have hsz : w.heap.size + 1 < W.heap.size := (by rw [hW]; (try simp only [World.size_alloc, World.size_setCell, World.size_drew]); omega)
  clear hW
  have HE := Lib.hid hE
  have k4 := keysOf_length L
  clear hE
  go_loopw [5] (fun i wr => ∃ j : Nat, j ≤ L.length ∧ i = .int .i64 j ∧ Aside (ixK ⟨p, l, t⟩ (keysOf L) 0 = ixK ⟨p, l, t⟩ ((keysOf L).drop j) j) ∧ Ext W wr) (fun i _ => L.length - (intOf i).toNat)
  case atStart => exact ⟨0, by omega, rfl, ⟨by simp⟩, Ext.refl _⟩
  case round =>
    obtain ⟨j, hj, rfl, hi, hb⟩ := hrel
    have HB := Lib.hid hb
    have f0 := hb.someCell hb0
    have f1 := hb.someCell hb1
    have f2 := hb.someCell hb2
    have f3 := hb.someCell hb3
    have hbs := hb.size
    clear hb hb0 hb1 hb2 hb3
    by_cases hlt : j < L.length
    · obtain ⟨g, hg⟩ : ∃ g, a = some ⟨g, 0, none⟩ := by
        rcases HO.out.2 with ⟨_, h0⟩ | ⟨g, _, _, he, _⟩
        · omega
        · exact ⟨g, by injection he⟩
      subst hg
      have hgl := HO.out.lt g rfl
      obtain ⟨d0, d1, d2, -⟩ := ((nineAt HO.out hlt).ext HE.out).ext HB.out
      have hdrop := Aside.mk (ixK_drop ⟨p, l, t⟩ (keysOf L) j (by omega))
      have hkk : kAt (keysOf L) j = (pAt L j).1 := by simp [kAt, pAt, keysOf, List.getD, hlt]
      rw [hkk] at hdrop
      have HW := HE.out.size
      go_upto_region 4 with (fail)
      refine region_ext (by kernel_rfl) (by kernel_rfl) ?_; (repeat (go_big_quiet_step (fail))); refine wpQuiet_nil ?_; intro w1 hb; have ⟨hc, hf, hh, hs⟩ := hb.facts; try simp only [World.size_alloc, World.size_setCell, World.size_drew] at hs
      go_wp2
      · go_ret
        rename_i hq
        refine ⟨?_, (HE.out.trans HB.out).trans hb⟩
        rw [hi.out, hdrop.out, if_pos (by rw [keyB_symm]; exact hq)]
        rfl
      · rename_i hq
        refine ⟨⟨j + 1, by omega, by go_num, ⟨?_⟩, HB.out.trans hb⟩, by simp [intOf]; omega⟩
        rw [hi.out, hdrop.out, if_neg]
        rw [keyB_symm, show (pAt L j).1 = ⟨(pAt L j).1.p, (pAt L j).1.l, (pAt L j).1.t⟩ from rfl, hq]; simp
    · go_wp2
      go_ret
      refine ⟨?_, HE.out.trans HB.out⟩
      rw [hi.out, List.drop_eq_nil_of_le (by omega)]
      rfl
end Go.Proofs.Ytfaekfdngkpkdaa
/- The document's caches: without, Picked, Get, New. -/
namespace Go.Proofs.Ytfaekfdngkpkdaa
set_option linter.unusedVariables false
set_option linter.unusedSimpArgs false
open Go.RowKit
attribute [local go_sem] wext_cell wext_frozen wext_heap alloc_cell alloc_frozen alloc_heap setCell_cell objCell_cells objFrozen_cells
attribute [local go_sem high] refKey_eql

def woL (at_ : Int) (L : List (Key × Line)) : List (Key × Line) := if at_ < 0 then L else L.eraseIdx at_.toNat
theorem woL_take (at_ : Int) (L : List (Key × Line)) (j : Nat) (h : j < L.length) : woL at_ (L.take (j + 1)) = if at_ = (j : Int) then woL at_ (L.take j) else woL at_ (L.take j) ++ [pAt L j] := by
  have e : L.take (j + 1) = L.take j ++ [pAt L j] := by rw [List.take_add_one, List.getElem?_eq_getElem h]; simp [pAt, List.getD, h]
  have hl : (L.take j).length = j := by simp; omega
  unfold woL
  by_cases h0 : at_ < 0
  · rw [if_pos h0, if_neg (by omega), if_pos h0, e]
  · rw [if_neg h0, if_neg h0, e]
    by_cases h1 : at_ = (j : Int)
    · rw [if_pos h1, List.eraseIdx_append_of_length_le (by omega), hl, show at_.toNat - j = 0 by omega]
      rw [List.eraseIdx_of_length_le (l := L.take j) (by omega)]; simp
    · rw [if_neg h1]
      by_cases h2 : at_.toNat < j
      · rw [List.eraseIdx_append_of_lt_length (by omega)]
      · rw [List.eraseIdx_of_length_le (l := L.take j) (by omega), List.eraseIdx_of_length_le (by simp; omega)]
theorem woL_length (at_ : Int) (L : List (Key × Line)) : (woL at_ L).length ≤ L.length := by
  unfold woL
  split
  · exact Nat.le_refl _
  · exact List.length_eraseIdx_le ..

theorem store2_heap {w : World} {b : Nat} {c0 c1 v0 v1 : Value} {e : TypeId} {f : Nat × Nat} (h : w.heap[b]? = some (.cells #[c0, c1] e f)) :
    ((w.setCell ⟨b, 0, none⟩ v0).setCell ⟨b, 1, none⟩ v1).heap[b]? = some (.cells #[v0, v1] e f) := setCell_heap_same (setCell_heap_same h)

def EndRef (L' : List (Key × Line)) (r : Int) (w : World) (e : Ending) (w' : World) : Prop := ∃ v', e = .returned (.agg #[v', .int .i64 r]) ∧ RefAt w' v' L' ∧ Ext w w'

set_option maxHeartbeats 1000000 in
theorem without_c (L : List (Key × Line)) (at_ : Int) (v : Value) (r : Int) (w : World) (ho : RefAt w v L) (h0 : -9223372036854775808 ≤ at_) (h1 : at_ ≤ 9223372036854775807) :
    Calls Try.prog 141 #[.agg #[v, .int .i64 r], .int .i64 at_] w (EndRef (woL at_ L) r w) := by
  have hL := ho.2
  have HO := Lib.hid ho.1
  clear ho
  obtain ⟨a, cap, rfl, hn, hm⟩ := HO.out.form
  unfold maxLen at hm
  go_enter Try.func141, Try.ntmps141
  go_wp2
  refine wp_gen ?_; intro W hW
  have hE : Ext w W := by rw [hW]; exact (by repeat (first | exact Ext.refl _ | assumption | refine Ext.alloc ?_ _ | refine Ext.drew ?_ | refine Ext.setCell ?_ (by first | (simp; done) | (dsimp only; omega)) _ | refine Ext.trans ?_ (by assumption)))
  have hb0 : W.heap[w.heap.size]? = some (.cells #[.slice a L.length cap, .int .i64 r] 81 (0, 0)) := by rw [hW]; exact (alloc_other _ _ (by simp)).trans (alloc_same ..)
  have hb1 : W.heap[w.heap.size + 1]? = some (.cells #[.slice none 0 0, .int .i64 0] 81 (0, 0)) := by rw [hW]; exact alloc_same1 ..
  have hsz : w.heap.size + 1 < W.heap.size := (by rw [hW]; (try simp only [World.size_alloc, World.size_setCell, World.size_drew]); omega)
  clear hW
  have HE := Lib.hid hE
  have H0 := Lib.hid hb0
  have H1 := Lib.hid hb1
  clear hE hb0 hb1
  go_loopw [5, 6] (fun o i wr => ∃ (j : Nat) (oa : Option Addr) (n oc : Nat), j ≤ L.length ∧ i = .int .i64 j ∧ o = .slice oa n oc ∧ n = (woL at_ (L.take j)).length ∧ Hid (Owns wr 212 9 (.slice oa n oc) n (rowP (woL at_ (L.take j))) ∧
    (∀ g, (Value.slice oa n oc).ownBlock = some g → W.heap.size ≤ g) ∧ Ext W wr)) (fun _ i _ => L.length - (intOf i).toNat)
  case atStart => exact ⟨0, none, 0, 0, by omega, rfl, rfl, by simp [woL], Lib.hid ⟨by simpa [woL, rowP] using Owns.nil _ _ _, fun g hg => by simp [Value.ownBlock] at hg, Ext.refl _⟩⟩
  case round =>
    obtain ⟨j, oa, n, oc, hj, rfl, rfl, hnl, hR⟩ := hrel
    have hHB := hR.out.2.2
    have hs1 := hHB.size
    have b0 := (heap_cell ((hHB.block _ (by omega)).trans H0.out) 0).trans rfl
    have b1 := (heap_cell ((hHB.block _ (by omega)).trans H0.out) 1).trans rfl
    have HB := Lib.hid hHB
    clear hHB
    by_cases hlt : j < L.length
    · obtain ⟨g, hg⟩ : ∃ g, a = some ⟨g, 0, none⟩ := by
        rcases HO.out.2 with ⟨_, h0⟩ | ⟨g, _, _, he, _⟩
        · omega
        · exact ⟨g, by injection he⟩
      subst hg
      have hgl := HO.out.lt g rfl
      have hnle : n ≤ 1000 := by rw [hnl]; have := woL_length at_ (L.take j); simp at this; omega
      obtain ⟨d0, d1, d2, d3, d4, d5, d6, d7, d8⟩ := ((nineAt HO.out hlt).ext HE.out).ext HB.out
      have hstep := woL_take at_ L j hlt
      have HW := HE.out.size
      have HS := Aside.mk hstep
      have HN := Aside.mk hnl
      clear hstep hnl
      generalize hx : pAt L j = x at d0 d1 d2 d3 d4 d5 d6 d7 d8 HS
      obtain ⟨⟨p, l, t⟩, ⟨xf, xa, xb, xc, xd, xm⟩⟩ := x
      clear hx
      by_cases hat : at_ = (j : Int)
      · subst hat
        go_wp2
        refine ⟨⟨j + 1, oa, n, oc, by omega, by go_num, rfl, by rw [HS.out, if_pos rfl]; exact HN.out, Lib.hid (by rw [HS.out, if_pos rfl]; exact hR.out)⟩, by simp [intOf]; omega⟩
      · have hab : ((j : Int) != at_) = true := by simp; omega
        have HA := Lib.hid (hR.out.1.ext ((Ext.refl wr).alloc (.cells #[.int .i64 p, .int .i64 l, .int .u64 t, .int .u64 xf, .bool xa, .bool xb, .bool xc, .bool xd, .int .u8 xm] 212)))
        go_wp2_with (first | (at_builtin; refine wpList_append_owns rfl _ _ _ _ 9 40 pairRow rfl _ rfl n _ HA.out _ 1 1 rfl (pairC (⟨p, l, t⟩, ⟨xf, xa, xb, xc, xd, xm⟩)) rfl (fun j u hu => by rw [add0, heap_cell (alloc_same wr _) j]; simpa [pairC] using hu) (by simp [pairC, Value.oneCell']) (by unfold maxLen; omega) (by omega) ?_; intro v9 w9 q1 q2 q3; replace q2 : (wr.alloc (.cells #[.int .i64 p, .int .i64 l, .int .u64 t, .int .u64 xf, .bool xa, .bool xb, .bool xc, .bool xd, .int .u8 xm] 212)).grownBy w9 (Value.slice oa n oc).ownBlock := q2; replace q3 : v9.ownBlock = (Value.slice oa n oc).ownBlock ∨ v9.ownBlock = some (wr.alloc (.cells #[.int .i64 p, .int .i64 l, .int .u64 t, .int .u64 xf, .bool xa, .bool xb, .bool xc, .bool xd, .int .u8 xm] 212)).heap.size := q3; obtain ⟨a9, c9, rfl, -, -⟩ := q1.form; simp only [Act.put, Array.set!_eq_setIfInBounds, List.setIfInBounds_toArray, List.set_cons_succ, List.set_cons_zero]))
        all_goals
          refine ⟨⟨j + 1, a9, n + 1, c9, by omega, by go_num, rfl, by rw [HS.out, if_neg hat, List.length_append, HN.out]; rfl, Lib.hid ⟨by rw [HS.out, if_neg hat, rowP_append]; simpa [rowP] using q1, fun g hg => ?_, ?_⟩⟩, by simp [intOf]; omega⟩
          · rcases q3 with q3 | q3 <;> rw [q3] at hg
            · exact hR.out.2.1 g hg
            · cases hg; simp; omega
          · exact Keeps.to_ext (F := []) (Ext.refl W) ((Keeps.of_ext (HB.out.alloc _)).grown q2 (fun x hx => .inr (hR.out.2.1 x hx))) (by simp)
    · have m0 := (HB.out.block w.heap.size (by omega)).trans H0.out
      have m1 := (HB.out.block (w.heap.size + 1) (by omega)).trans H1.out
      have z0 := frozen_of m0
      have z1 := frozen_of m1
      have y0 := (heap_cell m1 0).trans rfl
      have y1 := (heap_cell m1 1).trans rfl
      have M1 := Lib.hid m1
      clear m0 m1
      go_wp2
      refine post_gen (fun V => V.heap[w.heap.size + 1]? = some (.cells #[.slice oa n oc, .int .i64 r] 81 (0, 0)) ∧ Owns V 212 9 (.slice oa n oc) n (rowP (woL at_ (L.take j))) ∧ Ext w V) ⟨?_, ?_, ?_⟩ ?_
      · rw [hnl]; exact store2_heap ((setCell_heap _ _ _ _ _ (by omega)).trans M1.out)
      · refine hR.out.1.keep fun g hg => ?_
        have := hR.out.2.1 g hg
        rw [setCell_heap _ _ _ _ _ (by omega), setCell_heap _ _ _ _ _ (by omega), setCell_heap _ _ _ _ _ (by omega)]
      · exact Ext.setCell (Ext.setCell (Ext.setCell (HE.out.trans HB.out) (by simp) _) (by simp) _) (by simp) _
      rintro V ⟨m5, o5, E5⟩
      have v0 := (heap_cell m5 0).trans rfl
      have v1 := (heap_cell m5 1).trans rfl
      clear m5
      have e5 : L.take j = L := List.take_of_length_le (by omega)
      rw [e5] at o5 hnl
      refine bodyPost_ret (by simp [results, Try.results141, go_sem, ↓IntWalk.iteOmega, *]; try rfl) rfl ⟨_, rfl, ⟨by rw [← hnl]; exact o5, by have := woL_length at_ L; omega⟩, E5⟩
end Go.Proofs.Ytfaekfdngkpkdaa
/- The document's caches: New, Picked, Drop, Evict, Get. -/
namespace Go.Proofs.Ytfaekfdngkpkdaa
set_option linter.unusedVariables false
set_option linter.unusedSimpArgs false
open Go.RowKit
attribute [local go_sem] wext_cell wext_frozen wext_heap alloc_cell alloc_frozen alloc_heap setCell_cell objCell_cells objFrozen_cells
attribute [local go_sem high] refKey_eql

theorem picked_c (pick n : Int) (w : World) (hp0 : -9223372036854775808 ≤ pick) (hp1 : pick ≤ 9223372036854775807) (h0 : 0 < n) (h1 : n ≤ 1000) :
    Calls Try.prog 142 #[.int .i64 pick, .int .i64 n] w fun e w' => e = .returned (.int .i64 (pickI pick n)) ∧ Ext w w' := by
  have q1 : -n < pick.tmod n := Int.lt_tmod_of_pos pick h0
  have q2 : pick.tmod n < n := Int.tmod_lt_of_pos pick h0
  have hnz : ¬ (n = 0) := by omega
  have hz : (n == 0) = false := by simpa using hnz
  have hq : pick.tmod n % n = pickI pick n := tmod_mod pick n
  have hq2 : (pick.tmod n + n) % n = pickI pick n := by rw [Int.add_emod_right]; exact hq
  generalize pickI pick n = q at hq hq2 ⊢
  go_enter Try.func142, Try.ntmps142
  go_wp2
  all_goals
    go_ret
    exact ⟨congrArg (fun x => Ending.returned (.int .i64 x)) hq2, (by repeat (first | exact Ext.refl _ | assumption | refine Ext.alloc ?_ _ | refine Ext.drew ?_ | refine Ext.setCell ?_ (by first | (simp; done) | (dsimp only; omega)) _ | refine Ext.trans ?_ (by assumption)))⟩

theorem refNew_c (room : Int) (w : World) (h0 : -9223372036854775808 ≤ room) (h1 : room ≤ 9223372036854775807) :
    Calls Try.prog 88 #[.int .i64 room] w fun e w' => e = .returned (.agg #[.slice none 0 0, .int .i64 (clampR room)]) ∧ Ext w w' := by
  rcases (show room < 0 ∨ (0 ≤ room ∧ 64 < room) ∨ (0 ≤ room ∧ room ≤ 64) by omega) with h | ⟨h, h'⟩ | ⟨h, h'⟩
  · rw [show (clampR room : Int) = 0 by unfold clampR; rw [if_pos h]; rfl]
    go_enter Try.func88, Try.ntmps88
    go_wp2
    refine bodyPost_ret (by simp [results, Try.results88, go_sem, ↓IntWalk.iteOmega, *]; try rfl) rfl ⟨rfl, (by repeat (first | exact Ext.refl _ | assumption | refine Ext.alloc ?_ _ | refine Ext.drew ?_ | refine Ext.setCell ?_ (by first | (simp; done) | (dsimp only; omega)) _ | refine Ext.trans ?_ (by assumption)))⟩
  · rw [show (clampR room : Int) = 64 by unfold clampR; rw [if_neg (by omega), if_pos h']; rfl]
    go_enter Try.func88, Try.ntmps88
    go_wp2
    refine bodyPost_ret (by simp [results, Try.results88, go_sem, ↓IntWalk.iteOmega, *]; try rfl) rfl ⟨rfl, (by repeat (first | exact Ext.refl _ | assumption | refine Ext.alloc ?_ _ | refine Ext.drew ?_ | refine Ext.setCell ?_ (by first | (simp; done) | (dsimp only; omega)) _ | refine Ext.trans ?_ (by assumption)))⟩
  · rw [show (clampR room : Int) = room by unfold clampR; rw [if_neg (by omega), if_neg (by omega)]; omega]
    go_enter Try.func88, Try.ntmps88
    go_wp2
    refine bodyPost_ret (by simp [results, Try.results88, go_sem, ↓IntWalk.iteOmega, *]; try rfl) rfl ⟨rfl, (by repeat (first | exact Ext.refl _ | assumption | refine Ext.alloc ?_ _ | refine Ext.drew ?_ | refine Ext.setCell ?_ (by first | (simp; done) | (dsimp only; omega)) _ | refine Ext.trans ?_ (by assumption)))⟩

theorem RefAt.store2 {w : World} {b : Nat} {c0 c1 v0 v1 v : Value} {L : List (Key × Line)} (h : RefAt w v L) (hb : w.heap[b]? = some (.cells #[c0, c1] 81 (0, 0))) :
    RefAt ((w.setCell ⟨b, 0, none⟩ v0).setCell ⟨b, 1, none⟩ v1) v L := by
  refine ⟨h.1.keep fun g hg => ?_, h.2⟩
  have : b ≠ g := fun e => by obtain ⟨c, hc⟩ := h.1.heap g hg; rw [← e, hb] at hc; cases hc
  rw [setCell_heap _ _ _ _ _ this, setCell_heap _ _ _ _ _ this]

set_option maxHeartbeats 1000000 in
theorem refDrop_c (L : List (Key × Line)) (k : Key) (v : Value) (r : Int) (w : World) (ho : RefAt w v L) :
    Calls Try.prog 124 #[.agg #[v, .int .i64 r], k.val] w (EndRef (delL k L) r w) := by
  have HO := Lib.hid ho
  have hL := ho.2
  obtain ⟨p, l, t⟩ := k
  obtain ⟨a, cap, rfl, hn, hm⟩ := ho.1.form
  unfold Key.val
  unfold maxLen at hm
  have hix := ix_look ⟨p, l, t⟩ L 0
  have hdel : delL ⟨p, l, t⟩ L = woL (ixK ⟨p, l, t⟩ (keysOf L) 0) L := by
    have : ixK ⟨p, l, t⟩ (keysOf L) 0 = _ := hix
    rw [this]
    unfold delL woL
    cases look ⟨p, l, t⟩ L 0 with
    | none => simp
    | some y => simp; omega
  have hr : -1 ≤ ixK ⟨p, l, t⟩ (keysOf L) 0 ∧ ixK ⟨p, l, t⟩ (keysOf L) 0 ≤ 1000 := by
    have : ixK ⟨p, l, t⟩ (keysOf L) 0 = _ := hix
    rw [this]
    cases hl : look ⟨p, l, t⟩ L 0 with
    | none => simp
    | some y => have := (List.getElem?_eq_some_iff.1 (look_some hl).2.1).1; simp; omega
  generalize hq : ixK ⟨p, l, t⟩ (keysOf L) 0 = q at hdel hr
  have HQ := Aside.mk hq
  have HD := Aside.mk hdel
  clear hix hq hdel ho
  obtain ⟨hr0, hr1⟩ := hr
  go_enter Try.func124, Try.ntmps124
  go_upto_region 1 with (fail)
  refine wp_gen ?_; intro W hW
  have hE : Ext w W := by rw [hW]; exact (by repeat (first | exact Ext.refl _ | assumption | refine Ext.alloc ?_ _ | refine Ext.drew ?_ | refine Ext.setCell ?_ (by first | (simp; done) | (dsimp only; omega)) _ | refine Ext.trans ?_ (by assumption)))
  have hb0 : W.heap[w.heap.size]? = some (.cells #[.slice a L.length cap, .int .i64 r] 81 (0, 0)) := by rw [hW]; exact (alloc_other _ _ (by simp; omega)).trans ((alloc_other _ _ (by simp)).trans (alloc_same ..))
  have hb1 : W.heap[w.heap.size + 1]? = some (.cells #[.int .i64 p, .int .i64 l, .int .u64 t] 178 (0, 0)) := by rw [hW]; exact (alloc_other _ _ (by simp)).trans (alloc_same1 ..)
  have hb2 : W.heap[w.heap.size + 1 + 1]? = some (.cells #[.slice none 0 0, .int .i64 0] 81 (0, 0)) := by rw [hW]; exact alloc_same2 ..
  have x0 := (heap_cell hb0 0).trans rfl
  have x1 := (heap_cell hb0 1).trans rfl
  have x2 := (heap_cell hb1 0).trans rfl
  have x3 := (heap_cell hb1 1).trans rfl
  have x4 := (heap_cell hb1 2).trans rfl
  have hsz : w.heap.size + 2 < W.heap.size := (by rw [hW]; (try simp only [World.size_alloc, World.size_setCell, World.size_drew]); omega)
  have HE := Lib.hid hE
  have H2 := Lib.hid hb2
  clear hW hE hb0 hb1 hb2
  refine region_mix [.q [0, 1, 2], .l 3 3, .l 4 3, .l 5 2] (by kernel_rfl) (by kernel_rfl) ?_
  (try refine ⟨fun h => absurd h (by simp), ?_⟩); (repeat (unfold wpPlan; simp only [pickL, List.map_cons, List.map_nil, List.getD_cons_succ, List.getD_cons_zero]; (repeat go_big_quiet_step (fail)); refine wpQuiet_nil ?_)); unfold wpPlan; intro w1 hb1; (try simp only [pickL, List.map_cons, List.map_nil, List.getD_cons_succ, List.getD_cons_zero])
  go_wp2_with (first | (go_at_call 127; refine (find_c L ⟨p, l, t⟩ _ r _ ((HO.out.ext HE.out).ext hb1)).mono ?_; rintro e w2 ⟨rfl, hb2⟩; rw [HQ.out]))
  refine ⟨?_, ?_⟩
  · (try intro _); exact hb1.trans hb2
  have HB2 := Lib.hid (hb1.trans hb2)
  clear hb1 hb2
  (try refine ⟨fun h => absurd h (by simp), ?_⟩); (repeat (unfold wpPlan; simp only [pickL, List.map_cons, List.map_nil, List.getD_cons_succ, List.getD_cons_zero]; (repeat go_big_quiet_step (fail)); refine wpQuiet_nil ?_)); unfold wpPlan; intro w3 hb3; (try simp only [pickL, List.map_cons, List.map_nil, List.getD_cons_succ, List.getD_cons_zero])
  go_wp2_with (first | (go_at_call 141; refine (without_c L q _ r _ (((HO.out.ext HE.out).ext HB2.out).ext hb3) (by omega) (by omega)).mono ?_; rintro e w4 ⟨v4, rfl, hv4, hb4⟩; obtain ⟨a4, c4, rfl, -, -⟩ := hv4.1.form))
  refine ⟨?_, ?_⟩
  · (try intro _); exact hb3.trans hb4
  have HB4 := Lib.hid (HB2.out.trans (hb3.trans hb4))
  have HV4 := Lib.hid hv4
  clear hb3 hb4 hv4
  (try refine ⟨fun h => absurd h (by simp), ?_⟩); (repeat (unfold wpPlan; simp only [pickL, List.map_cons, List.map_nil, List.getD_cons_succ, List.getD_cons_zero]; (repeat go_big_quiet_step (fail)); refine wpQuiet_nil ?_)); unfold wpPlan; intro w5 hb5; (try simp only [pickL, List.map_cons, List.map_nil, List.getD_cons_succ, List.getD_cons_zero])
  have m5 := ((HB4.out.trans hb5).block _ (by omega)).trans H2.out
  have y0 := (heap_cell m5 0).trans rfl
  have y1 := (heap_cell m5 1).trans rfl
  have z0 := frozen_of m5
  have M5 := Lib.hid m5
  have HB5 := Lib.hid (HB4.out.trans hb5)
  have hV5 := HV4.out.ext hb5
  have HV5 := Lib.hid hV5
  clear hb5 m5 hV5
  go_wp2
  (try refine ⟨fun h => absurd h (by simp), ?_⟩); (repeat (unfold wpPlan; simp only [pickL, List.map_cons, List.map_nil, List.getD_cons_succ, List.getD_cons_zero]; (repeat go_big_quiet_step (fail)); refine wpQuiet_nil ?_)); unfold wpPlan; intro w6 hb6; (try simp only [pickL, List.map_cons, List.map_nil, List.getD_cons_succ, List.getD_cons_zero])
  have m6 := (hb6.block (w.heap.size + 1 + 1) (by simp; have := HB5.out.size; omega)).trans (store2_heap M5.out)
  have E6 : Ext w w6 := (HE.out.trans HB5.out).setCell (by simp; omega) _ |>.setCell (by simp; omega) _ |>.trans hb6
  have v6 := ((HV5.out.store2 M5.out).ext hb6)
  have u0 := (heap_cell m6 0).trans rfl
  have u1 := (heap_cell m6 1).trans rfl
  clear m6 hb6 y0 y1 z0 x0 x1 x2 x3 x4
  go_wp2
  refine bodyPost_ret (by simp [results, Try.results124, go_sem, ↓IntWalk.iteOmega, *]; try rfl) rfl ⟨_, rfl, by rw [HD.out]; exact v6, E6⟩
end Go.Proofs.Ytfaekfdngkpkdaa
/- The document's caches: Evict, Get. -/
namespace Go.Proofs.Ytfaekfdngkpkdaa
set_option linter.unusedVariables false
set_option linter.unusedSimpArgs false
open Go.RowKit
attribute [local go_sem] wext_cell wext_frozen wext_heap alloc_cell alloc_frozen alloc_heap setCell_cell objCell_cells objFrozen_cells
attribute [local go_sem high] refKey_eql

set_option maxHeartbeats 1000000 in
theorem refEvict_c (L : List (Key × Line)) (pick : Int) (v : Value) (r : Int) (w : World) (ho : RefAt w v L) (hp0 : -9223372036854775808 ≤ pick) (hp1 : pick ≤ 9223372036854775807) :
    Calls Try.prog 126 #[.agg #[v, .int .i64 r], .int .i64 pick] w (EndRef (evictL pick L) r w) := by
  have HO := Lib.hid ho
  have hL := ho.2
  obtain ⟨a, cap, rfl, hn, hm⟩ := ho.1.form
  unfold maxLen at hm
  clear ho
  by_cases h0 : L.length = 0
  · have hz : ((L.length : Nat) : Int) = 0 := by omega
    have he : evictL pick L = L := by unfold evictL; rw [if_pos h0]
    rw [he]
    go_enter Try.func126, Try.ntmps126
    go_wp2
    refine bodyPost_ret (by simp [results, Try.results126, go_sem, ↓IntWalk.iteOmega, *]; try rfl) rfl ⟨_, rfl, HO.out.ext (by repeat (first | exact Ext.refl _ | assumption | refine Ext.alloc ?_ _ | refine Ext.drew ?_ | refine Ext.setCell ?_ (by first | (simp; done) | (dsimp only; omega)) _ | refine Ext.trans ?_ (by assumption))), (by repeat (first | exact Ext.refl _ | assumption | refine Ext.alloc ?_ _ | refine Ext.drew ?_ | refine Ext.setCell ?_ (by first | (simp; done) | (dsimp only; omega)) _ | refine Ext.trans ?_ (by assumption)))⟩
  · have hz : (((L.length : Nat) : Int) == 0) = false := by simp; simpa using h0
    have hdel : evictL pick L = woL (pickI pick L.length) L := by
      unfold evictL woL
      rw [if_neg h0, if_neg (by have := Int.emod_nonneg pick (b := (L.length : Int)) (by omega); unfold pickI; omega)]
    have hr : 0 ≤ pickI pick L.length ∧ pickI pick L.length ≤ 1000 := by
      have := Int.emod_nonneg pick (b := (L.length : Int)) (by omega)
      have := Int.emod_lt_of_pos pick (b := (L.length : Int)) (by omega)
      unfold pickI; omega
    have hpc := fun w => picked_c pick L.length w hp0 hp1 (by omega) (by omega)
    generalize pickI pick L.length = q at hdel hr hpc
    have HP := Lib.hid hpc
    have HD := Aside.mk hdel
    clear hdel hpc
    obtain ⟨hr0, hr1⟩ := hr
    go_enter Try.func126, Try.ntmps126
    go_upto_region 3 with (fail)
    refine wp_gen ?_; intro W hW
    have hE : Ext w W := by rw [hW]; exact (by repeat (first | exact Ext.refl _ | assumption | refine Ext.alloc ?_ _ | refine Ext.drew ?_ | refine Ext.setCell ?_ (by first | (simp; done) | (dsimp only; omega)) _ | refine Ext.trans ?_ (by assumption)))
    have hb0 : W.heap[w.heap.size]? = some (.cells #[.slice a L.length cap, .int .i64 r] 81 (0, 0)) := by rw [hW]; exact (alloc_other _ _ (by simp)).trans (alloc_same ..)
    have hb2 : W.heap[w.heap.size + 1]? = some (.cells #[.slice none 0 0, .int .i64 0] 81 (0, 0)) := by rw [hW]; exact alloc_same1 ..
    have x0 := (heap_cell hb0 0).trans rfl
    have x1 := (heap_cell hb0 1).trans rfl
    have hsz : w.heap.size + 1 < W.heap.size := (by rw [hW]; (try simp only [World.size_alloc, World.size_setCell, World.size_drew]); omega)
    have HE := Lib.hid hE
    have H2 := Lib.hid hb2
    clear hW hE hb0 hb2
    refine region_mix [.q [0, 1, 2, 3, 4], .l 5 3, .l 6 3, .l 7 2] (by kernel_rfl) (by kernel_rfl) ?_
    (try refine ⟨fun h => absurd h (by simp), ?_⟩); (repeat (unfold wpPlan; simp only [pickL, List.map_cons, List.map_nil, List.getD_cons_succ, List.getD_cons_zero]; (repeat go_big_quiet_step (fail)); refine wpQuiet_nil ?_)); unfold wpPlan; intro w1 hb1; (try simp only [pickL, List.map_cons, List.map_nil, List.getD_cons_succ, List.getD_cons_zero])
    go_wp2_with (first | (go_at_call 142; refine (HP.out _).mono ?_; rintro e w2 ⟨rfl, hb2⟩))
    refine ⟨?_, ?_⟩
    · (try intro _); exact hb1.trans hb2
    have HB2 := Lib.hid (hb1.trans hb2)
    clear hb1 hb2
    (try refine ⟨fun h => absurd h (by simp), ?_⟩); (repeat (unfold wpPlan; simp only [pickL, List.map_cons, List.map_nil, List.getD_cons_succ, List.getD_cons_zero]; (repeat go_big_quiet_step (fail)); refine wpQuiet_nil ?_)); unfold wpPlan; intro w3 hb3; (try simp only [pickL, List.map_cons, List.map_nil, List.getD_cons_succ, List.getD_cons_zero])
    go_wp2_with (first | (go_at_call 141; refine (without_c L q _ r _ (((HO.out.ext HE.out).ext HB2.out).ext hb3) (by omega) (by omega)).mono ?_; rintro e w4 ⟨v4, rfl, hv4, hb4⟩; obtain ⟨a4, c4, rfl, -, -⟩ := hv4.1.form))
    refine ⟨?_, ?_⟩
    · (try intro _); exact hb3.trans hb4
    have HB4 := Lib.hid (HB2.out.trans (hb3.trans hb4))
    have HV4 := Lib.hid hv4
    clear hb3 hb4 hv4
    (try refine ⟨fun h => absurd h (by simp), ?_⟩); (repeat (unfold wpPlan; simp only [pickL, List.map_cons, List.map_nil, List.getD_cons_succ, List.getD_cons_zero]; (repeat go_big_quiet_step (fail)); refine wpQuiet_nil ?_)); unfold wpPlan; intro w5 hb5; (try simp only [pickL, List.map_cons, List.map_nil, List.getD_cons_succ, List.getD_cons_zero])
    have m5 := ((HB4.out.trans hb5).block _ (by omega)).trans H2.out
    have y0 := (heap_cell m5 0).trans rfl
    have y1 := (heap_cell m5 1).trans rfl
    have z0 := frozen_of m5
    have M5 := Lib.hid m5
    have HB5 := Lib.hid (HB4.out.trans hb5)
    have hV5 := HV4.out.ext hb5
    have HV5 := Lib.hid hV5
    clear hb5 m5 hV5
    go_wp2
    (try refine ⟨fun h => absurd h (by simp), ?_⟩); (repeat (unfold wpPlan; simp only [pickL, List.map_cons, List.map_nil, List.getD_cons_succ, List.getD_cons_zero]; (repeat go_big_quiet_step (fail)); refine wpQuiet_nil ?_)); unfold wpPlan; intro w6 hb6; (try simp only [pickL, List.map_cons, List.map_nil, List.getD_cons_succ, List.getD_cons_zero])
    have m6 := (hb6.block (w.heap.size + 1) (by simp; have := HB5.out.size; omega)).trans (store2_heap M5.out)
    have E6 : Ext w w6 := (HE.out.trans HB5.out).setCell (by simp) _ |>.setCell (by simp) _ |>.trans hb6
    have v6 := ((HV5.out.store2 M5.out).ext hb6)
    have u0 := (heap_cell m6 0).trans rfl
    have u1 := (heap_cell m6 1).trans rfl
    clear m6 hb6 y0 y1 z0 x0 x1
    go_wp2
    refine bodyPost_ret (by simp [results, Try.results126, go_sem, ↓IntWalk.iteOmega, *]; try rfl) rfl ⟨_, rfl, by rw [HD.out]; exact v6, E6⟩

set_option maxHeartbeats 1000000 in
theorem refGet_c (L : List (Key × Line)) (k : Key) (v : Value) (r : Int) (w : World) (ho : RefAt w v L) :
    Calls Try.prog 95 #[.agg #[v, .int .i64 r], k.val] w fun e w' => e = .returned (.tuple #[(getLine k L).val, .bool (hasK k L)]) ∧ Ext w w' := by
  have HO := Lib.hid ho
  have hL := ho.2
  obtain ⟨p, l, t⟩ := k
  obtain ⟨a, cap, rfl, hn, hm⟩ := ho.1.form
  unfold maxLen at hm
  have hix := ix_look ⟨p, l, t⟩ L 0
  have hfc := fun w ho => find_c L ⟨p, l, t⟩ (.slice a L.length cap) r w ho
  cases hl : look ⟨p, l, t⟩ L 0 with
  | none =>
    have hi : ixK ⟨p, l, t⟩ (keysOf L) 0 = -1 := by have : ixK ⟨p, l, t⟩ (keysOf L) 0 = _ := hix; rw [this, hl]
    rw [hi] at hfc
    rw [show getLine ⟨p, l, t⟩ L = noLine by unfold getLine; rw [hl], show hasK ⟨p, l, t⟩ L = false by unfold hasK; rw [hl]; rfl]
    unfold Key.val at *
    have HF := Lib.hid hfc
    clear hix ho hl hi hfc
    go_enter Try.func95, Try.ntmps95
    go_wp2_with (first | (go_at_call 127; refine (HF.out _ (HO.out.ext (by repeat (first | exact Ext.refl _ | assumption | refine Ext.alloc ?_ _ | refine Ext.drew ?_ | refine Ext.setCell ?_ (by first | (simp; done) | (dsimp only; omega)) _ | refine Ext.trans ?_ (by assumption))))).mono ?_; rintro e w2 ⟨rfl, hb2⟩; have ⟨hc, hf, hh, hs⟩ := hb2.facts; simp only [World.size_alloc] at hs))
    refine post_gen (fun V => V.heap[w.heap.size + 1 + 1]? = some (.cells #[.int .u64 0, .bool false, .bool false, .bool false, .bool false, .int .u8 0] 175 (0, 0)) ∧ Ext w V)
      ⟨store6_heap ((hb2.block _ (by simp)).trans (alloc_same2 ..)), ext6 (Ext.trans (by repeat (first | exact Ext.refl _ | assumption | refine Ext.alloc ?_ _ | refine Ext.drew ?_ | refine Ext.setCell ?_ (by first | (simp; done) | (dsimp only; omega)) _ | refine Ext.trans ?_ (by assumption))) hb2) (by omega)⟩ ?_
    rintro V ⟨m5, E5⟩
    have v0 := (heap_cell m5 0).trans rfl
    have v1 := (heap_cell m5 1).trans rfl
    have v2 := (heap_cell m5 2).trans rfl
    have v3 := (heap_cell m5 3).trans rfl
    have v4 := (heap_cell m5 4).trans rfl
    have v5 := (heap_cell m5 5).trans rfl
    clear m5 hb2 hc hf hh hs
    refine bodyPost_ret (by simp [results, Try.results95, go_sem, ↓IntWalk.iteOmega, *]; try rfl) rfl ⟨rfl, E5⟩
  | some y =>
    obtain ⟨i, y⟩ := y
    have hlt : i < L.length := (List.getElem?_eq_some_iff.1 (look_some hl).2.1).1
    have hpa : pAt L i = (⟨p, l, t⟩, y) := by
      have := (look_some hl).2.1
      simp only [Nat.sub_zero] at this
      simp [pAt, List.getD, this]
    have hi : ixK ⟨p, l, t⟩ (keysOf L) 0 = (i : Int) := by have : ixK ⟨p, l, t⟩ (keysOf L) 0 = _ := hix; rw [this, hl]
    rw [hi] at hfc
    rw [show getLine ⟨p, l, t⟩ L = y by unfold getLine; rw [hl], show hasK ⟨p, l, t⟩ L = true by unfold hasK; rw [hl]; rfl]
    obtain ⟨g, rfl⟩ : ∃ g, a = some ⟨g, 0, none⟩ := by
      rcases ho.1.2 with ⟨_, h0⟩ | ⟨g, _, _, he, _⟩
      · omega
      · exact ⟨g, by injection he⟩
    have hgl := ho.1.lt g rfl
    have h9 := nineAt ho.1 hlt
    rw [hpa] at h9
    obtain ⟨yf, ya, yb, yc, yd, ym⟩ := y
    unfold Key.val Line.val at *
    obtain ⟨-, -, -, d3, d4, d5, d6, d7, d8⟩ := h9
    have HF := Lib.hid hfc
    clear hix ho hl hi hfc hpa
    go_enter Try.func95, Try.ntmps95
    go_wp2_with (first | (go_at_call 127; refine (HF.out _ (HO.out.ext (by repeat (first | exact Ext.refl _ | assumption | refine Ext.alloc ?_ _ | refine Ext.drew ?_ | refine Ext.setCell ?_ (by first | (simp; done) | (dsimp only; omega)) _ | refine Ext.trans ?_ (by assumption))))).mono ?_; rintro e w2 ⟨rfl, hb2⟩; have ⟨hc, hf, hh, hs⟩ := hb2.facts; simp only [World.size_alloc] at hs))
    refine post_gen (fun V => V.heap[w.heap.size + 1 + 1]? = some (.cells #[.int .u64 yf, .bool ya, .bool yb, .bool yc, .bool yd, .int .u8 ym] 175 (0, 0)) ∧ Ext w V)
      ⟨store6_heap ((hb2.block _ (by simp)).trans (alloc_same2 ..)), ext6 (Ext.trans (by repeat (first | exact Ext.refl _ | assumption | refine Ext.alloc ?_ _ | refine Ext.drew ?_ | refine Ext.setCell ?_ (by first | (simp; done) | (dsimp only; omega)) _ | refine Ext.trans ?_ (by assumption))) hb2) (by omega)⟩ ?_
    rintro V ⟨m5, E5⟩
    have v0 := (heap_cell m5 0).trans rfl
    have v1 := (heap_cell m5 1).trans rfl
    have v2 := (heap_cell m5 2).trans rfl
    have v3 := (heap_cell m5 3).trans rfl
    have v4 := (heap_cell m5 4).trans rfl
    have v5 := (heap_cell m5 5).trans rfl
    clear m5 hb2 hc hf hh hs d3 d4 d5 d6 d7 d8
    refine bodyPost_ret (by simp [results, Try.results95, go_sem, ↓IntWalk.iteOmega, *]; try rfl) rfl ⟨rfl, E5⟩
end Go.Proofs.Ytfaekfdngkpkdaa
/- The document's caches: DropOf. -/
namespace Go.Proofs.Ytfaekfdngkpkdaa
set_option linter.unusedVariables false
set_option linter.unusedSimpArgs false
open Go.RowKit
attribute [local go_sem] wext_cell wext_frozen wext_heap alloc_cell alloc_frozen alloc_heap setCell_cell objCell_cells objFrozen_cells
attribute [local go_sem high] refKey_eql

def filtL (pcid : Int) (L : List (Key × Line)) : List (Key × Line) := L.filter fun x => x.1.p != pcid
theorem filtL_take (pcid : Int) (L : List (Key × Line)) (j : Nat) (h : j < L.length) : filtL pcid (L.take (j + 1)) = if (pAt L j).1.p = pcid then filtL pcid (L.take j) else filtL pcid (L.take j) ++ [pAt L j] := by
  have e : L.take (j + 1) = L.take j ++ [pAt L j] := by rw [List.take_add_one, List.getElem?_eq_getElem h]; simp [pAt, List.getD, h]
  rw [e]
  unfold filtL
  rw [List.filter_append]
  by_cases h1 : (pAt L j).1.p = pcid
  · rw [if_pos h1]; simp [h1]
  · rw [if_neg h1]; simp [h1]
theorem filtL_length (pcid : Int) (L : List (Key × Line)) : (filtL pcid L).length ≤ L.length := List.length_filter_le ..

set_option maxHeartbeats 1000000 in
theorem refDropOf_c (L : List (Key × Line)) (at_ : Int) (v : Value) (r : Int) (w : World) (ho : RefAt w v L)  :
    Calls Try.prog 125 #[.agg #[v, .int .i64 r], .int .i64 at_] w (EndRef (filtL at_ L) r w) := by
  have hL := ho.2
  have HO := Lib.hid ho.1
  clear ho
  obtain ⟨a, cap, rfl, hn, hm⟩ := HO.out.form
  unfold maxLen at hm
  go_enter Try.func125, Try.ntmps125
  go_wp2
  refine wp_gen ?_; intro W hW
  have hE : Ext w W := by rw [hW]; exact (by repeat (first | exact Ext.refl _ | assumption | refine Ext.alloc ?_ _ | refine Ext.drew ?_ | refine Ext.setCell ?_ (by first | (simp; done) | (dsimp only; omega)) _ | refine Ext.trans ?_ (by assumption)))
  have hb0 : W.heap[w.heap.size]? = some (.cells #[.slice a L.length cap, .int .i64 r] 81 (0, 0)) := by rw [hW]; exact (alloc_other _ _ (by simp)).trans (alloc_same ..)
  have hb1 : W.heap[w.heap.size + 1]? = some (.cells #[.slice none 0 0, .int .i64 0] 81 (0, 0)) := by rw [hW]; exact alloc_same1 ..
  have hsz : w.heap.size + 1 < W.heap.size := (by rw [hW]; (try simp only [World.size_alloc, World.size_setCell, World.size_drew]); omega)
  clear hW
  have HE := Lib.hid hE
  have H0 := Lib.hid hb0
  have H1 := Lib.hid hb1
  clear hE hb0 hb1
  go_loopw [5, 6] (fun o i wr => ∃ (j : Nat) (oa : Option Addr) (n oc : Nat), j ≤ L.length ∧ i = .int .i64 j ∧ o = .slice oa n oc ∧ n = (filtL at_ (L.take j)).length ∧ Hid (Owns wr 212 9 (.slice oa n oc) n (rowP (filtL at_ (L.take j))) ∧
    (∀ g, (Value.slice oa n oc).ownBlock = some g → W.heap.size ≤ g) ∧ Ext W wr)) (fun _ i _ => L.length - (intOf i).toNat)
  case atStart => exact ⟨0, none, 0, 0, by omega, rfl, rfl, by simp [filtL], Lib.hid ⟨by simpa [filtL, rowP] using Owns.nil _ _ _, fun g hg => by simp [Value.ownBlock] at hg, Ext.refl _⟩⟩
  case round =>
    obtain ⟨j, oa, n, oc, hj, rfl, rfl, hnl, hR⟩ := hrel
    have hHB := hR.out.2.2
    have hs1 := hHB.size
    have b0 := (heap_cell ((hHB.block _ (by omega)).trans H0.out) 0).trans rfl
    have b1 := (heap_cell ((hHB.block _ (by omega)).trans H0.out) 1).trans rfl
    have HB := Lib.hid hHB
    clear hHB
    by_cases hlt : j < L.length
    · obtain ⟨g, hg⟩ : ∃ g, a = some ⟨g, 0, none⟩ := by
        rcases HO.out.2 with ⟨_, h0⟩ | ⟨g, _, _, he, _⟩
        · omega
        · exact ⟨g, by injection he⟩
      subst hg
      have hgl := HO.out.lt g rfl
      have hnle : n ≤ 1000 := by rw [hnl]; have := filtL_length at_ (L.take j); simp at this; omega
      obtain ⟨d0, d1, d2, d3, d4, d5, d6, d7, d8⟩ := ((nineAt HO.out hlt).ext HE.out).ext HB.out
      have hstep := filtL_take at_ L j hlt
      have HW := HE.out.size
      have HS := Aside.mk hstep
      have HN := Aside.mk hnl
      clear hstep hnl
      generalize hx : pAt L j = x at d0 d1 d2 d3 d4 d5 d6 d7 d8 HS
      obtain ⟨⟨p, l, t⟩, ⟨xf, xa, xb, xc, xd, xm⟩⟩ := x
      clear hx
      by_cases hat : p = at_
      · subst hat
        go_wp2
        refine ⟨⟨j + 1, oa, n, oc, by omega, by go_num, rfl, by rw [HS.out, if_pos rfl]; exact HN.out, Lib.hid (by rw [HS.out, if_pos rfl]; exact hR.out)⟩, by simp [intOf]; omega⟩
      · have hab : (p != at_) = true := by simpa using hat
        have HA := Lib.hid (hR.out.1.ext ((Ext.refl wr).alloc (.cells #[.int .i64 p, .int .i64 l, .int .u64 t, .int .u64 xf, .bool xa, .bool xb, .bool xc, .bool xd, .int .u8 xm] 212)))
        go_wp2_with (first | (at_builtin; refine wpList_append_owns rfl _ _ _ _ 9 40 pairRow rfl _ rfl n _ HA.out _ 1 1 rfl (pairC (⟨p, l, t⟩, ⟨xf, xa, xb, xc, xd, xm⟩)) rfl (fun j u hu => by rw [add0, heap_cell (alloc_same wr _) j]; simpa [pairC] using hu) (by simp [pairC, Value.oneCell']) (by unfold maxLen; omega) (by omega) ?_; intro v9 w9 q1 q2 q3; replace q2 : (wr.alloc (.cells #[.int .i64 p, .int .i64 l, .int .u64 t, .int .u64 xf, .bool xa, .bool xb, .bool xc, .bool xd, .int .u8 xm] 212)).grownBy w9 (Value.slice oa n oc).ownBlock := q2; replace q3 : v9.ownBlock = (Value.slice oa n oc).ownBlock ∨ v9.ownBlock = some (wr.alloc (.cells #[.int .i64 p, .int .i64 l, .int .u64 t, .int .u64 xf, .bool xa, .bool xb, .bool xc, .bool xd, .int .u8 xm] 212)).heap.size := q3; obtain ⟨a9, c9, rfl, -, -⟩ := q1.form; simp only [Act.put, Array.set!_eq_setIfInBounds, List.setIfInBounds_toArray, List.set_cons_succ, List.set_cons_zero]))
        all_goals
          refine ⟨⟨j + 1, a9, n + 1, c9, by omega, by go_num, rfl, by rw [HS.out, if_neg hat, List.length_append, HN.out]; rfl, Lib.hid ⟨by rw [HS.out, if_neg hat, rowP_append]; simpa [rowP] using q1, fun g hg => ?_, ?_⟩⟩, by simp [intOf]; omega⟩
          · rcases q3 with q3 | q3 <;> rw [q3] at hg
            · exact hR.out.2.1 g hg
            · cases hg; simp; omega
          · exact Keeps.to_ext (F := []) (Ext.refl W) ((Keeps.of_ext (HB.out.alloc _)).grown q2 (fun x hx => .inr (hR.out.2.1 x hx))) (by simp)
    · have m0 := (HB.out.block w.heap.size (by omega)).trans H0.out
      have m1 := (HB.out.block (w.heap.size + 1) (by omega)).trans H1.out
      have z0 := frozen_of m0
      have z1 := frozen_of m1
      have y0 := (heap_cell m1 0).trans rfl
      have y1 := (heap_cell m1 1).trans rfl
      have M1 := Lib.hid m1
      clear m0 m1
      go_wp2
      refine post_gen (fun V => V.heap[w.heap.size + 1]? = some (.cells #[.slice oa n oc, .int .i64 r] 81 (0, 0)) ∧ Owns V 212 9 (.slice oa n oc) n (rowP (filtL at_ (L.take j))) ∧ Ext w V) ⟨?_, ?_, ?_⟩ ?_
      · rw [hnl]; exact store2_heap ((setCell_heap _ _ _ _ _ (by omega)).trans M1.out)
      · refine hR.out.1.keep fun g hg => ?_
        have := hR.out.2.1 g hg
        rw [setCell_heap _ _ _ _ _ (by omega), setCell_heap _ _ _ _ _ (by omega), setCell_heap _ _ _ _ _ (by omega)]
      · exact Ext.setCell (Ext.setCell (Ext.setCell (HE.out.trans HB.out) (by simp) _) (by simp) _) (by simp) _
      rintro V ⟨m5, o5, E5⟩
      have v0 := (heap_cell m5 0).trans rfl
      have v1 := (heap_cell m5 1).trans rfl
      clear m5
      have e5 : L.take j = L := List.take_of_length_le (by omega)
      rw [e5] at o5 hnl
      refine bodyPost_ret (by simp [results, Try.results125, go_sem, ↓IntWalk.iteOmega, *]; try rfl) rfl ⟨_, rfl, ⟨by rw [← hnl]; exact o5, by have := filtL_length at_ L; omega⟩, E5⟩
end Go.Proofs.Ytfaekfdngkpkdaa
/- The document's caches: Put. -/
namespace Go.Proofs.Ytfaekfdngkpkdaa
set_option linter.unusedVariables false
set_option linter.unusedSimpArgs false
open Go.RowKit
attribute [local go_sem] wext_cell wext_frozen wext_heap alloc_cell alloc_frozen alloc_heap setCell_cell objCell_cells objFrozen_cells
attribute [local go_sem high] refKey_eql

/-- One cell written in a row that is held. -/
theorem Owns.setCell {w : World} {e : TypeId} {size n c g j : Nat} {xs : List Value} {u : Value} (h : Owns w e size (.slice (some ⟨g, 0, none⟩) n c) n xs) (hj : j < xs.length) :
    Owns (w.setCell ⟨g, j, none⟩ u) e size (.slice (some ⟨g, 0, none⟩) n c) n (xs.set j u) := by
  refine ⟨by rw [List.length_set]; exact h.1, ?_⟩
  rcases h.2 with ⟨hv, _⟩ | ⟨g', cap, cur, hv, hg, h1, h2, h3, h4⟩
  · cases hv
  · cases hv
    refine .inr ⟨g, c, cur.setIfInBounds j u, rfl, setCell_heap_same hg, h1, h2, by simpa using h3, ?_⟩
    have hj2 : j < n * size := by rw [← h.1]; exact hj
    rw [Array.toList_setIfInBounds, List.take_set, h4]

theorem rowP_set : ∀ (L : List (Key × Line)) (i : Nat) (k : Key) (x : Line), (∃ y, L[i]? = some (k, y)) →
    rowP (L.set i (k, x)) = ((((((rowP L).set (i * 9 + 3) (.int .u64 x.f)).set (i * 9 + 4) (.bool x.a)).set (i * 9 + 5) (.bool x.b)).set (i * 9 + 6) (.bool x.c)).set (i * 9 + 7) (.bool x.d)).set (i * 9 + 8) (.int .u8 x.m)
  | [], i, k, x, h => by obtain ⟨y, hy⟩ := h; simp at hy
  | z :: L, 0, k, x, h => by
    obtain ⟨y, hy⟩ := h
    obtain rfl : z = (k, y) := by simpa using hy
    simp [rowP, pairC]
  | z :: L, i + 1, k, x, h => by
    have ih := rowP_set L i k x (by simpa using h)
    have e : ∀ (l : List Value) (j : Nat) (u : Value), (pairC z ++ l).set (j + 9) u = pairC z ++ l.set j u := fun l j u => by simp [pairC]
    rw [List.set_cons_succ]
    show pairC z ++ rowP (L.set i (k, x)) = _
    rw [ih, show rowP (z :: L) = pairC z ++ rowP L from rfl]
    rw [show (i + 1) * 9 + 3 = (i * 9 + 3) + 9 by omega, show (i + 1) * 9 + 4 = (i * 9 + 4) + 9 by omega, show (i + 1) * 9 + 5 = (i * 9 + 5) + 9 by omega,
      show (i + 1) * 9 + 6 = (i * 9 + 6) + 9 by omega, show (i + 1) * 9 + 7 = (i * 9 + 7) + 9 by omega, show (i + 1) * 9 + 8 = (i * 9 + 8) + 9 by omega]
    simp only [e]

/-- A copy: append([]Pair{}, ..). -/
theorem refPut_has (L : List (Key × Line)) (k : Key) (x : Line) (i : Nat) (y : Line) (pick : Int) (v : Value) (r : Nat) (w : World) (ho : RefAt w v L) (hl : look k L 0 = some (i, y)) :
    Calls Try.prog 123 #[.agg #[v, .int .i64 r], k.val, x.val, .int .i64 pick] w (EndRef (L.set i (k, x)) r w) := by
  have HO := Lib.hid ho
  have hL := ho.2
  obtain ⟨p, l, t⟩ := k
  obtain ⟨a, cap, rfl, hn, hm⟩ := ho.1.form
  unfold maxLen at hm
  have hix := ix_look ⟨p, l, t⟩ L 0
  have hfc := fun w ho => find_c L ⟨p, l, t⟩ (.slice a L.length cap) r w ho
  have hlt : i < L.length := (List.getElem?_eq_some_iff.1 (look_some hl).2.1).1
  have hget : ∃ y, L[i]? = some (⟨p, l, t⟩, y) := ⟨y, by have := (look_some hl).2.1; simpa using this⟩
  have hi : ixK ⟨p, l, t⟩ (keysOf L) 0 = (i : Int) := by have : ixK ⟨p, l, t⟩ (keysOf L) 0 = _ := hix; rw [this, hl]
  rw [hi] at hfc
  have hset := rowP_set L i ⟨p, l, t⟩ x hget
  obtain ⟨g, rfl⟩ : ∃ g, a = some ⟨g, 0, none⟩ := by
    rcases ho.1.2 with ⟨_, h0⟩ | ⟨g, _, _, he, _⟩
    · omega
    · exact ⟨g, by injection he⟩
  have hgl := ho.1.lt g rfl
  obtain ⟨xf, xa, xb, xc, xd, xm⟩ := x
  unfold Key.val Line.val at *
  have HF := Lib.hid hfc
  have HS := Lib.hid hset
  clear hix ho hl hi hfc hget hset
  go_enter Try.func123, Try.ntmps123
  go_upto_region 3 with (first | (go_at_call 127; refine (HF.out _ (HO.out.ext (by repeat (first | exact Ext.refl _ | assumption | refine Ext.alloc ?_ _ | refine Ext.drew ?_ | refine Ext.setCell ?_ (by first | (simp; done) | (dsimp only; omega)) _ | refine Ext.trans ?_ (by assumption))))).mono ?_; rintro e w2 ⟨rfl, hb2⟩))
  have B0 := (hb2.block w.heap.size (by simp; omega)).trans ((alloc_other _ _ (by simp; omega)).trans ((alloc_other _ _ (by simp; omega)).trans ((alloc_other _ _ (by simp)).trans (alloc_same ..))))
  have B2 := (hb2.block (w.heap.size + 1 + 1) (by simp)).trans ((alloc_other _ _ (by simp)).trans (alloc_same2 ..))
  have B3 := (hb2.block (w.heap.size + 1 + 1 + 1) (by simp)).trans (alloc_same3 ..)
  have E2 : Ext w w2 := Ext.trans (by repeat (first | exact Ext.refl _ | assumption | refine Ext.alloc ?_ _ | refine Ext.drew ?_ | refine Ext.setCell ?_ (by first | (simp; done) | (dsimp only; omega)) _ | refine Ext.trans ?_ (by assumption))) hb2
  have hsz := heap_lt B3
  have p0 := (heap_cell B0 0).trans rfl
  have p1 := (heap_cell B0 1).trans rfl
  have l0 := (heap_cell B2 0).trans rfl
  have l1 := (heap_cell B2 1).trans rfl
  have l2 := (heap_cell B2 2).trans rfl
  have l3 := (heap_cell B2 3).trans rfl
  have l4 := (heap_cell B2 4).trans rfl
  have l5 := (heap_cell B2 5).trans rfl
  have BB0 := Lib.hid B0
  have BB2 := Lib.hid B2
  have BB3 := Lib.hid B3
  have EE := Lib.hid E2
  clear hb2 B0 B2 B3
  have hcl : ∀ j u, (rowP L)[j]? = some u → (w2.alloc (.cells #[] 212)).cell? ((⟨g, 0, none⟩ : Addr).add j) = some u := fun j u hu => by
    rw [add0]; exact ((HO.out.1.ext E2).ext ((Ext.refl w2).alloc _)).cells rfl j u hu
  have HC := Lib.hid hcl
  clear hcl E2
  go_upto_region 4 with (first | (at_builtin; refine wpList_append_owns rfl _ _ _ _ 9 40 pairRow rfl _ rfl 0 [] (Owns.fresh (c := #[]) (alloc_same ..)) _ _ _ rfl (rowP L) (rowP_length L) HC.out (rowP_one L) (by unfold maxLen; omega) (by omega) ?_; intro v3 w3 q1 q2 q3; replace q2 : (w2.alloc (.cells #[] 212)).grownBy w3 (some w2.heap.size) := q2; replace q3 : v3.ownBlock = some w2.heap.size ∨ v3.ownBlock = some (w2.alloc (.cells #[] 212)).heap.size := q3; obtain ⟨a3, c3, rfl, -, -⟩ := q1.form; simp only [Act.put, Array.set!_eq_setIfInBounds, List.setIfInBounds_toArray, List.set_cons_succ, List.set_cons_zero]))
  rw [Nat.zero_add, List.nil_append] at q1
  obtain ⟨g3, rfl⟩ : ∃ g, a3 = some ⟨g, 0, none⟩ := by
    rcases q1.2 with ⟨_, h0⟩ | ⟨g, _, _, he, _⟩
    · omega
    · exact ⟨g, by injection he⟩
  have E3 : Ext w2 w3 := Keeps.to_ext (F := []) (Ext.refl w2) ((Keeps.of_ext ((Ext.refl w2).alloc _)).grown q2 (fun x hx => .inr (by cases hx; exact Nat.le_refl _))) (by simp)
  have hg3 : w2.heap.size ≤ g3 := by rcases q3 with q3 | q3 <;> (simp [Value.ownBlock] at q3; omega)
  have c3' := fun j hj u hu => q1.cells (g := g3) rfl (i * 9 + j) u ((rowP_at L i hlt j hj).trans hu)
  have y3 := c3' 3 (by omega) _ rfl
  have y4 := c3' 4 (by omega) _ rfl
  have y5 := c3' 5 (by omega) _ rfl
  have y6 := c3' 6 (by omega) _ rfl
  have y7 := c3' 7 (by omega) _ rfl
  have y8 := c3' 8 (by omega) _ rfl
  obtain ⟨cc, hcc⟩ := q1.heap g3 rfl
  have fz := frozen_of hcc
  have hlen : (rowP L).length = L.length * 9 := rowP_length L
  have Q1 := Lib.hid q1
  have HE3 := Lib.hid E3
  have D0 := Lib.hid ((E3.block _ (by omega)).trans BB0.out)
  have D2 := Lib.hid ((E3.block _ (by omega)).trans BB2.out)
  have D3 := Lib.hid ((E3.block _ (by omega)).trans BB3.out)
  have l0 := (heap_cell D2.out 0).trans rfl
  have l1 := (heap_cell D2.out 1).trans rfl
  have l2 := (heap_cell D2.out 2).trans rfl
  have l3 := (heap_cell D2.out 3).trans rfl
  have l4 := (heap_cell D2.out 4).trans rfl
  have l5 := (heap_cell D2.out 5).trans rfl
  clear c3' q1 q2 q3 hcc E3 p0 p1
  rw [Nat.zero_add]
  go_upto_region 5 with (fail)
  refine wp_gen ?_; intro V hV
  have hlx : i * 9 + 8 < (rowP L).length := by rw [hlen]; omega
  have OV : Owns V 212 9 (.slice (some ⟨g3, 0, none⟩) L.length c3) L.length (rowP (L.set i (⟨p, l, t⟩, ⟨xf, xa, xb, xc, xd, xm⟩))) := by
    rw [hV, HS.out]
    exact Owns.setCell (Owns.setCell (Owns.setCell (Owns.setCell (Owns.setCell (Owns.setCell Q1.out (by omega)) (by simp only [List.length_set]; omega)) (by simp only [List.length_set]; omega)) (by simp only [List.length_set]; omega)) (by simp only [List.length_set]; omega)) (by simp only [List.length_set]; omega)
  have n0 : g3 ≠ w.heap.size := by omega
  have n3 : g3 ≠ w.heap.size + 1 + 1 + 1 := by omega
  have V0 : V.heap[w.heap.size]? = some (.cells #[.slice (some ⟨g, 0, none⟩) L.length cap, .int .i64 r] 81 (0, 0)) := by rw [hV, setCell_heap _ _ _ _ _ n0, setCell_heap _ _ _ _ _ n0, setCell_heap _ _ _ _ _ n0, setCell_heap _ _ _ _ _ n0, setCell_heap _ _ _ _ _ n0, setCell_heap _ _ _ _ _ n0]; exact D0.out
  have V3 : V.heap[w.heap.size + 1 + 1 + 1]? = some (.cells #[.slice none 0 0, .int .i64 0] 81 (0, 0)) := by rw [hV, setCell_heap _ _ _ _ _ n3, setCell_heap _ _ _ _ _ n3, setCell_heap _ _ _ _ _ n3, setCell_heap _ _ _ _ _ n3, setCell_heap _ _ _ _ _ n3, setCell_heap _ _ _ _ _ n3]; exact D3.out
  have EV : Ext w V := by
    rw [hV]
    have hg : w.heap.size ≤ g3 := by omega
    exact Ext.setCell (Ext.setCell (Ext.setCell (Ext.setCell (Ext.setCell (Ext.setCell (EE.out.trans HE3.out) hg _) hg _) hg _) hg _) hg _) hg _
  have p0 := (heap_cell V0 0).trans rfl
  have p1 := (heap_cell V0 1).trans rfl
  have r0 := (heap_cell V3 0).trans rfl
  have r1 := (heap_cell V3 1).trans rfl
  have f0 := frozen_of V0
  have f3 := frozen_of V3
  have HV3 := Lib.hid V3
  have HV := Lib.hid EV
  have HOV := Lib.hid OV
  have hng : g3 < V.heap.size := OV.lt g3 rfl
  clear hV V0 V3 EV OV y3 y4 y5 y6 y7 y8 fz l0 l1 l2 l3 l4 l5 hlx hlen
  go_wp2
  refine post_gen (fun U => U.heap[w.heap.size + 1 + 1 + 1]? = some (.cells #[.slice (some ⟨g3, 0, none⟩) L.length c3, .int .i64 r] 81 (0, 0)) ∧ Owns U 212 9 (.slice (some ⟨g3, 0, none⟩) L.length c3) L.length (rowP (L.set i (⟨p, l, t⟩, ⟨xf, xa, xb, xc, xd, xm⟩))) ∧ Ext w U) ⟨?_, ?_, ?_⟩ ?_
  · exact store2_heap ((setCell_heap _ _ _ _ _ (by omega)).trans HV3.out)
  · refine HOV.out.keep fun g' hg' => ?_
    obtain rfl : g3 = g' := by simpa [Value.ownBlock] using hg'
    rw [setCell_heap _ _ _ _ _ (by omega), setCell_heap _ _ _ _ _ (by omega), setCell_heap _ _ _ _ _ (by omega)]
  · exact Ext.setCell (Ext.setCell (Ext.setCell HV.out (by simp) _) (by simp; omega) _) (by simp; omega) _
  rintro U ⟨m5, o5, E5⟩
  have v0 := (heap_cell m5 0).trans rfl
  have v1 := (heap_cell m5 1).trans rfl
  clear m5 p0 p1 r0 r1 f0 f3
  have O5 := Lib.hid o5
  clear o5
  refine bodyPost_ret (by simp [results, Try.results123, go_sem, ↓IntWalk.iteOmega, *]; try rfl) rfl ⟨_, rfl, ⟨by rw [List.length_set]; exact O5.out, by rw [List.length_set]; exact hL⟩, E5⟩
end Go.Proofs.Ytfaekfdngkpkdaa
/- An append of a whole row that is held. -/
namespace Go.Proofs.Ytfaekfdngkpkdaa
open Go.RowKit
section
variable {P : Program} {w : World} {ops : Array Oper} {rest : List Oper} {o : Oper} {a : Act} {Q : Exit → Act → World → Prop}
/-- An append of a whole row that is held. -/
theorem wpList_append_two (hgd : o.guard = none) (s x : Operand) (t e : TypeId) (size bytes : Nat) (R : RowT P t e size bytes)
    (ho : o.op = .call { callee := .builtin .append, args := #[s, x], argTypes := #[t, t] }) (v : Value) (hs : a.eval s = v) (n : Nat) (xs : List Value) (hown : Owns w e size v n xs)
    (u : Value) (hx : a.eval x = u) (m : Nat) (news : List Value) (hown2 : Owns w e size u m news) (h1 : ∀ u ∈ news, u.oneCell' = true)
    (h63 : n + m ≤ maxLen) (hbytes : (n + m) * bytes ≤ 140737488355328)
    (h : ∀ v' w', Owns w' e size v' (n + m) (xs ++ news) → w.grownBy w' v.ownBlock → (v'.ownBlock = v.ownBlock ∨ v'.ownBlock = some w.heap.size) → wpList P ops Q rest (a.put o.dst v') w') : wpList P ops Q (o :: rest) a w := by
  have H2 := hown2
  rcases hown2.2 with ⟨rfl, rfl⟩ | ⟨g, cap, cur, rfl, _⟩
  · have hn : news = [] := List.eq_nil_of_length_eq_zero (by simpa using H2.1)
    subst hn
    exact wpList_append_owns_nil hgd s x t e size bytes R ho v hs n xs hown hx (h v w (by simpa using hown) ⟨rfl, rfl, rfl, Nat.le_refl _, fun _ _ _ => rfl⟩ (.inl rfl))
  · exact wpList_append_owns hgd s x t e size bytes R ho v hs n xs hown ⟨g, 0, none⟩ m cap hx news H2.1 (fun j y hy => by rw [add0]; exact H2.cells (g := g) rfl j y hy) h1 h63 hbytes h
end

end Go.Proofs.Ytfaekfdngkpkdaa
