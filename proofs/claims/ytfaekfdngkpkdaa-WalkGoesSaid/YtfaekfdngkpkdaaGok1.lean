/- Joined texts, part 1 of what the law stands on: each as its own head says. -/
import Derived.Test.YtfaekfdngkpkdaaProg
import Derived.WalkKit
import Derived.WalkSpells
import Derived.WalkLawsBesides
import Derived.KernelRfl
import Derived.Deep.QuietTactic
import Derived.BigQuiet
import Derived.StillTail
import Derived.Deep.LoopGhost
import Derived.Deep.DeepCutAuto
import Derived.Deep.CutBlock
import Derived.Lib.Hide
import Derived.Laws.AppendOwn
import Derived.Deep.Upon
import Derived.OwnWalk
import Derived.DeepKeys3
import Derived.ChangeMaps5
import Derived.OpenShut
import Derived.Laws.BitsAllLaws
/- Words that all walks of this family share: a world that has grown (Ext), a region whose operations read or lay new memory, walked once, with a tail that writes. Own text. -/
namespace Go.Proofs.Ytfaekfdngkpkdaa
open Go.RowKit

/-- w' is w with new blocks. -/
def Ext (w w' : World) : Prop := Below w.heap.size w w'

theorem Ext.refl (w : World) : Ext w w := Below.refl _ _
theorem Ext.size {w w' : World} (h : Ext w w') : w.heap.size ≤ w'.heap.size := Below.size h
theorem Ext.trans {a b c : World} (h : Ext a b) (k : Ext b c) : Ext a c := Below.trans h (Below.mono k h.size)
theorem Ext.alloc {a w : World} (h : Ext a w) (o : Obj) : Ext a (w.alloc o) := Below.alloc h h.size o
theorem Ext.drew {a w : World} (h : Ext a w) : Ext a w.drew := Below.drew h
theorem Ext.drewN {a w : World} (h : Ext a w) (n : Nat) : Ext a (w.drewN n) := ⟨h.os, h.tape, h.output, h.size, h.block⟩
theorem Ext.setCell {a w : World} (h : Ext a w) {p : Addr} (hp : a.heap.size ≤ p.block) (u : Value) : Ext a (w.setCell p u) := Below.setCell h hp u
theorem Ext.cell {w w' : World} (h : Ext w w') (b o : Nat) (hb : b < w.heap.size) : w'.cell? ⟨b, o, none⟩ = w.cell? ⟨b, o, none⟩ := Below.cell (p := ⟨b, o, none⟩) h hb
theorem Ext.frozen {w w' : World} (h : Ext w w') (b o : Nat) (hb : b < w.heap.size) : w'.frozen? ⟨b, o, none⟩ = w.frozen? ⟨b, o, none⟩ := Below.frozen (p := ⟨b, o, none⟩) h hb
theorem Ext.block {w w' : World} (h : Ext w w') (b : Nat) (hb : b < w.heap.size) : w'.heap[b]? = w.heap[b]? := Below.block h b hb
theorem Ext.someCell {w w' : World} (h : Ext w w') {p : Addr} {v : Value} (hv : w.cell? p = some v) : w'.cell? p = some v := by
  rw [Below.cell h (World.block_lt_of_cell? _ _ hv)]; exact hv

/-- A fact that the walk does not look into. -/
structure Aside (p : Prop) : Prop where
  mk ::
  out : p

/-- The world under a name of its own. -/
theorem wp_gen {P : Program} {c : Code} {Q : Exit → Act → World → Prop} {a : Act} {w : World} (h : ∀ W, W = w → Code.wp P c Q a W) : Code.wp P c Q a w := h w rfl

/-- Cells, marks and blocks under a second name: no rule speaks of them. -/
def cell2 (w : World) (b o : Nat) : Option Value := w.cell? ⟨b, o, none⟩
def frozen2 (w : World) (b o : Nat) : Bool := w.frozen? ⟨b, o, none⟩
def heap2 (w : World) (b : Nat) : Option Obj := w.heap[b]?

/-- What a caller wants to know behind a call that only lays new memory. -/
theorem Ext.facts {w w' : World} (h : Ext w w') : (∀ b o, w'.cell? ⟨b, o, none⟩ = if b < w.heap.size then w.cell? ⟨b, o, none⟩ else cell2 w' b o) ∧
    (∀ b o, w'.frozen? ⟨b, o, none⟩ = if b < w.heap.size then w.frozen? ⟨b, o, none⟩ else frozen2 w' b o) ∧
    (∀ b, w'.heap[b]? = if b < w.heap.size then w.heap[b]? else heap2 w' b) ∧ w.heap.size ≤ w'.heap.size := by
  refine ⟨fun b o => ?_, fun b o => ?_, fun b => ?_, h.size⟩
  · split
    · rename_i hb; exact h.cell b o hb
    · rfl
  · split
    · rename_i hb; exact h.frozen b o hb
    · rfl
  · split
    · rename_i hb; exact h.block b hb
    · rfl

/-- d, if it is w with new blocks; else w: all worlds that have grown out of w, in one term. -/
noncomputable def wext (w d : World) : World := open Classical in if Ext w d then d else w

theorem wext_ext (w d : World) : Ext w (wext w d) := by
  unfold wext; split
  · assumption
  · exact Ext.refl w
theorem wext_of {w d : World} (h : Ext w d) : d = wext w d := by unfold wext; rw [if_pos h]
theorem wext_trans {w d e : World} (h : Ext (wext w d) e) : ∃ n, e = wext w n := ⟨e, wext_of ((wext_ext w d).trans h)⟩
theorem wext_cell {w d : World} {b o : Nat} : (wext w d).cell? ⟨b, o, none⟩ = if b < w.heap.size then w.cell? ⟨b, o, none⟩ else cell2 (wext w d) b o := (wext_ext w d).facts.1 b o
theorem wext_frozen {w d : World} {b o : Nat} : (wext w d).frozen? ⟨b, o, none⟩ = if b < w.heap.size then w.frozen? ⟨b, o, none⟩ else frozen2 (wext w d) b o := (wext_ext w d).facts.2.1 b o
theorem wext_heap {w d : World} {b : Nat} : (wext w d).heap[b]? = if b < w.heap.size then w.heap[b]? else heap2 (wext w d) b := (wext_ext w d).facts.2.2.1 b

/-- A cell of a block by itself. -/
def objCell : Obj → Nat → Option Value
  | .cells c _ _, i => c[i]?
  | _, _ => none
theorem objCell_cells (c : Array Value) (t : TypeId) (fr : Nat × Nat) (i : Nat) : objCell (.cells c t fr) i = c[i]? := rfl
def objFrozen : Obj → Nat → Bool
  | .cells _ _ (lo, hi), i => lo ≤ i && i < hi
  | _, _ => false
theorem objFrozen_cells (c : Array Value) (t : TypeId) (lo hi i : Nat) : objFrozen (.cells c t (lo, hi)) i = (decide (lo ≤ i) && decide (i < hi)) := rfl
theorem alloc_heap (w : World) (o : Obj) (b : Nat) : (w.alloc o).heap[b]? = if b < w.heap.size then w.heap[b]? else if b = w.heap.size then some o else none := by
  show (w.heap.push o)[b]? = _
  rw [Array.getElem?_push]
  by_cases h : b = w.heap.size
  · rw [if_pos h, if_neg (by omega), if_pos h]
  · rw [if_neg h]
    by_cases h2 : b < w.heap.size
    · rw [if_pos h2]
    · rw [if_neg h2, if_neg h, Array.getElem?_eq_none (by omega)]
theorem cell_heap (w : World) (b i : Nat) : w.cell? ⟨b, i, none⟩ = (w.heap[b]?).bind (objCell · i) := by
  unfold World.cell?
  cases h : w.heap[b]? with
  | none => simp
  | some o => cases o <;> simp [objCell]
theorem frozen_heap (w : World) (b i : Nat) : w.frozen? ⟨b, i, none⟩ = ((w.heap[b]?).map (objFrozen · i)).getD false := by
  unfold World.frozen?
  cases h : w.heap[b]? with
  | none => simp
  | some o => cases o <;> simp [objFrozen]
theorem alloc_cell (w : World) (o : Obj) (b i : Nat) : (w.alloc o).cell? ⟨b, i, none⟩ = if b < w.heap.size then w.cell? ⟨b, i, none⟩ else if b = w.heap.size then objCell o i else none := by
  rw [cell_heap, cell_heap, alloc_heap]
  split
  · rfl
  · split <;> rfl
theorem alloc_frozen (w : World) (o : Obj) (b i : Nat) : (w.alloc o).frozen? ⟨b, i, none⟩ = if b < w.heap.size then w.frozen? ⟨b, i, none⟩ else if b = w.heap.size then objFrozen o i else false := by
  rw [frozen_heap, frozen_heap, alloc_heap]
  split
  · rfl
  · split <;> rfl
theorem setCell_cell (w : World) (b i b' j : Nat) (v : Value) : (w.setCell ⟨b, i, none⟩ v).cell? ⟨b', j, none⟩ = if b = b' then (if i = j then (w.cell? ⟨b', j, none⟩).map (fun _ => v) else w.cell? ⟨b', j, none⟩) else w.cell? ⟨b', j, none⟩ := by
  rw [cell_heap, cell_heap]
  simp only [World.setCell, Array.getElem?_modify]
  by_cases h : b = b'
  · subst h
    rw [if_pos rfl, if_pos rfl]
    cases hb : w.heap[b]? with
    | none => simp
    | some o =>
      cases o <;> simp [objCell]
      by_cases hij : i = j
      · subst hij; simp [Array.getElem?_setIfInBounds]
        split <;> simp_all
      · simp [hij]
  · rw [if_neg h, if_neg h]

theorem wext_some {w d : World} {p : Addr} {v : Value} (h : w.cell? p = some v) : (wext w d).cell? p = some v := (wext_ext w d).someCell h

/-- A callee's contract, met in one of these worlds. -/
theorem calls_wext {P : Program} {f : FuncId} {args : Array Value} {w d : World} {v : Value}
    (h : Calls P f args (wext w d) fun e w' => e = .returned v ∧ Ext (wext w d) w') : Calls P f args (wext w d) fun e w'' => e = .returned v ∧ ∃ m, w'' = wext w m :=
  h.mono fun _ _ ⟨he, hm⟩ => ⟨he, wext_trans hm⟩

section
variable {P : Program} {ops : Array Oper} {md : Region.Mode} {C : World → Prop}

/-- The head's operations in whatever order, the tail reached at their end. -/
def anyHead (P : Program) (md : Region.Mode) (ops : Array Oper) (C : World → Prop) (n : Nat) (L : Array Bool → Act → Prop) : Nat → Array Bool → Act → Prop
  | 0, seen, a => L seen a
  | f + 1, seen, a => Region.ready md ops seen ≠ [] ∧ ∀ i ∈ Region.ready md ops seen, i < n ∧ qOp P ops C i (anyHead P md ops C n L f (seen.setIfInBounds i true)) a

theorem any_of_head {n g : Nat} {L : Array Bool → Act → Prop} {Q : Exit → Act → World → Prop} (hL : ∀ seen a w, C w → L seen a → wpAny P md ops Q g seen a w) :
    ∀ (f : Nat) (seen : Array Bool) (a : Act) (w : World), C w → anyHead P md ops C n L f seen a → wpAny P md ops Q (f + g) seen a w := by
  intro f
  induction f with
  | zero => intro seen a w hw h; rw [Nat.zero_add]; exact hL _ _ _ hw h
  | succ f ih =>
    intro seen a w hw h
    rw [show f + 1 + g = (f + g) + 1 by omega]
    exact ⟨fun h0 => absurd h0 h.1, fun i hi => wpOp_of_qOp hw (fun a' w' hw' h' => ih _ a' w' hw' h') (h.2 i hi).2⟩

theorem head_first {n i : Nat} {oi : Oper} {v : Value} {L : Array Bool → Act → Prop} (hi : ops[i]? = some oi) (hsel : ∀ (j : Nat) (o : Oper) cs b, ops[j]? = some o → o.op ≠ .select cs b)
    (hs : Region.sinkB md ops n = true) (hc : Region.chainB md ops n = true) (hn : n < ops.size) (hin : i < n)
    (hdone : ∀ seen a, L seen a → ∀ j ∈ Region.ready md ops seen, n ≤ j) :
    ∀ (f : Nat) (seen : Array Bool) (a : Act), HeadInv md ops n seen →
      (∀ j oj, ops[j]? = some oj → j ≠ i → seen.getD j true = false → (∀ e ∈ oj.after, Region.binds md e = true → e.on ≠ i) → oi.apart ops oj = true) →
      i ∈ Region.ready md ops seen → YieldsIn P ops C oi v a →
      anyHead P md ops C n L f (seen.setIfInBounds i true) (a.put oi.dst v) → anyHead P md ops C n L (f + 1) seen a := by
  intro f
  induction f with
  | zero =>
    intro seen a inv _ hr hy H
    have hun := (mem_ready.1 hr).1
    refine ⟨fun h => (by rw [h] at hr; cases hr), fun j hj => ?_⟩
    have hjn : j < n := by
      rcases Nat.lt_or_ge j n with h | h
      · exact h
      · exact absurd hj (tail_waits hs hc hn inv _ i rfl hin hun j h)
    refine ⟨hjn, ?_⟩
    by_cases hji : j = i
    · subst hji; exact hy.qOp hi H
    · have := hdone _ _ H j (ready_mono hj hji)
      omega
  | succ f ih =>
    intro seen a inv hfree hr hy H
    have hun := (mem_ready.1 hr).1
    refine ⟨fun h => (by rw [h] at hr; cases hr), fun j hj => ?_⟩
    have hjn : j < n := by
      rcases Nat.lt_or_ge j n with h | h
      · exact h
      · exact absurd hj (tail_waits hs hc hn inv _ i rfl hin hun j h)
    refine ⟨hjn, ?_⟩
    by_cases hji : j = i
    · subst hji; exact hy.qOp hi H
    · have h1 := (H.2 j (ready_mono hj hji)).2
      obtain ⟨hjun, oj, hoj, hall⟩ := mem_ready.1 hj
      have hnot : ∀ e ∈ oj.after, Region.binds md e = true → e.on ≠ i := fun e he hb heq => by
        have h1 := hall e he hb
        rw [heq, getD_both hun] at h1
        cases h1
      have h2 := qOp_put hoj (hfree j oj hoj hji hjun hnot) (fun cs b => hsel i oi cs b hi) (fun cs b => hsel j oj cs b hoj) hy h1
      have hfree' : ∀ k ok, ops[k]? = some ok → k ≠ i → (seen.setIfInBounds j true).getD k true = false →
          (∀ e ∈ ok.after, Region.binds md e = true → e.on ≠ i) → oi.apart ops ok = true := fun k ok hk hki hun hno => by
        refine hfree k ok hk hki ?_ hno
        by_cases hjk : j = k
        · subst hjk; exact hjun
        · rw [getD_set_ne true hjk] at hun; exact hun
      refine qOp_mono (fun a' h3 => ih (seen.setIfInBounds j true) a' (inv.set hj hjn) hfree' (ready_mono hr (Ne.symm hji)) h3.1 ?_) h2
      rw [Array.setIfInBounds_comm _ _ hji]
      exact h3.2

theorem head_lex {n g : Nat} {Lq : Act → Prop} (hsel : Region.noSelect ops = true) (hs : Region.sinkB md ops n = true) (hc : Region.chainB md ops n = true) (hn : n < ops.size) :
    ∀ (l : List Oper) (k : Nat) (seen : Array Bool) (a : Act), (∀ j, j < l.length → l[j]? = ops[k + j]?) → k + l.length = n → HeadInv md ops n seen →
    Region.lexHead md ops g l.length k seen = true → wpQuiet P ops C Lq l a →
    anyHead P md ops C n (fun seen' a' => Region.seqB md ops g n seen' = true ∧ Lq a') l.length seen a := by
  intro l
  induction l with
  | nil =>
    intro k seen a _ hk _ hB h
    have : k = n := by simpa using hk
    subst this
    exact ⟨by simpa [Region.lexHead] using hB, h⟩
  | cons o l ih =>
    intro k seen a hl hk inv hB h
    have h0 : ops[k]? = some o := by simpa using (hl 0 (by simp)).symm
    simp only [List.length_cons, Region.lexHead, Bool.and_eq_true] at hB
    obtain ⟨⟨hr, hf⟩, hB'⟩ := hB
    have hkn : k < n := by simp only [List.length_cons] at hk; omega
    have hr' : k ∈ Region.ready md ops seen := by simpa using hr
    have hst : qOp P ops C k (wpQuiet P ops C Lq l) a := by unfold qOp; simp only [h0]; exact h
    obtain ⟨v, hy, hK⟩ := yieldsIn_of_qOp h0 hst
    exact head_first h0 (Region.noSelect_spec hsel) hs hc hn hkn (fun seen' a' hL => seqB_ready hL.1) l.length seen a inv (Region.free_spec h0 hf) hr' hy
      (ih (k + 1) _ _ (fun j hj => by have := hl (j + 1) (by simp; omega); simpa [Nat.add_assoc, Nat.add_comm 1 j] using this) (by simp only [List.length_cons] at hk; omega) (inv.set hr' hkn) hB' hK)

/-! ### A region with one loud operation: what stands before it, and what hangs on it, yields the same in every world of a class -/

/-- Behind n each operation waits for one from n on. -/
def chainP (md : Region.Mode) (ops : Array Oper) (n : Nat) : Bool :=
  (List.range ops.size).all fun t => decide (t ≤ n) || (List.range t).any fun k => decide (n ≤ k) && Region.waitsFor md ops t k

theorem none_behind {n : Nat} {seen : Array Bool} (hs : Region.sinkB md ops n = true) (hc : chainP md ops n = true) (hn : n < ops.size) (inv : HeadInv md ops n seen) :
    ∀ (d i : Nat), n - i = d → i < n → seen.getD i true = false → ∀ t, n ≤ t → t ∉ Region.ready md ops seen := by
  intro d
  induction d using Nat.strongRecOn with
  | _ d ih =>
    intro i hd hi hun t ht hr
    obtain ⟨_, ot, hot, hall⟩ := mem_ready.1 hr
    have htlt : t < ops.size := (Array.getElem?_eq_some_iff.1 hot).1
    by_cases htn : t = n
    · subst htn
      obtain ⟨j, hj, hj2⟩ := List.any_eq_true.1 (List.all_eq_true.1 hs i (List.mem_range.2 hi))
      simp only [Bool.and_eq_true, decide_eq_true_eq] at hj2
      obtain ⟨oj, hoj, e, he, hb, hon⟩ := Region.waitsFor_spec hj2.2
      have hjle : j ≤ t := by have := List.mem_range.1 hj; omega
      by_cases hjt : j = t
      · subst hjt
        obtain rfl : oj = ot := Option.some.inj (hoj.symm.trans hot)
        have h2 := hall e he hb
        rw [hon, getD_both hun] at h2
        cases h2
      · cases hl : seen.getD j false with
        | true =>
          have h2 := inv.closed j oj hoj hl e he hb
          rw [hon, getD_both hun] at h2
          cases h2
        | false =>
          have hjs : j < seen.size := by rw [inv.size]; omega
          exact ih (t - j) (by omega) j rfl (by omega) (getD_in hjs hl) t (Nat.le_refl _) hr
    · have h1 := List.all_eq_true.1 hc t (List.mem_range.2 htlt)
      simp only [Bool.or_eq_true, decide_eq_true_eq] at h1
      rcases h1 with h1 | h1
      · omega
      · obtain ⟨k, hk, hk2⟩ := List.any_eq_true.1 h1
        simp only [Bool.and_eq_true, decide_eq_true_eq] at hk2
        have hkt := List.mem_range.1 hk
        obtain ⟨o', ho', e, he, hb, hon⟩ := Region.waitsFor_spec hk2.2
        obtain rfl : o' = ot := Option.some.inj (ho'.symm.trans hot)
        have h2 := hall e he hb
        rw [hon, getD_both (inv.tail k hk2.1 (by omega))] at h2
        cases h2

theorem head_first2 {n i : Nat} {oi : Oper} {v : Value} {L : Array Bool → Act → Prop} (hi : ops[i]? = some oi) (hsel : ∀ (j : Nat) (o : Oper) cs b, ops[j]? = some o → o.op ≠ .select cs b)
    (hs : Region.sinkB md ops n = true) (hc : chainP md ops n = true) (hn : n < ops.size) (hin : i < n)
    (hdone : ∀ seen a, L seen a → ∀ j ∈ Region.ready md ops seen, n ≤ j) :
    ∀ (f : Nat) (seen : Array Bool) (a : Act), HeadInv md ops n seen →
      (∀ j oj, ops[j]? = some oj → j ≠ i → seen.getD j true = false → (∀ e ∈ oj.after, Region.binds md e = true → e.on ≠ i) → oi.apart ops oj = true) →
      i ∈ Region.ready md ops seen → YieldsIn P ops C oi v a →
      anyHead P md ops C n L f (seen.setIfInBounds i true) (a.put oi.dst v) → anyHead P md ops C n L (f + 1) seen a := by
  intro f
  induction f with
  | zero =>
    intro seen a inv _ hr hy H
    have hun := (mem_ready.1 hr).1
    refine ⟨fun h => (by rw [h] at hr; cases hr), fun j hj => ?_⟩
    have hjn : j < n := by
      rcases Nat.lt_or_ge j n with h | h
      · exact h
      · exact absurd hj (none_behind hs hc hn inv _ i rfl hin hun j h)
    refine ⟨hjn, ?_⟩
    by_cases hji : j = i
    · subst hji; exact hy.qOp hi H
    · have := hdone _ _ H j (ready_mono hj hji)
      omega
  | succ f ih =>
    intro seen a inv hfree hr hy H
    have hun := (mem_ready.1 hr).1
    refine ⟨fun h => (by rw [h] at hr; cases hr), fun j hj => ?_⟩
    have hjn : j < n := by
      rcases Nat.lt_or_ge j n with h | h
      · exact h
      · exact absurd hj (none_behind hs hc hn inv _ i rfl hin hun j h)
    refine ⟨hjn, ?_⟩
    by_cases hji : j = i
    · subst hji; exact hy.qOp hi H
    · have h1 := (H.2 j (ready_mono hj hji)).2
      obtain ⟨hjun, oj, hoj, hall⟩ := mem_ready.1 hj
      have hnot : ∀ e ∈ oj.after, Region.binds md e = true → e.on ≠ i := fun e he hb heq => by
        have h1 := hall e he hb
        rw [heq, getD_both hun] at h1
        cases h1
      have h2 := qOp_put hoj (hfree j oj hoj hji hjun hnot) (fun cs b => hsel i oi cs b hi) (fun cs b => hsel j oj cs b hoj) hy h1
      have hfree' : ∀ k ok, ops[k]? = some ok → k ≠ i → (seen.setIfInBounds j true).getD k true = false →
          (∀ e ∈ ok.after, Region.binds md e = true → e.on ≠ i) → oi.apart ops ok = true := fun k ok hk hki hun hno => by
        refine hfree k ok hk hki ?_ hno
        by_cases hjk : j = k
        · subst hjk; exact hjun
        · rw [getD_set_ne true hjk] at hun; exact hun
      refine qOp_mono (fun a' h3 => ih (seen.setIfInBounds j true) a' (inv.set hj hjn) hfree' (ready_mono hr (Ne.symm hji)) h3.1 ?_) h2
      rw [Array.setIfInBounds_comm _ _ hji]
      exact h3.2

/-- The head in index order; then just n is ready; then the rest in index order. -/
def lexP (md : Region.Mode) (ops : Array Oper) (n : Nat) : Nat → Nat → Array Bool → Bool
  | 0, _, seen => decide (Region.ready md ops seen = [n]) && Region.lexFrom md ops (ops.size - (n + 1)) (n + 1) (seen.setIfInBounds n true)
  | f + 1, k, seen => (Region.ready md ops seen).contains k && Region.free md ops seen k && lexP md ops n f (k + 1) (seen.setIfInBounds k true)

theorem head_lex2 {n : Nat} {Lq : Act → Prop} (hsel : Region.noSelect ops = true) (hs : Region.sinkB md ops n = true) (hc : chainP md ops n = true) (hn : n < ops.size) :
    ∀ (l : List Oper) (k : Nat) (seen : Array Bool) (a : Act), (∀ j, j < l.length → l[j]? = ops[k + j]?) → k + l.length = n → HeadInv md ops n seen →
    lexP md ops n l.length k seen = true → wpQuiet P ops C Lq l a →
    anyHead P md ops C n (fun seen' a' => (Region.ready md ops seen' = [n] ∧ Region.lexFrom md ops (ops.size - (n + 1)) (n + 1) (seen'.setIfInBounds n true) = true) ∧ Lq a') l.length seen a := by
  intro l
  induction l with
  | nil =>
    intro k seen a _ hk _ hB h
    simp only [List.length_nil, lexP, Bool.and_eq_true, decide_eq_true_eq] at hB
    exact ⟨hB, h⟩
  | cons o l ih =>
    intro k seen a hl hk inv hB h
    have h0 : ops[k]? = some o := by simpa using (hl 0 (by simp)).symm
    simp only [List.length_cons, lexP, Bool.and_eq_true] at hB
    obtain ⟨⟨hr, hf⟩, hB'⟩ := hB
    have hkn : k < n := by simp only [List.length_cons] at hk; omega
    have hr' : k ∈ Region.ready md ops seen := by simpa using hr
    have hst : qOp P ops C k (wpQuiet P ops C Lq l) a := by unfold qOp; simp only [h0]; exact h
    obtain ⟨v, hy, hK⟩ := yieldsIn_of_qOp h0 hst
    exact head_first2 h0 (Region.noSelect_spec hsel) hs hc hn hkn (fun seen' a' hL j hj => by rw [hL.1.1] at hj; simp at hj; omega) l.length seen a inv (Region.free_spec h0 hf) hr' hy
      (ih (k + 1) _ _ (fun j hj => by have := hl (j + 1) (by simp; omega); simpa [Nat.add_assoc, Nat.add_comm 1 j] using this) (by simp only [List.length_cons] at hk; omega) (inv.set hr' hkn) hB' hK)

/-- The Bool of such a region. -/
def pivotB (md : Region.Mode) (ops : Array Oper) (n : Nat) : Bool :=
  Region.noSelect ops && decide (n < ops.size) && Region.sinkB md ops n && chainP md ops n && lexP md ops n n 0 (Array.replicate ops.size false)

/-- What is asked behind the loud operation. -/
def behindP (P : Program) (ops : Array Oper) (Q : Exit → Act → World → Prop) (l : List Oper) : Exit → Act → World → Prop :=
  Exit.then (fun a w => wpQuiet P ops (fun w' => ∃ d, w' = wext w d) (fun a3 => ∀ w3, Ext w w3 → Q .normal a3 w3) l a) Q

theorem region_pivot {id : Nat} {Q : Exit → Act → World → Prop} {a : Act} {w : World} {l : List Oper} (n : Nat) (hm : P.follows .mixedOrders = true) (hB : pivotB .any l.toArray n = true)
    (h : wpQuiet P l.toArray (fun w' => ∃ d, w' = wext w d) (fun a' => ∀ w1, Ext w w1 → wpList P l.toArray (behindP P l.toArray Q (l.drop (n + 1))) ((l.drop n).take 1) a' w1) (l.take n) a) : (Code.region id l.toArray true).wp P Q a w := by
  simp only [pivotB, Bool.and_eq_true, decide_eq_true_eq] at hB
  obtain ⟨⟨⟨⟨hsel, hn⟩, hs⟩, hc⟩, hlex⟩ := hB
  have hn' : n < l.length := by simpa using hn
  have htl : (l.take n).length = n := by simp; omega
  have inv0 : HeadInv .any l.toArray n (Array.replicate l.toArray.size false) :=
    ⟨by simp, fun j oj _ hl => (by rw [getD_replicate_false] at hl; cases hl), fun t _ ht => getD_in (by simpa using ht) (getD_replicate_false _ _)⟩
  have H := head_lex2 (md := .any) (C := fun w' => ∃ d, w' = wext w d) hsel hs hc hn (l.take n) 0 _ a (fun j hj => by
    have hj' : j < n := by rw [htl] at hj; exact hj
    simp [hj']) (by simpa using htl) inv0 (by rw [htl]; exact hlex) h
  refine wp_region_any hm ?_
  have := any_of_head (Q := Q) (g := l.toArray.size - n) (fun seen a' w' hw' hL => by
    obtain ⟨d, rfl⟩ := hw'
    obtain ⟨⟨hrd, hlf⟩, hpiv⟩ := hL
    have hp := hpiv _ (wext_ext w d)
    obtain ⟨o, ho⟩ : ∃ o, l[n]? = some o := ⟨l[n], by simp⟩
    have ho' : l.toArray[n]? = some o := by simpa using ho
    have ed : (l.drop n).take 1 = [o] := by
      have e0 : l[n]? = some l[n] := by simp
      rw [e0] at ho
      rw [List.drop_eq_getElem_cons hn', Option.some.inj ho]; rfl
    rw [ed] at hp
    rw [show l.toArray.size - n = (l.toArray.size - (n + 1)) + 1 by omega]
    refine ⟨fun h0 => (by rw [hrd] at h0; cases h0), fun i hi => ?_⟩
    obtain rfl : i = n := by rw [hrd] at hi; simpa using hi
    have hcont : ∀ a2 w2, wpList P l.toArray (behindP P l.toArray Q (l.drop (i + 1))) [] a2 w2 → wpAny P .any l.toArray Q (l.toArray.size - (i + 1)) (seen.setIfInBounds i true) a2 w2 := fun a2 w2 h2 => by
      have h3 : wpQuiet P l.toArray (fun w' => ∃ d, w' = wext w2 d) (fun a3 => ∀ w3, Ext w2 w3 → Q .normal a3 w3) (l.drop (i + 1)) a2 := h2
      have hlen : (l.drop (i + 1)).length = l.toArray.size - (i + 1) := by simp
      have h4 := wpAnyQ_lex (md := .any) hsel (l.drop (i + 1)) (i + 1) (seen.setIfInBounds i true) a2 (fun j => by simp [List.getElem?_drop]) (by rw [hlen]; exact hlf) h3
      rw [hlen] at h4
      exact wpAny_of_quiet (C := fun w' => ∃ d, w' = wext w2 d) (fun a5 w5 hw5 hq => by obtain ⟨d5, rfl⟩ := hw5; exact hq _ (wext_ext w2 d5)) _ _ _ _ ⟨w2, wext_of (Ext.refl w2)⟩ h4
    unfold wpList at hp
    unfold wpOp
    simp only [ho']
    split at hp
    · rename_i hw
      rw [if_pos hw]
      rcases hp with hp | hp
      · refine .inl ?_
        have hx : ∀ e a5 w5, behindP P l.toArray Q (l.drop (i + 1)) e a5 w5 → e ≠ .normal → Q e a5 w5 := fun e a5 w5 hq he => by
          cases e <;> first | exact absurd rfl he | exact hq
        unfold Oper.wp at hp ⊢
        generalize (execOp a'.eval o).run P (wext w d) = r at hp ⊢
        cases r with
        | ok nx w6 =>
          cases nx with
          | value v => exact hcont _ _ hp
          | skip => exact hcont _ _ hp
          | defer df => exact hcont _ _ hp
          | enter f args =>
            exact hp.mono fun e w7 h7 => by
              cases e with
              | returned v => exact hcont _ _ h7
              | panicked ch => exact h7
              | outgrown => exact h7
          | row rw args => exact hp.mono fun v w7 h7 => hcont _ _ h7
          | _ => exact hp
        | halt hh w6 =>
          cases hh with
          | panic v => exact hp
          | _ => exact hp
      · exact .inr hp
    · rename_i hw
      rw [if_neg hw]
      exact hcont _ _ hp) _ _ _ _ ⟨_, wext_of (Ext.drew (Ext.refl w))⟩ H
  rw [htl, show n + (l.toArray.size - n) = l.toArray.size by omega] at this
  exact this

theorem region_loud {id : Nat} {Q : Exit → Act → World → Prop} {a : Act} {w : World} {l : List Oper} (n : Nat) (hm : P.follows .mixedOrders = true) (hB : pivotB .any l.toArray n = true)
    (h : wpQuiet P l.toArray (fun w' => ∃ d, w' = wext w d) (fun a' => ∀ w1, Ext w w1 → wpList P l.toArray (Exit.then (fun a w => wpQuiet P l.toArray (fun w' => ∃ d, w' = wext w d) (fun a3 => ∀ w3, Ext w w3 → Q .normal a3 w3) (l.drop (n + 1)) a) Q) ((l.drop n).take 1) a' w1) (l.take n) a) : (Code.region id l.toArray true).wp P Q a w :=
  region_pivot n hm hB h

/-- A region that draws its order: n operations that yield the same in every world of a class, then a tail in a row. -/
theorem region_tail {id : Nat} {Q : Exit → Act → World → Prop} {a : Act} {w : World} {l : List Oper} (n : Nat) (hm : P.follows .mixedOrders = true) (hB : Region.lexTailB .any l.toArray n = true) (hC : C { w with drawn := w.drawn + 1 })
    (h : wpQuiet P l.toArray C (fun a' => ∀ w', C w' → wpList P l.toArray Q (l.drop n) a' w') (l.take n) a) : (Code.region id l.toArray true).wp P Q a w := by
  simp only [Region.lexTailB, Bool.and_eq_true, decide_eq_true_eq] at hB
  obtain ⟨⟨⟨⟨hsel, hn⟩, hs⟩, hc⟩, hlex⟩ := hB
  have hn' : n < l.length := by simpa using hn
  have htl : (l.take n).length = n := by simp; omega
  have hdl : (l.drop n).length = l.toArray.size - n := by simp
  have inv0 : HeadInv .any l.toArray n (Array.replicate l.toArray.size false) :=
    ⟨by simp, fun j oj _ hl => (by rw [getD_replicate_false] at hl; cases hl), fun t _ ht => getD_in (by simpa using ht) (getD_replicate_false _ _)⟩
  have H := head_lex (md := .any) (g := l.toArray.size - n) hsel hs hc hn (l.take n) 0 _ a (fun j hj => by
    have hj' : j < n := by rw [htl] at hj; exact hj
    simp [hj']) (by simpa using htl) inv0 (by rw [htl]; exact hlex) h
  refine wp_region_any hm ?_
  have := any_of_head (Q := Q) (g := l.toArray.size - n) (fun seen a' w' hw' hL => by
    have := wpAny_of_seq (md := .any) (Q' := Q) (l.drop n) n seen a' w' (fun j => by simp [List.getElem?_drop]) (by rw [hdl]; exact hL.1) (hL.2 w' hw')
    rwa [hdl] at this) _ _ _ _ hC H
  rw [htl, show n + (l.toArray.size - n) = l.toArray.size by omega] at this
  exact this

theorem wpQuiet_post {Q Q' : Act → Prop} (hq : ∀ a, Q a → Q' a) : ∀ (l : List Oper) (a : Act), wpQuiet P ops C Q l a → wpQuiet P ops C Q' l a
  | [], a, h => hq a h
  | o :: l, a, h => by
    unfold wpQuiet at h ⊢
    split
    · rename_i hw; rw [if_pos hw] at h; exact Oper.quiet_mono (fun a' => wpQuiet_post hq l a') h
    · rename_i hw; rw [if_neg hw] at h; exact wpQuiet_post hq l _ h

/-- .. at the class 'w, grown'. -/
theorem region_ext_tail {id : Nat} {Q : Exit → Act → World → Prop} {a : Act} {w : World} {l : List Oper} (n : Nat) (hm : P.follows .mixedOrders = true) (hB : Region.lexTailB .any l.toArray n = true)
    (h : wpQuiet P l.toArray (fun w' => ∃ d, w' = wext w d) (fun a' => ∀ w1, Ext w w1 → wpList P l.toArray Q (l.drop n) a' w1) (l.take n) a) : (Code.region id l.toArray true).wp P Q a w :=
  region_tail (C := fun w' => ∃ d, w' = wext w d) n hm hB ⟨_, wext_of (Ext.drew (Ext.refl w))⟩ (wpQuiet_post (fun _ h w' ⟨d, hd⟩ => h w' (hd ▸ wext_ext w d)) _ _ h)

theorem region_ext {id : Nat} {Q : Exit → Act → World → Prop} {a : Act} {w : World} {l : List Oper} (hm : P.follows .mixedOrders = true) (hB : Region.lexB .any l.toArray = true)
    (h : wpQuiet P l.toArray (fun w' => ∃ d, w' = wext w d) (fun a' => ∀ w1, Ext w w1 → Q .normal a' w1) l a) : (Code.region id l.toArray true).wp P Q a w :=
  wp_region_quiet (C := fun w' => ∃ d, w' = wext w d) hm hB ⟨_, wext_of (Ext.drew (Ext.refl w))⟩ (wpQuiet_post (Q' := fun a' => ∀ w', (∃ d, w' = wext w d) → Q .normal a' w') (fun _ h w' ⟨d, hd⟩ => h w' (hd ▸ wext_ext w d)) _ _ h)
end

end Go.Proofs.Ytfaekfdngkpkdaa
/- Rows of cells that somebody holds: what an append leaves; worlds of which a list of blocks may have changed. Own text. -/
namespace Go.Proofs.Ytfaekfdngkpkdaa
set_option linter.unusedVariables false
set_option linter.unusedSimpArgs false
open Go.RowKit
attribute [local go_sem] wext_cell wext_frozen wext_heap alloc_cell alloc_frozen alloc_heap setCell_cell objCell_cells objFrozen_cells

/-- w' is w with new blocks; of the old ones those of F may have changed. -/
structure Keeps (F : List Nat) (w w' : World) : Prop where
  os : w'.os = w.os
  tape : w'.tape = w.tape
  output : w'.output = w.output
  size : w.heap.size ≤ w'.heap.size
  block : ∀ b, b < w.heap.size → b ∉ F → w'.heap[b]? = w.heap[b]?

theorem Keeps.refl (F : List Nat) (w : World) : Keeps F w w := ⟨rfl, rfl, rfl, Nat.le_refl _, fun _ _ _ => rfl⟩
theorem Keeps.trans {F F' : List Nat} {a b c : World} (h : Keeps F a b) (k : Keeps F' b c) (hF : ∀ x ∈ F', x ∈ F ∨ a.heap.size ≤ x) : Keeps F a c :=
  ⟨k.os.trans h.os, k.tape.trans h.tape, k.output.trans h.output, Nat.le_trans h.size k.size, fun x hx hn =>
    (k.block x (Nat.lt_of_lt_of_le hx h.size) (fun hm => (hF x hm).elim hn (fun h2 => by omega))).trans (h.block x hx hn)⟩
theorem Keeps.same {F : List Nat} {a b c : World} (h : Keeps F a b) (k : Keeps F b c) : Keeps F a c := h.trans k fun _ hx => .inl hx
theorem Keeps.mono {F F' : List Nat} {a b : World} (h : Keeps F a b) (hF : ∀ x ∈ F, x ∈ F' ∨ a.heap.size ≤ x) : Keeps F' a b :=
  ⟨h.os, h.tape, h.output, h.size, fun x hx hn => h.block x hx fun hm => (hF x hm).elim hn fun h2 => by omega⟩
theorem Keeps.ext {F : List Nat} {a b c : World} (h : Keeps F a b) (k : Ext b c) : Keeps F a c :=
  ⟨k.os.trans h.os, k.tape.trans h.tape, k.output.trans h.output, Nat.le_trans h.size k.size, fun x hx hn => (k.block x (Nat.lt_of_lt_of_le hx h.size)).trans (h.block x hx hn)⟩
theorem Keeps.of_ext {F : List Nat} {a b : World} (k : Ext a b) : Keeps F a b := (Keeps.refl F a).ext k
theorem Keeps.to_ext {F : List Nat} {W a b : World} (h : Ext W a) (k : Keeps F a b) (hF : ∀ x ∈ F, W.heap.size ≤ x) : Ext W b :=
  ⟨k.os.trans h.os, k.tape.trans h.tape, k.output.trans h.output, Nat.le_trans h.size k.size, fun x hx =>
    (k.block x (Nat.lt_of_lt_of_le hx h.size) (fun hm => by have := hF x hm; omega)).trans (h.block x hx)⟩
theorem Keeps.grown {F : List Nat} {a b c : World} {row : Option Nat} (h : Keeps F a b) (k : b.grownBy c row) (hr : ∀ x, row = some x → x ∈ F ∨ a.heap.size ≤ x) : Keeps F a c :=
  ⟨k.os.trans h.os, k.tape.trans h.tape, k.output.trans h.output, Nat.le_trans h.size k.size, fun x hx hn =>
    (k.block x (Nat.lt_of_lt_of_le hx h.size) (fun hm => (hr x hm.symm).elim hn (fun h2 => by omega))).trans (h.block x hx hn)⟩
/-- w with another object in a block. -/
def putBlk (w : World) (r : Nat) (o : Obj) : World := { w with heap := w.heap.setIfInBounds r o }
theorem putBlk_size (w : World) (r : Nat) (o : Obj) : (putBlk w r o).heap.size = w.heap.size := by simp [putBlk]
theorem putBlk_heap (w : World) (r b : Nat) (o : Obj) (hne : r ≠ b) : (putBlk w r o).heap[b]? = w.heap[b]? := by simp [putBlk, Array.getElem?_setIfInBounds, hne]
theorem putBlk_same (w : World) (r : Nat) (o : Obj) (h : r < w.heap.size) : (putBlk w r o).heap[r]? = some o := by simp [putBlk, h]
theorem Keeps.put {F : List Nat} {a b : World} (h : Keeps F a b) {r : Nat} (hr : r ∈ F ∨ a.heap.size ≤ r) (o : Obj) : Keeps F a (putBlk b r o) :=
  ⟨h.os, h.tape, h.output, by rw [putBlk_size]; exact h.size, fun x hx hn => by
    have : r ≠ x := fun e => by subst e; exact hr.elim hn (fun h2 => by omega)
    rw [← h.block x hx hn]; exact putBlk_heap _ _ _ _ this⟩
theorem setCell_heap (w : World) (b i b' : Nat) (v : Value) (hne : b ≠ b') : (w.setCell ⟨b, i, none⟩ v).heap[b']? = w.heap[b']? := by
  simp [World.setCell, Array.getElem?_modify, hne]
theorem setCell_heap_same {w : World} {b i : Nat} {v : Value} {c : Array Value} {e : TypeId} {f : Nat × Nat} (h : w.heap[b]? = some (.cells c e f)) : (w.setCell ⟨b, i, none⟩ v).heap[b]? = some (.cells (c.setIfInBounds i v) e f) := by
  simp [World.setCell, Array.getElem?_modify, h]
theorem Keeps.setCell {F : List Nat} {a b : World} (h : Keeps F a b) {r i : Nat} (hr : r ∈ F ∨ a.heap.size ≤ r) (v : Value) : Keeps F a (b.setCell ⟨r, i, none⟩ v) :=
  ⟨h.os, h.tape, h.output, by simpa using h.size, fun x hx hn => by
    have : r ≠ x := fun e => by subst e; exact hr.elim hn (fun h2 => by omega)
    rw [setCell_heap _ _ _ _ _ this, h.block x hx hn]⟩

theorem store6_heap {w : World} {b : Nat} {c0 c1 c2 c3 c4 c5 v0 v1 v2 v3 v4 v5 : Value} {e : TypeId} {f : Nat × Nat} (h : w.heap[b]? = some (.cells #[c0, c1, c2, c3, c4, c5] e f)) :
    ((((((w.setCell ⟨b, 0, none⟩ v0).setCell ⟨b, 1, none⟩ v1).setCell ⟨b, 2, none⟩ v2).setCell ⟨b, 3, none⟩ v3).setCell ⟨b, 4, none⟩ v4).setCell ⟨b, 5, none⟩ v5).heap[b]? = some (.cells #[v0, v1, v2, v3, v4, v5] e f) :=
  setCell_heap_same (setCell_heap_same (setCell_heap_same (setCell_heap_same (setCell_heap_same (setCell_heap_same h)))))
theorem store6_other {w : World} {b b' : Nat} {v0 v1 v2 v3 v4 v5 : Value} (h : b ≠ b') :
    ((((((w.setCell ⟨b, 0, none⟩ v0).setCell ⟨b, 1, none⟩ v1).setCell ⟨b, 2, none⟩ v2).setCell ⟨b, 3, none⟩ v3).setCell ⟨b, 4, none⟩ v4).setCell ⟨b, 5, none⟩ v5).heap[b']? = w.heap[b']? := by
  rw [setCell_heap _ _ _ _ _ h, setCell_heap _ _ _ _ _ h, setCell_heap _ _ _ _ _ h, setCell_heap _ _ _ _ _ h, setCell_heap _ _ _ _ _ h, setCell_heap _ _ _ _ _ h]
theorem ext6 {a w : World} {b : Nat} {v0 v1 v2 v3 v4 v5 : Value} (h : Ext a w) (hb : a.heap.size ≤ b) :
    Ext a ((((((w.setCell ⟨b, 0, none⟩ v0).setCell ⟨b, 1, none⟩ v1).setCell ⟨b, 2, none⟩ v2).setCell ⟨b, 3, none⟩ v3).setCell ⟨b, 4, none⟩ v4).setCell ⟨b, 5, none⟩ v5) :=
  Ext.setCell (Ext.setCell (Ext.setCell (Ext.setCell (Ext.setCell (Ext.setCell h hb _) hb _) hb _) hb _) hb _) hb _
theorem post_gen {P : Program} {fn : Func} {R : Ending → World → Prop} {e : Exit} {a : Act} {w : World} (C : World → Prop) (hw : C w) (h : ∀ V, C V → bodyPost P fn R e a V) : bodyPost P fn R e a w := h w hw
theorem alloc_same (w : World) (o : Obj) : (w.alloc o).heap[w.heap.size]? = some o := by rw [alloc_heap]; simp
theorem alloc_same1 (w : World) (o o1 : Obj) : ((w.alloc o1).alloc o).heap[w.heap.size + 1]? = some o := by
  have := alloc_same (w.alloc o1) o
  rwa [World.size_alloc] at this
theorem alloc_same2 (w : World) (o o1 o2 : Obj) : (((w.alloc o1).alloc o2).alloc o).heap[w.heap.size + 1 + 1]? = some o := by
  have := alloc_same1 (w.alloc o1) o o2
  rwa [World.size_alloc] at this
theorem alloc_same3 (w : World) (o o1 o2 o3 : Obj) : ((((w.alloc o1).alloc o2).alloc o3).alloc o).heap[w.heap.size + 1 + 1 + 1]? = some o := by
  have := alloc_same2 (w.alloc o1) o o2 o3
  rwa [World.size_alloc] at this
theorem alloc_other (w : World) (o : Obj) {b : Nat} (h : b < w.heap.size) : (w.alloc o).heap[b]? = w.heap[b]? := by rw [alloc_heap, if_pos h]

/-- v holds n elements of so many cells each: xs. -/
def Owns (w : World) (e : TypeId) (size : Nat) (v : Value) (n : Nat) (xs : List Value) : Prop :=
  xs.length = n * size ∧
  ((v = .slice none 0 0 ∧ n = 0) ∨
   ∃ g cap cur, v = .slice (some ⟨g, 0, none⟩) n cap ∧ w.heap[g]? = some (.cells cur e (0, 0)) ∧ n ≤ cap ∧ cap ≤ maxLen ∧ cap * size ≤ cur.size ∧ cur.toList.take (n * size) = xs)

section
variable {w w' : World} {e : TypeId} {size : Nat} {v : Value} {n : Nat} {xs : List Value}
theorem Owns.nil (w : World) (e : TypeId) (size : Nat) : Owns w e size (.slice none 0 0) 0 [] := ⟨by simp, .inl ⟨rfl, rfl⟩⟩
theorem Owns.lt (h : Owns w e size v n xs) : ∀ g, v.ownBlock = some g → g < w.heap.size := by
  intro k hk
  rcases h.2 with ⟨rfl, _⟩ | ⟨g, cap, cur, rfl, hg, _⟩
  · simp [Value.ownBlock] at hk
  · simp [Value.ownBlock] at hk
    subst hk
    exact (Array.getElem?_eq_some_iff.1 hg).1
theorem Owns.heap (h : Owns w e size v n xs) : ∀ g, v.ownBlock = some g → ∃ c, w.heap[g]? = some (.cells c e (0, 0)) := by
  intro k hk
  rcases h.2 with ⟨rfl, _⟩ | ⟨g, cap, cur, rfl, hg, _⟩
  · simp [Value.ownBlock] at hk
  · simp [Value.ownBlock] at hk
    subst hk
    exact ⟨cur, hg⟩
theorem Owns.keep (h : Owns w e size v n xs) (hk : ∀ g, v.ownBlock = some g → w'.heap[g]? = w.heap[g]?) : Owns w' e size v n xs := by
  refine ⟨h.1, ?_⟩
  rcases h.2 with hn | ⟨g, cap, cur, rfl, hg, rest⟩
  · exact .inl hn
  · exact .inr ⟨g, cap, cur, rfl, by rw [hk g rfl]; exact hg, rest⟩
theorem Owns.ext (h : Owns w e size v n xs) (k : Ext w w') : Owns w' e size v n xs := h.keep fun g hg => k.block g (h.lt g hg)
theorem Owns.form (h : Owns w e size v n xs) : ∃ a cap, v = .slice a n cap ∧ n ≤ cap ∧ cap ≤ maxLen := by
  rcases h.2 with ⟨rfl, rfl⟩ | ⟨g, cap, cur, rfl, hg, h1, h2, _⟩
  · exact ⟨none, 0, rfl, Nat.le_refl _, Nat.zero_le _⟩
  · exact ⟨_, cap, rfl, h1, h2⟩
theorem Owns.cells (h : Owns w e size v n xs) {g : Nat} (hg : v.ownBlock = some g) : ∀ j u, xs[j]? = some u → w.cell? ⟨g, j, none⟩ = some u := by
  intro j u hu
  rcases h.2 with ⟨rfl, _⟩ | ⟨g', cap, cur, rfl, hgg, _, _, _, htake⟩
  · simp [Value.ownBlock] at hg
  · simp [Value.ownBlock] at hg
    subst hg
    rw [cell_of_row w g' j cur e (0, 0) hgg]
    rw [← htake, List.getElem?_take] at hu
    split at hu
    · simpa using hu
    · cases hu
/-- Its first k, as c[:k:k]. -/
theorem Owns.take (h : Owns w e size v n xs) {g cap : Nat} (hv : v = .slice (some ⟨g, 0, none⟩) n cap) (k : Nat) (hk : k ≤ n) : Owns w e size (.slice (some ⟨g, 0, none⟩) k k) k (xs.take (k * size)) := by
  refine ⟨by rw [List.length_take, h.1]; exact Nat.min_eq_left (Nat.mul_le_mul_right _ hk), ?_⟩
  rcases h.2 with ⟨rfl, _⟩ | ⟨g', cap', cur, rfl, hgg, h1, h2, h3, htake⟩
  · cases hv
  · cases hv
    refine .inr ⟨g, k, cur, rfl, hgg, Nat.le_refl _, by omega, Nat.le_trans (Nat.mul_le_mul_right _ (by omega)) h3, ?_⟩
    rw [← htake, List.take_take, Nat.min_eq_left (Nat.mul_le_mul_right _ hk)]
end

theorem add0 (g j : Nat) : (⟨g, 0, none⟩ : Addr).add j = ⟨g, j, none⟩ := by unfold Addr.add; split <;> simp_all

section
variable {P : Program} (w : World)
theorem run_append_owns (t ty e : TypeId) (i : TypeInfo) (z : Value) (size bytes : Nat) (ht : P.underlying t = some (.slice e)) (hi : P.info? e = some i) (hz : i.zero = some z)
    (hsize : i.size = size) (hby : i.bytes = bytes) (hzs : z.cells.size = size)
    (v : Value) (n : Nat) (xs : List Value) (hown : Owns w e size v n xs)
    (a : Addr) (m c : Nat) (news : List Value) (hl : news.length = m * size) (hnews : ∀ j u, news[j]? = some u → w.cell? (a.add j) = some u) (h1 : ∀ u ∈ news, u.oneCell' = true)
    (h63 : n + m ≤ maxLen) (hbytes : (n + m) * bytes ≤ 140737488355328) :
    ∃ v' w', (Builtin.append_ #[t, t] ty #[v, .slice (some a) m c]).run P w = .ok v' w' ∧ Owns w' e size v' (n + m) (xs ++ news) ∧ w.grownBy w' v.ownBlock ∧ (v'.ownBlock = v.ownBlock ∨ v'.ownBlock = some w.heap.size) := by
  subst hsize
  subst hby
  have hsmall : n + m ≤ 9223372036854775807 := by simp only [maxLen] at h63; omega
  have hlen : (xs ++ news).length = (n + m) * i.size := by rw [List.length_append, hown.1, hl, Nat.add_mul]
  have grown : ∀ (old : Nat) (row : Option Nat),
      Owns (w.drew.alloc (.cells (xs.toArray ++ news.toArray ++ Builtin.zeroCells z.cells (grownCap w (n + m) old e - (n + m))) e)) e i.size
        (.slice (some ⟨w.heap.size, 0, none⟩) (n + m) (grownCap w (n + m) old e)) (n + m) (xs ++ news) ∧
      w.grownBy (w.drew.alloc (.cells (xs.toArray ++ news.toArray ++ Builtin.zeroCells z.cells (grownCap w (n + m) old e - (n + m))) e)) row := by
    intro old row
    have hge := grownCap_ge w (n + m) old e
    refine ⟨⟨hlen, .inr ⟨w.heap.size, _, _, rfl, heap_alloc_new w.drew _, hge, grownCap_le_maxLen w (n + m) old e h63, ?_, ?_⟩⟩, ⟨rfl, rfl, rfl, by simp, fun k hk _ => heap_alloc_old w.drew _ hk⟩⟩
    · apply Nat.le_of_eq
      simp only [Array.size_append, List.size_toArray, size_zeroCells, hzs, hown.1, hl, ← Nat.add_mul]
      congr 1
      omega
    · simp only [Array.toList_append, List.append_assoc]
      rw [← List.append_assoc, ← hlen]
      exact List.take_left
  rcases hown.2 with ⟨rfl, rfl⟩ | ⟨g, cap, cur, rfl, hg, hnc, hcm, hcs, htake⟩
  · have hx : xs = [] := List.eq_nil_of_length_eq_zero (by simpa using hown.1)
    subst hx
    by_cases hm : m = 0
    · subst hm
      have hn : news = [] := List.eq_nil_of_length_eq_zero (by simpa using hl)
      subst hn
      refine ⟨.slice none 0 0, w, ?_, Owns.nil w e i.size, ⟨rfl, rfl, rfl, Nat.le_refl _, fun _ _ _ => rfl⟩, .inl rfl⟩
      simp [Builtin.append_, run_underlying ht, sizeOf, typeInfo, hi, Builtin.lenOf, Builtin.firstCells, loadCells, loadCellsFrom]
    · have hr := run_append_nil (P := P) w t ty e i z ht hi hz a m c news hl hnews (by omega) (by omega) (by have hb := hbytes; simp only [Nat.zero_add] at hb; omega)
      have hgr := grown 0 (Value.ownBlock (.slice none 0 0))
      simp only [Nat.zero_add, List.nil_append, Array.empty_append] at hgr ⊢
      exact ⟨_, _, hr, hgr.1, hgr.2, .inr rfl⟩
  · by_cases hroom : n + m ≤ cap
    · have hfit : n * i.size + news.length ≤ cur.size := by rw [hl, ← Nat.add_mul]; exact Nat.le_trans (Nat.mul_le_mul_right _ hroom) hcs
      have hr := run_append_room (P := P) w t ty e i ht hi g n cap cur hg a m c news hl hnews h1 hroom hfit
      refine ⟨_, _, hr, ⟨hlen, .inr ⟨g, cap, _, rfl, setRow_heap w g cur _ e _ hg, hroom, hcm, ?_, ?_⟩⟩, ⟨rfl, rfl, rfl, by simp, fun k _ hk => setRow_other w g k _ (fun e => hk (by simp [Value.ownBlock, e]))⟩, .inl rfl⟩
      · simp only [List.size_toArray, List.length_append, List.length_take, List.length_drop, Array.length_toList]
        omega
      · rw [htake, ← hlen]
        exact List.take_left
    · have holds : ∀ j u, xs[j]? = some u → w.cell? ((⟨g, 0, none⟩ : Addr).add j) = some u := fun j u hu => by rw [add0]; exact hown.cells (g := g) rfl j u hu
      have hr := run_append_grow (P := P) w t ty e i z ht hi hz ⟨g, 0, none⟩ n cap xs hown.1 holds a m c news hl hnews (by omega) (by omega) (growslice_fits (by omega) hbytes)
      have hgr := grown cap (Value.ownBlock (.slice (some ⟨g, 0, none⟩) n cap))
      exact ⟨_, _, hr, hgr.1, hgr.2, .inr rfl⟩

/-- Of a slice that is nil nothing is appended. -/
theorem run_append_owns_nil (t ty e : TypeId) (i : TypeInfo) (size : Nat) (ht : P.underlying t = some (.slice e)) (hi : P.info? e = some i)
    (v : Value) (n : Nat) (xs : List Value) (hown : Owns w e size v n xs) : (Builtin.append_ #[t, t] ty #[v, .slice none 0 0]).run P w = .ok v w := by
  rcases hown.2 with ⟨rfl, rfl⟩ | ⟨g, cap, cur, rfl, hg, hnc, _⟩
  · simp [Builtin.append_, run_underlying ht, sizeOf, typeInfo, hi, Builtin.lenOf, Builtin.firstCells, loadCells, loadCellsFrom]
  · simp [Builtin.append_, run_underlying ht, sizeOf, typeInfo, hi, Builtin.lenOf, Builtin.firstCells, hnc, storeCells]
end

/-- A slice's type, its elements' type, their cells and bytes. -/
def RowT (P : Program) (t e : TypeId) (size bytes : Nat) : Prop := ∃ i z, P.underlying t = some (.slice e) ∧ P.info? e = some i ∧ i.zero = some z ∧ i.size = size ∧ i.bytes = bytes ∧ z.cells.size = size
theorem RowT.of {P : Program} {t e : TypeId} {size bytes : Nat} {z : Value} (ht : P.underlying t = some (.slice e)) (hi : (P.info? e).map (fun i => (i.zero, i.size, i.bytes)) = some (some z, size, bytes)) (hz : z.cells.size = size) : RowT P t e size bytes := by
  cases h : P.info? e with
  | none => rw [h] at hi; cases hi
  | some i =>
    rw [h] at hi
    simp only [Option.map_some, Option.some.injEq, Prod.mk.injEq] at hi
    exact ⟨i, z, ht, h, hi.1, hi.2.1, hi.2.2, hz⟩

section
variable {P : Program} {w : World} {ops : Array Oper} {rest : List Oper} {o : Oper} {a : Act} {Q : Exit → Act → World → Prop}
theorem wp_append_run {K : Act → World → Prop} (s x : Operand) (t : TypeId)
    (ho : o.op = .call { callee := .builtin .append, args := #[s, x], argTypes := #[t, t] }) (v x' : Value) (hs : a.eval s = v) (hx : a.eval x = x') (v' : Value) (w' : World)
    (hr : (Builtin.append_ #[t, t] o.type #[v, x']).run P w = .ok v' w') (h : K (a.put o.dst v') w') : o.wp P a w K Q := by
  unfold Oper.wp execOp
  simp only [ho, resolve, invoke, builtin, Sem.run_bind, Sem.run_pure, Result.andThen_ok, List.map_toArray, List.map_cons, List.map_nil, hs, hx, hr]
  exact h
theorem wpList_append_owns (hgd : o.guard = none) (s x : Operand) (t e : TypeId) (size bytes : Nat) (R : RowT P t e size bytes)
    (ho : o.op = .call { callee := .builtin .append, args := #[s, x], argTypes := #[t, t] }) (v : Value) (hs : a.eval s = v) (n : Nat) (xs : List Value) (hown : Owns w e size v n xs)
    (b : Addr) (m c : Nat) (hx : a.eval x = .slice (some b) m c) (news : List Value) (hl : news.length = m * size) (hnews : ∀ j u, news[j]? = some u → w.cell? (b.add j) = some u) (h1 : ∀ u ∈ news, u.oneCell' = true)
    (h63 : n + m ≤ maxLen) (hbytes : (n + m) * bytes ≤ 140737488355328)
    (h : ∀ v' w', Owns w' e size v' (n + m) (xs ++ news) → w.grownBy w' v.ownBlock → (v'.ownBlock = v.ownBlock ∨ v'.ownBlock = some w.heap.size) → wpList P ops Q rest (a.put o.dst v') w') : wpList P ops Q (o :: rest) a w := by
  obtain ⟨i, z, ht, hi, hz, hsi, hby, hzs⟩ := R
  obtain ⟨v', w', hr, q1, q2, q3⟩ := run_append_owns w t o.type e i z size bytes ht hi hz hsi hby hzs v n xs hown b m c news hl hnews h1 h63 hbytes
  exact wpList_plain hgd fun _ hK => wp_append_run s x t ho v _ hs hx v' w' hr (hK _ _ (h v' w' q1 q2 q3))
theorem wpList_append_owns_nil (hgd : o.guard = none) (s x : Operand) (t e : TypeId) (size bytes : Nat) (R : RowT P t e size bytes)
    (ho : o.op = .call { callee := .builtin .append, args := #[s, x], argTypes := #[t, t] }) (v : Value) (hs : a.eval s = v) (n : Nat) (xs : List Value) (hown : Owns w e size v n xs)
    (hx : a.eval x = .slice none 0 0) (h : wpList P ops Q rest (a.put o.dst v) w) : wpList P ops Q (o :: rest) a w := by
  obtain ⟨i, z, ht, hi, hz, hsi, hby, hzs⟩ := R
  exact wpList_plain hgd fun _ hK => wp_append_run s x t ho v _ hs hx v w (run_append_owns_nil w t o.type e i size ht hi v n xs hown) (hK _ _ h)
theorem Owns.fresh {w : World} {e : TypeId} {size : Nat} {g : Nat} {c : Array Value} (h : w.heap[g]? = some (.cells c e (0, 0))) : Owns w e size (.slice (some ⟨g, 0, none⟩) 0 0) 0 [] :=
  ⟨by simp, .inr ⟨g, 0, c, rfl, h, Nat.le_refl _, Nat.zero_le _, by simp, by simp⟩⟩
theorem Owns.fresh1 {w : World} {e : TypeId} {size : Nat} {g : Nat} {c : Array Value} (h : w.heap[g]? = some (.cells c e (0, 0))) (hc : c.size = size) : Owns w e size (.slice (some ⟨g, 0, none⟩) 1 1) 1 c.toList :=
  ⟨by simp [hc], .inr ⟨g, 1, c, rfl, h, Nat.le_refl _, by unfold maxLen; omega, by simp [hc], by rw [Nat.one_mul, List.take_of_length_le (by simp [hc])]⟩⟩
end
theorem heap_cell {w : World} {b : Nat} {c : Array Value} {e : TypeId} {f : Nat × Nat} (h : w.heap[b]? = some (.cells c e f)) (i : Nat) : w.cell? ⟨b, i, none⟩ = c[i]? := by
  rw [cell_heap, h]; rfl
theorem heap_lt {w : World} {b : Nat} {o : Obj} (h : w.heap[b]? = some o) : b < w.heap.size := (Array.getElem?_eq_some_iff.1 h).1
theorem frozen_of {w : World} {b : Nat} {c : Array Value} {e : TypeId} (h : w.heap[b]? = some (.cells c e (0, 0))) (o : Nat) : w.frozen? ⟨b, o, none⟩ = false := by rw [frozen_heap, h]; simp [objFrozen]
theorem getObj_at {P : Program} {w : World} {r : Nat} {es : Array MapEntry} {c : Nat} (h : w.heap[r]? = some (.map es c)) : (getObj r).run P w = .ok (.map es c) w := by simp [getObj, Sem.run, h]
theorem setObj_at {P : Program} {w : World} {r : Nat} {es : Array MapEntry} {c : Nat} (o' : Obj) (h : w.heap[r]? = some (.map es c)) : (setObj r o').run P w = .ok () (putBlk w r o') := by simp [setObj, Sem.run, h, putBlk]
end Go.Proofs.Ytfaekfdngkpkdaa
/- Memories: maps from pages' numbers to pages; what a memory is; may, aligned, at, Bits, Peek, New. -/
namespace Go.Proofs.Ytfaekfdngkpkdaa
set_option linter.unusedVariables false
set_option linter.unusedSimpArgs false
open Go.RowKit
attribute [local go_sem] wext_cell wext_frozen wext_heap alloc_cell alloc_frozen alloc_heap setCell_cell objCell_cells objFrozen_cells

/-- The entries of a map of pages, in turn. -/
def EntP (es : Array MapEntry) (clock : Nat) (PL : List (Int × Nat)) : Prop := ((∀ e ∈ es.toList, e.born < clock) ∧ (es.toList.map (·.born)).Nodup) ∧ es.toList.map (fun e => (e.key, e.val)) = PL.map fun x => (.int .u64 x.1, .pointer (some ⟨x.2, 0, none⟩))
def findI (n : Int) : List (Int × Nat) → Nat → Option (Nat × Nat)
  | [], _ => none
  | x :: L, i => if n = x.1 then some (i, x.2) else findI n L (i + 1)
def findP (n : Int) (PL : List (Int × Nat)) : Option Nat := (findI n PL 0).map (·.2)
theorem findNowP (n : Int) : ∀ (l : List MapEntry) (PL : List (Int × Nat)) (i : Nat), l.map (fun e => (e.key, e.val)) = PL.map (fun x => (Value.int .u64 x.1, Value.pointer (some ⟨x.2, 0, none⟩))) →
    Instr.findNow (.int .u64) (.int .u64 n) l i = some ((findI n PL i).map fun x => (x.1, .pointer (some ⟨x.2, 0, none⟩)))
  | [], [], i, _ => rfl
  | [], x :: L, i, h => by cases h
  | e :: l, [], i, h => by cases h
  | e :: l, x :: L, i, h => by
    simp only [List.map_cons, List.cons.injEq, Prod.mk.injEq] at h
    unfold Instr.findNow findI
    rw [h.1.1]
    simp only [Instr.sameNow, if_true]
    by_cases hk : n = x.1
    · simp [hk, h.1.2]
    · have : (n == x.1) = false := by simpa using hk
      rw [this, if_neg hk]
      exact findNowP n l L (i + 1) h.2
theorem findKeyP (n : Int) (w : World) (es : Array MapEntry) (clock : Nat) (PL : List (Int × Nat)) (h : EntP es clock PL) :
    (Instr.findKey 23 (.int .u64 n) es.toList).run Try.prog w = .ok ((findI n PL 0).map fun x => (x.1, .pointer (some ⟨x.2, 0, none⟩))) w := by
  unfold Instr.findKey
  rw [Sem.run_bind, run_underlying Try.underlying23]
  simp only [Result.andThen_ok, findNowP n es.toList PL 0 h.2]
  rfl
theorem checkP_at (e : Bool) (n : Int) (w : World) (d : Nat) : (Instr.checkKey e (d + 1) 23 (.int .u64 n)).run Try.prog w = .ok () w := by
  simp [Instr.checkKey, go_sem]
theorem checkP (e : Bool) (n : Int) (w : World) : (Instr.checkKey e 10000 23 (.int .u64 n)).run Try.prog w = .ok () w := checkP_at e n w 9999
theorem lookupP_run (n : Int) (w : World) (pb : Nat) (es : Array MapEntry) (clock : Nat) (PL : List (Int × Nat)) (hb : w.heap[pb]? = some (.map es clock)) (h : EntP es clock PL) :
    (Instr.lookup 185 (.map (some pb)) (.int .u64 n) false).run Try.prog w = .ok (match findP n PL with | some g => .pointer (some ⟨g, 0, none⟩) | none => .pointer none) w := by
  unfold Instr.lookup
  rw [Sem.run_bind, run_underlying Try.underlying185]
  simp only [Result.andThen_ok, Sem.run_bind, getObj_at hb, Sem.run_pure, checkP, findKeyP n w es clock PL h]
  unfold findP
  cases hl : findI n PL 0 with
  | none => simp [go_sem]
  | some x => simp
theorem updateP_run (n : Int) (g : Nat) (w : World) (pb : Nat) (es : Array MapEntry) (clock : Nat) (PL : List (Int × Nat)) (hb : w.heap[pb]? = some (.map es clock)) (h : EntP es clock PL) (hn : findP n PL = none) :
    ∃ es' c', (Instr.mapUpdate 185 (.map (some pb)) (.int .u64 n) (.pointer (some ⟨g, 0, none⟩))).run Try.prog w = .ok () (putBlk w pb (.map es' c')) ∧ EntP es' c' (PL ++ [(n, g)]) := by
  unfold Instr.mapUpdate
  rw [Sem.run_bind, run_underlying Try.underlying185]
  simp only [Result.andThen_ok, Sem.run_bind, getObj_at hb, Sem.run_pure, checkP, findKeyP n w es clock PL h]
  unfold findP at hn
  cases hl : findI n PL 0 with
  | some x => rw [hl] at hn; cases hn
  | none =>
    refine ⟨_, _, setObj_at _ hb, ?_⟩
    obtain ⟨⟨h1, h2⟩, h3⟩ := h
    refine ⟨⟨fun e he => ?_, ?_⟩, by simp [h3]⟩
    · simp only [Array.toList_push, List.mem_append, List.mem_singleton] at he
      rcases he with he | rfl
      · have := h1 e he; omega
      · exact Nat.lt_succ_self _
    · simp only [Array.toList_push, List.map_append, List.map_cons, List.map_nil]
      rw [List.nodup_append]
      refine ⟨h2, by simp, fun a ha b hb => ?_⟩
      obtain ⟨e, he, rfl⟩ := List.mem_map.1 ha
      simp only [List.mem_singleton] at hb
      have := h1 e he
      omega

def PageAt (w : World) (g : Nat) (n : Int) (M : Int → Int) : Prop := ∃ c, w.heap[g]? = some (.cells c 191 (0, 0)) ∧ c.size = 512 ∧ ∀ i : Nat, i < 512 → c[i]? = some (.int .u64 (M (n * 512 + i)))
/-- A memory of so many bits, its blocks, its words by the slots' numbers, its trace. -/
def MemAt (w : World) (mb : Nat) (F : List Nat) (B : Int) (M : Int → Int) (T : List Int) : Prop :=
  ∃ pb tv es clock PL, w.heap[mb]? = some (.cells #[.int .i64 B, .map (some pb), tv] 187 (0, 0)) ∧ w.heap[pb]? = some (.map es clock) ∧ EntP es clock PL ∧ (PL.map (·.1)).Nodup ∧ (PL.map (·.2)).Nodup ∧
    (∀ x ∈ PL, PageAt w x.2 x.1 M) ∧ (∀ s, findP (s / 512) PL = none → M s = 0) ∧ (∀ s, 0 ≤ M s ∧ M s ≤ 18446744073709551615) ∧
    Owns w 23 1 tv T.length (T.map (.int .u64 ·)) ∧ F = mb :: pb :: (tv.ownBlock.toList ++ PL.map (·.2)) ∧ (14 ≤ B ∧ B ≤ 22)
theorem MemAt.lt {w : World} {mb : Nat} {F : List Nat} {B : Int} {M : Int → Int} {T : List Int} (h : MemAt w mb F B M T) : ∀ x ∈ F, x < w.heap.size := by
  obtain ⟨pb, tv, es, clock, PL, h1, h2, h3, h4, h5, h6, h7, h8, h9, rfl, h10⟩ := h
  intro x hx
  simp only [List.mem_cons, List.mem_append, Option.mem_toList, List.mem_map] at hx
  rcases hx with rfl | rfl | hx | ⟨y, hy, rfl⟩
  · exact heap_lt h1
  · exact heap_lt h2
  · exact h9.lt x hx
  · obtain ⟨c, hc, _⟩ := h6 y hy; exact heap_lt hc
theorem MemAt.keeps {w w' : World} {mb : Nat} {F G : List Nat} {B : Int} {M : Int → Int} {T : List Int} (h : MemAt w mb F B M T) (k : Keeps G w w') (hd : ∀ x ∈ F, x ∉ G) : MemAt w' mb F B M T := by
  have hlt := h.lt
  have hk : ∀ b ∈ F, w'.heap[b]? = w.heap[b]? := fun b hb => k.block b (hlt b hb) (hd b hb)
  obtain ⟨pb, tv, es, clock, PL, h1, h2, h3, h4, h5, h6, h7, h8, h9, hF, h10⟩ := h
  refine ⟨pb, tv, es, clock, PL, (hk _ (by rw [hF]; simp)).trans h1, (hk _ (by rw [hF]; simp)).trans h2, h3, h4, h5, fun x hx => ?_, h7, h8, h9.keep fun g hg => hk g (by rw [hF]; simp [hg]), hF, h10⟩
  obtain ⟨c, q1, q2, q3⟩ := h6 x hx
  exact ⟨c, (hk _ (by rw [hF]; simp only [List.mem_cons, List.mem_append, List.mem_map]; exact .inr (.inr (.inr ⟨x, hx, rfl⟩)))).trans q1, q2, q3⟩
theorem MemAt.ext {w w' : World} {mb : Nat} {F : List Nat} {B : Int} {M : Int → Int} {T : List Int} (h : MemAt w mb F B M T) (k : Ext w w') : MemAt w' mb F B M T :=
  h.keeps (G := []) (Keeps.of_ext k) (fun _ _ => by simp)

theorem findI_mem {n : Int} : ∀ {L : List (Int × Nat)} {i j g : Nat}, findI n L i = some (j, g) → (n, g) ∈ L
  | [], _, _, _, h => by cases h
  | x :: L, i, j, g, h => by
    unfold findI at h
    split at h
    · rename_i hn
      cases h
      rw [hn]; exact List.mem_cons_self ..
    · exact List.mem_cons_of_mem _ (findI_mem h)
theorem findP_mem {n : Int} {L : List (Int × Nat)} {g : Nat} (h : findP n L = some g) : (n, g) ∈ L := by
  unfold findP at h
  cases hl : findI n L 0 with
  | none => rw [hl] at h; cases h
  | some x => rw [hl] at h; cases h; exact findI_mem hl

set_option maxHeartbeats 1000000 in
set_option maxRecDepth 20000 in
theorem mat_c (mb : Nat) (F : List Nat) (B : Int) (M : Int → Int) (T : List Int) (a : Int) (w : World) (h : MemAt w mb F B M T) (h0 : 0 ≤ a) (h1 : a ≤ 4194303) :
    Calls Try.prog 107 #[.pointer (some ⟨mb, 0, none⟩), .int .u64 a] w fun e w' => e = .returned (.int .u64 (M (a / 8))) ∧ Ext w w' := by
  obtain ⟨pb, tv, es, clock, PL, p1, p2, p3, -, -, p6, p7, -, -, -, -⟩ := h
  have c1 := (heap_cell p1 1).trans rfl
  have hlt := heap_lt p1
  have hlk := lookupP_run (a / 4096) w pb es clock PL p2 p3
  cases hf : findP (a / 4096) PL with
  | none =>
    have hz : M (a / 8) = 0 := p7 (a / 8) (by rw [show a / 8 / 512 = a / 4096 by omega]; exact hf)
    rw [hf] at hlk
    rw [hz]
    dsimp only at hlk
    clear p1 p2 p3 p6 p7
    go_enter Try.func107, Try.ntmps107
    go_wp2
    all_goals
      go_ret
      exact ⟨rfl, (by repeat (first | exact Ext.refl _ | assumption | refine Ext.alloc ?_ _ | refine Ext.drew ?_ | refine Ext.setCell ?_ (by first | (simp; done) | (dsimp only; omega)) _ | refine Ext.trans ?_ (by assumption)))⟩
  | some g =>
    obtain ⟨c, q1, q2, q3⟩ := p6 _ (findP_mem hf)
    rw [hf] at hlk
    dsimp only at hlk q3
    have hcell : w.cell? ⟨g, (a % 4096 / 8).toNat, none⟩ = some (.int .u64 (M (a / 8))) := by
      rw [heap_cell q1, q3 _ (by omega)]
      congr 3; omega
    have hgl := heap_lt q1
    clear p1 p2 p3 p6 p7 q1 q2 q3
    go_enter Try.func107, Try.ntmps107
    go_wp2
    all_goals
      go_ret
      exact ⟨rfl, (by repeat (first | exact Ext.refl _ | assumption | refine Ext.alloc ?_ _ | refine Ext.drew ?_ | refine Ext.setCell ?_ (by first | (simp; done) | (dsimp only; omega)) _ | refine Ext.trans ?_ (by assumption)))⟩
end Go.Proofs.Ytfaekfdngkpkdaa
/- Memories: may, aligned, Bits, Peek. -/
namespace Go.Proofs.Ytfaekfdngkpkdaa
set_option linter.unusedVariables false
set_option linter.unusedSimpArgs false
open Go.RowKit
attribute [local go_sem] wext_cell wext_frozen wext_heap alloc_cell alloc_frozen alloc_heap setCell_cell objCell_cells objFrozen_cells

def limB (B : Int) : Int := if B = 14 then 16384 else if B = 15 then 32768 else if B = 16 then 65536 else if B = 17 then 131072 else if B = 18 then 262144 else if B = 19 then 524288 else if B = 20 then 1048576 else if B = 21 then 2097152 else 4194304
theorem limB_le (B : Int) : limB B ≤ 4194304 := by unfold limB; repeat (split; omega); omega
def errM (B a : Int) : Int := if a < limB B then (if a % 8 = 0 then 0 else 3) else 2
theorem B_cases {B : Int} (h : 14 ≤ B ∧ B ≤ 22) : B = 14 ∨ B = 15 ∨ B = 16 ∨ B = 17 ∨ B = 18 ∨ B = 19 ∨ B = 20 ∨ B = 21 ∨ B = 22 := by omega

theorem MemAt.head {w : World} {mb : Nat} {F : List Nat} {B : Int} {M : Int → Int} {T : List Int} (h : MemAt w mb F B M T) : w.cell? ⟨mb, 0, none⟩ = some (.int .i64 B) ∧ mb < w.heap.size ∧ 14 ≤ B ∧ B ≤ 22 := by
  obtain ⟨pb, tv, es, clock, PL, p1, -, -, -, -, -, -, -, -, -, p⟩ := h
  exact ⟨(heap_cell p1 0).trans rfl, heap_lt p1, p⟩
set_option maxHeartbeats 2000000 in
theorem may_c (mb : Nat) (F : List Nat) (B : Int) (M : Int → Int) (T : List Int) (a : Int) (w : World) (h : MemAt w mb F B M T) (h0 : 0 ≤ a) (h1 : a ≤ 18446744073709551615) :
    Calls Try.prog 133 #[.pointer (some ⟨mb, 0, none⟩), .int .u64 a] w fun e w' => e = .returned (.int .i64 (if a < limB B then 0 else 2)) ∧ Ext w w' := by
  obtain ⟨c0, hlt, hB⟩ := h.head
  clear h
  rcases B_cases hB with rfl | rfl | rfl | rfl | rfl | rfl | rfl | rfl | rfl
  all_goals
    simp only [limB, reduceIte, Int.reduceEq]
    clear hB
    split
    · go_enter Try.func133, Try.ntmps133
      go_wp2
      all_goals
        go_ret
        exact ⟨rfl, (by repeat (first | exact Ext.refl _ | assumption | refine Ext.alloc ?_ _ | refine Ext.drew ?_ | refine Ext.setCell ?_ (by first | (simp; done) | (dsimp only; omega)) _ | refine Ext.trans ?_ (by assumption)))⟩
    · go_enter Try.func133, Try.ntmps133
      go_wp2
      all_goals
        go_ret
        exact ⟨rfl, (by repeat (first | exact Ext.refl _ | assumption | refine Ext.alloc ?_ _ | refine Ext.drew ?_ | refine Ext.setCell ?_ (by first | (simp; done) | (dsimp only; omega)) _ | refine Ext.trans ?_ (by assumption)))⟩
theorem aligned_c (mb : Nat) (F : List Nat) (B : Int) (M : Int → Int) (T : List Int) (a : Int) (w : World) (h : MemAt w mb F B M T) (h0 : 0 ≤ a) (h1 : a ≤ 18446744073709551615) :
    Calls Try.prog 106 #[.pointer (some ⟨mb, 0, none⟩), .int .u64 a] w fun e w' => e = .returned (.int .i64 (errM B a)) ∧ Ext w w' := by
  have hm := fun w' (hx : Ext w w') => may_c mb F B M T a w' (h.ext hx) h0 h1
  clear h
  unfold errM
  by_cases ha : a < limB B
  · rw [if_pos ha]
    simp only [if_pos ha] at hm
    clear ha
    by_cases h8 : a % 8 = 0
    · rw [if_pos h8]
      have h8b : (a % 8 != 0) = false := by simpa using h8
      go_enter Try.func106, Try.ntmps106
      go_wp2_with (first | (go_at_call 133; refine (hm _ (by repeat (first | exact Ext.refl _ | assumption | refine Ext.alloc ?_ _ | refine Ext.drew ?_ | refine Ext.setCell ?_ (by first | (simp; done) | (dsimp only; omega)) _ | refine Ext.trans ?_ (by assumption)))).mono ?_; rintro e w1 ⟨rfl, hb1⟩))
      all_goals
        go_ret
        exact ⟨rfl, (by repeat (first | exact Ext.refl _ | assumption | refine Ext.alloc ?_ _ | refine Ext.drew ?_ | refine Ext.setCell ?_ (by first | (simp; done) | (dsimp only; omega)) _ | refine Ext.trans ?_ (by assumption)))⟩
    · rw [if_neg h8]
      have h8b : (a % 8 != 0) = true := by simpa using h8
      go_enter Try.func106, Try.ntmps106
      go_wp2_with (first | (go_at_call 133; refine (hm _ (by repeat (first | exact Ext.refl _ | assumption | refine Ext.alloc ?_ _ | refine Ext.drew ?_ | refine Ext.setCell ?_ (by first | (simp; done) | (dsimp only; omega)) _ | refine Ext.trans ?_ (by assumption)))).mono ?_; rintro e w1 ⟨rfl, hb1⟩))
      all_goals
        go_ret
        exact ⟨rfl, (by repeat (first | exact Ext.refl _ | assumption | refine Ext.alloc ?_ _ | refine Ext.drew ?_ | refine Ext.setCell ?_ (by first | (simp; done) | (dsimp only; omega)) _ | refine Ext.trans ?_ (by assumption)))⟩
  · rw [if_neg ha]
    simp only [if_neg ha] at hm
    clear ha
    go_enter Try.func106, Try.ntmps106
    go_wp2_with (first | (go_at_call 133; refine (hm _ (by repeat (first | exact Ext.refl _ | assumption | refine Ext.alloc ?_ _ | refine Ext.drew ?_ | refine Ext.setCell ?_ (by first | (simp; done) | (dsimp only; omega)) _ | refine Ext.trans ?_ (by assumption)))).mono ?_; rintro e w1 ⟨rfl, hb1⟩))
    all_goals
      go_ret
      exact ⟨rfl, (by repeat (first | exact Ext.refl _ | assumption | refine Ext.alloc ?_ _ | refine Ext.drew ?_ | refine Ext.setCell ?_ (by first | (simp; done) | (dsimp only; omega)) _ | refine Ext.trans ?_ (by assumption)))⟩
theorem bits_c (mb : Nat) (F : List Nat) (B : Int) (M : Int → Int) (T : List Int) (w : World) (h : MemAt w mb F B M T) :
    Calls Try.prog 64 #[.pointer (some ⟨mb, 0, none⟩)] w fun e w' => e = .returned (.int .i64 B) ∧ Ext w w' := by
  obtain ⟨c0, hlt, hB⟩ := h.head
  clear h
  go_enter Try.func64, Try.ntmps64
  go_wp2
  all_goals
    go_ret
    exact ⟨rfl, (by repeat (first | exact Ext.refl _ | assumption | refine Ext.alloc ?_ _ | refine Ext.drew ?_ | refine Ext.setCell ?_ (by first | (simp; done) | (dsimp only; omega)) _ | refine Ext.trans ?_ (by assumption)))⟩
theorem peek_c (mb : Nat) (F : List Nat) (B : Int) (M : Int → Int) (T : List Int) (a : Int) (w : World) (h : MemAt w mb F B M T) (h0 : 0 ≤ a) (h1 : a ≤ 18446744073709551615) :
    Calls Try.prog 55 #[.pointer (some ⟨mb, 0, none⟩), .int .u64 a] w fun e w' => e = .returned (.tuple #[.int .u64 (if errM B a = 0 then M (a / 8) else 0), .int .i64 (errM B a)]) ∧ Ext w w' := by
  have hal := fun w' (hx : Ext w w') => aligned_c mb F B M T a w' (h.ext hx) h0 h1
  by_cases he : errM B a = 0
  · have ha : a ≤ 4194303 := by
      unfold errM at he
      by_cases hq : a < limB B
      · have := limB_le B; omega
      · rw [if_neg hq] at he; omega
    have hat := fun w' (hx : Ext w w') => mat_c mb F B M T a w' (h.ext hx) h0 ha
    rw [if_pos he, he]
    rw [he] at hal
    generalize M (a / 8) = y at hat
    clear h he ha
    go_enter Try.func55, Try.ntmps55
    go_wp2_with (first | (go_at_call 106; refine (hal _ (by repeat (first | exact Ext.refl _ | assumption | refine Ext.alloc ?_ _ | refine Ext.drew ?_ | refine Ext.setCell ?_ (by first | (simp; done) | (dsimp only; omega)) _ | refine Ext.trans ?_ (by assumption)))).mono ?_; rintro e w1 ⟨rfl, hb1⟩) | (go_at_call 107; refine (hat _ (by repeat (first | exact Ext.refl _ | assumption | refine Ext.alloc ?_ _ | refine Ext.drew ?_ | refine Ext.setCell ?_ (by first | (simp; done) | (dsimp only; omega)) _ | refine Ext.trans ?_ (by assumption)))).mono ?_; rintro e w2 ⟨rfl, hb2⟩))
    all_goals
      go_ret2
      exact ⟨rfl, (by repeat (first | exact Ext.refl _ | assumption | refine Ext.alloc ?_ _ | refine Ext.drew ?_ | refine Ext.setCell ?_ (by first | (simp; done) | (dsimp only; omega)) _ | refine Ext.trans ?_ (by assumption)))⟩
  · rw [if_neg he]
    generalize errM B a = er at hal he
    have heb : (er != 0) = true := by simpa using he
    clear h
    go_enter Try.func55, Try.ntmps55
    go_wp2_with (first | (go_at_call 106; refine (hal _ (by repeat (first | exact Ext.refl _ | assumption | refine Ext.alloc ?_ _ | refine Ext.drew ?_ | refine Ext.setCell ?_ (by first | (simp; done) | (dsimp only; omega)) _ | refine Ext.trans ?_ (by assumption)))).mono ?_; rintro e w1 ⟨rfl, hb1⟩))
    all_goals
      go_ret2
      exact ⟨rfl, (by repeat (first | exact Ext.refl _ | assumption | refine Ext.alloc ?_ _ | refine Ext.drew ?_ | refine Ext.setCell ?_ (by first | (simp; done) | (dsimp only; omega)) _ | refine Ext.trans ?_ (by assumption)))⟩
end Go.Proofs.Ytfaekfdngkpkdaa
/- Memories: set, Store. -/
namespace Go.Proofs.Ytfaekfdngkpkdaa
set_option linter.unusedVariables false
set_option linter.unusedSimpArgs false
open Go.RowKit
attribute [local go_sem] wext_cell wext_frozen wext_heap alloc_cell alloc_frozen alloc_heap setCell_cell objCell_cells objFrozen_cells

def setM (M : Int → Int) (s x : Int) : Int → Int := fun t => if t = s then x else M t
def EndMem (mb : Nat) (F : List Nat) (w : World) (B : Int) (M' : Int → Int) (T' : List Int) (w' : World) : Prop :=
  ∃ F', MemAt w' mb F' B M' T' ∧ Keeps F w w' ∧ ∀ y ∈ F', y ∈ F ∨ w.heap.size ≤ y

theorem findI_append {n : Int} {x : Int × Nat} : ∀ (L : List (Int × Nat)) (i : Nat), findI n (L ++ [x]) i = match findI n L i with | some y => some y | none => if n = x.1 then some (i + L.length, x.2) else none
  | [], i => by simp [findI]
  | y :: L, i => by
    show findI n (y :: (L ++ [x])) i = _
    unfold findI
    by_cases h : n = y.1
    · rw [if_pos h, if_pos h]
    · rw [if_neg h, if_neg h, findI_append L (i + 1)]
      cases findI n L (i + 1) with
      | some z => rfl
      | none => simp only [List.length_cons]; rw [show i + 1 + L.length = i + (L.length + 1) by omega]
theorem findP_append_none {n : Int} {x : Int × Nat} {L : List (Int × Nat)} (h : findP n (L ++ [x]) = none) : findP n L = none ∧ n ≠ x.1 := by
  unfold findP at *
  rw [findI_append] at h
  cases hl : findI n L 0 with
  | some y => rw [hl] at h; cases h
  | none =>
    rw [hl] at h
    refine ⟨rfl, fun e => ?_⟩
    simp [e] at h
theorem findI_none {n : Int} : ∀ {L : List (Int × Nat)} {i : Nat}, findI n L i = none → n ∉ L.map (·.1)
  | [], _, _ => by simp
  | x :: L, i, h => by
    unfold findI at h
    split at h
    · cases h
    · rename_i hn
      simp only [List.map_cons, List.mem_cons, not_or]
      exact ⟨hn, findI_none h⟩
theorem findP_not {n : Int} {L : List (Int × Nat)} (h : findP n L = none) : n ∉ L.map (·.1) := by
  unfold findP at h
  cases hl : findI n L 0 with
  | some y => rw [hl] at h; cases h
  | none => exact findI_none hl
theorem PageAt.keep {w w' : World} {g : Nat} {n s x : Int} {M : Int → Int} (h : PageAt w g n M) (hk : w'.heap[g]? = w.heap[g]?) (hs : s / 512 ≠ n) : PageAt w' g n (setM M s x) := by
  obtain ⟨c, q1, q2, q3⟩ := h
  refine ⟨c, hk.trans q1, q2, fun i hi => ?_⟩
  rw [q3 i hi]
  unfold setM
  rw [if_neg (fun e => hs (by omega))]
/-- A word that is written in a page. -/
theorem PageAt.write {w w' : World} {g i : Nat} {n x : Int} {M : Int → Int} (h : PageAt w g n M) (hi : i < 512) (c : Array Value) (hc : w.heap[g]? = some (.cells c 191 (0, 0))) (hw : w'.heap[g]? = some (.cells (c.setIfInBounds i (.int .u64 x)) 191 (0, 0))) :
    PageAt w' g n (setM M (n * 512 + i) x) := by
  obtain ⟨c', q1, q2, q3⟩ := h
  rw [hc] at q1
  simp only [Option.some.injEq, Obj.cells.injEq] at q1
  obtain ⟨rfl, -, -⟩ := q1
  refine ⟨_, hw, by simpa using q2, fun j hj => ?_⟩
  unfold setM
  rw [Array.getElem?_setIfInBounds]
  by_cases hij : i = j
  · subst hij; simp [q2, hi]
  · rw [if_neg hij, q3 j hj, if_neg (by omega)]
theorem setM_range {M : Int → Int} {s x : Int} (h : ∀ t, 0 ≤ M t ∧ M t ≤ 18446744073709551615) (h0 : 0 ≤ x) (h1 : x ≤ 18446744073709551615) : ∀ t, 0 ≤ setM M s x t ∧ setM M s x t ≤ 18446744073709551615 := fun t => by
  unfold setM; split
  · exact ⟨h0, h1⟩
  · exact h t
theorem zeros : (Try.zeroCells191).size = 512 ∧ ∀ i : Nat, i < 512 → (Try.zeroCells191)[i]? = some (.int .u64 0) := by
  have e : Try.zeroCells191 = Array.replicate 512 (.int .u64 0) := by kernel_rfl
  rw [e]
  exact ⟨by simp, fun i hi => by simp [Array.getElem?_replicate, hi]⟩

set_option maxHeartbeats 2000000 in
set_option maxRecDepth 20000 in
theorem mset_c (mb : Nat) (F : List Nat) (B : Int) (M : Int → Int) (T : List Int) (a x : Int) (w : World) (h : MemAt w mb F B M T) (h0 : 0 ≤ a) (h1 : a ≤ 4194303) (h8 : a % 8 = 0) (hx0 : 0 ≤ x) (hx1 : x ≤ 18446744073709551615) :
    Calls Try.prog 108 #[.pointer (some ⟨mb, 0, none⟩), .int .u64 a, .int .u64 x] w fun e w' => e = .returned (.tuple #[]) ∧ EndMem mb F w B (setM M (a / 8) x) T w' := by
  have HM := Lib.hid h
  obtain ⟨pb, tv, es, clock, PL, p1, p2, p3, p4, p5, p6, p7, p8, p9, hF, hB⟩ := h
  have c1 := (heap_cell p1 1).trans rfl
  have hlt := heap_lt p1
  have hlp := heap_lt p2
  have hlk := lookupP_run (a / 4096) w pb es clock PL p2 p3
  have hidx : (a % 4096 / 8).toNat < 512 := by omega
  have hslot : a / 4096 * 512 + ((a % 4096 / 8).toNat : Nat) = a / 8 := by omega
  cases hf : findP (a / 4096) PL with
  | some g =>
    have hmem := findP_mem hf
    obtain ⟨c, q1, q2, q3⟩ := p6 _ hmem
    rw [hf] at hlk
    dsimp only at hlk q3
    have hcell : w.cell? ⟨g, (a % 4096 / 8).toNat, none⟩ = some (.int .u64 (M (a / 8))) := by
      rw [heap_cell q1, q3 _ hidx, hslot]
    have hgl := heap_lt q1
    have hfr := frozen_of q1
    have HQ1 := Lib.hid q1
    have HEND : Hid (EndMem mb F w B (setM M (a / 8) x) T (w.setCell ⟨g, (a % 4096 / 8).toNat, none⟩ (.int .u64 x))) := Lib.hid (by
      have hne : ∀ b, (∃ o, w.heap[b]? = some o ∧ ∀ c, o ≠ .cells c 191 (0, 0)) → g ≠ b := fun b hb e => by
        obtain ⟨o, ho, hn⟩ := hb
        rw [← e, q1] at ho
        exact hn c (by injection ho with ho; exact ho.symm)
      have k1 : g ≠ mb := hne mb ⟨_, p1, fun c => by simp⟩
      have k2 : g ≠ pb := hne pb ⟨_, p2, fun c => by simp⟩
      refine ⟨F, ⟨pb, tv, es, clock, PL, (setCell_heap _ _ _ _ _ k1).trans p1, (setCell_heap _ _ _ _ _ k2).trans p2, p3, p4, p5, fun y hy => ?_, fun s hn => ?_, setM_range p8 hx0 hx1, p9.keep fun b hb => setCell_heap _ _ _ _ _ ?_, hF, hB⟩, (Keeps.refl _ _).setCell (.inl (by rw [hF]; simp only [List.mem_cons, List.mem_append, List.mem_map]; exact .inr (.inr (.inr ⟨_, hmem, rfl⟩)))) _, fun y hy => .inl hy⟩
      · by_cases hyn : y.1 = a / 4096
        · have : y.2 = g := by
            have e1 : y = (a / 4096, y.2) := by rw [← hyn]
            rw [e1] at hy
            obtain ⟨i, hi, hi2⟩ := List.mem_iff_getElem.1 hy
            obtain ⟨j, hj, hj2⟩ := List.mem_iff_getElem.1 hmem
            have hij : i = j := by
              have := List.pairwise_iff_getElem.1 p4
              rcases Nat.lt_trichotomy i j with hlt | heq | hgt
              · exact absurd (by rw [List.getElem_map, List.getElem_map, hi2, hj2]) (this i j (by simpa using hi) (by simpa using hj) hlt)
              · exact heq
              · exact absurd (by rw [List.getElem_map, List.getElem_map, hi2, hj2]) (this j i (by simpa using hj) (by simpa using hi) hgt)
            subst hij
            rw [hi2] at hj2
            exact (Prod.mk.inj hj2).2
          rw [this, hyn, ← hslot]
          have hp := p6 _ hmem
          exact PageAt.write hp hidx c q1 (setCell_heap_same q1)
        · refine (p6 y hy).keep (setCell_heap _ _ _ _ _ fun e => hyn ?_) (fun e => hyn (by omega))
          obtain ⟨i, hi, hi2⟩ := List.mem_iff_getElem.1 hy
          obtain ⟨j, hj, hj2⟩ := List.mem_iff_getElem.1 hmem
          have hij : i = j := by
            have := List.pairwise_iff_getElem.1 p5
            rcases Nat.lt_trichotomy i j with hlt | heq | hgt
            · exact absurd (by rw [List.getElem_map, List.getElem_map, hi2, hj2]; first | exact e | exact e.symm) (this i j (by simpa using hi) (by simpa using hj) hlt)
            · exact heq
            · exact absurd (by rw [List.getElem_map, List.getElem_map, hi2, hj2]; first | exact e | exact e.symm) (this j i (by simpa using hj) (by simpa using hi) hgt)
          subst hij
          rw [hi2] at hj2
          rw [hj2]
      · unfold setM
        rw [if_neg (fun e => by rw [e, show a / 8 / 512 = a / 4096 by omega, hf] at hn; cases hn)]
        exact p7 s hn
      · obtain ⟨cc, hcc⟩ := p9.heap b hb
        exact hne b ⟨_, hcc, fun c => by simp⟩)
    clear p1 p2 p3 p6 p7 q1 q2 q3 p9 hF
    go_enter Try.func108, Try.ntmps108
    go_wp2
    refine ⟨rfl, .tuple #[], (by simp [results, Try.results108, go_sem]), ?_⟩
    exact ⟨rfl, HEND.out⟩
  | none =>
    rw [hf] at hlk
    dsimp only at hlk
    obtain ⟨es', c', hup, hent'⟩ := updateP_run (a / 4096) w.heap.size (w.alloc (.cells Try.zeroCells191 191 (0, 0))) pb es clock PL ((alloc_other _ _ hlp).trans p2) p3 hf
    have hpm : pb ≠ mb := fun e => by rw [e, p1] at p2; cases p2
    have hz := zeros
    have hHM := Lib.hid hent'
    have HF := Aside.mk hF
    have P1 := Lib.hid p1
    have P2 := Lib.hid p2
    have P6 := Lib.hid p6
    have P7 := Lib.hid p7
    have P9 := Lib.hid p9
    have P4 := Lib.hid p4
    have P5 := Lib.hid p5
    clear p1 p2 p3 p6 p7 p9 hF hent' p4 p5
    go_enter Try.func108, Try.ntmps108
    go_upto_region 4 with (fail)
    refine wp_gen ?_; intro V hV
    have vg : V.heap[w.heap.size]? = some (.cells Try.zeroCells191 191 (0, 0)) := by rw [hV]; exact (putBlk_heap _ _ _ _ (by omega)).trans (alloc_same ..)
    have vp : V.heap[pb]? = some (.map es' c') := by rw [hV]; exact putBlk_same _ _ _ (by simp; omega)
    have vo : ∀ b, b < w.heap.size → b ≠ pb → V.heap[b]? = w.heap[b]? := fun b hb hn => by rw [hV]; exact (putBlk_heap _ _ _ _ hn.symm).trans (alloc_other _ _ hb)
    have vk : Keeps F w V := by rw [hV]; exact (Keeps.of_ext ((Ext.refl w).alloc _)).put (.inl (by rw [HF.out]; simp)) _
    have hcell : V.cell? ⟨w.heap.size, (a % 4096 / 8).toNat, none⟩ = some (.int .u64 0) := by rw [heap_cell vg]; exact hz.2 _ hidx
    have hfr := frozen_of vg
    have VG := Lib.hid vg
    have VP := Lib.hid vp
    have VO := Lib.hid vo
    have VK := Lib.hid vk
    clear hV vg vp vo vk hup hlk c1
    go_wp2
    refine ⟨rfl, .tuple #[], (by simp [results, Try.results108, go_sem]), ?_⟩
    refine ⟨rfl, mb :: pb :: (tv.ownBlock.toList ++ (PL ++ [(a / 4096, w.heap.size)]).map (·.2)), ⟨pb, tv, es', c', PL ++ [(a / 4096, w.heap.size)], ?_, ?_, hHM.out, ?_, ?_, fun y hy => ?_, fun s hn => ?_, setM_range p8 hx0 hx1, P9.out.keep fun b hb => ?_, rfl, hB⟩, VK.out.setCell (.inr (Nat.le_refl _)) _, fun y hy => ?_⟩
    · exact (setCell_heap _ _ _ _ _ (by omega)).trans ((VO.out mb hlt hpm.symm).trans P1.out)
    · exact (setCell_heap _ _ _ _ _ (by omega)).trans VP.out
    · rw [List.map_append, List.nodup_append]
      refine ⟨P4.out, by simp, fun q hq z hz2 e => findP_not hf ?_⟩
      simp only [List.map_cons, List.map_nil, List.mem_singleton] at hz2
      rw [← hz2, ← e]; exact hq
    · rw [List.map_append, List.nodup_append]
      refine ⟨P5.out, by simp, fun q hq z hz2 e => ?_⟩
      simp only [List.map_cons, List.map_nil, List.mem_singleton] at hz2
      obtain ⟨y, hy, rfl⟩ := List.mem_map.1 hq
      obtain ⟨c, hc, _⟩ := P6.out y hy
      have := heap_lt hc
      omega
    · rcases List.mem_append.1 hy with hy | hy
      · have hp := P6.out y hy
        obtain ⟨c, hc, _⟩ := hp
        have hyl := heap_lt hc
        have hyp : y.2 ≠ pb := fun e => by rw [e, P2.out] at hc; cases hc
        refine PageAt.keep (P6.out y hy) ((setCell_heap _ _ _ _ _ (by omega)).trans (VO.out _ hyl hyp)) (fun e => findP_not hf ?_)
        rw [show a / 4096 = y.1 by omega]
        exact List.mem_map.2 ⟨y, hy, rfl⟩
      · obtain rfl : y = (a / 4096, w.heap.size) := by simpa using hy
        rw [← hslot]
        have hbase : PageAt V w.heap.size (a / 4096) M := ⟨_, VG.out, hz.1, fun i hi => by
          rw [hz.2 i hi, P7.out (a / 4096 * 512 + i) (by rw [show (a / 4096 * 512 + (i : Int)) / 512 = a / 4096 by omega]; exact hf)]⟩
        exact PageAt.write hbase hidx _ VG.out (setCell_heap_same VG.out)
    · obtain ⟨n1, n2⟩ := findP_append_none hn
      unfold setM
      rw [if_neg (fun e => n2 (by dsimp only; omega))]
      exact P7.out s n1
    · have hbl := P9.out.lt b hb
      obtain ⟨cc, hcc⟩ := P9.out.heap b hb
      have hbp : b ≠ pb := fun e => by rw [e, P2.out] at hcc; cases hcc
      exact (setCell_heap _ _ _ _ _ (by omega)).trans (VO.out b hbl hbp)
    · rw [HF.out]
      simp only [List.mem_cons, List.mem_append, List.map_append, List.map_cons, List.map_nil, List.mem_singleton, Option.mem_toList, List.not_mem_nil, or_false] at hy ⊢
      rcases hy with h | h | h | h | h
      · exact .inl (.inl h)
      · exact .inl (.inr (.inl h))
      · exact .inl (.inr (.inr (.inl h)))
      · exact .inl (.inr (.inr (.inr h)))
      · exact .inr (by omega)
end Go.Proofs.Ytfaekfdngkpkdaa
/- Memories: Store, Load, New. -/
namespace Go.Proofs.Ytfaekfdngkpkdaa
set_option linter.unusedVariables false
set_option linter.unusedSimpArgs false
open Go.RowKit
attribute [local go_sem] wext_cell wext_frozen wext_heap alloc_cell alloc_frozen alloc_heap setCell_cell objCell_cells objFrozen_cells

theorem errM_zero {B a : Int} (h : errM B a = 0) : a < limB B ∧ a % 8 = 0 := by
  unfold errM at h
  by_cases hq : a < limB B
  · rw [if_pos hq] at h
    by_cases h8 : a % 8 = 0
    · exact ⟨hq, h8⟩
    · rw [if_neg h8] at h; omega
  · rw [if_neg hq] at h; omega
theorem errM_le {B a : Int} (h : errM B a = 0) : a ≤ 4194303 := by
  have := errM_zero h; have := limB_le B; omega
theorem EndMem.refl {w w' : World} {mb : Nat} {F : List Nat} {B : Int} {M : Int → Int} {T : List Int} (h : MemAt w mb F B M T) (k : Ext w w') : EndMem mb F w B M T w' :=
  ⟨F, h.ext k, Keeps.of_ext k, fun y hy => .inl hy⟩
theorem EndMem.before {w w1 w' : World} {mb : Nat} {F : List Nat} {B : Int} {M : Int → Int} {T : List Int} (k : Ext w w1) (h : EndMem mb F w1 B M T w') : EndMem mb F w B M T w' := by
  obtain ⟨F', h1, h2, h3⟩ := h
  refine ⟨F', h1, (Keeps.of_ext k).trans h2 fun x hx => .inl hx, fun y hy => ?_⟩
  rcases h3 y hy with q | q
  · exact .inl q
  · exact .inr (Nat.le_trans k.size q)
theorem EndMem.after {w w1 w' : World} {mb : Nat} {F : List Nat} {B : Int} {M : Int → Int} {T : List Int} (h : EndMem mb F w B M T w1) (k : Ext w1 w') : EndMem mb F w B M T w' := by
  obtain ⟨F', h1, h2, h3⟩ := h
  exact ⟨F', h1.ext k, h2.ext k, h3⟩
theorem EndMem.then {w w1 w' : World} {mb : Nat} {F : List Nat} {B : Int} {M M' : Int → Int} {T T' : List Int} (h : EndMem mb F w B M T w1) (k : ∀ F', MemAt w1 mb F' B M T → EndMem mb F' w1 B M' T' w') : EndMem mb F w B M' T' w' := by
  obtain ⟨F', h1, h2, h3⟩ := h
  obtain ⟨F2, k1, k2, k3⟩ := k F' h1
  refine ⟨F2, k1, h2.trans k2 h3, fun y hy => ?_⟩
  rcases k3 y hy with q | q
  · exact h3 y q
  · exact .inr (Nat.le_trans h2.size q)

def setIf (B : Int) (M : Int → Int) (a x : Int) : Int → Int := if errM B a = 0 then setM M (a / 8) x else M
theorem store_c (mb : Nat) (F : List Nat) (B : Int) (M : Int → Int) (T : List Int) (a x : Int) (w : World) (h : MemAt w mb F B M T) (h0 : 0 ≤ a) (h1 : a ≤ 18446744073709551615) (hx0 : 0 ≤ x) (hx1 : x ≤ 18446744073709551615) :
    Calls Try.prog 59 #[.pointer (some ⟨mb, 0, none⟩), .int .u64 a, .int .u64 x] w fun e w' => e = .returned (.int .i64 (errM B a)) ∧ EndMem mb F w B (setIf B M a x) T w' := by
  have hal := fun w' (hx : Ext w w') => aligned_c mb F B M T a w' (h.ext hx) h0 h1
  unfold setIf
  by_cases he : errM B a = 0
  · have hs := fun w' (hx : Ext w w') => mset_c mb F B M T a x w' (h.ext hx) h0 (errM_le he) (errM_zero he).2 hx0 hx1
    rw [if_pos he, he]
    rw [he] at hal
    clear h he
    go_enter Try.func59, Try.ntmps59
    go_wp2_with (first | (go_at_call 106; refine (hal _ (by repeat (first | exact Ext.refl _ | assumption | refine Ext.alloc ?_ _ | refine Ext.drew ?_ | refine Ext.setCell ?_ (by first | (simp; done) | (dsimp only; omega)) _ | refine Ext.trans ?_ (by assumption)))).mono ?_; rintro e w1 ⟨rfl, hb1⟩) | (go_at_call 108; refine (hs _ (by repeat (first | exact Ext.refl _ | assumption | refine Ext.alloc ?_ _ | refine Ext.drew ?_ | refine Ext.setCell ?_ (by first | (simp; done) | (dsimp only; omega)) _ | refine Ext.trans ?_ (by assumption)))).mono ?_; rintro e w2 ⟨rfl, hb2⟩))
    all_goals
      go_ret
      exact ⟨rfl, hb2.before (by repeat (first | exact Ext.refl _ | assumption | refine Ext.alloc ?_ _ | refine Ext.drew ?_ | refine Ext.setCell ?_ (by first | (simp; done) | (dsimp only; omega)) _ | refine Ext.trans ?_ (by assumption)))⟩
  · rw [if_neg he]
    have hr := fun w' => EndMem.refl (w' := w') h
    generalize hEr : errM B a = er at hal he
    have heb : (er != 0) = true := by simpa using he
    clear h hEr
    go_enter Try.func59, Try.ntmps59
    go_wp2_with (first | (go_at_call 106; refine (hal _ (by repeat (first | exact Ext.refl _ | assumption | refine Ext.alloc ?_ _ | refine Ext.drew ?_ | refine Ext.setCell ?_ (by first | (simp; done) | (dsimp only; omega)) _ | refine Ext.trans ?_ (by assumption)))).mono ?_; rintro e w1 ⟨rfl, hb1⟩))
    all_goals
      go_ret
      exact ⟨rfl, hr _ (by repeat (first | exact Ext.refl _ | assumption | refine Ext.alloc ?_ _ | refine Ext.drew ?_ | refine Ext.setCell ?_ (by first | (simp; done) | (dsimp only; omega)) _ | refine Ext.trans ?_ (by assumption)))⟩

theorem wordRow : RowT Try.prog 32 23 1 8 := RowT.of (z := .int .u64 0) Try.underlying32 (by kernel_rfl) rfl

set_option maxHeartbeats 2000000 in
set_option maxRecDepth 20000 in
theorem load_c (mb : Nat) (F : List Nat) (B : Int) (M : Int → Int) (T : List Int) (a : Int) (w : World) (h : MemAt w mb F B M T) (h0 : 0 ≤ a) (h1 : a ≤ 18446744073709551615) (hT : T.length ≤ 1000000) :
    Calls Try.prog 62 #[.pointer (some ⟨mb, 0, none⟩), .int .u64 a] w fun e w' => e = .returned (.tuple #[.int .u64 (if errM B a = 0 then M (a / 8) else 0), .int .i64 (errM B a)]) ∧ EndMem mb F w B M (if errM B a = 0 then T ++ [a] else T) w' := by
  have hp := fun w' (hx : Ext w w') => peek_c mb F B M T a w' (h.ext hx) h0 h1
  by_cases he : errM B a = 0
  · rw [if_pos he, if_pos he, he]
    simp only [if_pos he, he] at hp
    generalize hx : M (a / 8) = x at hp
    clear he
    have HM := Lib.hid h
    obtain ⟨pb, tv, es, clock, PL, p1, p2, p3, p4, p5, p6, p7, p8, p9, hF, hB⟩ := h
    obtain ⟨at1, tc, rfl, -, -⟩ := p9.form
    have hlt := heap_lt p1
    have hlp := heap_lt p2
    have hpm : pb ≠ mb := fun e => by rw [e, p1] at p2; cases p2
    have HTN : Hid (∀ b, (Value.slice at1 T.length tc).ownBlock = some b → b ≠ mb ∧ b ≠ pb ∧ ∀ y ∈ PL, b ≠ y.2) := Lib.hid fun b hb => by
      obtain ⟨cc, hcc⟩ := p9.heap b hb
      refine ⟨fun e => ?_, fun e => ?_, fun y hy e => ?_⟩
      · rw [e, p1] at hcc; cases hcc
      · rw [e, p2] at hcc; cases hcc
      · obtain ⟨c, hc, _⟩ := p6 y hy; rw [e, hc] at hcc; cases hcc
    have HPN : Hid (∀ y ∈ PL, y.2 ≠ mb ∧ y.2 ≠ pb ∧ y.2 < w.heap.size) := Lib.hid fun y hy => by
      obtain ⟨c, hc, _⟩ := p6 y hy
      refine ⟨fun e => ?_, fun e => ?_, heap_lt hc⟩
      · rw [e, p1] at hc; cases hc
      · rw [e, p2] at hc; cases hc
    have hl2 : (T.map (Value.int .u64 ·)).length = T.length := by simp
    have c2 := (heap_cell p1 2).trans rfl
    have hfr : w.frozen? ⟨mb, 2, none⟩ = false := by rw [frozen_heap, p1]; rfl
    have P1 := Lib.hid p1
    have P2 := Lib.hid p2
    have P9 := Lib.hid p9
    have HF := Lib.hid hF
    have P6 := Lib.hid p6
    have P8 := Lib.hid p8
    have P7 := Lib.hid p7
    clear p1 p2 p9 hF p6 hx p8 p7
    go_enter Try.func62, Try.ntmps62
    go_upto_region 3 with (first | (go_at_call 55; refine (hp _ (by repeat (first | exact Ext.refl _ | assumption | refine Ext.alloc ?_ _ | refine Ext.drew ?_ | refine Ext.setCell ?_ (by first | (simp; done) | (dsimp only; omega)) _ | refine Ext.trans ?_ (by assumption)))).mono ?_; rintro e w1 ⟨rfl, hb1⟩))
    have c21 := hb1.someCell c2
    have hlt1 : mb < w1.heap.size := Nat.lt_of_lt_of_le hlt hb1.size
    have EA : Ext w (w1.alloc (.cells #[.int .u64 a] 23 (0, 0))) := hb1.alloc _
    have HO := Lib.hid (P9.out.ext EA)
    have HNW : Hid (∀ j u, [Value.int .u64 a][j]? = some u → (w1.alloc (.cells #[.int .u64 a] 23 (0, 0))).cell? ((⟨w1.heap.size, 0, none⟩ : Addr).add j) = some u) := Lib.hid fun j u hu => by
      rw [add0, cell_heap, alloc_same]; simpa [objCell] using hu
    have HZ : Hid (∀ w9 : World, World.grownBy (w1.alloc (.cells #[.int .u64 a] 23 (0, 0))) w9 (Value.slice at1 T.length tc).ownBlock → w9.heap[mb]? = some (.cells #[.int .i64 B, .map (some pb), .slice at1 T.length tc] 187 (0, 0))) := Lib.hid fun w9 q2 =>
      (q2.block mb (by rw [World.size_alloc]; omega) (fun e => (HTN.out mb e.symm).1 rfl)).trans ((EA.block mb hlt).trans P1.out)
    have HEA := Lib.hid EA
    clear EA c2 hfr
    go_wp2_with (first | (at_builtin; refine wpList_append_owns rfl _ _ _ _ 1 8 wordRow rfl _ rfl T.length (T.map (Value.int .u64 ·)) HO.out _ 1 1 rfl [.int .u64 a] rfl HNW.out (by simp [Value.oneCell']) (by unfold maxLen; omega) (by omega) ?_; intro v9 w9 q1 q2 q3; replace q2 : World.grownBy (w1.alloc (.cells #[.int .u64 a] 23 (0, 0))) w9 (Value.slice at1 T.length tc).ownBlock := q2; replace q3 : v9.ownBlock = (Value.slice at1 T.length tc).ownBlock ∨ v9.ownBlock = some (w1.alloc (.cells #[.int .u64 a] 23 (0, 0))).heap.size := q3; obtain ⟨a9, c9, rfl, -, -⟩ := q1.form; have z1 := HZ.out w9 q2; have x2 := (heap_cell z1 2).trans rfl; have x3 := frozen_of z1; have Z1 := Lib.hid z1; clear z1; simp only [Act.put, Array.set!_eq_setIfInBounds, List.setIfInBounds_toArray, List.set_cons_succ, List.set_cons_zero]))
    go_ret2
    have hsz : w.heap.size ≤ w1.heap.size := hb1.size
    have hown : ∀ g, (Value.slice a9 (T.length + 1) c9).ownBlock = some g → g ≠ mb ∧ g ≠ pb ∧ (∀ y ∈ PL, g ≠ y.2) ∧ (g ∈ F ∨ w.heap.size ≤ g) := fun g hg => by
      rcases q3 with q | q
      · obtain ⟨k1, k2, k3⟩ := HTN.out g (q.symm.trans hg)
        refine ⟨k1, k2, k3, .inl ?_⟩
        rw [HF.out, ← q, hg]; simp
      · have hge : g = w1.heap.size + 1 := by
          have h9 := q.symm.trans hg
          rw [World.size_alloc] at h9
          injection h9 with h9
          exact h9.symm
        refine ⟨by omega, by omega, fun y hy => ?_, .inr (by omega)⟩
        have := (HPN.out y hy).2.2
        omega
    have hblk : ∀ b, b < w.heap.size → b ≠ mb → (∀ g, (Value.slice at1 T.length tc).ownBlock = some g → b ≠ g) → (w9.setCell ⟨mb, 2, none⟩ (.slice a9 (T.length + 1) c9)).heap[b]? = w.heap[b]? := fun b hb hn hg =>
      (setCell_heap _ _ _ _ _ (Ne.symm hn)).trans ((q2.block b (by rw [World.size_alloc]; omega) (fun e => hg b e.symm rfl)).trans (HEA.out.block b hb))
    refine ⟨rfl, mb :: pb :: ((Value.slice a9 (T.length + 1) c9).ownBlock.toList ++ PL.map (·.2)), ⟨pb, .slice a9 (T.length + 1) c9, es, clock, PL, setCell_heap_same Z1.out, ?_, p3, p4, p5, fun y hy => ?_, P7.out, P8.out, ?_, rfl, hB⟩, ?_, fun y hy => ?_⟩
    · exact (hblk pb hlp hpm (fun g hg => (HTN.out g hg).2.1.symm)).trans P2.out
    · obtain ⟨c, r1, r2, r3⟩ := P6.out y hy
      obtain ⟨n1, n2, n3⟩ := HPN.out y hy
      exact ⟨c, (hblk y.2 n3 n1 (fun g hg => ((HTN.out g hg).2.2 y hy).symm)).trans r1, r2, r3⟩
    · have : Owns w9 23 1 (.slice a9 (T.length + 1) c9) (T ++ [a]).length ((T ++ [a]).map (Value.int .u64 ·)) := by
        rw [List.map_append, List.length_append]; exact q1
      exact this.keep fun g hg => setCell_heap _ _ _ _ _ (hown g hg).1.symm
    · refine ((Keeps.of_ext HEA.out).grown q2 (fun g hg => .inl ?_)).setCell (.inl ?_) _
      · rw [HF.out, hg]; simp
      · rw [HF.out]; simp
    · simp only [List.mem_cons, List.mem_append, Option.mem_toList] at hy
      rcases hy with rfl | rfl | hy | hy
      · exact .inl (by rw [HF.out]; simp)
      · exact .inl (by rw [HF.out]; simp)
      · exact (hown y hy).2.2.2
      · exact .inl (by rw [HF.out]; simp only [List.mem_cons, List.mem_append]; exact .inr (.inr (.inr hy)))
  · rw [if_neg he, if_neg he]
    simp only [if_neg he] at hp
    have hr := fun w' => EndMem.refl (w' := w') h
    generalize hEr : errM B a = er at hp he
    have heb : (er == 0) = false := by simpa using he
    clear h hEr he
    go_enter Try.func62, Try.ntmps62
    go_wp2_with (first | (go_at_call 55; refine (hp _ (by repeat (first | exact Ext.refl _ | assumption | refine Ext.alloc ?_ _ | refine Ext.drew ?_ | refine Ext.setCell ?_ (by first | (simp; done) | (dsimp only; omega)) _ | refine Ext.trans ?_ (by assumption)))).mono ?_; rintro e w1 ⟨rfl, hb1⟩; have ⟨hc, hf, hh, hs⟩ := hb1.facts))
    all_goals
      go_ret2
      exact ⟨rfl, hr _ (by repeat (first | exact Ext.refl _ | assumption | refine Ext.alloc ?_ _ | refine Ext.drew ?_ | refine Ext.setCell ?_ (by first | (simp; done) | (dsimp only; omega)) _ | refine Ext.trans ?_ (by assumption)))⟩

theorem EntP.nil : EntP #[] 0 [] := ⟨⟨fun e h => by simp at h, by simp⟩, rfl⟩
def NewMem (B : Int) (w : World) (e : Ending) (w' : World) : Prop :=
  ∃ mb F, e = .returned (.pointer (some ⟨mb, 0, none⟩)) ∧ MemAt w' mb F B (fun _ => 0) [] ∧ Ext w w' ∧ ∀ x ∈ F, w.heap.size ≤ x
theorem memNew_c (B : Int) (w : World) (hB : 14 ≤ B ∧ B ≤ 22) :
    Calls Try.prog 56 #[.int .i64 B] w (NewMem B w) := by
  have hmk : ∀ w, (Instr.makeMap 185 none).run Try.prog w = .ok (.map (some w.heap.size)) (w.alloc (.map #[] 0)) := fun _ => rfl
  obtain ⟨hB0, hB1⟩ := hB
  go_enter Try.func56, Try.ntmps56
  go_wp2
  all_goals
    go_ret
    refine ⟨w.heap.size + 1, [w.heap.size + 1, w.heap.size], rfl, ⟨w.heap.size, .slice none 0 0, #[], 0, [], ?_, ?_, EntP.nil, List.nodup_nil, List.nodup_nil, (fun x hx => by cases hx), fun _ _ => rfl, fun _ => ⟨Int.le_refl 0, by show (0 : Int) ≤ _; omega⟩, Owns.nil .., rfl, hB0, hB1⟩, (by repeat (first | exact Ext.refl _ | assumption | refine Ext.alloc ?_ _ | refine Ext.drew ?_ | refine Ext.setCell ?_ (by first | (simp; done) | (dsimp only; omega)) _ | refine Ext.trans ?_ (by assumption))), by simp⟩
    · rw [alloc_same1]
    · rw [alloc_other _ _ (by simp), alloc_same]
end Go.Proofs.Ytfaekfdngkpkdaa
/- The document's memories, plainly: slots in turn, and the words they hold; when they are the program's. -/
namespace Go.Proofs.Ytfaekfdngkpkdaa
set_option linter.unusedVariables false
set_option linter.unusedSimpArgs false
open Go.RowKit
attribute [local go_sem] wext_cell wext_frozen wext_heap alloc_cell alloc_frozen alloc_heap setCell_cell objCell_cells objFrozen_cells

def wordL (a : Int) : List (Int × Int) → Int
  | [] => 0
  | x :: L => if x.1 = a then x.2 else wordL a L
def setL (a x : Int) : Bool → List (Int × Int) → List (Int × Int)
  | done, [] => if done then [] else [(a, x)]
  | done, y :: L => if y.1 = a then setL a x done L else if !done && decide (a < y.1) then (a, x) :: y :: setL a x true L else y :: setL a x done L
theorem setL_same {a x : Int} {d : Bool} {y : Int × Int} {L : List (Int × Int)} (h : y.1 = a) : setL a x d (y :: L) = setL a x d L := by
  conv => lhs; unfold setL
  rw [if_pos h]
theorem setL_in {a x : Int} {y : Int × Int} {L : List (Int × Int)} (h : y.1 ≠ a) (h2 : a < y.1) : setL a x false (y :: L) = (a, x) :: y :: setL a x true L := by
  conv => lhs; unfold setL
  rw [if_neg h, if_pos (by simp [h2])]
theorem setL_on {a x : Int} {y : Int × Int} {L : List (Int × Int)} (h : y.1 ≠ a) (h2 : ¬ a < y.1) : setL a x false (y :: L) = y :: setL a x false L := by
  conv => lhs; unfold setL
  rw [if_neg h, if_neg (by simp [h2])]
theorem setL_done {a x : Int} {y : Int × Int} {L : List (Int × Int)} (h : y.1 ≠ a) : setL a x true (y :: L) = y :: setL a x true L := by
  conv => lhs; unfold setL
  rw [if_neg h, if_neg (by simp)]
theorem word_set (a x b : Int) : ∀ (L : List (Int × Int)) (d : Bool), wordL b (setL a x d L) = if b = a then (if d then 0 else x) else wordL b L
  | [], true => by simp [setL, wordL]
  | [], false => by
    show wordL b [(a, x)] = _
    unfold wordL
    by_cases h : a = b
    · rw [if_pos h, if_pos h.symm]; rfl
    · rw [if_neg h, if_neg (fun e => h e.symm)]; rfl
  | y :: L, d => by
    by_cases h1 : y.1 = a
    · rw [setL_same h1, word_set a x b L d]
      by_cases h : b = a
      · rw [if_pos h, if_pos h]
      · rw [if_neg h, if_neg h]
        conv => rhs; unfold wordL
        rw [if_neg (by omega)]
    · cases d with
      | true =>
        rw [setL_done h1]
        conv => lhs; unfold wordL
        rw [word_set a x b L true]
        by_cases h : b = a
        · rw [if_pos h, if_pos h, if_neg (by omega)]
        · rw [if_neg h, if_neg h]
          conv => rhs; unfold wordL
      | false =>
        by_cases h2 : a < y.1
        · rw [setL_in h1 h2]
          conv => lhs; unfold wordL
          by_cases h : b = a
          · rw [if_pos h, if_pos h.symm]; rfl
          · rw [if_neg h, if_neg (fun e => h e.symm)]
            unfold wordL
            rw [word_set a x b L true, if_neg h]
        · rw [setL_on h1 h2]
          conv => lhs; unfold wordL
          rw [word_set a x b L false]
          by_cases h : b = a
          · rw [if_pos h, if_pos h, if_neg (by omega)]
          · rw [if_neg h, if_neg h]
            conv => rhs; unfold wordL
theorem set_length (a x : Int) : ∀ (L : List (Int × Int)) (d : Bool), (setL a x d L).length ≤ L.length + 1
  | [], true => by simp [setL]
  | [], false => by simp [setL]
  | y :: L, d => by
    by_cases h1 : y.1 = a
    · rw [setL_same h1]; have := set_length a x L d; simp only [List.length_cons]; omega
    · cases d with
      | true => rw [setL_done h1]; have := set_length a x L true; simp only [List.length_cons]; omega
      | false =>
        by_cases h2 : a < y.1
        · rw [setL_in h1 h2]
          have : ∀ L : List (Int × Int), (setL a x true L).length ≤ L.length := fun L => by
            induction L with
            | nil => simp [setL]
            | cons z L ih =>
              by_cases hz : z.1 = a
              · rw [setL_same hz]; simp only [List.length_cons]; omega
              · rw [setL_done hz]; simp only [List.length_cons]; omega
          have := this L
          simp only [List.length_cons]; omega
        · rw [setL_on h1 h2]; have := set_length a x L false; simp only [List.length_cons]; omega
theorem mem_set {a x : Int} {z : Int × Int} : ∀ {L : List (Int × Int)} {d : Bool}, z ∈ setL a x d L → (d = false ∧ z = (a, x)) ∨ (z ∈ L ∧ z.1 ≠ a)
  | [], true, h => by simp [setL] at h
  | [], false, h => by simp [setL] at h; exact .inl ⟨rfl, h⟩
  | y :: L, d, h => by
    by_cases h1 : y.1 = a
    · rw [setL_same h1] at h
      rcases mem_set h with k | ⟨k1, k2⟩
      · exact .inl k
      · exact .inr ⟨List.mem_cons_of_mem _ k1, k2⟩
    · cases d with
      | true =>
        rw [setL_done h1] at h
        rcases List.mem_cons.1 h with rfl | h
        · exact .inr ⟨List.mem_cons_self .., h1⟩
        · rcases mem_set h with ⟨k, _⟩ | ⟨k1, k2⟩
          · cases k
          · exact .inr ⟨List.mem_cons_of_mem _ k1, k2⟩
      | false =>
        by_cases h2 : a < y.1
        · rw [setL_in h1 h2] at h
          rcases List.mem_cons.1 h with rfl | h
          · exact .inl ⟨rfl, rfl⟩
          rcases List.mem_cons.1 h with rfl | h
          · exact .inr ⟨List.mem_cons_self .., h1⟩
          · rcases mem_set h with ⟨k, _⟩ | ⟨k1, k2⟩
            · cases k
            · exact .inr ⟨List.mem_cons_of_mem _ k1, k2⟩
        · rw [setL_on h1 h2] at h
          rcases List.mem_cons.1 h with rfl | h
          · exact .inr ⟨List.mem_cons_self .., h1⟩
          · rcases mem_set h with ⟨_, k⟩ | ⟨k1, k2⟩
            · exact .inl ⟨rfl, k⟩
            · exact .inr ⟨List.mem_cons_of_mem _ k1, k2⟩
theorem nodup_set (a x : Int) : ∀ (L : List (Int × Int)) (d : Bool), (L.map (·.1)).Nodup → ((setL a x d L).map (·.1)).Nodup
  | [], true, _ => by simp [setL]
  | [], false, _ => by simp [setL]
  | y :: L, d, h => by
    simp only [List.map_cons, List.nodup_cons] at h
    have hne : ∀ (d : Bool), y.1 ≠ a → y.1 ∉ (setL a x d L).map (·.1) := fun d h1 hm => by
      obtain ⟨z, hz, e⟩ := List.mem_map.1 hm
      rcases mem_set hz with ⟨_, k⟩ | ⟨k1, k2⟩
      · rw [k] at e; exact h1 e.symm
      · exact h.1 (List.mem_map.2 ⟨z, k1, e⟩)
    by_cases h1 : y.1 = a
    · rw [setL_same h1]; exact nodup_set a x L d h.2
    · cases d with
      | true => rw [setL_done h1]; simp only [List.map_cons, List.nodup_cons]; exact ⟨hne true h1, nodup_set a x L true h.2⟩
      | false =>
        by_cases h2 : a < y.1
        · rw [setL_in h1 h2]
          simp only [List.map_cons, List.nodup_cons, List.mem_cons, not_or]
          refine ⟨⟨fun e => h1 e.symm, fun hm => ?_⟩, hne true h1, nodup_set a x L true h.2⟩
          obtain ⟨z, hz, e⟩ := List.mem_map.1 hm
          rcases mem_set hz with ⟨k, _⟩ | ⟨_, k2⟩
          · cases k
          · exact k2 e
        · rw [setL_on h1 h2]; simp only [List.map_cons, List.nodup_cons]; exact ⟨hne false h1, nodup_set a x L false h.2⟩
theorem word_mem {z : Int × Int} : ∀ {L : List (Int × Int)}, (L.map (·.1)).Nodup → z ∈ L → wordL z.1 L = z.2
  | [], _, h => by cases h
  | y :: L, hn, h => by
    simp only [List.map_cons, List.nodup_cons] at hn
    unfold wordL
    rcases List.mem_cons.1 h with rfl | h
    · rw [if_pos rfl]
    · rw [if_neg (fun e => hn.1 (List.mem_map.2 ⟨z, h, e.symm⟩))]
      exact word_mem hn.2 h

/-- The document's slots are the program's words. -/
structure RefOk (B : Int) (S : List (Int × Int)) (M : Int → Int) : Prop where
  nodup : (S.map (·.1)).Nodup
  good : ∀ z ∈ S, 0 ≤ z.1 ∧ errM B z.1 = 0
  wide : ∀ s, 0 ≤ M s ∧ M s ≤ 18446744073709551615
  agree : ∀ a, 0 ≤ a → errM B a = 0 → wordL a S = M (a / 8)
theorem RefOk.nil (B : Int) : RefOk B [] (fun _ => 0) := ⟨by simp, fun z h => (by cases h), fun _ => ⟨Int.le_refl _, by show (0 : Int) ≤ _; omega⟩, fun _ _ _ => rfl⟩
theorem RefOk.set {B : Int} {S : List (Int × Int)} {M : Int → Int} (h : RefOk B S M) {a x : Int} (h0 : 0 ≤ a) (he : errM B a = 0) (hx0 : 0 ≤ x) (hx1 : x ≤ 18446744073709551615) : RefOk B (setL a x false S) (setM M (a / 8) x) := by
  refine ⟨nodup_set a x S false h.nodup, fun z hz => ?_, setM_range h.wide hx0 hx1, fun b hb0 hb => ?_⟩
  · rcases mem_set hz with ⟨_, rfl⟩ | ⟨k, _⟩
    · exact ⟨h0, he⟩
    · exact h.good z k
  · rw [word_set]
    have h1 := (errM_zero he).2
    have h2 := (errM_zero hb).2
    unfold setM
    by_cases e : b = a
    · subst e; rw [if_pos rfl, if_pos rfl]; rfl
    · rw [if_neg e, if_neg (by omega)]
      exact h.agree b hb0 hb
theorem RefOk.entry {B : Int} {S : List (Int × Int)} {M : Int → Int} (h : RefOk B S M) {z : Int × Int} (hz : z ∈ S) : 0 ≤ z.1 ∧ errM B z.1 = 0 ∧ M (z.1 / 8) = z.2 :=
  ⟨(h.good z hz).1, (h.good z hz).2, by rw [← h.agree z.1 (h.good z hz).1 (h.good z hz).2]; exact word_mem h.nodup hz⟩
theorem RefOk.word_le {B : Int} {S : List (Int × Int)} {M : Int → Int} (h : RefOk B S M) {z : Int × Int} (hz : z ∈ S) : (0 ≤ z.1 ∧ z.1 ≤ 4194303) ∧ 0 ≤ z.2 ∧ z.2 ≤ 18446744073709551615 := by
  obtain ⟨h1, h2, h3⟩ := h.entry hz
  exact ⟨⟨h1, errM_le h2⟩, h3 ▸ h.wide _⟩
end Go.Proofs.Ytfaekfdngkpkdaa
/- Contracts of the document's powers and bits. -/
namespace Go.Proofs.Ytfaekfdngkpkdaa
set_option linter.unusedVariables false
set_option linter.unusedSimpArgs false
open Go.RowKit
attribute [local go_sem] wext_cell wext_frozen wext_heap alloc_cell alloc_frozen alloc_heap setCell_cell objCell_cells objFrozen_cells

/-- two to a power -/
def pow2 (n : Int) : Int := ((2 ^ n.toNat : Nat) : Int)
theorem pow2_pos (n : Int) : 1 ≤ pow2 n := by
  unfold pow2; have : 0 < 2 ^ n.toNat := Nat.pow_pos (by omega); omega
theorem pow2_le (n : Int) (h : n ≤ 63) : pow2 n ≤ 9223372036854775808 := by
  unfold pow2; have : 2 ^ n.toNat ≤ 2 ^ 63 := Nat.pow_le_pow_right (by omega) (by omega); omega
theorem pow2_zero : pow2 0 = 1 := rfl
theorem pow2_succ (j : Nat) (h : j < 63) : IntKind.u64.wrap (2 * pow2 j) = pow2 ((j : Int) + 1) := by
  have h1 := pow2_le ((j : Int) + 1) (by omega)
  have h2 : pow2 ((j : Int) + 1) = 2 * pow2 j := by
    unfold pow2
    rw [show ((j : Int) + 1).toNat = j + 1 by omega, show (j : Int).toNat = j by omega, Nat.pow_succ]
    omega
  have h3 := pow2_pos j
  rw [h2, IntKind.wrap_u64]
  omega

set_option maxHeartbeats 800000 in
theorem power_c (n : Int) (w : World) (h0 : 0 ≤ n) (h1 : n ≤ 63) :
    Calls Try.prog 115 #[.int .i64 n] w fun e w' => e = .returned (.int .u64 (pow2 n)) ∧ Ext w w' := by
  go_enter Try.func115, Try.ntmps115
  go_wp2
  go_loop [3, 4] (fun x i => ∃ j : Nat, (j : Int) ≤ n ∧ i = .int .i64 j ∧ x = .int .u64 (pow2 j)) (fun _ i => (n - intOf i).toNat)
  case atStart => exact ⟨0, by omega, rfl, rfl⟩
  case round =>
    obtain ⟨j, hj, rfl, rfl⟩ := hrel
    by_cases hlt : (j : Int) < n
    · go_wp2
      go_round
      case rel => exact ⟨j + 1, by omega, by go_num, by rw [pow2_succ _ (by omega)]; rfl⟩
      case measure => simp [intOf]; omega
    · have : n = j := by omega
      have HN := Lib.hid this
      clear this
      go_wp2
      go_ret
      exact ⟨by rw [HN.out]; rfl, Ext.refl _⟩

def bitB (x i : Int) : Bool := x / pow2 i % 2 == 1

set_option maxHeartbeats 800000 in
theorem bit_c (x i : Int) (w : World) (hx : 0 ≤ x) (hx1 : x ≤ 18446744073709551615) (h0 : 0 ≤ i) (h1 : i ≤ 63) :
    Calls Try.prog 71 #[.int .u64 x, .int .i64 i] w fun e w' => e = .returned (.bool (bitB x i)) ∧ Ext w w' := by
  have hp := pow2_pos i
  have hq0 : 0 ≤ x / pow2 i := Int.ediv_nonneg hx (by omega)
  have hq1 : x / pow2 i ≤ 18446744073709551615 := by have := Int.ediv_le_self (pow2 i) hx; omega
  go_enter Try.func71, Try.ntmps71
  go_wp2_with (go_at_call 115; refine (power_c _ _ h0 h1).mono ?_; rintro e w1 ⟨rfl, hb⟩; have ⟨hc, hf, hh, hs⟩ := hb.facts; try simp only [World.size_alloc, World.size_setCell, World.size_drew] at hs)
  go_ret
  exact ⟨rfl, hb⟩

end Go.Proofs.Ytfaekfdngkpkdaa
/- The document's memory: its value; Size, Word, Peek. -/
namespace Go.Proofs.Ytfaekfdngkpkdaa
set_option linter.unusedVariables false
set_option linter.unusedSimpArgs false
open Go.RowKit
attribute [local go_sem] wext_cell wext_frozen wext_heap alloc_cell alloc_frozen alloc_heap setCell_cell objCell_cells objFrozen_cells

def rowW (S : List (Int × Int)) : List Value := S.flatMap fun z => [.int .u64 z.1, .int .u64 z.2]
def wAt (S : List (Int × Int)) (j : Nat) : Int × Int := S.getD j (0, 0)
theorem rowW_append (S T : List (Int × Int)) : rowW (S ++ T) = rowW S ++ rowW T := by simp [rowW]
theorem rowW_length (S : List (Int × Int)) : (rowW S).length = S.length * 2 := by
  induction S with
  | nil => rfl
  | cons a S ih => simp [rowW] at ih ⊢; omega
theorem rowW_at : ∀ (S : List (Int × Int)) (i : Nat), i < S.length → (rowW S)[i * 2]? = some (.int .u64 (wAt S i).1) ∧ (rowW S)[i * 2 + 1]? = some (.int .u64 (wAt S i).2)
  | [], i, h => by simp at h
  | a :: S, 0, h => ⟨rfl, rfl⟩
  | a :: S, i + 1, h => by
    have ⟨h1, h2⟩ := rowW_at S i (by simpa using h)
    have e : rowW (a :: S) = [.int .u64 a.1, .int .u64 a.2] ++ rowW S := rfl
    have e2 : wAt (a :: S) (i + 1) = wAt S i := by simp [wAt, List.getD]
    rw [e, e2]
    refine ⟨?_, ?_⟩
    · rw [List.getElem?_append_right (by simp; omega), ← h1]; congr 1; simp; omega
    · rw [List.getElem?_append_right (by simp; omega), ← h2]; congr 1; simp; omega
/-- Slots, as a slice value of the document's has them. -/
def SAt (w : World) (sa : Option Addr) (sc : Nat) (S : List (Int × Int)) : Prop := Owns w 149 2 (.slice sa S.length sc) S.length (rowW S)
theorem SAt.ext {w w' : World} {sa : Option Addr} {sc : Nat} {S : List (Int × Int)} (h : SAt w sa sc S) (k : Ext w w') : SAt w' sa sc S := Owns.ext h k
theorem SAt.at {w : World} {sa : Option Addr} {sc : Nat} {S : List (Int × Int)} (h : SAt w sa sc S) {i : Nat} (hi : i < S.length) :
    ∃ g, sa = some ⟨g, 0, none⟩ ∧ g < w.heap.size ∧ w.cell? ⟨g, i * 2, none⟩ = some (.int .u64 (wAt S i).1) ∧ w.cell? ⟨g, i * 2 + 1, none⟩ = some (.int .u64 (wAt S i).2) := by
  obtain ⟨g, hg⟩ : ∃ g, sa = some ⟨g, 0, none⟩ := by
    rcases h.2 with ⟨h1, h0⟩ | ⟨g, _, _, he, _⟩
    · omega
    · exact ⟨g, by injection he⟩
  subst hg
  have ⟨h1, h2⟩ := rowW_at S i hi
  exact ⟨g, rfl, h.lt g rfl, h.cells (g := g) rfl _ _ h1, h.cells (g := g) rfl _ _ h2⟩
theorem limB_pow {B : Int} (h : 14 ≤ B ∧ B ≤ 22) : pow2 B = limB B := by
  rcases B_cases h with rfl | rfl | rfl | rfl | rfl | rfl | rfl | rfl | rfl <;> decide

section
variable (B : Int) (sa ta : Option Addr) (n sc k tc : Nat) (w : World)
set_option maxHeartbeats 1000000 in
theorem rSize_c (hB : 14 ≤ B ∧ B ≤ 22) : Calls Try.prog 134 #[.agg #[.int .i64 B, .slice sa n sc, .slice ta k tc]] w fun e w' => e = .returned (.int .u64 (limB B)) ∧ Ext w w' := by
  have HB := Lib.hid (limB_pow hB)
  have ⟨hB0, hB1⟩ := hB
  clear hB
  go_enter Try.func134, Try.ntmps134
  go_wp2
  refine wp_gen ?_; intro W hW
  have hE : Ext w W := by rw [hW]; exact (by repeat (first | exact Ext.refl _ | assumption | refine Ext.alloc ?_ _ | refine Ext.drew ?_ | refine Ext.setCell ?_ (by first | (simp; done) | (dsimp only; omega)) _ | refine Ext.trans ?_ (by assumption)))
  have hb0 : W.heap[w.heap.size]? = some (.cells #[.int .i64 B, .slice sa n sc, .slice ta k tc] 34 (0, 0)) := by rw [hW]; exact alloc_same ..
  have c0 := (heap_cell hb0 0).trans rfl
  have hl := heap_lt hb0
  have HE := Lib.hid hE
  clear hW hE hb0
  go_loop [3, 4] (fun x i => ∃ j : Nat, (j : Int) ≤ B ∧ i = .int .i64 j ∧ x = .int .u64 (pow2 j)) (fun _ i => (B - intOf i).toNat)
  case atStart => exact ⟨0, by omega, rfl, rfl⟩
  case round =>
    obtain ⟨j, hj, rfl, rfl⟩ := hrel
    by_cases hlt : (j : Int) < B
    · go_wp2
      go_round
      case rel => exact ⟨j + 1, by omega, by go_num, by rw [pow2_succ _ (by omega)]; rfl⟩
      case measure => simp [intOf]; omega
    · have : B = j := by omega
      have HN := Lib.hid this
      clear this
      go_wp2
      go_ret
      exact ⟨by rw [← HB.out, HN.out]; rfl, HE.out⟩
end
set_option maxHeartbeats 1000000 in
theorem rWord_c (B : Int) (sa ta : Option Addr) (S : List (Int × Int)) (sc k tc : Nat) (a : Int) (w : World) (h : SAt w sa sc S) (hl : S.length ≤ 1000000) :
    Calls Try.prog 135 #[.agg #[.int .i64 B, .slice sa S.length sc, .slice ta k tc], .int .u64 a] w fun e w' => e = .returned (.int .u64 (wordL a S)) ∧ Ext w w' := by
  have HO := Lib.hid h
  clear h
  go_enter Try.func135, Try.ntmps135
  go_wp2
  refine wp_gen ?_; intro W hW
  have hE : Ext w W := by rw [hW]; exact (by repeat (first | exact Ext.refl _ | assumption | refine Ext.alloc ?_ _ | refine Ext.drew ?_ | refine Ext.setCell ?_ (by first | (simp; done) | (dsimp only; omega)) _ | refine Ext.trans ?_ (by assumption)))
  have hb0 : W.heap[w.heap.size]? = some (.cells #[.int .i64 B, .slice sa S.length sc, .slice ta k tc] 34 (0, 0)) := by rw [hW]; exact alloc_same ..
  have c1 := (heap_cell hb0 1).trans rfl
  have hlb := heap_lt hb0
  have HE := Lib.hid hE
  have HW := Lib.hid (HO.out.ext hE)
  have hfull : Hid (wordL a S = wordL a (S.drop 0)) := Lib.hid (by simp)
  clear hW hE hb0
  go_loop [5] (fun i => ∃ j : Nat, j ≤ S.length ∧ i = .int .i64 j ∧ Hid (wordL a S = wordL a (S.drop j))) (fun i => S.length - (intOf i).toNat)
  case atStart => exact ⟨0, by omega, rfl, hfull⟩
  case round =>
    obtain ⟨j, hj, rfl, hR⟩ := hrel
    by_cases hlt : j < S.length
    · obtain ⟨g, rfl, hg, d0, d1⟩ := HW.out.at hlt
      have hd : S.drop j = wAt S j :: S.drop (j + 1) := by
        rw [List.drop_eq_getElem_cons hlt]
        congr 1
        simp [wAt, List.getD, hlt]
      have hst : wordL a S = if (wAt S j).1 = a then (wAt S j).2 else wordL a (S.drop (j + 1)) := by
        rw [hR.out, hd]
        conv => lhs; unfold wordL
      generalize wAt S j = z at d0 d1 hst
      obtain ⟨z1, z2⟩ := z
      dsimp only at d0 d1 hst
      have HS := Lib.hid hst
      clear hst hd
      by_cases hz : z1 = a
      · have HQ : Hid (wordL a S = z2) := Lib.hid (by rw [HS.out, if_pos hz])
        subst hz
        go_wp2
        all_goals
          (try go_ret)
          exact ⟨by rw [HQ.out]; rfl, HE.out⟩
      · have HQ : Hid (wordL a S = wordL a (S.drop (j + 1))) := Lib.hid (by rw [HS.out, if_neg hz])
        have hzb : (z1 == a) = false := by simpa using hz
        clear hz
        go_wp2
        go_round
        case rel => exact ⟨j + 1, by omega, by go_num, HQ⟩
        case measure => simp [intOf]; omega
    · have HQ : Hid (wordL a S = 0) := Lib.hid (by rw [hR.out, List.drop_of_length_le (by omega)]; rfl)
      go_wp2
      all_goals
        (try go_ret)
        exact ⟨by rw [HQ.out]; rfl, HE.out⟩
set_option maxHeartbeats 1000000 in
theorem rPeek_c (B : Int) (hB : 14 ≤ B ∧ B ≤ 22) (sa ta : Option Addr) (S : List (Int × Int)) (sc k tc : Nat) (a : Int) (w : World) (h : SAt w sa sc S) (hl : S.length ≤ 1000000) (h0 : 0 ≤ a) (h1 : a ≤ 18446744073709551615) :
    Calls Try.prog 109 #[.agg #[.int .i64 B, .slice sa S.length sc, .slice ta k tc], .int .u64 a] w fun e w' => e = .returned (.tuple #[.int .u64 (if errM B a = 0 then wordL a S else 0), .int .i64 (errM B a)]) ∧ Ext w w' := by
  have HO := Lib.hid h
  have HS := Lib.hid (fun w => rSize_c B sa ta S.length sc k tc w hB)
  have HW := Lib.hid (fun w h => rWord_c B sa ta S sc k tc a w h hl)
  have hlim := limB_le B
  have hB' := hB
  clear h hB
  obtain ⟨y, hy⟩ : ∃ y, (if errM B a = 0 then wordL a S else 0) = y := ⟨_, rfl⟩
  rw [hy]
  have HY := Lib.hid hy
  clear hy
  have he : Hid (errM B a = if a < limB B then (if a % 8 = 0 then 0 else 3) else 2) := Lib.hid rfl
  generalize errM B a = er at he HY ⊢
  generalize wordL a S = x at HW HY
  generalize limB B = lim at HS hlim he
  by_cases hq : a < lim
  · by_cases hq8 : a % 8 = 0
    · have HE : Hid (er = 0) := Lib.hid (by rw [he.out, if_pos hq, if_pos hq8])
      go_enter Try.func109, Try.ntmps109
      go_wp2_with (first | (go_at_call 134; refine (HS.out _).mono ?_; rintro e w1 ⟨rfl, hb1⟩; have ⟨hc, hf, hh, hs⟩ := hb1.facts; try simp only [World.size_alloc, World.size_setCell, World.size_drew] at hs) | (go_at_call 135; refine (HW.out _ (HO.out.ext (Ext.trans (by repeat (first | exact Ext.refl _ | assumption | refine Ext.alloc ?_ _ | refine Ext.drew ?_ | refine Ext.setCell ?_ (by first | (simp; done) | (dsimp only; omega)) _ | refine Ext.trans ?_ (by assumption))) hb1))).mono ?_; rintro e w2 ⟨rfl, hb2⟩))
      refine bodyPost_ret (by simp [results, Try.results109, go_sem, ↓IntWalk.iteOmega, *]; try rfl) rfl ⟨by rw [← HY.out, HE.out]; rfl, Ext.trans (Ext.trans (by repeat (first | exact Ext.refl _ | assumption | refine Ext.alloc ?_ _ | refine Ext.drew ?_ | refine Ext.setCell ?_ (by first | (simp; done) | (dsimp only; omega)) _ | refine Ext.trans ?_ (by assumption))) hb1) hb2⟩
    · have HE : Hid (er = 3) := Lib.hid (by rw [he.out, if_pos hq, if_neg hq8])
      go_enter Try.func109, Try.ntmps109
      go_wp2_with (first | (go_at_call 134; refine (HS.out _).mono ?_; rintro e w1 ⟨rfl, hb1⟩; have ⟨hc, hf, hh, hs⟩ := hb1.facts; try simp only [World.size_alloc, World.size_setCell, World.size_drew] at hs))
      refine bodyPost_ret (by simp [results, Try.results109, go_sem, ↓IntWalk.iteOmega, *]; try rfl) rfl ⟨by rw [← HY.out, HE.out]; rfl, Ext.trans (by repeat (first | exact Ext.refl _ | assumption | refine Ext.alloc ?_ _ | refine Ext.drew ?_ | refine Ext.setCell ?_ (by first | (simp; done) | (dsimp only; omega)) _ | refine Ext.trans ?_ (by assumption))) hb1⟩
  · have HE : Hid (er = 2) := Lib.hid (by rw [he.out, if_neg hq])
    go_enter Try.func109, Try.ntmps109
    go_wp2_with (first | (go_at_call 134; refine (HS.out _).mono ?_; rintro e w1 ⟨rfl, hb1⟩; have ⟨hc, hf, hh, hs⟩ := hb1.facts; try simp only [World.size_alloc, World.size_setCell, World.size_drew] at hs))
    refine bodyPost_ret (by simp [results, Try.results109, go_sem, ↓IntWalk.iteOmega, *]; try rfl) rfl ⟨by rw [← HY.out, HE.out]; rfl, Ext.trans (by repeat (first | exact Ext.refl _ | assumption | refine Ext.alloc ?_ _ | refine Ext.drew ?_ | refine Ext.setCell ?_ (by first | (simp; done) | (dsimp only; omega)) _ | refine Ext.trans ?_ (by assumption))) hb1⟩
end Go.Proofs.Ytfaekfdngkpkdaa
/- An append of a whole row that is held. -/
namespace Go.Proofs.Ytfaekfdngkpkdaa
open Go.RowKit
section
variable {P : Program} {w : World} {ops : Array Oper} {rest : List Oper} {o : Oper} {a : Act} {Q : Exit → Act → World → Prop}
/-- An append of a whole row that is held. -/
theorem wpList_append_two (hgd : o.guard = none) (s x : Operand) (t e : TypeId) (size bytes : Nat) (R : RowT P t e size bytes)
    (ho : o.op = .call { callee := .builtin .append, args := #[s, x], argTypes := #[t, t] }) (v : Value) (hs : a.eval s = v) (n : Nat) (xs : List Value) (hown : Owns w e size v n xs)
    (u : Value) (hx : a.eval x = u) (m : Nat) (news : List Value) (hown2 : Owns w e size u m news) (h1 : ∀ u ∈ news, u.oneCell' = true)
    (h63 : n + m ≤ maxLen) (hbytes : (n + m) * bytes ≤ 140737488355328)
    (h : ∀ v' w', Owns w' e size v' (n + m) (xs ++ news) → w.grownBy w' v.ownBlock → (v'.ownBlock = v.ownBlock ∨ v'.ownBlock = some w.heap.size) → wpList P ops Q rest (a.put o.dst v') w') : wpList P ops Q (o :: rest) a w := by
  have H2 := hown2
  rcases hown2.2 with ⟨rfl, rfl⟩ | ⟨g, cap, cur, rfl, _⟩
  · have hn : news = [] := List.eq_nil_of_length_eq_zero (by simpa using H2.1)
    subst hn
    exact wpList_append_owns_nil hgd s x t e size bytes R ho v hs n xs hown hx (h v w (by simpa using hown) ⟨rfl, rfl, rfl, Nat.le_refl _, fun _ _ _ => rfl⟩ (.inl rfl))
  · exact wpList_append_owns hgd s x t e size bytes R ho v hs n xs hown ⟨g, 0, none⟩ m cap hx news H2.1 (fun j y hy => by rw [add0]; exact H2.cells (g := g) rfl j y hy) h1 h63 hbytes h
end

end Go.Proofs.Ytfaekfdngkpkdaa
/- The document's memory: Load, Store. -/
namespace Go.Proofs.Ytfaekfdngkpkdaa
set_option linter.unusedVariables false
set_option linter.unusedSimpArgs false
open Go.RowKit
attribute [local go_sem] wext_cell wext_frozen wext_heap alloc_cell alloc_frozen alloc_heap setCell_cell objCell_cells objFrozen_cells

/-- What was loaded, as a slice value of the document's has it. -/
def TrAt (w : World) (ta : Option Addr) (tc : Nat) (T : List Int) : Prop := Owns w 23 1 (.slice ta T.length tc) T.length (T.map (.int .u64 ·))
theorem TrAt.ext {w w' : World} {ta : Option Addr} {tc : Nat} {T : List Int} (h : TrAt w ta tc T) (k : Ext w w') : TrAt w' ta tc T := Owns.ext h k
/-- What is loaded lies where it lay, or in a new block. -/
def FreshT (w : World) (ta0 ta : Option Addr) : Prop := ∀ a, ta = some a → ta0 = some a ∨ w.heap.size ≤ a.block
def EndLoad (ta0 : Option Addr) (B : Int) (sa : Option Addr) (n sc : Nat) (T : List Int) (x er : Int) (w : World) (e : Ending) (w' : World) : Prop :=
  ∃ ta tc, e = .returned (.tuple #[.agg #[.int .i64 B, .slice sa n sc, .slice ta T.length tc], .int .u64 x, .int .i64 er]) ∧ TrAt w' ta tc T ∧ Ext w w' ∧ FreshT w ta0 ta

set_option maxHeartbeats 2000000 in
set_option maxRecDepth 20000 in
theorem rLoad_bad (B : Int) (hB : 14 ≤ B ∧ B ≤ 22) (sa ta : Option Addr) (S : List (Int × Int)) (T : List Int) (sc tc : Nat) (a : Int) (w : World) (h : SAt w sa sc S) (hT : TrAt w ta tc T) (hl : S.length ≤ 1000000) (h0 : 0 ≤ a) (h1 : a ≤ 18446744073709551615) (he : errM B a ≠ 0) :
    Calls Try.prog 70 #[.agg #[.int .i64 B, .slice sa S.length sc, .slice ta T.length tc], .int .u64 a] w (EndLoad ta B sa S.length sc T 0 (errM B a) w) := by
  have hp := fun w h => rPeek_c B hB sa ta S sc T.length tc a w h hl h0 h1
  rw [if_neg he] at hp
  have HP := Lib.hid hp
  have HS := Lib.hid h
  have HT := Lib.hid hT
  generalize hE : EndLoad ta B sa S.length sc T 0 (errM B a) w = E
  have HE := Lib.hid hE
  have hne : (errM B a != 0) = true := by simpa using he
  generalize errM B a = er at HP HE hne
  clear hE hp he h hT hB
  go_enter Try.func70, Try.ntmps70
  go_wp2_with (first | (go_at_call 109; refine (HP.out _ (HS.out.ext (by repeat (first | exact Ext.refl _ | assumption | refine Ext.alloc ?_ _ | refine Ext.drew ?_ | refine Ext.setCell ?_ (by first | (simp; done) | (dsimp only; omega)) _ | refine Ext.trans ?_ (by assumption))))).mono ?_; rintro e w1 ⟨rfl, hb1⟩; have ⟨hc, hf, hh, hs⟩ := hb1.facts; try simp only [World.size_alloc, World.size_setCell, World.size_drew] at hs))
  have B1 := (hb1.block (w.heap.size + 1) (by simp)).trans (alloc_same1 ..)
  have E1 : Ext w w1 := Ext.trans (by repeat (first | exact Ext.refl _ | assumption | refine Ext.alloc ?_ _ | refine Ext.drew ?_ | refine Ext.setCell ?_ (by first | (simp; done) | (dsimp only; omega)) _ | refine Ext.trans ?_ (by assumption))) hb1
  refine post_gen (fun U => U.heap[w.heap.size + 1]? = some (.cells #[.int .i64 B, .slice sa S.length sc, .slice ta T.length tc] 34 (0, 0)) ∧ Ext w U) ⟨setCell_heap_same (setCell_heap_same (setCell_heap_same B1)), Ext.setCell (Ext.setCell (Ext.setCell E1 (by simp) _) (by simp) _) (by simp) _⟩ ?_
  clear hc hf hh hs hb1 B1 E1
  rintro U ⟨m3, e3⟩
  have v0 := (heap_cell m3 0).trans rfl
  have v1 := (heap_cell m3 1).trans rfl
  have v2 := (heap_cell m3 2).trans rfl
  have HE3 := Lib.hid e3
  clear m3 e3
  refine bodyPost_ret (by simp [results, Try.results70, go_sem, ↓IntWalk.iteOmega, *]; try rfl) rfl (by rw [← HE.out]; exact ⟨ta, tc, rfl, HT.out.ext HE3.out, HE3.out, fun a h => .inl h⟩)

set_option maxHeartbeats 2000000 in
set_option maxRecDepth 20000 in
theorem rLoad_ok (B : Int) (hB : 14 ≤ B ∧ B ≤ 22) (sa ta : Option Addr) (S : List (Int × Int)) (T : List Int) (sc tc : Nat) (a : Int) (w : World) (h : SAt w sa sc S) (hT : TrAt w ta tc T) (hl : S.length ≤ 1000000) (hlT : T.length ≤ 1000000) (h0 : 0 ≤ a) (h1 : a ≤ 18446744073709551615) (he : errM B a = 0) :
    Calls Try.prog 70 #[.agg #[.int .i64 B, .slice sa S.length sc, .slice ta T.length tc], .int .u64 a] w (EndLoad ta B sa S.length sc (T ++ [a]) (wordL a S) 0 w) := by
  have hp := fun w h => rPeek_c B hB sa ta S sc T.length tc a w h hl h0 h1
  rw [if_pos he, he] at hp
  have HP := Lib.hid hp
  have HS := Lib.hid h
  have HT := Lib.hid hT
  generalize hE : EndLoad ta B sa S.length sc (T ++ [a]) (wordL a S) 0 w = E
  have HE := Lib.hid hE
  generalize wordL a S = x at HP HE
  clear hE hp he h hT hB
  go_enter Try.func70, Try.ntmps70
  go_upto_region 4 with (first | (go_at_call 109; refine (HP.out _ (HS.out.ext (by repeat (first | exact Ext.refl _ | assumption | refine Ext.alloc ?_ _ | refine Ext.drew ?_ | refine Ext.setCell ?_ (by first | (simp; done) | (dsimp only; omega)) _ | refine Ext.trans ?_ (by assumption))))).mono ?_; rintro e w1 ⟨rfl, hb1⟩; have ⟨hc, hf, hh, hs⟩ := hb1.facts; try simp only [World.size_alloc, World.size_setCell, World.size_drew] at hs))
  have hV0 := (hb1.block w.heap.size (by simp; omega)).trans ((alloc_other _ _ (by simp)).trans (alloc_same ..))
  have hV1 := (hb1.block (w.heap.size + 1) (by simp)).trans (alloc_same1 ..)
  have E1 : Ext w w1 := Ext.trans (by repeat (first | exact Ext.refl _ | assumption | refine Ext.alloc ?_ _ | refine Ext.drew ?_ | refine Ext.setCell ?_ (by first | (simp; done) | (dsimp only; omega)) _ | refine Ext.trans ?_ (by assumption))) hb1
  have hbs : w.heap.size ≤ w.heap.size := Nat.le_refl _
  obtain ⟨pb, hpb⟩ : ∃ pb, w.heap.size = pb := ⟨_, rfl⟩
  have h01 : w.heap.size ≤ pb := by omega
  clear hc hf hh hs hb1 hbs
  rw [hpb] at hV0 hV1
  rw [hpb]
  have EV := Lib.hid E1
  have V0 := Lib.hid hV0
  have V1 := Lib.hid hV1
  have x2 := (heap_cell hV0 2).trans rfl
  have hl0 := heap_lt hV0
  have hl1 := heap_lt hV1
  have T1 := Lib.hid (HT.out.ext (E1.alloc (.cells #[] 23)))
  have TN : Hid (∀ u ∈ T.map (Value.int .u64 ·), u.oneCell' = true) := Lib.hid (by simp [Value.oneCell'])
  clear hpb E1 hV0 hV1
  go_upto_region 5 with (first | (at_builtin; refine wpList_append_two rfl _ _ _ _ 1 8 wordRow rfl _ rfl 0 [] (Owns.fresh (c := #[]) (by rw [alloc_heap]; simp)) _ rfl T.length _ T1.out TN.out (by unfold maxLen; omega) (by omega) ?_; intro v2 w2 q1 q2 q3; replace q2 : (w1.alloc (.cells #[] 23)).grownBy w2 (some w1.heap.size) := q2; replace q3 : v2.ownBlock = some w1.heap.size ∨ v2.ownBlock = some (w1.alloc (.cells #[] 23)).heap.size := q3; obtain ⟨a2, c2, rfl, -, -⟩ := q1.form; simp only [Act.put, Array.set!_eq_setIfInBounds, List.setIfInBounds_toArray, List.set_cons_succ, List.set_cons_zero]))
  have hk : ∀ b o, b < w1.heap.size → w1.heap[b]? = some o → w2.heap[b]? = some o := fun b o hb ho => ((q2.block b (by simp; omega) (fun e => by simp at e; omega)).trans (alloc_other _ _ hb)).trans ho
  have B0 := Lib.hid (hk _ _ hl0 V0.out)
  have B1 := Lib.hid (hk _ _ hl1 V1.out)
  have E2 : Hid (Ext w w2) := Lib.hid (Keeps.to_ext (F := []) (Ext.refl w) ((Keeps.of_ext (EV.out.alloc _)).grown q2 (fun x hx => .inr (by cases hx; exact EV.out.size))) (by simp))
  have O2 : Hid (Owns w2 23 1 (.slice a2 T.length c2) T.length (T.map (.int .u64 ·))) := Lib.hid (by simpa using q1)
  have G2 : Hid (∀ g, (Value.slice a2 T.length c2).ownBlock = some g → w1.heap.size ≤ g) := Lib.hid (fun g hg => by
    simp only [Nat.zero_add] at q3
    rcases q3 with q3 | q3 <;> rw [q3] at hg <;> cases hg <;> simp)
  have hz : 0 + T.length = T.length := by omega
  rw [hz]
  have A2 := Lib.hid (O2.out.ext ((Ext.refl w2).alloc (.cells #[.int .u64 a] 23)))
  have hs12 : w1.heap.size ≤ w2.heap.size := by have := q2.size; simp at this; omega
  clear hz q1 q2 q3 hk x2 T1
  go_upto_region 6 with (first | (at_builtin; refine wpList_append_owns rfl _ _ _ _ 1 8 wordRow rfl _ rfl T.length _ A2.out _ 1 1 rfl [.int .u64 a] rfl (fun j u hu => by rw [add0, heap_cell (alloc_same w2 _) j]; simpa using hu) (by simp [Value.oneCell']) (by unfold maxLen; omega) (by omega) ?_; intro v3 w3 q1 q2 q3; replace q2 : (w2.alloc (.cells #[.int .u64 a] 23)).grownBy w3 (Value.slice a2 T.length c2).ownBlock := q2; replace q3 : v3.ownBlock = (Value.slice a2 T.length c2).ownBlock ∨ v3.ownBlock = some (w2.alloc (.cells #[.int .u64 a] 23)).heap.size := q3; obtain ⟨a3, c3, rfl, -, -⟩ := q1.form; simp only [Act.put, Array.set!_eq_setIfInBounds, List.setIfInBounds_toArray, List.set_cons_succ, List.set_cons_zero]))
  have hk : ∀ b o, b < w1.heap.size → w2.heap[b]? = some o → w3.heap[b]? = some o := fun b o hb ho => ((q2.block b (by simp; omega) (fun e => by have := G2.out b e.symm; omega)).trans (alloc_other _ _ (by omega))).trans ho
  have C0 := hk _ _ hl0 B0.out
  have C1 := hk _ _ hl1 B1.out
  have E3 : Hid (Ext w w3) := Lib.hid (Keeps.to_ext (F := []) (Ext.refl w) ((Keeps.of_ext (E2.out.alloc _)).grown q2 (fun x hx => .inr (Nat.le_trans EV.out.size (G2.out x hx)))) (by simp))
  have O3 : Hid (Owns w3 23 1 (.slice a3 (T.length + 1) c3) (T.length + 1) (T.map (.int .u64 ·) ++ [.int .u64 a])) := Lib.hid q1
  have G3 : Hid (∀ g, (Value.slice a3 (T.length + 1) c3).ownBlock = some g → w1.heap.size ≤ g) := Lib.hid (fun g hg => by
    rcases q3 with q3 | q3 <;> rw [q3] at hg
    · exact G2.out g hg
    · cases hg; simp; omega)
  have z0 := (heap_cell C0 0).trans rfl
  have z1 := (heap_cell C0 1).trans rfl
  have z2 := (heap_cell C0 2).trans rfl
  have y0 := (heap_cell C1 0).trans rfl
  have y1 := (heap_cell C1 1).trans rfl
  have y2 := (heap_cell C1 2).trans rfl
  have zf := frozen_of C0
  have yf := frozen_of C1
  have hl03 := heap_lt C0
  have hl13 := heap_lt C1
  have D0 := Lib.hid C0
  have D1 := Lib.hid C1
  clear hk q1 q2 q3 C0 C1 A2
  go_wp2
  refine post_gen (fun U => U.heap[pb + 1]? = some (.cells #[.int .i64 B, .slice sa S.length sc, .slice a3 (T.length + 1) c3] 34 (0, 0)) ∧ TrAt U a3 c3 (T ++ [a]) ∧ Ext w U) ⟨?_, ?_, ?_⟩ ?_
  · exact setCell_heap_same (setCell_heap_same (setCell_heap_same ((setCell_heap _ _ _ _ _ (by omega)).trans D1.out)))
  · have : TrAt w3 a3 c3 (T ++ [a]) := by have := O3.out; unfold TrAt; simpa using this
    refine Owns.keep this fun g hg => ?_
    have := G3.out g (by simpa [Value.ownBlock] using hg)
    rw [setCell_heap _ _ _ _ _ (by omega), setCell_heap _ _ _ _ _ (by omega), setCell_heap _ _ _ _ _ (by omega), setCell_heap _ _ _ _ _ (by omega)]
  · exact Ext.setCell (Ext.setCell (Ext.setCell (Ext.setCell E3.out (by dsimp only; omega) _) (by dsimp only; omega) _) (by dsimp only; omega) _) (by dsimp only; omega) _
  clear z0 z1 z2 zf yf y0 y1 y2
  rintro U ⟨m3, t3, e3⟩
  have v0 := (heap_cell m3 0).trans rfl
  have v1 := (heap_cell m3 1).trans rfl
  have v2 := (heap_cell m3 2).trans rfl
  have HE3 := Lib.hid e3
  have HT3 := Lib.hid t3
  clear m3 e3 t3
  refine bodyPost_ret (by simp [results, Try.results70, go_sem, ↓IntWalk.iteOmega, *]; try rfl) rfl (by rw [← HE.out]; exact ⟨a3, c3, by rw [List.length_append]; rfl, HT3.out, HE3.out, fun a h => .inr (by subst h; have := G3.out a.block rfl; have := EV.out.size; omega)⟩)
end Go.Proofs.Ytfaekfdngkpkdaa
/- What is left behind an append of one that was just built. -/
namespace Go.Proofs.Ytfaekfdngkpkdaa
open Go.RowKit
theorem grown_after {U W w3 : World} {o : Obj} {prev v3 : Value} {base : Nat} (hb : base ≤ W.heap.size) (hU : U.heap.size ≤ base) (hE : Ext U W) (hG : ∀ g, prev.ownBlock = some g → base ≤ g)
    (q2 : (W.alloc o).grownBy w3 prev.ownBlock) (q3 : v3.ownBlock = prev.ownBlock ∨ v3.ownBlock = some (W.alloc o).heap.size) :
    Ext U w3 ∧ (∀ b ob, b < base → W.heap[b]? = some ob → w3.heap[b]? = some ob) ∧ (∀ g, v3.ownBlock = some g → base ≤ g) ∧ base ≤ w3.heap.size := by
  refine ⟨Keeps.to_ext (F := []) (Ext.refl U) ((Keeps.of_ext (hE.alloc _)).grown q2 (fun x hx => .inr (Nat.le_trans hU (hG x hx)))) (by simp), fun b ob hlt h => ?_, fun g hg => ?_, ?_⟩
  · exact ((q2.block b (by simp; omega) (fun e => by have := hG b e.symm; omega)).trans (alloc_other _ _ (by omega))).trans h
  · rcases q3 with q3 | q3 <;> rw [q3] at hg
    · exact hG g hg
    · simp only [Option.some.injEq, World.size_alloc] at hg; omega
  · have := q2.size; simp at this; omega
end Go.Proofs.Ytfaekfdngkpkdaa
/- The document's memory: set, Store. -/
namespace Go.Proofs.Ytfaekfdngkpkdaa
set_option linter.unusedVariables false
set_option linter.unusedSimpArgs false
open Go.RowKit
attribute [local go_sem] wext_cell wext_frozen wext_heap alloc_cell alloc_frozen alloc_heap setCell_cell objCell_cells objFrozen_cells

theorem slotRow : RowT Try.prog 31 149 2 16 := RowT.of (z := .agg #[.int .u64 0, .int .u64 0]) Try.underlying31 (by kernel_rfl) rfl
def EndSet (B : Int) (S' : List (Int × Int)) (ta : Option Addr) (k tc : Nat) (w : World) (e : Ending) (w' : World) : Prop :=
  ∃ sa sc, e = .returned (.agg #[.int .i64 B, .slice sa S'.length sc, .slice ta k tc]) ∧ SAt w' sa sc S' ∧ Ext w w'
set_option maxHeartbeats 4000000 in
set_option maxRecDepth 20000 in
theorem rSet_c (B : Int) (sa ta : Option Addr) (L : List (Int × Int)) (k sc tc : Nat) (a x : Int) (w : World) (h : SAt w sa sc L) (hl : L.length ≤ 1000000) :
    Calls Try.prog 110 #[.agg #[.int .i64 B, .slice sa L.length sc, .slice ta k tc], .int .u64 a, .int .u64 x] w (EndSet B (setL a x false L) ta k tc w) := by
  have HS := Lib.hid h
  generalize hE : EndSet B (setL a x false L) ta k tc w = E
  have HE := Lib.hid hE
  clear hE h
  go_enter Try.func110, Try.ntmps110
  go_wp2
  refine wp_gen ?_; intro W hW
  have hEW : Ext w W := by rw [hW]; exact (by repeat (first | exact Ext.refl _ | assumption | refine Ext.alloc ?_ _ | refine Ext.drew ?_ | refine Ext.setCell ?_ (by first | (simp; done) | (dsimp only; omega)) _ | refine Ext.trans ?_ (by assumption)))
  have hb0 : W.heap[w.heap.size]? = some (.cells #[.int .i64 B, .slice sa L.length sc, .slice ta k tc] 34 (0, 0)) := by rw [hW]; exact (alloc_other _ _ (by simp)).trans (alloc_same ..)
  have hb1 : W.heap[w.heap.size + 1]? = some (.cells #[.int .i64 0, .slice none 0 0, .slice none 0 0] 34 (0, 0)) := by rw [hW]; exact alloc_same1 ..
  have hsz : w.heap.size + 2 ≤ W.heap.size := by rw [hW]; simp
  obtain ⟨pb, hpb⟩ : ∃ pb, w.heap.size = pb := ⟨_, rfl⟩
  have h01 : w.heap.size ≤ pb ∧ w.heap.size ≤ pb + 1 ∧ w.heap.size ≤ pb + 2 := by omega
  obtain ⟨h01, h02, h03⟩ := h01
  rw [hpb] at hb0 hb1 hsz ⊢
  have EW := Lib.hid hEW
  have B0 := Lib.hid hb0
  have B1 := Lib.hid hb1
  clear hW hpb hEW hb0 hb1
  go_loopw [7, 8, 9] (fun o d i wr => ∃ (j : Nat) (K : List (Int × Int)) (db : Bool) (oa : Option Addr) (n oc : Nat), j ≤ L.length ∧ i = .int .i64 j ∧ d = .bool db ∧ o = .slice oa n oc ∧ n = K.length ∧ n ≤ j + 1 ∧ Hid (db = false → n ≤ j) ∧ pb + 2 ≤ wr.heap.size ∧ Hid (setL a x false L = K ++ setL a x db (L.drop j)) ∧
    Hid (Owns wr 149 2 (.slice oa n oc) n (rowW K) ∧ (∀ g, (Value.slice oa n oc).ownBlock = some g → pb + 2 ≤ g) ∧ Ext w wr ∧
      wr.heap[pb]? = some (.cells #[.int .i64 B, .slice sa L.length sc, .slice ta k tc] 34 (0, 0)) ∧ wr.heap[pb + 1]? = some (.cells #[.int .i64 0, .slice none 0 0, .slice none 0 0] 34 (0, 0)))) (fun _ _ i _ => L.length - (intOf i).toNat)
  case atStart => exact ⟨0, [], false, none, 0, 0, by omega, rfl, rfl, rfl, rfl, by omega, Lib.hid (fun _ => Nat.le_refl _), hsz, Lib.hid (by simp), Lib.hid ⟨by simpa [rowW] using Owns.nil _ _ _, fun g hg => by simp [Value.ownBlock] at hg, EW.out, B0.out, B1.out⟩⟩
  case round =>
    obtain ⟨j, K, db, oa, n, oc, hj, rfl, rfl, rfl, hn, hnj, hNJ, hwr, hK, hR⟩ := hrel
    obtain ⟨hO, hG, hX, hp, hq⟩ := hR.out
    have c1 := (heap_cell hp 1).trans rfl
    have hlp := heap_lt hp
    have hlq := heap_lt hq
    have HO := Lib.hid hO
    have HG := Lib.hid hG
    have HX := Lib.hid hX
    have P0 := Lib.hid hp
    have P1 := Lib.hid hq
    have HN := Lib.hid hn
    clear hO hG hX hR hn
    by_cases hlt : j < L.length
    · obtain ⟨g, rfl, hgl, d0, d1⟩ := (HS.out.ext HX.out).at hlt
      clear hp hq
      have hd : L.drop j = wAt L j :: L.drop (j + 1) := by
        rw [List.drop_eq_getElem_cons hlt]
        congr 1
        simp [wAt, List.getD, hlt]
      have HK : Hid (setL a x false L = K ++ setL a x db (wAt L j :: L.drop (j + 1))) := Lib.hid (by rw [← hd]; exact hK.out)
      obtain ⟨z, hz0⟩ : ∃ z, wAt L j = z := ⟨_, rfl⟩
      rw [hz0] at d0 d1 HK
      obtain ⟨z1, z2⟩ := z
      have hZ := Lib.hid hz0
      clear hz0
      dsimp only at d0 d1
      clear hd hK
      by_cases hz : z1 = a
      · have HK2 : Hid (setL a x false L = K ++ setL a x db (L.drop (j + 1))) := Lib.hid (by rw [HK.out, setL_same hz])
        have hzb : (z1 == a) = true := by simpa using hz
        clear hz HK
        go_wp2
        refine ⟨⟨j + 1, K, db, oa, n, oc, by omega, by go_num, rfl, rfl, HN.out, by omega, Lib.hid (fun h => Nat.le_succ_of_le (hNJ.out h)), hwr, HK2, Lib.hid ⟨HO.out, HG.out, HX.out, P0.out, P1.out⟩⟩, by simp [intOf]; omega⟩
      have hzb : (z1 == a) = false := by simpa using hz
      cases db
      case true =>
        have hNM : Hid (true = false → n + 1 ≤ j + 1) := Lib.hid (fun h => by cases h)
        have HK2 : Hid (setL a x false L = (K ++ [(z1, z2)]) ++ setL a x true (L.drop (j + 1))) := Lib.hid (by rw [HK.out, setL_done hz]; simp)
        clear hz HK
        have HA := Lib.hid (HO.out.ext ((Ext.refl wr).alloc (.cells #[.int .u64 z1, .int .u64 z2] 149)))
        go_wp2_with (first | (at_builtin; refine wpList_append_owns rfl _ _ _ _ 2 16 slotRow rfl _ rfl n _ HA.out _ 1 1 rfl [.int .u64 z1, .int .u64 z2] rfl (fun j u hu => by rw [add0, heap_cell (alloc_same wr _) j]; simpa using hu) (by simp [Value.oneCell']) (by unfold maxLen; omega) (by omega) ?_; intro v9 w9 q1 q2 q3; replace q2 : (wr.alloc (.cells #[.int .u64 z1, .int .u64 z2] 149)).grownBy w9 (Value.slice oa n oc).ownBlock := q2; replace q3 : v9.ownBlock = (Value.slice oa n oc).ownBlock ∨ v9.ownBlock = some (wr.alloc (.cells #[.int .u64 z1, .int .u64 z2] 149)).heap.size := q3; obtain ⟨a9, c9, rfl, -, -⟩ := q1.form; simp only [Act.put, Array.set!_eq_setIfInBounds, List.setIfInBounds_toArray, List.set_cons_succ, List.set_cons_zero]))
        all_goals
          have ⟨g1, g2, g3, g4⟩ := grown_after (prev := Value.slice oa n oc) (o := (.cells #[.int .u64 z1, .int .u64 z2] 149)) (base := pb + 2) hwr h03 HX.out HG.out q2 q3
          refine ⟨⟨j + 1, K ++ [(z1, z2)], true, a9, n + 1, c9, by omega, by go_num, rfl, rfl, by rw [List.length_append, HN.out]; rfl, by omega, hNM, g4, HK2, Lib.hid ⟨by rw [rowW_append]; simpa [rowW] using q1, g3, g1, g2 _ _ (by omega) P0.out, g2 _ _ (by omega) P1.out⟩⟩, by simp [intOf]; omega⟩
      case false =>
        by_cases hlt2 : a < z1
        case neg =>
          have hNM : Hid (false = false → n + 1 ≤ j + 1) := Lib.hid (fun _ => Nat.succ_le_succ (hNJ.out rfl))
          have HK2 : Hid (setL a x false L = (K ++ [(z1, z2)]) ++ setL a x false (L.drop (j + 1))) := Lib.hid (by rw [HK.out, setL_on hz hlt2]; simp)
          have hgb : decide (a < z1) = false := by simpa using hlt2
          clear hz HK
          have HA := Lib.hid (HO.out.ext ((Ext.refl wr).alloc (.cells #[.int .u64 z1, .int .u64 z2] 149)))
          go_wp2_with (first | (at_builtin; refine wpList_append_owns rfl _ _ _ _ 2 16 slotRow rfl _ rfl n _ HA.out _ 1 1 rfl [.int .u64 z1, .int .u64 z2] rfl (fun j u hu => by rw [add0, heap_cell (alloc_same wr _) j]; simpa using hu) (by simp [Value.oneCell']) (by unfold maxLen; omega) (by omega) ?_; intro v9 w9 q1 q2 q3; replace q2 : (wr.alloc (.cells #[.int .u64 z1, .int .u64 z2] 149)).grownBy w9 (Value.slice oa n oc).ownBlock := q2; replace q3 : v9.ownBlock = (Value.slice oa n oc).ownBlock ∨ v9.ownBlock = some (wr.alloc (.cells #[.int .u64 z1, .int .u64 z2] 149)).heap.size := q3; obtain ⟨a9, c9, rfl, -, -⟩ := q1.form; simp only [Act.put, Array.set!_eq_setIfInBounds, List.setIfInBounds_toArray, List.set_cons_succ, List.set_cons_zero]))
          all_goals
            have ⟨g1, g2, g3, g4⟩ := grown_after (prev := Value.slice oa n oc) (o := (.cells #[.int .u64 z1, .int .u64 z2] 149)) (base := pb + 2) hwr h03 HX.out HG.out q2 q3
            refine ⟨⟨j + 1, K ++ [(z1, z2)], false, a9, n + 1, c9, by omega, by go_num, rfl, rfl, by rw [List.length_append, HN.out]; rfl, by omega, hNM, g4, HK2, Lib.hid ⟨by rw [rowW_append]; simpa [rowW] using q1, g3, g1, g2 _ _ (by omega) P0.out, g2 _ _ (by omega) P1.out⟩⟩, by simp [intOf]; omega⟩
        have HK2 : Hid (setL a x false L = (K ++ [(a, x)] ++ [(z1, z2)]) ++ setL a x true (L.drop (j + 1))) := Lib.hid (by rw [HK.out, setL_in hz hlt2]; simp)
        have hgb : decide (a < z1) = true := by simpa using hlt2
        clear hz HK
        have HA := Lib.hid (HO.out.ext ((Ext.refl wr).alloc (.cells #[.int .u64 a, .int .u64 x] 149)))
        go_upto_region 9 with (first | (at_builtin; refine wpList_append_owns rfl _ _ _ _ 2 16 slotRow rfl _ rfl n _ HA.out _ 1 1 rfl [.int .u64 a, .int .u64 x] rfl (fun j u hu => by rw [add0, heap_cell (alloc_same wr _) j]; simpa using hu) (by simp [Value.oneCell']) (by unfold maxLen; omega) (by omega) ?_; intro v8 w8 q1 q2 q3; replace q2 : (wr.alloc (.cells #[.int .u64 a, .int .u64 x] 149)).grownBy w8 (Value.slice oa n oc).ownBlock := q2; replace q3 : v8.ownBlock = (Value.slice oa n oc).ownBlock ∨ v8.ownBlock = some (wr.alloc (.cells #[.int .u64 a, .int .u64 x] 149)).heap.size := q3; obtain ⟨a8, c8, rfl, -, -⟩ := q1.form; simp only [Act.put, Array.set!_eq_setIfInBounds, List.setIfInBounds_toArray, List.set_cons_succ, List.set_cons_zero]))
        have ⟨g1, g2, g3, g4⟩ := grown_after (prev := Value.slice oa n oc) (o := (.cells #[.int .u64 a, .int .u64 x] 149)) (base := pb + 2) hwr h03 HX.out HG.out q2 q3
        have HX8 := Lib.hid g1
        have HG8 := Lib.hid g3
        have P8 := Lib.hid (g2 _ _ (by omega) P0.out)
        have Q8 := Lib.hid (g2 _ _ (by omega) P1.out)
        have HO8 : Hid (Owns w8 149 2 (.slice a8 (n + 1) c8) (n + 1) (rowW (K ++ [(a, x)]))) := Lib.hid (by rw [rowW_append]; simpa [rowW] using q1)
        have e1 := (heap_cell P8.out 1).trans rfl
        have hlp8 := heap_lt P8.out
        clear q1 q2 q3 g1 g2 g3 c1 d0 d1
        obtain ⟨g', hg', hgl', d0, d1⟩ := (HS.out.ext HX8.out).at hlt
        simp only [Option.some.injEq, Addr.mk.injEq, and_true] at hg'
        subst hg'
        rw [hZ.out] at d0 d1
        dsimp only at d0 d1
        have HA8 := Lib.hid (HO8.out.ext ((Ext.refl w8).alloc (.cells #[.int .u64 z1, .int .u64 z2] 149)))
        go_wp2_with (first | (at_builtin; refine wpList_append_owns rfl _ _ _ _ 2 16 slotRow rfl _ rfl (n + 1) _ HA8.out _ 1 1 rfl [.int .u64 z1, .int .u64 z2] rfl (fun j u hu => by rw [add0, heap_cell (alloc_same w8 _) j]; simpa using hu) (by simp [Value.oneCell']) (by unfold maxLen; omega) (by omega) ?_; intro v9 w9 q1 q2 q3; replace q2 : (w8.alloc (.cells #[.int .u64 z1, .int .u64 z2] 149)).grownBy w9 (Value.slice a8 (n + 1) c8).ownBlock := q2; replace q3 : v9.ownBlock = (Value.slice a8 (n + 1) c8).ownBlock ∨ v9.ownBlock = some (w8.alloc (.cells #[.int .u64 z1, .int .u64 z2] 149)).heap.size := q3; obtain ⟨a9, c9, rfl, -, -⟩ := q1.form; simp only [Act.put, Array.set!_eq_setIfInBounds, List.setIfInBounds_toArray, List.set_cons_succ, List.set_cons_zero]))
        all_goals
          have ⟨g1, g2, g3, g5⟩ := grown_after (prev := Value.slice a8 (n + 1) c8) (o := (.cells #[.int .u64 z1, .int .u64 z2] 149)) (base := pb + 2) g4 h03 HX8.out HG8.out q2 q3
          refine ⟨⟨j + 1, K ++ [(a, x)] ++ [(z1, z2)], true, a9, n + 1 + 1, c9, by omega, by go_num, rfl, rfl, by rw [List.length_append, List.length_append, HN.out]; rfl, by have := hNJ.out rfl; omega, Lib.hid (fun h => by cases h), g5, HK2, Lib.hid ⟨by rw [rowW_append]; simpa [rowW] using q1, g3, g1, g2 _ _ (by omega) P8.out, g2 _ _ (by omega) Q8.out⟩⟩, by simp [intOf]; omega⟩
    · have hdn : L.drop j = [] := List.drop_of_length_le (by omega)
      have HK2 : Hid (setL a x false L = K ++ setL a x db []) := Lib.hid (by rw [← hdn]; exact hK.out)
      clear hK hdn
      have fin : ∀ (V : World) (J : List (Int × Int)) (ja : Option Addr) (jc : Nat), setL a x false L = J → Owns V 149 2 (.slice ja J.length jc) J.length (rowW J) → (∀ g, (Value.slice ja J.length jc).ownBlock = some g → pb + 2 ≤ g) → Ext w V →
          V.heap[pb]? = some (.cells #[.int .i64 B, .slice sa L.length sc, .slice ta k tc] 34 (0, 0)) → V.heap[pb + 1]? = some (.cells #[.int .i64 0, .slice none 0 0, .slice none 0 0] 34 (0, 0)) →
          ((((V.setCell ⟨pb, 1, none⟩ (.slice ja J.length jc)).setCell ⟨pb + 1, 0, none⟩ (.int .i64 B)).setCell ⟨pb + 1, 1, none⟩ (.slice ja J.length jc)).setCell ⟨pb + 1, 2, none⟩ (.slice ta k tc)).heap[pb + 1]? = some (.cells #[.int .i64 B, .slice ja J.length jc, .slice ta k tc] 34 (0, 0)) ∧
          SAt ((((V.setCell ⟨pb, 1, none⟩ (.slice ja J.length jc)).setCell ⟨pb + 1, 0, none⟩ (.int .i64 B)).setCell ⟨pb + 1, 1, none⟩ (.slice ja J.length jc)).setCell ⟨pb + 1, 2, none⟩ (.slice ta k tc)) ja jc (setL a x false L) ∧
          Ext w ((((V.setCell ⟨pb, 1, none⟩ (.slice ja J.length jc)).setCell ⟨pb + 1, 0, none⟩ (.int .i64 B)).setCell ⟨pb + 1, 1, none⟩ (.slice ja J.length jc)).setCell ⟨pb + 1, 2, none⟩ (.slice ta k tc)) := fun V J ja jc e h1 h2 h3 h4 h5 => by
        refine ⟨setCell_heap_same (setCell_heap_same (setCell_heap_same ((setCell_heap _ _ _ _ _ (by omega)).trans h5))), ?_, ?_⟩
        · rw [e]
          refine Owns.keep h1 fun g hg => ?_
          have := h2 g hg
          rw [setCell_heap _ _ _ _ _ (by omega), setCell_heap _ _ _ _ _ (by omega), setCell_heap _ _ _ _ _ (by omega), setCell_heap _ _ _ _ _ (by omega)]
        · exact Ext.setCell (Ext.setCell (Ext.setCell (Ext.setCell h3 (by dsimp only; omega) _) (by dsimp only; omega) _) (by dsimp only; omega) _) (by dsimp only; omega) _
      have FIN := Lib.hid fin
      clear fin
      cases db
      case true =>
        have HK3 : Hid (setL a x false L = K) := Lib.hid (by rw [HK2.out]; simp [setL])
        have y0 := (heap_cell hp 0).trans rfl
        have y2 := (heap_cell hp 2).trans rfl
        have x0 := (heap_cell hq 0).trans rfl
        have x1 := (heap_cell hq 1).trans rfl
        have x2 := (heap_cell hq 2).trans rfl
        have pf := frozen_of hp
        have qf := frozen_of hq
        clear hp hq HK2
        go_wp2
        obtain rfl := HN.out
        have ⟨r1, r2, r3⟩ := FIN.out wr K oa oc HK3.out HO.out HG.out HX.out P0.out P1.out
        refine post_gen (fun V => V.heap[pb + 1]? = some (.cells #[.int .i64 B, .slice oa K.length oc, .slice ta k tc] 34 (0, 0)) ∧ SAt V oa oc (setL a x false L) ∧ Ext w V) ⟨r1, r2, r3⟩ ?_
        clear r1 r2 r3 y0 y2 x0 x1 x2 pf qf c1
        rintro V ⟨m, s, e⟩
        have v0 := (heap_cell m 0).trans rfl
        have v1 := (heap_cell m 1).trans rfl
        have v2 := (heap_cell m 2).trans rfl
        have SS := Lib.hid s
        have EE := Lib.hid e
        clear m s e
        refine bodyPost_ret (by simp [results, Try.results110, go_sem, ↓IntWalk.iteOmega, *]; try rfl) rfl (by rw [← HE.out]; exact ⟨oa, oc, by rw [HK3.out], SS.out, EE.out⟩)
      case false =>
        have HK3 : Hid (setL a x false L = K ++ [(a, x)]) := Lib.hid (by rw [HK2.out]; simp [setL])
        clear hp hq HK2
        have HA := Lib.hid (HO.out.ext ((Ext.refl wr).alloc (.cells #[.int .u64 a, .int .u64 x] 149)))
        go_upto_region 13 with (first | (at_builtin; refine wpList_append_owns rfl _ _ _ _ 2 16 slotRow rfl _ rfl n _ HA.out _ 1 1 rfl [.int .u64 a, .int .u64 x] rfl (fun j u hu => by rw [add0, heap_cell (alloc_same wr _) j]; simpa using hu) (by simp [Value.oneCell']) (by unfold maxLen; omega) (by omega) ?_; intro v8 w8 q1 q2 q3; replace q2 : (wr.alloc (.cells #[.int .u64 a, .int .u64 x] 149)).grownBy w8 (Value.slice oa n oc).ownBlock := q2; replace q3 : v8.ownBlock = (Value.slice oa n oc).ownBlock ∨ v8.ownBlock = some (wr.alloc (.cells #[.int .u64 a, .int .u64 x] 149)).heap.size := q3; obtain ⟨a8, c8, rfl, -, -⟩ := q1.form; simp only [Act.put, Array.set!_eq_setIfInBounds, List.setIfInBounds_toArray, List.set_cons_succ, List.set_cons_zero]))
        have ⟨g1, g2, g3, g4⟩ := grown_after (prev := Value.slice oa n oc) (o := (.cells #[.int .u64 a, .int .u64 x] 149)) (base := pb + 2) hwr h03 HX.out HG.out q2 q3
        have hp := g2 _ _ (by omega) P0.out
        have hq := g2 _ _ (by omega) P1.out
        have y0 := (heap_cell hp 0).trans rfl
        have y1 := (heap_cell hp 1).trans rfl
        have y2 := (heap_cell hp 2).trans rfl
        have x0 := (heap_cell hq 0).trans rfl
        have x1 := (heap_cell hq 1).trans rfl
        have x2 := (heap_cell hq 2).trans rfl
        have pf := frozen_of hp
        have qf := frozen_of hq
        have hlp8 := heap_lt hp
        have hlq8 := heap_lt hq
        have hJ : (K ++ [(a, x)]).length = n + 1 := by rw [List.length_append, HN.out]; rfl
        have RR := FIN.out w8 (K ++ [(a, x)]) a8 c8 HK3.out (by rw [hJ, rowW_append]; simpa [rowW] using q1) (by rw [hJ]; exact g3) g1 hp hq
        rw [hJ] at RR
        have FF := Lib.hid RR
        clear hp hq q1 q2 q3 g1 g2 g3 c1 RR hJ
        go_wp2
        refine post_gen (fun V => V.heap[pb + 1]? = some (.cells #[.int .i64 B, .slice a8 (n + 1) c8, .slice ta k tc] 34 (0, 0)) ∧ SAt V a8 c8 (setL a x false L) ∧ Ext w V) FF.out ?_
        clear y0 y1 y2 x0 x1 x2 pf qf
        rintro V ⟨m, s, e⟩
        have v0 := (heap_cell m 0).trans rfl
        have v1 := (heap_cell m 1).trans rfl
        have v2 := (heap_cell m 2).trans rfl
        have SS := Lib.hid s
        have EE := Lib.hid e
        clear m s e
        refine bodyPost_ret (by simp [results, Try.results110, go_sem, ↓IntWalk.iteOmega, *]; try rfl) rfl (by rw [← HE.out]; exact ⟨a8, c8, by rw [HK3.out, List.length_append, HN.out]; rfl, SS.out, EE.out⟩)
end Go.Proofs.Ytfaekfdngkpkdaa
/- A region that draws its order, with several loud operations: a plan of segments, walked once. Own text.
   Kinds: 0 blind (the same in every world), 1 quiet (the same in every world that has grown out of the present one), 2 loud, 3 loud that only lays new memory.
   Conditions (a Bool over the region): in the plan's order each operation stands behind what it waits for; behind a loud one all wait for it; what stands before a loud one is blind (or quiet, if the loud one only lays memory), or it waits for that. -/
namespace Go.Proofs.Ytfaekfdngkpkdaa
open Go.RowKit
section
variable {P : Program} {ops : Array Oper} {Q : Exit → Act → World → Prop}

def depsOf (ops : Array Oper) (j : Nat) : List Nat :=
  match ops[j]? with
  | some o => (o.after.toList.filter (Region.binds .any ·)).map (·.on)
  | none => []
theorem mem_depsOf {j : Nat} {o : Oper} {d : Nat} (ho : ops[j]? = some o) : d ∈ depsOf ops j ↔ ∃ e ∈ o.after, Region.binds .any e = true ∧ e.on = d := by
  simp only [depsOf, ho, List.mem_map, List.mem_filter]
  constructor
  · rintro ⟨e, ⟨h1, h2⟩, h3⟩; exact ⟨e, by simpa using h1, h2, h3⟩
  · rintro ⟨e, h1, h2, h3⟩; exact ⟨e, ⟨by simpa using h1, h2⟩, h3⟩

/-- What is listed waits for nothing that isn't. -/
def Shut (ops : Array Oper) (seen : Array Bool) : Prop := ∀ j, seen.getD j false = true → ∀ d ∈ depsOf ops j, seen.getD d false = true
/-- i is listed wherever j may come up. -/
def Waits (ops : Array Oper) (j i : Nat) : Prop := ∀ seen, Shut ops seen → (∀ d ∈ depsOf ops j, seen.getD d false = true) → seen.getD i false = true

def closeStep (ops : Array Oper) (acc : List (Nat × List Nat)) (j : Nat) : List (Nat × List Nat) :=
  (j, (depsOf ops j ++ (depsOf ops j).flatMap fun k => (acc.lookup k).getD []).eraseDups) :: acc
theorem lookup_mem {α : Type} {l : List (Nat × α)} {k : Nat} {x : α} (h : l.lookup k = some x) : (k, x) ∈ l := by
  induction l with
  | nil => simp at h
  | cons p l ih =>
    obtain ⟨k', x'⟩ := p
    simp only [List.lookup] at h
    split at h
    · rename_i heq
      obtain rfl : k = k' := by simpa using heq
      cases h; exact List.mem_cons_self ..
    · exact List.mem_cons_of_mem _ (ih h)
theorem close_ok : ∀ (ord : List Nat) (acc : List (Nat × List Nat)), (∀ j ds, (j, ds) ∈ acc → ∀ i ∈ ds, Waits ops j i) →
    ∀ j ds, (j, ds) ∈ ord.foldl (closeStep ops) acc → ∀ i ∈ ds, Waits ops j i
  | [], _, h => h
  | x :: ord, acc, h => by
    refine close_ok ord _ (fun j ds hm i hi => ?_)
    rcases List.mem_cons.1 hm with hm | hm
    · obtain ⟨rfl, rfl⟩ := Prod.mk.inj hm
      rw [List.mem_eraseDups, List.mem_append] at hi
      intro seen hs hd
      rcases hi with hi | hi
      · exact hd i hi
      · obtain ⟨k, hk, hi⟩ := List.mem_flatMap.1 hi
        cases hl : acc.lookup k with
        | none => rw [hl] at hi; cases hi
        | some ds' =>
          rw [hl] at hi
          exact h k ds' (lookup_mem hl) i hi seen hs (hs k (hd k hk))
    · exact h j ds hm i hi
def waitsB (cl : List (Nat × List Nat)) (j i : Nat) : Bool := ((cl.lookup j).getD []).contains i
theorem waitsB_ok {ord : List Nat} {j i : Nat} (h : waitsB (ord.foldl (closeStep ops) []) j i = true) : Waits ops j i := by
  unfold waitsB at h
  cases hl : (ord.foldl (closeStep ops) []).lookup j with
  | none => rw [hl] at h; simp at h
  | some ds =>
    rw [hl] at h
    exact close_ok ord [] (fun _ _ hm => by cases hm) j ds (lookup_mem hl) i (by simpa using h)

/-- The mixed walk. -/
def wpMix (P : Program) (ops : Array Oper) (Q : Exit → Act → World → Prop) : List (Nat × Nat) → Act → World → Prop
  | [], a, w => ∀ w1, Ext w w1 → Q .normal a w1
  | (i, k) :: U, a, w => ∃ o, ops[i]? = some o ∧
    (Region.wanted o (yielded ops a.tmps) = true →
      (2 ≤ k → ∀ w1, Ext w w1 → o.wp P a w1 (fun a' w' => (k = 3 → Ext w w') ∧ wpMix P ops Q U a' w') (fun _ _ _ => False)) ∧
      (k < 2 → ∃ v, (∀ w', (k = 0 ∨ Ext w w') → (execOp a.eval o).run P w' = .ok (.value v) w') ∧ wpMix P ops Q U (a.put o.dst v) w)) ∧
    (Region.wanted o (yielded ops a.tmps) = false → wpMix P ops Q U (a.put o.dst undef) w)

theorem upon_mono {o : Oper} {a : Act} {K K' : Act → World → Prop} {R R' : Exit → Act → World → Prop} {r : Result Next} (hk : ∀ a w, K a w → K' a w) (hq : ∀ e a w, R e a w → R' e a w)
    (h : o.upon P a K R r) : o.upon P a K' R' r := by
  cases r with
  | ok nx w =>
    cases nx with
    | value v => exact hk _ _ h
    | skip => exact hk _ _ h
    | defer d => exact hk _ _ h
    | enter f args =>
      exact Calls.mono h fun e w' h' => by
        cases e with
        | returned v => exact hk _ _ h'
        | panicked c => exact hq _ _ _ h'
        | outgrown => obtain ⟨a, w, h'⟩ := h'; exact ⟨a, w, hq _ _ _ h'⟩
    | row rw args => exact Rows.mono h fun v w' h' => hk _ _ h'
    | _ => exact h
  | halt x w =>
    cases x with
    | panic v => exact hq _ _ _ h
    | _ => exact h

theorem upon_exit {o : Oper} {a : Act} {K : Act → World → Prop} {R R' : Exit → Act → World → Prop} {r : Result Next} (hq : ∀ e a w, e ≠ .normal → R e a w → R' e a w)
    (h : o.upon P a K R r) : o.upon P a K R' r := by
  cases r with
  | ok nx w =>
    cases nx with
    | value v => exact h
    | skip => exact h
    | defer d => exact h
    | enter f args =>
      exact Calls.mono h fun e w' h' => by
        cases e with
        | returned v => exact h'
        | panicked c => exact hq _ _ _ (by simp) h'
        | outgrown => obtain ⟨a, w, h'⟩ := h'; exact ⟨a, w, hq _ _ _ (by simp) h'⟩
    | row rw args => exact h
    | _ => exact h
  | halt x w =>
    cases x with
    | panic v => exact hq _ _ _ (by simp) h
    | _ => exact h

theorem mix_cong {x : Nat × Nat} {L L' : List (Nat × Nat)} (h : ∀ a w, wpMix P ops Q L a w → wpMix P ops Q L' a w) (a : Act) (w : World) (hm : wpMix P ops Q (x :: L) a w) : wpMix P ops Q (x :: L') a w := by
  obtain ⟨i, k⟩ := x
  obtain ⟨o, ho, h1, h2⟩ := hm
  refine ⟨o, ho, fun hw => ⟨fun hk w1 hx => upon_mono (fun a w hh => ⟨hh.1, h a w hh.2⟩) (fun _ _ _ hf => hf) ((h1 hw).1 hk w1 hx), fun hk => ?_⟩, fun hw => h _ _ (h2 hw)⟩
  obtain ⟨v, a1, a3⟩ := (h1 hw).2 hk
  exact ⟨v, a1, h _ _ a3⟩

theorem put_defers (a : Act) (dst : Option Tmp) (v : Value) (D : List Deferred) : ({ a with defers := D } : Act).put dst v = { a.put dst v with defers := D } := by cases dst <;> rfl

/-- Two that stand side by side and do not look at each other, the first one not loud, and blind if the second one is loud. -/
theorem mix_swap {q kq i k : Nat} {R : List (Nat × Nat)} {oq oi : Oper} (hsel : Region.noSelect ops = true) (hq : ops[q]? = some oq) (hi : ops[i]? = some oi) (hap : oq.apart ops oi = true) (hkq : kq < 2) (hk : k = 2 → kq = 0) (hk3 : k ≤ 3)
    (a : Act) (w : World) (hm : wpMix P ops Q ((q, kq) :: (i, k) :: R) a w) : wpMix P ops Q ((i, k) :: (q, kq) :: R) a w := by
  obtain ⟨p1, p2, p3⟩ := Oper.apart_spec hap
  have si := fun cs b => Region.noSelect_spec hsel i oi cs b hi
  have sq := fun cs b => Region.noSelect_spec hsel q oq cs b hq
  have wi : ∀ (a : Act) v, Region.wanted oi (yielded ops (a.put oq.dst v).tmps) = Region.wanted oi (yielded ops a.tmps) := fun a v => wanted_put oi a oq.dst v p1
  have wq : ∀ (a : Act) v, Region.wanted oq (yielded ops (a.put oi.dst v).tmps) = Region.wanted oq (yielded ops a.tmps) := fun a v => wanted_put oq a oi.dst v p3
  have ei : ∀ (a : Act) v, execOp (a.put oq.dst v).eval oi = execOp a.eval oi := fun a v => execOp_put oi si a oq.dst v p1
  have eq : ∀ (a : Act) v, execOp (a.put oi.dst v).eval oq = execOp a.eval oq := fun a v => execOp_put oq sq a oi.dst v p3
  have pc : ∀ (a : Act) v u, (a.put oq.dst v).put oi.dst u = (a.put oi.dst u).put oq.dst v := fun a v u => Act.put_comm a v u p2
  obtain ⟨oq', hq', h1, h2⟩ := hm
  obtain rfl : oq' = oq := Option.some.inj (hq'.symm.trans hq)
  -- what the first one leaves, and that it leaves it from any frame that has the second one's value too
  have key : ∃ vq, wpMix P ops Q ((i, k) :: R) (a.put oq'.dst vq) w ∧ ∀ (u : Value) (D : List Deferred) (w' : World), (kq = 0 ∨ Ext w w') →
      wpMix P ops Q R ({ (a.put oi.dst u).put oq'.dst vq with defers := D }) w' → wpMix P ops Q ((q, kq) :: R) ({ a.put oi.dst u with defers := D }) w' := by
    cases hw : Region.wanted oq' (yielded ops a.tmps) with
    | true =>
      obtain ⟨vq, b0, hmix⟩ := (h1 hw).2 hkq
      refine ⟨vq, hmix, fun u D w' hw' hR => ⟨oq', hq, fun _ => ⟨fun h => absurd h (by omega), fun _ => ⟨vq, fun w2 h0 => ?_, ?_⟩⟩, fun hf => ?_⟩⟩
      · have := b0 w2 (by
          rcases h0 with h0 | h0
          · exact .inl h0
          · rcases hw' with h1 | h1
            · exact .inl h1
            · exact .inr (h1.trans h0))
        rw [← eq a u] at this
        exact this
      · rw [put_defers]; exact hR
      · exfalso
        have : Region.wanted oq' (yielded ops (a.put oi.dst u).tmps) = false := hf
        rw [wq, hw] at this; cases this
    | false =>
      refine ⟨undef, h2 hw, fun u D w' _ hR => ⟨oq', hq, fun ht => ?_, fun _ => ?_⟩⟩
      · exfalso
        have : Region.wanted oq' (yielded ops (a.put oi.dst u).tmps) = true := ht
        rw [wq, hw] at this; cases this
      · rw [put_defers]; exact hR
  obtain ⟨vq, hmix, hback⟩ := key
  obtain ⟨oi', hi', g1, g2⟩ := hmix
  obtain rfl : oi' = oi := Option.some.inj (hi'.symm.trans hi)
  refine ⟨oi', hi, fun hw => ⟨fun h2 w1 hx => ?_, fun h2 => ?_⟩, fun hw => ?_⟩
  · -- loud
    have hl := (g1 (by rw [wi]; exact hw)).1 h2 w1 hx
    unfold Oper.wp at hl ⊢
    rw [ei] at hl
    generalize (execOp a.eval oi').run P w1 = r at hl ⊢
    have bk : ∀ (u : Value) (D : List Deferred) (w' : World), ((k = 3 → Ext w w') ∧ wpMix P ops Q R ({ (a.put oq'.dst vq).put oi'.dst u with defers := D }) w') →
        (k = 3 → Ext w w') ∧ wpMix P ops Q ((q, kq) :: R) ({ a.put oi'.dst u with defers := D }) w' := fun u D w' hR => by
      refine ⟨hR.1, ?_⟩
      have hR := hR.2
      rw [pc] at hR
      refine hback u D w' ?_ hR
      by_cases h3 : k = 3
      · exact .inr (‹(k = 3 → Ext w w') ∧ _›.1 h3)
      · exact .inl (hk (by omega))
    cases r with
    | ok nx w2 =>
      cases nx with
      | value v => exact bk v (a.put oi'.dst v).defers w2 (by have : (a.put oi'.dst v).defers = ((a.put oq'.dst vq).put oi'.dst v).defers := (by cases oi'.dst <;> cases oq'.dst <;> rfl); rw [this]; exact hl)
      | skip => exact bk undef (a.put oi'.dst undef).defers w2 (by have : (a.put oi'.dst undef).defers = ((a.put oq'.dst vq).put oi'.dst undef).defers := (by cases oi'.dst <;> cases oq'.dst <;> rfl); rw [this]; exact hl)
      | defer d =>
        have hl' : (k = 3 → Ext w w2) ∧ wpMix P ops Q R (({ a.put oq'.dst vq with defers := d :: (a.put oq'.dst vq).defers } : Act).put oi'.dst undef) w2 := hl
        rw [put_defers] at hl'
        have hd : (a.put oq'.dst vq).defers = a.defers := by cases oq'.dst <;> rfl
        rw [hd] at hl'
        show (k = 3 → Ext w w2) ∧ wpMix P ops Q ((q, kq) :: R) (({ a with defers := d :: a.defers } : Act).put oi'.dst undef) w2
        rw [put_defers]
        exact bk undef (d :: a.defers) w2 hl'
      | enter f args =>
        exact Calls.mono hl fun e w3 h3 => by
          cases e with
          | returned v => exact bk v (a.put oi'.dst v).defers w3 (by have : (a.put oi'.dst v).defers = ((a.put oq'.dst vq).put oi'.dst v).defers := (by cases oi'.dst <;> cases oq'.dst <;> rfl); rw [this]; exact h3)
          | panicked c => exact h3
          | outgrown => exact h3
      | row rw args => exact Rows.mono hl fun v w3 h3 => bk v (a.put oi'.dst v).defers w3 (by have : (a.put oi'.dst v).defers = ((a.put oq'.dst vq).put oi'.dst v).defers := (by cases oi'.dst <;> cases oq'.dst <;> rfl); rw [this]; exact h3)
      | _ => exact hl
    | halt x w2 =>
      cases x with
      | panic v => exact hl
      | _ => exact hl
  · obtain ⟨v, c0, hR⟩ := (g1 (by rw [wi]; exact hw)).2 h2
    refine ⟨v, fun w' h0 => ?_, ?_⟩
    · have := c0 w' h0; rwa [ei] at this
    · rw [pc] at hR
      exact hback v (a.put oi'.dst v).defers w (.inr (Ext.refl w)) (by
        have : (a.put oi'.dst v).defers = ((a.put oi'.dst v).put oq'.dst vq).defers := (by cases oi'.dst <;> cases oq'.dst <;> rfl)
        rw [this]; exact hR)
  · have hR := g2 (by rw [wi]; exact hw)
    rw [pc] at hR
    exact hback undef (a.put oi'.dst undef).defers w (.inr (Ext.refl w)) (by
      have : (a.put oi'.dst undef).defers = ((a.put oi'.dst undef).put oq'.dst vq).defers := (by cases oi'.dst <;> cases oq'.dst <;> rfl)
      rw [this]; exact hR)

theorem mix_pull (hsel : Region.noSelect ops = true) {i k : Nat} {oi : Oper} (hk3 : k ≤ 3) (hi : ops[i]? = some oi) {post : List (Nat × Nat)} : ∀ (pre : List (Nat × Nat)),
    (∀ q ∈ pre, q.2 < 2 ∧ (k = 2 → q.2 = 0) ∧ ∃ oq, ops[q.1]? = some oq ∧ oq.apart ops oi = true) → ∀ a w, wpMix P ops Q (pre ++ (i, k) :: post) a w → wpMix P ops Q ((i, k) :: (pre ++ post)) a w
  | [], _, _, _, h => h
  | (q, kq) :: pre, hp, a, w, h => by
    obtain ⟨h1, h2, oq, h3, h4⟩ := hp (q, kq) (List.mem_cons_self ..)
    exact mix_swap hsel h3 hi h4 h1 h2 hk3 a w (mix_cong (mix_pull hsel hk3 hi pre (fun x hx => hp x (List.mem_cons_of_mem _ hx))) a w h)

/-- The static relation of two operations in the plan's order. -/
def relB (ops : Array Oper) (cl : List (Nat × List Nat)) (x y : Nat × Nat) : Bool :=
  ((depsOf ops y.1).contains x.1 || (match ops[x.1]?, ops[y.1]? with | some ox, some oy => ox.apart ops oy | _, _ => false)) &&
  !(depsOf ops x.1).contains y.1 && (decide (x.2 < 2) || waitsB cl y.1 x.1) && (y.2 != 2 || x.2 == 0 || waitsB cl y.1 x.1) && x.1 != y.1
def pairB (r : Nat × Nat → Nat × Nat → Bool) : List (Nat × Nat) → Bool
  | [] => true
  | x :: l => l.all (r x) && pairB r l
theorem pairB_ok {r : Nat × Nat → Nat × Nat → Bool} : ∀ {l : List (Nat × Nat)}, pairB r l = true → l.Pairwise (fun x y => r x y = true)
  | [], _ => List.Pairwise.nil
  | x :: l, h => by
    simp only [pairB, Bool.and_eq_true, List.all_eq_true] at h
    exact List.pairwise_cons.2 ⟨h.1, pairB_ok h.2⟩
def oneB1 (ops : Array Oper) (x : Nat × Nat) : Bool := ((depsOf ops x.1).all fun d => decide (d < ops.size) && d != x.1) && decide (x.2 ≤ 3)

theorem mix_any (hsel : Region.noSelect ops = true) (ord : List Nat) : ∀ (n : Nat) (U : List (Nat × Nat)) (seen : Array Bool) (a : Act) (w : World), U.length = n → seen.size = ops.size → Shut ops seen →
    (∀ j, j < ops.size → (seen.getD j false = false ↔ ∃ k, (j, k) ∈ U)) → U.Pairwise (fun x y => relB ops (ord.foldl (closeStep ops) []) x y = true) → (∀ x ∈ U, oneB1 ops x = true) →
    wpMix P ops Q U a w → ∀ w1, Ext w w1 → wpAny P .any ops Q n seen a w1 := by
  intro n
  induction n with
  | zero =>
    intro U seen a w hU hsz _ hin _ _ hm w1 hx
    obtain rfl : U = [] := List.length_eq_zero_iff.1 hU
    refine ⟨?_, hm w1 hx⟩
    apply List.eq_nil_iff_forall_not_mem.2
    intro j hj
    obtain ⟨h0, o, ho, _⟩ := mem_ready.1 hj
    obtain ⟨k, hk⟩ := (hin j (Array.getElem?_eq_some_iff.1 ho).1).1 (getD_both h0)
    cases hk
  | succ n ih =>
    intro U seen a w hU hsz hshut hin hpw hone hm w1 hx
    have listed : ∀ j, j < ops.size → (¬ ∃ k, (j, k) ∈ U) → seen.getD j false = true := fun j hj hn => by
      cases h : seen.getD j false with
      | true => rfl
      | false => exact absurd ((hin j hj).1 h) hn
    constructor
    · intro h0
      exfalso
      match U, hU, hm with
      | (i, k) :: U', _, hm =>
        obtain ⟨o, ho, _⟩ := hm
        have hil : i < ops.size := (Array.getElem?_eq_some_iff.1 ho).1
        have : i ∈ Region.ready .any ops seen := mem_ready.2 ⟨getD_in (by omega) ((hin i hil).2 ⟨k, List.mem_cons_self ..⟩), o, ho, fun e he hb => by
          have h1 := hone (i, k) (List.mem_cons_self ..)
          simp only [oneB1, List.all_eq_true, Bool.and_eq_true, decide_eq_true_eq, bne_iff_ne] at h1
          replace h1 := h1.1
          have hd : e.on ∈ depsOf ops i := (mem_depsOf ho).2 ⟨e, he, hb, rfl⟩
          refine listed e.on (h1 _ hd).1 fun ⟨k', hk'⟩ => ?_
          rcases List.mem_cons.1 hk' with hk' | hk'
          · exact (h1 _ hd).2 (Prod.mk.inj hk').1
          · have := (List.pairwise_cons.1 hpw).1 _ hk'
            simp only [relB, Bool.and_eq_true, Bool.not_eq_true'] at this
            have h2 := this.1.1.1.2
            rw [List.contains_eq_mem] at h2
            simp [hd] at h2⟩
        rw [h0] at this; cases this
    · intro i hi
      obtain ⟨hun, oi, hoi, hall⟩ := mem_ready.1 hi
      have hil : i < ops.size := (Array.getElem?_eq_some_iff.1 hoi).1
      obtain ⟨k, hk⟩ := (hin i hil).1 (getD_both hun)
      obtain ⟨pre, post, rfl⟩ := List.append_of_mem hk
      have hdeps : ∀ d ∈ depsOf ops i, seen.getD d false = true := fun d hd => by
        obtain ⟨e, he, hb, rfl⟩ := (mem_depsOf hoi).1 hd
        exact hall e he hb
      have hpre : ∀ q ∈ pre, q.2 < 2 ∧ (k = 2 → q.2 = 0) ∧ ∃ oq, ops[q.1]? = some oq ∧ oq.apart ops oi = true := fun q hq => by
        have hrel := (List.pairwise_append.1 hpw).2.2 q hq (i, k) (List.mem_cons_self ..)
        simp only [relB, Bool.and_eq_true, Bool.or_eq_true, Bool.not_eq_true', bne_iff_ne, ne_eq, beq_iff_eq, decide_eq_true_eq] at hrel
        obtain ⟨⟨⟨⟨r1, r2⟩, r3⟩, r4⟩, _⟩ := hrel
        have hqun : seen.getD q.1 false = false := by
          cases h : ops[q.1]? with
          | none =>
            rw [h] at r1
            rcases r1 with r1 | r1
            · have : q.1 ∈ depsOf ops i := by simpa using r1
              have h1 := hone (i, k) (by simp)
              simp only [oneB1, List.all_eq_true, Bool.and_eq_true, decide_eq_true_eq] at h1
              replace h1 := h1.1
              have := (h1 _ this).1
              exact (hin q.1 this).2 ⟨q.2, by simp [hq]⟩
            · cases r1
          | some oq => exact (hin q.1 (Array.getElem?_eq_some_iff.1 h).1).2 ⟨q.2, by simp [hq]⟩
        have hnd : q.1 ∉ depsOf ops i := fun hd => by rw [hdeps _ hd] at hqun; cases hqun
        have hnw : ¬ waitsB (ord.foldl (closeStep ops) []) i q.1 = true := fun hw => by
          rw [waitsB_ok hw seen hshut hdeps] at hqun; cases hqun
        refine ⟨?_, fun h2 => ?_, ?_⟩
        · rcases r3 with r3 | r3
          · exact r3
          · exact absurd r3 hnw
        · rcases r4 with (r4 | r4) | r4
          · exact absurd h2 r4
          · exact r4
          · exact absurd r4 hnw
        · rcases r1 with r1 | r1
          · exact absurd (by simpa using r1) hnd
          · cases h : ops[q.1]? with
            | none => rw [h] at r1; cases r1
            | some oq => rw [h, hoi] at r1; exact ⟨oq, rfl, r1⟩
      have hk3 : k ≤ 3 := by
        have h1 := hone (i, k) hk
        simp only [oneB1, Bool.and_eq_true, decide_eq_true_eq] at h1
        exact h1.2
      have hpull := mix_pull hsel hk3 hoi pre hpre a w hm
      obtain ⟨o', ho', b1, b2⟩ := hpull
      obtain rfl : o' = oi := Option.some.inj (ho'.symm.trans hoi)
      have hsub : (pre ++ post).Sublist (pre ++ (i, k) :: post) := List.Sublist.append_left (List.sublist_cons_self _ _) _
      have cont : ∀ a' w', wpMix P ops Q (pre ++ post) a' w' → ∀ w2, Ext w' w2 → wpAny P .any ops Q n (seen.setIfInBounds i true) a' w2 := fun a' w' h' w2 hx2 => by
        refine ih (pre ++ post) _ a' w' (by simp at hU ⊢; omega) (by simp [hsz]) (fun j hj d hd => ?_) (fun j hj => ?_) (hpw.sublist hsub) (fun x hx => hone x (hsub.subset hx)) h' w2 hx2
        · by_cases hij : i = j
          · subst hij; exact getD_set_true (hdeps d hd)
          · rw [getD_set_ne false hij] at hj
            exact getD_set_true (hshut j hj d hd)
        · by_cases hij : i = j
          · subst hij
            constructor
            · intro hf
              exfalso
              have : (seen.setIfInBounds i true).getD i false = true := by simp [show i < seen.size by omega]
              rw [this] at hf; cases hf
            · rintro ⟨k', hk'⟩
              exfalso
              have hp2 := List.pairwise_append.1 hpw
              rcases List.mem_append.1 hk' with hk' | hk'
              · have := hp2.2.2 _ hk' (i, k) (List.mem_cons_self ..)
                simp [relB] at this
              · have := (List.pairwise_cons.1 hp2.2.1).1 _ hk'
                simp [relB] at this
          · rw [getD_set_ne false hij, hin j hj]
            constructor
            · rintro ⟨k', hk'⟩
              refine ⟨k', ?_⟩
              rcases List.mem_append.1 hk' with hk' | hk'
              · exact List.mem_append.2 (.inl hk')
              · rcases List.mem_cons.1 hk' with hk' | hk'
                · exact absurd (Prod.mk.inj hk').1.symm hij
                · exact List.mem_append.2 (.inr hk')
            · rintro ⟨k', hk'⟩; exact ⟨k', hsub.subset hk'⟩
      unfold wpOp
      simp only [hoi]
      cases hw : Region.wanted o' (yielded ops a.tmps) with
      | false =>
        simp only [Bool.false_eq_true, if_false]
        exact cont _ _ (b2 hw) w1 hx
      | true =>
        simp only [if_true]
        refine .inl ?_
        by_cases h2 : 2 ≤ k
        · exact upon_mono (fun a' w' h' => cont a' w' h'.2 w' (Ext.refl _)) (fun _ _ _ hf => hf.elim) ((b1 hw).1 h2 w1 hx)
        · obtain ⟨v, c0, hR⟩ := (b1 hw).2 (by omega)
          unfold Oper.wp
          rw [c0 w1 (.inr hx)]
          exact cont _ _ hR w1 hx
end

/-! ### Plans -/

/-- Operations that yield a value, and nothing else. -/
def calm : Op → Bool
  | .move _ | .assign _ | .pick .. | .build .. | .load .. | .nilCheck _ | .binOp .. | .unOp .. | .convert .. | .slice .. | .fieldAddr .. | .field .. | .indexAddr .. | .index .. | .lookup .. | .extract .. | .makeInterface .. | .typeAssert .. => true
  | .call c => match c.callee with
    | .builtin b => b == .len || b == .cap || b == .min || b == .max
    | _ => false
  | _ => false
def ValOnly (P : Program) (s : Sem Next) : Prop := ∀ w nx w', s.run P w = .ok nx w' → ∃ v, nx = .value v
theorem ValOnly.pure {P : Program} (v : Value) : ValOnly P (Pure.pure (.value v)) := fun w nx w' h => by
  have h2 : (Result.ok (Next.value v) w : Result Next) = .ok nx w' := h
  cases h2; exact ⟨v, rfl⟩
theorem ValOnly.bind {P : Program} {α : Type} {s : Sem α} {f : α → Sem Next} (hf : ∀ x, ValOnly P (f x)) : ValOnly P (s >>= f) := fun w nx w' h => by
  rw [Sem.run_bind] at h
  cases hs : s.run P w with
  | ok v w2 => rw [hs] at h; exact hf v w2 nx w' h
  | halt x w2 => rw [hs] at h; cases h
theorem ValOnly.panic {P : Program} : ValOnly P (runtimePanic .nilDeref) := fun w nx w' h => by
  simp [runtimePanic, goPanic] at h
theorem calm_only {P : Program} {ρ : Operand → Value} {o : Oper} (hc : calm o.op = true) : ValOnly P (execOp ρ o) := by
  unfold execOp
  cases ho : o.op <;> rw [ho] at hc <;> simp only [calm] at hc ⊢ <;> first | exact ValOnly.pure _ | exact ValOnly.bind fun _ => ValOnly.pure _ | (exfalso; exact hc) | (exfalso; cases hc; done) | skip
  · split
    · exact ValOnly.panic
    · exact ValOnly.panic
    · exact ValOnly.panic
    · split
      · exact ValOnly.panic
      · exact ValOnly.bind fun _ => ValOnly.bind fun _ => (by split; exact ValOnly.bind fun _ => ValOnly.pure _; exact ValOnly.pure _)
      · exact ValOnly.pure _
    · exact ValOnly.pure _
  · rename_i c
    cases hcc : c.callee with
    | builtin b =>
      rw [hcc] at hc
      simp only [resolve, hcc]
      show ValOnly P (builtin b _ _ _ _)
      cases b <;> first | exact ValOnly.bind fun _ => ValOnly.pure _ | (exfalso; revert hc; decide)
    | _ => rw [hcc] at hc; cases hc
theorem calm_run {P : Program} {a : Act} {o : Oper} {C : World → Prop} {w : World} {v : Value} (hc : calm o.op = true) (h : o.quietAt P a C w v) : (execOp a.eval o).run P w = .ok (.value v) w := by
  unfold Oper.quietAt at h
  generalize hr : (execOp a.eval o).run P w = r at h
  cases r with
  | halt x w2 => simp only [Oper.quietUpon] at h
  | ok nx w2 =>
    obtain ⟨u, rfl⟩ := calm_only hc w nx w2 hr
    simp only [Oper.quietUpon] at h
    obtain ⟨rfl, rfl⟩ := h
    rfl

/-- The worlds that have grown out of w. -/
def grown (w : World) (w' : World) : Prop := ∃ d, w' = wext w d
theorem grown_iff {w w' : World} : grown w w' ↔ Ext w w' := ⟨fun ⟨d, h⟩ => h ▸ wext_ext w d, fun h => ⟨w', wext_of h⟩⟩

def pickL (l : List Oper) (is : List Nat) : List Oper := is.map fun i => l.getD i default
/-- A plan's parts: blind operations, quiet ones, a loud one and its kind. -/
inductive Seg where
  | b (is : List Nat)
  | q (is : List Nat)
  | l (i k : Nat)
def planOf : List Seg → List (Nat × Nat)
  | [] => []
  | .b is :: t => is.map (·, 0) ++ planOf t
  | .q is :: t => is.map (·, 1) ++ planOf t
  | .l i k :: t => (i, k) :: planOf t

def wpPlan (P : Program) (l : List Oper) (Q : Exit → Act → World → Prop) : List Seg → Act → World → Prop
  | [], a, w => ∀ w1, Ext w w1 → Q .normal a w1
  | .b is :: t, a, w => wpQuiet P l.toArray (fun _ => True) (fun a1 => wpPlan P l Q t a1 w) (pickL l is) a
  | .q is :: t, a, w => wpQuiet P l.toArray (fun w' => ∃ d, w' = wext w d) (fun a1 => wpPlan P l Q t a1 w) (pickL l is) a
  | .l i k :: t, a, w => ∀ w1, Ext w w1 → wpList P l.toArray (Exit.then (fun a3 w3 => (k = 3 → Ext w w3) ∧ wpPlan P l Q t a3 w3) (fun _ _ _ => False)) (pickL l [i]) a w1

def calmB (l : List Oper) (is : List Nat) : Bool := is.all fun i => decide (i < l.length) && calm (l.getD i default).op
def segB (l : List Oper) : Seg → Bool
  | .b is => calmB l is
  | .q is => calmB l is
  | .l i k => decide (i < l.length) && decide (2 ≤ k) && (l.getD i default).guard.isNone

section
variable {P : Program} {l : List Oper} {Q : Exit → Act → World → Prop}
theorem getD_some {l : List Oper} {i : Nat} (h : i < l.length) : l.toArray[i]? = some (l.getD i default) := by
  simp [List.getD, h]

theorem mix_calm {U : List (Nat × Nat)} (k : Nat) (hk : k < 2) {w : World} {C : World → Prop} (hC : ∀ w', (k = 0 ∨ Ext w w') → C w') : ∀ (is : List Nat) (a : Act), calmB l is = true →
    wpQuiet P l.toArray C (fun a' => wpMix P l.toArray Q U a' w) (pickL l is) a → wpMix P l.toArray Q (is.map (·, k) ++ U) a w
  | [], a, _, h => h
  | i :: is, a, hB, h => by
    simp only [calmB, List.all_cons, Bool.and_eq_true, decide_eq_true_eq] at hB
    refine ⟨_, getD_some hB.1.1, fun hw => ⟨fun h2 => absurd h2 (by omega), fun _ => ?_⟩, fun hw => ?_⟩
    · simp only [pickL, List.map_cons, wpQuiet] at h
      rw [if_pos hw] at h
      obtain ⟨v, h1, h2⟩ := h
      exact ⟨v, fun w' h0 => calm_run hB.1.2 (h1 w' (hC w' h0)), mix_calm k hk hC is _ hB.2 h2⟩
    · simp only [pickL, List.map_cons, wpQuiet] at h
      rw [if_neg (by rw [hw]; simp)] at h
      exact mix_calm k hk hC is _ hB.2 h

theorem upon_normal {P : Program} {o : Oper} {a : Act} {K : Act → World → Prop} {R : Act → World → Prop} {r : Result Next} (h : o.upon P a K (Exit.then R fun _ _ _ => False) r) : o.upon P a K (fun _ _ _ => False) r := by
  refine upon_exit (fun e a w he hq => ?_) h
  cases e <;> first | exact absurd rfl he | exact hq

theorem mix_loud {U : List (Nat × Nat)} {i k : Nat} {a : Act} {w : World} (hi : i < l.length) (hk : 2 ≤ k) (hg : (l.getD i default).guard = none)
    (h : ∀ w1, Ext w w1 → wpList P l.toArray (Exit.then (fun a3 w3 => (k = 3 → Ext w w3) ∧ wpMix P l.toArray Q U a3 w3) (fun _ _ _ => False)) (pickL l [i]) a w1) : wpMix P l.toArray Q ((i, k) :: U) a w := by
  have hwd : ∀ y, Region.wanted (l.getD i default) y = true := fun y => by unfold Region.wanted; rw [hg]
  refine ⟨_, getD_some hi, fun hw => ⟨fun _ w1 hx => ?_, fun h2 => absurd h2 (by omega)⟩, fun hw => ?_⟩
  · have := h w1 hx
    simp only [pickL, List.map_cons, List.map_nil, wpList] at this
    rw [if_pos hw] at this
    rcases this with this | ⟨_, _, _, hf⟩
    · exact upon_mono (fun _ _ h' => h') (fun e _ _ h' => by cases e <;> first | exact h' | exact h'.elim) (upon_normal this)
    · exact hf.elim
  · rw [hwd] at hw; cases hw

theorem wpList_post {K K' : Act → World → Prop} (hk : ∀ a w, K a w → K' a w) : ∀ (os : List Oper) (a : Act) (w : World), wpList P l.toArray (Exit.then K fun _ _ _ => False) os a w → wpList P l.toArray (Exit.then K' fun _ _ _ => False) os a w
  | [], a, w, h => hk a w h
  | o :: os, a, w, h => by
    have hR : ∀ e a w, Exit.then K (fun _ _ _ => False) e a w → Exit.then K' (fun _ _ _ => False) e a w := fun e a w hh => by cases e <;> first | exact hk a w hh | exact hh
    simp only [wpList] at h ⊢
    split
    · rename_i hw
      rw [if_pos hw] at h
      rcases h with h | ⟨h1, a', w', h2⟩
      · exact .inl (upon_mono (fun a w h => wpList_post hk os a w h) hR h)
      · exact .inr ⟨h1, a', w', hR _ _ _ h2⟩
    · rename_i hw
      rw [if_neg hw] at h
      exact wpList_post hk os _ _ h

theorem plan_mix : ∀ (t : List Seg) (a : Act) (w : World), t.all (segB l) = true → wpPlan P l Q t a w → wpMix P l.toArray Q (planOf t) a w
  | [], a, w, _, h => h
  | .b is :: t, a, w, hB, h => by
    simp only [List.all_cons, segB, Bool.and_eq_true] at hB
    exact mix_calm 0 (by omega) (C := fun _ => True) (fun _ _ => trivial) is a hB.1 (wpQuiet_post (fun a1 h1 => plan_mix t a1 w hB.2 h1) _ _ h)
  | .q is :: t, a, w, hB, h => by
    simp only [List.all_cons, segB, Bool.and_eq_true] at hB
    exact mix_calm 1 (by omega) (C := fun w' => ∃ d, w' = wext w d) (fun w' h => grown_iff.2 (h.resolve_left (by omega))) is a hB.1 (wpQuiet_post (fun a1 h1 => plan_mix t a1 w hB.2 h1) _ _ h)
  | .l i k :: t, a, w, hB, h => by
    simp only [List.all_cons, segB, Bool.and_eq_true, decide_eq_true_eq, Option.isNone_iff_eq_none] at hB
    exact mix_loud hB.1.1.1 hB.1.1.2 hB.1.2 fun w1 hx => wpList_post (fun a3 w3 h3 => ⟨h3.1, plan_mix t a3 w3 hB.2 h3.2⟩) _ _ _ (h w1 hx)

/-- The Bool of such a region. -/
def planB (l : List Oper) (t : List Seg) : Bool :=
  let U := planOf t
  Region.noSelect l.toArray && t.all (segB l) && decide (U.length = l.length) && ((List.range l.length).all fun j => U.any fun x => x.1 == j) &&
    (U.all fun x => oneB1 l.toArray x) && pairB (relB l.toArray ((U.map (·.1)).foldl (closeStep l.toArray) [])) U

theorem region_mix {id : Nat} {a : Act} {w : World} (t : List Seg) (hm : P.follows .mixedOrders = true) (hB : planB l t = true)
    (h : wpPlan P l Q t a w) : (Code.region id l.toArray true).wp P Q a w := by
  simp only [planB, Bool.and_eq_true, decide_eq_true_eq] at hB
  obtain ⟨⟨⟨⟨⟨h1, h2⟩, h4⟩, h5⟩, h6⟩, h7⟩ := hB
  refine wp_region_any hm ?_
  refine mix_any (n := l.toArray.size) h1 _ (planOf t) _ a w (by simpa using h4) (by simp) ?_ ?_ (pairB_ok h7) (fun x hx => List.all_eq_true.1 h6 x hx) (plan_mix t a w h2 h) _ (Ext.drew (Ext.refl w))
  · intro j hj
    rw [getD_replicate_false] at hj; cases hj
  · intro j hj
    rw [getD_replicate_false]
    simp only [true_iff]
    have := List.all_eq_true.1 h5 j (List.mem_range.2 (by simpa using hj))
    obtain ⟨x, hx, hx2⟩ := List.any_eq_true.1 this
    exact ⟨x.2, by rw [beq_iff_eq] at hx2; rw [← hx2]; exact hx⟩
end
end Go.Proofs.Ytfaekfdngkpkdaa
/- The document's memory: Store, Same. -/
namespace Go.Proofs.Ytfaekfdngkpkdaa
set_option linter.unusedVariables false
set_option linter.unusedSimpArgs false
open Go.RowKit
attribute [local go_sem] wext_cell wext_frozen wext_heap alloc_cell alloc_frozen alloc_heap setCell_cell objCell_cells objFrozen_cells

def EndStore (B : Int) (S' : List (Int × Int)) (ta : Option Addr) (k tc : Nat) (w : World) (e : Ending) (w' : World) : Prop :=
  ∃ sa sc, e = .returned (.tuple #[.agg #[.int .i64 B, .slice sa S'.length sc, .slice ta k tc], .int .i64 0]) ∧ SAt w' sa sc S' ∧ Ext w w'
set_option maxHeartbeats 2000000 in
set_option maxRecDepth 20000 in
theorem rStore_c (B : Int) (hB : 14 ≤ B ∧ B ≤ 22) (sa ta : Option Addr) (S : List (Int × Int)) (k sc tc : Nat) (a x : Int) (w : World) (h : SAt w sa sc S) (hl : S.length ≤ 1000000) (h0 : 0 ≤ a) (h1 : a ≤ 18446744073709551615) (he : errM B a = 0) :
    Calls Try.prog 60 #[.agg #[.int .i64 B, .slice sa S.length sc, .slice ta k tc], .int .u64 a, .int .u64 x] w (EndStore B (setL a x false S) ta k tc w) := by
  have hp := fun w h => rPeek_c B hB sa ta S sc k tc a w h hl h0 h1
  rw [if_pos he, he] at hp
  have HP := Lib.hid hp
  have HQ := Lib.hid (fun w h => rSet_c B sa ta S k sc tc a x w h hl)
  have HS := Lib.hid h
  generalize hE : EndStore B (setL a x false S) ta k tc w = E
  have HE := Lib.hid hE
  generalize wordL a S = y at HP
  clear hE hp he h hB
  go_enter Try.func60, Try.ntmps60
  go_wp2_with (first | (go_at_call 109; refine (HP.out _ (HS.out.ext (by repeat (first | exact Ext.refl _ | assumption | refine Ext.alloc ?_ _ | refine Ext.drew ?_ | refine Ext.setCell ?_ (by first | (simp; done) | (dsimp only; omega)) _ | refine Ext.trans ?_ (by assumption))))).mono ?_; rintro e w1 ⟨rfl, hb1⟩; have ⟨hc, hf, hh, hs⟩ := hb1.facts; try simp only [World.size_alloc, World.size_setCell, World.size_drew] at hs) | (go_at_call 110; refine (HQ.out _ (HS.out.ext (Ext.trans (by repeat (first | exact Ext.refl _ | assumption | refine Ext.alloc ?_ _ | refine Ext.drew ?_ | refine Ext.setCell ?_ (by first | (simp; done) | (dsimp only; omega)) _ | refine Ext.trans ?_ (by assumption))) hb1))).mono ?_; rintro e w2 ⟨sa2, sc2, rfl, hs2, hb2⟩; have ⟨hc2, hf2, hh2, hz2⟩ := hb2.facts))
  have A1 := (hb1.block (w.heap.size + 1) (by simp)).trans (alloc_same1 ..)
  have A2 := (hb2.block _ (heap_lt A1)).trans A1
  have E2 : Ext w w2 := Ext.trans (Ext.trans (by repeat (first | exact Ext.refl _ | assumption | refine Ext.alloc ?_ _ | refine Ext.drew ?_ | refine Ext.setCell ?_ (by first | (simp; done) | (dsimp only; omega)) _ | refine Ext.trans ?_ (by assumption))) hb1) hb2
  refine post_gen (fun U => U.heap[w.heap.size + 1]? = some (.cells #[.int .i64 B, .slice sa2 (setL a x false S).length sc2, .slice ta k tc] 34 (0, 0)) ∧ SAt U sa2 sc2 (setL a x false S) ∧ Ext w U) ⟨setCell_heap_same (setCell_heap_same (setCell_heap_same A2)), ?_, Ext.setCell (Ext.setCell (Ext.setCell E2 (by simp) _) (by simp) _) (by simp) _⟩ ?_
  · refine Owns.keep hs2 fun g hg => ?_
    obtain ⟨c, hc'⟩ := Owns.heap hs2 g hg
    have hne : w.heap.size + 1 ≠ g := fun e => by
      rw [← e, A2] at hc'
      simp only [Option.some.injEq, Obj.cells.injEq] at hc'
      exact absurd hc'.2.1 (by decide)
    rw [setCell_heap _ _ _ _ _ hne, setCell_heap _ _ _ _ _ hne, setCell_heap _ _ _ _ _ hne]
  clear hc hf hh hs hb1 hc2 hf2 hh2 hz2 hb2 A1 A2 E2 hs2
  rintro U ⟨m3, s3, e3⟩
  have v0 := (heap_cell m3 0).trans rfl
  have v1 := (heap_cell m3 1).trans rfl
  have v2 := (heap_cell m3 2).trans rfl
  have HE3 := Lib.hid e3
  have HS3 := Lib.hid s3
  clear m3 e3 s3
  refine bodyPost_ret (by simp [results, Try.results60, go_sem, ↓IntWalk.iteOmega, *]; try rfl) rfl (by rw [← HE.out]; exact ⟨sa2, sc2, rfl, HS3.out, HE3.out⟩)

/-- Words, as a slice of any place has them. -/
def WsAt (w : World) (a : Option Addr) (T : List Int) : Prop := ∀ i, i < T.length → ∃ g o, a = some ⟨g, o, none⟩ ∧ g < w.heap.size ∧ w.cell? ⟨g, o + i, none⟩ = some (.int .u64 (T.getD i 0))
theorem TrAt.ws {w : World} {ta : Option Addr} {tc : Nat} {T : List Int} (h : TrAt w ta tc T) : WsAt w ta T := fun i hi => by
  obtain ⟨g, hg⟩ : ∃ g, ta = some ⟨g, 0, none⟩ := by
    rcases h.2 with ⟨h1, h0⟩ | ⟨g, _, _, he, _⟩
    · omega
    · exact ⟨g, by injection he⟩
  subst hg
  exact ⟨g, 0, rfl, h.lt g rfl, by rw [Nat.zero_add]; exact h.cells (g := g) rfl i _ (by simp [List.getD, hi])⟩
theorem WsAt.ext {U V : World} {a : Option Addr} {T : List Int} (h : WsAt U a T) (k : Ext U V) : WsAt V a T := fun i hi => by
  obtain ⟨g, o, h1, h2, h3⟩ := h i hi
  exact ⟨g, o, h1, Nat.lt_of_lt_of_le h2 k.size, k.someCell h3⟩
set_option maxHeartbeats 2000000 in
theorem rSame_c (a b : Option Addr) (T K : List Int) (ac bc : Nat) (w : World) (ha : WsAt w a T) (hb : WsAt w b K) (hl : T.length ≤ 1000000) (hk : K.length ≤ 1000000) :
    Calls Try.prog 78 #[.slice a T.length ac, .slice b K.length bc] w fun e w' => e = .returned (.bool (decide (T = K))) ∧ Ext w w' := by
  have HA := Lib.hid ha
  have HB := Lib.hid hb
  clear ha hb
  obtain ⟨r, hr⟩ : ∃ r, decide (T = K) = r := ⟨_, rfl⟩
  rw [hr]
  have HR := Lib.hid hr
  clear hr
  by_cases hq : T.length = K.length
  case neg =>
    have e1 : ((T.length : Int) != (K.length : Int)) = true := by rw [bne_iff_ne]; omega
    have : r = false := by rw [← HR.out]; simp; intro e; rw [e] at hq; exact hq rfl
    subst this
    clear hq
    go_enter Try.func78, Try.ntmps78
    go_wp2
    go_ret
    exact ⟨rfl, (by repeat (first | exact Ext.refl _ | assumption | refine Ext.alloc ?_ _ | refine Ext.drew ?_ | refine Ext.setCell ?_ (by first | (simp; done) | (dsimp only; omega)) _ | refine Ext.trans ?_ (by assumption)))⟩
  have e1 : ((T.length : Int) != (K.length : Int)) = false := by rw [hq]; simp
  have HQ := Lib.hid hq
  have hfull : Hid (r = decide (T.drop 0 = K.drop 0)) := Lib.hid (by rw [← HR.out]; simp)
  clear hq
  generalize hE : (fun (e : Ending) (w' : World) => e = .returned (.bool r) ∧ Ext w w') = E
  have HE := Lib.hid hE
  clear hE
  go_enter Try.func78, Try.ntmps78
  go_wp2
  clear e1
  go_loopw [5] (fun i wr => ∃ j : Nat, j ≤ T.length ∧ i = .int .i64 j ∧ Hid (Ext w wr ∧ r = decide (T.drop j = K.drop j))) (fun i _ => T.length - (intOf i).toNat)
  case atStart => exact ⟨0, by omega, rfl, Lib.hid ⟨Ext.refl _, hfull.out⟩⟩
  case round =>
    obtain ⟨j, hj, rfl, hR⟩ := hrel
    by_cases hlt : j < T.length
    · have hlt2 : j < K.length := by rw [← HQ.out]; exact hlt
      obtain ⟨g1, o1, rfl, hg1, d1⟩ := (HA.out.ext hR.out.1) j hlt
      obtain ⟨g2, o2, rfl, hg2, d2⟩ := (HB.out.ext hR.out.1) j hlt2
      have hd : ∀ L : List Int, j < L.length → L.drop j = L.getD j 0 :: L.drop (j + 1) := fun L h => by
        rw [List.drop_eq_getElem_cons h]
        congr 1
        simp [List.getD, h]
      have hst : r = (decide (T.getD j 0 = K.getD j 0) && decide (T.drop (j + 1) = K.drop (j + 1))) := by
        rw [hR.out.2, hd T hlt, hd K hlt2]; simp [List.cons.injEq]
      generalize T.getD j 0 = x at d1 hst
      generalize K.getD j 0 = y at d2 hst
      by_cases hxy : x = y
      · have HT : Hid (r = decide (T.drop (j + 1) = K.drop (j + 1))) := Lib.hid (by rw [hst]; simp [hxy])
        have hne : (x != y) = false := by simpa using hxy
        clear hst hd hxy
        go_upto_region 6 with (fail)
        refine region_ext (by kernel_rfl) (by kernel_rfl) ?_; (repeat (go_big_quiet_step (fail))); refine wpQuiet_nil ?_; intro w1 hb; have ⟨hc, hf, hh, hs⟩ := hb.facts; try simp only [World.size_alloc, World.size_setCell, World.size_drew] at hs
        go_wp2
        refine ⟨⟨j + 1, by omega, by go_num, Lib.hid ⟨hR.out.1.trans (by repeat (first | exact Ext.refl _ | assumption | refine Ext.alloc ?_ _ | refine Ext.drew ?_ | refine Ext.setCell ?_ (by first | (simp; done) | (dsimp only; omega)) _ | refine Ext.trans ?_ (by assumption))), HT.out⟩⟩, by simp [intOf]; omega⟩
      · have HT : Hid (r = false) := Lib.hid (by rw [hst]; simp [hxy])
        have hne : (x != y) = true := by simpa using hxy
        clear hst hd hxy
        go_upto_region 6 with (fail)
        refine region_ext (by kernel_rfl) (by kernel_rfl) ?_; (repeat (go_big_quiet_step (fail))); refine wpQuiet_nil ?_; intro w1 hb; have ⟨hc, hf, hh, hs⟩ := hb.facts; try simp only [World.size_alloc, World.size_setCell, World.size_drew] at hs
        go_wp2
        all_goals
          (try go_ret)
          rw [← HE.out]
          exact ⟨by rw [HT.out]; rfl, hR.out.1.trans (by repeat (first | exact Ext.refl _ | assumption | refine Ext.alloc ?_ _ | refine Ext.drew ?_ | refine Ext.setCell ?_ (by first | (simp; done) | (dsimp only; omega)) _ | refine Ext.trans ?_ (by assumption)))⟩
    · have HT : Hid (r = true) := Lib.hid (by rw [hR.out.2, List.drop_of_length_le (by omega), List.drop_of_length_le (by have := HQ.out; omega)]; simp)
      go_wp2
      all_goals
        (try go_ret)
        rw [← HE.out]
        exact ⟨by rw [HT.out]; rfl, hR.out.1.trans (by repeat (first | exact Ext.refl _ | assumption | refine Ext.alloc ?_ _ | refine Ext.drew ?_ | refine Ext.setCell ?_ (by first | (simp; done) | (dsimp only; omega)) _ | refine Ext.trans ?_ (by assumption)))⟩
end Go.Proofs.Ytfaekfdngkpkdaa
/- Bits of a word, by division. Own text. -/
namespace Go.Proofs.Ytfaekfdngkpkdaa
open Go.RowKit

theorem bits_bit (n i : Nat) (hn : n < 18446744073709551616) (hi : i < 64) : bits BinOp.and IntKind.u64 (n : Int) ((2 ^ i : Nat) : Int) = ((n / 2 ^ i % 2 * 2 ^ i : Nat) : Int) := by
  have hp : 2 ^ i < 18446744073709551616 := by
    have : (2 : Nat) ^ i ≤ 2 ^ 63 := Nat.pow_le_pow_right (by omega) (by omega)
    omega
  rw [u64_and_nat n (2 ^ i) hn hp, nat_bit]

theorem bit_ne (n i : Nat) (hn : n < 18446744073709551616) (hi : i < 64) : (bits BinOp.and IntKind.u64 (n : Int) ((2 ^ i : Nat) : Int) != 0) = bitB n i := by
  rw [bits_bit n i hn hi]
  unfold bitB pow2
  rw [Int.toNat_natCast]
  have h2 : 0 < 2 ^ i := Nat.pow_pos (by omega)
  have e : ((n : Int) / ((2 ^ i : Nat) : Int) % 2) = ((n / 2 ^ i % 2 : Nat) : Int) := by simp
  rw [e]
  have h3 : n / 2 ^ i % 2 = 0 ∨ n / 2 ^ i % 2 = 1 := by omega
  rcases h3 with h | h
  · rw [h]; simp
  · rw [h]
    have : ¬ (((1 * 2 ^ i : Nat) : Int) = 0) := by omega
    rw [Bool.eq_iff_iff]
    simp only [bne_iff_ne, ne_eq, this, not_false_eq_true, beq_iff_eq, true_iff]
    rfl

theorem u64_of_wf {x : Int} (h : (Lit.int .u64 x).wf = true) : 0 ≤ x ∧ x ≤ 18446744073709551615 := by
  exact bounds_u64 h
end Go.Proofs.Ytfaekfdngkpkdaa
/- Contracts of the document's fields (dormerref01.Set, With), bit by bit. -/
namespace Go.Proofs.Ytfaekfdngkpkdaa
set_option linter.unusedVariables false
set_option linter.unusedSimpArgs false
open Go.RowKit
attribute [local go_sem] wext_cell wext_frozen wext_heap alloc_cell alloc_frozen alloc_heap setCell_cell objCell_cells objFrozen_cells

/-- the number of so many bits -/
def sumBits (f : Nat → Bool) : Nat → Nat
  | 0 => 0
  | j + 1 => sumBits f j + (if f j then 2 ^ j else 0)
theorem sumBits_lt (f : Nat → Bool) : ∀ n, sumBits f n < 2 ^ n
  | 0 => by simp [sumBits]
  | j + 1 => by
    have := sumBits_lt f j
    unfold sumBits
    rw [Nat.pow_succ]
    split <;> omega
theorem sumBits_testBit (f : Nat → Bool) : ∀ n i, (sumBits f n).testBit i = (decide (i < n) && f i)
  | 0, i => by simp [sumBits]
  | j + 1, i => by
    have hlt := sumBits_lt f j
    unfold sumBits
    cases hf : f j with
    | false =>
      simp only [Bool.false_eq_true, if_false, Nat.add_zero]
      rw [sumBits_testBit f j i]
      by_cases h : i = j
      · subst h; simp [hf]
      · rw [show decide (i < j + 1) = decide (i < j) by rw [decide_eq_decide]; omega]
    | true =>
      simp only [if_true]
      have e : sumBits f j + 2 ^ j = 2 ^ j ||| sumBits f j := by
        rw [nat_join j (2 ^ j) (sumBits f j) (Nat.mod_self _) hlt]; omega
      rw [e, Nat.testBit_or, sumBits_testBit f j i, Nat.testBit_two_pow]
      by_cases h : j = i
      · subst h; simp [hf]
      · rw [show decide (i < j + 1) = decide (i < j) by rw [decide_eq_decide]; omega]
        simp [h]
theorem sumBits_eq {x n : Nat} (h : x < 2 ^ n) : sumBits x.testBit n = x := by
  apply Nat.eq_of_testBit_eq
  intro i
  rw [sumBits_testBit]
  by_cases hi : i < n
  · simp [hi]
  · rw [Nat.testBit_lt_two_pow (Nat.lt_of_lt_of_le h (Nat.pow_le_pow_right (by omega) (by omega)))]; simp
theorem sumBits_congr {f g : Nat → Bool} {n : Nat} (h : ∀ i, i < n → f i = g i) : sumBits f n = sumBits g n := by
  apply Nat.eq_of_testBit_eq
  intro i
  rw [sumBits_testBit, sumBits_testBit]
  by_cases hi : i < n
  · rw [h i hi]
  · simp [hi]
theorem bitB_testBit (x i : Nat) : bitB (x : Int) (i : Int) = x.testBit i := by
  rw [Nat.testBit_eq_decide_div_mod_eq]
  unfold bitB pow2
  rw [Int.toNat_natCast, Bool.eq_iff_iff]
  simp only [beq_iff_eq, decide_eq_true_eq]
  have e : ((x : Int) / ((2 ^ i : Nat) : Int) % 2) = ((x / 2 ^ i % 2 : Nat) : Int) := by simp
  rw [e]
  omega

/-- a word with a field set -/
def setBits (x lo n v : Nat) : Nat → Bool := fun i => if lo ≤ i ∧ i < lo + n then v.testBit (i - lo) else x.testBit i

theorem refIs_c (lo n : Int) (w : World) (h0 : 0 ≤ lo) (h1 : 1 ≤ n) (h2 : lo ≤ 64) (h3 : n ≤ 64 - lo) :
    Calls Try.prog 139 #[.int .i64 lo, .int .i64 n] w fun e w' => e = .returned (.bool true) ∧ Ext w w' := by
  go_enter Try.func139, Try.ntmps139
  go_wp2
  go_ret
  exact ⟨rfl, Ext.refl _⟩

set_option maxHeartbeats 1600000 in
theorem refSet_c (x lo n v : Nat) (w : World) (hx : x ≤ 18446744073709551615) (hv : v ≤ 18446744073709551615) (hn : 1 ≤ n) (hln : lo + n ≤ 64) :
    Calls Try.prog 152 #[.int .u64 (x : Int), .int .i64 (lo : Int), .int .i64 (n : Int), .int .u64 (v : Int)] w fun e w' => e = .returned (.int .u64 ((sumBits (setBits x lo n v) 64 : Nat) : Int)) ∧ Ext w w' := by
  go_enter Try.func152, Try.ntmps152
  go_wp2_with (first | (go_at_call 139; refine (refIs_c _ _ _ (by omega) (by omega) (by omega) (by omega)).mono ?_; rintro e w1 ⟨rfl, hb⟩; have ⟨hc, hf, hh, hs⟩ := hb.facts; try simp only [World.size_alloc, World.size_setCell, World.size_drew] at hs))
  go_loopw [9, 10, 11] (fun o i _ wr => ∃ j : Nat, j ≤ 64 ∧ i = .int .i64 (j : Int) ∧ o = .int .u64 ((sumBits (setBits x lo n v) j : Nat) : Int) ∧ Ext w wr) (fun _ i _ _ => 64 - (intOf i).toNat)
  case atStart => exact ⟨0, by omega, rfl, rfl, hb⟩
  case round =>
    obtain ⟨j, hj, rfl, rfl, hb⟩ := hrel
    have HB := Lib.hid hb
    clear hb hc hf hh
    by_cases hlt : j < 64
    · have s1 := sumBits_lt (setBits x lo n v) (j + 1)
      have s2 : (2 : Nat) ^ (j + 1) ≤ 2 ^ 64 := Nat.pow_le_pow_right (by omega) (by omega)
      have s3 : sumBits (setBits x lo n v) j ≤ sumBits (setBits x lo n v) (j + 1) := by simp only [sumBits]; omega
      have s4 : setBits x lo n v j = true → (pow2 (j : Int) : Int) + (sumBits (setBits x lo n v) j : Nat) = (sumBits (setBits x lo n v) (j + 1) : Nat) := fun h => by
        simp only [sumBits, h, if_true, pow2, Int.toNat_natCast]; omega
      have s5 : setBits x lo n v j = false → sumBits (setBits x lo n v) j = sumBits (setBits x lo n v) (j + 1) := fun h => by
        simp only [sumBits, h, Bool.false_eq_true, if_false, Nat.add_zero]
      have s6 := pow2_pos (j : Int)
      have s7 : sumBits (setBits x lo n v) (j + 1) ≤ 18446744073709551615 := by omega
      clear s1 s2
      have S4 := Lib.hid s4
      have S5 := Lib.hid s5
      clear s4 s5
      have s8 : setBits x lo n v j = true → (sumBits (setBits x lo n v) j : Nat) + (pow2 (j : Int) : Int) ≤ 18446744073709551615 := fun h => by
        have := S4.out h; omega
      by_cases hin : lo ≤ j ∧ j < lo + n
      · obtain ⟨i1, i2⟩ := hin
        have e1 : bitB (v : Int) ((j : Int) - lo) = setBits x lo n v j := by
          rw [show ((j : Int) - lo) = ((j - lo : Nat) : Int) by omega, bitB_testBit]; simp [setBits, i1, i2]
        cases hbit : setBits x lo n v j
        all_goals
          rw [hbit] at e1
          try have s9 := s8 hbit
          clear s8
          go_wp2_with (first | (go_at_call 71; refine (bit_c _ _ _ (by omega) (by omega) (by omega) (by omega)).mono ?_; rintro e w1 ⟨rfl, hb⟩) | (go_at_call 115; refine (power_c _ _ (by omega) (by omega)).mono ?_; rintro e w1 ⟨rfl, hb⟩))
          go_roundw
          case rel => exact ⟨j + 1, by omega, by go_num, by first | rw [S5.out hbit] | rw [← S4.out hbit, Int.add_comm], HB.out.trans (by repeat (first | exact Ext.refl _ | assumption | refine Ext.alloc ?_ _ | refine Ext.drew ?_ | refine Ext.setCell ?_ (by first | (simp; done) | (dsimp only; omega)) _ | refine Ext.trans ?_ (by assumption)))⟩
          case measure => simp [intOf]; omega
      · have e1 : bitB (x : Int) (j : Int) = setBits x lo n v j := by
          rw [bitB_testBit]; simp only [setBits]; rw [if_neg hin]
        have hin2 : j < lo ∨ lo + n ≤ j := by omega
        clear hin
        rcases hin2 with hin2 | hin2
        all_goals
        cases hbit : setBits x lo n v j
        all_goals
          rw [hbit] at e1
          try have s9 := s8 hbit
          clear s8
          go_wp2_with (first | (go_at_call 71; refine (bit_c _ _ _ (by omega) (by omega) (by omega) (by omega)).mono ?_; rintro e w1 ⟨rfl, hb⟩) | (go_at_call 115; refine (power_c _ _ (by omega) (by omega)).mono ?_; rintro e w1 ⟨rfl, hb⟩))
          go_roundw
          case rel => exact ⟨j + 1, by omega, by go_num, by first | rw [S5.out hbit] | rw [← S4.out hbit, Int.add_comm], HB.out.trans (by repeat (first | exact Ext.refl _ | assumption | refine Ext.alloc ?_ _ | refine Ext.drew ?_ | refine Ext.setCell ?_ (by first | (simp; done) | (dsimp only; omega)) _ | refine Ext.trans ?_ (by assumption)))⟩
          case measure => simp [intOf]; omega
    · obtain rfl : j = 64 := by omega
      go_wp2
      go_ret
      exact ⟨rfl, HB.out⟩

/-- a word with a bit set -/
def withN (x i : Nat) (b : Bool) : Nat := sumBits (fun k => if k = i then b else x.testBit k) 64
theorem refWith_c (x i : Nat) (b : Bool) (w : World) (hx : x ≤ 18446744073709551615) (hi : i < 64) :
    Calls Try.prog 140 #[.int .u64 (x : Int), .int .i64 (i : Int), .bool b] w fun e w' => e = .returned (.int .u64 ((withN x i b : Nat) : Int)) ∧ Ext w w' := by
  unfold withN
  cases b
  case false =>
    have hset := fun w => refSet_c x i 1 0 w hx (by omega) (by omega) (by omega)
    have HSET := Lib.hid hset
    clear hset
    go_enter Try.func140, Try.ntmps140
    go_wp2_with (first | (go_at_call 152; refine (HSET.out _).mono ?_; rintro e w1 ⟨rfl, hb⟩))
    go_ret
    refine ⟨?_, hb⟩
    show Ending.returned (Value.int .u64 _) = _
    rw [sumBits_congr (g := fun k => if k = i then false else x.testBit k) (fun k hk => by
      unfold setBits
      by_cases h : k = i
      · subst h; simp
      · rw [if_neg (by omega), if_neg h])]
  case true =>
    have hset := fun w => refSet_c x i 1 1 w hx (by omega) (by omega) (by omega)
    have HSET := Lib.hid hset
    clear hset
    go_enter Try.func140, Try.ntmps140
    go_wp2_with (first | (go_at_call 152; refine (HSET.out _).mono ?_; rintro e w1 ⟨rfl, hb⟩))
    go_ret
    refine ⟨?_, hb⟩
    show Ending.returned (Value.int .u64 _) = _
    rw [sumBits_congr (g := fun k => if k = i then true else x.testBit k) (fun k hk => by
      unfold setBits
      by_cases h : k = i
      · subst h; simp
      · rw [if_neg (by omega), if_neg h])]

end Go.Proofs.Ytfaekfdngkpkdaa
/- Entries: fields, tables, slots, leaves, reserved bits, frames; rights. -/
namespace Go.Proofs.Ytfaekfdngkpkdaa
set_option linter.unusedVariables false
set_option linter.unusedSimpArgs false
open Go.RowKit
attribute [local go_sem] wext_cell wext_frozen wext_heap alloc_cell alloc_frozen alloc_heap setCell_cell objCell_cells objFrozen_cells

theorem maskE {a : Int} (i : Nat) (hi : i < 64) (h0 : 0 ≤ a) (h1 : a ≤ 18446744073709551615) : bits BinOp.and IntKind.u64 a ((2 ^ i - 1 : Nat) : Int) = a % ((2 ^ i : Nat) : Int) := by
  have hp : 2 ^ i - 1 < 18446744073709551616 := by
    have : (2 : Nat) ^ i ≤ 2 ^ 63 := Nat.pow_le_pow_right (by omega) (by omega)
    omega
  have e : a = (a.toNat : Int) := (Int.toNat_of_nonneg h0).symm
  rw [e, u64_and_nat _ _ (by omega) hp, Nat.and_two_pow_sub_one_eq_mod]
  rfl
theorem bitE {a : Int} (i : Nat) (hi : i < 64) (h0 : 0 ≤ a) (h1 : a ≤ 18446744073709551615) : (bits BinOp.and IntKind.u64 a ((2 ^ i : Nat) : Int) != 0) = bitB a i := by
  have e : a = (a.toNat : Int) := (Int.toNat_of_nonneg h0).symm
  rw [e]
  exact bit_ne _ i (by omega) hi

theorem two_pow (n : Int) : (2 : Int) ^ n.toNat = pow2 n := by unfold pow2; simp
theorem fieldNone_c (lo n : Int) (w : World) (h0 : 0 ≤ lo) (h1 : 1 ≤ n) (h2 : lo ≤ 63) (h3 : n ≤ 64 - lo) :
    Calls Try.prog 137 #[.int .i64 lo, .int .i64 n] w fun e w' => e = .returned (.bool false) ∧ Ext w w' := by
  go_enter Try.func137, Try.ntmps137
  go_wp2
  all_goals
    go_ret
    exact ⟨rfl, (by repeat (first | exact Ext.refl _ | assumption | refine Ext.alloc ?_ _ | refine Ext.drew ?_ | refine Ext.setCell ?_ (by first | (simp; done) | (dsimp only; omega)) _ | refine Ext.trans ?_ (by assumption)))⟩
theorem ones_c (n : Int) (w : World) (h0 : 1 ≤ n) (h1 : n ≤ 63) :
    Calls Try.prog 138 #[.int .i64 n] w fun e w' => e = .returned (.int .u64 (pow2 n - 1)) ∧ Ext w w' := by
  go_enter Try.func138, Try.ntmps138
  go_wp2
  all_goals
    go_ret
    refine ⟨?_, (by repeat (first | exact Ext.refl _ | assumption | refine Ext.alloc ?_ _ | refine Ext.drew ?_ | refine Ext.setCell ?_ (by first | (simp; done) | (dsimp only; omega)) _ | refine Ext.trans ?_ (by assumption)))⟩
    have hw : IntKind.u64.wrap (IntKind.u64.wrap ((2 : Int) ^ n.toNat) - 1) = pow2 n - 1 := by
      have := pow2_pos n
      have := pow2_le n h1
      rw [two_pow, IntKind.wrap_u64, IntKind.wrap_u64]; omega
    rw [← hw]; rfl
theorem fieldGet_c (x lo n : Int) (w : World) (hx : 0 ≤ x) (hx1 : x ≤ 18446744073709551615) (h0 : 0 ≤ lo) (h1 : 1 ≤ n) (h2 : lo ≤ 63) (h3 : n ≤ 64 - lo) (h4 : n ≤ 63) :
    Calls Try.prog 112 #[.int .u64 x, .int .i64 lo, .int .i64 n] w fun e w' => e = .returned (.int .u64 (x / pow2 lo % pow2 n)) ∧ Ext w w' := by
  have hm : bits BinOp.and IntKind.u64 (x / pow2 lo) (pow2 n - 1) = x / pow2 lo % pow2 n := by
    have hq0 : 0 ≤ x / pow2 lo := Int.ediv_nonneg hx (by have := pow2_pos lo; omega)
    have hq1 : x / pow2 lo ≤ 18446744073709551615 := by have := Int.ediv_le_self (pow2 lo) hx; omega
    have := maskE (a := x / pow2 lo) n.toNat (by omega) hq0 hq1
    have e : pow2 n - 1 = ((2 ^ n.toNat - 1 : Nat) : Int) := by
      unfold pow2; have : 0 < 2 ^ n.toNat := Nat.pow_pos (by omega); omega
    rw [e, this]; rfl
  have HM := Lib.hid hm
  clear hm
  go_enter Try.func112, Try.ntmps112
  go_wp2_with (first | (go_at_call 137; refine (fieldNone_c _ _ _ h0 h1 h2 h3).mono ?_; rintro e w1 ⟨rfl, hb⟩; have ⟨hc, hf, hh, hs⟩ := hb.facts; try simp only [World.size_alloc, World.size_setCell, World.size_drew] at hs) | (go_at_call 138; refine (ones_c _ _ h1 h4).mono ?_; rintro e w1 ⟨rfl, hb⟩; have ⟨hc, hf, hh, hs⟩ := hb.facts; try simp only [World.size_alloc, World.size_setCell, World.size_drew] at hs))
  go_ret
  refine ⟨?_, (by repeat (first | exact Ext.refl _ | assumption | refine Ext.alloc ?_ _ | refine Ext.drew ?_ | refine Ext.setCell ?_ (by first | (simp; done) | (dsimp only; omega)) _ | refine Ext.trans ?_ (by assumption)))⟩
  rw [← HM.out, ← two_pow lo]; rfl
end Go.Proofs.Ytfaekfdngkpkdaa
/- Entries: tables, slots, leaves, reserved bits, frames; rights. -/
namespace Go.Proofs.Ytfaekfdngkpkdaa
set_option linter.unusedVariables false
set_option linter.unusedSimpArgs false
open Go.RowKit
attribute [local go_sem] wext_cell wext_frozen wext_heap alloc_cell alloc_frozen alloc_heap setCell_cell objCell_cells objFrozen_cells

def tabI (x : Int) : Int := x % 4503599627370496 - x % 4096
theorem tabI_le {x : Int} (h : 0 ≤ x) : 0 ≤ tabI x ∧ tabI x ≤ 4503599627366400 ∧ tabI x % 4096 = 0 ∧ tabI x ≤ x := by unfold tabI; omega
theorem tab_and {x : Int} (h0 : 0 ≤ x) (h1 : x ≤ 18446744073709551615) : bits BinOp.and IntKind.u64 x 4503599627366400 = tabI x := by
  have e : x = (x.toNat : Int) := (Int.toNat_of_nonneg h0).symm
  have hn : ∀ n : Nat, n &&& 4503599627366400 = n % 4503599627370496 - n % 4096 := fun n => by
    have e1 : (4503599627366400 : Nat) = (2 ^ 40 - 1) <<< 12 := by decide
    have e2 : n % 4503599627370496 - n % 4096 = (n >>> 12 &&& (2 ^ 40 - 1)) <<< 12 := by
      rw [Nat.and_two_pow_sub_one_eq_mod, Nat.shiftLeft_eq, Nat.shiftRight_eq_div_pow]
      omega
    rw [e2, e1]
    apply Nat.eq_of_testBit_eq
    intro i
    simp only [Nat.testBit_and, Nat.testBit_shiftLeft, Nat.testBit_shiftRight]
    by_cases hi : 12 ≤ i
    · simp [hi, show 12 + (i - 12) = i by omega]
    · simp [hi]
  rw [e, show (4503599627366400 : Int) = ((4503599627366400 : Nat) : Int) from rfl, u64_and_nat _ _ (by omega) (by omega), hn]
  unfold tabI
  omega
def idxI (a l : Int) : Int := if l = 1 then a / 4096 % 512 else if l = 2 then a / 2097152 % 512 else if l = 3 then a / 1073741824 % 512 else a / 549755813888 % 512
theorem idxI_le (a l : Int) : 0 ≤ idxI a l ∧ idxI a l ≤ 511 := by unfold idxI; split; omega; split; omega; split <;> omega
def slotI (t a l : Int) : Int := tabI t + 8 * idxI a l
theorem slotI_le {t a l : Int} (h : 0 ≤ t) : 0 ≤ slotI t a l ∧ slotI t a l ≤ 4503599627370488 ∧ slotI t a l % 8 = 0 := by
  have := idxI_le a l; have := tabI_le h; unfold slotI; omega
def leafI (x l : Int) : Bool := l == 1 || ((l == 2 || l == 3) && bitB x 7)
def sizeE (l : Int) : Int := if l = 1 then 4096 else if l = 2 then 2097152 else if l = 3 then 1073741824 else 1
def resI (x l B : Int) (nxe : Bool) : Bool := x / pow2 B % pow2 (52 - B) != 0 || (bitB x 63 && !nxe) || (l == 4 && bitB x 7) || (l == 2 && bitB x 7 && x / 8192 % 256 != 0) || (l == 3 && bitB x 7 && x / 8192 % 131072 != 0)
def frameI (x l : Int) : Int := if leafI x l then tabI x - tabI x % sizeE l else tabI x

theorem mask_c (w : World) : Calls Try.prog 113 #[.int .i64 12, .int .i64 40] w fun e w' => e = .returned (.int .u64 4503599627366400) ∧ Ext w w' := by
  have h1 : ∀ w, Calls Try.prog 138 #[.int .i64 40] w fun e w' => e = .returned (.int .u64 1099511627775) ∧ Ext w w' := fun w => ones_c 40 w (by omega) (by omega)
  go_enter Try.func113, Try.ntmps113
  go_wp2_with (first | (go_at_call 137; refine (fieldNone_c _ _ _ (by omega) (by omega) (by omega) (by omega)).mono ?_; rintro e w1 ⟨rfl, hb⟩; have ⟨hc, hf, hh, hs⟩ := hb.facts; try simp only [World.size_alloc, World.size_setCell, World.size_drew] at hs) | (go_at_call 138; refine (h1 _).mono ?_; rintro e w1 ⟨rfl, hb⟩; have ⟨hc, hf, hh, hs⟩ := hb.facts; try simp only [World.size_alloc, World.size_setCell, World.size_drew] at hs))
  go_ret
  exact ⟨rfl, (by repeat (first | exact Ext.refl _ | assumption | refine Ext.alloc ?_ _ | refine Ext.drew ?_ | refine Ext.setCell ?_ (by first | (simp; done) | (dsimp only; omega)) _ | refine Ext.trans ?_ (by assumption)))⟩
theorem entTable_c (x : Int) (w : World) (h0 : 0 ≤ x) (h1 : x ≤ 18446744073709551615) : Calls Try.prog 68 #[.int .u64 x] w fun e w' => e = .returned (.int .u64 (tabI x)) ∧ Ext w w' := by
  have ht := tab_and h0 h1
  go_enter Try.func68, Try.ntmps68
  go_wp2_with (first | (go_at_call 113; refine (mask_c _).mono ?_; rintro e w1 ⟨rfl, hb⟩; have ⟨hc, hf, hh, hs⟩ := hb.facts; try simp only [World.size_alloc, World.size_setCell, World.size_drew] at hs))
  go_ret
  exact ⟨by rw [← ht]; rfl, (by repeat (first | exact Ext.refl _ | assumption | refine Ext.alloc ?_ _ | refine Ext.drew ?_ | refine Ext.setCell ?_ (by first | (simp; done) | (dsimp only; omega)) _ | refine Ext.trans ?_ (by assumption)))⟩
theorem vaShiftE_c (l : Int) (w : World) (h0 : 1 ≤ l) (h1 : l ≤ 4) :
    Calls Try.prog 136 #[.int .i64 l] w fun e w' => e = .returned (.tuple #[.int .i64 (9 * l + 3), .bool true]) ∧ Ext w w' := by
  have : l = 1 ∨ l = 2 ∨ l = 3 ∨ l = 4 := by omega
  rcases this with rfl | rfl | rfl | rfl
  all_goals
    go_enter Try.func136, Try.ntmps136
    go_wp2
    go_ret2
    exact ⟨rfl, (by repeat (first | exact Ext.refl _ | assumption | refine Ext.alloc ?_ _ | refine Ext.drew ?_ | refine Ext.setCell ?_ (by first | (simp; done) | (dsimp only; omega)) _ | refine Ext.trans ?_ (by assumption)))⟩
theorem vaIndexE_c (a l : Int) (w : World) (hl0 : 1 ≤ l) (hl1 : l ≤ 4) (h0 : 0 ≤ a) (h1 : a ≤ 18446744073709551615) : Calls Try.prog 111 #[.int .u64 a, .int .i64 l] w fun e w' => e = .returned (.int .i64 (idxI a l)) ∧ Ext w w' := by
  have hs : ∀ w, Calls Try.prog 136 #[.int .i64 l] w fun e w' => e = .returned (.tuple #[.int .i64 (9 * l + 3), .bool true]) ∧ Ext w w' := fun w => vaShiftE_c l w hl0 hl1
  have hg : ∀ w, Calls Try.prog 112 #[.int .u64 a, .int .i64 (9 * l + 3), .int .i64 9] w fun e w' => e = .returned (.int .u64 (idxI a l)) ∧ Ext w w' := fun w => by
    have := fieldGet_c a (9 * l + 3) 9 w h0 h1 (by omega) (by omega) (by omega) (by omega) (by omega)
    have hl : l = 1 ∨ l = 2 ∨ l = 3 ∨ l = 4 := by omega
    rcases hl with rfl | rfl | rfl | rfl <;> exact this
  have hi := idxI_le a l
  generalize idxI a l = i at hg hi
  obtain ⟨hi0, hi1⟩ := hi
  go_enter Try.func111, Try.ntmps111
  go_wp2_with (first | (go_at_call 136; refine (hs _).mono ?_; rintro e w1 ⟨rfl, hb⟩; have ⟨hc, hf, hh, hs⟩ := hb.facts; try simp only [World.size_alloc, World.size_setCell, World.size_drew] at hs) | (go_at_call 112; refine (hg _).mono ?_; rintro e w1 ⟨rfl, hb⟩; have ⟨hc, hf, hh, hs⟩ := hb.facts; try simp only [World.size_alloc, World.size_setCell, World.size_drew] at hs))
  go_ret
  exact ⟨rfl, (by repeat (first | exact Ext.refl _ | assumption | refine Ext.alloc ?_ _ | refine Ext.drew ?_ | refine Ext.setCell ?_ (by first | (simp; done) | (dsimp only; omega)) _ | refine Ext.trans ?_ (by assumption)))⟩
theorem entSlot_c (t a l : Int) (w : World) (ht0 : 0 ≤ t) (ht1 : t ≤ 18446744073709551615) (hl0 : 1 ≤ l) (hl1 : l ≤ 4) (h0 : 0 ≤ a) (h1 : a ≤ 18446744073709551615) :
    Calls Try.prog 61 #[.int .u64 t, .int .u64 a, .int .i64 l] w fun e w' => e = .returned (.int .u64 (slotI t a l)) ∧ Ext w w' := by
  have hi := fun w => vaIndexE_c a l w hl0 hl1 h0 h1
  have hil := idxI_le a l
  unfold slotI
  generalize idxI a l = i at hi hil
  have ht := fun w => entTable_c t w ht0 ht1
  have htl := tabI_le ht0
  generalize tabI t = b at ht htl
  obtain ⟨hi0, hi1⟩ := hil
  obtain ⟨hb0, hb1, -, -⟩ := htl
  go_enter Try.func61, Try.ntmps61
  go_wp2_with (first | (go_at_call 68; refine (ht _).mono ?_; rintro e w1 ⟨rfl, hb⟩; have ⟨hc, hf, hh, hs⟩ := hb.facts; try simp only [World.size_alloc, World.size_setCell, World.size_drew] at hs) | (go_at_call 111; refine (hi _).mono ?_; rintro e w1 ⟨rfl, hb⟩; have ⟨hc, hf, hh, hs⟩ := hb.facts; try simp only [World.size_alloc, World.size_setCell, World.size_drew] at hs))
  go_ret
  exact ⟨rfl, (by repeat (first | exact Ext.refl _ | assumption | refine Ext.alloc ?_ _ | refine Ext.drew ?_ | refine Ext.setCell ?_ (by first | (simp; done) | (dsimp only; omega)) _ | refine Ext.trans ?_ (by assumption)))⟩
theorem entLeaf_c (x l : Int) (w : World) (h0 : 0 ≤ x) (h1 : x ≤ 18446744073709551615) :
    Calls Try.prog 66 #[.int .u64 x, .int .i64 l] w fun e w' => e = .returned (.bool (leafI x l)) ∧ Ext w w' := by
  have hb : (bits BinOp.and IntKind.u64 x 128 != 0) = bitB x 7 := bitE 7 (by omega) h0 h1
  have : l = 1 ∨ l = 2 ∨ l = 3 ∨ ((l == 1) = false ∧ (l == 2) = false ∧ (l == 3) = false) := by simp only [beq_eq_false_iff_ne]; omega
  unfold leafI
  rcases this with rfl | rfl | rfl | ⟨e1, e2, e3⟩
  case inr.inr.inr =>
    rw [e1, e2, e3]
    go_enter Try.func66, Try.ntmps66
    go_wp2
    go_ret
    exact ⟨rfl, (by repeat (first | exact Ext.refl _ | assumption | refine Ext.alloc ?_ _ | refine Ext.drew ?_ | refine Ext.setCell ?_ (by first | (simp; done) | (dsimp only; omega)) _ | refine Ext.trans ?_ (by assumption)))⟩
  all_goals
    go_enter Try.func66, Try.ntmps66
    go_wp2
    go_ret
    exact ⟨by simp [hb], (by repeat (first | exact Ext.refl _ | assumption | refine Ext.alloc ?_ _ | refine Ext.drew ?_ | refine Ext.setCell ?_ (by first | (simp; done) | (dsimp only; omega)) _ | refine Ext.trans ?_ (by assumption)))⟩
end Go.Proofs.Ytfaekfdngkpkdaa
/- A walk, plainly: its steps, why it ends, rights, level, frame. -/
namespace Go.Proofs.Ytfaekfdngkpkdaa
set_option linter.unusedVariables false
set_option linter.unusedSimpArgs false
open Go.RowKit
attribute [local go_sem] wext_cell wext_frozen wext_heap alloc_cell alloc_frozen alloc_heap setCell_cell objCell_cells objFrozen_cells

abbrev Rt := Bool × Bool × Bool
abbrev Stp := Int × Int × Int
def noRt : Rt := (false, false, false)
def allRt : Rt := (true, true, true)
def andR (r : Rt) (x : Int) : Rt := (r.1 && bitB x 1, r.2.1 && bitB x 2, r.2.2 && !bitB x 63)
def Stp.cells (s : Stp) : List Value := [.int .i64 s.1, .int .u64 s.2.1, .int .u64 s.2.2]
def rowS (L : List Stp) : List Value := L.flatMap Stp.cells
theorem rowS_length (L : List Stp) : (rowS L).length = L.length * 3 := by
  induction L with
  | nil => rfl
  | cons s L ih => simp only [rowS, List.flatMap_cons, List.length_append, List.length_cons, Stp.cells, List.length_nil] at *; omega
theorem rowS_append (L L2 : List Stp) : rowS (L ++ L2) = rowS L ++ rowS L2 := by simp [rowS]
abbrev WRes := Int × Rt × Int × Int
/-- A walk from a level on: its steps; why, rights, level, frame. -/
def walkF (M : Int → Int) (B : Int) (nxe : Bool) (a : Int) : Nat → Int → Rt → List Stp × WRes
  | 0, _, _ => ([], 2, noRt, 0, 0)
  | n + 1, t, r =>
    if errM B (slotI t a ((n : Int) + 1)) = 0 then
      if bitB (M (slotI t a ((n : Int) + 1) / 8)) 0 then
        if resI (M (slotI t a ((n : Int) + 1) / 8)) ((n : Int) + 1) B nxe then ([((n : Int) + 1, slotI t a ((n : Int) + 1), M (slotI t a ((n : Int) + 1) / 8))], 2, noRt, 0, 0)
        else if leafI (M (slotI t a ((n : Int) + 1) / 8)) ((n : Int) + 1) then
          ([((n : Int) + 1, slotI t a ((n : Int) + 1), M (slotI t a ((n : Int) + 1) / 8))], 0, andR r (M (slotI t a ((n : Int) + 1) / 8)), (n : Int) + 1, frameI (M (slotI t a ((n : Int) + 1) / 8)) ((n : Int) + 1))
        else
          ((((n : Int) + 1, slotI t a ((n : Int) + 1), M (slotI t a ((n : Int) + 1) / 8)) : Stp) :: (walkF M B nxe a n (tabI (M (slotI t a ((n : Int) + 1) / 8))) (andR r (M (slotI t a ((n : Int) + 1) / 8)))).1,
            (walkF M B nxe a n (tabI (M (slotI t a ((n : Int) + 1) / 8))) (andR r (M (slotI t a ((n : Int) + 1) / 8)))).2)
      else ([((n : Int) + 1, slotI t a ((n : Int) + 1), M (slotI t a ((n : Int) + 1) / 8))], 1, noRt, 0, 0)
    else ([], 2, noRt, 0, 0)
theorem walkF_bad {M : Int → Int} {B : Int} {nxe : Bool} {a : Int} {n : Nat} {t : Int} {r : Rt} (h : errM B (slotI t a ((n : Int) + 1)) ≠ 0) : walkF M B nxe a (n + 1) t r = ([], 2, noRt, 0, 0) := by
  show (if _ then _ else _) = _
  rw [if_neg h]
theorem walkF_absent {M : Int → Int} {B : Int} {nxe : Bool} {a : Int} {n : Nat} {t : Int} {r : Rt} {s x : Int} (hs : slotI t a ((n : Int) + 1) = s) (hx : M (s / 8) = x) (h : errM B s = 0) (hp : bitB x 0 = false) :
    walkF M B nxe a (n + 1) t r = ([((n : Int) + 1, s, x)], 1, noRt, 0, 0) := by
  subst hs hx
  unfold walkF
  rw [if_pos h, if_neg (by rw [hp]; decide)]
theorem walkF_res {M : Int → Int} {B : Int} {nxe : Bool} {a : Int} {n : Nat} {t : Int} {r : Rt} {s x : Int} (hs : slotI t a ((n : Int) + 1) = s) (hx : M (s / 8) = x) (h : errM B s = 0) (hp : bitB x 0 = true) (hr : resI x ((n : Int) + 1) B nxe = true) :
    walkF M B nxe a (n + 1) t r = ([((n : Int) + 1, s, x)], 2, noRt, 0, 0) := by
  subst hs hx
  unfold walkF
  rw [if_pos h, if_pos hp, if_pos hr]
theorem walkF_leaf {M : Int → Int} {B : Int} {nxe : Bool} {a : Int} {n : Nat} {t : Int} {r : Rt} {s x : Int} (hs : slotI t a ((n : Int) + 1) = s) (hx : M (s / 8) = x) (h : errM B s = 0) (hp : bitB x 0 = true) (hr : resI x ((n : Int) + 1) B nxe = false) (hl : leafI x ((n : Int) + 1) = true) :
    walkF M B nxe a (n + 1) t r = ([((n : Int) + 1, s, x)], 0, andR r x, (n : Int) + 1, frameI x ((n : Int) + 1)) := by
  subst hs hx
  unfold walkF
  rw [if_pos h, if_pos hp, if_neg (by rw [hr]; decide), if_pos hl]
theorem walkF_on {M : Int → Int} {B : Int} {nxe : Bool} {a : Int} {n : Nat} {t : Int} {r : Rt} {s x : Int} (hs : slotI t a ((n : Int) + 1) = s) (hx : M (s / 8) = x) (h : errM B s = 0) (hp : bitB x 0 = true) (hr : resI x ((n : Int) + 1) B nxe = false) (hl : leafI x ((n : Int) + 1) = false) :
    walkF M B nxe a (n + 1) t r = (((n : Int) + 1, s, x) :: (walkF M B nxe a n (tabI x) (andR r x)).1, (walkF M B nxe a n (tabI x) (andR r x)).2) := by
  subst hs hx
  conv => lhs; unfold walkF
  rw [if_pos h, if_pos hp, if_neg (by rw [hr]; decide), if_neg (by rw [hl]; decide)]

theorem stepRow : RowT Try.prog 36 65 3 24 := RowT.of (z := .agg #[.int .i64 0, .int .u64 0, .int .u64 0]) Try.underlying36 (by kernel_rfl) rfl

/-- The three blocks of a walk: where it goes on, what it hands back, its path so far. -/
def Fr (w : World) (p q o : Nat) (lv t : Int) (r : Rt) (sv : Value) : Prop :=
  w.heap[p]? = some (.cells #[.int .i64 lv, .int .u64 t, .bool r.1, .bool r.2.1, .bool r.2.2] 41 (0, 0)) ∧
  w.heap[q]? = some (.cells #[.slice none 0 0, .int .i64 0, .bool false, .bool false, .bool false, .int .i64 0, .int .u64 0] 38 (0, 0)) ∧
  w.heap[o]? = some (.cells #[sv, .int .i64 2, .bool false, .bool false, .bool false, .int .i64 0, .int .u64 0] 38 (0, 0))
theorem Fr.keep {w w' : World} {p q o : Nat} {lv t : Int} {r : Rt} {sv : Value} (h : Fr w p q o lv t r sv) (k1 : w'.heap[p]? = w.heap[p]?) (k2 : w'.heap[q]? = w.heap[q]?) (k3 : w'.heap[o]? = w.heap[o]?) : Fr w' p q o lv t r sv :=
  ⟨k1.trans h.1, k2.trans h.2.1, k3.trans h.2.2⟩
theorem Fr.lt {w : World} {p q o : Nat} {lv t : Int} {r : Rt} {sv : Value} (h : Fr w p q o lv t r sv) : p < w.heap.size ∧ q < w.heap.size ∧ o < w.heap.size := ⟨heap_lt h.1, heap_lt h.2.1, heap_lt h.2.2⟩
theorem Fr.ext {w w' : World} {p q o : Nat} {lv t : Int} {r : Rt} {sv : Value} (h : Fr w p q o lv t r sv) (k : Ext w w') : Fr w' p q o lv t r sv := by
  have ⟨a, b, c⟩ := h.lt
  exact h.keep (k.block _ a) (k.block _ b) (k.block _ c)
/-- A memory's blocks are none of another type. -/
theorem MemAt.apart {w : World} {mb : Nat} {F : List Nat} {B : Int} {M : Int → Int} {T : List Int} (h : MemAt w mb F B M T) {b : Nat} {c : Array Value} {e : TypeId} (hb : w.heap[b]? = some (.cells c e (0, 0)))
    (h1 : e ≠ 187) (h2 : e ≠ 23) (h3 : e ≠ 191) : b ∉ F := by
  obtain ⟨pb, tv, es, clock, PL, p1, p2, p3, p4, p5, p6, p7, p8, p9, rfl, p10⟩ := h
  intro hm
  simp only [List.mem_cons, List.mem_append, Option.mem_toList, List.mem_map] at hm
  rcases hm with rfl | rfl | hm | ⟨y, hy, rfl⟩
  · rw [hb] at p1; simp only [Option.some.injEq, Obj.cells.injEq] at p1; exact h1 p1.2.1
  · rw [hb] at p2; cases p2
  · obtain ⟨c', hc⟩ := p9.heap b hm
    rw [hb] at hc; simp only [Option.some.injEq, Obj.cells.injEq] at hc; exact h2 hc.2.1
  · obtain ⟨c', hc, -⟩ := p6 y hy
    rw [hb] at hc; simp only [Option.some.injEq, Obj.cells.injEq] at hc; exact h3 hc.2.1

/-- What a walk hands back. -/
def EndWalk (mb : Nat) (F : List Nat) (B : Int) (M : Int → Int) (T : List Int) (q : List Stp × WRes) (w : World) (e : Ending) (w' : World) : Prop :=
  ∃ v, e = .returned (.agg #[v, .int .i64 q.2.1, .bool q.2.2.1.1, .bool q.2.2.1.2.1, .bool q.2.2.1.2.2, .int .i64 q.2.2.2.1, .int .u64 q.2.2.2.2]) ∧ Owns w' 65 3 v q.1.length (rowS q.1) ∧
    EndMem mb F w B M (T ++ q.1.map (·.2.1)) w' ∧ ∀ g, v.ownBlock = some g → w.heap.size ≤ g

theorem store7_heap {w : World} {b : Nat} {c0 c1 c2 c3 c4 c5 c6 v0 v1 v2 v3 v4 v5 v6 : Value} {e : TypeId} {f : Nat × Nat} (h : w.heap[b]? = some (.cells #[c0, c1, c2, c3, c4, c5, c6] e f)) :
    (((((((w.setCell ⟨b, 0, none⟩ v0).setCell ⟨b, 1, none⟩ v1).setCell ⟨b, 2, none⟩ v2).setCell ⟨b, 3, none⟩ v3).setCell ⟨b, 4, none⟩ v4).setCell ⟨b, 5, none⟩ v5).setCell ⟨b, 6, none⟩ v6).heap[b]? = some (.cells #[v0, v1, v2, v3, v4, v5, v6] e f) := by
  have h0 : (w.setCell ⟨b, 0, none⟩ v0).heap[b]? = some (.cells #[v0, c1, c2, c3, c4, c5, c6] e f) := setCell_heap_same h
  have h1 : ((w.setCell ⟨b, 0, none⟩ v0).setCell ⟨b, 1, none⟩ v1).heap[b]? = some (.cells #[v0, v1, c2, c3, c4, c5, c6] e f) := setCell_heap_same h0
  have h2 : (((w.setCell ⟨b, 0, none⟩ v0).setCell ⟨b, 1, none⟩ v1).setCell ⟨b, 2, none⟩ v2).heap[b]? = some (.cells #[v0, v1, v2, c3, c4, c5, c6] e f) := setCell_heap_same h1
  have h3 : ((((w.setCell ⟨b, 0, none⟩ v0).setCell ⟨b, 1, none⟩ v1).setCell ⟨b, 2, none⟩ v2).setCell ⟨b, 3, none⟩ v3).heap[b]? = some (.cells #[v0, v1, v2, v3, c4, c5, c6] e f) := setCell_heap_same h2
  have h4 : (((((w.setCell ⟨b, 0, none⟩ v0).setCell ⟨b, 1, none⟩ v1).setCell ⟨b, 2, none⟩ v2).setCell ⟨b, 3, none⟩ v3).setCell ⟨b, 4, none⟩ v4).heap[b]? = some (.cells #[v0, v1, v2, v3, v4, c5, c6] e f) := setCell_heap_same h3
  have h5 : ((((((w.setCell ⟨b, 0, none⟩ v0).setCell ⟨b, 1, none⟩ v1).setCell ⟨b, 2, none⟩ v2).setCell ⟨b, 3, none⟩ v3).setCell ⟨b, 4, none⟩ v4).setCell ⟨b, 5, none⟩ v5).heap[b]? = some (.cells #[v0, v1, v2, v3, v4, v5, c6] e f) := setCell_heap_same h4
  have h6 : (((((((w.setCell ⟨b, 0, none⟩ v0).setCell ⟨b, 1, none⟩ v1).setCell ⟨b, 2, none⟩ v2).setCell ⟨b, 3, none⟩ v3).setCell ⟨b, 4, none⟩ v4).setCell ⟨b, 5, none⟩ v5).setCell ⟨b, 6, none⟩ v6).heap[b]? = some (.cells #[v0, v1, v2, v3, v4, v5, v6] e f) := setCell_heap_same h5
  exact h6
theorem store7_other {w : World} {b b' : Nat} {v0 v1 v2 v3 v4 v5 v6 : Value} (h : b ≠ b') :
    (((((((w.setCell ⟨b, 0, none⟩ v0).setCell ⟨b, 1, none⟩ v1).setCell ⟨b, 2, none⟩ v2).setCell ⟨b, 3, none⟩ v3).setCell ⟨b, 4, none⟩ v4).setCell ⟨b, 5, none⟩ v5).setCell ⟨b, 6, none⟩ v6).heap[b']? = w.heap[b']? := by
  exact (setCell_heap _ b 6 b' v6 h).trans (store6_other h)
theorem ext7 {a w : World} {b : Nat} {v0 v1 v2 v3 v4 v5 v6 : Value} (h : Ext a w) (hb : a.heap.size ≤ b) :
    Ext a (((((((w.setCell ⟨b, 0, none⟩ v0).setCell ⟨b, 1, none⟩ v1).setCell ⟨b, 2, none⟩ v2).setCell ⟨b, 3, none⟩ v3).setCell ⟨b, 4, none⟩ v4).setCell ⟨b, 5, none⟩ v5).setCell ⟨b, 6, none⟩ v6) :=
  Ext.setCell (Ext.setCell (Ext.setCell (Ext.setCell (Ext.setCell (Ext.setCell (Ext.setCell h hb _) hb _) hb _) hb _) hb _) hb _) hb _
theorem keeps7 {a w : World} {G : List Nat} {b : Nat} {v0 v1 v2 v3 v4 v5 v6 : Value} (h : Keeps G a w) (hb : a.heap.size ≤ b) :
    Keeps G a (((((((w.setCell ⟨b, 0, none⟩ v0).setCell ⟨b, 1, none⟩ v1).setCell ⟨b, 2, none⟩ v2).setCell ⟨b, 3, none⟩ v3).setCell ⟨b, 4, none⟩ v4).setCell ⟨b, 5, none⟩ v5).setCell ⟨b, 6, none⟩ v6) :=
  Keeps.setCell (Keeps.setCell (Keeps.setCell (Keeps.setCell (Keeps.setCell (Keeps.setCell (Keeps.setCell h (.inr hb) _) (.inr hb) _) (.inr hb) _) (.inr hb) _) (.inr hb) _) (.inr hb) _) (.inr hb) _
theorem Fr.facts {w : World} {p q o : Nat} {lv t : Int} {r : Rt} {sv : Value} (h : Fr w p q o lv t r sv) :
    (w.cell? ⟨p, 0, none⟩ = some (.int .i64 lv) ∧ w.cell? ⟨p, 1, none⟩ = some (.int .u64 t) ∧ w.cell? ⟨p, 2, none⟩ = some (.bool r.1) ∧ w.cell? ⟨p, 3, none⟩ = some (.bool r.2.1) ∧ w.cell? ⟨p, 4, none⟩ = some (.bool r.2.2) ∧ ∀ i, w.frozen? ⟨p, i, none⟩ = false) ∧
    (w.cell? ⟨q, 0, none⟩ = some (.slice none 0 0) ∧ w.cell? ⟨q, 1, none⟩ = some (.int .i64 0) ∧ w.cell? ⟨q, 2, none⟩ = some (.bool false) ∧ w.cell? ⟨q, 3, none⟩ = some (.bool false) ∧ w.cell? ⟨q, 4, none⟩ = some (.bool false) ∧ w.cell? ⟨q, 5, none⟩ = some (.int .i64 0) ∧ w.cell? ⟨q, 6, none⟩ = some (.int .u64 0) ∧ ∀ i, w.frozen? ⟨q, i, none⟩ = false) ∧
    (w.cell? ⟨o, 0, none⟩ = some sv ∧ w.cell? ⟨o, 1, none⟩ = some (.int .i64 2) ∧ w.cell? ⟨o, 2, none⟩ = some (.bool false) ∧ w.cell? ⟨o, 3, none⟩ = some (.bool false) ∧ w.cell? ⟨o, 4, none⟩ = some (.bool false) ∧ w.cell? ⟨o, 5, none⟩ = some (.int .i64 0) ∧ w.cell? ⟨o, 6, none⟩ = some (.int .u64 0) ∧ ∀ i, w.frozen? ⟨o, i, none⟩ = false) := by
  obtain ⟨h1, h2, h3⟩ := h
  exact ⟨⟨(heap_cell h1 0).trans rfl, (heap_cell h1 1).trans rfl, (heap_cell h1 2).trans rfl, (heap_cell h1 3).trans rfl, (heap_cell h1 4).trans rfl, fun i => by rw [frozen_heap, h1]; simp [objFrozen]⟩,
    ⟨(heap_cell h2 0).trans rfl, (heap_cell h2 1).trans rfl, (heap_cell h2 2).trans rfl, (heap_cell h2 3).trans rfl, (heap_cell h2 4).trans rfl, (heap_cell h2 5).trans rfl, (heap_cell h2 6).trans rfl, fun i => by rw [frozen_heap, h2]; simp [objFrozen]⟩,
    ⟨(heap_cell h3 0).trans rfl, (heap_cell h3 1).trans rfl, (heap_cell h3 2).trans rfl, (heap_cell h3 3).trans rfl, (heap_cell h3 4).trans rfl, (heap_cell h3 5).trans rfl, (heap_cell h3 6).trans rfl, fun i => by rw [frozen_heap, h3]; simp [objFrozen]⟩⟩
end Go.Proofs.Ytfaekfdngkpkdaa
/- Entries: reserved bits, frames; rights. -/
namespace Go.Proofs.Ytfaekfdngkpkdaa
set_option linter.unusedVariables false
set_option linter.unusedSimpArgs false
open Go.RowKit
attribute [local go_sem] wext_cell wext_frozen wext_heap alloc_cell alloc_frozen alloc_heap setCell_cell objCell_cells objFrozen_cells

theorem rightAndE_c (a b c : Bool) (x : Int) (w : World) (h0 : 0 ≤ x) (h1 : x ≤ 18446744073709551615) :
    Calls Try.prog 65 #[.agg #[.bool a, .bool b, .bool c], .int .u64 x] w fun e w' =>
      e = .returned (.agg #[.bool (a && bitB x 1), .bool (b && bitB x 2), .bool (c && !bitB x 63)]) ∧ Ext w w' := by
  have b1 : (bits BinOp.and IntKind.u64 x 2 != 0) = bitB x 1 := bitE 1 (by omega) h0 h1
  have b2 : (bits BinOp.and IntKind.u64 x 4 != 0) = bitB x 2 := bitE 2 (by omega) h0 h1
  have b3' : (bits BinOp.and IntKind.u64 x 9223372036854775808 != 0) = bitB x 63 := bitE 63 (by omega) h0 h1
  have b3 : (bits BinOp.and IntKind.u64 x 9223372036854775808 == 0) = !bitB x 63 := by rw [← b3']; simp [bne]
  clear b3'
  generalize bitB x 1 = q1 at b1 ⊢
  generalize bitB x 2 = q2 at b2 ⊢
  generalize bitB x 63 = q3 at b3 ⊢
  cases a <;> cases b <;> cases c
  all_goals
    go_enter Try.func65, Try.ntmps65
    go_wp2
    refine bodyPost_ret (by simp [results, Try.results65, go_sem]; rfl) rfl ⟨by simp [b1, b2, b3], by repeat (first | exact Ext.refl _ | apply Ext.alloc)⟩
theorem rightAllE_c (w : World) :
    Calls Try.prog 42 #[] w fun e w' =>
      e = .returned (.agg #[.bool true, .bool true, .bool true]) ∧ Ext w w' := by
  go_enter Try.func42, Try.ntmps42
  go_wp2
  refine bodyPost_ret (by simp [results, Try.results42, go_sem]; rfl) rfl ⟨by simp, by repeat (first | exact Ext.refl _ | apply Ext.alloc)⟩

theorem vaSizeE_c (l : Int) (w : World) (hl0 : 1 ≤ l) (hl1 : l ≤ 3) :
    Calls Try.prog 143 #[.int .i64 l] w fun e w' => e = .returned (.int .u64 (sizeE l)) ∧ Ext w w' := by
  have : l = 1 ∨ l = 2 ∨ l = 3 := by omega
  rcases this with rfl | rfl | rfl
  all_goals
    go_enter Try.func143, Try.ntmps143
    go_wp2_with (first | (go_at_call 136; refine (vaShiftE_c _ _ (by omega) (by omega)).mono ?_; rintro e w1 ⟨rfl, hb⟩; have ⟨hc, hf, hh, hs⟩ := hb.facts; try simp only [World.size_alloc, World.size_setCell, World.size_drew] at hs))
    go_ret
    exact ⟨rfl, (by repeat (first | exact Ext.refl _ | assumption | refine Ext.alloc ?_ _ | refine Ext.drew ?_ | refine Ext.setCell ?_ (by first | (simp; done) | (dsimp only; omega)) _ | refine Ext.trans ?_ (by assumption)))⟩
theorem emod_le {a n : Int} (h : 0 ≤ a) (hn : 0 < n) : a % n ≤ a := by
  have := Int.emod_def a n
  have := Int.mul_nonneg (Int.le_of_lt hn) (Int.ediv_nonneg h (Int.le_of_lt hn))
  omega
theorem vaLowE_c (a l : Int) (w : World) (hl0 : 1 ≤ l) (hl1 : l ≤ 3) (h0 : 0 ≤ a) (h1 : a ≤ 18446744073709551615) :
    Calls Try.prog 129 #[.int .u64 a, .int .i64 l] w fun e w' => e = .returned (.int .u64 (a % sizeE l)) ∧ Ext w w' := by
  have c1 : Calls Try.prog 129 #[.int .u64 a, .int .i64 1] w fun e w' => e = .returned (.int .u64 (a % 4096)) ∧ Ext w w' := by
    have hm : bits BinOp.and IntKind.u64 a 4095 = a % 4096 := maskE 12 (by omega) h0 h1
    have hs : ∀ w, Calls Try.prog 143 #[.int .i64 1] w fun e w' => e = .returned (.int .u64 4096) ∧ Ext w w' := fun w => vaSizeE_c 1 w (by omega) (by omega)
    go_enter Try.func129, Try.ntmps129
    go_wp2_with (first | (go_at_call 143; refine (hs _).mono ?_; rintro e w1 ⟨rfl, hb⟩; have ⟨hc, hf, hh, hs⟩ := hb.facts; try simp only [World.size_alloc, World.size_setCell, World.size_drew] at hs))
    go_ret
    exact ⟨rfl, (by repeat (first | exact Ext.refl _ | assumption | refine Ext.alloc ?_ _ | refine Ext.drew ?_ | refine Ext.setCell ?_ (by first | (simp; done) | (dsimp only; omega)) _ | refine Ext.trans ?_ (by assumption)))⟩
  have c2 : Calls Try.prog 129 #[.int .u64 a, .int .i64 2] w fun e w' => e = .returned (.int .u64 (a % 2097152)) ∧ Ext w w' := by
    have hm : bits BinOp.and IntKind.u64 a 2097151 = a % 2097152 := maskE 21 (by omega) h0 h1
    have hs : ∀ w, Calls Try.prog 143 #[.int .i64 2] w fun e w' => e = .returned (.int .u64 2097152) ∧ Ext w w' := fun w => vaSizeE_c 2 w (by omega) (by omega)
    go_enter Try.func129, Try.ntmps129
    go_wp2_with (first | (go_at_call 143; refine (hs _).mono ?_; rintro e w1 ⟨rfl, hb⟩; have ⟨hc, hf, hh, hs⟩ := hb.facts; try simp only [World.size_alloc, World.size_setCell, World.size_drew] at hs))
    go_ret
    exact ⟨rfl, (by repeat (first | exact Ext.refl _ | assumption | refine Ext.alloc ?_ _ | refine Ext.drew ?_ | refine Ext.setCell ?_ (by first | (simp; done) | (dsimp only; omega)) _ | refine Ext.trans ?_ (by assumption)))⟩
  have c3 : Calls Try.prog 129 #[.int .u64 a, .int .i64 3] w fun e w' => e = .returned (.int .u64 (a % 1073741824)) ∧ Ext w w' := by
    have hm : bits BinOp.and IntKind.u64 a 1073741823 = a % 1073741824 := maskE 30 (by omega) h0 h1
    have hs : ∀ w, Calls Try.prog 143 #[.int .i64 3] w fun e w' => e = .returned (.int .u64 1073741824) ∧ Ext w w' := fun w => vaSizeE_c 3 w (by omega) (by omega)
    go_enter Try.func129, Try.ntmps129
    go_wp2_with (first | (go_at_call 143; refine (hs _).mono ?_; rintro e w1 ⟨rfl, hb⟩; have ⟨hc, hf, hh, hs⟩ := hb.facts; try simp only [World.size_alloc, World.size_setCell, World.size_drew] at hs))
    go_ret
    exact ⟨rfl, (by repeat (first | exact Ext.refl _ | assumption | refine Ext.alloc ?_ _ | refine Ext.drew ?_ | refine Ext.setCell ?_ (by first | (simp; done) | (dsimp only; omega)) _ | refine Ext.trans ?_ (by assumption)))⟩
  rcases (show l = 1 ∨ l = 2 ∨ l = 3 by omega) with rfl | rfl | rfl
  · exact c1
  · exact c2
  · exact c3
theorem vaPageE_c (a l : Int) (w : World) (hl0 : 1 ≤ l) (hl1 : l ≤ 3) (h0 : 0 ≤ a) (h1 : a ≤ 18446744073709551615) :
    Calls Try.prog 100 #[.int .u64 a, .int .i64 l] w fun e w' => e = .returned (.int .u64 (a - a % sizeE l)) ∧ Ext w w' := by
  have hl := fun w => vaLowE_c a l w hl0 hl1 h0 h1
  have g : 0 ≤ a % sizeE l ∧ a % sizeE l ≤ a := by
    have : 0 < sizeE l := by unfold sizeE; repeat (split; omega); omega
    exact ⟨Int.emod_nonneg _ (by omega), emod_le h0 this⟩
  generalize a % sizeE l = q at hl g ⊢
  obtain ⟨g0, g1⟩ := g
  go_enter Try.func100, Try.ntmps100
  go_wp2_with (first | (go_at_call 129; refine (hl _).mono ?_; rintro e w1 ⟨rfl, hb⟩; have ⟨hc, hf, hh, hs⟩ := hb.facts; try simp only [World.size_alloc, World.size_setCell, World.size_drew] at hs))
  go_ret
  exact ⟨rfl, (by repeat (first | exact Ext.refl _ | assumption | refine Ext.alloc ?_ _ | refine Ext.drew ?_ | refine Ext.setCell ?_ (by first | (simp; done) | (dsimp only; omega)) _ | refine Ext.trans ?_ (by assumption)))⟩
theorem entFrame_c (x l : Int) (w : World) (hl0 : 1 ≤ l) (hl1 : l ≤ 4) (h0 : 0 ≤ x) (h1 : x ≤ 18446744073709551615) :
    Calls Try.prog 67 #[.int .u64 x, .int .i64 l] w fun e w' => e = .returned (.int .u64 (frameI x l)) ∧ Ext w w' := by
  have hf := fun w => entLeaf_c x l w h0 h1
  have ht := fun w => entTable_c x w h0 h1
  have htl := tabI_le h0
  unfold frameI
  cases hq : leafI x l
  · rw [hq] at hf
    generalize tabI x = b at ht ⊢
    go_enter Try.func67, Try.ntmps67
    go_wp2_with (first | (go_at_call 68; refine (ht _).mono ?_; rintro e w1 ⟨rfl, hb⟩; have ⟨hc, hf, hh, hs⟩ := hb.facts; try simp only [World.size_alloc, World.size_setCell, World.size_drew] at hs) | (go_at_call 66; refine (hf _).mono ?_; rintro e w1 ⟨rfl, hb⟩; have ⟨hc, hf, hh, hs⟩ := hb.facts; try simp only [World.size_alloc, World.size_setCell, World.size_drew] at hs))
    go_ret
    exact ⟨by simp, (by repeat (first | exact Ext.refl _ | assumption | refine Ext.alloc ?_ _ | refine Ext.drew ?_ | refine Ext.setCell ?_ (by first | (simp; done) | (dsimp only; omega)) _ | refine Ext.trans ?_ (by assumption)))⟩
  · rw [hq] at hf
    have hl3 : l ≤ 3 := by
      unfold leafI at hq
      simp only [Bool.or_eq_true, beq_iff_eq, Bool.and_eq_true] at hq
      omega
    have hp := fun w => vaPageE_c (tabI x) l w hl0 hl3 htl.1 (by omega)
    generalize tabI x = b at ht hp ⊢
    go_enter Try.func67, Try.ntmps67
    go_wp2_with (first | (go_at_call 68; refine (ht _).mono ?_; rintro e w1 ⟨rfl, hb⟩; have ⟨hc, hf, hh, hs⟩ := hb.facts; try simp only [World.size_alloc, World.size_setCell, World.size_drew] at hs) | (go_at_call 66; refine (hf _).mono ?_; rintro e w1 ⟨rfl, hb⟩; have ⟨hc, hf, hh, hs⟩ := hb.facts; try simp only [World.size_alloc, World.size_setCell, World.size_drew] at hs) | (go_at_call 100; refine (hp _).mono ?_; rintro e w1 ⟨rfl, hb⟩; have ⟨hc, hf, hh, hs⟩ := hb.facts; try simp only [World.size_alloc, World.size_setCell, World.size_drew] at hs))
    go_ret
    exact ⟨by simp, (by repeat (first | exact Ext.refl _ | assumption | refine Ext.alloc ?_ _ | refine Ext.drew ?_ | refine Ext.setCell ?_ (by first | (simp; done) | (dsimp only; omega)) _ | refine Ext.trans ?_ (by assumption)))⟩

end Go.Proofs.Ytfaekfdngkpkdaa
/- Entries: reserved bits. -/
namespace Go.Proofs.Ytfaekfdngkpkdaa
set_option linter.unusedVariables false
set_option linter.unusedSimpArgs false
open Go.RowKit
attribute [local go_sem] wext_cell wext_frozen wext_heap alloc_cell alloc_frozen alloc_heap setCell_cell objCell_cells objFrozen_cells

def gI (x lo n : Int) : Int := x / pow2 lo % pow2 n
theorem fieldGetE_c (x lo n : Int) (w : World) (hx : 0 ≤ x) (hx1 : x ≤ 18446744073709551615) (h0 : 0 ≤ lo) (h1 : 1 ≤ n) (h2 : lo ≤ 63) (h3 : n ≤ 64 - lo) (h4 : n ≤ 63) :
    Calls Try.prog 112 #[.int .u64 x, .int .i64 lo, .int .i64 n] w fun e w' => e = .returned (.int .u64 (gI x lo n)) ∧ Ext w w' := fieldGet_c x lo n w hx hx1 h0 h1 h2 h3 h4
def resJ (x l B : Int) (nxe : Bool) (q7 q63 : Bool) : Bool := gI x B (52 - B) != 0 || (q63 && !nxe) || (l == 4 && q7) || (l == 2 && q7 && gI x 13 8 != 0) || (l == 3 && q7 && gI x 13 17 != 0)
theorem resJ_is (x l B : Int) (nxe : Bool) : resI x l B nxe = resJ x l B nxe (bitB x 7) (bitB x 63) := rfl
theorem entReserved_c (x l B : Int) (nxe : Bool) (w : World) (hl0 : 1 ≤ l) (hl1 : l ≤ 4) (h0 : 0 ≤ x) (h1 : x ≤ 18446744073709551615) (hB0 : 14 ≤ B) (hB1 : B ≤ 22) :
    Calls Try.prog 63 #[.int .u64 x, .int .i64 l, .int .i64 B, .bool nxe] w fun e w' => e = .returned (.bool (resI x l B nxe)) ∧ Ext w w' := by
  have b3 : (bits BinOp.and IntKind.u64 x 9223372036854775808 != 0) = bitB x 63 := bitE 63 (by omega) h0 h1
  have b7 : (bits BinOp.and IntKind.u64 x 128 != 0) = bitB x 7 := bitE 7 (by omega) h0 h1
  have f1 : ∀ w, Calls Try.prog 66 #[.int .u64 x, .int .i64 1] w fun e w' => e = .returned (.bool true) ∧ Ext w w' := fun w => entLeaf_c x 1 w h0 h1
  have f2 : ∀ w, Calls Try.prog 66 #[.int .u64 x, .int .i64 2] w fun e w' => e = .returned (.bool (bitB x 7)) ∧ Ext w w' := fun w => entLeaf_c x 2 w h0 h1
  have f3 : ∀ w, Calls Try.prog 66 #[.int .u64 x, .int .i64 3] w fun e w' => e = .returned (.bool (bitB x 7)) ∧ Ext w w' := fun w => entLeaf_c x 3 w h0 h1
  have f4 : ∀ w, Calls Try.prog 66 #[.int .u64 x, .int .i64 4] w fun e w' => e = .returned (.bool false) ∧ Ext w w' := fun w => entLeaf_c x 4 w h0 h1
  rw [resJ_is]
  generalize bitB x 63 = q63 at *
  generalize bitB x 7 = q7 at *
  rcases (show l = 1 ∨ l = 2 ∨ l = 3 ∨ l = 4 by omega) with rfl | rfl | rfl | rfl
  · have HF := Lib.hid f1
    clear f1 f2 f3 f4 hl0 hl1
    go_enter Try.func63, Try.ntmps63
    go_wp2_with (first | (go_at_call 66; refine (HF.out _).mono ?_; rintro e w1 ⟨rfl, hb⟩) | (go_at_call 112; refine (fieldGetE_c x _ _ _ h0 h1 (by omega) (by omega) (by omega) (by omega) (by omega)).mono ?_; rintro e w1 ⟨rfl, hb⟩))
    all_goals
      go_ret
      exact ⟨by unfold resJ; simp_all, (by repeat (first | exact Ext.refl _ | assumption | refine Ext.alloc ?_ _ | refine Ext.drew ?_ | refine Ext.setCell ?_ (by first | (simp; done) | (dsimp only; omega)) _ | refine Ext.trans ?_ (by assumption)))⟩
  · have HF := Lib.hid f2
    clear f1 f2 f3 f4 hl0 hl1
    go_enter Try.func63, Try.ntmps63
    go_wp2_with (first | (go_at_call 66; refine (HF.out _).mono ?_; rintro e w1 ⟨rfl, hb⟩) | (go_at_call 112; refine (fieldGetE_c x _ _ _ h0 h1 (by omega) (by omega) (by omega) (by omega) (by omega)).mono ?_; rintro e w1 ⟨rfl, hb⟩))
    all_goals
      go_ret
      exact ⟨by unfold resJ; simp_all, (by repeat (first | exact Ext.refl _ | assumption | refine Ext.alloc ?_ _ | refine Ext.drew ?_ | refine Ext.setCell ?_ (by first | (simp; done) | (dsimp only; omega)) _ | refine Ext.trans ?_ (by assumption)))⟩
  · have HF := Lib.hid f3
    clear f1 f2 f3 f4 hl0 hl1
    go_enter Try.func63, Try.ntmps63
    go_wp2_with (first | (go_at_call 66; refine (HF.out _).mono ?_; rintro e w1 ⟨rfl, hb⟩) | (go_at_call 112; refine (fieldGetE_c x _ _ _ h0 h1 (by omega) (by omega) (by omega) (by omega) (by omega)).mono ?_; rintro e w1 ⟨rfl, hb⟩))
    all_goals
      go_ret
      exact ⟨by unfold resJ; simp_all, (by repeat (first | exact Ext.refl _ | assumption | refine Ext.alloc ?_ _ | refine Ext.drew ?_ | refine Ext.setCell ?_ (by first | (simp; done) | (dsimp only; omega)) _ | refine Ext.trans ?_ (by assumption)))⟩
  · have HF := Lib.hid f4
    clear f1 f2 f3 f4 hl0 hl1
    go_enter Try.func63, Try.ntmps63
    go_wp2_with (first | (go_at_call 66; refine (HF.out _).mono ?_; rintro e w1 ⟨rfl, hb⟩) | (go_at_call 112; refine (fieldGetE_c x _ _ _ h0 h1 (by omega) (by omega) (by omega) (by omega) (by omega)).mono ?_; rintro e w1 ⟨rfl, hb⟩))
    all_goals
      go_ret
      exact ⟨by unfold resJ; simp_all, (by repeat (first | exact Ext.refl _ | assumption | refine Ext.alloc ?_ _ | refine Ext.drew ?_ | refine Ext.setCell ?_ (by first | (simp; done) | (dsimp only; omega)) _ | refine Ext.trans ?_ (by assumption)))⟩
end Go.Proofs.Ytfaekfdngkpkdaa
