/- Joined texts, part 14 of what the law stands on: each as its own head says. -/
import Derived.Test.YtkfonacokamfiaaGreatGoz6
import Derived.Test.YtkfonacokamfiaaGreatGoz13
/- A region that draws its order, with several loud operations and ONE allocation that waits for none of them: a plan, walked once. Own text.
  Kinds: 0 blind, 1 quiet, 2 loud (nothing comes ahead of it), 4 the allocation, 5 loud that only lays new memory, 6 loud that keeps what was just allocated. The allocation may come ahead of those of the kinds 5 and 6 that stand before it in the plan: so the plan goes on from any block with the new object in it. -/
namespace Go.Proofs.YtkfonacokamfiaaGreat
open Go.RowKit
section
variable {P : Program} {ops : Array Oper} {Q : Exit → Act → World → Prop} {ia B : Nat} {obj : Obj}
def LateP (k B : Nat) (obj : Obj) (w w' : World) : Prop :=
 B ≤ w'.heap.size ∧ (k = 5 → Ext w w') ∧ (k = 6 → ∀ b, B ≤ b → w.heap[b]? = some obj → w'.heap[b]? = some obj)
theorem LateP.keep {k B : Nat} {obj : Obj} {w w' : World} (h : LateP k B obj w w') (hk : k = 5 ∨ k = 6) {b : Nat} (hb : B ≤ b) (ho : w.heap[b]? = some obj) : w'.heap[b]? = some obj := by
 rcases hk with hk | hk
 ·rw [(h.2.1 hk).block b (Array.getElem?_eq_some_iff.1 ho).1]; exact ho
 ·exact h.2.2 hk b hb ho
def ptrTo (b : Nat) : Value := .pointer (some ⟨b, 0, none⟩)
def wpMixA (P : Program) (ops : Array Oper) (Q : Exit → Act → World → Prop) (B : Nat) (obj : Obj) : List (Nat × Nat) → Act → World → Prop
 | [], a, w => ∀ w1, Ext w w1 → Q .normal a w1
 | (i, k) :: U, a, w => ∃ o, ops[i]? = some o ∧
  (k = 4 → ∀ b w1, Ext w w1 → B ≤ b → w1.heap[b]? = some obj → wpMixA P ops Q B obj U (a.put o.dst (ptrTo b)) w1) ∧
  (k ≠ 4 → 
  (Region.wanted o (yielded ops a.tmps) = true →
   (2 ≤ k → ∀ w1, Ext w w1 → o.wp P a w1 (fun a' w' => LateP k B obj w1 w' ∧ wpMixA P ops Q B obj U a' w') (fun _ _ _ => False)) ∧
   (k < 2 → ∃ v, (∀ w', (k = 0 ∨ Ext w w') → (execOp a.eval o).run P w' = .ok (.value v) w') ∧ wpMixA P ops Q B obj U (a.put o.dst v) w)) ∧
  (Region.wanted o (yielded ops a.tmps) = false → wpMixA P ops Q B obj U (a.put o.dst undef) w))
theorem mixA_cong {x : Nat × Nat} {L L' : List (Nat × Nat)} (a : Act) (w : World) (hB : B ≤ w.heap.size) (h : ∀ a w, B ≤ w.heap.size → wpMixA P ops Q B obj L a w → wpMixA P ops Q B obj L' a w) (hm : wpMixA P ops Q B obj (x :: L) a w) : wpMixA P ops Q B obj (x :: L') a w := by
 obtain ⟨i, k⟩ := x
 obtain ⟨o, ho, h0, h12⟩ := hm
 refine ⟨o, ho, fun hk b w1 hx hb hob => h _ _ (Nat.le_trans hB hx.size) (h0 hk b w1 hx hb hob), fun hk4 => ?_⟩
 obtain ⟨h1, h2⟩ := h12 hk4
 refine ⟨fun hw => ⟨fun hk w1 hx => upon_mono (fun a w hh => ⟨hh.1, h a w hh.1.1 hh.2⟩) (fun _ _ _ hf => hf) ((h1 hw).1 hk w1 hx), fun hk => ?_⟩, fun hw => h _ _ hB (h2 hw)⟩
 obtain ⟨v, a1, a3⟩ := (h1 hw).2 hk
 exact ⟨v, a1, h _ _ hB a3⟩
theorem mixA_swap {q kq i k : Nat} {R : List (Nat × Nat)} {oq oi : Oper} (hsel : Region.noSelect ops = true) (hq : ops[q]? = some oq) (hi : ops[i]? = some oi) (hap : oq.apart ops oi = true) (hkq : kq < 2) (hk : k = 2 ∨ k = 6 → kq = 0) (hk3 : k ≤ 6) (hk33 : k ≠ 3)
  (a : Act) (w : World) (hm : wpMixA P ops Q B obj ((q, kq) :: (i, k) :: R) a w) : wpMixA P ops Q B obj ((i, k) :: (q, kq) :: R) a w := by
 obtain ⟨p1, p2, p3⟩ := Oper.apart_spec hap
 have si := fun cs b => Region.noSelect_spec hsel i oi cs b hi
 have sq := fun cs b => Region.noSelect_spec hsel q oq cs b hq
 have wi : ∀ (a : Act) v, Region.wanted oi (yielded ops (a.put oq.dst v).tmps) = Region.wanted oi (yielded ops a.tmps) := fun a v => wanted_put oi a oq.dst v p1
 have wq : ∀ (a : Act) v, Region.wanted oq (yielded ops (a.put oi.dst v).tmps) = Region.wanted oq (yielded ops a.tmps) := fun a v => wanted_put oq a oi.dst v p3
 have ei : ∀ (a : Act) v, execOp (a.put oq.dst v).eval oi = execOp a.eval oi := fun a v => execOp_put oi si a oq.dst v p1
 have eq : ∀ (a : Act) v, execOp (a.put oi.dst v).eval oq = execOp a.eval oq := fun a v => execOp_put oq sq a oi.dst v p3
 have pc : ∀ (a : Act) v u, (a.put oq.dst v).put oi.dst u = (a.put oi.dst u).put oq.dst v := fun a v u => Act.put_comm a v u p2
 obtain ⟨oq', hq', -, h12⟩ := hm
 obtain ⟨h1, h2⟩ := h12 (by omega)
 obtain rfl : oq' = oq := Option.some.inj (hq'.symm.trans hq)
 -- what the first one leaves, and that it leaves it from any frame that has the second one's value too
 have key : ∃ vq, wpMixA P ops Q B obj ((i, k) :: R) (a.put oq'.dst vq) w ∧ ∀ (u : Value) (D : List Deferred) (w' : World), (kq = 0 ∨ Ext w w') →
   wpMixA P ops Q B obj R ({ (a.put oi.dst u).put oq'.dst vq with defers := D }) w' → wpMixA P ops Q B obj ((q, kq) :: R) ({ a.put oi.dst u with defers := D }) w' := by
  cases hw : Region.wanted oq' (yielded ops a.tmps) with
  | true =>
   obtain ⟨vq, b0, hmix⟩ := (h1 hw).2 hkq
   refine ⟨vq, hmix, fun u D w' hw' hR => ⟨oq', hq, fun h => absurd h (by omega), fun _ => ⟨fun _ => ⟨fun h => absurd h (by omega), fun _ => ⟨vq, fun w2 h0 => ?_, ?_⟩⟩, fun hf => ?_⟩⟩⟩
   ·have := b0 w2 (by
     rcases h0 with h0 | h0
     ·exact .inl h0
     ·rcases hw' with h1 | h1
      ·exact .inl h1
      ·exact .inr (h1.trans h0))
    rw [← eq a u] at this
    exact this
   ·rw [put_defers]; exact hR
   ·exfalso
    have : Region.wanted oq' (yielded ops (a.put oi.dst u).tmps) = false := hf
    rw [wq, hw] at this; cases this
  | false =>
   refine ⟨undef, h2 hw, fun u D w' _ hR => ⟨oq', hq, fun h => absurd h (by omega), fun _ => ⟨fun ht => ?_, fun _ => ?_⟩⟩⟩
   ·exfalso
    have : Region.wanted oq' (yielded ops (a.put oi.dst u).tmps) = true := ht
    rw [wq, hw] at this; cases this
   ·rw [put_defers]; exact hR
 obtain ⟨vq, hmix, hback⟩ := key
 obtain ⟨oi', hi', g0, g12⟩ := hmix
 obtain rfl : oi' = oi := Option.some.inj (hi'.symm.trans hi)
 refine ⟨oi', hi, fun h4 b w1 hx hb hob => ?_, fun h4 => ?_⟩
 ·have hR := g0 h4 b w1 hx hb hob
  rw [pc] at hR
  exact hback (ptrTo b) (a.put oi'.dst (ptrTo b)).defers w1 (.inr hx) (by
   have : (a.put oi'.dst (ptrTo b)).defers = ((a.put oi'.dst (ptrTo b)).put oq'.dst vq).defers := (by cases oi'.dst <;> cases oq'.dst <;> rfl)
   rw [this]; exact hR)
 obtain ⟨g1, g2⟩ := g12 h4
 refine ⟨fun hw => ⟨fun h2 w1 hx => ?_, fun h2 => ?_⟩, fun hw => ?_⟩
 · -- loud
  have hl := (g1 (by rw [wi]; exact hw)).1 h2 w1 hx
  unfold Oper.wp at hl ⊢
  rw [ei] at hl
  generalize (execOp a.eval oi').run P w1 = r at hl ⊢
  have bk : ∀ (u : Value) (D : List Deferred) (w' : World), (LateP k B obj w1 w' ∧ wpMixA P ops Q B obj R ({ (a.put oq'.dst vq).put oi'.dst u with defers := D }) w') →
    LateP k B obj w1 w' ∧ wpMixA P ops Q B obj ((q, kq) :: R) ({ a.put oi'.dst u with defers := D }) w' := fun u D w' hR => by
   refine ⟨hR.1, ?_⟩
   have hR := hR.2
   rw [pc] at hR
   refine hback u D w' ?_ hR
   by_cases h3 : k = 5
   ·exact .inr (hx.trans (‹LateP k B obj w1 w' ∧ _›.1.2.1 h3))
   ·exact .inl (hk (by omega))
  cases r with
  | ok nx w2 =>
   cases nx with
   | value v => exact bk v (a.put oi'.dst v).defers w2 (by have : (a.put oi'.dst v).defers = ((a.put oq'.dst vq).put oi'.dst v).defers := (by cases oi'.dst <;> cases oq'.dst <;> rfl); rw [this]; exact hl)
   | skip => exact bk undef (a.put oi'.dst undef).defers w2 (by have : (a.put oi'.dst undef).defers = ((a.put oq'.dst vq).put oi'.dst undef).defers := (by cases oi'.dst <;> cases oq'.dst <;> rfl); rw [this]; exact hl)
   | defer d =>
    have hl' : LateP k B obj w1 w2 ∧ wpMixA P ops Q B obj R (({ a.put oq'.dst vq with defers := d :: (a.put oq'.dst vq).defers } : Act).put oi'.dst undef) w2 := hl
    rw [put_defers] at hl'
    have hd : (a.put oq'.dst vq).defers = a.defers := by cases oq'.dst <;> rfl
    rw [hd] at hl'
    show LateP k B obj w1 w2 ∧ wpMixA P ops Q B obj ((q, kq) :: R) (({ a with defers := d :: a.defers } : Act).put oi'.dst undef) w2
    rw [put_defers]
    exact bk undef (d :: a.defers) w2 hl'
   | enter f args =>
    exact Calls.mono hl fun e w3 h3 => by
     cases e with
     | returned v => exact bk v (a.put oi'.dst v).defers w3 (by have : (a.put oi'.dst v).defers = ((a.put oq'.dst vq).put oi'.dst v).defers := (by cases oi'.dst <;> cases oq'.dst <;> rfl); rw [this]; exact h3)
     | panicked c => exact h3
     | outgrown => exact h3
   | row rw args => exact Rows.mono hl fun v w3 h3 => bk v (a.put oi'.dst v).defers w3 (by have : (a.put oi'.dst v).defers = ((a.put oq'.dst vq).put oi'.dst v).defers := (by cases oi'.dst <;> cases oq'.dst <;> rfl); rw [this]; exact h3)
   | _ => exact hl
  | halt x w2 =>
   cases x with
   | panic v => exact hl
   | _ => exact hl
 ·obtain ⟨v, c0, hR⟩ := (g1 (by rw [wi]; exact hw)).2 h2
  refine ⟨v, fun w' h0 => ?_, ?_⟩
  ·have := c0 w' h0; rwa [ei] at this
  ·rw [pc] at hR
   exact hback v (a.put oi'.dst v).defers w (.inr (Ext.refl w)) (by
    have : (a.put oi'.dst v).defers = ((a.put oi'.dst v).put oq'.dst vq).defers := (by cases oi'.dst <;> cases oq'.dst <;> rfl)
    rw [this]; exact hR)
 ·have hR := g2 (by rw [wi]; exact hw)
  rw [pc] at hR
  exact hback undef (a.put oi'.dst undef).defers w (.inr (Ext.refl w)) (by
   have : (a.put oi'.dst undef).defers = ((a.put oi'.dst undef).put oq'.dst vq).defers := (by cases oi'.dst <;> cases oq'.dst <;> rfl)
   rw [this]; exact hR)
theorem mixA_early {q kq i : Nat} {R : List (Nat × Nat)} {oq oi : Oper} (hsel : Region.noSelect ops = true) (hq : ops[q]? = some oq) (hi : ops[i]? = some oi) (hap : oq.apart ops oi = true) (hkq : kq = 5 ∨ kq = 6)
  (a : Act) (w : World) (hm : wpMixA P ops Q B obj ((q, kq) :: (i, 4) :: R) a w) : wpMixA P ops Q B obj ((i, 4) :: (q, kq) :: R) a w := by
 obtain ⟨p1, p2, p3⟩ := Oper.apart_spec hap
 have sq := fun cs b => Region.noSelect_spec hsel q oq cs b hq
 have wq : ∀ (a : Act) v, Region.wanted oq (yielded ops (a.put oi.dst v).tmps) = Region.wanted oq (yielded ops a.tmps) := fun a v => wanted_put oq a oi.dst v p3
 have eq : ∀ (a : Act) v, execOp (a.put oi.dst v).eval oq = execOp a.eval oq := fun a v => execOp_put oq sq a oi.dst v p3
 have pc : ∀ (a : Act) v u, (a.put oq.dst v).put oi.dst u = (a.put oi.dst u).put oq.dst v := fun a v u => Act.put_comm a v u p2
 obtain ⟨oq', hq', -, h12⟩ := hm
 obtain rfl : oq' = oq := Option.some.inj (hq'.symm.trans hq)
 obtain ⟨h1, h2⟩ := h12 (by omega)
 refine ⟨oi, hi, fun _ b w1 hx hb hob => ?_, fun h => absurd rfl h⟩
 refine ⟨oq', hq, fun h => absurd h (by omega), fun _ => ⟨fun hw => ⟨fun _ w2 hx2 => ?_, fun h => absurd h (by omega)⟩, fun hw => ?_⟩⟩
 ·rw [wq] at hw
  have hl := (h1 hw).1 (by omega) w2 (hx.trans hx2)
  have hob2 : w2.heap[b]? = some obj := by rw [hx2.block b (Array.getElem?_eq_some_iff.1 hob).1]; exact hob
  unfold Oper.wp at hl ⊢
  rw [eq]
  have bk : ∀ (u : Value) (D : List Deferred) (w' : World), (LateP kq B obj w2 w' ∧ wpMixA P ops Q B obj ((i, 4) :: R) ({ a.put oq'.dst u with defers := D }) w') →
    LateP kq B obj w2 w' ∧ wpMixA P ops Q B obj R ({ (a.put oi.dst (ptrTo b)).put oq'.dst u with defers := D }) w' := fun u D w' hR => by
   refine ⟨hR.1, ?_⟩
   obtain ⟨oi', hi', g0, -⟩ := hR.2
   obtain rfl : oi' = oi := Option.some.inj (hi'.symm.trans hi)
   have := g0 rfl b w' (Ext.refl _) hb (hR.1.keep hkq hb hob2)
   rw [put_defers, pc] at this
   exact this
  have bkv : ∀ (u : Value) (w' : World), (LateP kq B obj w2 w' ∧ wpMixA P ops Q B obj ((i, 4) :: R) (a.put oq'.dst u) w') →
    LateP kq B obj w2 w' ∧ wpMixA P ops Q B obj R ((a.put oi.dst (ptrTo b)).put oq'.dst u) w' := fun u w' hR => by
   refine ⟨hR.1, ?_⟩
   obtain ⟨oi', hi', g0, -⟩ := hR.2
   obtain rfl : oi' = oi := Option.some.inj (hi'.symm.trans hi)
   have := g0 rfl b w' (Ext.refl _) hb (hR.1.keep hkq hb hob2)
   rw [pc] at this
   exact this
  generalize (execOp a.eval oq').run P w2 = r at hl ⊢
  cases r with
  | ok nx w3 =>
   cases nx with
   | value v => exact bkv v w3 hl
   | skip => exact bkv undef w3 hl
   | defer d =>
    have hl' : LateP kq B obj w2 w3 ∧ wpMixA P ops Q B obj ((i, 4) :: R) (({ a with defers := d :: a.defers } : Act).put oq'.dst undef) w3 := hl
    rw [put_defers] at hl'
    have hd : (a.put oi.dst (ptrTo b)).defers = a.defers := by cases oi.dst <;> rfl
    show LateP kq B obj w2 w3 ∧ wpMixA P ops Q B obj R (({ a.put oi.dst (ptrTo b) with defers := d :: (a.put oi.dst (ptrTo b)).defers } : Act).put oq'.dst undef) w3
    rw [put_defers, hd]
    exact bk undef (d :: a.defers) w3 hl'
   | enter f args =>
    exact Calls.mono hl fun e w3 h3 => by
     cases e with
     | returned v => exact bkv v w3 h3
     | panicked c => exact h3
     | outgrown => exact h3
   | row rw args => exact Rows.mono hl fun v w3 h3 => bkv v w3 h3
   | _ => exact hl
  | halt x w3 =>
   cases x with
   | panic v => exact hl
   | _ => exact hl
 ·rw [wq] at hw
  obtain ⟨oi', hi', g0, -⟩ := h2 hw
  obtain rfl : oi' = oi := Option.some.inj (hi'.symm.trans hi)
  have := g0 rfl b w1 hx hb hob
  rw [pc] at this
  exact this
theorem mixA_pull (hsel : Region.noSelect ops = true) {i k : Nat} {oi : Oper} (hk3 : k ≤ 6) (hk33 : k ≠ 3) (hi : ops[i]? = some oi) {post : List (Nat × Nat)} : ∀ (pre : List (Nat × Nat)),
  (∀ q ∈ pre, ((q.2 < 2 ∧ (k = 2 ∨ k = 6 → q.2 = 0)) ∨ (k = 4 ∧ (q.2 = 5 ∨ q.2 = 6))) ∧ ∃ oq, ops[q.1]? = some oq ∧ oq.apart ops oi = true) → ∀ a w, B ≤ w.heap.size → wpMixA P ops Q B obj (pre ++ (i, k) :: post) a w → wpMixA P ops Q B obj ((i, k) :: (pre ++ post)) a w
 | [], _, _, _, _, h => h
 | (q, kq) :: pre, hp, a, w, hB, h => by
  obtain ⟨h12, oq, h3, h4⟩ := hp (q, kq) (List.mem_cons_self ..)
  have hc := mixA_cong a w hB (fun a w hB => mixA_pull hsel hk3 hk33 hi pre (fun x hx => hp x (List.mem_cons_of_mem _ hx)) a w hB) h
  rcases h12 with ⟨h1, h2⟩ | ⟨rfl, h2⟩
  ·exact mixA_swap hsel h3 hi h4 h1 h2 hk3 hk33 a w hc
  ·exact mixA_early hsel h3 hi h4 h2 a w hc
def relA (ops : Array Oper) (cl : List (Nat × List Nat)) (x y : Nat × Nat) : Bool :=
 ((depsOf ops y.1).contains x.1 || (match ops[x.1]?, ops[y.1]? with | some ox, some oy => ox.apart ops oy | _, _ => false)) &&
 !(depsOf ops x.1).contains y.1 && (decide (x.2 < 2) || waitsB cl y.1 x.1 || (y.2 == 4 && (x.2 == 5 || x.2 == 6))) && (!(y.2 == 2 || y.2 == 6) || x.2 == 0 || waitsB cl y.1 x.1) && x.1 != y.1
def oneA1 (ops : Array Oper) (ia : Nat) (x : Nat × Nat) : Bool := ((depsOf ops x.1).all fun d => decide (d < ops.size) && d != x.1) && decide (x.2 ≤ 6) && x.2 != 3 && (x.2 != 4 || (x.1 == ia && ((ops[ia]?).map (·.guard.isNone)).getD false))
theorem mixA_any (hA : ∀ o ρ w', ops[ia]? = some o → (execOp ρ o).run P w' = .ok (.value (ptrTo w'.heap.size)) (w'.alloc obj)) (hsel : Region.noSelect ops = true) (ord : List Nat) : ∀ (n : Nat) (U : List (Nat × Nat)) (seen : Array Bool) (a : Act) (w : World), U.length = n → seen.size = ops.size → Shut ops seen →
  (∀ j, j < ops.size → (seen.getD j false = false ↔ ∃ k, (j, k) ∈ U)) → U.Pairwise (fun x y => relA ops (ord.foldl (closeStep ops) []) x y = true) → (∀ x ∈ U, oneA1 ops ia x = true) →
  B ≤ w.heap.size → wpMixA P ops Q B obj U a w → ∀ w1, Ext w w1 → wpAny P .any ops Q n seen a w1 := by
 intro n
 induction n with
 | zero =>
  intro U seen a w hU hsz _ hin _ _ _ hm w1 hx
  obtain rfl : U = [] := List.length_eq_zero_iff.1 hU
  refine ⟨?_, hm w1 hx⟩
  apply List.eq_nil_iff_forall_not_mem.2
  intro j hj
  obtain ⟨h0, o, ho, _⟩ := mem_ready.1 hj
  obtain ⟨k, hk⟩ := (hin j (Array.getElem?_eq_some_iff.1 ho).1).1 (getD_both h0)
  cases hk
 | succ n ih =>
  intro U seen a w hU hsz hshut hin hpw hone hBw hm w1 hx
  have listed : ∀ j, j < ops.size → (¬ ∃ k, (j, k) ∈ U) → seen.getD j false = true := fun j hj hn => by
   cases h : seen.getD j false with
   | true => rfl
   | false => exact absurd ((hin j hj).1 h) hn
  constructor
  ·intro h0
   exfalso
   match U, hU, hm with
   | (i, k) :: U', _, hm =>
    obtain ⟨o, ho, _⟩ := hm
    have hil : i < ops.size := (Array.getElem?_eq_some_iff.1 ho).1
    have : i ∈ Region.ready .any ops seen := mem_ready.2 ⟨getD_in (by omega) ((hin i hil).2 ⟨k, List.mem_cons_self ..⟩), o, ho, fun e he hb => by
     have h1 := hone (i, k) (List.mem_cons_self ..)
     simp only [oneA1, List.all_eq_true, Bool.and_eq_true, decide_eq_true_eq, bne_iff_ne] at h1
     replace h1 := h1.1.1.1
     have hd : e.on ∈ depsOf ops i := (mem_depsOf ho).2 ⟨e, he, hb, rfl⟩
     refine listed e.on (h1 _ hd).1 fun ⟨k', hk'⟩ => ?_
     rcases List.mem_cons.1 hk' with hk' | hk'
     ·exact (h1 _ hd).2 (Prod.mk.inj hk').1
     ·have := (List.pairwise_cons.1 hpw).1 _ hk'
      simp only [relA, Bool.and_eq_true, Bool.not_eq_true'] at this
      have h2 := this.1.1.1.2
      rw [List.contains_eq_mem] at h2
      simp [hd] at h2⟩
    rw [h0] at this; cases this
  ·intro i hi
   obtain ⟨hun, oi, hoi, hall⟩ := mem_ready.1 hi
   have hil : i < ops.size := (Array.getElem?_eq_some_iff.1 hoi).1
   obtain ⟨k, hk⟩ := (hin i hil).1 (getD_both hun)
   obtain ⟨pre, post, rfl⟩ := List.append_of_mem hk
   have hdeps : ∀ d ∈ depsOf ops i, seen.getD d false = true := fun d hd => by
    obtain ⟨e, he, hb, rfl⟩ := (mem_depsOf hoi).1 hd
    exact hall e he hb
   have hpre : ∀ q ∈ pre, ((q.2 < 2 ∧ (k = 2 ∨ k = 6 → q.2 = 0)) ∨ (k = 4 ∧ (q.2 = 5 ∨ q.2 = 6))) ∧ ∃ oq, ops[q.1]? = some oq ∧ oq.apart ops oi = true := fun q hq => by
    have hrel := (List.pairwise_append.1 hpw).2.2 q hq (i, k) (List.mem_cons_self ..)
    simp only [relA, Bool.and_eq_true, Bool.or_eq_true, Bool.not_eq_true', bne_iff_ne, ne_eq, beq_iff_eq, decide_eq_true_eq] at hrel
    obtain ⟨⟨⟨⟨r1, r2⟩, r3⟩, r4⟩, _⟩ := hrel
    have hqun : seen.getD q.1 false = false := by
     cases h : ops[q.1]? with
     | none =>
      rw [h] at r1
      rcases r1 with r1 | r1
      ·have : q.1 ∈ depsOf ops i := by simpa using r1
       have h1 := hone (i, k) (by simp)
       simp only [oneA1, List.all_eq_true, Bool.and_eq_true, decide_eq_true_eq] at h1
       replace h1 := h1.1.1.1
       have := (h1 _ this).1
       exact (hin q.1 this).2 ⟨q.2, by simp [hq]⟩
      ·cases r1
     | some oq => exact (hin q.1 (Array.getElem?_eq_some_iff.1 h).1).2 ⟨q.2, by simp [hq]⟩
    have hnd : q.1 ∉ depsOf ops i := fun hd => by rw [hdeps _ hd] at hqun; cases hqun
    have hnw : ¬ waitsB (ord.foldl (closeStep ops) []) i q.1 = true := fun hw => by
     rw [waitsB_ok hw seen hshut hdeps] at hqun; cases hqun
    refine ⟨?_, ?_⟩
    ·have r5 : k = 2 ∨ k = 6 → q.2 = 0 := fun h2 => by
      rcases r4 with (r4 | r4) | r4
      ·exfalso; rcases h2 with h2 | h2 <;> simp [h2] at r4
      ·exact r4
      ·exact absurd r4 hnw
     rcases r3 with (r3 | r3) | r3
     ·exact .inl ⟨r3, r5⟩
     ·exact absurd r3 hnw
     ·exact .inr r3
    ·rcases r1 with r1 | r1
     ·exact absurd (by simpa using r1) hnd
     ·cases h : ops[q.1]? with
      | none => rw [h] at r1; cases r1
      | some oq => rw [h, hoi] at r1; exact ⟨oq, rfl, r1⟩
   have hone1 := hone (i, k) hk
   simp only [oneA1, Bool.and_eq_true, decide_eq_true_eq, bne_iff_ne, ne_eq, Bool.or_eq_true, beq_iff_eq] at hone1
   obtain ⟨⟨⟨-, hk3⟩, hk33⟩, hk4⟩ := hone1
   have hpull := mixA_pull hsel hk3 hk33 hoi pre hpre a w hBw hm
   obtain ⟨o', ho', b0, b12⟩ := hpull
   obtain rfl : o' = oi := Option.some.inj (ho'.symm.trans hoi)
   have hsub : (pre ++ post).Sublist (pre ++ (i, k) :: post) := List.Sublist.append_left (List.sublist_cons_self _ _) _
   have cont : ∀ a' w', B ≤ w'.heap.size → wpMixA P ops Q B obj (pre ++ post) a' w' → ∀ w2, Ext w' w2 → wpAny P .any ops Q n (seen.setIfInBounds i true) a' w2 := fun a' w' hB' h' w2 hx2 => by
    refine ih (pre ++ post) _ a' w' (by simp at hU ⊢; omega) (by simp [hsz]) (fun j hj d hd => ?_) (fun j hj => ?_) (hpw.sublist hsub) (fun x hx => hone x (hsub.subset hx)) hB' h' w2 hx2
    ·by_cases hij : i = j
     ·subst hij; exact getD_set_true (hdeps d hd)
     ·rw [getD_set_ne false hij] at hj
      exact getD_set_true (hshut j hj d hd)
    ·by_cases hij : i = j
     ·subst hij
      constructor
      ·intro hf
       exfalso
       have : (seen.setIfInBounds i true).getD i false = true := by simp [show i < seen.size by omega]
       rw [this] at hf; cases hf
      ·rintro ⟨k', hk'⟩
       exfalso
       have hp2 := List.pairwise_append.1 hpw
       rcases List.mem_append.1 hk' with hk' | hk'
       ·have := hp2.2.2 _ hk' (i, k) (List.mem_cons_self ..)
        simp [relA] at this
       ·have := (List.pairwise_cons.1 hp2.2.1).1 _ hk'
        simp [relA] at this
     ·rw [getD_set_ne false hij, hin j hj]
      constructor
      ·rintro ⟨k', hk'⟩
       refine ⟨k', ?_⟩
       rcases List.mem_append.1 hk' with hk' | hk'
       ·exact List.mem_append.2 (.inl hk')
       ·rcases List.mem_cons.1 hk' with hk' | hk'
        ·exact absurd (Prod.mk.inj hk').1.symm hij
        ·exact List.mem_append.2 (.inr hk')
      ·rintro ⟨k', hk'⟩; exact ⟨k', hsub.subset hk'⟩
   unfold wpOp
   simp only [hoi]
   by_cases h4 : k = 4
   ·have hg := hk4.resolve_left (by simp [h4])
    obtain ⟨rfl, hg⟩ := hg
    rw [hoi] at hg
    simp only [Option.map_some, Option.getD_some, Option.isNone_iff_eq_none] at hg
    have hwd : Region.wanted o' (yielded ops a.tmps) = true := by unfold Region.wanted; rw [hg]
    simp only [hwd, if_true]
    refine .inl ?_
    unfold Oper.wp
    rw [hA o' a.eval w1 hoi]
    have hal : (w1.alloc obj).heap[w1.heap.size]? = some obj := by rw [World.alloc]; simp
    exact cont _ _ (Nat.le_trans hBw (Nat.le_trans hx.size (by rw [World.size_alloc]; omega))) (b0 h4 w1.heap.size (w1.alloc obj) (hx.trans ((Ext.refl w1).alloc obj)) (Nat.le_trans hBw hx.size) hal) _ (Ext.refl _)
   obtain ⟨b1, b2⟩ := b12 h4
   cases hw : Region.wanted o' (yielded ops a.tmps) with
   | false =>
    simp only [Bool.false_eq_true, if_false]
    exact cont _ _ hBw (b2 hw) w1 hx
   | true =>
    simp only [if_true]
    refine .inl ?_
    by_cases h2 : 2 ≤ k
    ·exact upon_mono (fun a' w' h' => cont a' w' h'.1.1 h'.2 w' (Ext.refl _)) (fun _ _ _ hf => hf.elim) ((b1 hw).1 h2 w1 hx)
    ·obtain ⟨v, c0, hR⟩ := (b1 hw).2 (by omega)
     unfold Oper.wp
     rw [c0 w1 (.inr hx)]
     exact cont _ _ hBw hR w1 hx
end
def wpPlanA (P : Program) (l : List Oper) (Q : Exit → Act → World → Prop) (B : Nat) (obj : Obj) : List Seg → Act → World → Prop
 | [], a, w => ∀ w1, Ext w w1 → Q .normal a w1
 | .b is :: t, a, w => wpQuiet P l.toArray (fun _ => True) (fun a1 => wpPlanA P l Q B obj t a1 w) (pickL l is) a
 | .q is :: t, a, w => wpQuiet P l.toArray (fun w' => ∃ d, w' = wext w d) (fun a1 => wpPlanA P l Q B obj t a1 w) (pickL l is) a
 | .l i 4 :: t, a, w => ∀ b w1, Ext w w1 → B ≤ b → w1.heap[b]? = some obj → wpPlanA P l Q B obj t (a.put (l.getD i default).dst (ptrTo b)) w1
 | .l i k :: t, a, w => ∀ w1, Ext w w1 → wpList P l.toArray (Exit.then (fun a3 w3 => LateP k B obj w1 w3 ∧ wpPlanA P l Q B obj t a3 w3) (fun _ _ _ => False)) (pickL l [i]) a w1
section
variable {P : Program} {l : List Oper} {Q : Exit → Act → World → Prop} {B ia : Nat} {obj : Obj}
theorem mixA_calm {U : List (Nat × Nat)} (k : Nat) (hk : k < 2) {w : World} {C : World → Prop} (hC : ∀ w', (k = 0 ∨ Ext w w') → C w') : ∀ (is : List Nat) (a : Act), calmB l is = true →
  wpQuiet P l.toArray C (fun a' => wpMixA P l.toArray Q B obj U a' w) (pickL l is) a → wpMixA P l.toArray Q B obj (is.map (·, k) ++ U) a w
 | [], a, _, h => h
 | i :: is, a, hB, h => by
  simp only [calmB, List.all_cons, Bool.and_eq_true, decide_eq_true_eq] at hB
  refine ⟨_, getD_some hB.1.1, fun h => absurd h (by omega), fun _ => ⟨fun hw => ⟨fun h2 => absurd h2 (by omega), fun _ => ?_⟩, fun hw => ?_⟩⟩
  ·simp only [pickL, List.map_cons, wpQuiet] at h
   rw [if_pos hw] at h
   obtain ⟨v, h1, h2⟩ := h
   exact ⟨v, fun w' h0 => calm_run hB.1.2 (h1 w' (hC w' h0)), mixA_calm k hk hC is _ hB.2 h2⟩
  ·simp only [pickL, List.map_cons, wpQuiet] at h
   rw [if_neg (by rw [hw]; simp)] at h
   exact mixA_calm k hk hC is _ hB.2 h
theorem mixA_loud {U : List (Nat × Nat)} {i k : Nat} {a : Act} {w : World} (hi : i < l.length) (hk : 2 ≤ k) (hk4 : k ≠ 4) (hg : (l.getD i default).guard = none)
  (h : ∀ w1, Ext w w1 → wpList P l.toArray (Exit.then (fun a3 w3 => LateP k B obj w1 w3 ∧ wpMixA P l.toArray Q B obj U a3 w3) (fun _ _ _ => False)) (pickL l [i]) a w1) : wpMixA P l.toArray Q B obj ((i, k) :: U) a w := by
 have hwd : ∀ y, Region.wanted (l.getD i default) y = true := fun y => by unfold Region.wanted; rw [hg]
 refine ⟨_, getD_some hi, fun h => absurd h hk4, fun _ => ⟨fun hw => ⟨fun _ w1 hx => ?_, fun h2 => absurd h2 (by omega)⟩, fun hw => ?_⟩⟩
 ·have := h w1 hx
  simp only [pickL, List.map_cons, List.map_nil, wpList] at this
  rw [if_pos hw] at this
  rcases this with this | ⟨_, _, _, hf⟩
  ·exact upon_mono (fun _ _ h' => h') (fun e _ _ h' => by cases e <;> first | exact h' | exact h'.elim) (upon_normal this)
  ·exact hf.elim
 ·rw [hwd] at hw; cases hw
theorem planA_mix : ∀ (t : List Seg) (a : Act) (w : World), t.all (segB l) = true → wpPlanA P l Q B obj t a w → wpMixA P l.toArray Q B obj (planOf t) a w
 | [], a, w, _, h => h
 | .b is :: t, a, w, hB, h => by
  simp only [List.all_cons, segB, Bool.and_eq_true] at hB
  exact mixA_calm 0 (by omega) (C := fun _ => True) (fun _ _ => trivial) is a hB.1 (wpQuiet_post (fun a1 h1 => planA_mix t a1 w hB.2 h1) _ _ h)
 | .q is :: t, a, w, hB, h => by
  simp only [List.all_cons, segB, Bool.and_eq_true] at hB
  exact mixA_calm 1 (by omega) (C := fun w' => ∃ d, w' = wext w d) (fun w' h => grown_iff.2 (h.resolve_left (by omega))) is a hB.1 (wpQuiet_post (fun a1 h1 => planA_mix t a1 w hB.2 h1) _ _ h)
 | .l i k :: t, a, w, hB, h => by
  simp only [List.all_cons, segB, Bool.and_eq_true, decide_eq_true_eq, Option.isNone_iff_eq_none] at hB
  by_cases h4 : k = 4
  ·subst h4
   exact ⟨_, getD_some hB.1.1.1, fun _ b w1 hx hb ho => planA_mix t _ w1 hB.2 (h b w1 hx hb ho), fun h => absurd rfl h⟩
  ·rw [wpPlanA] at h
   ·exact mixA_loud hB.1.1.1 hB.1.1.2 h4 hB.1.2 fun w1 hx => wpList_post (fun a3 w3 h3 => ⟨h3.1, planA_mix t a3 w3 hB.2 h3.2⟩) _ _ _ (h w1 hx)
   ·exact h4
def planAB (l : List Oper) (ia : Nat) (t : List Seg) : Bool :=
 let U := planOf t
 Region.noSelect l.toArray && t.all (segB l) && decide (U.length = l.length) && ((List.range l.length).all fun j => U.any fun x => x.1 == j) &&
  (U.all fun x => oneA1 l.toArray ia x) && pairB (relA l.toArray ((U.map (·.1)).foldl (closeStep l.toArray) [])) U
theorem region_mixA {id : Nat} {a : Act} {w : World} (ia : Nat) (obj : Obj) (t : List Seg) (hm : P.follows .mixedOrders = true) (hB : planAB l ia t = true)
  (hA : ∀ ρ w', (execOp ρ (l.getD ia default)).run P w' = .ok (.value (ptrTo w'.heap.size)) (w'.alloc obj))
  (h : wpPlanA P l Q w.heap.size obj t a w) : (Code.region id l.toArray true).wp P Q a w := by
 simp only [planAB, Bool.and_eq_true, decide_eq_true_eq] at hB
 obtain ⟨⟨⟨⟨⟨h1, h2⟩, h4⟩, h5⟩, h6⟩, h7⟩ := hB
 refine wp_region_any hm ?_
 refine mixA_any (n := l.toArray.size) (ia := ia) (B := w.heap.size) (obj := obj) ?_ h1 _ (planOf t) _ a w (by simpa using h4) (by simp) ?_ ?_ (pairB_ok h7) (fun x hx => List.all_eq_true.1 h6 x hx) (Nat.le_refl _) (planA_mix t a w h2 h) _ (Ext.drew (Ext.refl w))
 ·intro o ρ w' ho
  have : o = l.getD ia default := by
   have hh : l[ia]? = some o := by simpa using ho
   rw [List.getD, hh]; rfl
  rw [this]; exact hA ρ w'
 ·intro j hj
  rw [getD_replicate_false] at hj; cases hj
 ·intro j hj
  rw [getD_replicate_false]
  simp only [true_iff]
  have := List.all_eq_true.1 h5 j (List.mem_range.2 (by simpa using hj))
  obtain ⟨x, hx, hx2⟩ := List.any_eq_true.1 this
  exact ⟨x.2, by rw [beq_iff_eq] at hx2; rw [← hx2]; exact hx⟩
end
theorem alloc_runA {P : Program} {o : Oper} {t : TypeId} {z : Value} {cs : Array Value} (ho : o.op = .alloc t) (hi : (P.info? t).map (fun i => i.zero) = some (some z)) (hc : z.cells = cs) (ρ : Operand → Value) (w : World) :
  (execOp ρ o).run P w = .ok (.value (ptrTo w.heap.size)) (w.alloc (.cells cs t (0, 0))) := by
 subst hc
 cases h : P.info? t with
 | none => rw [h] at hi; cases hi
 | some i =>
  rw [h] at hi
  simp only [Option.map_some, Option.some.injEq] at hi
  unfold execOp
  simp only [ho]
  simp [Instr.alloc, zeroValue, typeInfo, h, hi, newVar, newRow, ptrTo, Sem.run_bind, go_sem]
end Go.Proofs.YtkfonacokamfiaaGreat
/- Caches, plainly: what is dropped; blocks of another type are none of a cache's. -/
namespace Go.Proofs.YtkfonacokamfiaaGreat
set_option linter.unusedVariables false
set_option linter.unusedSimpArgs false
open Go.RowKit
attribute [local go_sem] wext_cell wext_frozen wext_heap alloc_cell alloc_frozen alloc_heap setCell_cell objCell_cells objFrozen_cells
attribute [local go_sem high] refKey_eql
theorem delL_filter {k : Key} {L : List (Key × Line)} (hn : (keysOf L).Nodup) : delL k L = L.filter fun x => x.1 != k := by
 unfold delL
 cases hl : look k L 0 with
 | none => exact (List.filter_eq_self.2 fun x hx => by have := look_none hl x hx; simpa using this).symm
 | some y =>
  obtain ⟨i, y⟩ := y
  obtain ⟨-, h2, h3⟩ := look_some hl
  simp only [Nat.sub_zero] at h2 h3
  have hi := (List.getElem?_eq_some_iff.1 h2)
  have hs : L = L.take i ++ (k, y) :: L.drop (i + 1) := by
   rw [← hi.2, List.getElem_cons_drop, List.take_append_drop]
  show L.eraseIdx i = _
  rw [List.eraseIdx_eq_take_drop_succ]
  conv => rhs; rw [hs]
  rw [List.filter_append, List.filter_cons]
  have e1 : (L.take i).filter (fun x => x.1 != k) = L.take i := List.filter_eq_self.2 fun x hx => by have := List.all_eq_true.1 h3 x hx; simpa using this
  have e2 : (L.drop (i + 1)).filter (fun x => x.1 != k) = L.drop (i + 1) := List.filter_eq_self.2 fun x hx => by
   rw [hs] at hn
   simp only [keysOf, List.map_append, List.map_cons] at hn
   have h4 := (List.nodup_cons.1 (List.nodup_append.1 hn).2.1).1
   have : x.1 ≠ k := fun e => h4 (List.mem_map.2 ⟨x, hx, e⟩)
   simpa using this
  rw [e1, e2]
  simp
theorem nodup_filter {L : List (Key × Line)} (p : Key × Line → Bool) (hn : (keysOf L).Nodup) : (keysOf (L.filter p)).Nodup := hn.sublist (List.filter_sublist.map _)
theorem dropN_filter (pcid : Int) : ∀ (ks : List Key) (L : List (Key × Line)), (keysOf L).Nodup → dropN pcid ks L = L.filter fun x => !(decide (x.1.p = pcid) && decide (x.1 ∈ ks))
 | [], L, _ => (List.filter_eq_self.2 (by simp)).symm
 | k :: ks, L, hn => by
  show dropN pcid ks (if k.p = pcid then delL k L else L) = _
  by_cases hk : k.p = pcid
  ·rw [if_pos hk, delL_filter hn, dropN_filter pcid ks _ (nodup_filter _ hn), List.filter_filter]
   apply List.filter_congr
   intro x _
   by_cases h1 : x.1 = k
   ·simp [h1, hk]
   ·simp [h1]
  ·rw [if_neg hk, dropN_filter pcid ks _ hn]
   apply List.filter_congr
   intro x _
   by_cases h1 : x.1 = k
   ·simp [h1, hk]
   ·simp [h1]
theorem dropN_filtL {pcid : Int} {L : List (Key × Line)} (hn : (keysOf L).Nodup) : dropN pcid (keysOf L) L = filtL pcid L := by
 rw [dropN_filter pcid _ L hn]
 apply List.filter_congr
 intro x hx
 have : x.1 ∈ keysOf L := List.mem_map.2 ⟨x, hx, rfl⟩
 by_cases h : x.1.p = pcid <;> simp [h, this]
theorem CAt.nodup {w : World} {cb : Nat} {F : List Nat} {L : List (Key × Line)} {r : Nat} (h : CAt w cb F L r) : (keysOf L).Nodup := by
 obtain ⟨mb, ov, es, clock, h1, h2, h3, h4, h5, h6, h7, h8⟩ := h; exact h8
theorem CAt.room {w : World} {cb : Nat} {F : List Nat} {L : List (Key × Line)} {r : Nat} (h : CAt w cb F L r) : L.length ≤ r ∧ r ≤ 64 := by
 obtain ⟨mb, ov, es, clock, h1, h2, h3, h4, h5, h6, h7, h8⟩ := h; exact ⟨h6, h7⟩
theorem CAt.apart {w : World} {cb : Nat} {F : List Nat} {L : List (Key × Line)} {r : Nat} (h : CAt w cb F L r) {b : Nat} {c : Array Value} {e : TypeId} (hb : w.heap[b]? = some (.cells c e (0, 0)))
  (h1 : e ≠ 180) (h2 : e ≠ 187) : b ∉ F := by
 obtain ⟨mb, ov, es, clock, p1, p2, p3, p4, rfl, -⟩ := h
 intro hm
 simp only [List.mem_cons, Option.mem_toList] at hm
 rcases hm with rfl | rfl | hm
 ·rw [hb] at p1; simp only [Option.some.injEq, Obj.cells.injEq] at p1; exact h1 p1.2.1
 ·rw [hb] at p2; cases p2
 ·obtain ⟨c', hc⟩ := p4.heap b hm
  rw [hb] at hc; simp only [Option.some.injEq, Obj.cells.injEq] at hc; exact h2 hc.2.1
theorem RefAt.keeps {w w' : World} {cb : Nat} {F : List Nat} {L L2 : List (Key × Line)} {r : Nat} {v : Value} (h : RefAt w v L2) (hc : CAt w cb F L r) (hk : Keeps F w w') : RefAt w' v L2 :=
 ⟨h.1.keep fun g hg => by
  obtain ⟨c, hcc⟩ := h.1.heap g hg
  exact hk.block g (heap_lt hcc) (hc.apart hcc (by decide) (by decide)), h.2⟩
end Go.Proofs.YtkfonacokamfiaaGreat
