/- Joined texts, part 6 of what the law stands on: each as its own head says. -/
import Derived.Test.YtkfonacokamfiaaGreatGoz1
/- A region that draws its order, with several loud operations: a plan of segments, walked once. Own text.
  Kinds: 0 blind (the same in every world), 1 quiet (the same in every world that has grown out of the present one), 2 loud, 3 loud that only lays new memory.
  Conditions (a Bool over the region): in the plan's order each operation stands behind what it waits for; behind a loud one all wait for it; what stands before a loud one is blind (or quiet, if the loud one only lays memory), or it waits for that. -/
namespace Go.Proofs.YtkfonacokamfiaaGreat
open Go.RowKit
section
variable {P : Program} {ops : Array Oper} {Q : Exit → Act → World → Prop}
def depsOf (ops : Array Oper) (j : Nat) : List Nat :=
 match ops[j]? with
 | some o => (o.after.toList.filter (Region.binds .any ·)).map (·.on)
 | none => []
theorem mem_depsOf {j : Nat} {o : Oper} {d : Nat} (ho : ops[j]? = some o) : d ∈ depsOf ops j ↔ ∃ e ∈ o.after, Region.binds .any e = true ∧ e.on = d := by
 simp only [depsOf, ho, List.mem_map, List.mem_filter]
 constructor
 ·rintro ⟨e, ⟨h1, h2⟩, h3⟩; exact ⟨e, by simpa using h1, h2, h3⟩
 ·rintro ⟨e, h1, h2, h3⟩; exact ⟨e, ⟨by simpa using h1, h2⟩, h3⟩
def Shut (ops : Array Oper) (seen : Array Bool) : Prop := ∀ j, seen.getD j false = true → ∀ d ∈ depsOf ops j, seen.getD d false = true
def Waits (ops : Array Oper) (j i : Nat) : Prop := ∀ seen, Shut ops seen → (∀ d ∈ depsOf ops j, seen.getD d false = true) → seen.getD i false = true
def closeStep (ops : Array Oper) (acc : List (Nat × List Nat)) (j : Nat) : List (Nat × List Nat) :=
 (j, (depsOf ops j ++ (depsOf ops j).flatMap fun k => (acc.lookup k).getD []).eraseDups) :: acc
theorem lookup_mem {α : Type} {l : List (Nat × α)} {k : Nat} {x : α} (h : l.lookup k = some x) : (k, x) ∈ l := by
 induction l with
 | nil => simp at h
 | cons p l ih =>
  obtain ⟨k', x'⟩ := p
  simp only [List.lookup] at h
  split at h
  ·rename_i heq
   obtain rfl : k = k' := by simpa using heq
   cases h; exact List.mem_cons_self ..
  ·exact List.mem_cons_of_mem _ (ih h)
theorem close_ok : ∀ (ord : List Nat) (acc : List (Nat × List Nat)), (∀ j ds, (j, ds) ∈ acc → ∀ i ∈ ds, Waits ops j i) →
  ∀ j ds, (j, ds) ∈ ord.foldl (closeStep ops) acc → ∀ i ∈ ds, Waits ops j i
 | [], _, h => h
 | x :: ord, acc, h => by
  refine close_ok ord _ (fun j ds hm i hi => ?_)
  rcases List.mem_cons.1 hm with hm | hm
  ·obtain ⟨rfl, rfl⟩ := Prod.mk.inj hm
   rw [List.mem_eraseDups, List.mem_append] at hi
   intro seen hs hd
   rcases hi with hi | hi
   ·exact hd i hi
   ·obtain ⟨k, hk, hi⟩ := List.mem_flatMap.1 hi
    cases hl : acc.lookup k with
    | none => rw [hl] at hi; cases hi
    | some ds' =>
     rw [hl] at hi
     exact h k ds' (lookup_mem hl) i hi seen hs (hs k (hd k hk))
  ·exact h j ds hm i hi
def waitsB (cl : List (Nat × List Nat)) (j i : Nat) : Bool := ((cl.lookup j).getD []).contains i
theorem waitsB_ok {ord : List Nat} {j i : Nat} (h : waitsB (ord.foldl (closeStep ops) []) j i = true) : Waits ops j i := by
 unfold waitsB at h
 cases hl : (ord.foldl (closeStep ops) []).lookup j with
 | none => rw [hl] at h; simp at h
 | some ds =>
  rw [hl] at h
  exact close_ok ord [] (fun _ _ hm => by cases hm) j ds (lookup_mem hl) i (by simpa using h)
def wpMix (P : Program) (ops : Array Oper) (Q : Exit → Act → World → Prop) : List (Nat × Nat) → Act → World → Prop
 | [], a, w => ∀ w1, Ext w w1 → Q .normal a w1
 | (i, k) :: U, a, w => ∃ o, ops[i]? = some o ∧
  (Region.wanted o (yielded ops a.tmps) = true →
   (2 ≤ k → ∀ w1, Ext w w1 → o.wp P a w1 (fun a' w' => (k = 3 → Ext w w') ∧ wpMix P ops Q U a' w') (fun _ _ _ => False)) ∧
   (k < 2 → ∃ v, (∀ w', (k = 0 ∨ Ext w w') → (execOp a.eval o).run P w' = .ok (.value v) w') ∧ wpMix P ops Q U (a.put o.dst v) w)) ∧
  (Region.wanted o (yielded ops a.tmps) = false → wpMix P ops Q U (a.put o.dst undef) w)
theorem upon_mono {o : Oper} {a : Act} {K K' : Act → World → Prop} {R R' : Exit → Act → World → Prop} {r : Result Next} (hk : ∀ a w, K a w → K' a w) (hq : ∀ e a w, R e a w → R' e a w)
  (h : o.upon P a K R r) : o.upon P a K' R' r := by
 cases r with
 | ok nx w =>
  cases nx with
  | value v => exact hk _ _ h
  | skip => exact hk _ _ h
  | defer d => exact hk _ _ h
  | enter f args =>
   exact Calls.mono h fun e w' h' => by
    cases e with
    | returned v => exact hk _ _ h'
    | panicked c => exact hq _ _ _ h'
    | outgrown => obtain ⟨a, w, h'⟩ := h'; exact ⟨a, w, hq _ _ _ h'⟩
  | row rw args => exact Rows.mono h fun v w' h' => hk _ _ h'
  | _ => exact h
 | halt x w =>
  cases x with
  | panic v => exact hq _ _ _ h
  | _ => exact h
theorem upon_exit {o : Oper} {a : Act} {K : Act → World → Prop} {R R' : Exit → Act → World → Prop} {r : Result Next} (hq : ∀ e a w, e ≠ .normal → R e a w → R' e a w)
  (h : o.upon P a K R r) : o.upon P a K R' r := by
 cases r with
 | ok nx w =>
  cases nx with
  | value v => exact h
  | skip => exact h
  | defer d => exact h
  | enter f args =>
   exact Calls.mono h fun e w' h' => by
    cases e with
    | returned v => exact h'
    | panicked c => exact hq _ _ _ (by simp) h'
    | outgrown => obtain ⟨a, w, h'⟩ := h'; exact ⟨a, w, hq _ _ _ (by simp) h'⟩
  | row rw args => exact h
  | _ => exact h
 | halt x w =>
  cases x with
  | panic v => exact hq _ _ _ (by simp) h
  | _ => exact h
theorem mix_cong {x : Nat × Nat} {L L' : List (Nat × Nat)} (h : ∀ a w, wpMix P ops Q L a w → wpMix P ops Q L' a w) (a : Act) (w : World) (hm : wpMix P ops Q (x :: L) a w) : wpMix P ops Q (x :: L') a w := by
 obtain ⟨i, k⟩ := x
 obtain ⟨o, ho, h1, h2⟩ := hm
 refine ⟨o, ho, fun hw => ⟨fun hk w1 hx => upon_mono (fun a w hh => ⟨hh.1, h a w hh.2⟩) (fun _ _ _ hf => hf) ((h1 hw).1 hk w1 hx), fun hk => ?_⟩, fun hw => h _ _ (h2 hw)⟩
 obtain ⟨v, a1, a3⟩ := (h1 hw).2 hk
 exact ⟨v, a1, h _ _ a3⟩
theorem put_defers (a : Act) (dst : Option Tmp) (v : Value) (D : List Deferred) : ({ a with defers := D } : Act).put dst v = { a.put dst v with defers := D } := by cases dst <;> rfl
theorem mix_swap {q kq i k : Nat} {R : List (Nat × Nat)} {oq oi : Oper} (hsel : Region.noSelect ops = true) (hq : ops[q]? = some oq) (hi : ops[i]? = some oi) (hap : oq.apart ops oi = true) (hkq : kq < 2) (hk : k = 2 → kq = 0) (hk3 : k ≤ 3)
  (a : Act) (w : World) (hm : wpMix P ops Q ((q, kq) :: (i, k) :: R) a w) : wpMix P ops Q ((i, k) :: (q, kq) :: R) a w := by
 obtain ⟨p1, p2, p3⟩ := Oper.apart_spec hap
 have si := fun cs b => Region.noSelect_spec hsel i oi cs b hi
 have sq := fun cs b => Region.noSelect_spec hsel q oq cs b hq
 have wi : ∀ (a : Act) v, Region.wanted oi (yielded ops (a.put oq.dst v).tmps) = Region.wanted oi (yielded ops a.tmps) := fun a v => wanted_put oi a oq.dst v p1
 have wq : ∀ (a : Act) v, Region.wanted oq (yielded ops (a.put oi.dst v).tmps) = Region.wanted oq (yielded ops a.tmps) := fun a v => wanted_put oq a oi.dst v p3
 have ei : ∀ (a : Act) v, execOp (a.put oq.dst v).eval oi = execOp a.eval oi := fun a v => execOp_put oi si a oq.dst v p1
 have eq : ∀ (a : Act) v, execOp (a.put oi.dst v).eval oq = execOp a.eval oq := fun a v => execOp_put oq sq a oi.dst v p3
 have pc : ∀ (a : Act) v u, (a.put oq.dst v).put oi.dst u = (a.put oi.dst u).put oq.dst v := fun a v u => Act.put_comm a v u p2
 obtain ⟨oq', hq', h1, h2⟩ := hm
 obtain rfl : oq' = oq := Option.some.inj (hq'.symm.trans hq)
 -- what the first one leaves, and that it leaves it from any frame that has the second one's value too
 have key : ∃ vq, wpMix P ops Q ((i, k) :: R) (a.put oq'.dst vq) w ∧ ∀ (u : Value) (D : List Deferred) (w' : World), (kq = 0 ∨ Ext w w') →
   wpMix P ops Q R ({ (a.put oi.dst u).put oq'.dst vq with defers := D }) w' → wpMix P ops Q ((q, kq) :: R) ({ a.put oi.dst u with defers := D }) w' := by
  cases hw : Region.wanted oq' (yielded ops a.tmps) with
  | true =>
   obtain ⟨vq, b0, hmix⟩ := (h1 hw).2 hkq
   refine ⟨vq, hmix, fun u D w' hw' hR => ⟨oq', hq, fun _ => ⟨fun h => absurd h (by omega), fun _ => ⟨vq, fun w2 h0 => ?_, ?_⟩⟩, fun hf => ?_⟩⟩
   ·have := b0 w2 (by
     rcases h0 with h0 | h0
     ·exact .inl h0
     ·rcases hw' with h1 | h1
      ·exact .inl h1
      ·exact .inr (h1.trans h0))
    rw [← eq a u] at this
    exact this
   ·rw [put_defers]; exact hR
   ·exfalso
    have : Region.wanted oq' (yielded ops (a.put oi.dst u).tmps) = false := hf
    rw [wq, hw] at this; cases this
  | false =>
   refine ⟨undef, h2 hw, fun u D w' _ hR => ⟨oq', hq, fun ht => ?_, fun _ => ?_⟩⟩
   ·exfalso
    have : Region.wanted oq' (yielded ops (a.put oi.dst u).tmps) = true := ht
    rw [wq, hw] at this; cases this
   ·rw [put_defers]; exact hR
 obtain ⟨vq, hmix, hback⟩ := key
 obtain ⟨oi', hi', g1, g2⟩ := hmix
 obtain rfl : oi' = oi := Option.some.inj (hi'.symm.trans hi)
 refine ⟨oi', hi, fun hw => ⟨fun h2 w1 hx => ?_, fun h2 => ?_⟩, fun hw => ?_⟩
 · -- loud
  have hl := (g1 (by rw [wi]; exact hw)).1 h2 w1 hx
  unfold Oper.wp at hl ⊢
  rw [ei] at hl
  generalize (execOp a.eval oi').run P w1 = r at hl ⊢
  have bk : ∀ (u : Value) (D : List Deferred) (w' : World), ((k = 3 → Ext w w') ∧ wpMix P ops Q R ({ (a.put oq'.dst vq).put oi'.dst u with defers := D }) w') →
    (k = 3 → Ext w w') ∧ wpMix P ops Q ((q, kq) :: R) ({ a.put oi'.dst u with defers := D }) w' := fun u D w' hR => by
   refine ⟨hR.1, ?_⟩
   have hR := hR.2
   rw [pc] at hR
   refine hback u D w' ?_ hR
   by_cases h3 : k = 3
   ·exact .inr (‹(k = 3 → Ext w w') ∧ _›.1 h3)
   ·exact .inl (hk (by omega))
  cases r with
  | ok nx w2 =>
   cases nx with
   | value v => exact bk v (a.put oi'.dst v).defers w2 (by have : (a.put oi'.dst v).defers = ((a.put oq'.dst vq).put oi'.dst v).defers := (by cases oi'.dst <;> cases oq'.dst <;> rfl); rw [this]; exact hl)
   | skip => exact bk undef (a.put oi'.dst undef).defers w2 (by have : (a.put oi'.dst undef).defers = ((a.put oq'.dst vq).put oi'.dst undef).defers := (by cases oi'.dst <;> cases oq'.dst <;> rfl); rw [this]; exact hl)
   | defer d =>
    have hl' : (k = 3 → Ext w w2) ∧ wpMix P ops Q R (({ a.put oq'.dst vq with defers := d :: (a.put oq'.dst vq).defers } : Act).put oi'.dst undef) w2 := hl
    rw [put_defers] at hl'
    have hd : (a.put oq'.dst vq).defers = a.defers := by cases oq'.dst <;> rfl
    rw [hd] at hl'
    show (k = 3 → Ext w w2) ∧ wpMix P ops Q ((q, kq) :: R) (({ a with defers := d :: a.defers } : Act).put oi'.dst undef) w2
    rw [put_defers]
    exact bk undef (d :: a.defers) w2 hl'
   | enter f args =>
    exact Calls.mono hl fun e w3 h3 => by
     cases e with
     | returned v => exact bk v (a.put oi'.dst v).defers w3 (by have : (a.put oi'.dst v).defers = ((a.put oq'.dst vq).put oi'.dst v).defers := (by cases oi'.dst <;> cases oq'.dst <;> rfl); rw [this]; exact h3)
     | panicked c => exact h3
     | outgrown => exact h3
   | row rw args => exact Rows.mono hl fun v w3 h3 => bk v (a.put oi'.dst v).defers w3 (by have : (a.put oi'.dst v).defers = ((a.put oq'.dst vq).put oi'.dst v).defers := (by cases oi'.dst <;> cases oq'.dst <;> rfl); rw [this]; exact h3)
   | _ => exact hl
  | halt x w2 =>
   cases x with
   | panic v => exact hl
   | _ => exact hl
 ·obtain ⟨v, c0, hR⟩ := (g1 (by rw [wi]; exact hw)).2 h2
  refine ⟨v, fun w' h0 => ?_, ?_⟩
  ·have := c0 w' h0; rwa [ei] at this
  ·rw [pc] at hR
   exact hback v (a.put oi'.dst v).defers w (.inr (Ext.refl w)) (by
    have : (a.put oi'.dst v).defers = ((a.put oi'.dst v).put oq'.dst vq).defers := (by cases oi'.dst <;> cases oq'.dst <;> rfl)
    rw [this]; exact hR)
 ·have hR := g2 (by rw [wi]; exact hw)
  rw [pc] at hR
  exact hback undef (a.put oi'.dst undef).defers w (.inr (Ext.refl w)) (by
   have : (a.put oi'.dst undef).defers = ((a.put oi'.dst undef).put oq'.dst vq).defers := (by cases oi'.dst <;> cases oq'.dst <;> rfl)
   rw [this]; exact hR)
theorem mix_pull (hsel : Region.noSelect ops = true) {i k : Nat} {oi : Oper} (hk3 : k ≤ 3) (hi : ops[i]? = some oi) {post : List (Nat × Nat)} : ∀ (pre : List (Nat × Nat)),
  (∀ q ∈ pre, q.2 < 2 ∧ (k = 2 → q.2 = 0) ∧ ∃ oq, ops[q.1]? = some oq ∧ oq.apart ops oi = true) → ∀ a w, wpMix P ops Q (pre ++ (i, k) :: post) a w → wpMix P ops Q ((i, k) :: (pre ++ post)) a w
 | [], _, _, _, h => h
 | (q, kq) :: pre, hp, a, w, h => by
  obtain ⟨h1, h2, oq, h3, h4⟩ := hp (q, kq) (List.mem_cons_self ..)
  exact mix_swap hsel h3 hi h4 h1 h2 hk3 a w (mix_cong (mix_pull hsel hk3 hi pre (fun x hx => hp x (List.mem_cons_of_mem _ hx))) a w h)
def relB (ops : Array Oper) (cl : List (Nat × List Nat)) (x y : Nat × Nat) : Bool :=
 ((depsOf ops y.1).contains x.1 || (match ops[x.1]?, ops[y.1]? with | some ox, some oy => ox.apart ops oy | _, _ => false)) &&
 !(depsOf ops x.1).contains y.1 && (decide (x.2 < 2) || waitsB cl y.1 x.1) && (y.2 != 2 || x.2 == 0 || waitsB cl y.1 x.1) && x.1 != y.1
def pairB (r : Nat × Nat → Nat × Nat → Bool) : List (Nat × Nat) → Bool
 | [] => true
 | x :: l => l.all (r x) && pairB r l
theorem pairB_ok {r : Nat × Nat → Nat × Nat → Bool} : ∀ {l : List (Nat × Nat)}, pairB r l = true → l.Pairwise (fun x y => r x y = true)
 | [], _ => List.Pairwise.nil
 | x :: l, h => by
  simp only [pairB, Bool.and_eq_true, List.all_eq_true] at h
  exact List.pairwise_cons.2 ⟨h.1, pairB_ok h.2⟩
def oneB1 (ops : Array Oper) (x : Nat × Nat) : Bool := ((depsOf ops x.1).all fun d => decide (d < ops.size) && d != x.1) && decide (x.2 ≤ 3)
theorem mix_any (hsel : Region.noSelect ops = true) (ord : List Nat) : ∀ (n : Nat) (U : List (Nat × Nat)) (seen : Array Bool) (a : Act) (w : World), U.length = n → seen.size = ops.size → Shut ops seen →
  (∀ j, j < ops.size → (seen.getD j false = false ↔ ∃ k, (j, k) ∈ U)) → U.Pairwise (fun x y => relB ops (ord.foldl (closeStep ops) []) x y = true) → (∀ x ∈ U, oneB1 ops x = true) →
  wpMix P ops Q U a w → ∀ w1, Ext w w1 → wpAny P .any ops Q n seen a w1 := by
 intro n
 induction n with
 | zero =>
  intro U seen a w hU hsz _ hin _ _ hm w1 hx
  obtain rfl : U = [] := List.length_eq_zero_iff.1 hU
  refine ⟨?_, hm w1 hx⟩
  apply List.eq_nil_iff_forall_not_mem.2
  intro j hj
  obtain ⟨h0, o, ho, _⟩ := mem_ready.1 hj
  obtain ⟨k, hk⟩ := (hin j (Array.getElem?_eq_some_iff.1 ho).1).1 (getD_both h0)
  cases hk
 | succ n ih =>
  intro U seen a w hU hsz hshut hin hpw hone hm w1 hx
  have listed : ∀ j, j < ops.size → (¬ ∃ k, (j, k) ∈ U) → seen.getD j false = true := fun j hj hn => by
   cases h : seen.getD j false with
   | true => rfl
   | false => exact absurd ((hin j hj).1 h) hn
  constructor
  ·intro h0
   exfalso
   match U, hU, hm with
   | (i, k) :: U', _, hm =>
    obtain ⟨o, ho, _⟩ := hm
    have hil : i < ops.size := (Array.getElem?_eq_some_iff.1 ho).1
    have : i ∈ Region.ready .any ops seen := mem_ready.2 ⟨getD_in (by omega) ((hin i hil).2 ⟨k, List.mem_cons_self ..⟩), o, ho, fun e he hb => by
     have h1 := hone (i, k) (List.mem_cons_self ..)
     simp only [oneB1, List.all_eq_true, Bool.and_eq_true, decide_eq_true_eq, bne_iff_ne] at h1
     replace h1 := h1.1
     have hd : e.on ∈ depsOf ops i := (mem_depsOf ho).2 ⟨e, he, hb, rfl⟩
     refine listed e.on (h1 _ hd).1 fun ⟨k', hk'⟩ => ?_
     rcases List.mem_cons.1 hk' with hk' | hk'
     ·exact (h1 _ hd).2 (Prod.mk.inj hk').1
     ·have := (List.pairwise_cons.1 hpw).1 _ hk'
      simp only [relB, Bool.and_eq_true, Bool.not_eq_true'] at this
      have h2 := this.1.1.1.2
      rw [List.contains_eq_mem] at h2
      simp [hd] at h2⟩
    rw [h0] at this; cases this
  ·intro i hi
   obtain ⟨hun, oi, hoi, hall⟩ := mem_ready.1 hi
   have hil : i < ops.size := (Array.getElem?_eq_some_iff.1 hoi).1
   obtain ⟨k, hk⟩ := (hin i hil).1 (getD_both hun)
   obtain ⟨pre, post, rfl⟩ := List.append_of_mem hk
   have hdeps : ∀ d ∈ depsOf ops i, seen.getD d false = true := fun d hd => by
    obtain ⟨e, he, hb, rfl⟩ := (mem_depsOf hoi).1 hd
    exact hall e he hb
   have hpre : ∀ q ∈ pre, q.2 < 2 ∧ (k = 2 → q.2 = 0) ∧ ∃ oq, ops[q.1]? = some oq ∧ oq.apart ops oi = true := fun q hq => by
    have hrel := (List.pairwise_append.1 hpw).2.2 q hq (i, k) (List.mem_cons_self ..)
    simp only [relB, Bool.and_eq_true, Bool.or_eq_true, Bool.not_eq_true', bne_iff_ne, ne_eq, beq_iff_eq, decide_eq_true_eq] at hrel
    obtain ⟨⟨⟨⟨r1, r2⟩, r3⟩, r4⟩, _⟩ := hrel
    have hqun : seen.getD q.1 false = false := by
     cases h : ops[q.1]? with
     | none =>
      rw [h] at r1
      rcases r1 with r1 | r1
      ·have : q.1 ∈ depsOf ops i := by simpa using r1
       have h1 := hone (i, k) (by simp)
       simp only [oneB1, List.all_eq_true, Bool.and_eq_true, decide_eq_true_eq] at h1
       replace h1 := h1.1
       have := (h1 _ this).1
       exact (hin q.1 this).2 ⟨q.2, by simp [hq]⟩
      ·cases r1
     | some oq => exact (hin q.1 (Array.getElem?_eq_some_iff.1 h).1).2 ⟨q.2, by simp [hq]⟩
    have hnd : q.1 ∉ depsOf ops i := fun hd => by rw [hdeps _ hd] at hqun; cases hqun
    have hnw : ¬ waitsB (ord.foldl (closeStep ops) []) i q.1 = true := fun hw => by
     rw [waitsB_ok hw seen hshut hdeps] at hqun; cases hqun
    refine ⟨?_, fun h2 => ?_, ?_⟩
    ·rcases r3 with r3 | r3
     ·exact r3
     ·exact absurd r3 hnw
    ·rcases r4 with (r4 | r4) | r4
     ·exact absurd h2 r4
     ·exact r4
     ·exact absurd r4 hnw
    ·rcases r1 with r1 | r1
     ·exact absurd (by simpa using r1) hnd
     ·cases h : ops[q.1]? with
      | none => rw [h] at r1; cases r1
      | some oq => rw [h, hoi] at r1; exact ⟨oq, rfl, r1⟩
   have hk3 : k ≤ 3 := by
    have h1 := hone (i, k) hk
    simp only [oneB1, Bool.and_eq_true, decide_eq_true_eq] at h1
    exact h1.2
   have hpull := mix_pull hsel hk3 hoi pre hpre a w hm
   obtain ⟨o', ho', b1, b2⟩ := hpull
   obtain rfl : o' = oi := Option.some.inj (ho'.symm.trans hoi)
   have hsub : (pre ++ post).Sublist (pre ++ (i, k) :: post) := List.Sublist.append_left (List.sublist_cons_self _ _) _
   have cont : ∀ a' w', wpMix P ops Q (pre ++ post) a' w' → ∀ w2, Ext w' w2 → wpAny P .any ops Q n (seen.setIfInBounds i true) a' w2 := fun a' w' h' w2 hx2 => by
    refine ih (pre ++ post) _ a' w' (by simp at hU ⊢; omega) (by simp [hsz]) (fun j hj d hd => ?_) (fun j hj => ?_) (hpw.sublist hsub) (fun x hx => hone x (hsub.subset hx)) h' w2 hx2
    ·by_cases hij : i = j
     ·subst hij; exact getD_set_true (hdeps d hd)
     ·rw [getD_set_ne false hij] at hj
      exact getD_set_true (hshut j hj d hd)
    ·by_cases hij : i = j
     ·subst hij
      constructor
      ·intro hf
       exfalso
       have : (seen.setIfInBounds i true).getD i false = true := by simp [show i < seen.size by omega]
       rw [this] at hf; cases hf
      ·rintro ⟨k', hk'⟩
       exfalso
       have hp2 := List.pairwise_append.1 hpw
       rcases List.mem_append.1 hk' with hk' | hk'
       ·have := hp2.2.2 _ hk' (i, k) (List.mem_cons_self ..)
        simp [relB] at this
       ·have := (List.pairwise_cons.1 hp2.2.1).1 _ hk'
        simp [relB] at this
     ·rw [getD_set_ne false hij, hin j hj]
      constructor
      ·rintro ⟨k', hk'⟩
       refine ⟨k', ?_⟩
       rcases List.mem_append.1 hk' with hk' | hk'
       ·exact List.mem_append.2 (.inl hk')
       ·rcases List.mem_cons.1 hk' with hk' | hk'
        ·exact absurd (Prod.mk.inj hk').1.symm hij
        ·exact List.mem_append.2 (.inr hk')
      ·rintro ⟨k', hk'⟩; exact ⟨k', hsub.subset hk'⟩
   unfold wpOp
   simp only [hoi]
   cases hw : Region.wanted o' (yielded ops a.tmps) with
   | false =>
    simp only [Bool.false_eq_true, if_false]
    exact cont _ _ (b2 hw) w1 hx
   | true =>
    simp only [if_true]
    refine .inl ?_
    by_cases h2 : 2 ≤ k
    ·exact upon_mono (fun a' w' h' => cont a' w' h'.2 w' (Ext.refl _)) (fun _ _ _ hf => hf.elim) ((b1 hw).1 h2 w1 hx)
    ·obtain ⟨v, c0, hR⟩ := (b1 hw).2 (by omega)
     unfold Oper.wp
     rw [c0 w1 (.inr hx)]
     exact cont _ _ hR w1 hx
end
def calm : Op → Bool
 | .move _ | .assign _ | .pick .. | .build .. | .load .. | .nilCheck _ | .binOp .. | .unOp .. | .convert .. | .slice .. | .fieldAddr .. | .field .. | .indexAddr .. | .index .. | .lookup .. | .extract .. | .makeInterface .. | .typeAssert .. => true
 | .call c => match c.callee with
  | .builtin b => b == .len || b == .cap || b == .min || b == .max
  | _ => false
 | _ => false
def ValOnly (P : Program) (s : Sem Next) : Prop := ∀ w nx w', s.run P w = .ok nx w' → ∃ v, nx = .value v
theorem ValOnly.pure {P : Program} (v : Value) : ValOnly P (Pure.pure (.value v)) := fun w nx w' h => by
 have h2 : (Result.ok (Next.value v) w : Result Next) = .ok nx w' := h
 cases h2; exact ⟨v, rfl⟩
theorem ValOnly.bind {P : Program} {α : Type} {s : Sem α} {f : α → Sem Next} (hf : ∀ x, ValOnly P (f x)) : ValOnly P (s >>= f) := fun w nx w' h => by
 rw [Sem.run_bind] at h
 cases hs : s.run P w with
 | ok v w2 => rw [hs] at h; exact hf v w2 nx w' h
 | halt x w2 => rw [hs] at h; cases h
theorem ValOnly.panic {P : Program} : ValOnly P (runtimePanic .nilDeref) := fun w nx w' h => by
 simp [runtimePanic, goPanic] at h
theorem calm_only {P : Program} {ρ : Operand → Value} {o : Oper} (hc : calm o.op = true) : ValOnly P (execOp ρ o) := by
 unfold execOp
 cases ho : o.op <;> rw [ho] at hc <;> simp only [calm] at hc ⊢ <;> first | exact ValOnly.pure _ | exact ValOnly.bind fun _ => ValOnly.pure _ | (exfalso; exact hc) | (exfalso; cases hc; done) | skip
 ·split
  ·exact ValOnly.panic
  ·exact ValOnly.panic
  ·exact ValOnly.panic
  ·split
   ·exact ValOnly.panic
   ·exact ValOnly.bind fun _ => ValOnly.bind fun _ => (by split; exact ValOnly.bind fun _ => ValOnly.pure _; exact ValOnly.pure _)
   ·exact ValOnly.pure _
  ·exact ValOnly.pure _
 ·rename_i c
  cases hcc : c.callee with
  | builtin b =>
   rw [hcc] at hc
   simp only [resolve, hcc]
   show ValOnly P (builtin b _ _ _ _)
   cases b <;> first | exact ValOnly.bind fun _ => ValOnly.pure _ | (exfalso; revert hc; decide)
  | _ => rw [hcc] at hc; cases hc
theorem calm_run {P : Program} {a : Act} {o : Oper} {C : World → Prop} {w : World} {v : Value} (hc : calm o.op = true) (h : o.quietAt P a C w v) : (execOp a.eval o).run P w = .ok (.value v) w := by
 unfold Oper.quietAt at h
 generalize hr : (execOp a.eval o).run P w = r at h
 cases r with
 | halt x w2 => simp only [Oper.quietUpon] at h
 | ok nx w2 =>
  obtain ⟨u, rfl⟩ := calm_only hc w nx w2 hr
  simp only [Oper.quietUpon] at h
  obtain ⟨rfl, rfl⟩ := h
  rfl
def grown (w : World) (w' : World) : Prop := ∃ d, w' = wext w d
theorem grown_iff {w w' : World} : grown w w' ↔ Ext w w' := ⟨fun ⟨d, h⟩ => h ▸ wext_ext w d, fun h => ⟨w', wext_of h⟩⟩
def pickL (l : List Oper) (is : List Nat) : List Oper := is.map fun i => l.getD i default
inductive Seg where
 | b (is : List Nat)
 | q (is : List Nat)
 | l (i k : Nat)
def planOf : List Seg → List (Nat × Nat)
 | [] => []
 | .b is :: t => is.map (·, 0) ++ planOf t
 | .q is :: t => is.map (·, 1) ++ planOf t
 | .l i k :: t => (i, k) :: planOf t
def wpPlan (P : Program) (l : List Oper) (Q : Exit → Act → World → Prop) : List Seg → Act → World → Prop
 | [], a, w => ∀ w1, Ext w w1 → Q .normal a w1
 | .b is :: t, a, w => wpQuiet P l.toArray (fun _ => True) (fun a1 => wpPlan P l Q t a1 w) (pickL l is) a
 | .q is :: t, a, w => wpQuiet P l.toArray (fun w' => ∃ d, w' = wext w d) (fun a1 => wpPlan P l Q t a1 w) (pickL l is) a
 | .l i k :: t, a, w => ∀ w1, Ext w w1 → wpList P l.toArray (Exit.then (fun a3 w3 => (k = 3 → Ext w w3) ∧ wpPlan P l Q t a3 w3) (fun _ _ _ => False)) (pickL l [i]) a w1
def calmB (l : List Oper) (is : List Nat) : Bool := is.all fun i => decide (i < l.length) && calm (l.getD i default).op
def segB (l : List Oper) : Seg → Bool
 | .b is => calmB l is
 | .q is => calmB l is
 | .l i k => decide (i < l.length) && decide (2 ≤ k) && (l.getD i default).guard.isNone
section
variable {P : Program} {l : List Oper} {Q : Exit → Act → World → Prop}
theorem getD_some {l : List Oper} {i : Nat} (h : i < l.length) : l.toArray[i]? = some (l.getD i default) := by
 simp [List.getD, h]
theorem mix_calm {U : List (Nat × Nat)} (k : Nat) (hk : k < 2) {w : World} {C : World → Prop} (hC : ∀ w', (k = 0 ∨ Ext w w') → C w') : ∀ (is : List Nat) (a : Act), calmB l is = true →
  wpQuiet P l.toArray C (fun a' => wpMix P l.toArray Q U a' w) (pickL l is) a → wpMix P l.toArray Q (is.map (·, k) ++ U) a w
 | [], a, _, h => h
 | i :: is, a, hB, h => by
  simp only [calmB, List.all_cons, Bool.and_eq_true, decide_eq_true_eq] at hB
  refine ⟨_, getD_some hB.1.1, fun hw => ⟨fun h2 => absurd h2 (by omega), fun _ => ?_⟩, fun hw => ?_⟩
  ·simp only [pickL, List.map_cons, wpQuiet] at h
   rw [if_pos hw] at h
   obtain ⟨v, h1, h2⟩ := h
   exact ⟨v, fun w' h0 => calm_run hB.1.2 (h1 w' (hC w' h0)), mix_calm k hk hC is _ hB.2 h2⟩
  ·simp only [pickL, List.map_cons, wpQuiet] at h
   rw [if_neg (by rw [hw]; simp)] at h
   exact mix_calm k hk hC is _ hB.2 h
theorem upon_normal {P : Program} {o : Oper} {a : Act} {K : Act → World → Prop} {R : Act → World → Prop} {r : Result Next} (h : o.upon P a K (Exit.then R fun _ _ _ => False) r) : o.upon P a K (fun _ _ _ => False) r := by
 refine upon_exit (fun e a w he hq => ?_) h
 cases e <;> first | exact absurd rfl he | exact hq
theorem mix_loud {U : List (Nat × Nat)} {i k : Nat} {a : Act} {w : World} (hi : i < l.length) (hk : 2 ≤ k) (hg : (l.getD i default).guard = none)
  (h : ∀ w1, Ext w w1 → wpList P l.toArray (Exit.then (fun a3 w3 => (k = 3 → Ext w w3) ∧ wpMix P l.toArray Q U a3 w3) (fun _ _ _ => False)) (pickL l [i]) a w1) : wpMix P l.toArray Q ((i, k) :: U) a w := by
 have hwd : ∀ y, Region.wanted (l.getD i default) y = true := fun y => by unfold Region.wanted; rw [hg]
 refine ⟨_, getD_some hi, fun hw => ⟨fun _ w1 hx => ?_, fun h2 => absurd h2 (by omega)⟩, fun hw => ?_⟩
 ·have := h w1 hx
  simp only [pickL, List.map_cons, List.map_nil, wpList] at this
  rw [if_pos hw] at this
  rcases this with this | ⟨_, _, _, hf⟩
  ·exact upon_mono (fun _ _ h' => h') (fun e _ _ h' => by cases e <;> first | exact h' | exact h'.elim) (upon_normal this)
  ·exact hf.elim
 ·rw [hwd] at hw; cases hw
theorem wpList_post {K K' : Act → World → Prop} (hk : ∀ a w, K a w → K' a w) : ∀ (os : List Oper) (a : Act) (w : World), wpList P l.toArray (Exit.then K fun _ _ _ => False) os a w → wpList P l.toArray (Exit.then K' fun _ _ _ => False) os a w
 | [], a, w, h => hk a w h
 | o :: os, a, w, h => by
  have hR : ∀ e a w, Exit.then K (fun _ _ _ => False) e a w → Exit.then K' (fun _ _ _ => False) e a w := fun e a w hh => by cases e <;> first | exact hk a w hh | exact hh
  simp only [wpList] at h ⊢
  split
  ·rename_i hw
   rw [if_pos hw] at h
   rcases h with h | ⟨h1, a', w', h2⟩
   ·exact .inl (upon_mono (fun a w h => wpList_post hk os a w h) hR h)
   ·exact .inr ⟨h1, a', w', hR _ _ _ h2⟩
  ·rename_i hw
   rw [if_neg hw] at h
   exact wpList_post hk os _ _ h
theorem plan_mix : ∀ (t : List Seg) (a : Act) (w : World), t.all (segB l) = true → wpPlan P l Q t a w → wpMix P l.toArray Q (planOf t) a w
 | [], a, w, _, h => h
 | .b is :: t, a, w, hB, h => by
  simp only [List.all_cons, segB, Bool.and_eq_true] at hB
  exact mix_calm 0 (by omega) (C := fun _ => True) (fun _ _ => trivial) is a hB.1 (wpQuiet_post (fun a1 h1 => plan_mix t a1 w hB.2 h1) _ _ h)
 | .q is :: t, a, w, hB, h => by
  simp only [List.all_cons, segB, Bool.and_eq_true] at hB
  exact mix_calm 1 (by omega) (C := fun w' => ∃ d, w' = wext w d) (fun w' h => grown_iff.2 (h.resolve_left (by omega))) is a hB.1 (wpQuiet_post (fun a1 h1 => plan_mix t a1 w hB.2 h1) _ _ h)
 | .l i k :: t, a, w, hB, h => by
  simp only [List.all_cons, segB, Bool.and_eq_true, decide_eq_true_eq, Option.isNone_iff_eq_none] at hB
  exact mix_loud hB.1.1.1 hB.1.1.2 hB.1.2 fun w1 hx => wpList_post (fun a3 w3 h3 => ⟨h3.1, plan_mix t a3 w3 hB.2 h3.2⟩) _ _ _ (h w1 hx)
def planB (l : List Oper) (t : List Seg) : Bool :=
 let U := planOf t
 Region.noSelect l.toArray && t.all (segB l) && decide (U.length = l.length) && ((List.range l.length).all fun j => U.any fun x => x.1 == j) &&
  (U.all fun x => oneB1 l.toArray x) && pairB (relB l.toArray ((U.map (·.1)).foldl (closeStep l.toArray) [])) U
theorem region_mix {id : Nat} {a : Act} {w : World} (t : List Seg) (hm : P.follows .mixedOrders = true) (hB : planB l t = true)
  (h : wpPlan P l Q t a w) : (Code.region id l.toArray true).wp P Q a w := by
 simp only [planB, Bool.and_eq_true, decide_eq_true_eq] at hB
 obtain ⟨⟨⟨⟨⟨h1, h2⟩, h4⟩, h5⟩, h6⟩, h7⟩ := hB
 refine wp_region_any hm ?_
 refine mix_any (n := l.toArray.size) h1 _ (planOf t) _ a w (by simpa using h4) (by simp) ?_ ?_ (pairB_ok h7) (fun x hx => List.all_eq_true.1 h6 x hx) (plan_mix t a w h2 h) _ (Ext.drew (Ext.refl w))
 ·intro j hj
  rw [getD_replicate_false] at hj; cases hj
 ·intro j hj
  rw [getD_replicate_false]
  simp only [true_iff]
  have := List.all_eq_true.1 h5 j (List.mem_range.2 (by simpa using hj))
  obtain ⟨x, hx, hx2⟩ := List.any_eq_true.1 this
  exact ⟨x.2, by rw [beq_iff_eq] at hx2; rw [← hx2]; exact hx⟩
end
end Go.Proofs.YtkfonacokamfiaaGreat
