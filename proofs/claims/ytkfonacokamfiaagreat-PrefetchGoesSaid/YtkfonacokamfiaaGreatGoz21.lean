/- Joined texts, part 21 of what the law stands on: each as its own head says. -/
import Derived.Test.YtkfonacokamfiaaGreatGoz8
import Derived.Test.YtkfonacokamfiaaGreatGoz20
import Derived.Test.YtkfonacokamfiaaGreatGoz6
import Derived.Test.YtkfonacokamfiaaGreatGoz2
/- The walk laws' helpers: the example's memory; awake. -/
namespace Go.Proofs.YtkfonacokamfiaaGreat
set_option linter.unusedVariables false
set_option linter.unusedSimpArgs false
open Go.RowKit
attribute [local go_sem] wext_cell wext_frozen wext_heap alloc_cell alloc_frozen alloc_heap setCell_cell objCell_cells objFrozen_cells
def tinyL : List PutD := [⟨0, 1, 7, 0⟩, ⟨8, 2, 7, 0⟩, ⟨16, 3, 7, 0⟩, ⟨24, 4, 7, 0⟩]
theorem tiny_at {W : World} {g : Nat} {e : TypeId} (h : W.heap[g]? = some (.cells #[.int .u16 0, .int .u16 1, .int .u8 7, .int .u64 0, .int .u16 8, .int .u16 2, .int .u8 7, .int .u64 0, .int .u16 16, .int .u16 3, .int .u8 7, .int .u64 0, .int .u16 24, .int .u16 4, .int .u8 7, .int .u64 0] e (0, 0))) :
  ListAt W (.slice (some ⟨g, 0, none⟩) 4 4) 4 PutD.cells PutD.ok tinyL := by
 refine ⟨some ⟨g, 0, none⟩, 4, rfl, by simp [tinyL], by simp [maxLen], fun i hi => ?_, fun i hi => ⟨g, 0, rfl, heap_lt h, fun j u hu => ?_⟩⟩
 ·have : i = 0 ∨ i = 1 ∨ i = 2 ∨ i = 3 := by simp [tinyL] at hi; omega
  rcases this with rfl | rfl | rfl | rfl <;> (simp only [tinyL, List.getD_cons_zero, List.getD_cons_succ, PutD.ok]; omega)
 ·have hj : j < 4 := by have := (List.getElem?_eq_some_iff.1 hu).1; simpa [PutD.cells] using this
  have hi' : i = 0 ∨ i = 1 ∨ i = 2 ∨ i = 3 := by simp [tinyL] at hi; omega
  have hj' : j = 0 ∨ j = 1 ∨ j = 2 ∨ j = 3 := by omega
  rw [heap_cell h]
  rcases hi' with rfl | rfl | rfl | rfl <;> rcases hj' with rfl | rfl | rfl | rfl <;> exact hu
theorem ex8_1 : walkF (fun _ => 0) 16 true 0 4 4096 allRt = ([((4 : Int), (4096 : Int), (0 : Int))], 1, noRt, 0, 0) := by decide +kernel
theorem ex8_2 : (walkF (builtM (tinyL.take 100)) 16 true 0 4 0 allRt).1.length = 4 ∧ (walkF (builtM (tinyL.take 100)) 16 true 0 4 0 allRt).2 = (0, allRt, 1, 16384) := by decide +kernel
end Go.Proofs.YtkfonacokamfiaaGreat
/- Plans whose loud operations may be guarded. -/
namespace Go.Proofs.YtkfonacokamfiaaGreat
open Go
def segG (l : List Oper) : Seg → Bool
 | .b is => calmB l is
 | .q is => calmB l is
 | .l i k => decide (i < l.length) && decide (2 ≤ k)
section
variable {P : Program} {l : List Oper} {Q : Exit → Act → World → Prop}
theorem mix_loudG {U : List (Nat × Nat)} {i k : Nat} {a : Act} {w : World} (hi : i < l.length) (hk : 2 ≤ k)
  (h : ∀ w1, Ext w w1 → wpList P l.toArray (Exit.then (fun a3 w3 => (k = 3 → Ext w w3) ∧ wpMix P l.toArray Q U a3 w3) (fun _ _ _ => False)) (pickL l [i]) a w1) : wpMix P l.toArray Q ((i, k) :: U) a w := by
 refine ⟨_, getD_some hi, fun hw => ⟨fun _ w1 hx => ?_, fun h2 => absurd h2 (by omega)⟩, fun hw => ?_⟩
 ·have := h w1 hx
  simp only [pickL, List.map_cons, List.map_nil, wpList] at this
  rw [if_pos hw] at this
  rcases this with this | ⟨_, _, _, hf⟩
  ·exact upon_mono (fun _ _ h' => h') (fun e _ _ h' => by cases e <;> first | exact h' | exact h'.elim) (upon_normal this)
  ·exact hf.elim
 ·have := h w (Ext.refl w)
  simp only [pickL, List.map_cons, List.map_nil, wpList] at this
  rw [if_neg (by rw [hw]; simp)] at this
  exact this.2
theorem plan_mixG : ∀ (t : List Seg) (a : Act) (w : World), t.all (segG l) = true → wpPlan P l Q t a w → wpMix P l.toArray Q (planOf t) a w
 | [], a, w, _, h => h
 | .b is :: t, a, w, hB, h => by
  simp only [List.all_cons, segG, Bool.and_eq_true] at hB
  exact mix_calm 0 (by omega) (C := fun _ => True) (fun _ _ => trivial) is a hB.1 (wpQuiet_post (fun a1 h1 => plan_mixG t a1 w hB.2 h1) _ _ h)
 | .q is :: t, a, w, hB, h => by
  simp only [List.all_cons, segG, Bool.and_eq_true] at hB
  exact mix_calm 1 (by omega) (C := fun w' => ∃ d, w' = wext w d) (fun w' h => grown_iff.2 (h.resolve_left (by omega))) is a hB.1 (wpQuiet_post (fun a1 h1 => plan_mixG t a1 w hB.2 h1) _ _ h)
 | .l i k :: t, a, w, hB, h => by
  simp only [List.all_cons, segG, Bool.and_eq_true, decide_eq_true_eq] at hB
  exact mix_loudG hB.1.1 hB.1.2 fun w1 hx => wpList_post (fun a3 w3 h3 => ⟨h3.1, plan_mixG t a3 w3 hB.2 h3.2⟩) _ _ _ (h w1 hx)
def planG (l : List Oper) (t : List Seg) : Bool :=
 let U := planOf t
 Region.noSelect l.toArray && t.all (segG l) && decide (U.length = l.length) && ((List.range l.length).all fun j => U.any fun x => x.1 == j) &&
  (U.all fun x => oneB1 l.toArray x) && pairB (relB l.toArray ((U.map (·.1)).foldl (closeStep l.toArray) [])) U
theorem region_mixG {id : Nat} {a : Act} {w : World} (t : List Seg) (hm : P.follows .mixedOrders = true) (hB : planG l t = true)
  (h : wpPlan P l Q t a w) : (Code.region id l.toArray true).wp P Q a w := by
 simp only [planG, Bool.and_eq_true, decide_eq_true_eq] at hB
 obtain ⟨⟨⟨⟨⟨h1, h2⟩, h4⟩, h5⟩, h6⟩, h7⟩ := hB
 refine wp_region_any hm ?_
 refine mix_any (n := l.toArray.size) h1 _ (planOf t) _ a w (by simpa using h4) (by simp) ?_ ?_ (pairB_ok h7) (fun x hx => List.all_eq_true.1 h6 x hx) (plan_mixG t a w h2 h) _ (Ext.drew (Ext.refl w))
 ·intro j hj
  rw [getD_replicate_false] at hj; cases hj
 ·intro j hj
  rw [getD_replicate_false]
  simp only [true_iff]
  have := List.all_eq_true.1 h5 j (List.mem_range.2 (by simpa using hj))
  obtain ⟨x, hx, hx2⟩ := List.any_eq_true.1 this
  exact ⟨x.2, by rw [beq_iff_eq] at hx2; rw [← hx2]; exact hx⟩
end
end Go.Proofs.YtkfonacokamfiaaGreat
/- Regions with several loud operations, of which some write blocks that the quiet ones do not look at: the quiet ones hold in all worlds of a relation. -/
namespace Go.Proofs.YtkfonacokamfiaaGreat
open Go.RowKit
section
variable {P : Program} {ops : Array Oper} {Q : Exit → Act → World → Prop} {Rw : World → World → Prop}
def wpMixR (Rw : World → World → Prop) (P : Program) (ops : Array Oper) (Q : Exit → Act → World → Prop) : List (Nat × Nat) → Act → World → Prop
 | [], a, w => ∀ w1, Ext w w1 → Q .normal a w1
 | (i, k) :: U, a, w => ∃ o, ops[i]? = some o ∧
  (Region.wanted o (yielded ops a.tmps) = true →
   (2 ≤ k → ∀ w1, Ext w w1 → o.wp P a w1 (fun a' w' => (k = 3 → Rw w w') ∧ wpMixR Rw P ops Q U a' w') (fun _ _ _ => False)) ∧
   (k < 2 → ∃ v, (∀ w', (k = 0 ∨ Rw w w') → (execOp a.eval o).run P w' = .ok (.value v) w') ∧ wpMixR Rw P ops Q U (a.put o.dst v) w)) ∧
  (Region.wanted o (yielded ops a.tmps) = false → wpMixR Rw P ops Q U (a.put o.dst undef) w)
theorem mix_congR {x : Nat × Nat} {L L' : List (Nat × Nat)} (h : ∀ a w, wpMixR Rw P ops Q L a w → wpMixR Rw P ops Q L' a w) (a : Act) (w : World) (hm : wpMixR Rw P ops Q (x :: L) a w) : wpMixR Rw P ops Q (x :: L') a w := by
 obtain ⟨i, k⟩ := x
 obtain ⟨o, ho, h1, h2⟩ := hm
 refine ⟨o, ho, fun hw => ⟨fun hk w1 hx => upon_mono (fun a w hh => ⟨hh.1, h a w hh.2⟩) (fun _ _ _ hf => hf) ((h1 hw).1 hk w1 hx), fun hk => ?_⟩, fun hw => h _ _ (h2 hw)⟩
 obtain ⟨v, a1, a3⟩ := (h1 hw).2 hk
 exact ⟨v, a1, h _ _ a3⟩
variable (Rr : ∀ {a b}, Ext a b → Rw a b) (Rt : ∀ {a b c}, Rw a b → Rw b c → Rw a c)
include Rr Rt
theorem mix_swapR {q kq i k : Nat} {R : List (Nat × Nat)} {oq oi : Oper} (hsel : Region.noSelect ops = true) (hq : ops[q]? = some oq) (hi : ops[i]? = some oi) (hap : oq.apart ops oi = true) (hkq : kq < 2) (hk : k = 2 → kq = 0) (hk3 : k ≤ 3)
  (a : Act) (w : World) (hm : wpMixR Rw P ops Q ((q, kq) :: (i, k) :: R) a w) : wpMixR Rw P ops Q ((i, k) :: (q, kq) :: R) a w := by
 obtain ⟨p1, p2, p3⟩ := Oper.apart_spec hap
 have si := fun cs b => Region.noSelect_spec hsel i oi cs b hi
 have sq := fun cs b => Region.noSelect_spec hsel q oq cs b hq
 have wi : ∀ (a : Act) v, Region.wanted oi (yielded ops (a.put oq.dst v).tmps) = Region.wanted oi (yielded ops a.tmps) := fun a v => wanted_put oi a oq.dst v p1
 have wq : ∀ (a : Act) v, Region.wanted oq (yielded ops (a.put oi.dst v).tmps) = Region.wanted oq (yielded ops a.tmps) := fun a v => wanted_put oq a oi.dst v p3
 have ei : ∀ (a : Act) v, execOp (a.put oq.dst v).eval oi = execOp a.eval oi := fun a v => execOp_put oi si a oq.dst v p1
 have eq : ∀ (a : Act) v, execOp (a.put oi.dst v).eval oq = execOp a.eval oq := fun a v => execOp_put oq sq a oi.dst v p3
 have pc : ∀ (a : Act) v u, (a.put oq.dst v).put oi.dst u = (a.put oi.dst u).put oq.dst v := fun a v u => Act.put_comm a v u p2
 obtain ⟨oq', hq', h1, h2⟩ := hm
 obtain rfl : oq' = oq := Option.some.inj (hq'.symm.trans hq)
 -- what the first one leaves, and that it leaves it from any frame that has the second one's value too
 have key : ∃ vq, wpMixR Rw P ops Q ((i, k) :: R) (a.put oq'.dst vq) w ∧ ∀ (u : Value) (D : List Deferred) (w' : World), (kq = 0 ∨ Rw w w') →
   wpMixR Rw P ops Q R ({ (a.put oi.dst u).put oq'.dst vq with defers := D }) w' → wpMixR Rw P ops Q ((q, kq) :: R) ({ a.put oi.dst u with defers := D }) w' := by
  cases hw : Region.wanted oq' (yielded ops a.tmps) with
  | true =>
   obtain ⟨vq, b0, hmix⟩ := (h1 hw).2 hkq
   refine ⟨vq, hmix, fun u D w' hw' hR => ⟨oq', hq, fun _ => ⟨fun h => absurd h (by omega), fun _ => ⟨vq, fun w2 h0 => ?_, ?_⟩⟩, fun hf => ?_⟩⟩
   ·have := b0 w2 (by
     rcases h0 with h0 | h0
     ·exact .inl h0
     ·rcases hw' with h1 | h1
      ·exact .inl h1
      ·exact .inr (Rt h1 h0))
    rw [← eq a u] at this
    exact this
   ·rw [put_defers]; exact hR
   ·exfalso
    have : Region.wanted oq' (yielded ops (a.put oi.dst u).tmps) = false := hf
    rw [wq, hw] at this; cases this
  | false =>
   refine ⟨undef, h2 hw, fun u D w' _ hR => ⟨oq', hq, fun ht => ?_, fun _ => ?_⟩⟩
   ·exfalso
    have : Region.wanted oq' (yielded ops (a.put oi.dst u).tmps) = true := ht
    rw [wq, hw] at this; cases this
   ·rw [put_defers]; exact hR
 obtain ⟨vq, hmix, hback⟩ := key
 obtain ⟨oi', hi', g1, g2⟩ := hmix
 obtain rfl : oi' = oi := Option.some.inj (hi'.symm.trans hi)
 refine ⟨oi', hi, fun hw => ⟨fun h2 w1 hx => ?_, fun h2 => ?_⟩, fun hw => ?_⟩
 · -- loud
  have hl := (g1 (by rw [wi]; exact hw)).1 h2 w1 hx
  unfold Oper.wp at hl ⊢
  rw [ei] at hl
  generalize (execOp a.eval oi').run P w1 = r at hl ⊢
  have bk : ∀ (u : Value) (D : List Deferred) (w' : World), ((k = 3 → Rw w w') ∧ wpMixR Rw P ops Q R ({ (a.put oq'.dst vq).put oi'.dst u with defers := D }) w') →
    (k = 3 → Rw w w') ∧ wpMixR Rw P ops Q ((q, kq) :: R) ({ a.put oi'.dst u with defers := D }) w' := fun u D w' hR => by
   refine ⟨hR.1, ?_⟩
   have hR := hR.2
   rw [pc] at hR
   refine hback u D w' ?_ hR
   by_cases h3 : k = 3
   ·exact .inr (‹(k = 3 → Rw w w') ∧ _›.1 h3)
   ·exact .inl (hk (by omega))
  cases r with
  | ok nx w2 =>
   cases nx with
   | value v => exact bk v (a.put oi'.dst v).defers w2 (by have : (a.put oi'.dst v).defers = ((a.put oq'.dst vq).put oi'.dst v).defers := (by cases oi'.dst <;> cases oq'.dst <;> rfl); rw [this]; exact hl)
   | skip => exact bk undef (a.put oi'.dst undef).defers w2 (by have : (a.put oi'.dst undef).defers = ((a.put oq'.dst vq).put oi'.dst undef).defers := (by cases oi'.dst <;> cases oq'.dst <;> rfl); rw [this]; exact hl)
   | defer d =>
    have hl' : (k = 3 → Rw w w2) ∧ wpMixR Rw P ops Q R (({ a.put oq'.dst vq with defers := d :: (a.put oq'.dst vq).defers } : Act).put oi'.dst undef) w2 := hl
    rw [put_defers] at hl'
    have hd : (a.put oq'.dst vq).defers = a.defers := by cases oq'.dst <;> rfl
    rw [hd] at hl'
    show (k = 3 → Rw w w2) ∧ wpMixR Rw P ops Q ((q, kq) :: R) (({ a with defers := d :: a.defers } : Act).put oi'.dst undef) w2
    rw [put_defers]
    exact bk undef (d :: a.defers) w2 hl'
   | enter f args =>
    exact Calls.mono hl fun e w3 h3 => by
     cases e with
     | returned v => exact bk v (a.put oi'.dst v).defers w3 (by have : (a.put oi'.dst v).defers = ((a.put oq'.dst vq).put oi'.dst v).defers := (by cases oi'.dst <;> cases oq'.dst <;> rfl); rw [this]; exact h3)
     | panicked c => exact h3
     | outgrown => exact h3
   | row rw args => exact Rows.mono hl fun v w3 h3 => bk v (a.put oi'.dst v).defers w3 (by have : (a.put oi'.dst v).defers = ((a.put oq'.dst vq).put oi'.dst v).defers := (by cases oi'.dst <;> cases oq'.dst <;> rfl); rw [this]; exact h3)
   | _ => exact hl
  | halt x w2 =>
   cases x with
   | panic v => exact hl
   | _ => exact hl
 ·obtain ⟨v, c0, hR⟩ := (g1 (by rw [wi]; exact hw)).2 h2
  refine ⟨v, fun w' h0 => ?_, ?_⟩
  ·have := c0 w' h0; rwa [ei] at this
  ·rw [pc] at hR
   exact hback v (a.put oi'.dst v).defers w (.inr (Rr (Ext.refl w))) (by
    have : (a.put oi'.dst v).defers = ((a.put oi'.dst v).put oq'.dst vq).defers := (by cases oi'.dst <;> cases oq'.dst <;> rfl)
    rw [this]; exact hR)
 ·have hR := g2 (by rw [wi]; exact hw)
  rw [pc] at hR
  exact hback undef (a.put oi'.dst undef).defers w (.inr (Rr (Ext.refl w))) (by
   have : (a.put oi'.dst undef).defers = ((a.put oi'.dst undef).put oq'.dst vq).defers := (by cases oi'.dst <;> cases oq'.dst <;> rfl)
   rw [this]; exact hR)
theorem mix_pullR (hsel : Region.noSelect ops = true) {i k : Nat} {oi : Oper} (hk3 : k ≤ 3) (hi : ops[i]? = some oi) {post : List (Nat × Nat)} : ∀ (pre : List (Nat × Nat)),
  (∀ q ∈ pre, q.2 < 2 ∧ (k = 2 → q.2 = 0) ∧ ∃ oq, ops[q.1]? = some oq ∧ oq.apart ops oi = true) → ∀ a w, wpMixR Rw P ops Q (pre ++ (i, k) :: post) a w → wpMixR Rw P ops Q ((i, k) :: (pre ++ post)) a w
 | [], _, _, _, h => h
 | (q, kq) :: pre, hp, a, w, h => by
  obtain ⟨h1, h2, oq, h3, h4⟩ := hp (q, kq) (List.mem_cons_self ..)
  exact mix_swapR Rr Rt hsel h3 hi h4 h1 h2 hk3 a w (mix_congR (mix_pullR hsel hk3 hi pre (fun x hx => hp x (List.mem_cons_of_mem _ hx))) a w h)
theorem mix_anyR (hsel : Region.noSelect ops = true) (ord : List Nat) : ∀ (n : Nat) (U : List (Nat × Nat)) (seen : Array Bool) (a : Act) (w : World), U.length = n → seen.size = ops.size → Shut ops seen →
  (∀ j, j < ops.size → (seen.getD j false = false ↔ ∃ k, (j, k) ∈ U)) → U.Pairwise (fun x y => relB ops (ord.foldl (closeStep ops) []) x y = true) → (∀ x ∈ U, oneB1 ops x = true) →
  wpMixR Rw P ops Q U a w → ∀ w1, Ext w w1 → wpAny P .any ops Q n seen a w1 := by
 intro n
 induction n with
 | zero =>
  intro U seen a w hU hsz _ hin _ _ hm w1 hx
  obtain rfl : U = [] := List.length_eq_zero_iff.1 hU
  refine ⟨?_, hm w1 hx⟩
  apply List.eq_nil_iff_forall_not_mem.2
  intro j hj
  obtain ⟨h0, o, ho, _⟩ := mem_ready.1 hj
  obtain ⟨k, hk⟩ := (hin j (Array.getElem?_eq_some_iff.1 ho).1).1 (getD_both h0)
  cases hk
 | succ n ih =>
  intro U seen a w hU hsz hshut hin hpw hone hm w1 hx
  have listed : ∀ j, j < ops.size → (¬ ∃ k, (j, k) ∈ U) → seen.getD j false = true := fun j hj hn => by
   cases h : seen.getD j false with
   | true => rfl
   | false => exact absurd ((hin j hj).1 h) hn
  constructor
  ·intro h0
   exfalso
   match U, hU, hm with
   | (i, k) :: U', _, hm =>
    obtain ⟨o, ho, _⟩ := hm
    have hil : i < ops.size := (Array.getElem?_eq_some_iff.1 ho).1
    have : i ∈ Region.ready .any ops seen := mem_ready.2 ⟨getD_in (by omega) ((hin i hil).2 ⟨k, List.mem_cons_self ..⟩), o, ho, fun e he hb => by
     have h1 := hone (i, k) (List.mem_cons_self ..)
     simp only [oneB1, List.all_eq_true, Bool.and_eq_true, decide_eq_true_eq, bne_iff_ne] at h1
     replace h1 := h1.1
     have hd : e.on ∈ depsOf ops i := (mem_depsOf ho).2 ⟨e, he, hb, rfl⟩
     refine listed e.on (h1 _ hd).1 fun ⟨k', hk'⟩ => ?_
     rcases List.mem_cons.1 hk' with hk' | hk'
     ·exact (h1 _ hd).2 (Prod.mk.inj hk').1
     ·have := (List.pairwise_cons.1 hpw).1 _ hk'
      simp only [relB, Bool.and_eq_true, Bool.not_eq_true'] at this
      have h2 := this.1.1.1.2
      rw [List.contains_eq_mem] at h2
      simp [hd] at h2⟩
    rw [h0] at this; cases this
  ·intro i hi
   obtain ⟨hun, oi, hoi, hall⟩ := mem_ready.1 hi
   have hil : i < ops.size := (Array.getElem?_eq_some_iff.1 hoi).1
   obtain ⟨k, hk⟩ := (hin i hil).1 (getD_both hun)
   obtain ⟨pre, post, rfl⟩ := List.append_of_mem hk
   have hdeps : ∀ d ∈ depsOf ops i, seen.getD d false = true := fun d hd => by
    obtain ⟨e, he, hb, rfl⟩ := (mem_depsOf hoi).1 hd
    exact hall e he hb
   have hpre : ∀ q ∈ pre, q.2 < 2 ∧ (k = 2 → q.2 = 0) ∧ ∃ oq, ops[q.1]? = some oq ∧ oq.apart ops oi = true := fun q hq => by
    have hrel := (List.pairwise_append.1 hpw).2.2 q hq (i, k) (List.mem_cons_self ..)
    simp only [relB, Bool.and_eq_true, Bool.or_eq_true, Bool.not_eq_true', bne_iff_ne, ne_eq, beq_iff_eq, decide_eq_true_eq] at hrel
    obtain ⟨⟨⟨⟨r1, r2⟩, r3⟩, r4⟩, _⟩ := hrel
    have hqun : seen.getD q.1 false = false := by
     cases h : ops[q.1]? with
     | none =>
      rw [h] at r1
      rcases r1 with r1 | r1
      ·have : q.1 ∈ depsOf ops i := by simpa using r1
       have h1 := hone (i, k) (by simp)
       simp only [oneB1, List.all_eq_true, Bool.and_eq_true, decide_eq_true_eq] at h1
       replace h1 := h1.1
       have := (h1 _ this).1
       exact (hin q.1 this).2 ⟨q.2, by simp [hq]⟩
      ·cases r1
     | some oq => exact (hin q.1 (Array.getElem?_eq_some_iff.1 h).1).2 ⟨q.2, by simp [hq]⟩
    have hnd : q.1 ∉ depsOf ops i := fun hd => by rw [hdeps _ hd] at hqun; cases hqun
    have hnw : ¬ waitsB (ord.foldl (closeStep ops) []) i q.1 = true := fun hw => by
     rw [waitsB_ok hw seen hshut hdeps] at hqun; cases hqun
    refine ⟨?_, fun h2 => ?_, ?_⟩
    ·rcases r3 with r3 | r3
     ·exact r3
     ·exact absurd r3 hnw
    ·rcases r4 with (r4 | r4) | r4
     ·exact absurd h2 r4
     ·exact r4
     ·exact absurd r4 hnw
    ·rcases r1 with r1 | r1
     ·exact absurd (by simpa using r1) hnd
     ·cases h : ops[q.1]? with
      | none => rw [h] at r1; cases r1
      | some oq => rw [h, hoi] at r1; exact ⟨oq, rfl, r1⟩
   have hk3 : k ≤ 3 := by
    have h1 := hone (i, k) hk
    simp only [oneB1, Bool.and_eq_true, decide_eq_true_eq] at h1
    exact h1.2
   have hpull := mix_pullR Rr Rt hsel hk3 hoi pre hpre a w hm
   obtain ⟨o', ho', b1, b2⟩ := hpull
   obtain rfl : o' = oi := Option.some.inj (ho'.symm.trans hoi)
   have hsub : (pre ++ post).Sublist (pre ++ (i, k) :: post) := List.Sublist.append_left (List.sublist_cons_self _ _) _
   have cont : ∀ a' w', wpMixR Rw P ops Q (pre ++ post) a' w' → ∀ w2, Ext w' w2 → wpAny P .any ops Q n (seen.setIfInBounds i true) a' w2 := fun a' w' h' w2 hx2 => by
    refine ih (pre ++ post) _ a' w' (by simp at hU ⊢; omega) (by simp [hsz]) (fun j hj d hd => ?_) (fun j hj => ?_) (hpw.sublist hsub) (fun x hx => hone x (hsub.subset hx)) h' w2 hx2
    ·by_cases hij : i = j
     ·subst hij; exact getD_set_true (hdeps d hd)
     ·rw [getD_set_ne false hij] at hj
      exact getD_set_true (hshut j hj d hd)
    ·by_cases hij : i = j
     ·subst hij
      constructor
      ·intro hf
       exfalso
       have : (seen.setIfInBounds i true).getD i false = true := by simp [show i < seen.size by omega]
       rw [this] at hf; cases hf
      ·rintro ⟨k', hk'⟩
       exfalso
       have hp2 := List.pairwise_append.1 hpw
       rcases List.mem_append.1 hk' with hk' | hk'
       ·have := hp2.2.2 _ hk' (i, k) (List.mem_cons_self ..)
        simp [relB] at this
       ·have := (List.pairwise_cons.1 hp2.2.1).1 _ hk'
        simp [relB] at this
     ·rw [getD_set_ne false hij, hin j hj]
      constructor
      ·rintro ⟨k', hk'⟩
       refine ⟨k', ?_⟩
       rcases List.mem_append.1 hk' with hk' | hk'
       ·exact List.mem_append.2 (.inl hk')
       ·rcases List.mem_cons.1 hk' with hk' | hk'
        ·exact absurd (Prod.mk.inj hk').1.symm hij
        ·exact List.mem_append.2 (.inr hk')
      ·rintro ⟨k', hk'⟩; exact ⟨k', hsub.subset hk'⟩
   unfold wpOp
   simp only [hoi]
   cases hw : Region.wanted o' (yielded ops a.tmps) with
   | false =>
    simp only [Bool.false_eq_true, if_false]
    exact cont _ _ (b2 hw) w1 hx
   | true =>
    simp only [if_true]
    refine .inl ?_
    by_cases h2 : 2 ≤ k
    ·exact upon_mono (fun a' w' h' => cont a' w' h'.2 w' (Ext.refl _)) (fun _ _ _ hf => hf.elim) ((b1 hw).1 h2 w1 hx)
    ·obtain ⟨v, c0, hR⟩ := (b1 hw).2 (by omega)
     unfold Oper.wp
     rw [c0 w1 (.inr (Rr hx))]
     exact cont _ _ hR w1 hx
end
def wpPlanR (Rw : World → World → Prop) (P : Program) (l : List Oper) (Q : Exit → Act → World → Prop) : List Seg → Act → World → Prop
 | [], a, w => ∀ w1, Ext w w1 → Q .normal a w1
 | .b is :: t, a, w => wpQuiet P l.toArray (fun _ => True) (fun a1 => wpPlanR Rw P l Q t a1 w) (pickL l is) a
 | .q is :: t, a, w => wpQuiet P l.toArray (fun w' => Rw w w') (fun a1 => wpPlanR Rw P l Q t a1 w) (pickL l is) a
 | .l i k :: t, a, w => ∀ w1, Ext w w1 → wpList P l.toArray (Exit.then (fun a3 w3 => (k = 3 → Rw w w3) ∧ wpPlanR Rw P l Q t a3 w3) (fun _ _ _ => False)) (pickL l [i]) a w1
section
variable {P : Program} {l : List Oper} {Q : Exit → Act → World → Prop} {Rw : World → World → Prop} (Rr : ∀ {a b}, Ext a b → Rw a b) (Rt : ∀ {a b c}, Rw a b → Rw b c → Rw a c)
include Rr Rt
omit Rr Rt in
theorem mix_calmR {U : List (Nat × Nat)} (k : Nat) (hk : k < 2) {w : World} {C : World → Prop} (hC : ∀ w', (k = 0 ∨ Rw w w') → C w') : ∀ (is : List Nat) (a : Act), calmB l is = true →
  wpQuiet P l.toArray C (fun a' => wpMixR Rw P l.toArray Q U a' w) (pickL l is) a → wpMixR Rw P l.toArray Q (is.map (·, k) ++ U) a w
 | [], a, _, h => h
 | i :: is, a, hB, h => by
  simp only [calmB, List.all_cons, Bool.and_eq_true, decide_eq_true_eq] at hB
  refine ⟨_, getD_some hB.1.1, fun hw => ⟨fun h2 => absurd h2 (by omega), fun _ => ?_⟩, fun hw => ?_⟩
  ·simp only [pickL, List.map_cons, wpQuiet] at h
   rw [if_pos hw] at h
   obtain ⟨v, h1, h2⟩ := h
   exact ⟨v, fun w' h0 => calm_run hB.1.2 (h1 w' (hC w' h0)), mix_calmR k hk hC is _ hB.2 h2⟩
  ·simp only [pickL, List.map_cons, wpQuiet] at h
   rw [if_neg (by rw [hw]; simp)] at h
   exact mix_calmR k hk hC is _ hB.2 h
omit Rr Rt in
theorem mix_loudGR {U : List (Nat × Nat)} {i k : Nat} {a : Act} {w : World} (hi : i < l.length) (hk : 2 ≤ k)
  (h : ∀ w1, Ext w w1 → wpList P l.toArray (Exit.then (fun a3 w3 => (k = 3 → Rw w w3) ∧ wpMixR Rw P l.toArray Q U a3 w3) (fun _ _ _ => False)) (pickL l [i]) a w1) : wpMixR Rw P l.toArray Q ((i, k) :: U) a w := by
 refine ⟨_, getD_some hi, fun hw => ⟨fun _ w1 hx => ?_, fun h2 => absurd h2 (by omega)⟩, fun hw => ?_⟩
 ·have := h w1 hx
  simp only [pickL, List.map_cons, List.map_nil, wpList] at this
  rw [if_pos hw] at this
  rcases this with this | ⟨_, _, _, hf⟩
  ·exact upon_mono (fun _ _ h' => h') (fun e _ _ h' => by cases e <;> first | exact h' | exact h'.elim) (upon_normal this)
  ·exact hf.elim
 ·have := h w (Ext.refl w)
  simp only [pickL, List.map_cons, List.map_nil, wpList] at this
  rw [if_neg (by rw [hw]; simp)] at this
  exact this.2
omit Rr Rt in
theorem plan_mixGR : ∀ (t : List Seg) (a : Act) (w : World), t.all (segG l) = true → wpPlanR Rw P l Q t a w → wpMixR Rw P l.toArray Q (planOf t) a w
 | [], a, w, _, h => h
 | .b is :: t, a, w, hB, h => by
  simp only [List.all_cons, segG, Bool.and_eq_true] at hB
  exact mix_calmR 0 (by omega) (C := fun _ => True) (fun _ _ => trivial) is a hB.1 (wpQuiet_post (fun a1 h1 => plan_mixGR t a1 w hB.2 h1) _ _ h)
 | .q is :: t, a, w, hB, h => by
  simp only [List.all_cons, segG, Bool.and_eq_true] at hB
  exact mix_calmR 1 (by omega) (C := fun w' => Rw w w') (fun w' h => h.resolve_left (by omega)) is a hB.1 (wpQuiet_post (fun a1 h1 => plan_mixGR t a1 w hB.2 h1) _ _ h)
 | .l i k :: t, a, w, hB, h => by
  simp only [List.all_cons, segG, Bool.and_eq_true, decide_eq_true_eq] at hB
  exact mix_loudGR hB.1.1 hB.1.2 fun w1 hx => wpList_post (fun a3 w3 h3 => ⟨h3.1, plan_mixGR t a3 w3 hB.2 h3.2⟩) _ _ _ (h w1 hx)
theorem region_mixGR {id : Nat} {a : Act} {w : World} (t : List Seg) (hm : P.follows .mixedOrders = true) (hB : planG l t = true)
  (h : wpPlanR Rw P l Q t a w) : (Code.region id l.toArray true).wp P Q a w := by
 simp only [planG, Bool.and_eq_true, decide_eq_true_eq] at hB
 obtain ⟨⟨⟨⟨⟨h1, h2⟩, h4⟩, h5⟩, h6⟩, h7⟩ := hB
 refine wp_region_any hm ?_
 refine mix_anyR Rr Rt (n := l.toArray.size) h1 _ (planOf t) _ a w (by simpa using h4) (by simp) ?_ ?_ (pairB_ok h7) (fun x hx => List.all_eq_true.1 h6 x hx) (plan_mixGR t a w h2 h) _ (Ext.drew (Ext.refl w))
 ·intro j hj
  rw [getD_replicate_false] at hj; cases hj
 ·intro j hj
  rw [getD_replicate_false]
  simp only [true_iff]
  have := List.all_eq_true.1 h5 j (List.mem_range.2 (by simpa using hj))
  obtain ⟨x, hx, hx2⟩ := List.any_eq_true.1 this
  exact ⟨x.2, by rw [beq_iff_eq] at hx2; rw [← hx2]; exact hx⟩
end
end Go.Proofs.YtkfonacokamfiaaGreat
/- Regions of which a loud operation writes a list of blocks that the quiet ones do not look at. -/
namespace Go.Proofs.YtkfonacokamfiaaGreat
open Go.RowKit
noncomputable def wk (F : List Nat) (w d : World) : World := open Classical in if Keeps F w d then d else w
theorem wk_keeps (F : List Nat) (w d : World) : Keeps F w (wk F w d) := by
 unfold wk; split
 ·assumption
 ·exact Keeps.refl F w
theorem wk_of {F : List Nat} {w d : World} (h : Keeps F w d) : d = wk F w d := by unfold wk; rw [if_pos h]
theorem wk_cell {F : List Nat} {w : World} {b o : Nat} {v : Value} (hb : b < w.heap.size) (hn : b ∉ F) (h : w.cell? ⟨b, o, none⟩ = some v) : ∀ d, (wk F w d).cell? ⟨b, o, none⟩ = some v := fun d => by
 rw [cell_heap, (wk_keeps F w d).block b hb hn, ← cell_heap]; exact h
theorem quiet_wk {P : Program} {ops : Array Oper} {F : List Nat} {w : World} {Q : Act → Prop} {l : List Oper} {a : Act} (h : wpQuiet P ops (fun w' => ∃ d, w' = wk F w d) Q l a) : wpQuiet P ops (fun w' => Keeps F w w') Q l a := by
 have : (fun w' => Keeps F w w') = fun w' => ∃ d, w' = wk F w d := by
  funext w'
  exact propext ⟨fun h => ⟨w', wk_of h⟩, fun ⟨d, h⟩ => h ▸ wk_keeps F w d⟩
 rw [this]; exact h
end Go.Proofs.YtkfonacokamfiaaGreat
/- Psc's laws: a memory and caches of tables side by side; caches behind walks to some addresses. -/
namespace Go.Proofs.YtkfonacokamfiaaGreat
set_option linter.unusedVariables false
set_option linter.unusedSimpArgs false
open Go.RowKit
attribute [local go_sem] wext_cell wext_frozen wext_heap alloc_cell alloc_frozen alloc_heap setCell_cell objCell_cells objFrozen_cells
structure Both (w : World) (mb : Nat) (Fm : List Nat) (M : Int → Int) (T : List Int) (pb : Nat) (cb : Int → Nat) (F : Int → List Nat) (C : Int → Lines) (r : Nat) : Prop where
 mem : MemAt w mb Fm 16 M T
 psc : PscAt w pb cb F C r
 sep : ∀ x ∈ Fm, x ∉ allF F
section
variable {w w' : World} {mb : Nat} {Fm : List Nat} {M M' : Int → Int} {T T' : List Int} {pb : Nat} {cb : Int → Nat} {F : Int → List Nat} {C C' : Int → Lines} {r : Nat}
theorem Both.ext (h : Both w mb Fm M T pb cb F C r) (k : Ext w w') : Both w' mb Fm M T pb cb F C r := ⟨h.mem.ext k, h.psc.ext k, h.sep⟩
theorem Both.after_mem (h : Both w mb Fm M T pb cb F C r) (e : EndMem mb Fm w 16 M' T' w') : ∃ Fm', Both w' mb Fm' M' T' pb cb F C r ∧ Keeps Fm w w' ∧ ∀ x ∈ Fm', x ∈ Fm ∨ w.heap.size ≤ x := by
 obtain ⟨F', m, k, f⟩ := e
 refine ⟨F', ⟨m, h.psc.keeps k (fun x hx hm => h.sep x hm hx) (h.mem.apart h.psc.head (by decide) (by decide) (by decide)), fun x hx hp => ?_⟩, k, f⟩
 rcases f x hx with q | q
 ·exact h.sep x q hp
 ·have := h.psc.lt x hp; omega
theorem Both.after_psc (h : Both w mb Fm M T pb cb F C r) (e : ∃ F', PscAt w' pb cb F' C' r ∧ Keeps (allF F) w w' ∧ ∀ x ∈ allF F', x ∈ allF F ∨ w.heap.size ≤ x) :
  ∃ F', Both w' mb Fm M T pb cb F' C' r ∧ Keeps (allF F) w w' ∧ ∀ x ∈ allF F', x ∈ allF F ∨ w.heap.size ≤ x := by
 obtain ⟨F', m, k, f⟩ := e
 refine ⟨F', ⟨h.mem.keeps k (fun x hx hm => h.sep x hx hm), m, fun x hx hp => ?_⟩, k, f⟩
 rcases f x hp with q | q
 ·exact h.sep x hx q
 ·have := h.mem.lt x hx; omega
end
theorem walk_steps_ok {M : Int → Int} (hM : ∀ s, 0 ≤ M s ∧ M s ≤ 18446744073709551615) {a t : Int} {n : Nat} {rt : Rt} : ∀ i, i < (walkF M 16 true a n t rt).1.length → 0 ≤ (stpAt (walkF M 16 true a n t rt).1 i).2.2 ∧ (stpAt (walkF M 16 true a n t rt).1 i).2.2 ≤ 18446744073709551615 := fun i hi => by
 have hx : (walkF M 16 true a n t rt).1[i]? = some (stpAt (walkF M 16 true a n t rt).1 i) := by simp [stpAt, List.getD, hi]
 exact (walk_at hM hx).2.2
theorem walk_len {M : Int → Int} {B : Int} {nxe : Bool} {a : Int} : ∀ (n : Nat) (t : Int) (rt : Rt), (walkF M B nxe a n t rt).1.length ≤ n
 | 0, _, _ => by simp [walkF]
 | n + 1, t, rt => by
  unfold walkF
  split
  ·split
   ·split
    ·simp
    ·split
     ·simp
     ·simp only [List.length_cons]; have := walk_len (M := M) (B := B) (nxe := nxe) (a := a) n (tabI (M (slotI t a ((n : Int) + 1) / 8))) (andR rt (M (slotI t a ((n : Int) + 1) / 8))); omega
   ·simp
  ·simp
def U32.cells (n : Int) : List Value := [.int .u32 n]
def U32.ok (n : Int) : Prop := 0 ≤ n ∧ n ≤ 4294967295
def EndWarm (mb : Nat) (Fm : List Nat) (M : Int → Int) (T : List Int) (r : Nat) (ns : List Int) (w : World) (e : Ending) (w' : World) : Prop :=
 ∃ pb cb F Fm' T', e = .returned (.pointer (some ⟨pb, 0, none⟩)) ∧ Both w' mb Fm' M T' pb cb F (warmP M r ns (min ns.length 20)) r ∧ Keeps Fm w w' ∧ (∀ x ∈ Fm', x ∈ Fm ∨ w.heap.size ≤ x) ∧ (∀ x ∈ allF F, w.heap.size ≤ x) ∧ w.heap.size ≤ pb ∧ T'.length ≤ T.length + 80
structure WarmTo (w : World) (mb : Nat) (Fm : List Nat) (M : Int → Int) (T : List Int) (pb : Nat) (cb : Int → Nat) (r : Nat) (ns : List Int) (i : Nat) (wr : World) (Fm' : List Nat) (T' : List Int) (F : Int → List Nat) : Prop where
 both : Both wr mb Fm' M T' pb cb F (warmP M r ns i) r
 keep : Keeps Fm w wr
 own : ∀ x ∈ Fm', x ∈ Fm ∨ w.heap.size ≤ x
 new : ∀ x ∈ allF F, w.heap.size ≤ x
 len : T'.length ≤ T.length + 4 * i
end Go.Proofs.YtkfonacokamfiaaGreat
