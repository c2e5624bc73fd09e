/- Joined texts, part 26 of what the law stands on: each as its own head says. -/
import Derived.Test.YtkfonacokamfiaaPly25
import Derived.Test.YtkfonacokamfiaaPly4
/- The document's reserved bits; rights. -/
namespace Go.Proofs.Ytkfonacokamfiaa
set_option linter.unusedVariables false
set_option linter.unusedSimpArgs false
open Go.RowKit
attribute [local go_sem] wext_cell wext_frozen wext_heap alloc_cell alloc_frozen alloc_heap setCell_cell objCell_cells objFrozen_cells

set_option maxHeartbeats 1600000 in
theorem rAnd_c (a b c : Bool) (x : Int) (w : World) (hx : 0 ≤ x) (hx1 : x ≤ 18446744073709551615) :
    Calls Try.prog 49 #[.agg #[.bool a, .bool b, .bool c], .int .u64 x] w fun e w' =>
      e = .returned (.agg #[.bool (a && bitB x 1), .bool (b && bitB x 2), .bool (c && !bitB x 63)]) ∧ Ext w w' := by
  cases a <;> cases b <;> cases c
  all_goals
    go_enter Try.func49, Try.ntmps49
    go_upto_region 1 with (fail)
    refine region_ext_tail 20 (by kernel_rfl) (by kernel_rfl) ?_; simp only [List.take_succ_cons, List.take_zero, List.drop_succ_cons, List.drop_zero]; (repeat (go_big_quiet_step ((go_at_call 47; exact calls_wext (bit_c _ _ _ hx hx1 (by omega) (by omega)))))); refine wpQuiet_nil ?_; intro w1 hb; have ⟨hc, hf, hh, hs⟩ := hb.facts; try simp only [World.size_alloc, World.size_setCell, World.size_drew] at hs
    go_wp2
    refine bodyPost_ret (by simp [results, Try.results49, go_sem, *]; rfl) rfl ⟨by simp, (by repeat (first | exact Ext.refl _ | assumption | refine Ext.alloc ?_ _ | refine Ext.drew ?_ | refine Ext.setCell ?_ (by first | (simp; done) | (dsimp only; omega)) _ | refine Ext.trans ?_ (by assumption)))⟩

theorem gI_step (x i : Int) (k : Nat) (h0 : 0 ≤ x) (hi : 0 ≤ i) : (gI x i ((k : Int) + 1) != 0) = (bitB x i || gI x (i + 1) k != 0) := by
  unfold gI bitB
  obtain ⟨n, rfl⟩ : ∃ n : Nat, i = n := ⟨i.toNat, by omega⟩
  have e1 : pow2 ((n : Int) + 1) = pow2 n * 2 := by unfold pow2; rw [show ((n : Int) + 1).toNat = n + 1 by omega, show ((n : Int)).toNat = n by omega, Nat.pow_succ]; omega
  have e2 : pow2 ((k : Int) + 1) = 2 * pow2 k := by unfold pow2; rw [show ((k : Int) + 1).toNat = k + 1 by omega, show ((k : Int)).toNat = k by omega, Nat.pow_succ]; omega
  rw [e1, e2, ← Int.ediv_ediv_of_nonneg (by have := pow2_pos (n : Int); omega)]
  have hy : 0 ≤ x / pow2 n := Int.ediv_nonneg h0 (by have := pow2_pos (n : Int); omega)
  generalize x / pow2 n = y at hy
  have hp := pow2_pos (k : Int)
  generalize pow2 (k : Int) = p at hp
  have e3 : y % (2 * p) = y % 2 + 2 * (y / 2 % p) := by
    have h1 := Int.emod_add_mul_ediv y (2 * p)
    have h2 := Int.emod_add_mul_ediv (y / 2) p
    have h3 : y / (2 * p) = y / 2 / p := (Int.ediv_ediv_of_nonneg (by omega)).symm
    rw [h3, Int.mul_assoc] at h1
    omega
  have h4 := Int.emod_nonneg (y / 2) (b := p) (by omega)
  rw [e3]
  by_cases h5 : y % 2 = 1
  · simp [h5]; omega
  · have : y % 2 = 0 := by omega
    rw [this]
    by_cases h6 : y / 2 % p = 0
    · simp [h6]
    · have k1 : (2 * (y / 2 % p) != 0) = true := by rw [bne_iff_ne]; omega
      have k2 : (y / 2 % p != 0) = true := by rw [bne_iff_ne]; exact h6
      rw [k2]; simp; omega
theorem gI_zero (x i : Int) : (gI x i 0 != 0) = false := by unfold gI; rw [show pow2 0 = 1 from rfl, Int.emod_one]; rfl

def someB (x f t : Int) : Bool := gI x f (t + 1 - f) != 0
def resK (l : Int) (nxe : Bool) (sB s8 s17 q7 q63 : Bool) : Bool := sB || (q63 && !nxe) || (l == 4 && q7) || (l == 2 && q7 && s8) || (l == 3 && q7 && s17)
theorem resK_is (x l B : Int) (nxe : Bool) : resI x l B nxe = resK l nxe (someB x B 51) (someB x 13 20) (someB x 13 29) (bitB x 7) (bitB x 63) := by
  unfold someB resK
  rw [show (51 : Int) + 1 - B = 52 - B by omega]
  rfl
end Go.Proofs.Ytkfonacokamfiaa
/- Plans whose loud operations may be guarded. -/
namespace Go.Proofs.Ytkfonacokamfiaa
open Go

def segG (l : List Oper) : Seg → Bool
  | .b is => calmB l is
  | .q is => calmB l is
  | .l i k => decide (i < l.length) && decide (2 ≤ k)
section
variable {P : Program} {l : List Oper} {Q : Exit → Act → World → Prop}
theorem mix_loudG {U : List (Nat × Nat)} {i k : Nat} {a : Act} {w : World} (hi : i < l.length) (hk : 2 ≤ k)
    (h : ∀ w1, Ext w w1 → wpList P l.toArray (Exit.then (fun a3 w3 => (k = 3 → Ext w w3) ∧ wpMix P l.toArray Q U a3 w3) (fun _ _ _ => False)) (pickL l [i]) a w1) : wpMix P l.toArray Q ((i, k) :: U) a w := by
  refine ⟨_, getD_some hi, fun hw => ⟨fun _ w1 hx => ?_, fun h2 => absurd h2 (by omega)⟩, fun hw => ?_⟩
  · have := h w1 hx
    simp only [pickL, List.map_cons, List.map_nil, wpList] at this
    rw [if_pos hw] at this
    rcases this with this | ⟨_, _, _, hf⟩
    · exact upon_mono (fun _ _ h' => h') (fun e _ _ h' => by cases e <;> first | exact h' | exact h'.elim) (upon_normal this)
    · exact hf.elim
  · have := h w (Ext.refl w)
    simp only [pickL, List.map_cons, List.map_nil, wpList] at this
    rw [if_neg (by rw [hw]; simp)] at this
    exact this.2
theorem plan_mixG : ∀ (t : List Seg) (a : Act) (w : World), t.all (segG l) = true → wpPlan P l Q t a w → wpMix P l.toArray Q (planOf t) a w
  | [], a, w, _, h => h
  | .b is :: t, a, w, hB, h => by
    simp only [List.all_cons, segG, Bool.and_eq_true] at hB
    exact mix_calm 0 (by omega) (C := fun _ => True) (fun _ _ => trivial) is a hB.1 (wpQuiet_post (fun a1 h1 => plan_mixG t a1 w hB.2 h1) _ _ h)
  | .q is :: t, a, w, hB, h => by
    simp only [List.all_cons, segG, Bool.and_eq_true] at hB
    exact mix_calm 1 (by omega) (C := fun w' => ∃ d, w' = wext w d) (fun w' h => grown_iff.2 (h.resolve_left (by omega))) is a hB.1 (wpQuiet_post (fun a1 h1 => plan_mixG t a1 w hB.2 h1) _ _ h)
  | .l i k :: t, a, w, hB, h => by
    simp only [List.all_cons, segG, Bool.and_eq_true, decide_eq_true_eq] at hB
    exact mix_loudG hB.1.1 hB.1.2 fun w1 hx => wpList_post (fun a3 w3 h3 => ⟨h3.1, plan_mixG t a3 w3 hB.2 h3.2⟩) _ _ _ (h w1 hx)
def planG (l : List Oper) (t : List Seg) : Bool :=
  let U := planOf t
  Region.noSelect l.toArray && t.all (segG l) && decide (U.length = l.length) && ((List.range l.length).all fun j => U.any fun x => x.1 == j) &&
    (U.all fun x => oneB1 l.toArray x) && pairB (relB l.toArray ((U.map (·.1)).foldl (closeStep l.toArray) [])) U
theorem region_mixG {id : Nat} {a : Act} {w : World} (t : List Seg) (hm : P.follows .mixedOrders = true) (hB : planG l t = true)
    (h : wpPlan P l Q t a w) : (Code.region id l.toArray true).wp P Q a w := by
  simp only [planG, Bool.and_eq_true, decide_eq_true_eq] at hB
  obtain ⟨⟨⟨⟨⟨h1, h2⟩, h4⟩, h5⟩, h6⟩, h7⟩ := hB
  refine wp_region_any hm ?_
  refine mix_any (n := l.toArray.size) h1 _ (planOf t) _ a w (by simpa using h4) (by simp) ?_ ?_ (pairB_ok h7) (fun x hx => List.all_eq_true.1 h6 x hx) (plan_mixG t a w h2 h) _ (Ext.drew (Ext.refl w))
  · intro j hj
    rw [getD_replicate_false] at hj; cases hj
  · intro j hj
    rw [getD_replicate_false]
    simp only [true_iff]
    have := List.all_eq_true.1 h5 j (List.mem_range.2 (by simpa using hj))
    obtain ⟨x, hx, hx2⟩ := List.any_eq_true.1 this
    exact ⟨x.2, by rw [beq_iff_eq] at hx2; rw [← hx2]; exact hx⟩
end
end Go.Proofs.Ytkfonacokamfiaa
