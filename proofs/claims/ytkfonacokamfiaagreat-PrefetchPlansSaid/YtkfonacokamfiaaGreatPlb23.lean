/- Joined texts, part 23 of what the law stands on: each as its own head says. -/
import Derived.Test.YtkfonacokamfiaaGreatPlb21
import Derived.Test.YtkfonacokamfiaaGreatPlb22
import Derived.Test.YtkfonacokamfiaaGreatPlb8
import Derived.Test.YtkfonacokamfiaaGreatPlb6
/- Caches of tables behind walks to some addresses, plainly. -/
namespace Go.Proofs.YtkfonacokamfiaaGreat
set_option linter.unusedVariables false
set_option linter.unusedSimpArgs false
open Go.RowKit
attribute [local go_sem] wext_cell wext_frozen wext_heap alloc_cell alloc_frozen alloc_heap setCell_cell objCell_cells objFrozen_cells

def LineOk (M : Int → Int) (l : Int) (y : Key × Line) : Prop := y.1.p = 1 ∧ y.1.l = l ∧ ∀ b, tagP b l = y.1.t → Leads M b l y.2.f y.2.rt
def InvC (M : Int → Int) (C : Int → Lines) : Prop := ∀ l, 2 ≤ l → l ≤ 4 → ∀ y ∈ C l, LineOk M l y
/-- Where a walk begins. -/
def startF (d : Option (Int × Line)) : Int × Int × Rt := match d with | some y => (y.1 - 1, y.2.f, y.2.rt) | none => (4, 0, allRt)
theorem line_ok {M : Int → Int} {a l t : Int} {rt : Rt} (h : Good M a l t rt) : LineOk M l (kP 1 l a, lineP t rt) := ⟨rfl, rfl, fun b hb => h b hb⟩
theorem deep_good {M : Int → Int} {C : Int → Lines} {a l : Int} {x : Line} (h : InvC M C) (hd : deepF C 1 a = some (l, x)) : 2 ≤ l ∧ l ≤ 4 ∧ Good M a l x.f x.rt := by
  obtain ⟨l0, l1, hm, -⟩ := deepF_some hd
  refine ⟨l0, l1, fun b hb => (h l l0 l1 _ hm).2.2 b hb⟩
theorem start_good {M : Int → Int} {C : Int → Lines} {a : Int} (h : InvC M C) : ∃ n : Nat, 1 ≤ n ∧ n ≤ 4 ∧ (startF (deepF C 1 a)).1 = n ∧ Good M a ((n : Int) + 1) (startF (deepF C 1 a)).2.1 (startF (deepF C 1 a)).2.2 := by
  cases hd : deepF C 1 a with
  | none => exact ⟨4, by omega, by omega, rfl, good_top M a⟩
  | some y =>
    obtain ⟨l, x⟩ := y
    obtain ⟨l0, l1, hg⟩ := deep_good h hd
    refine ⟨(l - 1).toNat, by omega, by omega, ?_, ?_⟩
    · show l - 1 = _; omega
    · have : (((l - 1).toNat : Nat) : Int) + 1 = l := by omega
      rw [this]; exact hg
def warmStep (M : Int → Int) (r : Nat) (C : Int → Lines) (i : Nat) (n : Int) : Int → Lines :=
  fillF 1 (nearI n) (pkF n i 0) r (walkF M 16 true (nearI n) (startF (deepF C 1 (nearI n))).1.toNat (startF (deepF C 1 (nearI n))).2.1 (startF (deepF C 1 (nearI n))).2.2).1 (startF (deepF C 1 (nearI n))).2.2 C
def warmP (M : Int → Int) (r : Nat) (ns : List Int) : Nat → Int → Lines
  | 0 => fun _ => []
  | i + 1 => warmStep M r (warmP M r ns i) i (ns.getD i 0)
theorem warm_all {M : Int → Int} (hM : ∀ s, 0 ≤ M s ∧ M s ≤ 18446744073709551615) {r : Nat} {ns : List Int} {k : Nat} {Q : Int → Key × Line → Prop} (hQ : ∀ l y, Q l y → LineOk M l y)
    (hN : ∀ i, i < k → ∀ l t rt, 2 ≤ l → l ≤ 4 → Good M (nearI (ns.getD i 0)) l t rt → Q l (kP 1 l (nearI (ns.getD i 0)), lineP t rt)) : ∀ i, i ≤ k → ∀ l, 2 ≤ l → l ≤ 4 → ∀ y ∈ warmP M r ns i l, Q l y
  | 0, _, l, _, _, y, hy => by cases hy
  | i + 1, hi, l, l0, l1, y, hy => by
    have ih := warm_all hM (r := r) hQ hN i (by omega)
    obtain ⟨n, n1, n4, hn, hg⟩ := start_good (a := nearI (ns.getD i 0)) (C := warmP M r ns i) (M := M) (fun l l0 l1 y hy => hQ l y (ih l l0 l1 y hy))
    refine fill_all hM (pk := pkF (ns.getD i 0) i 0) (r := r) (fun l t rt l0 l1 _ _ hgd => hN i (by omega) l t rt l0 l1 hgd) n _ _ _ n4 hg ih l l0 l1 y ?_
    have : n = (startF (deepF (warmP M r ns i) 1 (nearI (ns.getD i 0)))).1.toNat := by rw [hn]; simp
    rw [this]
    exact hy
theorem warm_inv {M : Int → Int} (hM : ∀ s, 0 ≤ M s ∧ M s ≤ 18446744073709551615) {r : Nat} {ns : List Int} (i : Nat) : InvC M (warmP M r ns i) :=
  warm_all hM (k := i) (Q := LineOk M) (fun _ _ h => h) (fun _ _ l t rt _ _ h => line_ok h) i (Nat.le_refl _)
theorem warm_from {M : Int → Int} (hM : ∀ s, 0 ≤ M s ∧ M s ≤ 18446744073709551615) {r : Nat} {ns : List Int} (i : Nat) : ∀ l, 2 ≤ l → l ≤ 4 → ∀ y ∈ warmP M r ns i l, LineOk M l y ∧ ∃ j, j < i ∧ y.1.t = tagP (nearI (ns.getD j 0)) l :=
  warm_all hM (k := i) (Q := fun l y => LineOk M l y ∧ ∃ j, j < i ∧ y.1.t = tagP (nearI (ns.getD j 0)) l) (fun _ _ h => h.1) (fun j hj l t rt _ _ h => ⟨line_ok h, j, hj, rfl⟩) i (Nat.le_refl _)
/-- Lines of one PCID are not found for another one. -/
theorem deep_other {M : Int → Int} {C : Int → Lines} {p a : Int} (h : InvC M C) (hp : p ≠ 1) : deepF C p a = none :=
  deepF_none.2 fun l l0 l1 => by
    cases hh : hasK (kP p l a) (C l) with
    | false => rfl
    | true =>
      have := (h l l0 l1 _ (getLine_mem hh)).1
      exact absurd this hp
/-- From where Deepest says, a walk ends as a whole one does. -/
theorem deep_walk {M : Int → Int} {C : Int → Lines} {a l : Int} {x : Line} (h : InvC M C) (hd : deepF C 1 a = some (l, x)) : 2 ≤ l ∧ l ≤ 4 ∧ 0 ≤ x.f ∧ x.f ≤ 18446744073709551615 ∧
    ∃ pre : List Stp, (pre.length : Int) = 5 - l ∧ walkF M 16 true a 4 0 allRt = (pre ++ (walkF M 16 true a (l - 1).toNat x.f x.rt).1, (walkF M 16 true a (l - 1).toNat x.f x.rt).2) := by
  obtain ⟨l0, l1, hg⟩ := deep_good h hd
  have := hg a rfl
  exact ⟨l0, l1, this.wide.1, this.wide.2, this.way⟩
end Go.Proofs.YtkfonacokamfiaaGreat
/- The laws' helper: a memory with some words written. -/
namespace Go.Proofs.YtkfonacokamfiaaGreat
set_option linter.unusedVariables false
set_option linter.unusedSimpArgs false
open Go.RowKit
attribute [local go_sem] wext_cell wext_frozen wext_heap alloc_cell alloc_frozen alloc_heap setCell_cell objCell_cells objFrozen_cells

def EndBuilt (ds : List PutD) (w : World) (e : Ending) (w' : World) : Prop :=
  ∃ mb F, e = .returned (.pointer (some ⟨mb, 0, none⟩)) ∧ MemAt w' mb F 16 (builtM (ds.take 100)) [] ∧ Ext w w' ∧ (∀ x ∈ F, w.heap.size ≤ x) ∧ w.heap.size ≤ mb
theorem MemAt.mem {w : World} {mb : Nat} {F : List Nat} {B : Int} {M : Int → Int} {T : List Int} (h : MemAt w mb F B M T) : mb ∈ F := by
  obtain ⟨pb, tv, es, clock, PL, p1, p2, p3, p4, p5, p6, p7, p8, p9, rfl, p10⟩ := h
  simp
end Go.Proofs.YtkfonacokamfiaaGreat
/- The laws' helper: a memory with some words written. -/
namespace Go.Proofs.YtkfonacokamfiaaGreat
set_option linter.unusedVariables false
set_option linter.unusedSimpArgs false
open Go.RowKit
attribute [local go_sem] wext_cell wext_frozen wext_heap alloc_cell alloc_frozen alloc_heap setCell_cell objCell_cells objFrozen_cells

end Go.Proofs.YtkfonacokamfiaaGreat
/- The walk laws' helpers: the example's memory; awake. -/
namespace Go.Proofs.YtkfonacokamfiaaGreat
set_option linter.unusedVariables false
set_option linter.unusedSimpArgs false
open Go.RowKit
attribute [local go_sem] wext_cell wext_frozen wext_heap alloc_cell alloc_frozen alloc_heap setCell_cell objCell_cells objFrozen_cells

def tinyL : List PutD := [⟨0, 1, 7, 0⟩, ⟨8, 2, 7, 0⟩, ⟨16, 3, 7, 0⟩, ⟨24, 4, 7, 0⟩]
theorem tiny_at {W : World} {g : Nat} {e : TypeId} (h : W.heap[g]? = some (.cells #[.int .u16 0, .int .u16 1, .int .u8 7, .int .u64 0, .int .u16 8, .int .u16 2, .int .u8 7, .int .u64 0, .int .u16 16, .int .u16 3, .int .u8 7, .int .u64 0, .int .u16 24, .int .u16 4, .int .u8 7, .int .u64 0] e (0, 0))) :
    ListAt W (.slice (some ⟨g, 0, none⟩) 4 4) 4 PutD.cells PutD.ok tinyL := by
  refine ⟨some ⟨g, 0, none⟩, 4, rfl, by simp [tinyL], by simp [maxLen], fun i hi => ?_, fun i hi => ⟨g, 0, rfl, heap_lt h, fun j u hu => ?_⟩⟩
  · have : i = 0 ∨ i = 1 ∨ i = 2 ∨ i = 3 := by simp [tinyL] at hi; omega
    rcases this with rfl | rfl | rfl | rfl <;> (simp only [tinyL, List.getD_cons_zero, List.getD_cons_succ, PutD.ok]; omega)
  · have hj : j < 4 := by have := (List.getElem?_eq_some_iff.1 hu).1; simpa [PutD.cells] using this
    have hi' : i = 0 ∨ i = 1 ∨ i = 2 ∨ i = 3 := by simp [tinyL] at hi; omega
    have hj' : j = 0 ∨ j = 1 ∨ j = 2 ∨ j = 3 := by omega
    rw [heap_cell h]
    rcases hi' with rfl | rfl | rfl | rfl <;> rcases hj' with rfl | rfl | rfl | rfl <;> exact hu
theorem ex8_1 : walkF (fun _ => 0) 16 true 0 4 4096 allRt = ([((4 : Int), (4096 : Int), (0 : Int))], 1, noRt, 0, 0) := by decide +kernel
theorem ex8_2 : (walkF (builtM (tinyL.take 100)) 16 true 0 4 0 allRt).1.length = 4 ∧ (walkF (builtM (tinyL.take 100)) 16 true 0 4 0 allRt).2 = (0, allRt, 1, 16384) := by decide +kernel
end Go.Proofs.YtkfonacokamfiaaGreat
/- Plans whose loud operations may be guarded. -/
namespace Go.Proofs.YtkfonacokamfiaaGreat
open Go

def segG (l : List Oper) : Seg → Bool
  | .b is => calmB l is
  | .q is => calmB l is
  | .l i k => decide (i < l.length) && decide (2 ≤ k)
section
variable {P : Program} {l : List Oper} {Q : Exit → Act → World → Prop}
theorem mix_loudG {U : List (Nat × Nat)} {i k : Nat} {a : Act} {w : World} (hi : i < l.length) (hk : 2 ≤ k)
    (h : ∀ w1, Ext w w1 → wpList P l.toArray (Exit.then (fun a3 w3 => (k = 3 → Ext w w3) ∧ wpMix P l.toArray Q U a3 w3) (fun _ _ _ => False)) (pickL l [i]) a w1) : wpMix P l.toArray Q ((i, k) :: U) a w := by
  refine ⟨_, getD_some hi, fun hw => ⟨fun _ w1 hx => ?_, fun h2 => absurd h2 (by omega)⟩, fun hw => ?_⟩
  · have := h w1 hx
    simp only [pickL, List.map_cons, List.map_nil, wpList] at this
    rw [if_pos hw] at this
    rcases this with this | ⟨_, _, _, hf⟩
    · exact upon_mono (fun _ _ h' => h') (fun e _ _ h' => by cases e <;> first | exact h' | exact h'.elim) (upon_normal this)
    · exact hf.elim
  · have := h w (Ext.refl w)
    simp only [pickL, List.map_cons, List.map_nil, wpList] at this
    rw [if_neg (by rw [hw]; simp)] at this
    exact this.2
theorem plan_mixG : ∀ (t : List Seg) (a : Act) (w : World), t.all (segG l) = true → wpPlan P l Q t a w → wpMix P l.toArray Q (planOf t) a w
  | [], a, w, _, h => h
  | .b is :: t, a, w, hB, h => by
    simp only [List.all_cons, segG, Bool.and_eq_true] at hB
    exact mix_calm 0 (by omega) (C := fun _ => True) (fun _ _ => trivial) is a hB.1 (wpQuiet_post (fun a1 h1 => plan_mixG t a1 w hB.2 h1) _ _ h)
  | .q is :: t, a, w, hB, h => by
    simp only [List.all_cons, segG, Bool.and_eq_true] at hB
    exact mix_calm 1 (by omega) (C := fun w' => ∃ d, w' = wext w d) (fun w' h => grown_iff.2 (h.resolve_left (by omega))) is a hB.1 (wpQuiet_post (fun a1 h1 => plan_mixG t a1 w hB.2 h1) _ _ h)
  | .l i k :: t, a, w, hB, h => by
    simp only [List.all_cons, segG, Bool.and_eq_true, decide_eq_true_eq] at hB
    exact mix_loudG hB.1.1 hB.1.2 fun w1 hx => wpList_post (fun a3 w3 h3 => ⟨h3.1, plan_mixG t a3 w3 hB.2 h3.2⟩) _ _ _ (h w1 hx)
def planG (l : List Oper) (t : List Seg) : Bool :=
  let U := planOf t
  Region.noSelect l.toArray && t.all (segG l) && decide (U.length = l.length) && ((List.range l.length).all fun j => U.any fun x => x.1 == j) &&
    (U.all fun x => oneB1 l.toArray x) && pairB (relB l.toArray ((U.map (·.1)).foldl (closeStep l.toArray) [])) U
theorem region_mixG {id : Nat} {a : Act} {w : World} (t : List Seg) (hm : P.follows .mixedOrders = true) (hB : planG l t = true)
    (h : wpPlan P l Q t a w) : (Code.region id l.toArray true).wp P Q a w := by
  simp only [planG, Bool.and_eq_true, decide_eq_true_eq] at hB
  obtain ⟨⟨⟨⟨⟨h1, h2⟩, h4⟩, h5⟩, h6⟩, h7⟩ := hB
  refine wp_region_any hm ?_
  refine mix_any (n := l.toArray.size) h1 _ (planOf t) _ a w (by simpa using h4) (by simp) ?_ ?_ (pairB_ok h7) (fun x hx => List.all_eq_true.1 h6 x hx) (plan_mixG t a w h2 h) _ (Ext.drew (Ext.refl w))
  · intro j hj
    rw [getD_replicate_false] at hj; cases hj
  · intro j hj
    rw [getD_replicate_false]
    simp only [true_iff]
    have := List.all_eq_true.1 h5 j (List.mem_range.2 (by simpa using hj))
    obtain ⟨x, hx, hx2⟩ := List.any_eq_true.1 this
    exact ⟨x.2, by rw [beq_iff_eq] at hx2; rw [← hx2]; exact hx⟩
end
end Go.Proofs.YtkfonacokamfiaaGreat
