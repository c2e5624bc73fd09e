/- Joined texts, part 20 of what the law stands on: each as its own head says. -/
import Derived.Test.YtkfonacokamfiaaPly19
import Derived.Test.YtkfonacokamfiaaPly15
/- Marks, plainly: what a path's marks leave; a walk hangs on no A and no D. -/
namespace Go.Proofs.Ytkfonacokamfiaa
set_option linter.unusedVariables false
set_option linter.unusedSimpArgs false
open Go.RowKit
attribute [local go_sem] wext_cell wext_frozen wext_heap alloc_cell alloc_frozen alloc_heap setCell_cell objCell_cells objFrozen_cells

def markS (B : Int) (M : Int → Int) (s : Int) (d : Bool) : Int → Int :=
  if errM B s = 0 then setM M (s / 8) (if d then orD (M (s / 8)) else orA (M (s / 8))) else M
/-- A path's slots, marked in turn; df: is it found, and dirty? -/
def markL (B : Int) (df : Bool) : List Stp → (Int → Int) → Int → Int
  | [], M => M
  | s :: L, M => markL B df L (markS B M s.2.1 (df && L.isEmpty))

theorem setM_self (M : Int → Int) (s : Int) : setM M s (M s) = M := by
  funext t; unfold setM; split
  · rename_i h; rw [h]
  · rfl
theorem markS_wide {B : Int} {M : Int → Int} (h : ∀ t, 0 ≤ M t ∧ M t ≤ 18446744073709551615) (s : Int) (d : Bool) : ∀ t, 0 ≤ markS B M s d t ∧ markS B M s d t ≤ 18446744073709551615 := by
  unfold markS
  split
  · cases d
    · exact setM_range h (orA_le (h _).1 (h _).2).1 (orA_le (h _).1 (h _).2).2
    · exact setM_range h (orD_le (h _).1 (h _).2).1 (orD_le (h _).1 (h _).2).2
  · exact h
theorem markL_wide {B : Int} {df : Bool} : ∀ (L : List Stp) {M : Int → Int}, (∀ t, 0 ≤ M t ∧ M t ≤ 18446744073709551615) → ∀ t, 0 ≤ markL B df L M t ∧ markL B df L M t ≤ 18446744073709551615
  | [], _, h => h
  | s :: L, _, h => markL_wide L (markS_wide h _ _)

/-- Has a word A, and D? -/
def hasA (x : Int) : Bool := x / 32 % 2 == 1
def hasD (x : Int) : Bool := x / 64 % 2 == 1
/-- y is x with A or D more, perhaps. -/
def more (x y : Int) : Prop := eqv x y ∧ (hasA x = true → hasA y = true) ∧ (hasD x = true → hasD y = true)
theorem more_refl (x : Int) : more x x := ⟨eqv_refl x, id, id⟩
theorem more_trans {x y z : Int} (h : more x y) (k : more y z) : more x z := ⟨eqv_trans h.1 k.1, fun q => k.2.1 (h.2.1 q), fun q => k.2.2 (h.2.2 q)⟩
theorem more_orA (x : Int) : more x (orA x) := ⟨eqv_orA x, fun h => by unfold hasA orA at *; simp only [beq_iff_eq] at *; omega, fun h => by unfold hasD orA at *; simp only [beq_iff_eq] at *; omega⟩
theorem more_orD (x : Int) : more x (orD x) := ⟨eqv_orD x, fun h => by unfold hasA orD at *; simp only [beq_iff_eq] at *; omega, fun h => by unfold hasD orD at *; simp only [beq_iff_eq] at *; omega⟩
theorem hasA_orA (x : Int) : hasA (orA x) = true := by unfold hasA orA; simp only [beq_iff_eq]; omega
theorem hasA_orD (x : Int) : hasA (orD x) = true := by unfold hasA orD; simp only [beq_iff_eq]; omega
theorem hasD_orD (x : Int) : hasD (orD x) = true := by unfold hasD orD; simp only [beq_iff_eq]; omega
theorem orA_of {x : Int} (h : hasA x = true) : orA x = x := by unfold hasA at h; unfold orA; simp only [beq_iff_eq] at h; omega
theorem orD_of {x : Int} (h : hasA x = true) (k : hasD x = true) : orD x = x := by unfold hasA at h; unfold hasD at k; unfold orD; simp only [beq_iff_eq] at h k; omega

theorem markS_more (B : Int) (M : Int → Int) (s : Int) (d : Bool) (t : Int) : more (M t) (markS B M s d t) := by
  unfold markS
  split
  · unfold setM
    split
    · rename_i h; rw [h]; cases d
      · exact more_orA _
      · exact more_orD _
    · exact more_refl _
  · exact more_refl _
theorem markL_more (B : Int) (df : Bool) : ∀ (L : List Stp) (M : Int → Int) (t : Int), more (M t) (markL B df L M t)
  | [], M, t => more_refl _
  | s :: L, M, t => more_trans (markS_more B M _ _ t) (markL_more B df L _ t)
theorem markS_has {B : Int} {M : Int → Int} {s : Int} {d : Bool} (h : errM B s = 0) : hasA (markS B M s d (s / 8)) = true ∧ (d = true → hasD (markS B M s d (s / 8)) = true) := by
  unfold markS
  rw [if_pos h]
  unfold setM
  rw [if_pos rfl]
  cases d
  · exact ⟨hasA_orA _, fun h => by cases h⟩
  · exact ⟨hasA_orD _, fun _ => hasD_orD _⟩
theorem markS_other {B : Int} {M : Int → Int} {s t : Int} {d : Bool} (h : t ≠ s / 8) : markS B M s d t = M t := by
  unfold markS
  split
  · unfold setM; rw [if_neg h]
  · rfl
theorem markL_other {B : Int} {df : Bool} : ∀ (L : List Stp) (M : Int → Int) (t : Int), (∀ s ∈ L, t ≠ s.2.1 / 8) → markL B df L M t = M t
  | [], M, t, _ => rfl
  | s :: L, M, t, h => by
    show markL B df L _ t = _
    rw [markL_other L _ t fun s hs => h s (List.mem_cons_of_mem _ hs)]
    exact markS_other (h s (List.mem_cons_self ..))
/-- Marked, each slot of a path has A; the last one, if it is found, and dirty, D. -/
theorem markL_has {B : Int} {df : Bool} : ∀ (L : List Stp) (M : Int → Int), (∀ s ∈ L, errM B s.2.1 = 0) → (∀ s ∈ L, hasA (markL B df L M (s.2.1 / 8)) = true) ∧ ∀ s, L.getLast? = some s → df = true → hasD (markL B df L M (s.2.1 / 8)) = true
  | [], M, _ => ⟨(fun s h => by cases h), (fun s h => by cases h)⟩
  | s :: L, M, h => by
    have ih := markL_has (df := df) L (markS B M s.2.1 (df && L.isEmpty)) fun s hs => h s (List.mem_cons_of_mem _ hs)
    have h1 := markS_has (M := M) (d := df && L.isEmpty) (h s (List.mem_cons_self ..))
    have hm := markL_more B df L (markS B M s.2.1 (df && L.isEmpty)) (s.2.1 / 8)
    refine ⟨fun y hy => ?_, fun y hy hd => ?_⟩
    · rcases List.mem_cons.1 hy with rfl | hy
      · exact hm.2.1 h1.1
      · exact ih.1 y hy
    · cases L with
      | nil =>
        simp only [List.getLast?_singleton, Option.some.injEq] at hy
        subst hy
        exact hm.2.2 (h1.2 (by simp [hd]))
      | cons z L =>
        rw [List.getLast?_cons_cons] at hy
        exact ih.2 y hy hd
/-- Marked twice is as once. -/
theorem markL_again {B : Int} {df : Bool} : ∀ (L : List Stp) (M : Int → Int), (∀ s ∈ L, errM B s.2.1 = 0 → hasA (M (s.2.1 / 8)) = true) → (∀ s, L.getLast? = some s → df = true → errM B s.2.1 = 0 → hasD (M (s.2.1 / 8)) = true) → markL B df L M = M
  | [], M, _, _ => rfl
  | s :: L, M, h, k => by
    have hs : markS B M s.2.1 (df && L.isEmpty) = M := by
      unfold markS
      split
      · rename_i he
        have hA := h s (List.mem_cons_self ..) he
        cases hd : df && L.isEmpty
        · simp only [Bool.false_eq_true, if_false]; rw [orA_of hA, setM_self]
        · simp only [Bool.and_eq_true, List.isEmpty_iff] at hd
          simp only [if_true]
          rw [orD_of hA (k s (by rw [hd.2]; rfl) hd.1 he), setM_self]
      · rfl
    show markL B df L (markS B M s.2.1 (df && L.isEmpty)) = M
    rw [hs]
    refine markL_again L M (fun s hs => h s (List.mem_cons_of_mem _ hs)) fun y hy => ?_
    cases L with
    | nil => cases hy
    | cons z L => exact k y (by rw [List.getLast?_cons_cons]; exact hy)

/-- Steps that are the same but for A and D. -/
def eqvS : List Stp → List Stp → Prop
  | [], [] => True
  | a :: L, b :: K => a.1 = b.1 ∧ a.2.1 = b.2.1 ∧ eqv a.2.2 b.2.2 ∧ eqvS L K
  | _, _ => False
theorem eqvS_refl : ∀ L, eqvS L L
  | [] => trivial
  | a :: L => ⟨rfl, rfl, eqv_refl _, eqvS_refl L⟩
theorem eqvS_length : ∀ {L K : List Stp}, eqvS L K → L.length = K.length
  | [], [], _ => rfl
  | a :: L, b :: K, h => by simp [eqvS_length h.2.2.2]
  | [], b :: K, h => by cases h
  | a :: L, [], h => by cases h
theorem walk_eqv {M M' : Int → Int} {B : Int} {nxe : Bool} {a : Int} (hB : 14 ≤ B ∧ B ≤ 22) (h : ∀ t, eqv (M t) (M' t)) : ∀ (n : Nat) (t : Int) (r : Rt),
    eqvS (walkF M B nxe a n t r).1 (walkF M' B nxe a n t r).1 ∧ (walkF M B nxe a n t r).2 = (walkF M' B nxe a n t r).2
  | 0, t, r => ⟨trivial, rfl⟩
  | n + 1, t, r => by
    obtain ⟨s, hs⟩ : ∃ s, slotI t a ((n : Int) + 1) = s := ⟨_, rfl⟩
    obtain ⟨x, hx⟩ : ∃ x, M (s / 8) = x := ⟨_, rfl⟩
    obtain ⟨y, hy⟩ : ∃ y, M' (s / 8) = y := ⟨_, rfl⟩
    have e : eqv x y := by rw [← hx, ← hy]; exact h _
    by_cases hne : errM B s ≠ 0
    · rw [walkF_bad (by rw [hs]; exact hne), walkF_bad (by rw [hs]; exact hne)]; exact ⟨trivial, rfl⟩
    have he : errM B s = 0 := by omega
    cases hp : bitB x 0 with
    | false =>
      rw [walkF_absent hs hx he hp, walkF_absent hs hy he ((eqv_bit e 0 (by omega)).symm.trans hp)]
      exact ⟨⟨rfl, rfl, e, trivial⟩, rfl⟩
    | true =>
      have hp' : bitB y 0 = true := (eqv_bit e 0 (by omega)).symm.trans hp
      have er := eqv_res e ((n : Int) + 1) B nxe hB
      have el := eqv_leaf e ((n : Int) + 1)
      have ea : andR r x = andR r y := by unfold andR; rw [eqv_bit e 1 (by omega), eqv_bit e 2 (by omega), eqv_bit e 63 (by omega)]
      cases hr : resI x ((n : Int) + 1) B nxe with
      | true =>
        rw [walkF_res hs hx he hp hr, walkF_res hs hy he hp' (er.symm.trans hr)]
        exact ⟨⟨rfl, rfl, e, trivial⟩, rfl⟩
      | false =>
        cases hl : leafI x ((n : Int) + 1) with
        | true =>
          rw [walkF_leaf hs hx he hp hr hl, walkF_leaf hs hy he hp' (er.symm.trans hr) (el.symm.trans hl), ea, eqv_frame e]
          exact ⟨⟨rfl, rfl, e, trivial⟩, rfl⟩
        | false =>
          have ih := walk_eqv (nxe := nxe) (a := a) hB h n (tabI x) (andR r x)
          rw [walkF_on hs hx he hp hr hl, walkF_on hs hy he hp' (er.symm.trans hr) (el.symm.trans hl), ← ea, ← eqv_tab e]
          exact ⟨⟨rfl, rfl, e, ih.1⟩, ih.2⟩
end Go.Proofs.Ytkfonacokamfiaa
