/- A walk's laws, plainly: its steps in a memory of 16 bits; from a step on. -/
import Derived.Test.YtkoohedbbdgjjaaRWalkA
import Derived.Test.YtkoohedbbdgjjaaREntC
namespace Go.Proofs.YtkoohedbbdgjjaaR
set_option linter.unusedVariables false
set_option linter.unusedSimpArgs false
open Go.RowKit
attribute [local go_sem] wext_cell wext_frozen wext_heap alloc_cell alloc_frozen alloc_heap setCell_cell objCell_cells objFrozen_cells

theorem tab_slot {t a l : Int} (h : 0 ≤ t) : tabI (slotI t a l) = tabI t := by
  have := idxI_le a l
  unfold slotI tabI; omega
theorem slotI_tab {t t' a l : Int} (h : tabI t = tabI t') : slotI t a l = slotI t' a l := by unfold slotI; rw [h]
theorem walkF_tab {M : Int → Int} {B : Int} {nxe : Bool} {a : Int} {n : Nat} {t t' : Int} {r : Rt} (h : tabI t = tabI t') : walkF M B nxe a n t r = walkF M B nxe a n t' r := by
  cases n with
  | zero => rfl
  | succ n => unfold walkF; rw [slotI_tab h]
theorem tab_tab {x : Int} : tabI (tabI x) = tabI x := by unfold tabI; omega
theorem res16 {x l : Int} {nxe : Bool} (h0 : 0 ≤ x) (h : resI x l 16 nxe = false) : tabI x ≤ 61440 := by
  unfold resI at h
  simp only [Bool.or_eq_false_iff] at h
  have h1 := h.1.1.1.1
  have : x / 65536 % 68719476736 = 0 := by simpa [pow2] using h1
  unfold tabI; omega
theorem err16 {s : Int} (h : s < 65536) (h8 : s % 8 = 0) : errM 16 s = 0 := by
  unfold errM
  rw [if_pos (by unfold limB; simp; exact h), if_pos h8]
theorem frame_le {x l : Int} (h0 : 0 ≤ x) : 0 ≤ frameI x l ∧ frameI x l ≤ tabI x := by
  have := tabI_le h0
  unfold frameI
  split
  · have hs : 0 < sizeE l := by unfold sizeE; split; omega; split; omega; split <;> omega
    have h1 := Int.emod_nonneg (tabI x) (show sizeE l ≠ 0 by omega)
    have h2 := emod_le this.1 hs
    omega
  · omega
theorem leaf_le {x l : Int} (h : leafI x l = true) : l ≤ 3 := by
  unfold leafI at h
  simp only [Bool.or_eq_true, beq_iff_eq, Bool.and_eq_true] at h
  omega

/-- What a walk through a memory of 16 bits is like. -/
structure OkW (n : Nat) (q : List Stp × WRes) : Prop where
  len : 1 ≤ q.1.length ∧ q.1.length ≤ n
  lev : ∀ (i : Nat) (s : Stp), q.1[i]? = some s → s.1 = (n : Int) - i
  low : ∀ (i : Nat) (s : Stp), q.1[i]? = some s → 0 ≤ s.2.1 ∧ s.2.1 < 65536 ∧ s.2.1 % 8 = 0
  bit : ∀ (i : Nat) (s : Stp), q.1[i]? = some s → bitB s.2.2 0 = (!decide (i + 1 = q.1.length) || q.2.1 != 1)
  why : q.2.1 = 0 ∨ q.2.1 = 1 ∨ q.2.1 = 2
  bad : q.2.1 ≠ 0 → q.2.2 = (noRt, 0, 0)
  good : q.2.1 = 0 → q.2.2.2.1 = (n : Int) + 1 - q.1.length ∧ q.2.2.2.1 ≤ 3 ∧ 0 ≤ q.2.2.2.2 ∧ q.2.2.2.2 < 65536
theorem walk_ok {M : Int → Int} (hM : ∀ s, 0 ≤ M s ∧ M s ≤ 18446744073709551615) {nxe : Bool} {a : Int} : ∀ (n : Nat) (t : Int) (r : Rt), 1 ≤ n → 0 ≤ t → tabI t ≤ 61440 → OkW n (walkF M 16 nxe a n t r)
  | n + 1, t, r, _, ht, hti => by
    have hsl := slotI_le (t := t) (a := a) (l := (n : Int) + 1) ht
    have hti0 := tabI_le ht
    have hidx := idxI_le a ((n : Int) + 1)
    have hslt : slotI t a ((n : Int) + 1) < 65536 := by unfold slotI; omega
    have he := err16 hslt hsl.2.2
    obtain ⟨s, hs⟩ : ∃ s, slotI t a ((n : Int) + 1) = s := ⟨_, rfl⟩
    obtain ⟨x, hx⟩ : ∃ x, M (s / 8) = x := ⟨_, rfl⟩
    have hx0 : 0 ≤ x := hx ▸ (hM _).1
    rw [hs] at hsl hslt he
    cases hp : bitB x 0 with
    | false =>
      rw [walkF_absent hs hx he hp]
      exact ⟨by simp, fun i y h => by cases i <;> simp at h; subst h; simp, fun i y h => by cases i <;> simp at h; subst h; exact ⟨hsl.1, hslt, hsl.2.2⟩, fun i y h => by cases i <;> simp at h; subst h; simpa using hp, .inr (.inl rfl), fun _ => rfl, fun h => by cases h⟩
    | true =>
      cases hr : resI x ((n : Int) + 1) 16 nxe with
      | true =>
        rw [walkF_res hs hx he hp hr]
        exact ⟨by simp, fun i y h => by cases i <;> simp at h; subst h; simp, fun i y h => by cases i <;> simp at h; subst h; exact ⟨hsl.1, hslt, hsl.2.2⟩, fun i y h => by cases i <;> simp at h; subst h; simpa using hp, .inr (.inr rfl), fun _ => rfl, fun h => by cases h⟩
      | false =>
        have hti2 := res16 hx0 hr
        cases hl : leafI x ((n : Int) + 1) with
        | true =>
          rw [walkF_leaf hs hx he hp hr hl]
          have hfr := frame_le (l := (n : Int) + 1) hx0
          have hlv := leaf_le hl
          exact ⟨by simp, fun i y h => by cases i <;> simp at h; subst h; simp, fun i y h => by cases i <;> simp at h; subst h; exact ⟨hsl.1, hslt, hsl.2.2⟩, fun i y h => by cases i <;> simp at h; subst h; simpa using hp, .inl rfl, fun h => absurd rfl h, fun _ => ⟨by simp, by simpa using hlv, by simpa using hfr.1, by simp; omega⟩⟩
        | false =>
          have hn : 1 ≤ n := by
            rcases n with _ | n
            · unfold leafI at hl; simp at hl
            · omega
          have ih := walk_ok hM n (tabI x) (andR r x) hn (tabI_le hx0).1 (by rw [tab_tab]; exact hti2) (nxe := nxe) (a := a)
          rw [walkF_on hs hx he hp hr hl]
          have hlen := ih.len
          refine ⟨by simp; omega, fun i y h => ?_, fun i y h => ?_, fun i y h => ?_, ih.why, ih.bad, fun h => ?_⟩
          · cases i with
            | zero => simp at h; subst h; simp
            | succ i => simp at h; have := ih.lev i y h; omega
          · cases i with
            | zero => simp at h; subst h; exact ⟨hsl.1, hslt, hsl.2.2⟩
            | succ i => simp at h; exact ih.low i y h
          · cases i with
            | zero =>
              simp at h; subst h
              have : ¬ (0 + 1 = (walkF M 16 nxe a n (tabI x) (andR r x)).1.length + 1) := by omega
              simp only [List.length_cons, this, decide_false, Bool.not_false, Bool.true_or, hp]
            | succ i =>
              simp at h
              have := ih.bit i y h
              rw [this]
              simp
          · have := ih.good h
            simp only [List.length_cons] at *
            omega

def foldR (r : Rt) (L : List Stp) : Rt := L.foldl (fun r s => andR r s.2.2) r
theorem walk_drop {M : Int → Int} {B : Int} {nxe : Bool} {a : Int} (hM : ∀ s, 0 ≤ M s) : ∀ (k n : Nat) (t : Int) (r : Rt), 0 ≤ t → k < (walkF M B nxe a n t r).1.length →
    ∃ t', 0 ≤ t' ∧ k < n ∧ (walkF M B nxe a n t r).1[k]?.map (fun s => (s.1, s.2.1)) = some ((n : Int) - k, slotI t' a ((n : Int) - k)) ∧
      walkF M B nxe a (n - k) t' (foldR r ((walkF M B nxe a n t r).1.take k)) = ((walkF M B nxe a n t r).1.drop k, (walkF M B nxe a n t r).2)
  | k, 0, t, r, _, h => by simp [walkF] at h
  | k, n + 1, t, r, ht, h => by
    obtain ⟨s, hs⟩ : ∃ s, slotI t a ((n : Int) + 1) = s := ⟨_, rfl⟩
    obtain ⟨x, hx⟩ : ∃ x, M (s / 8) = x := ⟨_, rfl⟩
    have hx0 : 0 ≤ x := hx ▸ hM _
    by_cases hne : errM B s ≠ 0
    · rw [walkF_bad (by rw [hs]; exact hne)] at h; simp at h
    have he : errM B s = 0 := by omega
    have one : ∀ q : WRes, walkF M B nxe a (n + 1) t r = ([((n : Int) + 1, s, x)], q) → ∃ t', 0 ≤ t' ∧ k < n + 1 ∧ (walkF M B nxe a (n + 1) t r).1[k]?.map (fun s => (s.1, s.2.1)) = some (((n + 1 : Nat) : Int) - k, slotI t' a (((n + 1 : Nat) : Int) - k)) ∧
      walkF M B nxe a (n + 1 - k) t' (foldR r ((walkF M B nxe a (n + 1) t r).1.take k)) = ((walkF M B nxe a (n + 1) t r).1.drop k, (walkF M B nxe a (n + 1) t r).2) := fun q hq => by
      have hk : k = 0 := by rw [hq] at h; simp at h; exact h
      subst hk
      exact ⟨t, ht, by omega, by rw [hq]; simp [← hs], rfl⟩
    cases hp : bitB x 0 with
    | false => exact one _ (walkF_absent hs hx he hp)
    | true =>
      cases hr : resI x ((n : Int) + 1) B nxe with
      | true => exact one _ (walkF_res hs hx he hp hr)
      | false =>
        cases hl : leafI x ((n : Int) + 1) with
        | true => exact one _ (walkF_leaf hs hx he hp hr hl)
        | false =>
          have ho := walkF_on (r := r) hs hx he hp hr hl
          cases k with
          | zero => exact ⟨t, ht, by omega, by rw [ho]; simp [← hs], rfl⟩
          | succ k =>
            rw [ho] at h ⊢
            simp only [List.length_cons] at h
            obtain ⟨t', h0, h1, h2, h3⟩ := walk_drop hM k n (tabI x) (andR r x) (tabI_le hx0).1 (by omega : k < (walkF M B nxe a n (tabI x) (andR r x)).1.length)
            refine ⟨t', h0, by omega, ?_, ?_⟩
            · simp only [List.getElem?_cons_succ]
              rw [h2, show ((n + 1 : Nat) : Int) - ((k + 1 : Nat) : Int) = (n : Int) - k by omega]
            · simp only [List.take_succ_cons, List.drop_succ_cons]
              rw [show n + 1 - (k + 1) = n - k by omega, ← h3]
              rfl
end Go.Proofs.YtkoohedbbdgjjaaR
