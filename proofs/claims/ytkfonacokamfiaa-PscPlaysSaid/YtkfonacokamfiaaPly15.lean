/- Joined texts, part 15 of what the law stands on: each as its own head says. -/
import Derived.Test.YtkfonacokamfiaaPly14
import Derived.Test.YtkfonacokamfiaaPly12
/- A walk's laws, plainly: its steps in a memory of 16 bits; from a step on. -/
namespace Go.Proofs.Ytkfonacokamfiaa
set_option linter.unusedVariables false
set_option linter.unusedSimpArgs false
open Go.RowKit
attribute [local go_sem] wext_cell wext_frozen wext_heap alloc_cell alloc_frozen alloc_heap setCell_cell objCell_cells objFrozen_cells

theorem tab_slot {t a l : Int} (h : 0 ≤ t) : tabI (slotI t a l) = tabI t := by
  have := idxI_le a l
  unfold slotI tabI; omega
theorem slotI_tab {t t' a l : Int} (h : tabI t = tabI t') : slotI t a l = slotI t' a l := by unfold slotI; rw [h]
theorem walkF_tab {M : Int → Int} {B : Int} {nxe : Bool} {a : Int} {n : Nat} {t t' : Int} {r : Rt} (h : tabI t = tabI t') : walkF M B nxe a n t r = walkF M B nxe a n t' r := by
  cases n with
  | zero => rfl
  | succ n => unfold walkF; rw [slotI_tab h]
theorem tab_tab {x : Int} : tabI (tabI x) = tabI x := by unfold tabI; omega
theorem res16 {x l : Int} {nxe : Bool} (h0 : 0 ≤ x) (h : resI x l 16 nxe = false) : tabI x ≤ 61440 := by
  unfold resI at h
  simp only [Bool.or_eq_false_iff] at h
  have h1 := h.1.1.1.1
  have : x / 65536 % 68719476736 = 0 := by simpa [pow2] using h1
  unfold tabI; omega
theorem err16 {s : Int} (h : s < 65536) (h8 : s % 8 = 0) : errM 16 s = 0 := by
  unfold errM
  rw [if_pos (by unfold limB; simp; exact h), if_pos h8]
theorem frame_le {x l : Int} (h0 : 0 ≤ x) : 0 ≤ frameI x l ∧ frameI x l ≤ tabI x := by
  have := tabI_le h0
  unfold frameI
  split
  · have hs : 0 < sizeE l := by unfold sizeE; split; omega; split; omega; split <;> omega
    have h1 := Int.emod_nonneg (tabI x) (show sizeE l ≠ 0 by omega)
    have h2 := emod_le this.1 hs
    omega
  · omega
theorem leaf_le {x l : Int} (h : leafI x l = true) : l ≤ 3 := by
  unfold leafI at h
  simp only [Bool.or_eq_true, beq_iff_eq, Bool.and_eq_true] at h
  omega

/-- What a walk through a memory of 16 bits is like. -/
structure OkW (n : Nat) (q : List Stp × WRes) : Prop where
  len : 1 ≤ q.1.length ∧ q.1.length ≤ n
  lev : ∀ (i : Nat) (s : Stp), q.1[i]? = some s → s.1 = (n : Int) - i
  low : ∀ (i : Nat) (s : Stp), q.1[i]? = some s → 0 ≤ s.2.1 ∧ s.2.1 < 65536 ∧ s.2.1 % 8 = 0
  bit : ∀ (i : Nat) (s : Stp), q.1[i]? = some s → bitB s.2.2 0 = (!decide (i + 1 = q.1.length) || q.2.1 != 1)
  why : q.2.1 = 0 ∨ q.2.1 = 1 ∨ q.2.1 = 2
  bad : q.2.1 ≠ 0 → q.2.2 = (noRt, 0, 0)
  good : q.2.1 = 0 → q.2.2.2.1 = (n : Int) + 1 - q.1.length ∧ q.2.2.2.1 ≤ 3 ∧ 0 ≤ q.2.2.2.2 ∧ q.2.2.2.2 < 65536
theorem walk_ok {M : Int → Int} (hM : ∀ s, 0 ≤ M s ∧ M s ≤ 18446744073709551615) {nxe : Bool} {a : Int} : ∀ (n : Nat) (t : Int) (r : Rt), 1 ≤ n → 0 ≤ t → tabI t ≤ 61440 → OkW n (walkF M 16 nxe a n t r)
  | n + 1, t, r, _, ht, hti => by
    have hsl := slotI_le (t := t) (a := a) (l := (n : Int) + 1) ht
    have hti0 := tabI_le ht
    have hidx := idxI_le a ((n : Int) + 1)
    have hslt : slotI t a ((n : Int) + 1) < 65536 := by unfold slotI; omega
    have he := err16 hslt hsl.2.2
    obtain ⟨s, hs⟩ : ∃ s, slotI t a ((n : Int) + 1) = s := ⟨_, rfl⟩
    obtain ⟨x, hx⟩ : ∃ x, M (s / 8) = x := ⟨_, rfl⟩
    have hx0 : 0 ≤ x := hx ▸ (hM _).1
    rw [hs] at hsl hslt he
    cases hp : bitB x 0 with
    | false =>
      rw [walkF_absent hs hx he hp]
      exact ⟨by simp, fun i y h => by cases i <;> simp at h; subst h; simp, fun i y h => by cases i <;> simp at h; subst h; exact ⟨hsl.1, hslt, hsl.2.2⟩, fun i y h => by cases i <;> simp at h; subst h; simpa using hp, .inr (.inl rfl), fun _ => rfl, fun h => by cases h⟩
    | true =>
      cases hr : resI x ((n : Int) + 1) 16 nxe with
      | true =>
        rw [walkF_res hs hx he hp hr]
        exact ⟨by simp, fun i y h => by cases i <;> simp at h; subst h; simp, fun i y h => by cases i <;> simp at h; subst h; exact ⟨hsl.1, hslt, hsl.2.2⟩, fun i y h => by cases i <;> simp at h; subst h; simpa using hp, .inr (.inr rfl), fun _ => rfl, fun h => by cases h⟩
      | false =>
        have hti2 := res16 hx0 hr
        cases hl : leafI x ((n : Int) + 1) with
        | true =>
          rw [walkF_leaf hs hx he hp hr hl]
          have hfr := frame_le (l := (n : Int) + 1) hx0
          have hlv := leaf_le hl
          exact ⟨by simp, fun i y h => by cases i <;> simp at h; subst h; simp, fun i y h => by cases i <;> simp at h; subst h; exact ⟨hsl.1, hslt, hsl.2.2⟩, fun i y h => by cases i <;> simp at h; subst h; simpa using hp, .inl rfl, fun h => absurd rfl h, fun _ => ⟨by simp, by simpa using hlv, by simpa using hfr.1, by simp; omega⟩⟩
        | false =>
          have hn : 1 ≤ n := by
            rcases n with _ | n
            · unfold leafI at hl; simp at hl
            · omega
          have ih := walk_ok hM n (tabI x) (andR r x) hn (tabI_le hx0).1 (by rw [tab_tab]; exact hti2) (nxe := nxe) (a := a)
          rw [walkF_on hs hx he hp hr hl]
          have hlen := ih.len
          refine ⟨by simp; omega, fun i y h => ?_, fun i y h => ?_, fun i y h => ?_, ih.why, ih.bad, fun h => ?_⟩
          · cases i with
            | zero => simp at h; subst h; simp
            | succ i => simp at h; have := ih.lev i y h; omega
          · cases i with
            | zero => simp at h; subst h; exact ⟨hsl.1, hslt, hsl.2.2⟩
            | succ i => simp at h; exact ih.low i y h
          · cases i with
            | zero =>
              simp at h; subst h
              have : ¬ (0 + 1 = (walkF M 16 nxe a n (tabI x) (andR r x)).1.length + 1) := by omega
              simp only [List.length_cons, this, decide_false, Bool.not_false, Bool.true_or, hp]
            | succ i =>
              simp at h
              have := ih.bit i y h
              rw [this]
              simp
          · have := ih.good h
            simp only [List.length_cons] at *
            omega

def foldR (r : Rt) (L : List Stp) : Rt := L.foldl (fun r s => andR r s.2.2) r
theorem walk_drop {M : Int → Int} {B : Int} {nxe : Bool} {a : Int} (hM : ∀ s, 0 ≤ M s) : ∀ (k n : Nat) (t : Int) (r : Rt), 0 ≤ t → k < (walkF M B nxe a n t r).1.length →
    ∃ t', 0 ≤ t' ∧ k < n ∧ (walkF M B nxe a n t r).1[k]?.map (fun s => (s.1, s.2.1)) = some ((n : Int) - k, slotI t' a ((n : Int) - k)) ∧
      walkF M B nxe a (n - k) t' (foldR r ((walkF M B nxe a n t r).1.take k)) = ((walkF M B nxe a n t r).1.drop k, (walkF M B nxe a n t r).2)
  | k, 0, t, r, _, h => by simp [walkF] at h
  | k, n + 1, t, r, ht, h => by
    obtain ⟨s, hs⟩ : ∃ s, slotI t a ((n : Int) + 1) = s := ⟨_, rfl⟩
    obtain ⟨x, hx⟩ : ∃ x, M (s / 8) = x := ⟨_, rfl⟩
    have hx0 : 0 ≤ x := hx ▸ hM _
    by_cases hne : errM B s ≠ 0
    · rw [walkF_bad (by rw [hs]; exact hne)] at h; simp at h
    have he : errM B s = 0 := by omega
    have one : ∀ q : WRes, walkF M B nxe a (n + 1) t r = ([((n : Int) + 1, s, x)], q) → ∃ t', 0 ≤ t' ∧ k < n + 1 ∧ (walkF M B nxe a (n + 1) t r).1[k]?.map (fun s => (s.1, s.2.1)) = some (((n + 1 : Nat) : Int) - k, slotI t' a (((n + 1 : Nat) : Int) - k)) ∧
      walkF M B nxe a (n + 1 - k) t' (foldR r ((walkF M B nxe a (n + 1) t r).1.take k)) = ((walkF M B nxe a (n + 1) t r).1.drop k, (walkF M B nxe a (n + 1) t r).2) := fun q hq => by
      have hk : k = 0 := by rw [hq] at h; simp at h; exact h
      subst hk
      exact ⟨t, ht, by omega, by rw [hq]; simp [← hs], rfl⟩
    cases hp : bitB x 0 with
    | false => exact one _ (walkF_absent hs hx he hp)
    | true =>
      cases hr : resI x ((n : Int) + 1) B nxe with
      | true => exact one _ (walkF_res hs hx he hp hr)
      | false =>
        cases hl : leafI x ((n : Int) + 1) with
        | true => exact one _ (walkF_leaf hs hx he hp hr hl)
        | false =>
          have ho := walkF_on (r := r) hs hx he hp hr hl
          cases k with
          | zero => exact ⟨t, ht, by omega, by rw [ho]; simp [← hs], rfl⟩
          | succ k =>
            rw [ho] at h ⊢
            simp only [List.length_cons] at h
            obtain ⟨t', h0, h1, h2, h3⟩ := walk_drop hM k n (tabI x) (andR r x) (tabI_le hx0).1 (by omega : k < (walkF M B nxe a n (tabI x) (andR r x)).1.length)
            refine ⟨t', h0, by omega, ?_, ?_⟩
            · simp only [List.getElem?_cons_succ]
              rw [h2, show ((n + 1 : Nat) : Int) - ((k + 1 : Nat) : Int) = (n : Int) - k by omega]
            · simp only [List.take_succ_cons, List.drop_succ_cons]
              rw [show n + 1 - (k + 1) = n - k by omega, ← h3]
              rfl
end Go.Proofs.Ytkfonacokamfiaa
/- Caches of tables, plainly: Fill, Deepest; what stands in them behind walks through a memory. -/
namespace Go.Proofs.Ytkfonacokamfiaa
set_option linter.unusedVariables false
set_option linter.unusedSimpArgs false
open Go.RowKit
attribute [local go_sem] wext_cell wext_frozen wext_heap alloc_cell alloc_frozen alloc_heap setCell_cell objCell_cells objFrozen_cells

def Line.rt (x : Line) : Rt := (x.a, x.b, x.c)
def lineP (t : Int) (rt : Rt) : Line := ⟨t, rt.1, rt.2.1, rt.2.2, false, 0⟩
/-- Fill. -/
def fillF (p a : Int) (pk : Int → Int) (r : Nat) : List Stp → Rt → (Int → Lines) → Int → Lines
  | [], _, C => C
  | s :: t, rt, C =>
    if t = [] then C
    else if (2 ≤ s.1 ∧ s.1 ≤ 4) ∧ bitB s.2.2 0 = true ∧ leafI s.2.2 s.1 = false then
      fillF p a pk r t (andR rt s.2.2) (upd C s.1 (putC (kP p s.1 a) (lineP (tabI s.2.2) (andR rt s.2.2)) (pk s.1) r (C s.1)))
    else C
/-- Deepest: the level and the line. -/
def deepF (C : Int → Lines) (p a : Int) : Option (Int × Line) :=
  if hasK (kP p 2 a) (C 2) = true then some (2, getLine (kP p 2 a) (C 2))
  else if hasK (kP p 3 a) (C 3) = true then some (3, getLine (kP p 3 a) (C 3))
  else if hasK (kP p 4 a) (C 4) = true then some (4, getLine (kP p 4 a) (C 4)) else none
/-- .. as a place. -/
def placeF (d : Option (Int × Line)) : Int × Int × Rt := match d with | some y => (y.1 - 1, y.2.f, y.2.rt) | none => (0, 0, noRt)

theorem getLine_mem {k : Key} {L : Lines} (h : hasK k L = true) : (k, getLine k L) ∈ L := by
  unfold hasK at h
  unfold getLine
  cases hl : look k L 0 with
  | none => rw [hl] at h; cases h
  | some y =>
    obtain ⟨i, y⟩ := y
    exact List.mem_of_getElem? (look_some hl).2.1
theorem deepF_some {C : Int → Lines} {p a l : Int} {x : Line} (h : deepF C p a = some (l, x)) : 2 ≤ l ∧ l ≤ 4 ∧ (kP p l a, x) ∈ C l ∧ x = getLine (kP p l a) (C l) ∧ hasK (kP p l a) (C l) = true ∧ ∀ j, 2 ≤ j → j < l → hasK (kP p j a) (C j) = false := by
  unfold deepF at h
  split at h
  · rename_i h2
    simp only [Option.some.injEq, Prod.mk.injEq] at h
    obtain ⟨rfl, rfl⟩ := h
    exact ⟨by omega, by omega, getLine_mem h2, rfl, h2, fun j _ _ => by omega⟩
  · rename_i h2
    split at h
    · rename_i h3
      simp only [Option.some.injEq, Prod.mk.injEq] at h
      obtain ⟨rfl, rfl⟩ := h
      refine ⟨by omega, by omega, getLine_mem h3, rfl, h3, fun j _ _ => ?_⟩
      obtain rfl : j = 2 := by omega
      simpa using h2
    · rename_i h3
      split at h
      · rename_i h4
        simp only [Option.some.injEq, Prod.mk.injEq] at h
        obtain ⟨rfl, rfl⟩ := h
        refine ⟨by omega, by omega, getLine_mem h4, rfl, h4, fun j _ _ => ?_⟩
        obtain rfl | rfl : j = 2 ∨ j = 3 := by omega
        · simpa using h2
        · simpa using h3
      · cases h
theorem deepF_none {C : Int → Lines} {p a : Int} : deepF C p a = none ↔ ∀ l, 2 ≤ l → l ≤ 4 → hasK (kP p l a) (C l) = false := by
  unfold deepF
  constructor
  · intro h l h0 h1
    split at h
    · cases h
    · rename_i h2
      split at h
      · cases h
      · rename_i h3
        split at h
        · cases h
        · rename_i h4
          obtain rfl | rfl | rfl : l = 2 ∨ l = 3 ∨ l = 4 := by omega
          · simpa using h2
          · simpa using h3
          · simpa using h4
  · intro h
    rw [if_neg (by rw [h 2 (by omega) (by omega)]; simp), if_neg (by rw [h 3 (by omega) (by omega)]; simp), if_neg (by rw [h 4 (by omega) (by omega)]; simp)]
theorem deepF_congr {C C' : Int → Lines} {p a : Int} (h : ∀ l, 2 ≤ l → l ≤ 4 → hasK (kP p l a) (C l) = hasK (kP p l a) (C' l) ∧ getLine (kP p l a) (C l) = getLine (kP p l a) (C' l)) : deepF C p a = deepF C' p a := by
  unfold deepF
  rw [(h 2 (by omega) (by omega)).1, (h 2 (by omega) (by omega)).2, (h 3 (by omega) (by omega)).1, (h 3 (by omega) (by omega)).2, (h 4 (by omega) (by omega)).1, (h 4 (by omega) (by omega)).2]

theorem tag_up {a b l : Int} (hl : l = 2 ∨ l = 3 ∨ l = 4) (h : tagP a l = tagP b l) : tagP a (l + 1) = tagP b (l + 1) := by
  unfold tagP at *
  rcases hl with rfl | rfl | rfl <;> simp at h ⊢ <;> omega
theorem tag_idx {a b l : Int} (hl : l = 2 ∨ l = 3 ∨ l = 4) (h : tagP a l = tagP b l) : idxI a l = idxI b l := by
  unfold tagP at h
  unfold idxI
  rcases hl with rfl | rfl | rfl <;> simp at h ⊢ <;> omega
theorem tag_slot {a b l t : Int} (hl : l = 2 ∨ l = 3 ∨ l = 4) (h : tagP a l = tagP b l) : slotI t a l = slotI t b l := by unfold slotI; rw [tag_idx hl h]

/-- From the top a walk leads here. -/
structure Leads (M : Int → Int) (a l t : Int) (rt : Rt) : Prop where
  wide : 0 ≤ t ∧ t ≤ 18446744073709551615
  way : ∃ pre : List Stp, (pre.length : Int) = 5 - l ∧ walkF M 16 true a 4 0 allRt = (pre ++ (walkF M 16 true a (l - 1).toNat t rt).1, (walkF M 16 true a (l - 1).toNat t rt).2)
def Good (M : Int → Int) (a l t : Int) (rt : Rt) : Prop := ∀ b, tagP b l = tagP a l → Leads M b l t rt
theorem good_top (M : Int → Int) (a : Int) : Good M a 5 0 allRt := fun b _ => ⟨by omega, [], by simp, rfl⟩
theorem good_step {M : Int → Int} (hM : ∀ s, 0 ≤ M s ∧ M s ≤ 18446744073709551615) {m : Nat} {a t s x : Int} {rt : Rt} (hm : 1 ≤ m) (hm4 : m ≤ 3) (h : Good M a ((m : Int) + 1 + 1) t rt) (hs : slotI t a ((m : Int) + 1) = s) (hx : M (s / 8) = x) (he : errM 16 s = 0) (hp : bitB x 0 = true)
    (hr : resI x ((m : Int) + 1) 16 true = false) (hl : leafI x ((m : Int) + 1) = false) : Good M a ((m : Int) + 1) (tabI x) (andR rt x) := fun b hb => by
  have hm' : (m : Int) + 1 = 2 ∨ (m : Int) + 1 = 3 ∨ (m : Int) + 1 = 4 := by omega
  have ⟨w0, pre, w1, w2⟩ := h b (tag_up hm' hb)
  have hx0 : 0 ≤ x ∧ x ≤ 18446744073709551615 := hx ▸ hM _
  have ht := tabI_le hx0.1
  have e1 : ((m : Int) + 1 + 1 - 1).toNat = m + 1 := by omega
  have e2 : ((m : Int) + 1 - 1).toNat = m := by omega
  rw [e1, walkF_on ((tag_slot hm' hb).trans hs) hx he hp hr hl] at w2
  refine ⟨⟨ht.1, by omega⟩, pre ++ [((m : Int) + 1, s, x)], by simp; omega, ?_⟩
  rw [e2, w2]
  simp

theorem putC_mem {k : Key} {x : Line} {pick : Int} {r : Nat} {L : Lines} {y : Key × Line} (h : y ∈ putC k x pick r L) : y ∈ L ∨ y = (k, x) := by
  unfold putC at h
  split at h
  · exact .inl h
  · split at h
    · unfold putL at h
      split at h
      · exact List.mem_or_eq_of_mem_set h
      · rcases List.mem_append.1 h with h | h
        · exact .inl h
        · exact .inr (by simpa using h)
    · rcases List.mem_append.1 h with h | h
      · split at h
        · exact .inl h
        · exact .inl (evictL_sub.subset h)
      · exact .inr (by simpa using h)
theorem putC_nil {k : Key} {x : Line} {pick : Int} {r : Nat} (hr : 0 < r) : putC k x pick r [] = [(k, x)] := by
  unfold putC
  rw [if_neg (by omega), if_neg (by simp [hasK, look]), if_pos (by simpa using hr)]
  rfl
theorem walk_nil {M : Int → Int} {nxe : Bool} {a t : Int} {n : Nat} {rt : Rt} (h : (walkF M 16 nxe a n t rt).1 = []) : n = 0 ∨ (walkF M 16 nxe a n t rt).1.length = 0 := .inr (by rw [h]; rfl)

/-- What holds of all lines before a walk is filled in, and of any that a walk leads to, holds of all behind it. -/
theorem fill_all {M : Int → Int} (hM : ∀ s, 0 ≤ M s ∧ M s ≤ 18446744073709551615) {p a : Int} {pk : Int → Int} {r : Nat} {Q : Int → Key × Line → Prop}
    (hQ : ∀ l t rt, 2 ≤ l → l ≤ 4 → 0 ≤ t → t ≤ 18446744073709551615 → Good M a l t rt → Q l (kP p l a, lineP t rt)) : ∀ (n : Nat) (t : Int) (rt : Rt) (C : Int → Lines), n ≤ 4 → Good M a ((n : Int) + 1) t rt →
    (∀ l, 2 ≤ l → l ≤ 4 → ∀ y ∈ C l, Q l y) → ∀ l, 2 ≤ l → l ≤ 4 → ∀ y ∈ fillF p a pk r (walkF M 16 true a n t rt).1 rt C l, Q l y
  | 0, _, _, _, _, _, hC => hC
  | n + 1, t, rt, C, hn, hg, hC => by
    obtain ⟨s, hs⟩ : ∃ s, slotI t a ((n : Int) + 1) = s := ⟨_, rfl⟩
    obtain ⟨x, hx⟩ : ∃ x, M (s / 8) = x := ⟨_, rfl⟩
    by_cases hne : errM 16 s ≠ 0
    · rw [walkF_bad (by rw [hs]; exact hne)]; exact hC
    have he : errM 16 s = 0 := by omega
    cases hp : bitB x 0 with
    | false => rw [walkF_absent hs hx he hp]; exact hC
    | true =>
      cases hr : resI x ((n : Int) + 1) 16 true with
      | true => rw [walkF_res hs hx he hp hr]; exact hC
      | false =>
        cases hl : leafI x ((n : Int) + 1) with
        | true => rw [walkF_leaf hs hx he hp hr hl]; exact hC
        | false =>
          rw [walkF_on hs hx he hp hr hl]
          have hn1 : 1 ≤ n := by
            rcases n with _ | n
            · unfold leafI at hl; simp at hl
            · omega
          have g2 := good_step hM hn1 (by omega) (by simpa using hg) hs hx he hp hr hl
          have hx0 : 0 ≤ x ∧ x ≤ 18446744073709551615 := hx ▸ hM _
          have ht := tabI_le hx0.1
          simp only [fillF]
          split
          · exact hC
          · rw [if_pos ⟨⟨by omega, by omega⟩, hp, hl⟩]
            refine fill_all hM hQ n (tabI x) (andR rt x) _ (by omega) (by simpa using g2) fun l l0 l1 y hy => ?_
            by_cases hll : l = (n : Int) + 1
            · subst hll
              rw [upd_same] at hy
              rcases putC_mem hy with hy | rfl
              · exact hC _ l0 l1 y hy
              · exact hQ _ _ _ l0 l1 ht.1 (by omega) g2
            · rw [upd_other _ _ hll] at hy
              exact hC l l0 l1 y hy
/-- Filled from the top, with room: one line on each level that the walk went through. -/
theorem fill_new {M : Int → Int} {p a : Int} {pk : Int → Int} {r : Nat} (hr0 : 0 < r) : ∀ (n : Nat) (t : Int) (rt : Rt) (C : Int → Lines), n ≤ 4 → (∀ l : Int, l ≤ n → C l = []) →
    ∀ l : Int, ((n : Int) < l → fillF p a pk r (walkF M 16 true a n t rt).1 rt C l = C l) ∧ ((n : Int) + 2 - (walkF M 16 true a n t rt).1.length ≤ l → l ≤ n → ∃ x, fillF p a pk r (walkF M 16 true a n t rt).1 rt C l = [(kP p l a, x)]) ∧
      (l < (n : Int) + 2 - (walkF M 16 true a n t rt).1.length → l ≤ n → fillF p a pk r (walkF M 16 true a n t rt).1 rt C l = [])
  | 0, t, rt, C, _, hC, l => ⟨fun _ => rfl, fun h1 h2 => by simp [walkF] at h1; omega, fun _ h => hC l h⟩
  | n + 1, t, rt, C, hn, hC, l => by
    obtain ⟨s, hs⟩ : ∃ s, slotI t a ((n : Int) + 1) = s := ⟨_, rfl⟩
    obtain ⟨x, hx⟩ : ∃ x, M (s / 8) = x := ⟨_, rfl⟩
    have one : ∀ q : List Stp × WRes, walkF M 16 true a (n + 1) t rt = q → q.1.length ≤ 1 → _ := fun q hq hl1 => (show ((((n + 1 : Nat) : Int)) < l → fillF p a pk r (walkF M 16 true a (n + 1) t rt).1 rt C l = C l) ∧ ((((n + 1 : Nat) : Int)) + 2 - (walkF M 16 true a (n + 1) t rt).1.length ≤ l → l ≤ ((n + 1 : Nat) : Int) → ∃ x, fillF p a pk r (walkF M 16 true a (n + 1) t rt).1 rt C l = [(kP p l a, x)]) ∧
      (l < (((n + 1 : Nat) : Int)) + 2 - (walkF M 16 true a (n + 1) t rt).1.length → l ≤ ((n + 1 : Nat) : Int) → fillF p a pk r (walkF M 16 true a (n + 1) t rt).1 rt C l = []) by
      rw [hq]
      have hf : fillF p a pk r q.1 rt C = C := by
        obtain ⟨q1, q2⟩ := q
        match q1, hl1 with
        | [], _ => rfl
        | [s], _ => simp [fillF]
      rw [hf]
      exact ⟨fun _ => rfl, fun h1 h2 => by omega, fun _ h => hC l h⟩)
    by_cases hne : errM 16 s ≠ 0
    · exact one _ (walkF_bad (by rw [hs]; exact hne)) (by simp)
    have he : errM 16 s = 0 := by omega
    cases hp : bitB x 0 with
    | false => exact one _ (walkF_absent hs hx he hp) (by simp)
    | true =>
      cases hr : resI x ((n : Int) + 1) 16 true with
      | true => exact one _ (walkF_res hs hx he hp hr) (by simp)
      | false =>
        cases hl : leafI x ((n : Int) + 1) with
        | true => exact one _ (walkF_leaf hs hx he hp hr hl) (by simp)
        | false =>
          have hn1 : 1 ≤ n := by
            rcases n with _ | n
            · unfold leafI at hl; simp at hl
            · omega
          by_cases hlast : (walkF M 16 true a n (tabI x) (andR rt x)).1 = []
          · exact one _ (walkF_on hs hx he hp hr hl) (by simp [hlast])
          rw [walkF_on hs hx he hp hr hl]
          simp only [fillF]
          rw [if_neg hlast, if_pos ⟨⟨by omega, by omega⟩, hp, hl⟩]
          have h0 : C ((n : Int) + 1) = [] := hC _ (by omega)
          rw [h0, putC_nil hr0]
          have ih := fill_new (p := p) (a := a) (pk := pk) (r := r) (M := M) hr0 n (tabI x) (andR rt x) (upd C ((n : Int) + 1) [(kP p ((n : Int) + 1) a, lineP (tabI x) (andR rt x))]) (by omega) (fun j hj => by rw [upd_other _ _ (by omega)]; exact hC j (by omega)) l
          simp only [List.length_cons]
          have hlen := List.length_pos_iff.2 hlast
          refine ⟨fun h => ?_, fun h1 h2 => ?_, fun h1 h2 => ?_⟩
          · rw [ih.1 (by omega), upd_other _ _ (by omega)]
          · by_cases hll : l = (n : Int) + 1
            · refine ⟨lineP (tabI x) (andR rt x), (ih.1 (by omega)).trans ?_⟩
              rw [hll, upd_same]
            · exact ih.2.1 (by omega) (by omega)
          · exact ih.2.2 (by omega) (by omega)
end Go.Proofs.Ytkfonacokamfiaa
