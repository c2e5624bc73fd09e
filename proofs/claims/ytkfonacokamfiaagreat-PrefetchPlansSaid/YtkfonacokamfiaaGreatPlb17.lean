/- Joined texts, part 17 of what the law stands on: each as its own head says. -/
import Derived.Test.YtkfonacokamfiaaGreatPlb16
/- Caches of tables, plainly: Fill, Deepest; what stands in them behind walks through a memory. -/
namespace Go.Proofs.YtkfonacokamfiaaGreat
set_option linter.unusedVariables false
set_option linter.unusedSimpArgs false
open Go.RowKit
attribute [local go_sem] wext_cell wext_frozen wext_heap alloc_cell alloc_frozen alloc_heap setCell_cell objCell_cells objFrozen_cells

def Line.rt (x : Line) : Rt := (x.a, x.b, x.c)
def lineP (t : Int) (rt : Rt) : Line := ⟨t, rt.1, rt.2.1, rt.2.2, false, 0⟩
/-- Fill. -/
def fillF (p a : Int) (pk : Int → Int) (r : Nat) : List Stp → Rt → (Int → Lines) → Int → Lines
  | [], _, C => C
  | s :: t, rt, C =>
    if t = [] then C
    else if (2 ≤ s.1 ∧ s.1 ≤ 4) ∧ bitB s.2.2 0 = true ∧ leafI s.2.2 s.1 = false then
      fillF p a pk r t (andR rt s.2.2) (upd C s.1 (putC (kP p s.1 a) (lineP (tabI s.2.2) (andR rt s.2.2)) (pk s.1) r (C s.1)))
    else C
/-- Deepest: the level and the line. -/
def deepF (C : Int → Lines) (p a : Int) : Option (Int × Line) :=
  if hasK (kP p 2 a) (C 2) = true then some (2, getLine (kP p 2 a) (C 2))
  else if hasK (kP p 3 a) (C 3) = true then some (3, getLine (kP p 3 a) (C 3))
  else if hasK (kP p 4 a) (C 4) = true then some (4, getLine (kP p 4 a) (C 4)) else none
/-- .. as a place. -/
def placeF (d : Option (Int × Line)) : Int × Int × Rt := match d with | some y => (y.1 - 1, y.2.f, y.2.rt) | none => (0, 0, noRt)

theorem getLine_mem {k : Key} {L : Lines} (h : hasK k L = true) : (k, getLine k L) ∈ L := by
  unfold hasK at h
  unfold getLine
  cases hl : look k L 0 with
  | none => rw [hl] at h; cases h
  | some y =>
    obtain ⟨i, y⟩ := y
    exact List.mem_of_getElem? (look_some hl).2.1
theorem deepF_some {C : Int → Lines} {p a l : Int} {x : Line} (h : deepF C p a = some (l, x)) : 2 ≤ l ∧ l ≤ 4 ∧ (kP p l a, x) ∈ C l ∧ x = getLine (kP p l a) (C l) ∧ hasK (kP p l a) (C l) = true ∧ ∀ j, 2 ≤ j → j < l → hasK (kP p j a) (C j) = false := by
  unfold deepF at h
  split at h
  · rename_i h2
    simp only [Option.some.injEq, Prod.mk.injEq] at h
    obtain ⟨rfl, rfl⟩ := h
    exact ⟨by omega, by omega, getLine_mem h2, rfl, h2, fun j _ _ => by omega⟩
  · rename_i h2
    split at h
    · rename_i h3
      simp only [Option.some.injEq, Prod.mk.injEq] at h
      obtain ⟨rfl, rfl⟩ := h
      refine ⟨by omega, by omega, getLine_mem h3, rfl, h3, fun j _ _ => ?_⟩
      obtain rfl : j = 2 := by omega
      simpa using h2
    · rename_i h3
      split at h
      · rename_i h4
        simp only [Option.some.injEq, Prod.mk.injEq] at h
        obtain ⟨rfl, rfl⟩ := h
        refine ⟨by omega, by omega, getLine_mem h4, rfl, h4, fun j _ _ => ?_⟩
        obtain rfl | rfl : j = 2 ∨ j = 3 := by omega
        · simpa using h2
        · simpa using h3
      · cases h
theorem deepF_none {C : Int → Lines} {p a : Int} : deepF C p a = none ↔ ∀ l, 2 ≤ l → l ≤ 4 → hasK (kP p l a) (C l) = false := by
  unfold deepF
  constructor
  · intro h l h0 h1
    split at h
    · cases h
    · rename_i h2
      split at h
      · cases h
      · rename_i h3
        split at h
        · cases h
        · rename_i h4
          obtain rfl | rfl | rfl : l = 2 ∨ l = 3 ∨ l = 4 := by omega
          · simpa using h2
          · simpa using h3
          · simpa using h4
  · intro h
    rw [if_neg (by rw [h 2 (by omega) (by omega)]; simp), if_neg (by rw [h 3 (by omega) (by omega)]; simp), if_neg (by rw [h 4 (by omega) (by omega)]; simp)]
theorem deepF_congr {C C' : Int → Lines} {p a : Int} (h : ∀ l, 2 ≤ l → l ≤ 4 → hasK (kP p l a) (C l) = hasK (kP p l a) (C' l) ∧ getLine (kP p l a) (C l) = getLine (kP p l a) (C' l)) : deepF C p a = deepF C' p a := by
  unfold deepF
  rw [(h 2 (by omega) (by omega)).1, (h 2 (by omega) (by omega)).2, (h 3 (by omega) (by omega)).1, (h 3 (by omega) (by omega)).2, (h 4 (by omega) (by omega)).1, (h 4 (by omega) (by omega)).2]

theorem tag_up {a b l : Int} (hl : l = 2 ∨ l = 3 ∨ l = 4) (h : tagP a l = tagP b l) : tagP a (l + 1) = tagP b (l + 1) := by
  unfold tagP at *
  rcases hl with rfl | rfl | rfl <;> simp at h ⊢ <;> omega
theorem tag_idx {a b l : Int} (hl : l = 2 ∨ l = 3 ∨ l = 4) (h : tagP a l = tagP b l) : idxI a l = idxI b l := by
  unfold tagP at h
  unfold idxI
  rcases hl with rfl | rfl | rfl <;> simp at h ⊢ <;> omega
theorem tag_slot {a b l t : Int} (hl : l = 2 ∨ l = 3 ∨ l = 4) (h : tagP a l = tagP b l) : slotI t a l = slotI t b l := by unfold slotI; rw [tag_idx hl h]

/-- From the top a walk leads here. -/
structure Leads (M : Int → Int) (a l t : Int) (rt : Rt) : Prop where
  wide : 0 ≤ t ∧ t ≤ 18446744073709551615
  way : ∃ pre : List Stp, (pre.length : Int) = 5 - l ∧ walkF M 16 true a 4 0 allRt = (pre ++ (walkF M 16 true a (l - 1).toNat t rt).1, (walkF M 16 true a (l - 1).toNat t rt).2)
def Good (M : Int → Int) (a l t : Int) (rt : Rt) : Prop := ∀ b, tagP b l = tagP a l → Leads M b l t rt
theorem good_top (M : Int → Int) (a : Int) : Good M a 5 0 allRt := fun b _ => ⟨by omega, [], by simp, rfl⟩
theorem good_step {M : Int → Int} (hM : ∀ s, 0 ≤ M s ∧ M s ≤ 18446744073709551615) {m : Nat} {a t s x : Int} {rt : Rt} (hm : 1 ≤ m) (hm4 : m ≤ 3) (h : Good M a ((m : Int) + 1 + 1) t rt) (hs : slotI t a ((m : Int) + 1) = s) (hx : M (s / 8) = x) (he : errM 16 s = 0) (hp : bitB x 0 = true)
    (hr : resI x ((m : Int) + 1) 16 true = false) (hl : leafI x ((m : Int) + 1) = false) : Good M a ((m : Int) + 1) (tabI x) (andR rt x) := fun b hb => by
  have hm' : (m : Int) + 1 = 2 ∨ (m : Int) + 1 = 3 ∨ (m : Int) + 1 = 4 := by omega
  have ⟨w0, pre, w1, w2⟩ := h b (tag_up hm' hb)
  have hx0 : 0 ≤ x ∧ x ≤ 18446744073709551615 := hx ▸ hM _
  have ht := tabI_le hx0.1
  have e1 : ((m : Int) + 1 + 1 - 1).toNat = m + 1 := by omega
  have e2 : ((m : Int) + 1 - 1).toNat = m := by omega
  rw [e1, walkF_on ((tag_slot hm' hb).trans hs) hx he hp hr hl] at w2
  refine ⟨⟨ht.1, by omega⟩, pre ++ [((m : Int) + 1, s, x)], by simp; omega, ?_⟩
  rw [e2, w2]
  simp

theorem putC_mem {k : Key} {x : Line} {pick : Int} {r : Nat} {L : Lines} {y : Key × Line} (h : y ∈ putC k x pick r L) : y ∈ L ∨ y = (k, x) := by
  unfold putC at h
  split at h
  · exact .inl h
  · split at h
    · unfold putL at h
      split at h
      · exact List.mem_or_eq_of_mem_set h
      · rcases List.mem_append.1 h with h | h
        · exact .inl h
        · exact .inr (by simpa using h)
    · rcases List.mem_append.1 h with h | h
      · split at h
        · exact .inl h
        · exact .inl (evictL_sub.subset h)
      · exact .inr (by simpa using h)
theorem putC_nil {k : Key} {x : Line} {pick : Int} {r : Nat} (hr : 0 < r) : putC k x pick r [] = [(k, x)] := by
  unfold putC
  rw [if_neg (by omega), if_neg (by simp [hasK, look]), if_pos (by simpa using hr)]
  rfl
theorem walk_nil {M : Int → Int} {nxe : Bool} {a t : Int} {n : Nat} {rt : Rt} (h : (walkF M 16 nxe a n t rt).1 = []) : n = 0 ∨ (walkF M 16 nxe a n t rt).1.length = 0 := .inr (by rw [h]; rfl)

/-- What holds of all lines before a walk is filled in, and of any that a walk leads to, holds of all behind it. -/
theorem fill_all {M : Int → Int} (hM : ∀ s, 0 ≤ M s ∧ M s ≤ 18446744073709551615) {p a : Int} {pk : Int → Int} {r : Nat} {Q : Int → Key × Line → Prop}
    (hQ : ∀ l t rt, 2 ≤ l → l ≤ 4 → 0 ≤ t → t ≤ 18446744073709551615 → Good M a l t rt → Q l (kP p l a, lineP t rt)) : ∀ (n : Nat) (t : Int) (rt : Rt) (C : Int → Lines), n ≤ 4 → Good M a ((n : Int) + 1) t rt →
    (∀ l, 2 ≤ l → l ≤ 4 → ∀ y ∈ C l, Q l y) → ∀ l, 2 ≤ l → l ≤ 4 → ∀ y ∈ fillF p a pk r (walkF M 16 true a n t rt).1 rt C l, Q l y
  | 0, _, _, _, _, _, hC => hC
  | n + 1, t, rt, C, hn, hg, hC => by
    obtain ⟨s, hs⟩ : ∃ s, slotI t a ((n : Int) + 1) = s := ⟨_, rfl⟩
    obtain ⟨x, hx⟩ : ∃ x, M (s / 8) = x := ⟨_, rfl⟩
    by_cases hne : errM 16 s ≠ 0
    · rw [walkF_bad (by rw [hs]; exact hne)]; exact hC
    have he : errM 16 s = 0 := by omega
    cases hp : bitB x 0 with
    | false => rw [walkF_absent hs hx he hp]; exact hC
    | true =>
      cases hr : resI x ((n : Int) + 1) 16 true with
      | true => rw [walkF_res hs hx he hp hr]; exact hC
      | false =>
        cases hl : leafI x ((n : Int) + 1) with
        | true => rw [walkF_leaf hs hx he hp hr hl]; exact hC
        | false =>
          rw [walkF_on hs hx he hp hr hl]
          have hn1 : 1 ≤ n := by
            rcases n with _ | n
            · unfold leafI at hl; simp at hl
            · omega
          have g2 := good_step hM hn1 (by omega) (by simpa using hg) hs hx he hp hr hl
          have hx0 : 0 ≤ x ∧ x ≤ 18446744073709551615 := hx ▸ hM _
          have ht := tabI_le hx0.1
          simp only [fillF]
          split
          · exact hC
          · rw [if_pos ⟨⟨by omega, by omega⟩, hp, hl⟩]
            refine fill_all hM hQ n (tabI x) (andR rt x) _ (by omega) (by simpa using g2) fun l l0 l1 y hy => ?_
            by_cases hll : l = (n : Int) + 1
            · subst hll
              rw [upd_same] at hy
              rcases putC_mem hy with hy | rfl
              · exact hC _ l0 l1 y hy
              · exact hQ _ _ _ l0 l1 ht.1 (by omega) g2
            · rw [upd_other _ _ hll] at hy
              exact hC l l0 l1 y hy
/-- Filled from the top, with room: one line on each level that the walk went through. -/
theorem fill_new {M : Int → Int} {p a : Int} {pk : Int → Int} {r : Nat} (hr0 : 0 < r) : ∀ (n : Nat) (t : Int) (rt : Rt) (C : Int → Lines), n ≤ 4 → (∀ l : Int, l ≤ n → C l = []) →
    ∀ l : Int, ((n : Int) < l → fillF p a pk r (walkF M 16 true a n t rt).1 rt C l = C l) ∧ ((n : Int) + 2 - (walkF M 16 true a n t rt).1.length ≤ l → l ≤ n → ∃ x, fillF p a pk r (walkF M 16 true a n t rt).1 rt C l = [(kP p l a, x)]) ∧
      (l < (n : Int) + 2 - (walkF M 16 true a n t rt).1.length → l ≤ n → fillF p a pk r (walkF M 16 true a n t rt).1 rt C l = [])
  | 0, t, rt, C, _, hC, l => ⟨fun _ => rfl, fun h1 h2 => by simp [walkF] at h1; omega, fun _ h => hC l h⟩
  | n + 1, t, rt, C, hn, hC, l => by
    obtain ⟨s, hs⟩ : ∃ s, slotI t a ((n : Int) + 1) = s := ⟨_, rfl⟩
    obtain ⟨x, hx⟩ : ∃ x, M (s / 8) = x := ⟨_, rfl⟩
    have one : ∀ q : List Stp × WRes, walkF M 16 true a (n + 1) t rt = q → q.1.length ≤ 1 → _ := fun q hq hl1 => (show ((((n + 1 : Nat) : Int)) < l → fillF p a pk r (walkF M 16 true a (n + 1) t rt).1 rt C l = C l) ∧ ((((n + 1 : Nat) : Int)) + 2 - (walkF M 16 true a (n + 1) t rt).1.length ≤ l → l ≤ ((n + 1 : Nat) : Int) → ∃ x, fillF p a pk r (walkF M 16 true a (n + 1) t rt).1 rt C l = [(kP p l a, x)]) ∧
      (l < (((n + 1 : Nat) : Int)) + 2 - (walkF M 16 true a (n + 1) t rt).1.length → l ≤ ((n + 1 : Nat) : Int) → fillF p a pk r (walkF M 16 true a (n + 1) t rt).1 rt C l = []) by
      rw [hq]
      have hf : fillF p a pk r q.1 rt C = C := by
        obtain ⟨q1, q2⟩ := q
        match q1, hl1 with
        | [], _ => rfl
        | [s], _ => simp [fillF]
      rw [hf]
      exact ⟨fun _ => rfl, fun h1 h2 => by omega, fun _ h => hC l h⟩)
    by_cases hne : errM 16 s ≠ 0
    · exact one _ (walkF_bad (by rw [hs]; exact hne)) (by simp)
    have he : errM 16 s = 0 := by omega
    cases hp : bitB x 0 with
    | false => exact one _ (walkF_absent hs hx he hp) (by simp)
    | true =>
      cases hr : resI x ((n : Int) + 1) 16 true with
      | true => exact one _ (walkF_res hs hx he hp hr) (by simp)
      | false =>
        cases hl : leafI x ((n : Int) + 1) with
        | true => exact one _ (walkF_leaf hs hx he hp hr hl) (by simp)
        | false =>
          have hn1 : 1 ≤ n := by
            rcases n with _ | n
            · unfold leafI at hl; simp at hl
            · omega
          by_cases hlast : (walkF M 16 true a n (tabI x) (andR rt x)).1 = []
          · exact one _ (walkF_on hs hx he hp hr hl) (by simp [hlast])
          rw [walkF_on hs hx he hp hr hl]
          simp only [fillF]
          rw [if_neg hlast, if_pos ⟨⟨by omega, by omega⟩, hp, hl⟩]
          have h0 : C ((n : Int) + 1) = [] := hC _ (by omega)
          rw [h0, putC_nil hr0]
          have ih := fill_new (p := p) (a := a) (pk := pk) (r := r) (M := M) hr0 n (tabI x) (andR rt x) (upd C ((n : Int) + 1) [(kP p ((n : Int) + 1) a, lineP (tabI x) (andR rt x))]) (by omega) (fun j hj => by rw [upd_other _ _ (by omega)]; exact hC j (by omega)) l
          simp only [List.length_cons]
          have hlen := List.length_pos_iff.2 hlast
          refine ⟨fun h => ?_, fun h1 h2 => ?_, fun h1 h2 => ?_⟩
          · rw [ih.1 (by omega), upd_other _ _ (by omega)]
          · by_cases hll : l = (n : Int) + 1
            · refine ⟨lineP (tabI x) (andR rt x), (ih.1 (by omega)).trans ?_⟩
              rw [hll, upd_same]
            · exact ih.2.1 (by omega) (by omega)
          · exact ih.2.2 (by omega) (by omega)
end Go.Proofs.YtkfonacokamfiaaGreat
/- Caches of tables: DropPage, DropOf, Clear. -/
namespace Go.Proofs.YtkfonacokamfiaaGreat
set_option linter.unusedVariables false
set_option linter.unusedSimpArgs false
open Go.RowKit
attribute [local go_sem] wext_cell wext_frozen wext_heap alloc_cell alloc_frozen alloc_heap setCell_cell objCell_cells objFrozen_cells

/-- On each level something is done. -/
def eachP (f : Int → Lines → Lines) (C : Int → Lines) : Int → Lines := fun l => if 2 ≤ l ∧ l ≤ 4 then f l (C l) else C l
def partP (f : Int → Lines → Lines) (C : Int → Lines) (j : Nat) : Int → Lines := fun l => if 2 ≤ l ∧ l < 2 + j then f l (C l) else C l
theorem part_zero (f : Int → Lines → Lines) (C : Int → Lines) : partP f C 0 = C := by
  funext l; unfold partP; rw [if_neg (by omega)]
theorem part_three (f : Int → Lines → Lines) (C : Int → Lines) : partP f C 3 = eachP f C := by
  funext l; unfold partP eachP
  by_cases h : 2 ≤ l ∧ l ≤ 4
  · rw [if_pos h, if_pos (by omega)]
  · rw [if_neg h, if_neg (by omega)]
theorem part_at (f : Int → Lines → Lines) (C : Int → Lines) (j : Nat) : partP f C j (2 + (j : Int)) = C (2 + (j : Int)) := by unfold partP; rw [if_neg (by omega)]
theorem part_step (f : Int → Lines → Lines) (C : Int → Lines) (j : Nat) (hj : j < 3) : upd (partP f C j) (2 + (j : Int)) (f (2 + (j : Int)) (C (2 + (j : Int)))) = partP f C (j + 1) := by
  funext l
  unfold upd partP
  by_cases h : l = 2 + (j : Int)
  · subst h; rw [if_pos rfl, if_pos (by omega)]
  · rw [if_neg h]
    by_cases h2 : 2 ≤ l ∧ l < 2 + (j : Int)
    · rw [if_pos h2, if_pos (by omega)]
    · rw [if_neg h2, if_neg (by omega)]
end Go.Proofs.YtkfonacokamfiaaGreat
