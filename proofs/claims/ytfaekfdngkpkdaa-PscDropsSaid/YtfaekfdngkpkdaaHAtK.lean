/- What a key has in lines, and behind drops; plainly. -/
import Derived.Test.YtfaekfdngkpkdaaPsk4
namespace Go.Proofs.Ytfaekfdngkpkdaa

abbrev atK (k : Key) (L : List (Key × Line)) : Option (Key × Line) := L.find? fun x => decide (k = x.1)
theorem look_find (k : Key) : ∀ (L : List (Key × Line)) (j : Nat), (look k L j).map (·.2) = (atK k L).map (·.2)
  | [], _ => rfl
  | x :: L, j => by
    unfold look
    by_cases h : k = x.1
    · rw [if_pos h, atK, List.find?_cons_of_pos (by simpa using h)]; rfl
    · rw [if_neg h, atK, List.find?_cons_of_neg (by simpa using h)]; exact look_find k L (j + 1)
theorem getLine_find (k : Key) (L : List (Key × Line)) : getLine k L = ((atK k L).map (·.2)).getD noLine := by
  rw [← look_find k L 0]
  unfold getLine
  cases look k L 0 <;> rfl
theorem hasK_find (k : Key) (L : List (Key × Line)) : hasK k L = ((atK k L).map (·.2)).isSome := by
  rw [← look_find k L 0]
  unfold hasK
  cases look k L 0 <;> rfl
theorem at_filter {P : Key → Bool} {k : Key} (h : P k = true) : ∀ (L : List (Key × Line)), atK k (L.filter fun x => P x.1) = atK k L
  | [] => rfl
  | x :: L => by
    by_cases hx : k = x.1
    · have : P x.1 = true := hx ▸ h
      rw [List.filter_cons_of_pos (p := fun x : Key × Line => P x.1) this, atK, atK, List.find?_cons_of_pos (by simpa using hx), List.find?_cons_of_pos (by simpa using hx)]
    · by_cases hp : P x.1 = true
      · rw [List.filter_cons_of_pos (p := fun x : Key × Line => P x.1) hp, atK, atK, List.find?_cons_of_neg (by simpa using hx), List.find?_cons_of_neg (by simpa using hx)]
        exact at_filter h L
      · rw [List.filter_cons_of_neg (p := fun x : Key × Line => P x.1) hp, at_filter h L, atK, atK, List.find?_cons_of_neg (by simpa using hx)]
theorem at_filter_not {P : Key → Bool} {k : Key} (h : P k = false) (L : List (Key × Line)) : atK k (L.filter fun x => P x.1) = none := by
  rw [atK, List.find?_eq_none]
  intro x hx
  have := (List.mem_filter.1 hx).2
  simp only [decide_eq_true_eq]
  intro e
  rw [← e, h] at this; cases this
theorem at_del {k k0 : Key} {L : List (Key × Line)} (hn : (keysOf L).Nodup) (h : k ≠ k0) : atK k (delL k0 L) = atK k L := by
  rw [delL_filter hn]; exact at_filter (P := (· != k0)) (by simpa using h) L
theorem at_del_same {k0 : Key} {L : List (Key × Line)} (hn : (keysOf L).Nodup) : atK k0 (delL k0 L) = none := by
  rw [delL_filter hn]; exact at_filter_not (P := (· != k0)) (by simp) L
end Go.Proofs.Ytfaekfdngkpkdaa
