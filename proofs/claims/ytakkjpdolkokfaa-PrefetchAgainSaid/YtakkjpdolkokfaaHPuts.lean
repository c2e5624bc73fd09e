/- What is put is got; plainly. -/
import Derived.Test.YtakkjpdolkokfaaPln21
namespace Go.Proofs.Ytakkjpdolkokfaa

theorem look_got {k : Key} {x : Line} {L : List (Key × Line)} {i : Nat} (hn : (keysOf L).Nodup) (h : L[i]? = some (k, x)) : getLine k L = x ∧ hasK k L = true := by
  have := nodup_look hn h 0
  unfold getLine hasK
  rw [this]; simp
theorem put_got (k : Key) (x : Line) (pick : Int) (r : Nat) (L : List (Key × Line)) (hr : 0 < r) (_hL : L.length ≤ r) (hn : (keysOf L).Nodup) : getLine k (putC k x pick r L) = x ∧ hasK k (putC k x pick r L) = true := by
  cases hk : hasK k L with
  | true =>
    have e : putC k x pick r L = putL k x L := by unfold putC; rw [if_neg (by omega), if_pos hk]
    rw [e]
    have hks := keysOf_putL (x := x) hk
    have hn2 : (keysOf (putL k x L)).Nodup := by rw [hks]; exact hn
    cases hl : look k L 0 with
    | none => unfold hasK at hk; rw [hl] at hk; cases hk
    | some y =>
      obtain ⟨i, y⟩ := y
      have hlt : i < L.length := (List.getElem?_eq_some_iff.1 (look_some hl).2.1).1
      refine look_got (i := i) hn2 ?_
      rw [putL_set hl]; simp [hlt]
  | false =>
    have hkn : k ∉ keysOf L := fun h => by have := hasK_iff.2 h; rw [hk] at this; cases this
    have e : putC k x pick r L = (if L.length < r then L else evictL pick L) ++ [(k, x)] := by unfold putC; rw [if_neg (by omega), if_neg (by rw [hk]; simp)]
    rw [e]
    have hsub : (if L.length < r then L else evictL pick L).Sublist L := by split; exact List.Sublist.refl _; exact evictL_sub
    generalize (if L.length < r then L else evictL pick L) = M at hsub
    have hks : keysOf (M ++ [(k, x)]) = keysOf M ++ [k] := by simp [keysOf]
    have hms : (keysOf M).Sublist (keysOf L) := hsub.map _
    have hn2 : (keysOf (M ++ [(k, x)])).Nodup := by
      rw [hks, List.nodup_append]
      exact ⟨hn.sublist hms, by simp, fun a ha b hb he => hkn (by rw [List.mem_singleton] at hb; rw [← hb, ← he]; exact hms.subset ha)⟩
    exact look_got (i := M.length) hn2 (by simp)
end Go.Proofs.Ytakkjpdolkokfaa
