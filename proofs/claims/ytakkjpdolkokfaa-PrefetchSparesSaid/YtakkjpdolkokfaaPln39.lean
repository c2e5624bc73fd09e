/- Joined texts, part 39 of what the law stands on: each as its own head says. -/
import Derived.Test.YtakkjpdolkokfaaPln38
import Derived.Test.YtakkjpdolkokfaaPln32
/- Package opt: what a job keeps, plainly. -/
namespace Go.Proofs.Ytakkjpdolkokfaa
set_option linter.unusedVariables false
set_option linter.unusedSimpArgs false
open Go.RowKit
attribute [local go_sem] wext_cell wext_frozen wext_heap alloc_cell alloc_frozen alloc_heap setCell_cell objCell_cells objFrozen_cells

theorem COk.fill {p a : Int} {pk : Int → Int} {r : Nat} : ∀ (L : List Stp) (rt : Rt) (C : Int → Lines), (∀ s ∈ L, 0 ≤ s.2.2 ∧ s.2.2 ≤ 18446744073709551615) → COk C → COk (fillF p a pk r L rt C)
  | [], _, _, _, h => h
  | s :: t, rt, C, hs, h => by
    unfold fillF
    split
    · exact h
    · split
      · refine COk.fill t _ _ (fun y hy => hs y (List.mem_cons_of_mem _ hy)) fun l l0 l1 y hy => ?_
        by_cases hl : l = s.1
        · subst hl
          rw [upd_same] at hy
          rcases putC_mem hy with hy | rfl
          · exact h _ l0 l1 y hy
          · have := hs s (List.mem_cons_self ..)
            have := tabI_le this.1
            simp only [lineP]
            omega
        · rw [upd_other _ _ hl] at hy
          exact h l l0 l1 y hy
      · exact h

/-- A slot's group: its slots, its words, what is loaded of it. -/
def grpA (last : Int) (i : Nat) : Int := last - last % 64 + 8 * (i : Int)
def grpF (N : Int → Int) (last : Int) (i : Nat) : Int := N (grpA last i / 8)
def grpT (last : Int) (k : Nat) : List Int := ((List.range k).map (grpA last)).filter (fun x => x != last)
theorem grpA_le {last : Int} (h0 : 0 ≤ last) (h1 : last < 65536) (i : Nat) (hi : i < 8) : 0 ≤ grpA last i ∧ grpA last i < 65536 ∧ grpA last i % 8 = 0 := by unfold grpA; omega
theorem grpT_succ (last : Int) (k : Nat) : grpT last (k + 1) = if grpA last k = last then grpT last k else grpT last k ++ [grpA last k] := by
  unfold grpT
  rw [List.range_succ, List.map_append, List.filter_append]
  simp only [List.map_cons, List.map_nil, List.filter_cons, List.filter_nil]
  by_cases h : grpA last k = last
  · simp [h]
  · simp [h]
theorem grpT_length (last : Int) (k : Nat) : (grpT last k).length ≤ k := by
  unfold grpT
  exact Nat.le_trans (List.length_filter_le _ _) (by simp)
def keepL (p a lv fr : Int) (rr : Rt) (last : Int) (N : Int → Int) (nxe : Bool) (k0 : Int) (r : Nat) (TL : Lines) : Lines :=
  if 1 < lv then greatL p a ⟨fr, lv, rr.1, rr.2.1, rr.2.2, bitB (N (last / 8)) 6⟩ k0 r TL
  else smallL p a (runF (grpF N last) (placeI a).toNat 16 rr nxe (grpF N last (placeI a).toNat)) k0 r TL
def keepT (lv last : Int) : List Int := if 1 < lv then [] else grpT last 8
theorem runF_ok {f : Nat → Int} {at_ B : Int} {r : Rt} {nxe : Bool} {x : Int} : (runF f at_ B r nxe x).ok := by
  unfold runF
  split
  · have := maskUp_lt (inRun f at_ B nxe x) 8 (by omega)
    have e : pow2 ((8 : Nat) : Int) = 256 := rfl
    rw [e] at this
    exact ⟨this.1, by have := this.2; simp only; omega⟩
  · exact ⟨by simp [noLine], by simp [noLine]⟩
theorem LOk.keep {p a lv fr : Int} {rr : Rt} {last : Int} {N : Int → Int} {nxe : Bool} {k0 : Int} {r : Nat} {TL : Lines} (h : LOk TL) : LOk (keepL p a lv fr rr last N nxe k0 r TL) := by
  unfold keepL
  split
  · unfold greatL
    split
    · exact h.put ⟨by simp, by simp⟩
    · exact h
  · unfold smallL
    split
    · exact h
    · exact h.put runF_ok
end Go.Proofs.Ytakkjpdolkokfaa
