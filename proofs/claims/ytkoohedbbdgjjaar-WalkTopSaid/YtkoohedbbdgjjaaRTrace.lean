/- What was loaded: a copy of it; where a walk begins. -/
import Derived.Test.YtkoohedbbdgjjaaREntC
import Derived.Test.YtkoohedbbdgjjaaRMemD
namespace Go.Proofs.YtkoohedbbdgjjaaR
set_option linter.unusedVariables false
set_option linter.unusedSimpArgs false
open Go.RowKit
attribute [local go_sem] wext_cell wext_frozen wext_heap alloc_cell alloc_frozen alloc_heap setCell_cell objCell_cells objFrozen_cells

/-- A copy of these words. -/
def EndWords (w : World) (ks : List Int) (e : Ending) (w' : World) : Prop :=
  ∃ v', e = .returned v' ∧ Owns w' 27 1 v' ks.length (ks.map (.int .u64 ·)) ∧ Ext w w' ∧ ∀ g, v'.ownBlock = some g → w.heap.size ≤ g

theorem cloneW_c (ks : List Int) (v : Value) (w : World) (ho : Owns w 27 1 v ks.length (ks.map (.int .u64 ·))) (hl : ks.length ≤ 1000000) :
    Calls Try.prog 76 #[v] w (EndWords w ks) := by
  have HO := Lib.hid ho
  have qT : ∀ (w : World) (a : Option Addr) (n c n' c' : Nat), (binOp .eql 43 (.slice a n c) (.slice none n' c')).run Try.prog w = .ok (.bool a.isNone) w := fun w a n c n' c' => Lib.run_eql_slice_nil w _ _ a n c n' c' Try.underlying43
  rcases ho.2 with ⟨rfl, h0⟩ | ⟨g, cap, cur, rfl, hg, hn, hm, hcs, htake⟩
  · go_enter Try.func76, Try.ntmps76
    clear ho h0
    go_wp2
    all_goals
      go_ret
      exact ⟨_, rfl, HO.out, (by repeat (first | exact Ext.refl _ | assumption | refine Ext.alloc ?_ _ | refine Ext.drew ?_ | refine Ext.setCell ?_ (by first | (simp; done) | (dsimp only; omega)) _ | refine Ext.trans ?_ (by assumption))), fun g hg => by cases hg⟩
  · go_enter Try.func76, Try.ntmps76
    unfold maxLen at hm
    clear ho htake hcs hg
    have hcl : ∀ j u, (ks.map (Value.int .u64 ·))[j]? = some u → (w.alloc (.cells #[] 27)).cell? ((⟨g, 0, none⟩ : Addr).add j) = some u := fun j u hu => by
      rw [add0, alloc_cell, if_pos (HO.out.lt g rfl)]; exact HO.out.cells rfl j u hu
    go_wp2_with (first | (at_builtin; refine wpList_append_owns rfl _ _ _ _ 1 8 wordRow rfl _ rfl 0 [] (Owns.fresh (c := #[]) (by rw [alloc_heap]; simp)) _ _ _ rfl (ks.map (Value.int .u64 ·)) (by simp) hcl (by simp [Value.oneCell']) (by unfold maxLen; omega) (by omega) ?_; intro v1 w1 q1 q2 q3; replace q2 : (w.alloc (.cells #[] 27)).grownBy w1 (some w.heap.size) := q2; replace q3 : v1.ownBlock = some w.heap.size ∨ v1.ownBlock = some (w.alloc (.cells #[] 27)).heap.size := q3))
    all_goals
      go_ret
      refine ⟨_, rfl, ?_, ?_, ?_⟩
      · show Owns w1 _ 1 v1 _ _
        simpa using q1
      · refine Keeps.to_ext (F := []) (Ext.refl w) ?_ (by simp)
        exact ((Keeps.of_ext ((Ext.refl w).alloc _)).grown q2 (fun x hx => .inr (by cases hx; exact Nat.le_refl _)))
      · intro g hg
        replace hg : v1.ownBlock = some g := hg
        rcases q3 with q3 | q3 <;> rw [q3] at hg <;> cases hg <;> simp
theorem trace_c (mb : Nat) (F : List Nat) (B : Int) (M : Int → Int) (T : List Int) (w : World) (h : MemAt w mb F B M T) (hT : T.length ≤ 1000000) :
    Calls Try.prog 25 #[.pointer (some ⟨mb, 0, none⟩)] w (EndWords w T) := by
  obtain ⟨pb, tv, es, clock, PL, p1, -, -, -, -, -, -, -, p9, -, -⟩ := h
  obtain ⟨ta, tc, rfl, -, -⟩ := p9.form
  have c2 := (heap_cell p1 2).trans rfl
  have hlt := heap_lt p1
  have HC := Lib.hid (fun w' (k : Ext w w') => cloneW_c T _ w' (p9.ext k) hT)
  generalize hE : EndWords w T = E
  have HE := Lib.hid hE
  clear hE p1 p9
  go_enter Try.func25, Try.ntmps25
  go_wp2_with (first | (go_at_call 76; refine (HC.out _ (by repeat (first | exact Ext.refl _ | assumption | refine Ext.alloc ?_ _ | refine Ext.drew ?_ | refine Ext.setCell ?_ (by first | (simp; done) | (dsimp only; omega)) _ | refine Ext.trans ?_ (by assumption)))).mono ?_; rintro e w1 ⟨v', rfl, q1, q2, q3⟩))
  all_goals
    (try go_ret)
    rw [← HE.out]
    exact ⟨v', rfl, q1, q2, q3⟩
theorem wTop_c (root : Int) (w : World) (h0 : 0 ≤ root) (h1 : root ≤ 18446744073709551615) :
    Calls Try.prog 22 #[.int .u64 root] w fun e w' => e = .returned (.agg #[.int .i64 4, .int .u64 (tabI root), .bool true, .bool true, .bool true]) ∧ Ext w w' := by
  have HT := Lib.hid (fun w => entTable_c root w h0 h1)
  generalize tabI root = tb at HT
  go_enter Try.func22, Try.ntmps22
  go_wp2_with (first | (go_at_call 75; refine (HT.out _).mono ?_; rintro e w1 ⟨rfl, hb1⟩; have ⟨hc, hf, hh, hs⟩ := hb1.facts; try simp only [World.size_alloc, World.size_setCell, World.size_drew] at hs) | (go_at_call 23; refine (rightAllE_c _).mono ?_; rintro e w2 ⟨rfl, hb2⟩; have ⟨hc, hf, hh, hs2⟩ := hb2.facts; try simp only [World.size_alloc, World.size_setCell, World.size_drew] at hs2))
  have B1 := (hb1.block w.heap.size (by simp)).trans (alloc_same ..)
  have B2 := (hb2.block w.heap.size (heap_lt B1)).trans B1
  have E2 : Ext w w2 := Ext.trans (by repeat (first | exact Ext.refl _ | assumption | refine Ext.alloc ?_ _ | refine Ext.drew ?_ | refine Ext.setCell ?_ (by first | (simp; done) | (dsimp only; omega)) _ | refine Ext.trans ?_ (by assumption))) hb2
  refine post_gen (fun U => U.heap[w.heap.size]? = some (.cells #[.int .i64 4, .int .u64 tb, .bool true, .bool true, .bool true] 36 (0, 0)) ∧ Ext w U) ⟨setCell_heap_same (setCell_heap_same (setCell_heap_same (setCell_heap_same (setCell_heap_same B2)))), Ext.setCell (Ext.setCell (Ext.setCell (Ext.setCell (Ext.setCell E2 (by simp) _) (by simp) _) (by simp) _) (by simp) _) (by simp) _⟩ ?_
  clear hc hf hh hs hs2 hb1 hb2 B1 B2 E2
  rintro U ⟨m5, e5⟩
  have v0 := (heap_cell m5 0).trans rfl
  have v1 := (heap_cell m5 1).trans rfl
  have v2 := (heap_cell m5 2).trans rfl
  have v3 := (heap_cell m5 3).trans rfl
  have v4 := (heap_cell m5 4).trans rfl
  clear m5
  refine bodyPost_ret (by simp [results, Try.results22, go_sem, ↓IntWalk.iteOmega, *]; try rfl) rfl ⟨rfl, e5⟩
end Go.Proofs.YtkoohedbbdgjjaaR
