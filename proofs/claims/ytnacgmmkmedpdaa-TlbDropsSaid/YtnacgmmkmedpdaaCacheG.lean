/- Caches: DropOf. -/
import Derived.Test.YtnacgmmkmedpdaaCacheF
namespace Go.Proofs.Ytnacgmmkmedpdaa
set_option linter.unusedVariables false
set_option linter.unusedSimpArgs false
open Go.RowKit
attribute [local go_sem] wext_cell wext_frozen wext_heap alloc_cell alloc_frozen alloc_heap setCell_cell objCell_cells objFrozen_cells
attribute [local go_sem high] key_eql

def dropN (pcid : Int) (ks : List Key) (L : List (Key × Line)) : List (Key × Line) := ks.foldl (fun L k => if k.p = pcid then delL k L else L) L

set_option maxHeartbeats 1000000 in
theorem dropOf_c (cb : Nat) (F : List Nat) (L : List (Key × Line)) (r : Nat) (pcid : Int) (w : World) (h : CAt w cb F L r) :
    Calls Try.prog 28 #[.pointer (some ⟨cb, 0, none⟩), .int .i64 pcid] w (EndC cb F w (dropN pcid (keysOf L) L) r) := by
  have HC := Lib.hid h
  obtain ⟨-, -, -, -, -, -, -, -, -, -, b4, b5, -⟩ := h.order
  have k4 := keysOf_length L
  clear h
  go_enter Try.func28, Try.ntmps28
  go_upto_region 0 with (fail)
  go_wp2_with (first | (go_at_call 25; refine (keys_c cb F L r _ (HC.out.ext (by repeat (first | exact Ext.refl _ | assumption | refine Ext.alloc ?_ _ | refine Ext.drew ?_ | refine Ext.setCell ?_ (by first | (simp; done) | (dsimp only; omega)) _ | refine Ext.trans ?_ (by assumption))))).mono ?_; rintro e w1 ⟨v, rfl, q1, q2, q3⟩; obtain ⟨va, vc, rfl, hv1, hv2⟩ := q1.form))
  have Q1 := Lib.hid q1
  have Q2 := Lib.hid q2
  have Q3 := Lib.hid q3
  clear q1 q2 q3
  unfold maxLen at hv2
  rw [k4] at hv1 Q1 Q3
  go_loopw [9] (fun i wr => ∃ (j : Nat) (F' : List Nat), j ≤ L.length ∧ i = .int .i64 j ∧ Hid (CAt wr cb F' (dropN pcid ((keysOf L).take j) L) r ∧ Keeps F w wr ∧ (∀ y ∈ F', y ∈ F ∨ w1.heap.size ≤ y) ∧
    Owns wr 34 3 (.slice va L.length vc) L.length (rowK (keysOf L)) ∧ w1.heap.size ≤ wr.heap.size)) (fun i _ => L.length - (intOf i).toNat)
  case atStart => exact ⟨0, F, by omega, rfl, Lib.hid ⟨HC.out.ext Q2.out, Keeps.of_ext Q2.out, fun y hy => .inl hy, Q1.out, Nat.le_refl _⟩⟩
  case round =>
    obtain ⟨j, F', hj, rfl, hR⟩ := hrel
    have hw1 := Q2.out.size
    by_cases hlt : j < L.length
    · obtain ⟨g, rfl⟩ : ∃ g, va = some ⟨g, 0, none⟩ := by
        rcases Q1.out.2 with ⟨_, h0⟩ | ⟨g, _, _, he, _⟩
        · omega
        · exact ⟨g, by injection he⟩
      obtain ⟨c0, c1, c2⟩ := rowK_get (keysOf L) j (by omega)
      have d0 := hR.out.2.2.2.1.cells (g := g) rfl _ _ c0
      have d1 := hR.out.2.2.2.1.cells (g := g) rfl _ _ c1
      have d2 := hR.out.2.2.2.1.cells (g := g) rfl _ _ c2
      have hgl := hR.out.2.2.2.1.lt g rfl
      have hg1 := Q1.out.lt g rfl
      have hg0 := Q3.out g rfl
      have e0 : dropN pcid ((keysOf L).take (j + 1)) L = if (kAt (keysOf L) j).p = pcid then delL (kAt (keysOf L) j) (dropN pcid ((keysOf L).take j) L) else dropN pcid ((keysOf L).take j) L := by
        have : (keysOf L).take (j + 1) = (keysOf L).take j ++ [kAt (keysOf L) j] := by
          rw [List.take_add_one, kAt, List.getD, List.getElem?_eq_getElem (by omega)]; simp
        rw [this, dropN, List.foldl_append]; rfl
      have HE := Aside.mk e0
      clear e0 c0 c1 c2
      generalize hk : kAt (keysOf L) j = kk at d0 d1 d2 HE
      obtain ⟨p, l, t⟩ := kk
      have HK := Aside.mk hk
      clear hk
      by_cases hp : p = pcid
      · subst hp
        go_wp2_with (first | (go_at_call 27; refine (drop_c cb F' _ r ⟨p, l, t⟩ _ (hR.out.1.ext (by repeat (first | exact Ext.refl _ | assumption | refine Ext.alloc ?_ _ | refine Ext.drew ?_ | refine Ext.setCell ?_ (by first | (simp; done) | (dsimp only; omega)) _ | refine Ext.trans ?_ (by assumption))))).mono ?_; rintro e w5 ⟨rfl, F5, hC5, hK5, hF5⟩))
        have hsz := hR.out.2.2.2.2
        have hFlt := HC.out.lt
        refine ⟨⟨j + 1, F5, by omega, by go_num, Lib.hid ⟨?_, ?_, ?_, ?_, ?_⟩⟩, by simp [intOf]; omega⟩
        · rw [HE.out, if_pos trivial]; exact hC5
        · exact (hR.out.2.1.ext (by repeat (first | exact Ext.refl _ | assumption | refine Ext.alloc ?_ _ | refine Ext.drew ?_ | refine Ext.setCell ?_ (by first | (simp; done) | (dsimp only; omega)) _ | refine Ext.trans ?_ (by assumption)))).trans hK5 fun x hx => (hR.out.2.2.1 x hx).elim .inl fun h => .inr (by omega)
        · intro y hy
          rcases hF5 y hy with h | h
          · exact hR.out.2.2.1 y h
          · simp only [World.size_alloc] at h; exact .inr (by omega)
        · refine hR.out.2.2.2.1.keep fun x hx => ?_
          obtain rfl : g = x := by simpa [Value.ownBlock] using hx
          refine (hK5.block g (by simp only [World.size_alloc]; omega) fun hm => ?_).trans (alloc_other _ _ hgl)
          rcases hR.out.2.2.1 _ hm with h | h
          · have := hFlt _ h; omega
          · omega
        · have := hK5.size; simp only [World.size_alloc] at this; omega
      · have hpb : (p == pcid) = false := by simpa using hp
        go_wp2
        refine ⟨⟨j + 1, F', by omega, by go_num, Lib.hid ⟨?_, hR.out.2.1.ext (by repeat (first | exact Ext.refl _ | assumption | refine Ext.alloc ?_ _ | refine Ext.drew ?_ | refine Ext.setCell ?_ (by first | (simp; done) | (dsimp only; omega)) _ | refine Ext.trans ?_ (by assumption))), hR.out.2.2.1, hR.out.2.2.2.1.ext (by repeat (first | exact Ext.refl _ | assumption | refine Ext.alloc ?_ _ | refine Ext.drew ?_ | refine Ext.setCell ?_ (by first | (simp; done) | (dsimp only; omega)) _ | refine Ext.trans ?_ (by assumption))), by have := hR.out.2.2.2.2; simp; omega⟩⟩, by simp [intOf]; omega⟩
        rw [HE.out, if_neg hp]
        exact hR.out.1.ext (by repeat (first | exact Ext.refl _ | assumption | refine Ext.alloc ?_ _ | refine Ext.drew ?_ | refine Ext.setCell ?_ (by first | (simp; done) | (dsimp only; omega)) _ | refine Ext.trans ?_ (by assumption)))
    · go_wp2
      refine ⟨rfl, .tuple #[], (by simp [results, Try.results28, go_sem]), ?_⟩
      have : (keysOf L).take j = keysOf L := List.take_of_length_le (by omega)
      rw [this] at hR
      exact ⟨rfl, F', hR.out.1, hR.out.2.1, fun y hy => (hR.out.2.2.1 y hy).elim .inl fun h => .inr (by omega)⟩
end Go.Proofs.Ytnacgmmkmedpdaa
