/- The document's caches: DropOf. -/
import Derived.Test.YtnacgmmkmedpdaaRefCD
namespace Go.Proofs.Ytnacgmmkmedpdaa
set_option linter.unusedVariables false
set_option linter.unusedSimpArgs false
open Go.RowKit
attribute [local go_sem] wext_cell wext_frozen wext_heap alloc_cell alloc_frozen alloc_heap setCell_cell objCell_cells objFrozen_cells
attribute [local go_sem high] refKey_eql

def filtL (pcid : Int) (L : List (Key × Line)) : List (Key × Line) := L.filter fun x => x.1.p != pcid
theorem filtL_take (pcid : Int) (L : List (Key × Line)) (j : Nat) (h : j < L.length) : filtL pcid (L.take (j + 1)) = if (pAt L j).1.p = pcid then filtL pcid (L.take j) else filtL pcid (L.take j) ++ [pAt L j] := by
  have e : L.take (j + 1) = L.take j ++ [pAt L j] := by rw [List.take_add_one, List.getElem?_eq_getElem h]; simp [pAt, List.getD, h]
  rw [e]
  unfold filtL
  rw [List.filter_append]
  by_cases h1 : (pAt L j).1.p = pcid
  · rw [if_pos h1]; simp [h1]
  · rw [if_neg h1]; simp [h1]
theorem filtL_length (pcid : Int) (L : List (Key × Line)) : (filtL pcid L).length ≤ L.length := List.length_filter_le ..

set_option maxHeartbeats 1000000 in
theorem refDropOf_c (L : List (Key × Line)) (at_ : Int) (v : Value) (r : Int) (w : World) (ho : RefAt w v L)  :
    Calls Try.prog 78 #[.agg #[v, .int .i64 r], .int .i64 at_] w (EndRef (filtL at_ L) r w) := by
  have hL := ho.2
  have HO := Lib.hid ho.1
  clear ho
  obtain ⟨a, cap, rfl, hn, hm⟩ := HO.out.form
  unfold maxLen at hm
  go_enter Try.func78, Try.ntmps78
  go_wp2
  refine wp_gen ?_; intro W hW
  have hE : Ext w W := by rw [hW]; exact (by repeat (first | exact Ext.refl _ | assumption | refine Ext.alloc ?_ _ | refine Ext.drew ?_ | refine Ext.setCell ?_ (by first | (simp; done) | (dsimp only; omega)) _ | refine Ext.trans ?_ (by assumption)))
  have hb0 : W.heap[w.heap.size]? = some (.cells #[.slice a L.length cap, .int .i64 r] 28 (0, 0)) := by rw [hW]; exact (alloc_other _ _ (by simp)).trans (alloc_same ..)
  have hb1 : W.heap[w.heap.size + 1]? = some (.cells #[.slice none 0 0, .int .i64 0] 28 (0, 0)) := by rw [hW]; exact alloc_same1 ..
  have hsz : w.heap.size + 1 < W.heap.size := (by rw [hW]; (try simp only [World.size_alloc, World.size_setCell, World.size_drew]); omega)
  clear hW
  have HE := Lib.hid hE
  have H0 := Lib.hid hb0
  have H1 := Lib.hid hb1
  clear hE hb0 hb1
  go_loopw [5, 6] (fun o i wr => ∃ (j : Nat) (oa : Option Addr) (n oc : Nat), j ≤ L.length ∧ i = .int .i64 j ∧ o = .slice oa n oc ∧ n = (filtL at_ (L.take j)).length ∧ Hid (Owns wr 58 9 (.slice oa n oc) n (rowP (filtL at_ (L.take j))) ∧
    (∀ g, (Value.slice oa n oc).ownBlock = some g → W.heap.size ≤ g) ∧ Ext W wr)) (fun _ i _ => L.length - (intOf i).toNat)
  case atStart => exact ⟨0, none, 0, 0, by omega, rfl, rfl, by simp [filtL], Lib.hid ⟨by simpa [filtL, rowP] using Owns.nil _ _ _, fun g hg => by simp [Value.ownBlock] at hg, Ext.refl _⟩⟩
  case round =>
    obtain ⟨j, oa, n, oc, hj, rfl, rfl, hnl, hR⟩ := hrel
    have hHB := hR.out.2.2
    have hs1 := hHB.size
    have b0 := (heap_cell ((hHB.block _ (by omega)).trans H0.out) 0).trans rfl
    have b1 := (heap_cell ((hHB.block _ (by omega)).trans H0.out) 1).trans rfl
    have HB := Lib.hid hHB
    clear hHB
    by_cases hlt : j < L.length
    · obtain ⟨g, hg⟩ : ∃ g, a = some ⟨g, 0, none⟩ := by
        rcases HO.out.2 with ⟨_, h0⟩ | ⟨g, _, _, he, _⟩
        · omega
        · exact ⟨g, by injection he⟩
      subst hg
      have hgl := HO.out.lt g rfl
      have hnle : n ≤ 1000 := by rw [hnl]; have := filtL_length at_ (L.take j); simp at this; omega
      obtain ⟨d0, d1, d2, d3, d4, d5, d6, d7, d8⟩ := ((nineAt HO.out hlt).ext HE.out).ext HB.out
      have hstep := filtL_take at_ L j hlt
      have HW := HE.out.size
      have HS := Aside.mk hstep
      have HN := Aside.mk hnl
      clear hstep hnl
      generalize hx : pAt L j = x at d0 d1 d2 d3 d4 d5 d6 d7 d8 HS
      obtain ⟨⟨p, l, t⟩, ⟨xf, xa, xb, xc, xd, xm⟩⟩ := x
      clear hx
      by_cases hat : p = at_
      · subst hat
        go_wp2
        refine ⟨⟨j + 1, oa, n, oc, by omega, by go_num, rfl, by rw [HS.out, if_pos rfl]; exact HN.out, Lib.hid (by rw [HS.out, if_pos rfl]; exact hR.out)⟩, by simp [intOf]; omega⟩
      · have hab : (p != at_) = true := by simpa using hat
        have HA := Lib.hid (hR.out.1.ext ((Ext.refl wr).alloc (.cells #[.int .i64 p, .int .i64 l, .int .u64 t, .int .u64 xf, .bool xa, .bool xb, .bool xc, .bool xd, .int .u8 xm] 58)))
        go_wp2_with (first | (at_builtin; refine wpList_append_owns rfl _ _ _ _ 9 40 pairRow rfl _ rfl n _ HA.out _ 1 1 rfl (pairC (⟨p, l, t⟩, ⟨xf, xa, xb, xc, xd, xm⟩)) rfl (fun j u hu => by rw [add0, heap_cell (alloc_same wr _) j]; simpa [pairC] using hu) (by simp [pairC, Value.oneCell']) (by unfold maxLen; omega) (by omega) ?_; intro v9 w9 q1 q2 q3; replace q2 : (wr.alloc (.cells #[.int .i64 p, .int .i64 l, .int .u64 t, .int .u64 xf, .bool xa, .bool xb, .bool xc, .bool xd, .int .u8 xm] 58)).grownBy w9 (Value.slice oa n oc).ownBlock := q2; replace q3 : v9.ownBlock = (Value.slice oa n oc).ownBlock ∨ v9.ownBlock = some (wr.alloc (.cells #[.int .i64 p, .int .i64 l, .int .u64 t, .int .u64 xf, .bool xa, .bool xb, .bool xc, .bool xd, .int .u8 xm] 58)).heap.size := q3; obtain ⟨a9, c9, rfl, -, -⟩ := q1.form; simp only [Act.put, Array.set!_eq_setIfInBounds, List.setIfInBounds_toArray, List.set_cons_succ, List.set_cons_zero]))
        all_goals
          refine ⟨⟨j + 1, a9, n + 1, c9, by omega, by go_num, rfl, by rw [HS.out, if_neg hat, List.length_append, HN.out]; rfl, Lib.hid ⟨by rw [HS.out, if_neg hat, rowP_append]; simpa [rowP] using q1, fun g hg => ?_, ?_⟩⟩, by simp [intOf]; omega⟩
          · rcases q3 with q3 | q3 <;> rw [q3] at hg
            · exact hR.out.2.1 g hg
            · cases hg; simp; omega
          · exact Keeps.to_ext (F := []) (Ext.refl W) ((Keeps.of_ext (HB.out.alloc _)).grown q2 (fun x hx => .inr (hR.out.2.1 x hx))) (by simp)
    · have m0 := (HB.out.block w.heap.size (by omega)).trans H0.out
      have m1 := (HB.out.block (w.heap.size + 1) (by omega)).trans H1.out
      have z0 := frozen_of m0
      have z1 := frozen_of m1
      have y0 := (heap_cell m1 0).trans rfl
      have y1 := (heap_cell m1 1).trans rfl
      have M1 := Lib.hid m1
      clear m0 m1
      go_wp2
      refine post_gen (fun V => V.heap[w.heap.size + 1]? = some (.cells #[.slice oa n oc, .int .i64 r] 28 (0, 0)) ∧ Owns V 58 9 (.slice oa n oc) n (rowP (filtL at_ (L.take j))) ∧ Ext w V) ⟨?_, ?_, ?_⟩ ?_
      · rw [hnl]; exact store2_heap ((setCell_heap _ _ _ _ _ (by omega)).trans M1.out)
      · refine hR.out.1.keep fun g hg => ?_
        have := hR.out.2.1 g hg
        rw [setCell_heap _ _ _ _ _ (by omega), setCell_heap _ _ _ _ _ (by omega), setCell_heap _ _ _ _ _ (by omega)]
      · exact Ext.setCell (Ext.setCell (Ext.setCell (HE.out.trans HB.out) (by simp) _) (by simp) _) (by simp) _
      rintro V ⟨m5, o5, E5⟩
      have v0 := (heap_cell m5 0).trans rfl
      have v1 := (heap_cell m5 1).trans rfl
      clear m5
      have e5 : L.take j = L := List.take_of_length_le (by omega)
      rw [e5] at o5 hnl
      refine bodyPost_ret (by simp [results, Try.results78, go_sem, ↓IntWalk.iteOmega, *]; try rfl) rfl ⟨_, rfl, ⟨by rw [← hnl]; exact o5, by have := filtL_length at_ L; omega⟩, E5⟩
end Go.Proofs.Ytnacgmmkmedpdaa
