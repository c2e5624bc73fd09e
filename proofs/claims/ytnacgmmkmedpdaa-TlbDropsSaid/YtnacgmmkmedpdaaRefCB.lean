/- The document's caches: without, Picked, Get, New. -/
import Derived.Test.YtnacgmmkmedpdaaRefCA
namespace Go.Proofs.Ytnacgmmkmedpdaa
set_option linter.unusedVariables false
set_option linter.unusedSimpArgs false
open Go.RowKit
attribute [local go_sem] wext_cell wext_frozen wext_heap alloc_cell alloc_frozen alloc_heap setCell_cell objCell_cells objFrozen_cells
attribute [local go_sem high] refKey_eql

def woL (at_ : Int) (L : List (Key × Line)) : List (Key × Line) := if at_ < 0 then L else L.eraseIdx at_.toNat
theorem woL_take (at_ : Int) (L : List (Key × Line)) (j : Nat) (h : j < L.length) : woL at_ (L.take (j + 1)) = if at_ = (j : Int) then woL at_ (L.take j) else woL at_ (L.take j) ++ [pAt L j] := by
  have e : L.take (j + 1) = L.take j ++ [pAt L j] := by rw [List.take_add_one, List.getElem?_eq_getElem h]; simp [pAt, List.getD, h]
  have hl : (L.take j).length = j := by simp; omega
  unfold woL
  by_cases h0 : at_ < 0
  · rw [if_pos h0, if_neg (by omega), if_pos h0, e]
  · rw [if_neg h0, if_neg h0, e]
    by_cases h1 : at_ = (j : Int)
    · rw [if_pos h1, List.eraseIdx_append_of_length_le (by omega), hl, show at_.toNat - j = 0 by omega]
      rw [List.eraseIdx_of_length_le (l := L.take j) (by omega)]; simp
    · rw [if_neg h1]
      by_cases h2 : at_.toNat < j
      · rw [List.eraseIdx_append_of_lt_length (by omega)]
      · rw [List.eraseIdx_of_length_le (l := L.take j) (by omega), List.eraseIdx_of_length_le (by simp; omega)]
theorem woL_length (at_ : Int) (L : List (Key × Line)) : (woL at_ L).length ≤ L.length := by
  unfold woL
  split
  · exact Nat.le_refl _
  · exact List.length_eraseIdx_le ..

theorem frozen_of {w : World} {b : Nat} {c : Array Value} {e : TypeId} (h : w.heap[b]? = some (.cells c e (0, 0))) (o : Nat) : w.frozen? ⟨b, o, none⟩ = false := by rw [frozen_heap, h]; simp [objFrozen]
theorem store2_heap {w : World} {b : Nat} {c0 c1 v0 v1 : Value} {e : TypeId} {f : Nat × Nat} (h : w.heap[b]? = some (.cells #[c0, c1] e f)) :
    ((w.setCell ⟨b, 0, none⟩ v0).setCell ⟨b, 1, none⟩ v1).heap[b]? = some (.cells #[v0, v1] e f) := setCell_heap_same (setCell_heap_same h)

def EndRef (L' : List (Key × Line)) (r : Int) (w : World) (e : Ending) (w' : World) : Prop := ∃ v', e = .returned (.agg #[v', .int .i64 r]) ∧ RefAt w' v' L' ∧ Ext w w'

set_option maxHeartbeats 1000000 in
theorem without_c (L : List (Key × Line)) (at_ : Int) (v : Value) (r : Int) (w : World) (ho : RefAt w v L) (h0 : -9223372036854775808 ≤ at_) (h1 : at_ ≤ 9223372036854775807) :
    Calls Try.prog 118 #[.agg #[v, .int .i64 r], .int .i64 at_] w (EndRef (woL at_ L) r w) := by
  have hL := ho.2
  have HO := Lib.hid ho.1
  clear ho
  obtain ⟨a, cap, rfl, hn, hm⟩ := HO.out.form
  unfold maxLen at hm
  go_enter Try.func118, Try.ntmps118
  go_wp2
  refine wp_gen ?_; intro W hW
  have hE : Ext w W := by rw [hW]; exact (by repeat (first | exact Ext.refl _ | assumption | refine Ext.alloc ?_ _ | refine Ext.drew ?_ | refine Ext.setCell ?_ (by first | (simp; done) | (dsimp only; omega)) _ | refine Ext.trans ?_ (by assumption)))
  have hb0 : W.heap[w.heap.size]? = some (.cells #[.slice a L.length cap, .int .i64 r] 28 (0, 0)) := by rw [hW]; exact (alloc_other _ _ (by simp)).trans (alloc_same ..)
  have hb1 : W.heap[w.heap.size + 1]? = some (.cells #[.slice none 0 0, .int .i64 0] 28 (0, 0)) := by rw [hW]; exact alloc_same1 ..
  have hsz : w.heap.size + 1 < W.heap.size := (by rw [hW]; (try simp only [World.size_alloc, World.size_setCell, World.size_drew]); omega)
  clear hW
  have HE := Lib.hid hE
  have H0 := Lib.hid hb0
  have H1 := Lib.hid hb1
  clear hE hb0 hb1
  go_loopw [5, 6] (fun o i wr => ∃ (j : Nat) (oa : Option Addr) (n oc : Nat), j ≤ L.length ∧ i = .int .i64 j ∧ o = .slice oa n oc ∧ n = (woL at_ (L.take j)).length ∧ Hid (Owns wr 58 9 (.slice oa n oc) n (rowP (woL at_ (L.take j))) ∧
    (∀ g, (Value.slice oa n oc).ownBlock = some g → W.heap.size ≤ g) ∧ Ext W wr)) (fun _ i _ => L.length - (intOf i).toNat)
  case atStart => exact ⟨0, none, 0, 0, by omega, rfl, rfl, by simp [woL], Lib.hid ⟨by simpa [woL, rowP] using Owns.nil _ _ _, fun g hg => by simp [Value.ownBlock] at hg, Ext.refl _⟩⟩
  case round =>
    obtain ⟨j, oa, n, oc, hj, rfl, rfl, hnl, hR⟩ := hrel
    have hHB := hR.out.2.2
    have hs1 := hHB.size
    have b0 := (heap_cell ((hHB.block _ (by omega)).trans H0.out) 0).trans rfl
    have b1 := (heap_cell ((hHB.block _ (by omega)).trans H0.out) 1).trans rfl
    have HB := Lib.hid hHB
    clear hHB
    by_cases hlt : j < L.length
    · obtain ⟨g, hg⟩ : ∃ g, a = some ⟨g, 0, none⟩ := by
        rcases HO.out.2 with ⟨_, h0⟩ | ⟨g, _, _, he, _⟩
        · omega
        · exact ⟨g, by injection he⟩
      subst hg
      have hgl := HO.out.lt g rfl
      have hnle : n ≤ 1000 := by rw [hnl]; have := woL_length at_ (L.take j); simp at this; omega
      obtain ⟨d0, d1, d2, d3, d4, d5, d6, d7, d8⟩ := ((nineAt HO.out hlt).ext HE.out).ext HB.out
      have hstep := woL_take at_ L j hlt
      have HW := HE.out.size
      have HS := Aside.mk hstep
      have HN := Aside.mk hnl
      clear hstep hnl
      generalize hx : pAt L j = x at d0 d1 d2 d3 d4 d5 d6 d7 d8 HS
      obtain ⟨⟨p, l, t⟩, ⟨xf, xa, xb, xc, xd, xm⟩⟩ := x
      clear hx
      by_cases hat : at_ = (j : Int)
      · subst hat
        go_wp2
        refine ⟨⟨j + 1, oa, n, oc, by omega, by go_num, rfl, by rw [HS.out, if_pos rfl]; exact HN.out, Lib.hid (by rw [HS.out, if_pos rfl]; exact hR.out)⟩, by simp [intOf]; omega⟩
      · have hab : ((j : Int) != at_) = true := by simp; omega
        have HA := Lib.hid (hR.out.1.ext ((Ext.refl wr).alloc (.cells #[.int .i64 p, .int .i64 l, .int .u64 t, .int .u64 xf, .bool xa, .bool xb, .bool xc, .bool xd, .int .u8 xm] 58)))
        go_wp2_with (first | (at_builtin; refine wpList_append_owns rfl _ _ _ _ 9 40 pairRow rfl _ rfl n _ HA.out _ 1 1 rfl (pairC (⟨p, l, t⟩, ⟨xf, xa, xb, xc, xd, xm⟩)) rfl (fun j u hu => by rw [add0, heap_cell (alloc_same wr _) j]; simpa [pairC] using hu) (by simp [pairC, Value.oneCell']) (by unfold maxLen; omega) (by omega) ?_; intro v9 w9 q1 q2 q3; replace q2 : (wr.alloc (.cells #[.int .i64 p, .int .i64 l, .int .u64 t, .int .u64 xf, .bool xa, .bool xb, .bool xc, .bool xd, .int .u8 xm] 58)).grownBy w9 (Value.slice oa n oc).ownBlock := q2; replace q3 : v9.ownBlock = (Value.slice oa n oc).ownBlock ∨ v9.ownBlock = some (wr.alloc (.cells #[.int .i64 p, .int .i64 l, .int .u64 t, .int .u64 xf, .bool xa, .bool xb, .bool xc, .bool xd, .int .u8 xm] 58)).heap.size := q3; obtain ⟨a9, c9, rfl, -, -⟩ := q1.form; simp only [Act.put, Array.set!_eq_setIfInBounds, List.setIfInBounds_toArray, List.set_cons_succ, List.set_cons_zero]))
        all_goals
          refine ⟨⟨j + 1, a9, n + 1, c9, by omega, by go_num, rfl, by rw [HS.out, if_neg hat, List.length_append, HN.out]; rfl, Lib.hid ⟨by rw [HS.out, if_neg hat, rowP_append]; simpa [rowP] using q1, fun g hg => ?_, ?_⟩⟩, by simp [intOf]; omega⟩
          · rcases q3 with q3 | q3 <;> rw [q3] at hg
            · exact hR.out.2.1 g hg
            · cases hg; simp; omega
          · exact Keeps.to_ext (F := []) (Ext.refl W) ((Keeps.of_ext (HB.out.alloc _)).grown q2 (fun x hx => .inr (hR.out.2.1 x hx))) (by simp)
    · have m0 := (HB.out.block w.heap.size (by omega)).trans H0.out
      have m1 := (HB.out.block (w.heap.size + 1) (by omega)).trans H1.out
      have z0 := frozen_of m0
      have z1 := frozen_of m1
      have y0 := (heap_cell m1 0).trans rfl
      have y1 := (heap_cell m1 1).trans rfl
      have M1 := Lib.hid m1
      clear m0 m1
      go_wp2
      refine post_gen (fun V => V.heap[w.heap.size + 1]? = some (.cells #[.slice oa n oc, .int .i64 r] 28 (0, 0)) ∧ Owns V 58 9 (.slice oa n oc) n (rowP (woL at_ (L.take j))) ∧ Ext w V) ⟨?_, ?_, ?_⟩ ?_
      · rw [hnl]; exact store2_heap ((setCell_heap _ _ _ _ _ (by omega)).trans M1.out)
      · refine hR.out.1.keep fun g hg => ?_
        have := hR.out.2.1 g hg
        rw [setCell_heap _ _ _ _ _ (by omega), setCell_heap _ _ _ _ _ (by omega), setCell_heap _ _ _ _ _ (by omega)]
      · exact Ext.setCell (Ext.setCell (Ext.setCell (HE.out.trans HB.out) (by simp) _) (by simp) _) (by simp) _
      rintro V ⟨m5, o5, E5⟩
      have v0 := (heap_cell m5 0).trans rfl
      have v1 := (heap_cell m5 1).trans rfl
      clear m5
      have e5 : L.take j = L := List.take_of_length_le (by omega)
      rw [e5] at o5 hnl
      refine bodyPost_ret (by simp [results, Try.results118, go_sem, ↓IntWalk.iteOmega, *]; try rfl) rfl ⟨_, rfl, ⟨by rw [← hnl]; exact o5, by have := woL_length at_ L; omega⟩, E5⟩
end Go.Proofs.Ytnacgmmkmedpdaa
