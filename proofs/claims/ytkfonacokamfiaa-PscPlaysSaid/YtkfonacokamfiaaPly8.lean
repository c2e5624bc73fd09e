/- Joined texts, part 8 of what the law stands on: each as its own head says. -/
import Derived.Test.YtkfonacokamfiaaPly7
/- Caches: DropOf. -/
namespace Go.Proofs.Ytkfonacokamfiaa
set_option linter.unusedVariables false
set_option linter.unusedSimpArgs false
open Go.RowKit
attribute [local go_sem] wext_cell wext_frozen wext_heap alloc_cell alloc_frozen alloc_heap setCell_cell objCell_cells objFrozen_cells
attribute [local go_sem high] key_eql

def dropN (pcid : Int) (ks : List Key) (L : List (Key × Line)) : List (Key × Line) := ks.foldl (fun L k => if k.p = pcid then delL k L else L) L

set_option maxHeartbeats 1000000 in
theorem dropOf_c (cb : Nat) (F : List Nat) (L : List (Key × Line)) (r : Nat) (pcid : Int) (w : World) (h : CAt w cb F L r) :
    Calls Try.prog 54 #[.pointer (some ⟨cb, 0, none⟩), .int .i64 pcid] w (EndC cb F w (dropN pcid (keysOf L) L) r) := by
  have HC := Lib.hid h
  obtain ⟨-, -, -, -, -, -, -, -, -, -, b4, b5, -⟩ := h.order
  have k4 := keysOf_length L
  clear h
  go_enter Try.func54, Try.ntmps54
  go_upto_region 0 with (fail)
  go_wp2_with (first | (go_at_call 33; refine (keys_c cb F L r _ (HC.out.ext (by repeat (first | exact Ext.refl _ | assumption | refine Ext.alloc ?_ _ | refine Ext.drew ?_ | refine Ext.setCell ?_ (by first | (simp; done) | (dsimp only; omega)) _ | refine Ext.trans ?_ (by assumption))))).mono ?_; rintro e w1 ⟨v, rfl, q1, q2, q3⟩; obtain ⟨va, vc, rfl, hv1, hv2⟩ := q1.form))
  have Q1 := Lib.hid q1
  have Q2 := Lib.hid q2
  have Q3 := Lib.hid q3
  clear q1 q2 q3
  unfold maxLen at hv2
  rw [k4] at hv1 Q1 Q3
  go_loopw [9] (fun i wr => ∃ (j : Nat) (F' : List Nat), j ≤ L.length ∧ i = .int .i64 j ∧ Hid (CAt wr cb F' (dropN pcid ((keysOf L).take j) L) r ∧ Keeps F w wr ∧ (∀ y ∈ F', y ∈ F ∨ w1.heap.size ≤ y) ∧
    Owns wr 87 3 (.slice va L.length vc) L.length (rowK (keysOf L)) ∧ w1.heap.size ≤ wr.heap.size)) (fun i _ => L.length - (intOf i).toNat)
  case atStart => exact ⟨0, F, by omega, rfl, Lib.hid ⟨HC.out.ext Q2.out, Keeps.of_ext Q2.out, fun y hy => .inl hy, Q1.out, Nat.le_refl _⟩⟩
  case round =>
    obtain ⟨j, F', hj, rfl, hR⟩ := hrel
    have hw1 := Q2.out.size
    by_cases hlt : j < L.length
    · obtain ⟨g, rfl⟩ : ∃ g, va = some ⟨g, 0, none⟩ := by
        rcases Q1.out.2 with ⟨_, h0⟩ | ⟨g, _, _, he, _⟩
        · omega
        · exact ⟨g, by injection he⟩
      obtain ⟨c0, c1, c2⟩ := rowK_get (keysOf L) j (by omega)
      have d0 := hR.out.2.2.2.1.cells (g := g) rfl _ _ c0
      have d1 := hR.out.2.2.2.1.cells (g := g) rfl _ _ c1
      have d2 := hR.out.2.2.2.1.cells (g := g) rfl _ _ c2
      have hgl := hR.out.2.2.2.1.lt g rfl
      have hg1 := Q1.out.lt g rfl
      have hg0 := Q3.out g rfl
      have e0 : dropN pcid ((keysOf L).take (j + 1)) L = if (kAt (keysOf L) j).p = pcid then delL (kAt (keysOf L) j) (dropN pcid ((keysOf L).take j) L) else dropN pcid ((keysOf L).take j) L := by
        have : (keysOf L).take (j + 1) = (keysOf L).take j ++ [kAt (keysOf L) j] := by
          rw [List.take_add_one, kAt, List.getD, List.getElem?_eq_getElem (by omega)]; simp
        rw [this, dropN, List.foldl_append]; rfl
      have HE := Aside.mk e0
      clear e0 c0 c1 c2
      generalize hk : kAt (keysOf L) j = kk at d0 d1 d2 HE
      obtain ⟨p, l, t⟩ := kk
      have HK := Aside.mk hk
      clear hk
      by_cases hp : p = pcid
      · subst hp
        go_wp2_with (first | (go_at_call 52; refine (drop_c cb F' _ r ⟨p, l, t⟩ _ (hR.out.1.ext (by repeat (first | exact Ext.refl _ | assumption | refine Ext.alloc ?_ _ | refine Ext.drew ?_ | refine Ext.setCell ?_ (by first | (simp; done) | (dsimp only; omega)) _ | refine Ext.trans ?_ (by assumption))))).mono ?_; rintro e w5 ⟨rfl, F5, hC5, hK5, hF5⟩))
        have hsz := hR.out.2.2.2.2
        have hFlt := HC.out.lt
        refine ⟨⟨j + 1, F5, by omega, by go_num, Lib.hid ⟨?_, ?_, ?_, ?_, ?_⟩⟩, by simp [intOf]; omega⟩
        · rw [HE.out, if_pos trivial]; exact hC5
        · exact (hR.out.2.1.ext (by repeat (first | exact Ext.refl _ | assumption | refine Ext.alloc ?_ _ | refine Ext.drew ?_ | refine Ext.setCell ?_ (by first | (simp; done) | (dsimp only; omega)) _ | refine Ext.trans ?_ (by assumption)))).trans hK5 fun x hx => (hR.out.2.2.1 x hx).elim .inl fun h => .inr (by omega)
        · intro y hy
          rcases hF5 y hy with h | h
          · exact hR.out.2.2.1 y h
          · simp only [World.size_alloc] at h; exact .inr (by omega)
        · refine hR.out.2.2.2.1.keep fun x hx => ?_
          obtain rfl : g = x := by simpa [Value.ownBlock] using hx
          refine (hK5.block g (by simp only [World.size_alloc]; omega) fun hm => ?_).trans (alloc_other _ _ hgl)
          rcases hR.out.2.2.1 _ hm with h | h
          · have := hFlt _ h; omega
          · omega
        · have := hK5.size; simp only [World.size_alloc] at this; omega
      · have hpb : (p == pcid) = false := by simpa using hp
        go_wp2
        refine ⟨⟨j + 1, F', by omega, by go_num, Lib.hid ⟨?_, hR.out.2.1.ext (by repeat (first | exact Ext.refl _ | assumption | refine Ext.alloc ?_ _ | refine Ext.drew ?_ | refine Ext.setCell ?_ (by first | (simp; done) | (dsimp only; omega)) _ | refine Ext.trans ?_ (by assumption))), hR.out.2.2.1, hR.out.2.2.2.1.ext (by repeat (first | exact Ext.refl _ | assumption | refine Ext.alloc ?_ _ | refine Ext.drew ?_ | refine Ext.setCell ?_ (by first | (simp; done) | (dsimp only; omega)) _ | refine Ext.trans ?_ (by assumption))), by have := hR.out.2.2.2.2; simp; omega⟩⟩, by simp [intOf]; omega⟩
        rw [HE.out, if_neg hp]
        exact hR.out.1.ext (by repeat (first | exact Ext.refl _ | assumption | refine Ext.alloc ?_ _ | refine Ext.drew ?_ | refine Ext.setCell ?_ (by first | (simp; done) | (dsimp only; omega)) _ | refine Ext.trans ?_ (by assumption)))
    · go_wp2
      refine ⟨rfl, .tuple #[], (by simp [results, Try.results54, go_sem]), ?_⟩
      have : (keysOf L).take j = keysOf L := List.take_of_length_le (by omega)
      rw [this] at hR
      exact ⟨rfl, F', hR.out.1, hR.out.2.1, fun y hy => (hR.out.2.2.1 y hy).elim .inl fun h => .inr (by omega)⟩
end Go.Proofs.Ytkfonacokamfiaa
/- The document's caches: rows of pairs; find. -/
namespace Go.Proofs.Ytkfonacokamfiaa
set_option linter.unusedVariables false
set_option linter.unusedSimpArgs false
open Go.RowKit
attribute [local go_sem] wext_cell wext_frozen wext_heap alloc_cell alloc_frozen alloc_heap setCell_cell objCell_cells objFrozen_cells

def pairC (x : Key × Line) : List Value := [.int .i64 x.1.p, .int .i64 x.1.l, .int .u64 x.1.t, .int .u64 x.2.f, .bool x.2.a, .bool x.2.b, .bool x.2.c, .bool x.2.d, .int .u8 x.2.m]
def rowP (L : List (Key × Line)) : List Value := L.flatMap pairC
def pAt (L : List (Key × Line)) (i : Nat) : Key × Line := L.getD i default
theorem rowP_length (L : List (Key × Line)) : (rowP L).length = L.length * 9 := by
  induction L with
  | nil => rfl
  | cons k L ih => simp only [rowP, List.flatMap_cons, List.length_append, List.length_cons] at *; simp only [pairC, List.length_cons, List.length_nil]; omega
theorem rowP_at : ∀ (L : List (Key × Line)) (i : Nat), i < L.length → ∀ j, j < 9 → (rowP L)[i * 9 + j]? = (pairC (pAt L i))[j]?
  | [], i, h, _, _ => by simp at h
  | x :: L, 0, h, j, hj => by
    simp only [rowP, List.flatMap_cons, Nat.zero_mul, Nat.zero_add]
    rw [List.getElem?_append_left (by simpa [pairC] using hj)]; rfl
  | x :: L, i + 1, h, j, hj => by
    have h2 : i < L.length := by simpa using h
    have := rowP_at L i h2 j hj
    have e2 : pAt (x :: L) (i + 1) = pAt L i := by simp [pAt]
    rw [e2, ← this, show (i + 1) * 9 + j = (i * 9 + j) + 9 by omega]
    simp [rowP, pairC]
theorem rowP_append (a b : List (Key × Line)) : rowP (a ++ b) = rowP a ++ rowP b := by simp [rowP]
theorem rowP_one (a : List (Key × Line)) : ∀ u ∈ rowP a, u.oneCell' = true := by
  intro u hu
  obtain ⟨k, _, hk⟩ := List.mem_flatMap.1 hu
  simp [pairC] at hk
  rcases hk with rfl | rfl | rfl | rfl | rfl | rfl | rfl | rfl | rfl <;> rfl

/-- The nine cells of a pair. -/
def NineAt (w : World) (g o : Nat) (x : Key × Line) : Prop :=
  w.cell? ⟨g, o, none⟩ = some (.int .i64 x.1.p) ∧ w.cell? ⟨g, o + 1, none⟩ = some (.int .i64 x.1.l) ∧ w.cell? ⟨g, o + 2, none⟩ = some (.int .u64 x.1.t) ∧
  w.cell? ⟨g, o + 3, none⟩ = some (.int .u64 x.2.f) ∧ w.cell? ⟨g, o + 4, none⟩ = some (.bool x.2.a) ∧ w.cell? ⟨g, o + 5, none⟩ = some (.bool x.2.b) ∧ w.cell? ⟨g, o + 6, none⟩ = some (.bool x.2.c) ∧
  w.cell? ⟨g, o + 7, none⟩ = some (.bool x.2.d) ∧ w.cell? ⟨g, o + 8, none⟩ = some (.int .u8 x.2.m)
theorem nineAt {w : World} {g cap : Nat} {L : List (Key × Line)} {n : Nat} {e : TypeId} (h : Owns w e 9 (.slice (some ⟨g, 0, none⟩) n cap) n (rowP L)) {i : Nat} (hi : i < L.length) : NineAt w g (i * 9) (pAt L i) := by
  have H := fun j hj u hu => h.cells (g := g) rfl (i * 9 + j) u ((rowP_at L i hi j hj).trans hu)
  exact ⟨H 0 (by omega) _ rfl, H 1 (by omega) _ rfl, H 2 (by omega) _ rfl, H 3 (by omega) _ rfl, H 4 (by omega) _ rfl, H 5 (by omega) _ rfl, H 6 (by omega) _ rfl, H 7 (by omega) _ rfl, H 8 (by omega) _ rfl⟩
theorem NineAt.ext {w w' : World} {g o : Nat} {x : Key × Line} (h : NineAt w g o x) (k : Ext w w') : NineAt w' g o x := by
  obtain ⟨a, b, c, d, e, f, g, i, j⟩ := h
  exact ⟨k.someCell a, k.someCell b, k.someCell c, k.someCell d, k.someCell e, k.someCell f, k.someCell g, k.someCell i, k.someCell j⟩

theorem pairRow : RowT Try.prog 26 127 9 40 := RowT.of (z := .agg #[.int .i64 0, .int .i64 0, .int .u64 0, .int .u64 0, .bool false, .bool false, .bool false, .bool false, .int .u8 0]) Try.underlying26 (by kernel_rfl) rfl

theorem refKey_equal (k k' : Key) (w : World) : (Op.equal 93 k.val k'.val).run Try.prog w = .ok (decide (k = k')) w := by
  show (Op.equalIn 10000 _ _ _).run _ _ = _
  obtain ⟨p, l, t⟩ := k
  obtain ⟨p', l', t'⟩ := k'
  simp [Key.val, go_sem]
  by_cases h1 : p = p' <;> by_cases h2 : l = l' <;> by_cases h3 : t = t' <;> simp [*]
theorem refKey_eql (p l t p' l' t' : Int) (w : World) : (binOp .eql 93 (.agg #[.int .i64 p, .int .i64 l, .int .u64 t]) (.agg #[.int .i64 p', .int .i64 l', .int .u64 t'])).run Try.prog w = .ok (.bool (keyB ⟨p, l, t⟩ ⟨p', l', t'⟩)) w := by
  have := refKey_equal ⟨p, l, t⟩ ⟨p', l', t'⟩ w
  rw [run_eql_struct]
  show ((Op.equal _ _ _).run _ _).andThen _ = _
  simp only [Key.val] at this
  rw [this]; rfl
attribute [local go_sem high] refKey_eql

/-- The document's cache as a value. -/
def RefAt (w : World) (v : Value) (L : List (Key × Line)) : Prop := Owns w 127 9 v L.length (rowP L) ∧ L.length ≤ 1000
theorem RefAt.ext {w w' : World} {v : Value} {L : List (Key × Line)} (h : RefAt w v L) (k : Ext w w') : RefAt w' v L := ⟨h.1.ext k, h.2⟩

theorem keyB_symm (a b : Key) : keyB a b = keyB b a := by simp [keyB, eq_comm]

set_option maxHeartbeats 1000000 in
theorem find_c (L : List (Key × Line)) (k : Key) (v : Value) (r : Int) (w : World) (ho : RefAt w v L) :
    Calls Try.prog 59 #[.agg #[v, .int .i64 r], k.val] w fun e w' => e = .returned (.int .i64 (ixK k (keysOf L) 0)) ∧ Ext w w' := by
  have hL := ho.2
  have HO := Lib.hid ho.1
  clear ho
  obtain ⟨p, l, t⟩ := k
  obtain ⟨a, cap, rfl, hn, hm⟩ := HO.out.form
  unfold Key.val
  unfold maxLen at hm
  go_enter Try.func59, Try.ntmps59
  go_wp2
  refine wp_gen ?_; intro W hW
  have hE : Ext w W := by rw [hW]; exact (by repeat (first | exact Ext.refl _ | assumption | refine Ext.alloc ?_ _ | refine Ext.drew ?_ | refine Ext.setCell ?_ (by first | (simp; done) | (dsimp only; omega)) _ | refine Ext.trans ?_ (by assumption)))
  have hb0 : W.cell? ⟨w.heap.size, 0, none⟩ = some (.slice a L.length cap) := (by rw [hW]; simp [go_sem, ↓IntWalk.iteOmega, *])
  have hb1 : W.cell? ⟨w.heap.size + 1, 0, none⟩ = some (.int .i64 p) := (by rw [hW]; simp [go_sem, ↓IntWalk.iteOmega, *])
  have hb2 : W.cell? ⟨w.heap.size + 1, 1, none⟩ = some (.int .i64 l) := (by rw [hW]; simp [go_sem, ↓IntWalk.iteOmega, *])
  have hb3 : W.cell? ⟨w.heap.size + 1, 2, none⟩ = some (.int .u64 t) := (by rw [hW]; simp [go_sem, ↓IntWalk.iteOmega, *])
  have hsz : w.heap.size + 1 < W.heap.size := (by rw [hW]; (try simp only [World.size_alloc, World.size_setCell, World.size_drew]); omega)
  clear hW
  have HE := Lib.hid hE
  have k4 := keysOf_length L
  clear hE
  go_loopw [5] (fun i wr => ∃ j : Nat, j ≤ L.length ∧ i = .int .i64 j ∧ Aside (ixK ⟨p, l, t⟩ (keysOf L) 0 = ixK ⟨p, l, t⟩ ((keysOf L).drop j) j) ∧ Ext W wr) (fun i _ => L.length - (intOf i).toNat)
  case atStart => exact ⟨0, by omega, rfl, ⟨by simp⟩, Ext.refl _⟩
  case round =>
    obtain ⟨j, hj, rfl, hi, hb⟩ := hrel
    have HB := Lib.hid hb
    have f0 := hb.someCell hb0
    have f1 := hb.someCell hb1
    have f2 := hb.someCell hb2
    have f3 := hb.someCell hb3
    have hbs := hb.size
    clear hb hb0 hb1 hb2 hb3
    by_cases hlt : j < L.length
    · obtain ⟨g, hg⟩ : ∃ g, a = some ⟨g, 0, none⟩ := by
        rcases HO.out.2 with ⟨_, h0⟩ | ⟨g, _, _, he, _⟩
        · omega
        · exact ⟨g, by injection he⟩
      subst hg
      have hgl := HO.out.lt g rfl
      obtain ⟨d0, d1, d2, -⟩ := ((nineAt HO.out hlt).ext HE.out).ext HB.out
      have hdrop := Aside.mk (ixK_drop ⟨p, l, t⟩ (keysOf L) j (by omega))
      have hkk : kAt (keysOf L) j = (pAt L j).1 := by simp [kAt, pAt, keysOf, List.getD, hlt]
      rw [hkk] at hdrop
      have HW := HE.out.size
      go_upto_region 4 with (fail)
      refine region_ext (by kernel_rfl) (by kernel_rfl) ?_; (repeat (go_big_quiet_step (fail))); refine wpQuiet_nil ?_; intro w1 hb; have ⟨hc, hf, hh, hs⟩ := hb.facts; try simp only [World.size_alloc, World.size_setCell, World.size_drew] at hs
      go_wp2
      · go_ret
        rename_i hq
        refine ⟨?_, (HE.out.trans HB.out).trans hb⟩
        rw [hi.out, hdrop.out, if_pos (by rw [keyB_symm]; exact hq)]
        rfl
      · rename_i hq
        refine ⟨⟨j + 1, by omega, by go_num, ⟨?_⟩, HB.out.trans hb⟩, by simp [intOf]; omega⟩
        rw [hi.out, hdrop.out, if_neg]
        rw [keyB_symm, show (pAt L j).1 = ⟨(pAt L j).1.p, (pAt L j).1.l, (pAt L j).1.t⟩ from rfl, hq]; simp
    · go_wp2
      go_ret
      refine ⟨?_, HE.out.trans HB.out⟩
      rw [hi.out, List.drop_eq_nil_of_le (by omega)]
      rfl
end Go.Proofs.Ytkfonacokamfiaa
/- The document's caches: without, Picked, Get, New. -/
namespace Go.Proofs.Ytkfonacokamfiaa
set_option linter.unusedVariables false
set_option linter.unusedSimpArgs false
open Go.RowKit
attribute [local go_sem] wext_cell wext_frozen wext_heap alloc_cell alloc_frozen alloc_heap setCell_cell objCell_cells objFrozen_cells
attribute [local go_sem high] refKey_eql

def woL (at_ : Int) (L : List (Key × Line)) : List (Key × Line) := if at_ < 0 then L else L.eraseIdx at_.toNat
theorem woL_take (at_ : Int) (L : List (Key × Line)) (j : Nat) (h : j < L.length) : woL at_ (L.take (j + 1)) = if at_ = (j : Int) then woL at_ (L.take j) else woL at_ (L.take j) ++ [pAt L j] := by
  have e : L.take (j + 1) = L.take j ++ [pAt L j] := by rw [List.take_add_one, List.getElem?_eq_getElem h]; simp [pAt, List.getD, h]
  have hl : (L.take j).length = j := by simp; omega
  unfold woL
  by_cases h0 : at_ < 0
  · rw [if_pos h0, if_neg (by omega), if_pos h0, e]
  · rw [if_neg h0, if_neg h0, e]
    by_cases h1 : at_ = (j : Int)
    · rw [if_pos h1, List.eraseIdx_append_of_length_le (by omega), hl, show at_.toNat - j = 0 by omega]
      rw [List.eraseIdx_of_length_le (l := L.take j) (by omega)]; simp
    · rw [if_neg h1]
      by_cases h2 : at_.toNat < j
      · rw [List.eraseIdx_append_of_lt_length (by omega)]
      · rw [List.eraseIdx_of_length_le (l := L.take j) (by omega), List.eraseIdx_of_length_le (by simp; omega)]
theorem woL_length (at_ : Int) (L : List (Key × Line)) : (woL at_ L).length ≤ L.length := by
  unfold woL
  split
  · exact Nat.le_refl _
  · exact List.length_eraseIdx_le ..

theorem store2_heap {w : World} {b : Nat} {c0 c1 v0 v1 : Value} {e : TypeId} {f : Nat × Nat} (h : w.heap[b]? = some (.cells #[c0, c1] e f)) :
    ((w.setCell ⟨b, 0, none⟩ v0).setCell ⟨b, 1, none⟩ v1).heap[b]? = some (.cells #[v0, v1] e f) := setCell_heap_same (setCell_heap_same h)

def EndRef (L' : List (Key × Line)) (r : Int) (w : World) (e : Ending) (w' : World) : Prop := ∃ v', e = .returned (.agg #[v', .int .i64 r]) ∧ RefAt w' v' L' ∧ Ext w w'

set_option maxHeartbeats 1000000 in
theorem without_c (L : List (Key × Line)) (at_ : Int) (v : Value) (r : Int) (w : World) (ho : RefAt w v L) (h0 : -9223372036854775808 ≤ at_) (h1 : at_ ≤ 9223372036854775807) :
    Calls Try.prog 70 #[.agg #[v, .int .i64 r], .int .i64 at_] w (EndRef (woL at_ L) r w) := by
  have hL := ho.2
  have HO := Lib.hid ho.1
  clear ho
  obtain ⟨a, cap, rfl, hn, hm⟩ := HO.out.form
  unfold maxLen at hm
  go_enter Try.func70, Try.ntmps70
  go_wp2
  refine wp_gen ?_; intro W hW
  have hE : Ext w W := by rw [hW]; exact (by repeat (first | exact Ext.refl _ | assumption | refine Ext.alloc ?_ _ | refine Ext.drew ?_ | refine Ext.setCell ?_ (by first | (simp; done) | (dsimp only; omega)) _ | refine Ext.trans ?_ (by assumption)))
  have hb0 : W.heap[w.heap.size]? = some (.cells #[.slice a L.length cap, .int .i64 r] 28 (0, 0)) := by rw [hW]; exact (alloc_other _ _ (by simp)).trans (alloc_same ..)
  have hb1 : W.heap[w.heap.size + 1]? = some (.cells #[.slice none 0 0, .int .i64 0] 28 (0, 0)) := by rw [hW]; exact alloc_same1 ..
  have hsz : w.heap.size + 1 < W.heap.size := (by rw [hW]; (try simp only [World.size_alloc, World.size_setCell, World.size_drew]); omega)
  clear hW
  have HE := Lib.hid hE
  have H0 := Lib.hid hb0
  have H1 := Lib.hid hb1
  clear hE hb0 hb1
  go_loopw [5, 6] (fun o i wr => ∃ (j : Nat) (oa : Option Addr) (n oc : Nat), j ≤ L.length ∧ i = .int .i64 j ∧ o = .slice oa n oc ∧ n = (woL at_ (L.take j)).length ∧ Hid (Owns wr 127 9 (.slice oa n oc) n (rowP (woL at_ (L.take j))) ∧
    (∀ g, (Value.slice oa n oc).ownBlock = some g → W.heap.size ≤ g) ∧ Ext W wr)) (fun _ i _ => L.length - (intOf i).toNat)
  case atStart => exact ⟨0, none, 0, 0, by omega, rfl, rfl, by simp [woL], Lib.hid ⟨by simpa [woL, rowP] using Owns.nil _ _ _, fun g hg => by simp [Value.ownBlock] at hg, Ext.refl _⟩⟩
  case round =>
    obtain ⟨j, oa, n, oc, hj, rfl, rfl, hnl, hR⟩ := hrel
    have hHB := hR.out.2.2
    have hs1 := hHB.size
    have b0 := (heap_cell ((hHB.block _ (by omega)).trans H0.out) 0).trans rfl
    have b1 := (heap_cell ((hHB.block _ (by omega)).trans H0.out) 1).trans rfl
    have HB := Lib.hid hHB
    clear hHB
    by_cases hlt : j < L.length
    · obtain ⟨g, hg⟩ : ∃ g, a = some ⟨g, 0, none⟩ := by
        rcases HO.out.2 with ⟨_, h0⟩ | ⟨g, _, _, he, _⟩
        · omega
        · exact ⟨g, by injection he⟩
      subst hg
      have hgl := HO.out.lt g rfl
      have hnle : n ≤ 1000 := by rw [hnl]; have := woL_length at_ (L.take j); simp at this; omega
      obtain ⟨d0, d1, d2, d3, d4, d5, d6, d7, d8⟩ := ((nineAt HO.out hlt).ext HE.out).ext HB.out
      have hstep := woL_take at_ L j hlt
      have HW := HE.out.size
      have HS := Aside.mk hstep
      have HN := Aside.mk hnl
      clear hstep hnl
      generalize hx : pAt L j = x at d0 d1 d2 d3 d4 d5 d6 d7 d8 HS
      obtain ⟨⟨p, l, t⟩, ⟨xf, xa, xb, xc, xd, xm⟩⟩ := x
      clear hx
      by_cases hat : at_ = (j : Int)
      · subst hat
        go_wp2
        refine ⟨⟨j + 1, oa, n, oc, by omega, by go_num, rfl, by rw [HS.out, if_pos rfl]; exact HN.out, Lib.hid (by rw [HS.out, if_pos rfl]; exact hR.out)⟩, by simp [intOf]; omega⟩
      · have hab : ((j : Int) != at_) = true := by simp; omega
        have HA := Lib.hid (hR.out.1.ext ((Ext.refl wr).alloc (.cells #[.int .i64 p, .int .i64 l, .int .u64 t, .int .u64 xf, .bool xa, .bool xb, .bool xc, .bool xd, .int .u8 xm] 127)))
        go_wp2_with (first | (at_builtin; refine wpList_append_owns rfl _ _ _ _ 9 40 pairRow rfl _ rfl n _ HA.out _ 1 1 rfl (pairC (⟨p, l, t⟩, ⟨xf, xa, xb, xc, xd, xm⟩)) rfl (fun j u hu => by rw [add0, heap_cell (alloc_same wr _) j]; simpa [pairC] using hu) (by simp [pairC, Value.oneCell']) (by unfold maxLen; omega) (by omega) ?_; intro v9 w9 q1 q2 q3; replace q2 : (wr.alloc (.cells #[.int .i64 p, .int .i64 l, .int .u64 t, .int .u64 xf, .bool xa, .bool xb, .bool xc, .bool xd, .int .u8 xm] 127)).grownBy w9 (Value.slice oa n oc).ownBlock := q2; replace q3 : v9.ownBlock = (Value.slice oa n oc).ownBlock ∨ v9.ownBlock = some (wr.alloc (.cells #[.int .i64 p, .int .i64 l, .int .u64 t, .int .u64 xf, .bool xa, .bool xb, .bool xc, .bool xd, .int .u8 xm] 127)).heap.size := q3; obtain ⟨a9, c9, rfl, -, -⟩ := q1.form; simp only [Act.put, Array.set!_eq_setIfInBounds, List.setIfInBounds_toArray, List.set_cons_succ, List.set_cons_zero]))
        all_goals
          refine ⟨⟨j + 1, a9, n + 1, c9, by omega, by go_num, rfl, by rw [HS.out, if_neg hat, List.length_append, HN.out]; rfl, Lib.hid ⟨by rw [HS.out, if_neg hat, rowP_append]; simpa [rowP] using q1, fun g hg => ?_, ?_⟩⟩, by simp [intOf]; omega⟩
          · rcases q3 with q3 | q3 <;> rw [q3] at hg
            · exact hR.out.2.1 g hg
            · cases hg; simp; omega
          · exact Keeps.to_ext (F := []) (Ext.refl W) ((Keeps.of_ext (HB.out.alloc _)).grown q2 (fun x hx => .inr (hR.out.2.1 x hx))) (by simp)
    · have m0 := (HB.out.block w.heap.size (by omega)).trans H0.out
      have m1 := (HB.out.block (w.heap.size + 1) (by omega)).trans H1.out
      have z0 := frozen_of m0
      have z1 := frozen_of m1
      have y0 := (heap_cell m1 0).trans rfl
      have y1 := (heap_cell m1 1).trans rfl
      have M1 := Lib.hid m1
      clear m0 m1
      go_wp2
      refine post_gen (fun V => V.heap[w.heap.size + 1]? = some (.cells #[.slice oa n oc, .int .i64 r] 28 (0, 0)) ∧ Owns V 127 9 (.slice oa n oc) n (rowP (woL at_ (L.take j))) ∧ Ext w V) ⟨?_, ?_, ?_⟩ ?_
      · rw [hnl]; exact store2_heap ((setCell_heap _ _ _ _ _ (by omega)).trans M1.out)
      · refine hR.out.1.keep fun g hg => ?_
        have := hR.out.2.1 g hg
        rw [setCell_heap _ _ _ _ _ (by omega), setCell_heap _ _ _ _ _ (by omega), setCell_heap _ _ _ _ _ (by omega)]
      · exact Ext.setCell (Ext.setCell (Ext.setCell (HE.out.trans HB.out) (by simp) _) (by simp) _) (by simp) _
      rintro V ⟨m5, o5, E5⟩
      have v0 := (heap_cell m5 0).trans rfl
      have v1 := (heap_cell m5 1).trans rfl
      clear m5
      have e5 : L.take j = L := List.take_of_length_le (by omega)
      rw [e5] at o5 hnl
      refine bodyPost_ret (by simp [results, Try.results70, go_sem, ↓IntWalk.iteOmega, *]; try rfl) rfl ⟨_, rfl, ⟨by rw [← hnl]; exact o5, by have := woL_length at_ L; omega⟩, E5⟩
end Go.Proofs.Ytkfonacokamfiaa
/- The document's caches: New, Picked, Drop, Evict, Get. -/
namespace Go.Proofs.Ytkfonacokamfiaa
set_option linter.unusedVariables false
set_option linter.unusedSimpArgs false
open Go.RowKit
attribute [local go_sem] wext_cell wext_frozen wext_heap alloc_cell alloc_frozen alloc_heap setCell_cell objCell_cells objFrozen_cells
attribute [local go_sem high] refKey_eql

theorem picked_c (pick n : Int) (w : World) (hp0 : -9223372036854775808 ≤ pick) (hp1 : pick ≤ 9223372036854775807) (h0 : 0 < n) (h1 : n ≤ 1000) :
    Calls Try.prog 71 #[.int .i64 pick, .int .i64 n] w fun e w' => e = .returned (.int .i64 (pickI pick n)) ∧ Ext w w' := by
  have q1 : -n < pick.tmod n := Int.lt_tmod_of_pos pick h0
  have q2 : pick.tmod n < n := Int.tmod_lt_of_pos pick h0
  have hnz : ¬ (n = 0) := by omega
  have hz : (n == 0) = false := by simpa using hnz
  have hq : pick.tmod n % n = pickI pick n := tmod_mod pick n
  have hq2 : (pick.tmod n + n) % n = pickI pick n := by rw [Int.add_emod_right]; exact hq
  generalize pickI pick n = q at hq hq2 ⊢
  go_enter Try.func71, Try.ntmps71
  go_wp2
  all_goals
    go_ret
    exact ⟨congrArg (fun x => Ending.returned (.int .i64 x)) hq2, (by repeat (first | exact Ext.refl _ | assumption | refine Ext.alloc ?_ _ | refine Ext.drew ?_ | refine Ext.setCell ?_ (by first | (simp; done) | (dsimp only; omega)) _ | refine Ext.trans ?_ (by assumption)))⟩

theorem refNew_c (room : Int) (w : World) (h0 : -9223372036854775808 ≤ room) (h1 : room ≤ 9223372036854775807) :
    Calls Try.prog 17 #[.int .i64 room] w fun e w' => e = .returned (.agg #[.slice none 0 0, .int .i64 (clampR room)]) ∧ Ext w w' := by
  rcases (show room < 0 ∨ (0 ≤ room ∧ 64 < room) ∨ (0 ≤ room ∧ room ≤ 64) by omega) with h | ⟨h, h'⟩ | ⟨h, h'⟩
  · rw [show (clampR room : Int) = 0 by unfold clampR; rw [if_pos h]; rfl]
    go_enter Try.func17, Try.ntmps17
    go_wp2
    refine bodyPost_ret (by simp [results, Try.results17, go_sem, ↓IntWalk.iteOmega, *]; try rfl) rfl ⟨rfl, (by repeat (first | exact Ext.refl _ | assumption | refine Ext.alloc ?_ _ | refine Ext.drew ?_ | refine Ext.setCell ?_ (by first | (simp; done) | (dsimp only; omega)) _ | refine Ext.trans ?_ (by assumption)))⟩
  · rw [show (clampR room : Int) = 64 by unfold clampR; rw [if_neg (by omega), if_pos h']; rfl]
    go_enter Try.func17, Try.ntmps17
    go_wp2
    refine bodyPost_ret (by simp [results, Try.results17, go_sem, ↓IntWalk.iteOmega, *]; try rfl) rfl ⟨rfl, (by repeat (first | exact Ext.refl _ | assumption | refine Ext.alloc ?_ _ | refine Ext.drew ?_ | refine Ext.setCell ?_ (by first | (simp; done) | (dsimp only; omega)) _ | refine Ext.trans ?_ (by assumption)))⟩
  · rw [show (clampR room : Int) = room by unfold clampR; rw [if_neg (by omega), if_neg (by omega)]; omega]
    go_enter Try.func17, Try.ntmps17
    go_wp2
    refine bodyPost_ret (by simp [results, Try.results17, go_sem, ↓IntWalk.iteOmega, *]; try rfl) rfl ⟨rfl, (by repeat (first | exact Ext.refl _ | assumption | refine Ext.alloc ?_ _ | refine Ext.drew ?_ | refine Ext.setCell ?_ (by first | (simp; done) | (dsimp only; omega)) _ | refine Ext.trans ?_ (by assumption)))⟩

theorem RefAt.store2 {w : World} {b : Nat} {c0 c1 v0 v1 v : Value} {L : List (Key × Line)} (h : RefAt w v L) (hb : w.heap[b]? = some (.cells #[c0, c1] 28 (0, 0))) :
    RefAt ((w.setCell ⟨b, 0, none⟩ v0).setCell ⟨b, 1, none⟩ v1) v L := by
  refine ⟨h.1.keep fun g hg => ?_, h.2⟩
  have : b ≠ g := fun e => by obtain ⟨c, hc⟩ := h.1.heap g hg; rw [← e, hb] at hc; cases hc
  rw [setCell_heap _ _ _ _ _ this, setCell_heap _ _ _ _ _ this]

set_option maxHeartbeats 1000000 in
theorem refDrop_c (L : List (Key × Line)) (k : Key) (v : Value) (r : Int) (w : World) (ho : RefAt w v L) :
    Calls Try.prog 53 #[.agg #[v, .int .i64 r], k.val] w (EndRef (delL k L) r w) := by
  have HO := Lib.hid ho
  have hL := ho.2
  obtain ⟨p, l, t⟩ := k
  obtain ⟨a, cap, rfl, hn, hm⟩ := ho.1.form
  unfold Key.val
  unfold maxLen at hm
  have hix := ix_look ⟨p, l, t⟩ L 0
  have hdel : delL ⟨p, l, t⟩ L = woL (ixK ⟨p, l, t⟩ (keysOf L) 0) L := by
    have : ixK ⟨p, l, t⟩ (keysOf L) 0 = _ := hix
    rw [this]
    unfold delL woL
    cases look ⟨p, l, t⟩ L 0 with
    | none => simp
    | some y => simp; omega
  have hr : -1 ≤ ixK ⟨p, l, t⟩ (keysOf L) 0 ∧ ixK ⟨p, l, t⟩ (keysOf L) 0 ≤ 1000 := by
    have : ixK ⟨p, l, t⟩ (keysOf L) 0 = _ := hix
    rw [this]
    cases hl : look ⟨p, l, t⟩ L 0 with
    | none => simp
    | some y => have := (List.getElem?_eq_some_iff.1 (look_some hl).2.1).1; simp; omega
  generalize hq : ixK ⟨p, l, t⟩ (keysOf L) 0 = q at hdel hr
  have HQ := Aside.mk hq
  have HD := Aside.mk hdel
  clear hix hq hdel ho
  obtain ⟨hr0, hr1⟩ := hr
  go_enter Try.func53, Try.ntmps53
  go_upto_region 1 with (fail)
  refine wp_gen ?_; intro W hW
  have hE : Ext w W := by rw [hW]; exact (by repeat (first | exact Ext.refl _ | assumption | refine Ext.alloc ?_ _ | refine Ext.drew ?_ | refine Ext.setCell ?_ (by first | (simp; done) | (dsimp only; omega)) _ | refine Ext.trans ?_ (by assumption)))
  have hb0 : W.heap[w.heap.size]? = some (.cells #[.slice a L.length cap, .int .i64 r] 28 (0, 0)) := by rw [hW]; exact (alloc_other _ _ (by simp; omega)).trans ((alloc_other _ _ (by simp)).trans (alloc_same ..))
  have hb1 : W.heap[w.heap.size + 1]? = some (.cells #[.int .i64 p, .int .i64 l, .int .u64 t] 93 (0, 0)) := by rw [hW]; exact (alloc_other _ _ (by simp)).trans (alloc_same1 ..)
  have hb2 : W.heap[w.heap.size + 1 + 1]? = some (.cells #[.slice none 0 0, .int .i64 0] 28 (0, 0)) := by rw [hW]; exact alloc_same2 ..
  have x0 := (heap_cell hb0 0).trans rfl
  have x1 := (heap_cell hb0 1).trans rfl
  have x2 := (heap_cell hb1 0).trans rfl
  have x3 := (heap_cell hb1 1).trans rfl
  have x4 := (heap_cell hb1 2).trans rfl
  have hsz : w.heap.size + 2 < W.heap.size := (by rw [hW]; (try simp only [World.size_alloc, World.size_setCell, World.size_drew]); omega)
  have HE := Lib.hid hE
  have H2 := Lib.hid hb2
  clear hW hE hb0 hb1 hb2
  refine region_mix [.q [0, 1, 2], .l 3 3, .l 4 3, .l 5 2] (by kernel_rfl) (by kernel_rfl) ?_
  (try refine ⟨fun h => absurd h (by simp), ?_⟩); (repeat (unfold wpPlan; simp only [pickL, List.map_cons, List.map_nil, List.getD_cons_succ, List.getD_cons_zero]; (repeat go_big_quiet_step (fail)); refine wpQuiet_nil ?_)); unfold wpPlan; intro w1 hb1; (try simp only [pickL, List.map_cons, List.map_nil, List.getD_cons_succ, List.getD_cons_zero])
  go_wp2_with (first | (go_at_call 59; refine (find_c L ⟨p, l, t⟩ _ r _ ((HO.out.ext HE.out).ext hb1)).mono ?_; rintro e w2 ⟨rfl, hb2⟩; rw [HQ.out]))
  refine ⟨?_, ?_⟩
  · (try intro _); exact hb1.trans hb2
  have HB2 := Lib.hid (hb1.trans hb2)
  clear hb1 hb2
  (try refine ⟨fun h => absurd h (by simp), ?_⟩); (repeat (unfold wpPlan; simp only [pickL, List.map_cons, List.map_nil, List.getD_cons_succ, List.getD_cons_zero]; (repeat go_big_quiet_step (fail)); refine wpQuiet_nil ?_)); unfold wpPlan; intro w3 hb3; (try simp only [pickL, List.map_cons, List.map_nil, List.getD_cons_succ, List.getD_cons_zero])
  go_wp2_with (first | (go_at_call 70; refine (without_c L q _ r _ (((HO.out.ext HE.out).ext HB2.out).ext hb3) (by omega) (by omega)).mono ?_; rintro e w4 ⟨v4, rfl, hv4, hb4⟩; obtain ⟨a4, c4, rfl, -, -⟩ := hv4.1.form))
  refine ⟨?_, ?_⟩
  · (try intro _); exact hb3.trans hb4
  have HB4 := Lib.hid (HB2.out.trans (hb3.trans hb4))
  have HV4 := Lib.hid hv4
  clear hb3 hb4 hv4
  (try refine ⟨fun h => absurd h (by simp), ?_⟩); (repeat (unfold wpPlan; simp only [pickL, List.map_cons, List.map_nil, List.getD_cons_succ, List.getD_cons_zero]; (repeat go_big_quiet_step (fail)); refine wpQuiet_nil ?_)); unfold wpPlan; intro w5 hb5; (try simp only [pickL, List.map_cons, List.map_nil, List.getD_cons_succ, List.getD_cons_zero])
  have m5 := ((HB4.out.trans hb5).block _ (by omega)).trans H2.out
  have y0 := (heap_cell m5 0).trans rfl
  have y1 := (heap_cell m5 1).trans rfl
  have z0 := frozen_of m5
  have M5 := Lib.hid m5
  have HB5 := Lib.hid (HB4.out.trans hb5)
  have hV5 := HV4.out.ext hb5
  have HV5 := Lib.hid hV5
  clear hb5 m5 hV5
  go_wp2
  (try refine ⟨fun h => absurd h (by simp), ?_⟩); (repeat (unfold wpPlan; simp only [pickL, List.map_cons, List.map_nil, List.getD_cons_succ, List.getD_cons_zero]; (repeat go_big_quiet_step (fail)); refine wpQuiet_nil ?_)); unfold wpPlan; intro w6 hb6; (try simp only [pickL, List.map_cons, List.map_nil, List.getD_cons_succ, List.getD_cons_zero])
  have m6 := (hb6.block (w.heap.size + 1 + 1) (by simp; have := HB5.out.size; omega)).trans (store2_heap M5.out)
  have E6 : Ext w w6 := (HE.out.trans HB5.out).setCell (by simp; omega) _ |>.setCell (by simp; omega) _ |>.trans hb6
  have v6 := ((HV5.out.store2 M5.out).ext hb6)
  have u0 := (heap_cell m6 0).trans rfl
  have u1 := (heap_cell m6 1).trans rfl
  clear m6 hb6 y0 y1 z0 x0 x1 x2 x3 x4
  go_wp2
  refine bodyPost_ret (by simp [results, Try.results53, go_sem, ↓IntWalk.iteOmega, *]; try rfl) rfl ⟨_, rfl, by rw [HD.out]; exact v6, E6⟩
end Go.Proofs.Ytkfonacokamfiaa
