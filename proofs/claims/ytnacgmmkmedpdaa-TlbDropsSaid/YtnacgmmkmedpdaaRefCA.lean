/- The document's caches: rows of pairs; find. -/
import Derived.Test.YtnacgmmkmedpdaaCacheG
namespace Go.Proofs.Ytnacgmmkmedpdaa
set_option linter.unusedVariables false
set_option linter.unusedSimpArgs false
open Go.RowKit
attribute [local go_sem] wext_cell wext_frozen wext_heap alloc_cell alloc_frozen alloc_heap setCell_cell objCell_cells objFrozen_cells

def pairC (x : Key × Line) : List Value := [.int .i64 x.1.p, .int .i64 x.1.l, .int .u64 x.1.t, .int .u64 x.2.f, .bool x.2.a, .bool x.2.b, .bool x.2.c, .bool x.2.d, .int .u8 x.2.m]
def rowP (L : List (Key × Line)) : List Value := L.flatMap pairC
def pAt (L : List (Key × Line)) (i : Nat) : Key × Line := L.getD i default
theorem rowP_length (L : List (Key × Line)) : (rowP L).length = L.length * 9 := by
  induction L with
  | nil => rfl
  | cons k L ih => simp only [rowP, List.flatMap_cons, List.length_append, List.length_cons] at *; simp only [pairC, List.length_cons, List.length_nil]; omega
theorem rowP_at : ∀ (L : List (Key × Line)) (i : Nat), i < L.length → ∀ j, j < 9 → (rowP L)[i * 9 + j]? = (pairC (pAt L i))[j]?
  | [], i, h, _, _ => by simp at h
  | x :: L, 0, h, j, hj => by
    simp only [rowP, List.flatMap_cons, Nat.zero_mul, Nat.zero_add]
    rw [List.getElem?_append_left (by simpa [pairC] using hj)]; rfl
  | x :: L, i + 1, h, j, hj => by
    have h2 : i < L.length := by simpa using h
    have := rowP_at L i h2 j hj
    have e2 : pAt (x :: L) (i + 1) = pAt L i := by simp [pAt]
    rw [e2, ← this, show (i + 1) * 9 + j = (i * 9 + j) + 9 by omega]
    simp [rowP, pairC]
theorem rowP_append (a b : List (Key × Line)) : rowP (a ++ b) = rowP a ++ rowP b := by simp [rowP]
theorem rowP_one (a : List (Key × Line)) : ∀ u ∈ rowP a, u.oneCell' = true := by
  intro u hu
  obtain ⟨k, _, hk⟩ := List.mem_flatMap.1 hu
  simp [pairC] at hk
  rcases hk with rfl | rfl | rfl | rfl | rfl | rfl | rfl | rfl | rfl <;> rfl

/-- The nine cells of a pair. -/
def NineAt (w : World) (g o : Nat) (x : Key × Line) : Prop :=
  w.cell? ⟨g, o, none⟩ = some (.int .i64 x.1.p) ∧ w.cell? ⟨g, o + 1, none⟩ = some (.int .i64 x.1.l) ∧ w.cell? ⟨g, o + 2, none⟩ = some (.int .u64 x.1.t) ∧
  w.cell? ⟨g, o + 3, none⟩ = some (.int .u64 x.2.f) ∧ w.cell? ⟨g, o + 4, none⟩ = some (.bool x.2.a) ∧ w.cell? ⟨g, o + 5, none⟩ = some (.bool x.2.b) ∧ w.cell? ⟨g, o + 6, none⟩ = some (.bool x.2.c) ∧
  w.cell? ⟨g, o + 7, none⟩ = some (.bool x.2.d) ∧ w.cell? ⟨g, o + 8, none⟩ = some (.int .u8 x.2.m)
theorem nineAt {w : World} {g cap : Nat} {L : List (Key × Line)} {n : Nat} {e : TypeId} (h : Owns w e 9 (.slice (some ⟨g, 0, none⟩) n cap) n (rowP L)) {i : Nat} (hi : i < L.length) : NineAt w g (i * 9) (pAt L i) := by
  have H := fun j hj u hu => h.cells (g := g) rfl (i * 9 + j) u ((rowP_at L i hi j hj).trans hu)
  exact ⟨H 0 (by omega) _ rfl, H 1 (by omega) _ rfl, H 2 (by omega) _ rfl, H 3 (by omega) _ rfl, H 4 (by omega) _ rfl, H 5 (by omega) _ rfl, H 6 (by omega) _ rfl, H 7 (by omega) _ rfl, H 8 (by omega) _ rfl⟩
theorem NineAt.ext {w w' : World} {g o : Nat} {x : Key × Line} (h : NineAt w g o x) (k : Ext w w') : NineAt w' g o x := by
  obtain ⟨a, b, c, d, e, f, g, i, j⟩ := h
  exact ⟨k.someCell a, k.someCell b, k.someCell c, k.someCell d, k.someCell e, k.someCell f, k.someCell g, k.someCell i, k.someCell j⟩

theorem pairRow : RowT Try.prog 26 58 9 40 := RowT.of (z := .agg #[.int .i64 0, .int .i64 0, .int .u64 0, .int .u64 0, .bool false, .bool false, .bool false, .bool false, .int .u8 0]) Try.underlying26 (by kernel_rfl) rfl

theorem refKey_equal (k k' : Key) (w : World) : (Op.equal 52 k.val k'.val).run Try.prog w = .ok (decide (k = k')) w := by
  show (Op.equalIn 10000 _ _ _).run _ _ = _
  obtain ⟨p, l, t⟩ := k
  obtain ⟨p', l', t'⟩ := k'
  simp [Key.val, go_sem]
  by_cases h1 : p = p' <;> by_cases h2 : l = l' <;> by_cases h3 : t = t' <;> simp [*]
theorem refKey_eql (p l t p' l' t' : Int) (w : World) : (binOp .eql 52 (.agg #[.int .i64 p, .int .i64 l, .int .u64 t]) (.agg #[.int .i64 p', .int .i64 l', .int .u64 t'])).run Try.prog w = .ok (.bool (keyB ⟨p, l, t⟩ ⟨p', l', t'⟩)) w := by
  have := refKey_equal ⟨p, l, t⟩ ⟨p', l', t'⟩ w
  rw [run_eql_struct]
  show ((Op.equal _ _ _).run _ _).andThen _ = _
  simp only [Key.val] at this
  rw [this]; rfl
attribute [local go_sem high] refKey_eql

/-- The document's cache as a value. -/
def RefAt (w : World) (v : Value) (L : List (Key × Line)) : Prop := Owns w 58 9 v L.length (rowP L) ∧ L.length ≤ 1000
theorem RefAt.ext {w w' : World} {v : Value} {L : List (Key × Line)} (h : RefAt w v L) (k : Ext w w') : RefAt w' v L := ⟨h.1.ext k, h.2⟩

theorem keyB_symm (a b : Key) : keyB a b = keyB b a := by simp [keyB, eq_comm]

set_option maxHeartbeats 1000000 in
theorem find_c (L : List (Key × Line)) (k : Key) (v : Value) (r : Int) (w : World) (ho : RefAt w v L) :
    Calls Try.prog 117 #[.agg #[v, .int .i64 r], k.val] w fun e w' => e = .returned (.int .i64 (ixK k (keysOf L) 0)) ∧ Ext w w' := by
  have hL := ho.2
  have HO := Lib.hid ho.1
  clear ho
  obtain ⟨p, l, t⟩ := k
  obtain ⟨a, cap, rfl, hn, hm⟩ := HO.out.form
  unfold Key.val
  unfold maxLen at hm
  go_enter Try.func117, Try.ntmps117
  go_wp2
  refine wp_gen ?_; intro W hW
  have hE : Ext w W := by rw [hW]; exact (by repeat (first | exact Ext.refl _ | assumption | refine Ext.alloc ?_ _ | refine Ext.drew ?_ | refine Ext.setCell ?_ (by first | (simp; done) | (dsimp only; omega)) _ | refine Ext.trans ?_ (by assumption)))
  have hb0 : W.cell? ⟨w.heap.size, 0, none⟩ = some (.slice a L.length cap) := (by rw [hW]; simp [go_sem, ↓IntWalk.iteOmega, *])
  have hb1 : W.cell? ⟨w.heap.size + 1, 0, none⟩ = some (.int .i64 p) := (by rw [hW]; simp [go_sem, ↓IntWalk.iteOmega, *])
  have hb2 : W.cell? ⟨w.heap.size + 1, 1, none⟩ = some (.int .i64 l) := (by rw [hW]; simp [go_sem, ↓IntWalk.iteOmega, *])
  have hb3 : W.cell? ⟨w.heap.size + 1, 2, none⟩ = some (.int .u64 t) := (by rw [hW]; simp [go_sem, ↓IntWalk.iteOmega, *])
  have hsz : w.heap.size + 1 < W.heap.size := (by rw [hW]; (try simp only [World.size_alloc, World.size_setCell, World.size_drew]); omega)
  clear hW
  have HE := Lib.hid hE
  have k4 := keysOf_length L
  clear hE
  go_loopw [5] (fun i wr => ∃ j : Nat, j ≤ L.length ∧ i = .int .i64 j ∧ Aside (ixK ⟨p, l, t⟩ (keysOf L) 0 = ixK ⟨p, l, t⟩ ((keysOf L).drop j) j) ∧ Ext W wr) (fun i _ => L.length - (intOf i).toNat)
  case atStart => exact ⟨0, by omega, rfl, ⟨by simp⟩, Ext.refl _⟩
  case round =>
    obtain ⟨j, hj, rfl, hi, hb⟩ := hrel
    have HB := Lib.hid hb
    have f0 := hb.someCell hb0
    have f1 := hb.someCell hb1
    have f2 := hb.someCell hb2
    have f3 := hb.someCell hb3
    have hbs := hb.size
    clear hb hb0 hb1 hb2 hb3
    by_cases hlt : j < L.length
    · obtain ⟨g, hg⟩ : ∃ g, a = some ⟨g, 0, none⟩ := by
        rcases HO.out.2 with ⟨_, h0⟩ | ⟨g, _, _, he, _⟩
        · omega
        · exact ⟨g, by injection he⟩
      subst hg
      have hgl := HO.out.lt g rfl
      obtain ⟨d0, d1, d2, -⟩ := ((nineAt HO.out hlt).ext HE.out).ext HB.out
      have hdrop := Aside.mk (ixK_drop ⟨p, l, t⟩ (keysOf L) j (by omega))
      have hkk : kAt (keysOf L) j = (pAt L j).1 := by simp [kAt, pAt, keysOf, List.getD, hlt]
      rw [hkk] at hdrop
      have HW := HE.out.size
      go_upto_region 4 with (fail)
      refine region_ext (by kernel_rfl) (by kernel_rfl) ?_; (repeat (go_big_quiet_step (fail))); refine wpQuiet_nil ?_; intro w1 hb; have ⟨hc, hf, hh, hs⟩ := hb.facts; try simp only [World.size_alloc, World.size_setCell, World.size_drew] at hs
      go_wp2
      · go_ret
        rename_i hq
        refine ⟨?_, (HE.out.trans HB.out).trans hb⟩
        rw [hi.out, hdrop.out, if_pos (by rw [keyB_symm]; exact hq)]
        rfl
      · rename_i hq
        refine ⟨⟨j + 1, by omega, by go_num, ⟨?_⟩, HB.out.trans hb⟩, by simp [intOf]; omega⟩
        rw [hi.out, hdrop.out, if_neg]
        rw [keyB_symm, show (pAt L j).1 = ⟨(pAt L j).1.p, (pAt L j).1.l, (pAt L j).1.t⟩ from rfl, hq]; simp
    · go_wp2
      go_ret
      refine ⟨?_, HE.out.trans HB.out⟩
      rw [hi.out, List.drop_eq_nil_of_le (by omega)]
      rfl
end Go.Proofs.Ytnacgmmkmedpdaa
