/- The cache laws' helpers: real, lined, key; what a deed leaves, plainly. -/
import Derived.Test.YtnacgmmkmedpdaaRefCG
import Derived.Test.YtnacgmmkmedpdaaMixA
namespace Go.Proofs.Ytnacgmmkmedpdaa
set_option linter.unusedVariables false
set_option linter.unusedSimpArgs false
open Go.RowKit
attribute [local go_sem] wext_cell wext_frozen wext_heap alloc_cell alloc_frozen alloc_heap setCell_cell objCell_cells objFrozen_cells
attribute [local go_sem high] refKey_eql

theorem delL_filter {k : Key} {L : List (Key × Line)} (hn : (keysOf L).Nodup) : delL k L = L.filter fun x => x.1 != k := by
  unfold delL
  cases hl : look k L 0 with
  | none => exact (List.filter_eq_self.2 fun x hx => by have := look_none hl x hx; simpa using this).symm
  | some y =>
    obtain ⟨i, y⟩ := y
    obtain ⟨-, h2, h3⟩ := look_some hl
    simp only [Nat.sub_zero] at h2 h3
    have hi := (List.getElem?_eq_some_iff.1 h2)
    have hs : L = L.take i ++ (k, y) :: L.drop (i + 1) := by
      rw [← hi.2, List.getElem_cons_drop, List.take_append_drop]
    show L.eraseIdx i = _
    rw [List.eraseIdx_eq_take_drop_succ]
    conv => rhs; rw [hs]
    rw [List.filter_append, List.filter_cons]
    have e1 : (L.take i).filter (fun x => x.1 != k) = L.take i := List.filter_eq_self.2 fun x hx => by have := List.all_eq_true.1 h3 x hx; simpa using this
    have e2 : (L.drop (i + 1)).filter (fun x => x.1 != k) = L.drop (i + 1) := List.filter_eq_self.2 fun x hx => by
      rw [hs] at hn
      simp only [keysOf, List.map_append, List.map_cons] at hn
      have h4 := (List.nodup_cons.1 (List.nodup_append.1 hn).2.1).1
      have : x.1 ≠ k := fun e => h4 (List.mem_map.2 ⟨x, hx, e⟩)
      simpa using this
    rw [e1, e2]
    simp
theorem nodup_filter {L : List (Key × Line)} (p : Key × Line → Bool) (hn : (keysOf L).Nodup) : (keysOf (L.filter p)).Nodup := hn.sublist (List.filter_sublist.map _)
theorem dropN_filter (pcid : Int) : ∀ (ks : List Key) (L : List (Key × Line)), (keysOf L).Nodup → dropN pcid ks L = L.filter fun x => !(decide (x.1.p = pcid) && decide (x.1 ∈ ks))
  | [], L, _ => (List.filter_eq_self.2 (by simp)).symm
  | k :: ks, L, hn => by
    show dropN pcid ks (if k.p = pcid then delL k L else L) = _
    by_cases hk : k.p = pcid
    · rw [if_pos hk, delL_filter hn, dropN_filter pcid ks _ (nodup_filter _ hn), List.filter_filter]
      apply List.filter_congr
      intro x _
      by_cases h1 : x.1 = k
      · simp [h1, hk]
      · simp [h1]
    · rw [if_neg hk, dropN_filter pcid ks _ hn]
      apply List.filter_congr
      intro x _
      by_cases h1 : x.1 = k
      · simp [h1, hk]
      · simp [h1]
theorem dropN_filtL {pcid : Int} {L : List (Key × Line)} (hn : (keysOf L).Nodup) : dropN pcid (keysOf L) L = filtL pcid L := by
  rw [dropN_filter pcid _ L hn]
  apply List.filter_congr
  intro x hx
  have : x.1 ∈ keysOf L := List.mem_map.2 ⟨x, hx, rfl⟩
  by_cases h : x.1.p = pcid <;> simp [h, this]

theorem CAt.nodup {w : World} {cb : Nat} {F : List Nat} {L : List (Key × Line)} {r : Nat} (h : CAt w cb F L r) : (keysOf L).Nodup := by
  obtain ⟨mb, ov, es, clock, h1, h2, h3, h4, h5, h6, h7, h8⟩ := h; exact h8
theorem CAt.room {w : World} {cb : Nat} {F : List Nat} {L : List (Key × Line)} {r : Nat} (h : CAt w cb F L r) : L.length ≤ r ∧ r ≤ 64 := by
  obtain ⟨mb, ov, es, clock, h1, h2, h3, h4, h5, h6, h7, h8⟩ := h; exact ⟨h6, h7⟩

/-- A block of another type is none of a cache's. -/
theorem CAt.apart {w : World} {cb : Nat} {F : List Nat} {L : List (Key × Line)} {r : Nat} (h : CAt w cb F L r) {b : Nat} {c : Array Value} {e : TypeId} (hb : w.heap[b]? = some (.cells c e (0, 0)))
    (h1 : e ≠ 142) (h2 : e ≠ 34) : b ∉ F := by
  obtain ⟨mb, ov, es, clock, p1, p2, p3, p4, rfl, -⟩ := h
  intro hm
  simp only [List.mem_cons, Option.mem_toList] at hm
  rcases hm with rfl | rfl | hm
  · rw [hb] at p1; simp only [Option.some.injEq, Obj.cells.injEq] at p1; exact h1 p1.2.1
  · rw [hb] at p2; cases p2
  · obtain ⟨c', hc⟩ := p4.heap b hm
    rw [hb] at hc; simp only [Option.some.injEq, Obj.cells.injEq] at hc; exact h2 hc.2.1
theorem RefAt.keeps {w w' : World} {cb : Nat} {F : List Nat} {L L2 : List (Key × Line)} {r : Nat} {v : Value} (h : RefAt w v L2) (hc : CAt w cb F L r) (hk : Keeps F w w') : RefAt w' v L2 :=
  ⟨h.1.keep fun g hg => by
    obtain ⟨c, hcc⟩ := h.1.heap g hg
    exact hk.block g (heap_lt hcc) (hc.apart hcc (by decide) (by decide)), h.2⟩

theorem real_c (k : Key) (w : World) : Calls Try.prog 33 #[k.val] w fun e w' => e = .returned k.val ∧ Ext w w' := by
  obtain ⟨p, l, t⟩ := k
  unfold Key.val
  go_enter Try.func33, Try.ntmps33
  go_wp2
  refine bodyPost_ret (by simp [results, Try.results33, go_sem, ↓IntWalk.iteOmega, *]; try rfl) rfl ⟨rfl, (by repeat (first | exact Ext.refl _ | assumption | refine Ext.alloc ?_ _ | refine Ext.drew ?_ | refine Ext.setCell ?_ (by first | (simp; done) | (dsimp only; omega)) _ | refine Ext.trans ?_ (by assumption)))⟩
theorem lined_c (x : Line) (w : World) : Calls Try.prog 34 #[x.val] w fun e w' => e = .returned x.val ∧ Ext w w' := by
  obtain ⟨xf, xa, xb, xc, xd, xm⟩ := x
  unfold Line.val
  go_enter Try.func34, Try.ntmps34
  go_wp2
  refine post_gen (fun U => U.heap[w.heap.size + 1]? = some (.cells #[.int .u64 xf, .bool xa, .bool xb, .bool xc, .bool xd, .int .u8 xm] 56 (0, 0)) ∧ Ext w U) ⟨?_, ?_⟩ ?_
  · exact alloc_same1 ..
  · exact (by repeat (first | exact Ext.refl _ | assumption | refine Ext.alloc ?_ _ | refine Ext.drew ?_ | refine Ext.setCell ?_ (by first | (simp; done) | (dsimp only; omega)) _ | refine Ext.trans ?_ (by assumption)))
  rintro U ⟨m5, E5⟩
  have v0 := (heap_cell m5 0).trans rfl
  have v1 := (heap_cell m5 1).trans rfl
  have v2 := (heap_cell m5 2).trans rfl
  have v3 := (heap_cell m5 3).trans rfl
  have v4 := (heap_cell m5 4).trans rfl
  have v5 := (heap_cell m5 5).trans rfl
  clear m5
  refine bodyPost_ret (by simp [results, Try.results34, go_sem, ↓IntWalk.iteOmega, *]; try rfl) rfl ⟨rfl, E5⟩
def keyN (n : Int) : Key := ⟨if n = 3 then 0 else n, 1, n⟩
set_option maxHeartbeats 2000000 in
theorem keyn_c (n : Int) (w : World) (h0 : 0 ≤ n) (h1 : n ≤ 3) : Calls Try.prog 75 #[.int .i64 n] w fun e w' => e = .returned (keyN n).val ∧ Ext w w' := by
  rcases (show n = 0 ∨ n = 1 ∨ n = 2 ∨ n = 3 by omega) with rfl | rfl | rfl | rfl
  all_goals
    simp only [keyN, Key.val, reduceIte, Int.reduceEq]
    go_enter Try.func75, Try.ntmps75
    go_wp2
    refine bodyPost_ret (by simp [results, Try.results75, go_sem, ↓IntWalk.iteOmega, *]; try rfl) rfl ⟨rfl, (by repeat (first | exact Ext.refl _ | assumption | refine Ext.alloc ?_ _ | refine Ext.drew ?_ | refine Ext.setCell ?_ (by first | (simp; done) | (dsimp only; omega)) _ | refine Ext.trans ?_ (by assumption)))⟩

def lineB (x y : Line) : Bool := decide (x = y)
theorem refLine_equal (x y : Line) (w : World) : (Op.equal 56 x.val y.val).run Try.prog w = .ok (decide (x = y)) w := by
  show (Op.equalIn 10000 _ _ _).run _ _ = _
  obtain ⟨p, l, t, a, b, c⟩ := x
  obtain ⟨p', l', t', a', b', c'⟩ := y
  simp [Line.val, go_sem]
  by_cases h1 : p = p' <;> by_cases h2 : l = l' <;> by_cases h3 : t = t' <;> by_cases h4 : a = a' <;> by_cases h5 : b = b' <;> by_cases h6 : c = c' <;> simp [*]
theorem refLine_eql (p : Int) (l t a b : Bool) (c : Int) (p' : Int) (l' t' a' b' : Bool) (c' : Int) (w : World) : (binOp .eql 56 (.agg #[.int .u64 p, .bool l, .bool t, .bool a, .bool b, .int .u8 c]) (.agg #[.int .u64 p', .bool l', .bool t', .bool a', .bool b', .int .u8 c'])).run Try.prog w =
    .ok (.bool (lineB ⟨p, l, t, a, b, c⟩ ⟨p', l', t', a', b', c'⟩)) w := by
  have := refLine_equal ⟨p, l, t, a, b, c⟩ ⟨p', l', t', a', b', c'⟩ w
  rw [run_eql_struct]
  show ((Op.equal _ _ _).run _ _).andThen _ = _
  simp only [Line.val] at this
  rw [this]; rfl

/-- What is done. -/
structure Deed where
  kind : Int
  pick : Int
  k : Key
  x : Line
deriving Inhabited
def Deed.cells (d : Deed) : List Value := [.int .i64 d.kind, .int .i64 d.pick, .int .i64 d.k.p, .int .i64 d.k.l, .int .u64 d.k.t, .int .u64 d.x.f, .bool d.x.a, .bool d.x.b, .bool d.x.c, .bool d.x.d, .int .u8 d.x.m]
def Deed.val (d : Deed) : Value := .agg #[.int .i64 d.kind, .int .i64 d.pick, .int .i64 d.k.p, .int .i64 d.k.l, .int .u64 d.k.t, .int .u64 d.x.f, .bool d.x.a, .bool d.x.b, .bool d.x.c, .bool d.x.d, .int .u8 d.x.m]
def Deed.ok (d : Deed) : Prop := -9223372036854775808 ≤ d.pick ∧ d.pick ≤ 9223372036854775807
def stepL (d : Deed) (r : Nat) (L : List (Key × Line)) : List (Key × Line) :=
  if d.kind = 1 then putC d.k d.x d.pick r L else if d.kind = 2 then delL d.k L else if d.kind = 3 then filtL d.k.p L else if d.kind = 4 then [] else if d.kind = 5 then evictL d.pick L else L
def sameL (d : Deed) (L L2 : List (Key × Line)) : Bool :=
  if d.kind = 1 ∨ d.kind = 2 ∨ d.kind = 3 ∨ d.kind = 4 ∨ d.kind = 5 then true else lineB (getLine d.k L) (getLine d.k L2) && (hasK d.k L == hasK d.k L2)
theorem sameL_same (d : Deed) (L : List (Key × Line)) : sameL d L L = true := by
  unfold sameL; split <;> simp [lineB]
/-- What a deed leaves. -/
def EndDo (cb : Nat) (F : List Nat) (w : World) (d : Deed) (L : List (Key × Line)) (r : Nat) (L2 : List (Key × Line)) (r2 : Nat) (e : Ending) (w' : World) : Prop :=
  ∃ v', e = .returned (.tuple #[.agg #[v', .int .i64 r2], .bool (sameL d L L2)]) ∧ RefAt w' v' (stepL d r2 L2) ∧ ∃ F', CAt w' cb F' (stepL d r L) r ∧ Keeps F w w' ∧ ∀ x ∈ F', x ∈ F ∨ w.heap.size ≤ x
end Go.Proofs.Ytnacgmmkmedpdaa
