/- Rights and steps compared; words in rows. -/
import Derived.Test.YtkoohedbbdgjjaaRSep
namespace Go.Proofs.YtkoohedbbdgjjaaR
set_option linter.unusedVariables false
set_option linter.unusedSimpArgs false
open Go.RowKit
attribute [local go_sem] wext_cell wext_frozen wext_heap alloc_cell alloc_frozen alloc_heap setCell_cell objCell_cells objFrozen_cells

def rtB (x y : Rt) : Bool := decide (x = y)
theorem rt_equal (x y : Rt) (w : World) : (Op.equal 31 (.agg #[.bool x.1, .bool x.2.1, .bool x.2.2]) (.agg #[.bool y.1, .bool y.2.1, .bool y.2.2])).run Try.prog w = .ok (decide (x = y)) w := by
  show (Op.equalIn 10000 _ _ _).run _ _ = _
  obtain ⟨p, l, t⟩ := x
  obtain ⟨p', l', t'⟩ := y
  simp [go_sem]
  by_cases h1 : p = p' <;> by_cases h2 : l = l' <;> by_cases h3 : t = t' <;> simp [*]
theorem rt_eql (p l t p' l' t' : Bool) (w : World) : (binOp .eql 31 (.agg #[.bool p, .bool l, .bool t]) (.agg #[.bool p', .bool l', .bool t'])).run Try.prog w = .ok (.bool (rtB (p, l, t) (p', l', t'))) w := by
  have := rt_equal (p, l, t) (p', l', t') w
  rw [run_eql_struct]
  show ((Op.equal _ _ _).run _ _).andThen _ = _
  rw [this]; rfl
theorem rt_neq (p l t p' l' t' : Bool) (w : World) : (binOp .neq 31 (.agg #[.bool p, .bool l, .bool t]) (.agg #[.bool p', .bool l', .bool t'])).run Try.prog w = .ok (.bool (!rtB (p, l, t) (p', l', t'))) w := by
  have := rt_equal (p, l, t) (p', l', t') w
  rw [run_neq_struct]
  show ((Op.equal _ _ _).run _ _).andThen _ = _
  rw [this]; rfl
theorem rtB_self (r : Rt) : rtB r r = true := by simp [rtB]
theorem Owns.word {U : World} {sa : Option Addr} {n sc : Nat} {xs : List Int} (h : Owns U 27 1 (.slice sa n sc) n (xs.map (.int .u64 ·))) {i : Nat} (hi : i < n) (hn : n = n) :
    ∃ g, sa = some ⟨g, 0, none⟩ ∧ g < U.heap.size ∧ U.cell? ⟨g, i, none⟩ = some (.int .u64 (xs.getD i 0)) := by
  obtain ⟨g, hg⟩ : ∃ g, sa = some ⟨g, 0, none⟩ := by
    rcases h.2 with ⟨h1, h0⟩ | ⟨g, _, _, he, _⟩
    · omega
    · exact ⟨g, by injection he⟩
  subst hg
  have hl : xs.length = n := by have := h.1; simpa using this
  exact ⟨g, rfl, h.lt g rfl, h.cells (g := g) rfl i _ (by simp [List.getD, hl, hi])⟩
theorem bit0 (x : Int) : bitB x 0 = (x % 2 == 1) := by unfold bitB; rw [show pow2 0 = 1 from rfl, Int.ediv_one]

def stB (x y : Stp) : Bool := decide (x = y)
theorem st_equal (x y : Stp) (w : World) : (Op.equal 41 (.agg #[.int .i64 x.1, .int .u64 x.2.1, .int .u64 x.2.2]) (.agg #[.int .i64 y.1, .int .u64 y.2.1, .int .u64 y.2.2])).run Try.prog w = .ok (decide (x = y)) w := by
  show (Op.equalIn 10000 _ _ _).run _ _ = _
  obtain ⟨p, l, t⟩ := x
  obtain ⟨p', l', t'⟩ := y
  simp [go_sem]
  by_cases h1 : p = p' <;> by_cases h2 : l = l' <;> by_cases h3 : t = t' <;> simp [*]
theorem st_eql (p l t p' l' t' : Int) (w : World) : (binOp .eql 41 (.agg #[.int .i64 p, .int .u64 l, .int .u64 t]) (.agg #[.int .i64 p', .int .u64 l', .int .u64 t'])).run Try.prog w = .ok (.bool (stB (p, l, t) (p', l', t'))) w := by
  have := st_equal (p, l, t) (p', l', t') w
  rw [run_eql_struct]
  show ((Op.equal _ _ _).run _ _).andThen _ = _
  rw [this]; rfl
theorem st_neq (p l t p' l' t' : Int) (w : World) : (binOp .neq 41 (.agg #[.int .i64 p, .int .u64 l, .int .u64 t]) (.agg #[.int .i64 p', .int .u64 l', .int .u64 t'])).run Try.prog w = .ok (.bool (!stB (p, l, t) (p', l', t'))) w := by
  have := st_equal (p, l, t) (p', l', t') w
  rw [run_neq_struct]
  show ((Op.equal _ _ _).run _ _).andThen _ = _
  rw [this]; rfl
theorem stB_self (s : Stp) : stB s s = true := by simp [stB]
theorem Owns.store7 {U : World} {e : TypeId} {k : Nat} {v : Value} {n : Nat} {xs : List Value} (h : Owns U e k v n xs) {qb : Nat} {c : Array Value} {e' : TypeId} (hq : U.heap[qb]? = some (.cells c e' (0, 0))) (hne : e ≠ e') {v0 v1 v2 v3 v4 v5 v6 : Value} :
    Owns (((((((U.setCell ⟨qb, 0, none⟩ v0).setCell ⟨qb, 1, none⟩ v1).setCell ⟨qb, 2, none⟩ v2).setCell ⟨qb, 3, none⟩ v3).setCell ⟨qb, 4, none⟩ v4).setCell ⟨qb, 5, none⟩ v5).setCell ⟨qb, 6, none⟩ v6) e k v n xs :=
  h.keep fun g hg => by
    obtain ⟨c', hc⟩ := h.heap g hg
    exact store7_other (fun e => by rw [← e, hq] at hc; simp only [Option.some.injEq, Obj.cells.injEq] at hc; exact hne hc.2.1.symm)
theorem PathAt.store7 {U : World} {b : Nat} {sa : Option Addr} {sc : Nat} {q : List Stp × WRes} (h : PathAt U b sa sc q) {qb : Nat} {c : Array Value} (hq : U.heap[qb]? = some (.cells c 33 (0, 0))) (hne : qb ≠ b) {v0 v1 v2 v3 v4 v5 v6 : Value} :
    PathAt (((((((U.setCell ⟨qb, 0, none⟩ v0).setCell ⟨qb, 1, none⟩ v1).setCell ⟨qb, 2, none⟩ v2).setCell ⟨qb, 3, none⟩ v3).setCell ⟨qb, 4, none⟩ v4).setCell ⟨qb, 5, none⟩ v5).setCell ⟨qb, 6, none⟩ v6) b sa sc q :=
  ⟨(store7_other hne).trans h.1, h.2.store7 hq (by decide)⟩
end Go.Proofs.YtkoohedbbdgjjaaR
