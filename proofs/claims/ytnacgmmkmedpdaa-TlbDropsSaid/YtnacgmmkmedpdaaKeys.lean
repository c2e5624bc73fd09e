/- Keys and lines of caches: what the model does with them as keys of maps, in the order of the entries. -/
import Derived.Test.YtnacgmmkmedpdaaOwn
import Derived.DeepKeys3
import Derived.ChangeMaps5
namespace Go.Proofs.Ytnacgmmkmedpdaa
set_option linter.unusedVariables false
set_option linter.unusedSimpArgs false
open Go.RowKit
attribute [local go_sem] wext_cell wext_frozen wext_heap alloc_cell alloc_frozen alloc_heap setCell_cell objCell_cells objFrozen_cells

structure Key where
  p : Int
  l : Int
  t : Int
deriving DecidableEq, Inhabited
def Key.val (k : Key) : Value := .agg #[.int .i64 k.p, .int .i64 k.l, .int .u64 k.t]
structure Line where
  f : Int
  a : Bool
  b : Bool
  c : Bool
  d : Bool
  m : Int
deriving DecidableEq, Inhabited
def Line.val (x : Line) : Value := .agg #[.int .u64 x.f, .bool x.a, .bool x.b, .bool x.c, .bool x.d, .int .u8 x.m]

theorem key_equal (k k' : Key) (w : World) : (Op.equal 34 k.val k'.val).run Try.prog w = .ok (decide (k = k')) w := by
  show (Op.equalIn 10000 _ _ _).run _ _ = _
  obtain ⟨p, l, t⟩ := k
  obtain ⟨p', l', t'⟩ := k'
  simp [Key.val, go_sem]
  by_cases h1 : p = p' <;> by_cases h2 : l = l' <;> by_cases h3 : t = t' <;> simp [*]

theorem key_check_at (e : Bool) (k : Key) (w : World) (d : Nat) : (Instr.checkKey e (d + 1 + 1) 34 k.val).run Try.prog w = .ok () w := by
  obtain ⟨p, l, t⟩ := k
  simp [Key.val, Instr.checkKey, go_sem]
theorem key_check (e : Bool) (k : Key) (w : World) : (Instr.checkKey e 10000 34 k.val).run Try.prog w = .ok () w := key_check_at e k w 9998

theorem getObj_at {P : Program} {w : World} {r : Nat} {es : Array MapEntry} {c : Nat} (h : w.heap[r]? = some (.map es c)) : (getObj r).run P w = .ok (.map es c) w := by simp [getObj, Sem.run, h]
theorem setObj_at {P : Program} {w : World} {r : Nat} {es : Array MapEntry} {c : Nat} (o' : Obj) (h : w.heap[r]? = some (.map es c)) : (setObj r o').run P w = .ok () (putBlk w r o') := by simp [setObj, Sem.run, h, putBlk]
/-- The entries of a map, in turn. -/
def EntOk (es : Array MapEntry) (L : List (Key × Line)) : Prop := es.toList.map (fun e => (e.key, e.val)) = L.map fun x => (x.1.val, x.2.val)
def look (k : Key) : List (Key × Line) → Nat → Option (Nat × Line)
  | [], _ => none
  | x :: L, i => if k = x.1 then some (i, x.2) else look k L (i + 1)

theorem findAsking_run (k : Key) (w : World) : ∀ (l : List MapEntry) (L : List (Key × Line)) (i : Nat), l.map (fun e => (e.key, e.val)) = L.map (fun x => (x.1.val, x.2.val)) →
    (Instr.findAsking 34 k.val l i).run Try.prog w = .ok ((look k L i).map fun x => (x.1, x.2.val)) w
  | [], [], i, _ => rfl
  | [], x :: L, i, h => by cases h
  | e :: l, [], i, h => by cases h
  | e :: l, x :: L, i, h => by
    simp only [List.map_cons, List.cons.injEq, Prod.mk.injEq] at h
    unfold Instr.findAsking look
    rw [Sem.run_bind, h.1.1, key_equal]
    simp only [Result.andThen_ok]
    by_cases hk : k = x.1
    · simp [hk, h.1.2]
    · simp only [hk, decide_false, Bool.false_eq_true, if_false]
      exact findAsking_run k w l L (i + 1) h.2

theorem findKey_run (k : Key) (w : World) (l : List MapEntry) (L : List (Key × Line)) (h : l.map (fun e => (e.key, e.val)) = L.map (fun x => (x.1.val, x.2.val))) :
    (Instr.findKey 34 k.val l).run Try.prog w = .ok ((look k L 0).map fun x => (x.1, x.2.val)) w := by
  unfold Instr.findKey
  rw [Sem.run_bind, run_underlying Try.underlying34]
  simp only [Result.andThen_ok]
  cases l with
  | nil =>
    cases L with
    | nil => rfl
    | cons x L => cases h
  | cons e l =>
    split
    · rename_i r hr
      simp [Instr.findNow, Instr.sameNow] at hr
    · exact findAsking_run k w (e :: l) L 0 h

theorem lookup_run (k : Key) (w : World) (mb : Nat) (es : Array MapEntry) (clock : Nat) (L : List (Key × Line)) (hb : w.heap[mb]? = some (.map es clock)) (h : EntOk es L) :
    (Instr.lookup 140 (.map (some mb)) k.val true).run Try.prog w =
      .ok (.tuple #[(match look k L 0 with | some x => x.2 | none => ⟨0, false, false, false, false, 0⟩ : Line).val, .bool (look k L 0).isSome]) w := by
  unfold Instr.lookup
  rw [Sem.run_bind, run_underlying Try.underlying140]
  simp only [Result.andThen_ok, Sem.run_bind, getObj_at hb, Sem.run_pure, key_check, findKey_run k w es.toList L h]
  cases hl : look k L 0 with
  | none => simp [Line.val, go_sem]
  | some x => simp

theorem EntOk.push {es : Array MapEntry} {L : List (Key × Line)} (h : EntOk es L) (k : Key) (x : Line) (c : Nat) : EntOk (es.push { key := k.val, val := x.val, born := c }) (L ++ [(k, x)]) := by
  unfold EntOk at h ⊢
  simp [h]
theorem EntOk.set {es : Array MapEntry} {L : List (Key × Line)} (h : EntOk es L) (k : Key) (x : Line) (i : Nat) : EntOk (es.modify i fun e => { e with key := k.val, val := x.val }) (L.set i (k, x)) := by
  unfold EntOk at h ⊢
  rw [List.map_set, ← h, Array.toList_modify]
  apply List.ext_getElem?
  intro j
  simp only [List.getElem?_map, List.getElem?_modify, List.getElem?_set]
  by_cases hij : i = j
  · subst hij
    by_cases hi : i < es.toList.length
    · have hi2 : i < es.size := by simpa using hi
      simp [hi2]
    · simp only [List.getElem?_eq_none (Nat.le_of_not_lt hi)]; simp; simpa using hi
  · simp [hij]
theorem EntOk.erase {es : Array MapEntry} {L : List (Key × Line)} (h : EntOk es L) (i : Nat) : EntOk (es.eraseIdxIfInBounds i) (L.eraseIdx i) := by
  unfold EntOk at h ⊢
  rw [ChangeMaps.map_eraseIdx, ← h, ← ChangeMaps.map_eraseIdx]
  congr 1
  simp [Array.eraseIdxIfInBounds]
  split
  · simp
  · rename_i h; rw [List.eraseIdx_of_length_le (by simpa using h)]

theorem look_some {k : Key} : ∀ {L : List (Key × Line)} {i j : Nat} {x : Line}, look k L i = some (j, x) → i ≤ j ∧ L[j - i]? = some (k, x) ∧ (L.take (j - i)).all (fun y => y.1 ≠ k) = true
  | [], _, _, _, h => by cases h
  | y :: L, i, j, x, h => by
    unfold look at h
    split at h
    · rename_i hk
      obtain ⟨rfl, rfl⟩ := Prod.mk.inj (Option.some.inj h)
      refine ⟨Nat.le_refl _, ?_, ?_⟩ <;> simp [hk]
    · rename_i hk
      obtain ⟨h1, h2, h3⟩ := look_some h
      have : j - i = (j - (i + 1)) + 1 := by omega
      refine ⟨by omega, ?_, ?_⟩
      · rw [this]; simpa using h2
      · rw [this]; simp only [List.take_succ_cons, List.all_cons, h3, Bool.and_true, decide_eq_true_eq]; exact fun h => hk h.symm
theorem look_none {k : Key} : ∀ {L : List (Key × Line)} {i : Nat}, look k L i = none → ∀ y ∈ L, y.1 ≠ k
  | [], _, _, y, hy => by cases hy
  | x :: L, i, h, y, hy => by
    unfold look at h
    split at h
    · cases h
    · rename_i hk
      rcases List.mem_cons.1 hy with rfl | hy
      · exact fun h => hk h.symm
      · exact look_none h y hy

def putL (k : Key) (x : Line) (L : List (Key × Line)) : List (Key × Line) :=
  match look k L 0 with
  | some (i, _) => L.set i (k, x)
  | none => L ++ [(k, x)]
def delL (k : Key) (L : List (Key × Line)) : List (Key × Line) :=
  match look k L 0 with
  | some (i, _) => L.eraseIdx i
  | none => L

theorem same_key (k : Key) (n : Nat) : Instr.sameBits (n + 1 + 1) k.val k.val = true := by
  simp [Key.val, Instr.sameBits]

theorem mapUpdate_run (k : Key) (x : Line) (w : World) (mb : Nat) (es : Array MapEntry) (clock : Nat) (L : List (Key × Line)) (hb : w.heap[mb]? = some (.map es clock)) (h : EntOk es L) :
    ∃ es' c', (Instr.mapUpdate 140 (.map (some mb)) k.val x.val).run Try.prog w = .ok () (putBlk w mb (.map es' c')) ∧ EntOk es' (putL k x L) := by
  unfold Instr.mapUpdate putL
  rw [Sem.run_bind, run_underlying Try.underlying140]
  simp only [Result.andThen_ok, Sem.run_bind, getObj_at hb, Sem.run_pure, key_check, findKey_run k w es.toList L h]
  cases hl : look k L 0 with
  | none => exact ⟨_, _, setObj_at _ hb, h.push k x clock⟩
  | some y =>
    obtain ⟨j, y⟩ := y
    have hj := (look_some hl).2.1
    have hkey : ((es[j]?).map (·.key)).getD k.val = k.val := by
      have h2 : (es.toList.map (fun e => (e.key, e.val)))[j]? = (L.map fun x => (x.1.val, x.2.val))[j]? := by rw [h]
      simp only [List.getElem?_map] at h2
      simp only [Nat.sub_zero] at hj
      rw [hj] at h2
      cases he : es[j]? with
      | none => rfl
      | some e =>
        rw [Array.getElem?_toList, he] at h2
        simp only [Option.map_some, Option.some.injEq, Prod.mk.injEq] at h2
        simpa using h2.1
    refine ⟨es.modify j fun e => { e with key := k.val, val := x.val }, clock, ?_, h.set k x j⟩
    simp only [Option.map_some, hkey, Sem.run_bind, Instr.keyThatStays, same_key k 9998, if_true, Sem.run_pure, Result.andThen_ok]
    exact setObj_at _ hb

theorem delete_run (k : Key) (w : World) (mb : Nat) (es : Array MapEntry) (clock : Nat) (L : List (Key × Line)) (hb : w.heap[mb]? = some (.map es clock)) (h : EntOk es L) :
    ∃ es', (∀ ty t2 : TypeId, (Builtin.delete_ #[140, t2] ty #[.map (some mb), k.val]).run Try.prog w = .ok (.tuple #[]) (putBlk w mb (.map es' clock))) ∧ EntOk es' (delL k L) := by
  unfold Builtin.delete_ delL
  simp only [List.getElem?_toArray, List.getElem?_cons_zero, List.getElem?_cons_succ]
  rw [Sem.run_bind, run_underlying Try.underlying140]
  simp only [Result.andThen_ok, Sem.run_bind, getObj_at hb, Sem.run_pure, key_check, findKey_run k w es.toList L h]
  cases hl : look k L 0 with
  | none => exact ⟨es, by simp [setObj_at _ hb], h⟩
  | some y => exact ⟨_, by simp [setObj_at _ hb], h.erase y.1⟩
end Go.Proofs.Ytnacgmmkmedpdaa
