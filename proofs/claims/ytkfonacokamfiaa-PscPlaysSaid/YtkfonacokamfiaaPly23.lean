/- Joined texts, part 23 of what the law stands on: each as its own head says. -/
import Derived.Test.YtkfonacokamfiaaPly21
import Derived.Test.YtkfonacokamfiaaPly22
import Derived.Test.YtkfonacokamfiaaPly19
import Derived.Maps.RangeRun
import Derived.Maps.RangeWalk
import Derived.ChangeKeysEq
import Derived.Test.YtkfonacokamfiaaPly20
/- Same: are two paths the same, but for flags? -/
namespace Go.Proofs.Ytkfonacokamfiaa
set_option linter.unusedVariables false
set_option linter.unusedSimpArgs false
open Go.RowKit
attribute [local go_sem] wext_cell wext_frozen wext_heap alloc_cell alloc_frozen alloc_heap setCell_cell objCell_cells objFrozen_cells
attribute [local go_sem high] rt_eql rt_neq st_eql st_neq

def eqvB (a b : Stp) : Bool := stB (a.1, a.2.1, orD a.2.2) (b.1, b.2.1, orD b.2.2)
def eqvSB : List Stp → List Stp → Bool
  | [], _ => true
  | _, [] => true
  | a :: L, b :: K => eqvB a b && eqvSB L K
def sameP (p q : List Stp × WRes) : Bool :=
  p.2.1 == q.2.1 && rtB (p.2.2.1.1, p.2.2.1.2.1, p.2.2.1.2.2) (q.2.2.1.1, q.2.2.1.2.1, q.2.2.1.2.2) && p.2.2.2.1 == q.2.2.2.1 && p.2.2.2.2 == q.2.2.2.2 && p.1.length == q.1.length && eqvSB p.1 q.1
theorem eqvSB_drop (L K : List Stp) (j : Nat) (hl : j < L.length) (hk : j < K.length) : eqvSB (L.drop j) (K.drop j) = (eqvB (stpAt L j) (stpAt K j) && eqvSB (L.drop (j + 1)) (K.drop (j + 1))) := by
  have e : ∀ L : List Stp, j < L.length → L.drop j = stpAt L j :: L.drop (j + 1) := fun L h => by
    rw [List.drop_eq_getElem_cons h]
    congr 1
    simp [stpAt, List.getD, h]
  rw [e L hl, e K hk]; rfl
theorem same_of {L K : List Stp} {r : WRes} (h : eqvS L K) : sameP (L, r) (K, r) = true := by
  have hl := eqvS_length h
  have : ∀ {L K : List Stp}, eqvS L K → eqvSB L K = true := by
    intro L
    induction L with
    | nil => intros; rfl
    | cons a L ih =>
      intro K h
      cases K with
      | nil => rfl
      | cons b K =>
        obtain ⟨h1, h2, h3, h4⟩ := h
        have : eqvB a b = true := by unfold eqvB stB; simp [h1, h2, eqv_or.2 h3]
        simp [eqvSB, this, ih h4]
  simp [sameP, this h, hl, rtB]
theorem same_true {p q : List Stp × WRes} (h : sameP p q = true) : p.2 = q.2 := by
  unfold sameP rtB at h
  simp only [Bool.and_eq_true, beq_iff_eq, decide_eq_true_eq, Prod.mk.injEq] at h
  obtain ⟨L, w, ⟨a, b, c⟩, l, f⟩ := p
  obtain ⟨K, w', ⟨a', b', c'⟩, l', f'⟩ := q
  simp_all

end Go.Proofs.Ytkfonacokamfiaa
/- Copy: a memory of the same bytes. -/
namespace Go.Proofs.Ytkfonacokamfiaa
set_option linter.unusedVariables false
set_option linter.unusedSimpArgs false
open Go.RowKit
attribute [local go_sem] wext_cell wext_frozen wext_heap alloc_cell alloc_frozen alloc_heap setCell_cell objCell_cells objFrozen_cells

section
variable {P : Program} {w : World} {ops : Array Oper} {rest : List Oper} {o : Oper} {a : Act} {Q : Exit → Act → World → Prop}
/-- A range loop's step, by the entries themselves. -/
theorem wpList_next_raw (hg : o.guard = none) (it : Operand) (hop : o.op = Op.next it false) (r bm since c0 : Nat) (seen : Array Nat) (es : Array MapEntry) (clock : Nat)
    (hit : a.eval it = .pointer (some ⟨r, 0, none⟩)) (hr : w.heap[r]? = some (.mapIter (some bm) since seen c0)) (hb : w.heap[bm]? = some (.map es clock)) (hold : ∀ x ∈ es.toList, x.born < since) (hsc : since ≤ c0)
    (hDone : (leftOf es seen).size = 0 → wpList P ops Q rest (a.put o.dst (.tuple #[.bool false])) w)
    (hMore : ∀ e ∈ (leftOf es seen).toList, ∀ w' : World, Keeps [r] w w' → w'.heap[r]? = some (.mapIter (some bm) since (seen.push e.born) clock) → wpList P ops Q rest (a.put o.dst (.tuple #[.bool true, e.key, e.val])) w') :
    wpList P ops Q (o :: rest) a w := by
  refine wpList_plain hg fun K' hK' => ?_
  unfold Oper.wp
  rcases run_next_at (P := P) w o.type r bm since c0 seen es clock hr hb hold hsc with ⟨h0, hrun⟩ | ⟨e, he, w1, hw1, hrun⟩
  · simp [execOp, hop, hit, hrun, Result.andThen]
    exact hK' _ _ (hDone h0)
  · simp [execOp, hop, hit, hrun, Result.andThen]
    refine hK' _ _ (hMore e he _ ?_ ?_)
    · have k1 : Keeps [r] w w1 := by
        rcases hw1 with rfl | rfl
        · exact Keeps.refl _ _
        · exact Keeps.of_ext (Ext.refl _).drew
      exact k1.put (.inl (by simp)) _
    · have hl : r < w1.heap.size := by
        have := heap_lt hr
        rcases hw1 with rfl | rfl
        · exact this
        · exact this
      exact putBlk_same w1 r _ hl
end
theorem range_run (w : World) (pb : Nat) (es : Array MapEntry) (clock : Nat) (hb : w.heap[pb]? = some (.map es clock)) :
    (Instr.range 130 (.map (some pb))).run Try.prog w = .ok (.pointer (some ⟨w.heap.size, 0, none⟩)) (w.alloc (.mapIter (some pb) clock #[] clock)) := by
  unfold Instr.range
  rw [Sem.run_bind]
  simp only [Sem.run_bind, run_underlying Try.underlying130, Result.andThen_ok, getObj_at hb, Sem.run_pure]
  rfl
theorem memNew_x (B : Int) (w : World) (hB : 14 ≤ B ∧ B ≤ 22) :
    Calls Try.prog 34 #[.int .i64 B] w fun e w' => e = .returned (.pointer (some ⟨w.heap.size + 1, 0, none⟩)) ∧ w'.heap[w.heap.size + 1]? = some (.cells #[.int .i64 B, .map (some w.heap.size), .slice none 0 0] 133 (0, 0)) ∧ w'.heap[w.heap.size]? = some (.map #[] 0) ∧ Ext w w' := by
  have hmk : ∀ w, (Instr.makeMap 130 none).run Try.prog w = .ok (.map (some w.heap.size)) (w.alloc (.map #[] 0)) := fun _ => rfl
  obtain ⟨hB0, hB1⟩ := hB
  go_enter Try.func34, Try.ntmps34
  go_wp2
  all_goals
    go_ret
    refine ⟨rfl, alloc_same1 .., ?_, (by repeat (first | exact Ext.refl _ | assumption | refine Ext.alloc ?_ _ | refine Ext.drew ?_ | refine Ext.setCell ?_ (by first | (simp; done) | (dsimp only; omega)) _ | refine Ext.trans ?_ (by assumption)))⟩
    rw [alloc_other _ _ (by simp), alloc_same]
theorem nodup_eq {α β : Type} {f : α → β} : ∀ {l : List α} {x y : α}, (l.map f).Nodup → x ∈ l → y ∈ l → f x = f y → x = y
  | [], _, _, _, h, _, _ => by cases h
  | a :: l, x, y, hn, hx, hy, e => by
    simp only [List.map_cons, List.nodup_cons] at hn
    obtain ⟨hn1, hn2⟩ := hn
    rcases List.mem_cons.1 hx with h1 | h1
    · rcases List.mem_cons.1 hy with h2 | h2
      · rw [h1, h2]
      · exact absurd (List.mem_map.2 ⟨y, h2, by rw [← e, h1]⟩) hn1
    · rcases List.mem_cons.1 hy with h2 | h2
      · exact absurd (List.mem_map.2 ⟨x, h1, by rw [e, h2]⟩) hn1
      · exact nodup_eq hn2 h1 h2 e
theorem EntP.mem {es : Array MapEntry} {clock : Nat} {PL : List (Int × Nat)} (h : EntP es clock PL) {e : MapEntry} (he : e ∈ es.toList) : ∃ n g, (n, g) ∈ PL ∧ e.key = .int .u64 n ∧ e.val = .pointer (some ⟨g, 0, none⟩) := by
  have : (e.key, e.val) ∈ es.toList.map (fun e => (e.key, e.val)) := List.mem_map.2 ⟨e, he, rfl⟩
  rw [h.2] at this
  obtain ⟨⟨n, g⟩, h1, h2⟩ := List.mem_map.1 this
  simp only [Prod.mk.injEq] at h2
  exact ⟨n, g, h1, h2.1.symm, h2.2.symm⟩
theorem EntP.entry {es : Array MapEntry} {clock : Nat} {PL : List (Int × Nat)} (h : EntP es clock PL) {n : Int} {g : Nat} (hx : (n, g) ∈ PL) : ∃ e ∈ es.toList, e.key = .int .u64 n := by
  have : ((Value.int .u64 n, Value.pointer (some ⟨g, 0, none⟩)) : Value × Value) ∈ PL.map fun x => (Value.int .u64 x.1, Value.pointer (some ⟨x.2, 0, none⟩)) := List.mem_map.2 ⟨(n, g), hx, rfl⟩
  rw [← h.2] at this
  obtain ⟨e, h1, h2⟩ := List.mem_map.1 this
  simp only [Prod.mk.injEq] at h2
  exact ⟨e, h1, h2.1⟩
/-- Entries' keys are each one's own. -/
theorem EntP.key_inj {es : Array MapEntry} {clock : Nat} {PL : List (Int × Nat)} (h : EntP es clock PL) (hn : (PL.map (·.1)).Nodup) {e e' : MapEntry} (he : e ∈ es.toList) (he' : e' ∈ es.toList) (hk : e.key = e'.key) : e = e' := by
  have h1 : (es.toList.map (·.key)) = PL.map fun x => Value.int .u64 x.1 := by
    have := congrArg (List.map Prod.fst) h.2
    simpa [List.map_map, Function.comp_def] using this
  have h2 : (es.toList.map (·.key)).Nodup := by
    rw [h1]
    have : PL.map (fun x => Value.int .u64 x.1) = (PL.map (·.1)).map (Value.int .u64) := by simp [List.map_map, Function.comp_def]
    rw [this]
    exact List.Pairwise.map _ (fun a b hab e => hab (by injection e)) hn
  exact nodup_eq h2 he he' hk

theorem nodup_le : ∀ {l k : List Int}, l.Nodup → (∀ x ∈ l, x ∈ k) → l.length ≤ k.length
  | [], k, _, _ => Nat.zero_le _
  | x :: l, k, hn, h => by
    simp only [List.nodup_cons] at hn
    have hx := h x (List.mem_cons_self ..)
    have := nodup_le (l := l) (k := k.erase x) hn.2 (fun y hy => (List.mem_erase_of_ne (fun e => hn.1 (by rw [← e]; exact hy))).2 (h y (List.mem_cons_of_mem _ hy)))
    rw [List.length_erase_of_mem hx] at this
    have := List.length_pos_of_mem hx
    simp only [List.length_cons]; omega
/-- A copy under way: which entries have been seen, and their pages, copied. -/
structure CopyAt (U w : World) (rb pb cb cpb : Nat) (es : Array MapEntry) (clock : Nat) (B : Int) (M : Int → Int) (seen : Array Nat) (c0 : Nat) (ec : Array MapEntry) (cc : Nat) (PC : List (Int × Nat)) (base : Nat) : Prop where
  ext : Ext U w
  it : w.heap[rb]? = some (.mapIter (some pb) clock seen c0)
  late : clock ≤ c0
  mem : w.heap[cb]? = some (.cells #[.int .i64 B, .map (some cpb), .slice none 0 0] 133 (0, 0))
  map : w.heap[cpb]? = some (.map ec cc)
  ent : EntP ec cc PC
  keys : (PC.map (·.1)).Nodup
  blks : (PC.map (·.2)).Nodup
  page : ∀ x ∈ PC, PageAt w x.2 x.1 M ∧ base ≤ x.2
  done : ∀ e ∈ es.toList, ∀ n, e.key = .int .u64 n → (n ∈ PC.map (·.1) ↔ seen.contains e.born = true)
  few : seen.size = PC.length
  sub : ∀ x ∈ PC.map (·.1), ∃ e ∈ es.toList, e.key = .int .u64 x
def copyLeft (rb : Nat) (es : Array MapEntry) (w : World) : Nat := match w.heap[rb]? with | some (.mapIter _ _ seen _) => es.size - seen.size | _ => 0

def EndCopy (w : World) (B : Int) (M : Int → Int) (e : Ending) (w' : World) : Prop :=
  ∃ cb, e = .returned (.pointer (some ⟨cb, 0, none⟩)) ∧ MemP (w.heap.size ≤ ·) w' cb B M [] ∧ Ext w w'
end Go.Proofs.Ytkfonacokamfiaa
/- Diff: where two memories' slots differ. -/
namespace Go.Proofs.Ytkfonacokamfiaa
set_option linter.unusedVariables false
set_option linter.unusedSimpArgs false
open Go.RowKit
attribute [local go_sem] wext_cell wext_frozen wext_heap alloc_cell alloc_frozen alloc_heap setCell_cell objCell_cells objFrozen_cells

/-- A page's cells. -/
def PageC (c : Array Value) (M : Int → Int) (n : Int) : Prop := c.size = 512 ∧ ∀ i : Nat, i < 512 → c[i]? = some (.int .u64 (M (n * 512 + i)))
def EndPage (M : Int → Int) (n : Int) (w : World) (e : Ending) (w' : World) : Prop := ∃ c, e = .returned (.agg c) ∧ PageC c M n ∧ Ext w w'
theorem pageC_one {c : Array Value} {M : Int → Int} {n : Int} (h : PageC c M n) : c.all (·.oneCell') = true := by
  rw [Array.all_eq_true]
  intro i hi
  have := h.2 i (by have := h.1; omega)
  rw [Array.getElem?_eq_getElem hi] at this
  injection this with this
  rw [this]; rfl
theorem setRow_ext {w U : World} (h : Ext w U) {g : Nat} (hg : w.heap.size ≤ g) (c : Array Value) : Ext w (U.setRow g c) := by
  refine ⟨?_, ?_, ?_, ?_, fun b hb => (setRow_other _ _ _ _ (by omega)).trans (h.block b hb)⟩
  · exact h.os
  · exact h.tape
  · exact h.output
  · have : (U.setRow g c).heap.size = U.heap.size := by simp [World.setRow]
    rw [this]; exact h.size
section
variable {P : Program}
theorem eqItems_ints {e : TypeId} (he : P.underlying e = some (.int .u64)) (hp : P.plainKey e = true) (hc : P.cellsOf e = 1) (d : Nat) (xs ys : Array Value) (f g : Nat → Int) (w : World) :
    ∀ is : List Nat, (∀ i ∈ is, xs[i]? = some (.int .u64 (f i)) ∧ ys[i]? = some (.int .u64 (g i))) → (Op.eqItems (d + 1) e (P.cellsOf e) xs ys is).run P w = .ok (is.all fun i => f i == g i) w
  | [], _ => by simp [Op.eqItems]
  | i :: is, h => by
    have ⟨h1, h2⟩ := h i (List.mem_cons_self ..)
    have ih := eqItems_ints he hp hc d xs ys f g w is fun j hj => h j (List.mem_cons_of_mem _ hj)
    rw [hc] at ih ⊢
    have hr : (Op.equalIn (d + 1) e (.int .u64 (f i)) (.int .u64 (g i))).run P w = .ok (f i == g i) w := by
      simp only [Op.equalIn, Sem.run_bind, run_underlying he, Result.andThen_ok]
      simp
    simp only [Op.eqItems, Sem.run_bind, Nat.mul_one, run_part_plain w hp h1, run_part_plain w hp h2, Result.andThen_ok, hr]
    cases hb : f i == g i
    · simp [hb]
    · simp only [Bool.not_true, Bool.false_eq_true, if_false, ih, List.all_cons, hb, Bool.true_and]
end
def pageB (M1 M2 : Int → Int) (n : Int) : Bool := (List.range 512).all fun i => M1 (n * 512 + i) == M2 (n * 512 + i)
theorem page_eql {c1 c2 : Array Value} {M1 M2 : Int → Int} {n : Int} (h1 : PageC c1 M1 n) (h2 : PageC c2 M2 n) (w : World) : (binOp .eql 144 (.agg c1) (.agg c2)).run Try.prog w = .ok (.bool (pageB M1 M2 n)) w := by
  rw [run_eql_struct]
  obtain ⟨i, hi⟩ : ∃ i, Try.prog.info? 34 = some i := by
    cases hh : Try.prog.info? 34 with
    | some i => exact ⟨i, rfl⟩
    | none => exact absurd hh (by have : (Try.prog.info? 34).isSome = true := (by kernel_rfl); intro e; rw [e] at this; cases this)
  rw [show (10000 : Nat) = 9998 + 1 + 1 from rfl, run_equalIn_array w (9998 + 1) c1 c2 Try.underlying144 hi,
    eqItems_ints (P := Try.prog) Try.underlying34 (by kernel_rfl) (by kernel_rfl) 9998 c1 c2 (fun i => M1 (n * 512 + i)) (fun i => M2 (n * 512 + i)) w (List.range 512) (fun i hi => ⟨h1.2 i (by simpa using hi), h2.2 i (by simpa using hi)⟩)]
  rfl

/-- Where the slots of a page differ, up to a place; where those of the pages do, up to a page. -/
def dIn (M1 M2 : Int → Int) (n : Int) (k : Nat) : List Int := ((List.range k).filter fun i : Nat => M1 (n * 512 + i) != M2 (n * 512 + i)).map fun i : Nat => n * 4096 + (i : Int) * 8
def dOut (M1 M2 : Int → Int) (n : Nat) : List Int := (List.range n).flatMap fun i : Nat => dIn M1 M2 i 512
theorem dIn_succ (M1 M2 : Int → Int) (n : Int) (k : Nat) : dIn M1 M2 n (k + 1) = if (M1 (n * 512 + k) != M2 (n * 512 + k)) = true then dIn M1 M2 n k ++ [n * 4096 + (k : Int) * 8] else dIn M1 M2 n k := by
  unfold dIn
  rw [List.range_succ, List.filter_append, List.map_append]
  split
  · rename_i h; simp [h]
  · rename_i h; simp [h]
theorem dOut_succ (M1 M2 : Int → Int) (n : Nat) : dOut M1 M2 (n + 1) = dOut M1 M2 n ++ dIn M1 M2 n 512 := by
  unfold dOut
  rw [List.range_succ, List.flatMap_append]; simp
theorem dIn_length (M1 M2 : Int → Int) (n : Int) (k : Nat) : (dIn M1 M2 n k).length ≤ k := by
  unfold dIn
  rw [List.length_map]
  exact Nat.le_trans (List.length_filter_le ..) (by simp)
theorem dOut_length (M1 M2 : Int → Int) (n : Nat) : (dOut M1 M2 n).length ≤ 512 * n := by
  induction n with
  | zero => simp [dOut]
  | succ n ih => rw [dOut_succ, List.length_append]; have := dIn_length M1 M2 n 512; omega
theorem dIn_none {M1 M2 : Int → Int} {n : Int} (h : pageB M1 M2 n = true) : dIn M1 M2 n 512 = [] := by
  unfold dIn
  rw [List.filter_eq_nil_iff.2, List.map_nil]
  intro i hi
  have := List.all_eq_true.1 h i hi
  simpa [bne] using this
theorem mem_dOut {M1 M2 : Int → Int} {N : Nat} {a : Int} (h : a ∈ dOut M1 M2 N) : 0 ≤ a ∧ a < N * 4096 ∧ a % 8 = 0 ∧ M1 (a / 8) ≠ M2 (a / 8) := by
  unfold dOut dIn at h
  obtain ⟨n, hn, h⟩ := List.mem_flatMap.1 h
  obtain ⟨i, hi, rfl⟩ := List.mem_map.1 h
  obtain ⟨h1, h2⟩ := List.mem_filter.1 hi
  have hn' : n < N := by simpa using hn
  have hi' : i < 512 := by simpa using h1
  have e : ((n : Int) * 4096 + (i : Int) * 8) / 8 = (n : Int) * 512 + i := by omega
  rw [e]
  refine ⟨by omega, by omega, by omega, by simpa using h2⟩
theorem dOut_nil {M1 M2 : Int → Int} {N : Nat} (h : ∀ s, M1 s = M2 s) : dOut M1 M2 N = [] := by
  unfold dOut dIn
  rw [List.flatMap_eq_nil_iff]
  intro n _
  rw [List.filter_eq_nil_iff.2, List.map_nil]
  intro i _
  simp [h]
end Go.Proofs.Ytkfonacokamfiaa
/- Diff of two memories of 16 bits. -/
namespace Go.Proofs.Ytkfonacokamfiaa
set_option linter.unusedVariables false
set_option linter.unusedSimpArgs false
open Go.RowKit
attribute [local go_sem] wext_cell wext_frozen wext_heap alloc_cell alloc_frozen alloc_heap setCell_cell objCell_cells objFrozen_cells

def EndDiff (w : World) (l : List Int) (e : Ending) (w' : World) : Prop :=
  ∃ la lc, e = .returned (.slice la l.length lc) ∧ Owns w' 34 1 (.slice la l.length lc) l.length (l.map (.int .u64 ·)) ∧ Ext w w' ∧ ∀ g, (Value.slice la l.length lc).ownBlock = some g → w.heap.size ≤ g
theorem MemAt.cell0 {w : World} {mb : Nat} {F : List Nat} {B : Int} {M : Int → Int} {T : List Int} (h : MemAt w mb F B M T) : w.cell? ⟨mb, 0, none⟩ = some (.int .i64 B) := h.head.1
end Go.Proofs.Ytkfonacokamfiaa
/- Bits left away; copies and differences of a law's own memories. -/
namespace Go.Proofs.Ytkfonacokamfiaa
set_option linter.unusedVariables false
set_option linter.unusedSimpArgs false
open Go.RowKit
attribute [local go_sem] wext_cell wext_frozen wext_heap alloc_cell alloc_frozen alloc_heap setCell_cell objCell_cells objFrozen_cells

theorem bit_div (n i : Nat) : n.testBit i = (n / 2 ^ i % 2 == 1) := by
  rw [Nat.testBit_eq_decide_div_mod_eq]; rfl
theorem eqv_test {x y : Nat} (h : eqv (x : Int) (y : Int)) (i : Nat) (hi : i ≠ 5 ∧ i ≠ 6) : x.testBit i = y.testBit i := by
  unfold eqv at h
  rw [bit_div, bit_div]
  by_cases h7 : 7 ≤ i
  · have e : ∀ z : Nat, z / 2 ^ i = z / 128 / 2 ^ (i - 7) := fun z => by
      rw [Nat.div_div_eq_div_mul, show (128 : Nat) = 2 ^ 7 from rfl, ← Nat.pow_add, show 7 + (i - 7) = i by omega]
    have : x / 128 = y / 128 := by omega
    rw [e, e, this]
  · have : i = 0 ∨ i = 1 ∨ i = 2 ∨ i = 3 ∨ i = 4 := by omega
    have h5 : x % 32 = y % 32 := by omega
    rcases this with rfl | rfl | rfl | rfl | rfl
    · have : x / 2 ^ 0 % 2 = y / 2 ^ 0 % 2 := by simp; omega
      rw [this]
    · have : x / 2 ^ 1 % 2 = y / 2 ^ 1 % 2 := by simp; omega
      rw [this]
    · have : x / 2 ^ 2 % 2 = y / 2 ^ 2 % 2 := by simp; omega
      rw [this]
    · have : x / 2 ^ 3 % 2 = y / 2 ^ 3 % 2 := by simp; omega
      rw [this]
    · have : x / 2 ^ 4 % 2 = y / 2 ^ 4 % 2 := by simp; omega
      rw [this]
theorem not_test {m : Nat} (h : m < 18446744073709551616) (i : Nat) : (18446744073709551615 - m).testBit i = (decide (i < 64) && !m.testBit i) := by
  have := Nat.testBit_two_pow_sub_succ (n := 64) (x := m) (by omega) i
  rw [show 2 ^ 64 - (m + 1) = 18446744073709551615 - m by omega] at this
  exact this
theorem more_none {x y : Int} (h0 : 0 ≤ x) (h1 : x ≤ 18446744073709551615) (k0 : 0 ≤ y) (k1 : y ≤ 18446744073709551615) (h : more x y) : bits BinOp.andNot IntKind.u64 x y = 0 := by
  obtain ⟨n, rfl⟩ : ∃ n : Nat, x = n := ⟨x.toNat, by omega⟩
  obtain ⟨m, rfl⟩ : ∃ m : Nat, y = m := ⟨y.toNat, by omega⟩
  rw [u64_andNot_nat _ _ (by omega) (by omega)]
  have : n &&& (18446744073709551615 - m) = 0 := by
    apply Nat.eq_of_testBit_eq
    intro i
    rw [Nat.testBit_and, not_test (by omega), Nat.zero_testBit]
    obtain ⟨he, hA, hD⟩ := h
    by_cases h56 : i = 5 ∨ i = 6
    · have hn : n.testBit i = true → m.testBit i = true := by
        unfold hasA hasD at *
        simp only [beq_iff_eq] at hA hD
        rw [bit_div, bit_div]
        simp only [beq_iff_eq]
        rcases h56 with rfl | rfl
        · show n / 32 % 2 = 1 → m / 32 % 2 = 1
          omega
        · show n / 64 % 2 = 1 → m / 64 % 2 = 1
          omega
      cases hb : n.testBit i
      · rfl
      · rw [hn hb]; simp
    · rw [eqv_test he i (by omega)]
      cases m.testBit i <;> simp
  rw [this]; rfl
theorem eqv_bare {x y : Int} (h0 : 0 ≤ x) (h1 : x ≤ 18446744073709551615) (k0 : 0 ≤ y) (k1 : y ≤ 18446744073709551615) (h : eqv x y) : bits BinOp.andNot IntKind.u64 y 96 = bits BinOp.andNot IntKind.u64 x 96 := by
  obtain ⟨n, rfl⟩ : ∃ n : Nat, x = n := ⟨x.toNat, by omega⟩
  obtain ⟨m, rfl⟩ : ∃ m : Nat, y = m := ⟨y.toNat, by omega⟩
  rw [show (96 : Int) = ((96 : Nat) : Int) from rfl, u64_andNot_nat _ _ (by omega) (by omega), u64_andNot_nat _ _ (by omega) (by omega)]
  congr 1
  apply Nat.eq_of_testBit_eq
  intro i
  rw [Nat.testBit_and, Nat.testBit_and, not_test (by omega)]
  by_cases h56 : i = 5 ∨ i = 6
  · have : (96 : Nat).testBit i = true := by rcases h56 with rfl | rfl <;> decide
    rw [this]; simp
  · rw [eqv_test h i (by omega)]
theorem nat_and64 (n : Nat) : n &&& 64 = n / 64 % 2 * 64 := by
  have h := Nat.div_add_mod (n &&& 64) 128
  have h1 : (n &&& 64) / 128 = 0 := by
    have := Nat.and_div_two_pow (a := n) (b := 64) (n := 7); simpa using this
  have h2 : (n &&& 64) % 128 = n % 128 &&& 64 := by
    have := Nat.and_mod_two_pow (a := n) (b := 64) (n := 7); simpa using this
  have h3 : ∀ i : Fin 128, i.val &&& 64 = i.val / 64 % 2 * 64 := by decide +kernel
  have h4 := h3 ⟨n % 128, Nat.mod_lt _ (by omega)⟩
  simp only at h4
  omega
theorem and64 {x : Int} (h0 : 0 ≤ x) (h1 : x ≤ 18446744073709551615) : bits BinOp.and IntKind.u64 x 64 = x / 64 % 2 * 64 := by
  rw [u64_and _ _ h0 (by omega) (by omega) (by omega), show (64 : Int).toNat = 64 from rfl, nat_and64]; omega

theorem markL_twice {B : Int} {df : Bool} {L : List Stp} {M : Int → Int} (h : ∀ s ∈ L, errM B s.2.1 = 0) : markL B df L (markL B df L M) = markL B df L M := by
  have hh := markL_has (df := df) L M h
  exact markL_again L _ (fun s hs _ => hh.1 s hs) (fun s hs hd _ => hh.2 s hs hd)
end Go.Proofs.Ytkfonacokamfiaa
/- The document's tables, tops and bare words; are its paths the same? -/
namespace Go.Proofs.Ytkfonacokamfiaa
set_option linter.unusedVariables false
set_option linter.unusedSimpArgs false
open Go.RowKit
attribute [local go_sem] wext_cell wext_frozen wext_heap alloc_cell alloc_frozen alloc_heap setCell_cell objCell_cells objFrozen_cells
attribute [local go_sem high] rt_eql rt_neq st_eql st_neq

theorem ref1Get_c (x lo n : Int) (w : World) (hx : 0 ≤ x) (hx1 : x ≤ 18446744073709551615) (h0 : 0 ≤ lo) (h1 : 1 ≤ n) (h2 : lo ≤ 63) (h3 : n ≤ 64 - lo) (h4 : n ≤ 63) :
    Calls Try.prog 60 #[.int .u64 x, .int .i64 lo, .int .i64 n] w fun e w' => e = .returned (.int .u64 (x / pow2 lo % pow2 n)) ∧ Ext w w' := by
  have hI := Lib.hid (fun w => refIs_c lo n w h0 h1 (by omega) h3)
  have hp := pow2_pos lo
  have hp2 := pow2_pos n
  have hq0 : 0 ≤ x / pow2 lo := Int.ediv_nonneg hx (by omega)
  have hq1 : x / pow2 lo ≤ 18446744073709551615 := by have := Int.ediv_le_self (pow2 lo) hx; omega
  have hle := pow2_le n h4
  have n64 : (n == 64) = false := by rw [beq_eq_false_iff_ne]; omega
  have HPl := Lib.hid (fun w => power_c lo w h0 h2)
  have HPn := Lib.hid (fun w => power_c n w (by omega) h4)
  have tok1 : True := trivial
  go_enter Try.func60, Try.ntmps60
  go_wp2_with (first | (go_at_call 74; refine (hI.out _).mono ?_; rintro e w1 ⟨rfl, hb1⟩) | (go_at_call 69; have _t := tok1; clear _t; refine (HPl.out _).mono ?_; rintro e w2 ⟨rfl, hb2⟩; clear tok1) | (go_at_call 69; refine (HPn.out _).mono ?_; rintro e w3 ⟨rfl, hb3⟩))
  all_goals
    go_ret
    exact ⟨rfl, (by repeat (first | exact Ext.refl _ | assumption | refine Ext.alloc ?_ _ | refine Ext.drew ?_ | refine Ext.setCell ?_ (by first | (simp; done) | (dsimp only; omega)) _ | refine Ext.trans ?_ (by assumption)))⟩
theorem refTable_c (x : Int) (w : World) (h0 : 0 ≤ x) (h1 : x ≤ 18446744073709551615) : Calls Try.prog 51 #[.int .u64 x] w fun e w' => e = .returned (.int .u64 (tabI x)) ∧ Ext w w' := by
  have hg : ∀ w, Calls Try.prog 60 #[.int .u64 x, .int .i64 12, .int .i64 40] w fun e w' => e = .returned (.int .u64 (x / 4096 % 1099511627776)) ∧ Ext w w' := fun w => ref1Get_c x 12 40 w h0 h1 (by omega) (by omega) (by omega) (by omega) (by omega)
  have ht := tab_d x
  have HT := Lib.hid ht
  clear ht
  go_enter Try.func51, Try.ntmps51
  go_wp2_with (first | (go_at_call 60; refine (hg _).mono ?_; rintro e w1 ⟨rfl, hb1⟩))
  go_ret
  exact ⟨by rw [HT.out]; rfl, (by repeat (first | exact Ext.refl _ | assumption | refine Ext.alloc ?_ _ | refine Ext.drew ?_ | refine Ext.setCell ?_ (by first | (simp; done) | (dsimp only; omega)) _ | refine Ext.trans ?_ (by assumption)))⟩
def bareN (n : Nat) : Nat := withN (withN n 5 false) 6 false
theorem withN_test (n i k : Nat) (b : Bool) : (withN n i b).testBit k = (decide (k < 64) && if k = i then b else n.testBit k) := by unfold withN; rw [sumBits_testBit]
theorem bareN_test (n k : Nat) : (bareN n).testBit k = (decide (k < 64) && !(decide (k = 5) || decide (k = 6)) && n.testBit k) := by
  unfold bareN
  rw [withN_test]
  by_cases h6 : k = 6
  · simp [h6]
  · rw [if_neg h6, withN_test]
    by_cases h5 : k = 5
    · simp [h5]
    · simp [h5, h6]
theorem bareN_le (n : Nat) : bareN n ≤ 18446744073709551615 := by
  unfold bareN withN
  have := sumBits_lt (fun k => if k = 6 then false else (sumBits (fun k => if k = 5 then false else n.testBit k) 64).testBit k) 64
  omega
theorem bareN_eqv {n m : Nat} (hn : n ≤ 18446744073709551615) (hm : m ≤ 18446744073709551615) : bareN n = bareN m ↔ eqv (n : Int) (m : Int) := by
  constructor
  · intro h
    have ht : ∀ k, k ≠ 5 → k ≠ 6 → n.testBit k = m.testBit k := fun k h5 h6 => by
      by_cases hk : k < 64
      · have := congrArg (Nat.testBit · k) h
        simp only [bareN_test] at this
        simpa [h5, h6, hk] using this
      · have e : ∀ z : Nat, z ≤ 18446744073709551615 → z.testBit k = false := fun z hz => Nat.testBit_lt_two_pow (Nat.lt_of_lt_of_le (by omega : z < 2 ^ 64) (Nat.pow_le_pow_right (by omega) (by omega)))
        rw [e n hn, e m hm]
    have h1 : n / 128 = m / 128 := by
      apply Nat.eq_of_testBit_eq
      intro i
      rw [show (128 : Nat) = 2 ^ 7 from rfl, Nat.testBit_div_two_pow, Nat.testBit_div_two_pow]
      exact ht _ (by omega) (by omega)
    have h2 : n % 32 = m % 32 := by
      apply Nat.eq_of_testBit_eq
      intro i
      rw [show (32 : Nat) = 2 ^ 5 from rfl, Nat.testBit_mod_two_pow, Nat.testBit_mod_two_pow]
      by_cases hi : i < 5
      · rw [ht i (by omega) (by omega)]
      · simp [hi]
    unfold eqv; omega
  · intro h
    apply Nat.eq_of_testBit_eq
    intro k
    rw [bareN_test, bareN_test]
    by_cases h56 : k = 5 ∨ k = 6
    · rcases h56 with rfl | rfl <;> simp
    · rw [eqv_test h k (by omega)]
def bareI (x : Int) : Int := (bareN x.toNat : Int)
theorem bareI_ne {x y : Int} (h0 : 0 ≤ x) (h1 : x ≤ 18446744073709551615) (k0 : 0 ≤ y) (k1 : y ≤ 18446744073709551615) : (bareI x != bareI y) = !(orD x == orD y) := by
  have e : bareI x = bareI y ↔ orD x = orD y := by
    unfold bareI
    rw [Int.ofNat_inj, bareN_eqv (by omega) (by omega), eqv_or, Int.toNat_of_nonneg h0, Int.toNat_of_nonneg k0]
  by_cases hx : orD x = orD y
  · have h9 := e.2 hx
    rw [h9, hx]; simp
  · have : bareI x ≠ bareI y := fun h => hx (e.1 h)
    rw [(bne_iff_ne).2 this, (beq_eq_false_iff_ne).2 hx]; rfl
end Go.Proofs.Ytkfonacokamfiaa
