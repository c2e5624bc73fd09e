/- Diff: where two memories' slots differ. -/
import Derived.Test.YtkoohedbbdgjjaaRCopy
import Derived.ChangeKeysEq
namespace Go.Proofs.YtkoohedbbdgjjaaR
set_option linter.unusedVariables false
set_option linter.unusedSimpArgs false
open Go.RowKit
attribute [local go_sem] wext_cell wext_frozen wext_heap alloc_cell alloc_frozen alloc_heap setCell_cell objCell_cells objFrozen_cells

/-- A page's cells. -/
def PageC (c : Array Value) (M : Int → Int) (n : Int) : Prop := c.size = 512 ∧ ∀ i : Nat, i < 512 → c[i]? = some (.int .u64 (M (n * 512 + i)))
def EndPage (M : Int → Int) (n : Int) (w : World) (e : Ending) (w' : World) : Prop := ∃ c, e = .returned (.agg c) ∧ PageC c M n ∧ Ext w w'
theorem pageC_one {c : Array Value} {M : Int → Int} {n : Int} (h : PageC c M n) : c.all (·.oneCell') = true := by
  rw [Array.all_eq_true]
  intro i hi
  have := h.2 i (by have := h.1; omega)
  rw [Array.getElem?_eq_getElem hi] at this
  injection this with this
  rw [this]; rfl
theorem setRow_ext {w U : World} (h : Ext w U) {g : Nat} (hg : w.heap.size ≤ g) (c : Array Value) : Ext w (U.setRow g c) := by
  refine ⟨?_, ?_, ?_, ?_, fun b hb => (setRow_other _ _ _ _ (by omega)).trans (h.block b hb)⟩
  · exact h.os
  · exact h.tape
  · exact h.output
  · have : (U.setRow g c).heap.size = U.heap.size := by simp [World.setRow]
    rw [this]; exact h.size
set_option maxHeartbeats 1000000 in
set_option maxRecDepth 20000 in
theorem page_c (mb : Nat) (F : List Nat) (B : Int) (M : Int → Int) (T : List Int) (n : Int) (w : World) (h : MemAt w mb F B M T) (h0 : 0 ≤ n) (h1 : n ≤ 1023) :
    Calls Try.prog 92 #[.pointer (some ⟨mb, 0, none⟩), .int .u64 n] w (EndPage M n w) := by
  obtain ⟨pb, tv, es, clock, PL, p1, p2, p3, -, -, p6, p7, -, -, -, -⟩ := h
  have c1 := (heap_cell p1 1).trans rfl
  have hlt := heap_lt p1
  have hlp := heap_lt p2
  have hlk := lookupP_run n (w.alloc (.cells Try.zeroCells168 168 (0, 0))) pb es clock PL ((alloc_other _ _ hlp).trans p2) p3
  generalize hE : EndPage M n w = E
  have HE := Lib.hid hE
  clear hE
  cases hf : findP n PL with
  | none =>
    have hz : PageC Try.zeroCells168 M n := ⟨zeros.1, fun i hi => by rw [zeros.2 i hi, p7 (n * 512 + i) (by rw [show (n * 512 + (i : Int)) / 512 = n by omega]; exact hf)]⟩
    have hbd : ∀ w, (Instr.build 168 #[]).run Try.prog w = .ok (.agg Try.zeroCells168) w := fun _ => run_build _ _ _ _ (by kernel_rfl)
    have HZ := Lib.hid hz
    rw [hf] at hlk
    dsimp only at hlk
    clear p1 p2 p3 p6 p7 hz
    go_enter Try.func92, Try.ntmps92
    go_wp2_with (first | (refine wpList_store_row rfl 168 _ _ rfl w.heap.size Try.zeroCells168 rfl rfl _ _ (alloc_same ..) (by kernel_rfl) rfl (pageC_one HZ.out) ?_))
    refine bodyPost_ret (v := .agg Try.zeroCells168) (results_cell_row rfl _ _ w.heap.size 168 Try.zeroCells168 (0, 0) _ rfl (setRow_heap _ _ _ _ _ _ (alloc_same ..)) Try.underlying168 rfl (by kernel_rfl)) rfl ?_
    rw [← HE.out]
    exact ⟨_, rfl, HZ.out, setRow_ext ((Ext.refl w).alloc _) (Nat.le_refl _) _⟩
  | some g =>
    obtain ⟨c, q1, q2, q3⟩ := p6 _ (findP_mem hf)
    rw [hf] at hlk
    dsimp only at hlk q3 q1
    have hz : PageC c M n := ⟨q2, q3⟩
    have hq1 := (alloc_other w (.cells Try.zeroCells168 168 (0, 0)) (heap_lt q1)).trans q1
    have hi512 : (Try.prog.info? 168).map (·.size) = some c.size := by rw [q2]; kernel_rfl
    have HZ := Lib.hid hz
    have HQ := Lib.hid hq1
    have HI := Lib.hid hi512
    clear p1 p2 p3 p6 p7 q1 q2 q3 hz hq1 hi512
    go_enter Try.func92, Try.ntmps92
    go_wp2_with (first | (refine wpList_load_row rfl 168 _ rfl g rfl _ c (0, 0) _ HQ.out Try.underlying168 rfl HI.out ?_) | (refine wpList_store_row rfl 168 _ _ rfl w.heap.size c rfl rfl _ _ (alloc_same ..) HI.out (by rw [HZ.out.1]; exact zeros.1) (pageC_one HZ.out) ?_))
    refine bodyPost_ret (v := .agg c) (results_cell_row rfl _ _ w.heap.size 168 c (0, 0) _ rfl (setRow_heap _ _ _ _ _ _ (alloc_same ..)) Try.underlying168 rfl HI.out) rfl ?_
    rw [← HE.out]
    exact ⟨_, rfl, HZ.out, setRow_ext ((Ext.refl w).alloc _) (Nat.le_refl _) _⟩

section
variable {P : Program}
theorem eqItems_ints {e : TypeId} (he : P.underlying e = some (.int .u64)) (hp : P.plainKey e = true) (hc : P.cellsOf e = 1) (d : Nat) (xs ys : Array Value) (f g : Nat → Int) (w : World) :
    ∀ is : List Nat, (∀ i ∈ is, xs[i]? = some (.int .u64 (f i)) ∧ ys[i]? = some (.int .u64 (g i))) → (Op.eqItems (d + 1) e (P.cellsOf e) xs ys is).run P w = .ok (is.all fun i => f i == g i) w
  | [], _ => by simp [Op.eqItems]
  | i :: is, h => by
    have ⟨h1, h2⟩ := h i (List.mem_cons_self ..)
    have ih := eqItems_ints he hp hc d xs ys f g w is fun j hj => h j (List.mem_cons_of_mem _ hj)
    rw [hc] at ih ⊢
    have hr : (Op.equalIn (d + 1) e (.int .u64 (f i)) (.int .u64 (g i))).run P w = .ok (f i == g i) w := by
      simp only [Op.equalIn, Sem.run_bind, run_underlying he, Result.andThen_ok]
      simp
    simp only [Op.eqItems, Sem.run_bind, Nat.mul_one, run_part_plain w hp h1, run_part_plain w hp h2, Result.andThen_ok, hr]
    cases hb : f i == g i
    · simp [hb]
    · simp only [Bool.not_true, Bool.false_eq_true, if_false, ih, List.all_cons, hb, Bool.true_and]
end
def pageB (M1 M2 : Int → Int) (n : Int) : Bool := (List.range 512).all fun i => M1 (n * 512 + i) == M2 (n * 512 + i)
theorem page_eql {c1 c2 : Array Value} {M1 M2 : Int → Int} {n : Int} (h1 : PageC c1 M1 n) (h2 : PageC c2 M2 n) (w : World) : (binOp .eql 168 (.agg c1) (.agg c2)).run Try.prog w = .ok (.bool (pageB M1 M2 n)) w := by
  rw [run_eql_struct]
  obtain ⟨i, hi⟩ : ∃ i, Try.prog.info? 27 = some i := by
    cases hh : Try.prog.info? 27 with
    | some i => exact ⟨i, rfl⟩
    | none => exact absurd hh (by have : (Try.prog.info? 27).isSome = true := by kernel_rfl
                                  intro e; rw [e] at this; cases this)
  rw [show (10000 : Nat) = 9998 + 1 + 1 from rfl, run_equalIn_array w (9998 + 1) c1 c2 Try.underlying168 hi,
    eqItems_ints (P := Try.prog) Try.underlying27 (by kernel_rfl) (by kernel_rfl) 9998 c1 c2 (fun i => M1 (n * 512 + i)) (fun i => M2 (n * 512 + i)) w (List.range 512) (fun i hi => ⟨h1.2 i (by simpa using hi), h2.2 i (by simpa using hi)⟩)]
  rfl

/-- Where the slots of a page differ, up to a place; where those of the pages do, up to a page. -/
def dIn (M1 M2 : Int → Int) (n : Int) (k : Nat) : List Int := ((List.range k).filter fun i : Nat => M1 (n * 512 + i) != M2 (n * 512 + i)).map fun i : Nat => n * 4096 + (i : Int) * 8
def dOut (M1 M2 : Int → Int) (n : Nat) : List Int := (List.range n).flatMap fun i : Nat => dIn M1 M2 i 512
theorem dIn_succ (M1 M2 : Int → Int) (n : Int) (k : Nat) : dIn M1 M2 n (k + 1) = if (M1 (n * 512 + k) != M2 (n * 512 + k)) = true then dIn M1 M2 n k ++ [n * 4096 + (k : Int) * 8] else dIn M1 M2 n k := by
  unfold dIn
  rw [List.range_succ, List.filter_append, List.map_append]
  split
  · rename_i h; simp [h]
  · rename_i h; simp [h]
theorem dOut_succ (M1 M2 : Int → Int) (n : Nat) : dOut M1 M2 (n + 1) = dOut M1 M2 n ++ dIn M1 M2 n 512 := by
  unfold dOut
  rw [List.range_succ, List.flatMap_append]; simp
theorem dIn_length (M1 M2 : Int → Int) (n : Int) (k : Nat) : (dIn M1 M2 n k).length ≤ k := by
  unfold dIn
  rw [List.length_map]
  exact Nat.le_trans (List.length_filter_le ..) (by simp)
theorem dOut_length (M1 M2 : Int → Int) (n : Nat) : (dOut M1 M2 n).length ≤ 512 * n := by
  induction n with
  | zero => simp [dOut]
  | succ n ih => rw [dOut_succ, List.length_append]; have := dIn_length M1 M2 n 512; omega
theorem dIn_none {M1 M2 : Int → Int} {n : Int} (h : pageB M1 M2 n = true) : dIn M1 M2 n 512 = [] := by
  unfold dIn
  rw [List.filter_eq_nil_iff.2, List.map_nil]
  intro i hi
  have := List.all_eq_true.1 h i hi
  simpa [bne] using this
theorem mem_dOut {M1 M2 : Int → Int} {N : Nat} {a : Int} (h : a ∈ dOut M1 M2 N) : 0 ≤ a ∧ a < N * 4096 ∧ a % 8 = 0 ∧ M1 (a / 8) ≠ M2 (a / 8) := by
  unfold dOut dIn at h
  obtain ⟨n, hn, h⟩ := List.mem_flatMap.1 h
  obtain ⟨i, hi, rfl⟩ := List.mem_map.1 h
  obtain ⟨h1, h2⟩ := List.mem_filter.1 hi
  have hn' : n < N := by simpa using hn
  have hi' : i < 512 := by simpa using h1
  have e : ((n : Int) * 4096 + (i : Int) * 8) / 8 = (n : Int) * 512 + i := by omega
  rw [e]
  refine ⟨by omega, by omega, by omega, by simpa using h2⟩
theorem dOut_nil {M1 M2 : Int → Int} {N : Nat} (h : ∀ s, M1 s = M2 s) : dOut M1 M2 N = [] := by
  unfold dOut dIn
  rw [List.flatMap_eq_nil_iff]
  intro n _
  rw [List.filter_eq_nil_iff.2, List.map_nil]
  intro i _
  simp [h]
end Go.Proofs.YtkoohedbbdgjjaaR
