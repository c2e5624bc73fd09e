/- Joined texts, part 3 of what the law stands on: each as its own head says. -/
import Derived.Test.YtakkjpdolkokfaaPln2
import Derived.DeepKeys3
import Derived.ChangeMaps5
/- Memories: maps from pages' numbers to pages; what a memory is; may, aligned, at, Bits, Peek, New. -/
namespace Go.Proofs.Ytakkjpdolkokfaa
set_option linter.unusedVariables false
set_option linter.unusedSimpArgs false
open Go.RowKit
attribute [local go_sem] wext_cell wext_frozen wext_heap alloc_cell alloc_frozen alloc_heap setCell_cell objCell_cells objFrozen_cells

/-- The entries of a map of pages, in turn. -/
def EntP (es : Array MapEntry) (clock : Nat) (PL : List (Int × Nat)) : Prop := ((∀ e ∈ es.toList, e.born < clock) ∧ (es.toList.map (·.born)).Nodup) ∧ es.toList.map (fun e => (e.key, e.val)) = PL.map fun x => (.int .u64 x.1, .pointer (some ⟨x.2, 0, none⟩))
def findI (n : Int) : List (Int × Nat) → Nat → Option (Nat × Nat)
  | [], _ => none
  | x :: L, i => if n = x.1 then some (i, x.2) else findI n L (i + 1)
def findP (n : Int) (PL : List (Int × Nat)) : Option Nat := (findI n PL 0).map (·.2)
theorem findNowP (n : Int) : ∀ (l : List MapEntry) (PL : List (Int × Nat)) (i : Nat), l.map (fun e => (e.key, e.val)) = PL.map (fun x => (Value.int .u64 x.1, Value.pointer (some ⟨x.2, 0, none⟩))) →
    Instr.findNow (.int .u64) (.int .u64 n) l i = some ((findI n PL i).map fun x => (x.1, .pointer (some ⟨x.2, 0, none⟩)))
  | [], [], i, _ => rfl
  | [], x :: L, i, h => by cases h
  | e :: l, [], i, h => by cases h
  | e :: l, x :: L, i, h => by
    simp only [List.map_cons, List.cons.injEq, Prod.mk.injEq] at h
    unfold Instr.findNow findI
    rw [h.1.1]
    simp only [Instr.sameNow, if_true]
    by_cases hk : n = x.1
    · simp [hk, h.1.2]
    · have : (n == x.1) = false := by simpa using hk
      rw [this, if_neg hk]
      exact findNowP n l L (i + 1) h.2
theorem findKeyP (n : Int) (w : World) (es : Array MapEntry) (clock : Nat) (PL : List (Int × Nat)) (h : EntP es clock PL) :
    (Instr.findKey 34 (.int .u64 n) es.toList).run Try.prog w = .ok ((findI n PL 0).map fun x => (x.1, .pointer (some ⟨x.2, 0, none⟩))) w := by
  unfold Instr.findKey
  rw [Sem.run_bind, run_underlying Try.underlying34]
  simp only [Result.andThen_ok, findNowP n es.toList PL 0 h.2]
  rfl
theorem checkP_at (e : Bool) (n : Int) (w : World) (d : Nat) : (Instr.checkKey e (d + 1) 34 (.int .u64 n)).run Try.prog w = .ok () w := by
  simp [Instr.checkKey, go_sem]
theorem checkP (e : Bool) (n : Int) (w : World) : (Instr.checkKey e 10000 34 (.int .u64 n)).run Try.prog w = .ok () w := checkP_at e n w 9999
theorem lookupP_run (n : Int) (w : World) (pb : Nat) (es : Array MapEntry) (clock : Nat) (PL : List (Int × Nat)) (hb : w.heap[pb]? = some (.map es clock)) (h : EntP es clock PL) :
    (Instr.lookup 142 (.map (some pb)) (.int .u64 n) false).run Try.prog w = .ok (match findP n PL with | some g => .pointer (some ⟨g, 0, none⟩) | none => .pointer none) w := by
  unfold Instr.lookup
  rw [Sem.run_bind, run_underlying Try.underlying142]
  simp only [Result.andThen_ok, Sem.run_bind, getObj_at hb, Sem.run_pure, checkP, findKeyP n w es clock PL h]
  unfold findP
  cases hl : findI n PL 0 with
  | none => simp [go_sem]
  | some x => simp
theorem updateP_run (n : Int) (g : Nat) (w : World) (pb : Nat) (es : Array MapEntry) (clock : Nat) (PL : List (Int × Nat)) (hb : w.heap[pb]? = some (.map es clock)) (h : EntP es clock PL) (hn : findP n PL = none) :
    ∃ es' c', (Instr.mapUpdate 142 (.map (some pb)) (.int .u64 n) (.pointer (some ⟨g, 0, none⟩))).run Try.prog w = .ok () (putBlk w pb (.map es' c')) ∧ EntP es' c' (PL ++ [(n, g)]) := by
  unfold Instr.mapUpdate
  rw [Sem.run_bind, run_underlying Try.underlying142]
  simp only [Result.andThen_ok, Sem.run_bind, getObj_at hb, Sem.run_pure, checkP, findKeyP n w es clock PL h]
  unfold findP at hn
  cases hl : findI n PL 0 with
  | some x => rw [hl] at hn; cases hn
  | none =>
    refine ⟨_, _, setObj_at _ hb, ?_⟩
    obtain ⟨⟨h1, h2⟩, h3⟩ := h
    refine ⟨⟨fun e he => ?_, ?_⟩, by simp [h3]⟩
    · simp only [Array.toList_push, List.mem_append, List.mem_singleton] at he
      rcases he with he | rfl
      · have := h1 e he; omega
      · exact Nat.lt_succ_self _
    · simp only [Array.toList_push, List.map_append, List.map_cons, List.map_nil]
      rw [List.nodup_append]
      refine ⟨h2, by simp, fun a ha b hb => ?_⟩
      obtain ⟨e, he, rfl⟩ := List.mem_map.1 ha
      simp only [List.mem_singleton] at hb
      have := h1 e he
      omega

def PageAt (w : World) (g : Nat) (n : Int) (M : Int → Int) : Prop := ∃ c, w.heap[g]? = some (.cells c 148 (0, 0)) ∧ c.size = 512 ∧ ∀ i : Nat, i < 512 → c[i]? = some (.int .u64 (M (n * 512 + i)))
/-- A memory of so many bits, its blocks, its words by the slots' numbers, its trace. -/
def MemAt (w : World) (mb : Nat) (F : List Nat) (B : Int) (M : Int → Int) (T : List Int) : Prop :=
  ∃ pb tv es clock PL, w.heap[mb]? = some (.cells #[.int .i64 B, .map (some pb), tv] 144 (0, 0)) ∧ w.heap[pb]? = some (.map es clock) ∧ EntP es clock PL ∧ (PL.map (·.1)).Nodup ∧ (PL.map (·.2)).Nodup ∧
    (∀ x ∈ PL, PageAt w x.2 x.1 M) ∧ (∀ s, findP (s / 512) PL = none → M s = 0) ∧ (∀ s, 0 ≤ M s ∧ M s ≤ 18446744073709551615) ∧
    Owns w 34 1 tv T.length (T.map (.int .u64 ·)) ∧ F = mb :: pb :: (tv.ownBlock.toList ++ PL.map (·.2)) ∧ (14 ≤ B ∧ B ≤ 22)
theorem MemAt.lt {w : World} {mb : Nat} {F : List Nat} {B : Int} {M : Int → Int} {T : List Int} (h : MemAt w mb F B M T) : ∀ x ∈ F, x < w.heap.size := by
  obtain ⟨pb, tv, es, clock, PL, h1, h2, h3, h4, h5, h6, h7, h8, h9, rfl, h10⟩ := h
  intro x hx
  simp only [List.mem_cons, List.mem_append, Option.mem_toList, List.mem_map] at hx
  rcases hx with rfl | rfl | hx | ⟨y, hy, rfl⟩
  · exact heap_lt h1
  · exact heap_lt h2
  · exact h9.lt x hx
  · obtain ⟨c, hc, _⟩ := h6 y hy; exact heap_lt hc
theorem MemAt.keeps {w w' : World} {mb : Nat} {F G : List Nat} {B : Int} {M : Int → Int} {T : List Int} (h : MemAt w mb F B M T) (k : Keeps G w w') (hd : ∀ x ∈ F, x ∉ G) : MemAt w' mb F B M T := by
  have hlt := h.lt
  have hk : ∀ b ∈ F, w'.heap[b]? = w.heap[b]? := fun b hb => k.block b (hlt b hb) (hd b hb)
  obtain ⟨pb, tv, es, clock, PL, h1, h2, h3, h4, h5, h6, h7, h8, h9, hF, h10⟩ := h
  refine ⟨pb, tv, es, clock, PL, (hk _ (by rw [hF]; simp)).trans h1, (hk _ (by rw [hF]; simp)).trans h2, h3, h4, h5, fun x hx => ?_, h7, h8, h9.keep fun g hg => hk g (by rw [hF]; simp [hg]), hF, h10⟩
  obtain ⟨c, q1, q2, q3⟩ := h6 x hx
  exact ⟨c, (hk _ (by rw [hF]; simp only [List.mem_cons, List.mem_append, List.mem_map]; exact .inr (.inr (.inr ⟨x, hx, rfl⟩)))).trans q1, q2, q3⟩
theorem MemAt.ext {w w' : World} {mb : Nat} {F : List Nat} {B : Int} {M : Int → Int} {T : List Int} (h : MemAt w mb F B M T) (k : Ext w w') : MemAt w' mb F B M T :=
  h.keeps (G := []) (Keeps.of_ext k) (fun _ _ => by simp)

theorem findI_mem {n : Int} : ∀ {L : List (Int × Nat)} {i j g : Nat}, findI n L i = some (j, g) → (n, g) ∈ L
  | [], _, _, _, h => by cases h
  | x :: L, i, j, g, h => by
    unfold findI at h
    split at h
    · rename_i hn
      cases h
      rw [hn]; exact List.mem_cons_self ..
    · exact List.mem_cons_of_mem _ (findI_mem h)
theorem findP_mem {n : Int} {L : List (Int × Nat)} {g : Nat} (h : findP n L = some g) : (n, g) ∈ L := by
  unfold findP at h
  cases hl : findI n L 0 with
  | none => rw [hl] at h; cases h
  | some x => rw [hl] at h; cases h; exact findI_mem hl

set_option maxHeartbeats 1000000 in
set_option maxRecDepth 20000 in
theorem mat_c (mb : Nat) (F : List Nat) (B : Int) (M : Int → Int) (T : List Int) (a : Int) (w : World) (h : MemAt w mb F B M T) (h0 : 0 ≤ a) (h1 : a ≤ 4194303) :
    Calls Try.prog 62 #[.pointer (some ⟨mb, 0, none⟩), .int .u64 a] w fun e w' => e = .returned (.int .u64 (M (a / 8))) ∧ Ext w w' := by
  obtain ⟨pb, tv, es, clock, PL, p1, p2, p3, -, -, p6, p7, -, -, -, -⟩ := h
  have c1 := (heap_cell p1 1).trans rfl
  have hlt := heap_lt p1
  have hlk := lookupP_run (a / 4096) w pb es clock PL p2 p3
  cases hf : findP (a / 4096) PL with
  | none =>
    have hz : M (a / 8) = 0 := p7 (a / 8) (by rw [show a / 8 / 512 = a / 4096 by omega]; exact hf)
    rw [hf] at hlk
    rw [hz]
    dsimp only at hlk
    clear p1 p2 p3 p6 p7
    go_enter Try.func62, Try.ntmps62
    go_wp2
    all_goals
      go_ret
      exact ⟨rfl, (by repeat (first | exact Ext.refl _ | assumption | refine Ext.alloc ?_ _ | refine Ext.drew ?_ | refine Ext.setCell ?_ (by first | (simp; done) | (dsimp only; omega)) _ | refine Ext.trans ?_ (by assumption)))⟩
  | some g =>
    obtain ⟨c, q1, q2, q3⟩ := p6 _ (findP_mem hf)
    rw [hf] at hlk
    dsimp only at hlk q3
    have hcell : w.cell? ⟨g, (a % 4096 / 8).toNat, none⟩ = some (.int .u64 (M (a / 8))) := by
      rw [heap_cell q1, q3 _ (by omega)]
      congr 3; omega
    have hgl := heap_lt q1
    clear p1 p2 p3 p6 p7 q1 q2 q3
    go_enter Try.func62, Try.ntmps62
    go_wp2
    all_goals
      go_ret
      exact ⟨rfl, (by repeat (first | exact Ext.refl _ | assumption | refine Ext.alloc ?_ _ | refine Ext.drew ?_ | refine Ext.setCell ?_ (by first | (simp; done) | (dsimp only; omega)) _ | refine Ext.trans ?_ (by assumption)))⟩
end Go.Proofs.Ytakkjpdolkokfaa
/- Memories: may, aligned, Bits, Peek. -/
namespace Go.Proofs.Ytakkjpdolkokfaa
set_option linter.unusedVariables false
set_option linter.unusedSimpArgs false
open Go.RowKit
attribute [local go_sem] wext_cell wext_frozen wext_heap alloc_cell alloc_frozen alloc_heap setCell_cell objCell_cells objFrozen_cells

def limB (B : Int) : Int := if B = 14 then 16384 else if B = 15 then 32768 else if B = 16 then 65536 else if B = 17 then 131072 else if B = 18 then 262144 else if B = 19 then 524288 else if B = 20 then 1048576 else if B = 21 then 2097152 else 4194304
theorem limB_le (B : Int) : limB B ≤ 4194304 := by unfold limB; repeat (split; omega); omega
def errM (B a : Int) : Int := if a < limB B then (if a % 8 = 0 then 0 else 3) else 2
theorem B_cases {B : Int} (h : 14 ≤ B ∧ B ≤ 22) : B = 14 ∨ B = 15 ∨ B = 16 ∨ B = 17 ∨ B = 18 ∨ B = 19 ∨ B = 20 ∨ B = 21 ∨ B = 22 := by omega

theorem MemAt.head {w : World} {mb : Nat} {F : List Nat} {B : Int} {M : Int → Int} {T : List Int} (h : MemAt w mb F B M T) : w.cell? ⟨mb, 0, none⟩ = some (.int .i64 B) ∧ mb < w.heap.size ∧ 14 ≤ B ∧ B ≤ 22 := by
  obtain ⟨pb, tv, es, clock, PL, p1, -, -, -, -, -, -, -, -, -, p⟩ := h
  exact ⟨(heap_cell p1 0).trans rfl, heap_lt p1, p⟩
set_option maxHeartbeats 2000000 in
theorem may_c (mb : Nat) (F : List Nat) (B : Int) (M : Int → Int) (T : List Int) (a : Int) (w : World) (h : MemAt w mb F B M T) (h0 : 0 ≤ a) (h1 : a ≤ 18446744073709551615) :
    Calls Try.prog 94 #[.pointer (some ⟨mb, 0, none⟩), .int .u64 a] w fun e w' => e = .returned (.int .i64 (if a < limB B then 0 else 2)) ∧ Ext w w' := by
  obtain ⟨c0, hlt, hB⟩ := h.head
  clear h
  rcases B_cases hB with rfl | rfl | rfl | rfl | rfl | rfl | rfl | rfl | rfl
  all_goals
    simp only [limB, reduceIte, Int.reduceEq]
    clear hB
    split
    · go_enter Try.func94, Try.ntmps94
      go_wp2
      all_goals
        go_ret
        exact ⟨rfl, (by repeat (first | exact Ext.refl _ | assumption | refine Ext.alloc ?_ _ | refine Ext.drew ?_ | refine Ext.setCell ?_ (by first | (simp; done) | (dsimp only; omega)) _ | refine Ext.trans ?_ (by assumption)))⟩
    · go_enter Try.func94, Try.ntmps94
      go_wp2
      all_goals
        go_ret
        exact ⟨rfl, (by repeat (first | exact Ext.refl _ | assumption | refine Ext.alloc ?_ _ | refine Ext.drew ?_ | refine Ext.setCell ?_ (by first | (simp; done) | (dsimp only; omega)) _ | refine Ext.trans ?_ (by assumption)))⟩
theorem aligned_c (mb : Nat) (F : List Nat) (B : Int) (M : Int → Int) (T : List Int) (a : Int) (w : World) (h : MemAt w mb F B M T) (h0 : 0 ≤ a) (h1 : a ≤ 18446744073709551615) :
    Calls Try.prog 61 #[.pointer (some ⟨mb, 0, none⟩), .int .u64 a] w fun e w' => e = .returned (.int .i64 (errM B a)) ∧ Ext w w' := by
  have hm := fun w' (hx : Ext w w') => may_c mb F B M T a w' (h.ext hx) h0 h1
  clear h
  unfold errM
  by_cases ha : a < limB B
  · rw [if_pos ha]
    simp only [if_pos ha] at hm
    clear ha
    by_cases h8 : a % 8 = 0
    · rw [if_pos h8]
      have h8b : (a % 8 != 0) = false := by simpa using h8
      go_enter Try.func61, Try.ntmps61
      go_wp2_with (first | (go_at_call 94; refine (hm _ (by repeat (first | exact Ext.refl _ | assumption | refine Ext.alloc ?_ _ | refine Ext.drew ?_ | refine Ext.setCell ?_ (by first | (simp; done) | (dsimp only; omega)) _ | refine Ext.trans ?_ (by assumption)))).mono ?_; rintro e w1 ⟨rfl, hb1⟩))
      all_goals
        go_ret
        exact ⟨rfl, (by repeat (first | exact Ext.refl _ | assumption | refine Ext.alloc ?_ _ | refine Ext.drew ?_ | refine Ext.setCell ?_ (by first | (simp; done) | (dsimp only; omega)) _ | refine Ext.trans ?_ (by assumption)))⟩
    · rw [if_neg h8]
      have h8b : (a % 8 != 0) = true := by simpa using h8
      go_enter Try.func61, Try.ntmps61
      go_wp2_with (first | (go_at_call 94; refine (hm _ (by repeat (first | exact Ext.refl _ | assumption | refine Ext.alloc ?_ _ | refine Ext.drew ?_ | refine Ext.setCell ?_ (by first | (simp; done) | (dsimp only; omega)) _ | refine Ext.trans ?_ (by assumption)))).mono ?_; rintro e w1 ⟨rfl, hb1⟩))
      all_goals
        go_ret
        exact ⟨rfl, (by repeat (first | exact Ext.refl _ | assumption | refine Ext.alloc ?_ _ | refine Ext.drew ?_ | refine Ext.setCell ?_ (by first | (simp; done) | (dsimp only; omega)) _ | refine Ext.trans ?_ (by assumption)))⟩
  · rw [if_neg ha]
    simp only [if_neg ha] at hm
    clear ha
    go_enter Try.func61, Try.ntmps61
    go_wp2_with (first | (go_at_call 94; refine (hm _ (by repeat (first | exact Ext.refl _ | assumption | refine Ext.alloc ?_ _ | refine Ext.drew ?_ | refine Ext.setCell ?_ (by first | (simp; done) | (dsimp only; omega)) _ | refine Ext.trans ?_ (by assumption)))).mono ?_; rintro e w1 ⟨rfl, hb1⟩))
    all_goals
      go_ret
      exact ⟨rfl, (by repeat (first | exact Ext.refl _ | assumption | refine Ext.alloc ?_ _ | refine Ext.drew ?_ | refine Ext.setCell ?_ (by first | (simp; done) | (dsimp only; omega)) _ | refine Ext.trans ?_ (by assumption)))⟩
theorem bits_c (mb : Nat) (F : List Nat) (B : Int) (M : Int → Int) (T : List Int) (w : World) (h : MemAt w mb F B M T) :
    Calls Try.prog 71 #[.pointer (some ⟨mb, 0, none⟩)] w fun e w' => e = .returned (.int .i64 B) ∧ Ext w w' := by
  obtain ⟨c0, hlt, hB⟩ := h.head
  clear h
  go_enter Try.func71, Try.ntmps71
  go_wp2
  all_goals
    go_ret
    exact ⟨rfl, (by repeat (first | exact Ext.refl _ | assumption | refine Ext.alloc ?_ _ | refine Ext.drew ?_ | refine Ext.setCell ?_ (by first | (simp; done) | (dsimp only; omega)) _ | refine Ext.trans ?_ (by assumption)))⟩
theorem peek_c (mb : Nat) (F : List Nat) (B : Int) (M : Int → Int) (T : List Int) (a : Int) (w : World) (h : MemAt w mb F B M T) (h0 : 0 ≤ a) (h1 : a ≤ 18446744073709551615) :
    Calls Try.prog 28 #[.pointer (some ⟨mb, 0, none⟩), .int .u64 a] w fun e w' => e = .returned (.tuple #[.int .u64 (if errM B a = 0 then M (a / 8) else 0), .int .i64 (errM B a)]) ∧ Ext w w' := by
  have hal := fun w' (hx : Ext w w') => aligned_c mb F B M T a w' (h.ext hx) h0 h1
  by_cases he : errM B a = 0
  · have ha : a ≤ 4194303 := by
      unfold errM at he
      by_cases hq : a < limB B
      · have := limB_le B; omega
      · rw [if_neg hq] at he; omega
    have hat := fun w' (hx : Ext w w') => mat_c mb F B M T a w' (h.ext hx) h0 ha
    rw [if_pos he, he]
    rw [he] at hal
    generalize M (a / 8) = y at hat
    clear h he ha
    go_enter Try.func28, Try.ntmps28
    go_wp2_with (first | (go_at_call 61; refine (hal _ (by repeat (first | exact Ext.refl _ | assumption | refine Ext.alloc ?_ _ | refine Ext.drew ?_ | refine Ext.setCell ?_ (by first | (simp; done) | (dsimp only; omega)) _ | refine Ext.trans ?_ (by assumption)))).mono ?_; rintro e w1 ⟨rfl, hb1⟩) | (go_at_call 62; refine (hat _ (by repeat (first | exact Ext.refl _ | assumption | refine Ext.alloc ?_ _ | refine Ext.drew ?_ | refine Ext.setCell ?_ (by first | (simp; done) | (dsimp only; omega)) _ | refine Ext.trans ?_ (by assumption)))).mono ?_; rintro e w2 ⟨rfl, hb2⟩))
    all_goals
      go_ret2
      exact ⟨rfl, (by repeat (first | exact Ext.refl _ | assumption | refine Ext.alloc ?_ _ | refine Ext.drew ?_ | refine Ext.setCell ?_ (by first | (simp; done) | (dsimp only; omega)) _ | refine Ext.trans ?_ (by assumption)))⟩
  · rw [if_neg he]
    generalize errM B a = er at hal he
    have heb : (er != 0) = true := by simpa using he
    clear h
    go_enter Try.func28, Try.ntmps28
    go_wp2_with (first | (go_at_call 61; refine (hal _ (by repeat (first | exact Ext.refl _ | assumption | refine Ext.alloc ?_ _ | refine Ext.drew ?_ | refine Ext.setCell ?_ (by first | (simp; done) | (dsimp only; omega)) _ | refine Ext.trans ?_ (by assumption)))).mono ?_; rintro e w1 ⟨rfl, hb1⟩))
    all_goals
      go_ret2
      exact ⟨rfl, (by repeat (first | exact Ext.refl _ | assumption | refine Ext.alloc ?_ _ | refine Ext.drew ?_ | refine Ext.setCell ?_ (by first | (simp; done) | (dsimp only; omega)) _ | refine Ext.trans ?_ (by assumption)))⟩
end Go.Proofs.Ytakkjpdolkokfaa
