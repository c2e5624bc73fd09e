/- Joined texts, part 19 of what the law stands on: each as its own head says. -/
import Derived.Test.YtkfonacokamfiaaPly14
import Derived.Test.YtkfonacokamfiaaPly13
import Derived.Test.YtkfonacokamfiaaPly18
/- What was loaded: a copy of it; where a walk begins. -/
namespace Go.Proofs.Ytkfonacokamfiaa
set_option linter.unusedVariables false
set_option linter.unusedSimpArgs false
open Go.RowKit
attribute [local go_sem] wext_cell wext_frozen wext_heap alloc_cell alloc_frozen alloc_heap setCell_cell objCell_cells objFrozen_cells

/-- A copy of these words. -/
def EndWords (w : World) (ks : List Int) (e : Ending) (w' : World) : Prop :=
  ∃ v', e = .returned v' ∧ Owns w' 34 1 v' ks.length (ks.map (.int .u64 ·)) ∧ Ext w w' ∧ ∀ g, v'.ownBlock = some g → w.heap.size ≤ g

theorem wTop_c (root : Int) (w : World) (h0 : 0 ≤ root) (h1 : root ≤ 18446744073709551615) :
    Calls Try.prog 13 #[.int .u64 root] w fun e w' => e = .returned (.agg #[.int .i64 4, .int .u64 (tabI root), .bool true, .bool true, .bool true]) ∧ Ext w w' := by
  have HT := Lib.hid (fun w => entTable_c root w h0 h1)
  generalize tabI root = tb at HT
  go_enter Try.func13, Try.ntmps13
  go_wp2_with (first | (go_at_call 37; refine (HT.out _).mono ?_; rintro e w1 ⟨rfl, hb1⟩; have ⟨hc, hf, hh, hs⟩ := hb1.facts; try simp only [World.size_alloc, World.size_setCell, World.size_drew] at hs) | (go_at_call 38; refine (rightAllE_c _).mono ?_; rintro e w2 ⟨rfl, hb2⟩; have ⟨hc, hf, hh, hs2⟩ := hb2.facts; try simp only [World.size_alloc, World.size_setCell, World.size_drew] at hs2))
  have B1 := (hb1.block w.heap.size (by simp)).trans (alloc_same ..)
  have B2 := (hb2.block w.heap.size (heap_lt B1)).trans B1
  have E2 : Ext w w2 := Ext.trans (by repeat (first | exact Ext.refl _ | assumption | refine Ext.alloc ?_ _ | refine Ext.drew ?_ | refine Ext.setCell ?_ (by first | (simp; done) | (dsimp only; omega)) _ | refine Ext.trans ?_ (by assumption))) hb2
  refine post_gen (fun U => U.heap[w.heap.size]? = some (.cells #[.int .i64 4, .int .u64 tb, .bool true, .bool true, .bool true] 41 (0, 0)) ∧ Ext w U) ⟨setCell_heap_same (setCell_heap_same (setCell_heap_same (setCell_heap_same (setCell_heap_same B2)))), Ext.setCell (Ext.setCell (Ext.setCell (Ext.setCell (Ext.setCell E2 (by simp) _) (by simp) _) (by simp) _) (by simp) _) (by simp) _⟩ ?_
  clear hc hf hh hs hs2 hb1 hb2 B1 B2 E2
  rintro U ⟨m5, e5⟩
  have v0 := (heap_cell m5 0).trans rfl
  have v1 := (heap_cell m5 1).trans rfl
  have v2 := (heap_cell m5 2).trans rfl
  have v3 := (heap_cell m5 3).trans rfl
  have v4 := (heap_cell m5 4).trans rfl
  clear m5
  refine bodyPost_ret (by simp [results, Try.results13, go_sem, ↓IntWalk.iteOmega, *]; try rfl) rfl ⟨rfl, e5⟩
end Go.Proofs.Ytkfonacokamfiaa
/- A law's own memory: what its operations leave alone; paths in blocks. -/
namespace Go.Proofs.Ytkfonacokamfiaa
set_option linter.unusedVariables false
set_option linter.unusedSimpArgs false
open Go.RowKit
attribute [local go_sem] wext_cell wext_frozen wext_heap alloc_cell alloc_frozen alloc_heap setCell_cell objCell_cells objFrozen_cells

/-- What came before a base, and what is no memory's, is as it was. -/
def Sep (base : Nat) (U V : World) : Prop :=
  Below base U V ∧ ∀ (b : Nat) (c : Array Value) (e : TypeId), U.heap[b]? = some (.cells c e (0, 0)) → e ≠ 133 → e ≠ 34 → e ≠ 144 → V.heap[b]? = some (.cells c e (0, 0))
theorem Sep.of_ext {base : Nat} {U V : World} (k : Ext U V) (hb : base ≤ U.heap.size) : Sep base U V :=
  ⟨Below.mono k hb, fun b c e h _ _ _ => (k.block b (heap_lt h)).trans h⟩
theorem Sep.size {base : Nat} {U V : World} (h : Sep base U V) : U.heap.size ≤ V.heap.size := Below.size h.1
theorem Sep.trans {base : Nat} {U V W : World} (h : Sep base U V) (k : Sep base V W) : Sep base U W :=
  ⟨Below.trans h.1 k.1, fun b c e hb h1 h2 h3 => k.2 b c e (h.2 b c e hb h1 h2 h3) h1 h2 h3⟩
theorem Sep.ext {base : Nat} {U V W : World} (h : Sep base U V) (k : Ext V W) (hb : base ≤ U.heap.size) : Sep base U W := h.trans (Sep.of_ext k (Nat.le_trans hb h.size))
theorem Sep.to_ext {U V : World} (h : Sep U.heap.size U V) : Ext U V := h.1

/-- A memory all whose blocks lie from a base on. -/
def MemIn (base : Nat) (U : World) (mb : Nat) (B : Int) (M : Int → Int) (T : List Int) : Prop := ∃ F, MemAt U mb F B M T ∧ ∀ x ∈ F, base ≤ x
theorem MemIn.ext {base : Nat} {U V : World} {mb : Nat} {B : Int} {M : Int → Int} {T : List Int} (h : MemIn base U mb B M T) (k : Ext U V) : MemIn base V mb B M T := by
  obtain ⟨F, h1, h2⟩ := h; exact ⟨F, h1.ext k, h2⟩
theorem MemIn.mono {base base' : Nat} {U : World} {mb : Nat} {B : Int} {M : Int → Int} {T : List Int} (h : MemIn base U mb B M T) (k : base' ≤ base) : MemIn base' U mb B M T := by
  obtain ⟨F, h1, h2⟩ := h; exact ⟨F, h1, fun x hx => Nat.le_trans k (h2 x hx)⟩
theorem MemIn.lt {base : Nat} {U : World} {mb : Nat} {B : Int} {M : Int → Int} {T : List Int} (h : MemIn base U mb B M T) : mb < U.heap.size := by
  obtain ⟨F, h1, h2⟩ := h; exact h1.head.2.1
theorem MemIn.wide {base : Nat} {U : World} {mb : Nat} {B : Int} {M : Int → Int} {T : List Int} (h : MemIn base U mb B M T) : ∀ s, 0 ≤ M s ∧ M s ≤ 18446744073709551615 := by
  obtain ⟨F, ⟨pb, tv, es, clock, PL, p1, p2, p3, p4, p5, p6, p7, p8, p9, -, p10⟩, -⟩ := h; exact p8
/-- Another memory, whose blocks lie below the base. -/
theorem MemAt.sep {base : Nat} {U V : World} {mb : Nat} {F : List Nat} {B : Int} {M : Int → Int} {T : List Int} (h : MemAt U mb F B M T) (k : Sep base U V) (hF : ∀ x ∈ F, x < base) : MemAt V mb F B M T :=
  h.keeps (G := (List.range U.heap.size).filter fun b => decide (base ≤ b)) ⟨k.1.os, k.1.tape, k.1.output, k.size, fun b hb hn => by
    have : b < base := by
      rcases Nat.lt_or_ge b base with q | q
      · exact q
      · exact absurd (List.mem_filter.2 ⟨List.mem_range.2 hb, by simpa using q⟩) hn
    exact Below.block k.1 b this⟩ (fun x hx hm => by
    have := hF x hx
    have h2 := (List.mem_filter.1 hm).2
    simp only [decide_eq_true_eq] at h2; omega)
theorem MemIn.sep {base base' : Nat} {U V : World} {mb : Nat} {B : Int} {M : Int → Int} {T : List Int} (h : MemIn base' U mb B M T) (k : Sep base U V) (hF : U.heap.size ≤ base) : MemIn base' V mb B M T := by
  obtain ⟨F, h1, h2⟩ := h
  exact ⟨F, h1.sep k fun x hx => Nat.lt_of_lt_of_le (h1.lt x hx) hF, h2⟩
theorem EndMem.sep {base : Nat} {U V : World} {mb : Nat} {F : List Nat} {B : Int} {M M' : Int → Int} {T T' : List Int} (m : MemAt U mb F B M T) (h : EndMem mb F U B M' T' V) (hF : ∀ x ∈ F, base ≤ x) (hb : base ≤ U.heap.size) : MemIn base V mb B M' T' ∧ Sep base U V := by
  obtain ⟨F', h1, h2, h3⟩ := h
  refine ⟨⟨F', h1, fun x hx => ?_⟩, ⟨h2.os, h2.tape, h2.output, h2.size, fun b hb => h2.block b (by omega) (fun hm => by have := hF b hm; omega)⟩, fun b c e hbb q1 q2 q3 => (h2.block b (heap_lt hbb) (m.apart hbb q1 q2 q3)).trans hbb⟩
  rcases h3 x hx with q | q
  · exact hF x q
  · omega

/-- A path as a value; in a block. -/
def PathV (U : World) (v : Value) (q : List Stp × WRes) : Prop :=
  ∃ sa sc, v = .agg #[.slice sa q.1.length sc, .int .i64 q.2.1, .bool q.2.2.1.1, .bool q.2.2.1.2.1, .bool q.2.2.1.2.2, .int .i64 q.2.2.2.1, .int .u64 q.2.2.2.2] ∧ Owns U 105 3 (.slice sa q.1.length sc) q.1.length (rowS q.1)
def PathAt (U : World) (b : Nat) (sa : Option Addr) (sc : Nat) (q : List Stp × WRes) : Prop :=
  U.heap[b]? = some (.cells #[.slice sa q.1.length sc, .int .i64 q.2.1, .bool q.2.2.1.1, .bool q.2.2.1.2.1, .bool q.2.2.1.2.2, .int .i64 q.2.2.2.1, .int .u64 q.2.2.2.2] 39 (0, 0)) ∧
    Owns U 105 3 (.slice sa q.1.length sc) q.1.length (rowS q.1)
theorem PathAt.ext {U V : World} {b : Nat} {sa : Option Addr} {sc : Nat} {q : List Stp × WRes} (h : PathAt U b sa sc q) (k : Ext U V) : PathAt V b sa sc q := ⟨(k.block b (heap_lt h.1)).trans h.1, h.2.ext k⟩
theorem PathAt.sep {base : Nat} {U V : World} {b : Nat} {sa : Option Addr} {sc : Nat} {q : List Stp × WRes} (h : PathAt U b sa sc q) (k : Sep base U V) : PathAt V b sa sc q :=
  ⟨k.2 _ _ _ h.1 (by decide) (by decide) (by decide), h.2.keep fun g hg => by
    obtain ⟨c, hc⟩ := h.2.heap g hg
    rw [hc]; exact k.2 _ _ _ hc (by decide) (by decide) (by decide)⟩
theorem PathAt.facts {U : World} {b : Nat} {sa : Option Addr} {sc : Nat} {q : List Stp × WRes} (h : PathAt U b sa sc q) :
    (U.cell? ⟨b, 0, none⟩ = some (.slice sa q.1.length sc) ∧ U.cell? ⟨b, 1, none⟩ = some (.int .i64 q.2.1) ∧ U.cell? ⟨b, 2, none⟩ = some (.bool q.2.2.1.1) ∧ U.cell? ⟨b, 3, none⟩ = some (.bool q.2.2.1.2.1) ∧ U.cell? ⟨b, 4, none⟩ = some (.bool q.2.2.1.2.2) ∧
      U.cell? ⟨b, 5, none⟩ = some (.int .i64 q.2.2.2.1) ∧ U.cell? ⟨b, 6, none⟩ = some (.int .u64 q.2.2.2.2)) ∧ b < U.heap.size :=
  ⟨⟨(heap_cell h.1 0).trans rfl, (heap_cell h.1 1).trans rfl, (heap_cell h.1 2).trans rfl, (heap_cell h.1 3).trans rfl, (heap_cell h.1 4).trans rfl, (heap_cell h.1 5).trans rfl, (heap_cell h.1 6).trans rfl⟩, heap_lt h.1⟩
def stpAt (L : List Stp) (i : Nat) : Stp := L.getD i (0, 0, 0)
theorem rowS_at : ∀ (L : List Stp) (i : Nat), i < L.length → ∀ j, j < 3 → (rowS L)[i * 3 + j]? = (Stp.cells (stpAt L i))[j]?
  | [], i, h, _, _ => by simp at h
  | x :: L, 0, h, j, hj => by
    simp only [rowS, List.flatMap_cons, Nat.zero_mul, Nat.zero_add]
    rw [List.getElem?_append_left (by simpa [Stp.cells] using hj)]; rfl
  | x :: L, i + 1, h, j, hj => by
    have h2 : i < L.length := by simpa using h
    have := rowS_at L i h2 j hj
    have e2 : stpAt (x :: L) (i + 1) = stpAt L i := by simp [stpAt]
    rw [e2, ← this, show (i + 1) * 3 + j = (i * 3 + j) + 3 by omega]
    simp [rowS, Stp.cells]
/-- The three cells of a step. -/
theorem Owns.step {U : World} {sa : Option Addr} {n sc : Nat} {L : List Stp} (h : Owns U 105 3 (.slice sa n sc) n (rowS L)) {i : Nat} (hi : i < L.length) (hn : n = L.length) :
    ∃ g, sa = some ⟨g, 0, none⟩ ∧ g < U.heap.size ∧ U.cell? ⟨g, i * 3, none⟩ = some (.int .i64 (stpAt L i).1) ∧ U.cell? ⟨g, i * 3 + 1, none⟩ = some (.int .u64 (stpAt L i).2.1) ∧ U.cell? ⟨g, i * 3 + 2, none⟩ = some (.int .u64 (stpAt L i).2.2) := by
  obtain ⟨g, hg⟩ : ∃ g, sa = some ⟨g, 0, none⟩ := by
    rcases h.2 with ⟨h1, h0⟩ | ⟨g, _, _, he, _⟩
    · omega
    · exact ⟨g, by injection he⟩
  subst hg
  have H := fun j hj u hu => h.cells (g := g) rfl (i * 3 + j) u ((rowS_at L i hi j hj).trans hu)
  exact ⟨g, rfl, h.lt g rfl, H 0 (by omega) _ rfl, H 1 (by omega) _ rfl, H 2 (by omega) _ rfl⟩

/-- A walk, for a law. -/
def EndWalkM (base mb : Nat) (B : Int) (M : Int → Int) (T : List Int) (q : List Stp × WRes) (U : World) (e : Ending) (V : World) : Prop :=
  ∃ sa sc, e = .returned (.agg #[.slice sa q.1.length sc, .int .i64 q.2.1, .bool q.2.2.1.1, .bool q.2.2.1.2.1, .bool q.2.2.1.2.2, .int .i64 q.2.2.2.1, .int .u64 q.2.2.2.2]) ∧ Owns V 105 3 (.slice sa q.1.length sc) q.1.length (rowS q.1) ∧
    MemIn base V mb B M (T ++ q.1.map (·.2.1)) ∧ Sep base U V
theorem from_m (base mb : Nat) (B : Int) (M : Int → Int) (T : List Int) (n : Nat) (t : Int) (r : Rt) (a : Int) (nxe : Bool) (U : World) (h : MemIn base U mb B M T) (hb : base ≤ U.heap.size)
    (hl1 : n ≤ 4) (ht0 : 0 ≤ t) (ht1 : t ≤ 18446744073709551615) (ha0 : 0 ≤ a) (ha1 : a ≤ 18446744073709551615) (hT : T.length ≤ 900000) :
    Calls Try.prog 15 #[.pointer (some ⟨mb, 0, none⟩), .agg #[.int .i64 n, .int .u64 t, .bool r.1, .bool r.2.1, .bool r.2.2], .int .u64 a, .bool nxe] U (EndWalkM base mb B M T (walkF M B nxe a n t r) U) := by
  obtain ⟨F, h1, h2⟩ := h
  obtain ⟨r0, r1, r2⟩ := r
  refine (from_c mb F B M T n t r0 r1 r2 a nxe U h1 hl1 ht0 ht1 ha0 ha1 hT).mono fun e V h => ?_
  obtain ⟨v, q1, q2, q3, q4⟩ := h
  have ⟨k1, k2⟩ := EndMem.sep h1 q3 h2 hb
  obtain ⟨sa, sc, rfl, -, -⟩ := q2.form
  exact ⟨sa, sc, q1, q2, k1, k2⟩
theorem new_m (B : Int) (U : World) (hB : 14 ≤ B ∧ B ≤ 22) : Calls Try.prog 34 #[.int .i64 B] U fun e V => ∃ mb, e = .returned (.pointer (some ⟨mb, 0, none⟩)) ∧ MemIn U.heap.size V mb B (fun _ => 0) [] ∧ Ext U V :=
  (memNew_c B U hB).mono fun e V h => by
    obtain ⟨mb, F, q1, q2, q3, q4⟩ := h
    exact ⟨mb, q1, ⟨F, q2, q4⟩, q3⟩
theorem peek_m (base mb : Nat) (B : Int) (M : Int → Int) (T : List Int) (a : Int) (U : World) (h : MemIn base U mb B M T) (h0 : 0 ≤ a) (h1 : a ≤ 18446744073709551615) :
    Calls Try.prog 66 #[.pointer (some ⟨mb, 0, none⟩), .int .u64 a] U fun e w' => e = .returned (.tuple #[.int .u64 (if errM B a = 0 then M (a / 8) else 0), .int .i64 (errM B a)]) ∧ Ext U w' := by
  obtain ⟨F, k1, k2⟩ := h
  exact peek_c mb F B M T a U k1 h0 h1
end Go.Proofs.Ytkfonacokamfiaa
/- Memories of a law's own, side by side: what the operations of one leave alone, by a set of blocks. -/
namespace Go.Proofs.Ytkfonacokamfiaa
set_option linter.unusedVariables false
set_option linter.unusedSimpArgs false
open Go.RowKit
attribute [local go_sem] wext_cell wext_frozen wext_heap alloc_cell alloc_frozen alloc_heap setCell_cell objCell_cells objFrozen_cells

/-- All blocks from n on. -/
def Up (P : Nat → Prop) (n : Nat) : Prop := ∀ x, n ≤ x → P x
theorem Up.mono {P : Nat → Prop} {n m : Nat} (h : Up P n) (k : n ≤ m) : Up P m := fun x hx => h x (Nat.le_trans k hx)
/-- What is not of the set, and what is no memory's, is as it was. -/
def SepP (P : Nat → Prop) (U V : World) : Prop :=
  (V.os = U.os ∧ V.tape = U.tape ∧ V.output = U.output ∧ U.heap.size ≤ V.heap.size ∧ ∀ b, b < U.heap.size → ¬ P b → V.heap[b]? = U.heap[b]?) ∧
    ∀ (b : Nat) (c : Array Value) (e : TypeId), U.heap[b]? = some (.cells c e (0, 0)) → e ≠ 133 → e ≠ 34 → e ≠ 144 → V.heap[b]? = some (.cells c e (0, 0))
theorem SepP.of_ext {P : Nat → Prop} {U V : World} (k : Ext U V) : SepP P U V :=
  ⟨⟨k.os, k.tape, k.output, k.size, fun b hb _ => k.block b hb⟩, fun b c e h _ _ _ => (k.block b (heap_lt h)).trans h⟩
theorem SepP.size {P : Nat → Prop} {U V : World} (h : SepP P U V) : U.heap.size ≤ V.heap.size := h.1.2.2.2.1
theorem SepP.trans {P : Nat → Prop} {U V W : World} (h : SepP P U V) (k : SepP P V W) : SepP P U W :=
  ⟨⟨k.1.1.trans h.1.1, k.1.2.1.trans h.1.2.1, k.1.2.2.1.trans h.1.2.2.1, Nat.le_trans h.size k.size, fun b hb hp => (k.1.2.2.2.2 b (Nat.lt_of_lt_of_le hb h.size) hp).trans (h.1.2.2.2.2 b hb hp)⟩,
    fun b c e hb h1 h2 h3 => k.2 b c e (h.2 b c e hb h1 h2 h3) h1 h2 h3⟩
theorem SepP.ext {P : Nat → Prop} {U V W : World} (h : SepP P U V) (k : Ext V W) : SepP P U W := h.trans (SepP.of_ext k)
theorem SepP.mono {P Q : Nat → Prop} {U V : World} (h : SepP P U V) (k : ∀ x, P x → Q x) : SepP Q U V :=
  ⟨⟨h.1.1, h.1.2.1, h.1.2.2.1, h.size, fun b hb hq => h.1.2.2.2.2 b hb fun hp => hq (k b hp)⟩, h.2⟩
theorem SepP.sep {base : Nat} {U V : World} (h : SepP (base ≤ ·) U V) (hb : base ≤ U.heap.size) : Sep base U V :=
  ⟨⟨h.1.1, h.1.2.1, h.1.2.2.1, h.size, fun b hbb => h.1.2.2.2.2 b (Nat.lt_of_lt_of_le hbb hb) (by omega)⟩, h.2⟩
theorem SepP.to_ext {w U V : World} (h : SepP (w.heap.size ≤ ·) U V) (k : Ext w U) : Ext w V :=
  ⟨h.1.1.trans k.os, h.1.2.1.trans k.tape, h.1.2.2.1.trans k.output, Nat.le_trans k.size h.size, fun b hb => (h.1.2.2.2.2 b (Nat.lt_of_lt_of_le hb k.size) (by omega)).trans (k.block b hb)⟩

theorem SepP.to_ext' {w U V : World} (h : SepP (U.heap.size ≤ ·) U V) (k : Ext w U) : Ext w V :=
  (h.mono fun _ hx => Nat.le_trans k.size hx : SepP (w.heap.size ≤ ·) U V).to_ext k
def MemP (P : Nat → Prop) (U : World) (mb : Nat) (B : Int) (M : Int → Int) (T : List Int) : Prop := ∃ F, MemAt U mb F B M T ∧ ∀ x ∈ F, P x
theorem MemP.ext {P : Nat → Prop} {U V : World} {mb : Nat} {B : Int} {M : Int → Int} {T : List Int} (h : MemP P U mb B M T) (k : Ext U V) : MemP P V mb B M T := by
  obtain ⟨F, h1, h2⟩ := h; exact ⟨F, h1.ext k, h2⟩
theorem MemP.wide {P : Nat → Prop} {U : World} {mb : Nat} {B : Int} {M : Int → Int} {T : List Int} (h : MemP P U mb B M T) : ∀ s, 0 ≤ M s ∧ M s ≤ 18446744073709551615 := by
  obtain ⟨F, ⟨pb, tv, es, clock, PL, p1, p2, p3, p4, p5, p6, p7, p8, p9, -, p10⟩, -⟩ := h; exact p8
theorem MemP.bits {P : Nat → Prop} {U : World} {mb : Nat} {B : Int} {M : Int → Int} {T : List Int} (h : MemP P U mb B M T) : 14 ≤ B ∧ B ≤ 22 := by
  obtain ⟨F, h1, -⟩ := h; exact h1.head.2.2
/-- Another memory, none of whose blocks is of the set. -/
theorem MemP.sep {P Q : Nat → Prop} {U V : World} {mb : Nat} {B : Int} {M : Int → Int} {T : List Int} (h : MemP Q U mb B M T) (k : SepP P U V) (hd : ∀ x, x < U.heap.size → Q x → ¬ P x) : MemP Q V mb B M T := by
  obtain ⟨F, h1, h2⟩ := h
  classical
  refine ⟨F, h1.keeps (G := (List.range U.heap.size).filter fun b => decide (P b)) ⟨k.1.1, k.1.2.1, k.1.2.2.1, k.size, fun b hb hn => ?_⟩ (fun x hx hm => ?_), h2⟩
  · refine k.1.2.2.2.2 b hb fun hp => hn (List.mem_filter.2 ⟨List.mem_range.2 hb, by simpa using hp⟩)
  · have h3 := (List.mem_filter.1 hm).2
    exact hd x (h1.lt x hx) (h2 x hx) (by simpa using h3)
theorem EndMem.sepP {P : Nat → Prop} {U V : World} {mb : Nat} {F : List Nat} {B : Int} {M M' : Int → Int} {T T' : List Int} (m : MemAt U mb F B M T) (h : EndMem mb F U B M' T' V) (hF : ∀ x ∈ F, P x) (hb : Up P U.heap.size) : MemP P V mb B M' T' ∧ SepP P U V := by
  obtain ⟨F', h1, h2, h3⟩ := h
  refine ⟨⟨F', h1, fun x hx => ?_⟩, ⟨h2.os, h2.tape, h2.output, h2.size, fun b hb hp => h2.block b hb (fun hm => hp (hF b hm))⟩, fun b c e hbb q1 q2 q3 => (h2.block b (heap_lt hbb) (m.apart hbb q1 q2 q3)).trans hbb⟩
  rcases h3 x hx with q | q
  · exact hF x q
  · exact hb x q
theorem PathAt.sepP {P : Nat → Prop} {U V : World} {b : Nat} {sa : Option Addr} {sc : Nat} {q : List Stp × WRes} (h : PathAt U b sa sc q) (k : SepP P U V) : PathAt V b sa sc q :=
  ⟨k.2 _ _ _ h.1 (by decide) (by decide) (by decide), h.2.keep fun g hg => by
    obtain ⟨c, hc⟩ := h.2.heap g hg
    rw [hc]; exact k.2 _ _ _ hc (by decide) (by decide) (by decide)⟩
/-- The blocks that two worlds' growth has left to one of two memories that lie side by side: from n on, but for those of the other one. -/
theorem MemP.two {P : Nat → Prop} {U : World} {mb : Nat} {B : Int} {M : Int → Int} {T : List Int} (h : MemP P U mb B M T) : ∃ F : List Nat, (∀ x ∈ F, P x ∧ x < U.heap.size) ∧ MemP (· ∈ F) U mb B M T := by
  obtain ⟨F, h1, h2⟩ := h
  exact ⟨F, fun x hx => ⟨h2 x hx, h1.lt x hx⟩, F, h1, fun x hx => hx⟩
theorem MemP.mono {P Q : Nat → Prop} {U : World} {mb : Nat} {B : Int} {M : Int → Int} {T : List Int} (h : MemP P U mb B M T) (k : ∀ x, P x → Q x) : MemP Q U mb B M T := by
  obtain ⟨F, h1, h2⟩ := h; exact ⟨F, h1, fun x hx => k x (h2 x hx)⟩

def EndWalkP (P : Nat → Prop) (mb : Nat) (B : Int) (M : Int → Int) (T : List Int) (q : List Stp × WRes) (U : World) (e : Ending) (V : World) : Prop :=
  ∃ sa sc, e = .returned (.agg #[.slice sa q.1.length sc, .int .i64 q.2.1, .bool q.2.2.1.1, .bool q.2.2.1.2.1, .bool q.2.2.1.2.2, .int .i64 q.2.2.2.1, .int .u64 q.2.2.2.2]) ∧ Owns V 105 3 (.slice sa q.1.length sc) q.1.length (rowS q.1) ∧
    MemP P V mb B M (T ++ q.1.map (·.2.1)) ∧ SepP P U V
theorem from_p (P : Nat → Prop) (mb : Nat) (B : Int) (M : Int → Int) (T : List Int) (n : Nat) (t : Int) (r : Rt) (a : Int) (nxe : Bool) (U : World) (h : MemP P U mb B M T) (hb : Up P U.heap.size)
    (hl1 : n ≤ 4) (ht0 : 0 ≤ t) (ht1 : t ≤ 18446744073709551615) (ha0 : 0 ≤ a) (ha1 : a ≤ 18446744073709551615) (hT : T.length ≤ 900000) :
    Calls Try.prog 15 #[.pointer (some ⟨mb, 0, none⟩), .agg #[.int .i64 n, .int .u64 t, .bool r.1, .bool r.2.1, .bool r.2.2], .int .u64 a, .bool nxe] U (EndWalkP P mb B M T (walkF M B nxe a n t r) U) := by
  obtain ⟨F, h1, h2⟩ := h
  obtain ⟨r0, r1, r2⟩ := r
  refine (from_c mb F B M T n t r0 r1 r2 a nxe U h1 hl1 ht0 ht1 ha0 ha1 hT).mono fun e V h => ?_
  obtain ⟨v, q1, q2, q3, q4⟩ := h
  have ⟨k1, k2⟩ := EndMem.sepP h1 q3 h2 hb
  obtain ⟨sa, sc, rfl, -, -⟩ := q2.form
  exact ⟨sa, sc, q1, q2, k1, k2⟩
theorem peek_p (P : Nat → Prop) (mb : Nat) (B : Int) (M : Int → Int) (T : List Int) (a : Int) (U : World) (h : MemP P U mb B M T) (h0 : 0 ≤ a) (h1 : a ≤ 18446744073709551615) :
    Calls Try.prog 66 #[.pointer (some ⟨mb, 0, none⟩), .int .u64 a] U fun e w' => e = .returned (.tuple #[.int .u64 (if errM B a = 0 then M (a / 8) else 0), .int .i64 (errM B a)]) ∧ Ext U w' := by
  obtain ⟨F, k1, k2⟩ := h
  exact peek_c mb F B M T a U k1 h0 h1
theorem store_p (P : Nat → Prop) (mb : Nat) (B : Int) (M : Int → Int) (T : List Int) (a x : Int) (U : World) (h : MemP P U mb B M T) (hb : Up P U.heap.size) (h0 : 0 ≤ a) (h1 : a ≤ 18446744073709551615) (hx0 : 0 ≤ x) (hx1 : x ≤ 18446744073709551615) :
    Calls Try.prog 36 #[.pointer (some ⟨mb, 0, none⟩), .int .u64 a, .int .u64 x] U fun e V => e = .returned (.int .i64 (errM B a)) ∧ MemP P V mb B (setIf B M a x) T ∧ SepP P U V := by
  obtain ⟨F, k1, k2⟩ := h
  refine (store_c mb F B M T a x U k1 h0 h1 hx0 hx1).mono fun e V hh => ?_
  obtain ⟨q1, q2⟩ := hh
  have ⟨z1, z2⟩ := EndMem.sepP k1 q2 k2 hb
  exact ⟨q1, z1, z2⟩
end Go.Proofs.Ytkfonacokamfiaa
/- A and D, plainly: words with these bits, without them. -/
namespace Go.Proofs.Ytkfonacokamfiaa
set_option linter.unusedVariables false
set_option linter.unusedSimpArgs false
open Go.RowKit
attribute [local go_sem] wext_cell wext_frozen wext_heap alloc_cell alloc_frozen alloc_heap setCell_cell objCell_cells objFrozen_cells

/-- A word with A; with A and D. -/
def orA (x : Int) : Int := x + (1 - x / 32 % 2) * 32
def orD (x : Int) : Int := x + (3 - x / 32 % 4) * 32
theorem nat_or32 (n : Nat) : n ||| 32 = n + (1 - n / 32 % 2) * 32 := by
  have h := Nat.div_add_mod (n ||| 32) 64
  have h1 : (n ||| 32) / 64 = n / 64 := by
    have := Nat.or_div_two_pow (a := n) (b := 32) (n := 6); simpa using this
  have h2 : (n ||| 32) % 64 = n % 64 ||| 32 := by
    have := Nat.or_mod_two_pow (a := n) (b := 32) (n := 6); simpa using this
  have h3 : ∀ i : Fin 64, i.val ||| 32 = i.val + (1 - i.val / 32 % 2) * 32 := by decide +kernel
  have h4 := h3 ⟨n % 64, Nat.mod_lt _ (by omega)⟩
  simp only at h4
  omega
theorem nat_or96 (n : Nat) : n ||| 96 = n + (3 - n / 32 % 4) * 32 := by
  have h := Nat.div_add_mod (n ||| 96) 128
  have h1 : (n ||| 96) / 128 = n / 128 := by
    have := Nat.or_div_two_pow (a := n) (b := 96) (n := 7); simpa using this
  have h2 : (n ||| 96) % 128 = n % 128 ||| 96 := by
    have := Nat.or_mod_two_pow (a := n) (b := 96) (n := 7); simpa using this
  have h3 : ∀ i : Fin 128, i.val ||| 96 = i.val + (3 - i.val / 32 % 4) * 32 := by decide +kernel
  have h4 := h3 ⟨n % 128, Nat.mod_lt _ (by omega)⟩
  simp only at h4
  omega
theorem nat_and96 (n : Nat) : n &&& 96 = n / 32 % 4 * 32 := by
  have h := Nat.div_add_mod (n &&& 96) 128
  have h1 : (n &&& 96) / 128 = 0 := by
    have := Nat.and_div_two_pow (a := n) (b := 96) (n := 7); simpa using this
  have h2 : (n &&& 96) % 128 = n % 128 &&& 96 := by
    have := Nat.and_mod_two_pow (a := n) (b := 96) (n := 7); simpa using this
  have h3 : ∀ i : Fin 128, i.val &&& 96 = i.val / 32 % 4 * 32 := by decide +kernel
  have h4 := h3 ⟨n % 128, Nat.mod_lt _ (by omega)⟩
  simp only at h4
  omega
theorem nat_and32 (n : Nat) : n &&& 32 = n / 32 % 2 * 32 := by
  have h := Nat.div_add_mod (n &&& 32) 64
  have h1 : (n &&& 32) / 64 = 0 := by
    have := Nat.and_div_two_pow (a := n) (b := 32) (n := 6); simpa using this
  have h2 : (n &&& 32) % 64 = n % 64 &&& 32 := by
    have := Nat.and_mod_two_pow (a := n) (b := 32) (n := 6); simpa using this
  have h3 : ∀ i : Fin 64, i.val &&& 32 = i.val / 32 % 2 * 32 := by decide +kernel
  have h4 := h3 ⟨n % 64, Nat.mod_lt _ (by omega)⟩
  simp only at h4
  omega
theorem or32 {x : Int} (h0 : 0 ≤ x) (h1 : x ≤ 18446744073709551615) : bits BinOp.or IntKind.u64 x 32 = orA x := by
  rw [u64_or _ _ h0 (by omega) (by omega) (by omega), show (32 : Int).toNat = 32 from rfl, nat_or32]
  unfold orA; omega
theorem or96 {x : Int} (h0 : 0 ≤ x) (h1 : x ≤ 18446744073709551615) : bits BinOp.or IntKind.u64 x 96 = orD x := by
  rw [u64_or _ _ h0 (by omega) (by omega) (by omega), show (96 : Int).toNat = 96 from rfl, nat_or96]
  unfold orD; omega
theorem and32 {x : Int} (h0 : 0 ≤ x) (h1 : x ≤ 18446744073709551615) : bits BinOp.and IntKind.u64 x 32 = x / 32 % 2 * 32 := by
  rw [u64_and _ _ h0 (by omega) (by omega) (by omega), show (32 : Int).toNat = 32 from rfl, nat_and32]; omega
theorem and96 {x : Int} (h0 : 0 ≤ x) (h1 : x ≤ 18446744073709551615) : bits BinOp.and IntKind.u64 x 96 = x / 32 % 4 * 32 := by
  rw [u64_and _ _ h0 (by omega) (by omega) (by omega), show (96 : Int).toNat = 96 from rfl, nat_and96]; omega
theorem orA_le {x : Int} (h0 : 0 ≤ x) (h1 : x ≤ 18446744073709551615) : 0 ≤ orA x ∧ orA x ≤ 18446744073709551615 := by unfold orA; omega
theorem orD_le {x : Int} (h0 : 0 ≤ x) (h1 : x ≤ 18446744073709551615) : 0 ≤ orD x ∧ orD x ≤ 18446744073709551615 := by unfold orD; omega

/-- The same word but for A and D. -/
def eqv (x y : Int) : Prop := x / 128 = y / 128 ∧ x % 32 = y % 32
theorem eqv_refl (x : Int) : eqv x x := ⟨rfl, rfl⟩
theorem eqv_symm {x y : Int} (h : eqv x y) : eqv y x := ⟨h.1.symm, h.2.symm⟩
theorem eqv_trans {x y z : Int} (h : eqv x y) (k : eqv y z) : eqv x z := ⟨h.1.trans k.1, h.2.trans k.2⟩
theorem eqv_orA (x : Int) : eqv x (orA x) := by unfold eqv orA; omega
theorem eqv_orD (x : Int) : eqv x (orD x) := by unfold eqv orD; omega
theorem orD_eq (x : Int) : orD x = x / 128 * 128 + 96 + x % 32 := by unfold orD; omega
theorem orD_div (x : Int) : orD x / 128 = x / 128 := by rw [orD_eq]; omega
theorem orD_mod (x : Int) : orD x % 32 = x % 32 := by rw [orD_eq]; omega
theorem eqv_or {x y : Int} : orD x = orD y ↔ eqv x y :=
  ⟨fun h => ⟨by rw [← orD_div, h, orD_div], by rw [← orD_mod, h, orD_mod]⟩, fun h => by rw [orD_eq, orD_eq, h.1, h.2]⟩
theorem div_63 (x : Int) : x / 9223372036854775808 = x / 128 / 72057594037927936 := by rw [Int.ediv_ediv_of_nonneg (by omega)]; rfl
theorem div_12 (x : Int) : x / 4096 = x / 128 / 32 := by rw [Int.ediv_ediv_of_nonneg (by omega)]; rfl
theorem eqv_bit {x y : Int} (h : eqv x y) (i : Int) (hi : i = 0 ∨ i = 1 ∨ i = 2 ∨ i = 7 ∨ i = 63) : bitB x i = bitB y i := by
  unfold eqv at h
  have : x / pow2 i % 2 = y / pow2 i % 2 := by
    rcases hi with rfl | rfl | rfl | rfl | rfl
    · show x / 1 % 2 = y / 1 % 2; omega
    · show x / 2 % 2 = y / 2 % 2; omega
    · show x / 4 % 2 = y / 4 % 2; omega
    · show x / 128 % 2 = y / 128 % 2; omega
    · show x / 9223372036854775808 % 2 = y / 9223372036854775808 % 2; rw [div_63, div_63, h.1]
  unfold bitB; rw [this]
theorem tab_d (x : Int) : tabI x = x / 4096 % 1099511627776 * 4096 := by unfold tabI; omega
theorem eqv_tab {x y : Int} (h : eqv x y) : tabI x = tabI y := by rw [tab_d, tab_d, div_12, div_12, h.1]
theorem eqv_leaf {x y : Int} (h : eqv x y) (l : Int) : leafI x l = leafI y l := by unfold leafI; rw [eqv_bit h 7 (by omega)]
theorem eqv_frame {x y : Int} (h : eqv x y) (l : Int) : frameI x l = frameI y l := by unfold frameI; rw [eqv_leaf h, eqv_tab h]
theorem eqv_res {x y : Int} (h : eqv x y) (l B : Int) (nxe : Bool) (hB : 14 ≤ B ∧ B ≤ 22) : resI x l B nxe = resI y l B nxe := by
  have h1 : x / pow2 B = y / pow2 B := by
    have hp : ∀ z : Int, z / pow2 B = z / 128 / pow2 (B - 7) := fun z => by
      have e : pow2 B = 128 * pow2 (B - 7) := by
        unfold pow2
        rw [show B.toNat = 7 + (B - 7).toNat by omega, Nat.pow_add]; simp
      rw [e, Int.ediv_ediv_of_nonneg (by omega)]
    rw [hp, hp, h.1]
  have h2 : x / 8192 = y / 8192 := by unfold eqv at h; omega
  unfold resI
  rw [h1, h2, eqv_bit h 7 (by omega), eqv_bit h 63 (by omega)]
end Go.Proofs.Ytkfonacokamfiaa
