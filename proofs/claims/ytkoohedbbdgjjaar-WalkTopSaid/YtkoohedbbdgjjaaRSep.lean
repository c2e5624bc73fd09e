/- A law's own memory: what its operations leave alone; paths in blocks. -/
import Derived.Test.YtkoohedbbdgjjaaRWalkB
import Derived.Test.YtkoohedbbdgjjaaRTrace
namespace Go.Proofs.YtkoohedbbdgjjaaR
set_option linter.unusedVariables false
set_option linter.unusedSimpArgs false
open Go.RowKit
attribute [local go_sem] wext_cell wext_frozen wext_heap alloc_cell alloc_frozen alloc_heap setCell_cell objCell_cells objFrozen_cells

/-- What came before a base, and what is no memory's, is as it was. -/
def Sep (base : Nat) (U V : World) : Prop :=
  Below base U V ∧ ∀ (b : Nat) (c : Array Value) (e : TypeId), U.heap[b]? = some (.cells c e (0, 0)) → e ≠ 153 → e ≠ 27 → e ≠ 168 → V.heap[b]? = some (.cells c e (0, 0))
theorem Sep.of_ext {base : Nat} {U V : World} (k : Ext U V) (hb : base ≤ U.heap.size) : Sep base U V :=
  ⟨Below.mono k hb, fun b c e h _ _ _ => (k.block b (heap_lt h)).trans h⟩
theorem Sep.size {base : Nat} {U V : World} (h : Sep base U V) : U.heap.size ≤ V.heap.size := Below.size h.1
theorem Sep.trans {base : Nat} {U V W : World} (h : Sep base U V) (k : Sep base V W) : Sep base U W :=
  ⟨Below.trans h.1 k.1, fun b c e hb h1 h2 h3 => k.2 b c e (h.2 b c e hb h1 h2 h3) h1 h2 h3⟩
theorem Sep.ext {base : Nat} {U V W : World} (h : Sep base U V) (k : Ext V W) (hb : base ≤ U.heap.size) : Sep base U W := h.trans (Sep.of_ext k (Nat.le_trans hb h.size))
theorem Sep.to_ext {U V : World} (h : Sep U.heap.size U V) : Ext U V := h.1

/-- A memory all whose blocks lie from a base on. -/
def MemIn (base : Nat) (U : World) (mb : Nat) (B : Int) (M : Int → Int) (T : List Int) : Prop := ∃ F, MemAt U mb F B M T ∧ ∀ x ∈ F, base ≤ x
theorem MemIn.ext {base : Nat} {U V : World} {mb : Nat} {B : Int} {M : Int → Int} {T : List Int} (h : MemIn base U mb B M T) (k : Ext U V) : MemIn base V mb B M T := by
  obtain ⟨F, h1, h2⟩ := h; exact ⟨F, h1.ext k, h2⟩
theorem MemIn.mono {base base' : Nat} {U : World} {mb : Nat} {B : Int} {M : Int → Int} {T : List Int} (h : MemIn base U mb B M T) (k : base' ≤ base) : MemIn base' U mb B M T := by
  obtain ⟨F, h1, h2⟩ := h; exact ⟨F, h1, fun x hx => Nat.le_trans k (h2 x hx)⟩
theorem MemIn.lt {base : Nat} {U : World} {mb : Nat} {B : Int} {M : Int → Int} {T : List Int} (h : MemIn base U mb B M T) : mb < U.heap.size := by
  obtain ⟨F, h1, h2⟩ := h; exact h1.head.2.1
theorem MemIn.wide {base : Nat} {U : World} {mb : Nat} {B : Int} {M : Int → Int} {T : List Int} (h : MemIn base U mb B M T) : ∀ s, 0 ≤ M s ∧ M s ≤ 18446744073709551615 := by
  obtain ⟨F, ⟨pb, tv, es, clock, PL, p1, p2, p3, p4, p5, p6, p7, p8, p9, -, p10⟩, -⟩ := h; exact p8
/-- Another memory, whose blocks lie below the base. -/
theorem MemAt.sep {base : Nat} {U V : World} {mb : Nat} {F : List Nat} {B : Int} {M : Int → Int} {T : List Int} (h : MemAt U mb F B M T) (k : Sep base U V) (hF : ∀ x ∈ F, x < base) : MemAt V mb F B M T :=
  h.keeps (G := (List.range U.heap.size).filter fun b => decide (base ≤ b)) ⟨k.1.os, k.1.tape, k.1.output, k.size, fun b hb hn => by
    have : b < base := by
      rcases Nat.lt_or_ge b base with q | q
      · exact q
      · exact absurd (List.mem_filter.2 ⟨List.mem_range.2 hb, by simpa using q⟩) hn
    exact Below.block k.1 b this⟩ (fun x hx hm => by
    have := hF x hx
    have h2 := (List.mem_filter.1 hm).2
    simp only [decide_eq_true_eq] at h2; omega)
theorem MemIn.sep {base base' : Nat} {U V : World} {mb : Nat} {B : Int} {M : Int → Int} {T : List Int} (h : MemIn base' U mb B M T) (k : Sep base U V) (hF : U.heap.size ≤ base) : MemIn base' V mb B M T := by
  obtain ⟨F, h1, h2⟩ := h
  exact ⟨F, h1.sep k fun x hx => Nat.lt_of_lt_of_le (h1.lt x hx) hF, h2⟩
theorem EndMem.sep {base : Nat} {U V : World} {mb : Nat} {F : List Nat} {B : Int} {M M' : Int → Int} {T T' : List Int} (m : MemAt U mb F B M T) (h : EndMem mb F U B M' T' V) (hF : ∀ x ∈ F, base ≤ x) (hb : base ≤ U.heap.size) : MemIn base V mb B M' T' ∧ Sep base U V := by
  obtain ⟨F', h1, h2, h3⟩ := h
  refine ⟨⟨F', h1, fun x hx => ?_⟩, ⟨h2.os, h2.tape, h2.output, h2.size, fun b hb => h2.block b (by omega) (fun hm => by have := hF b hm; omega)⟩, fun b c e hbb q1 q2 q3 => (h2.block b (heap_lt hbb) (m.apart hbb q1 q2 q3)).trans hbb⟩
  rcases h3 x hx with q | q
  · exact hF x q
  · omega

/-- A path as a value; in a block. -/
def PathV (U : World) (v : Value) (q : List Stp × WRes) : Prop :=
  ∃ sa sc, v = .agg #[.slice sa q.1.length sc, .int .i64 q.2.1, .bool q.2.2.1.1, .bool q.2.2.1.2.1, .bool q.2.2.1.2.2, .int .i64 q.2.2.2.1, .int .u64 q.2.2.2.2] ∧ Owns U 41 3 (.slice sa q.1.length sc) q.1.length (rowS q.1)
def PathAt (U : World) (b : Nat) (sa : Option Addr) (sc : Nat) (q : List Stp × WRes) : Prop :=
  U.heap[b]? = some (.cells #[.slice sa q.1.length sc, .int .i64 q.2.1, .bool q.2.2.1.1, .bool q.2.2.1.2.1, .bool q.2.2.1.2.2, .int .i64 q.2.2.2.1, .int .u64 q.2.2.2.2] 33 (0, 0)) ∧
    Owns U 41 3 (.slice sa q.1.length sc) q.1.length (rowS q.1)
theorem PathAt.ext {U V : World} {b : Nat} {sa : Option Addr} {sc : Nat} {q : List Stp × WRes} (h : PathAt U b sa sc q) (k : Ext U V) : PathAt V b sa sc q := ⟨(k.block b (heap_lt h.1)).trans h.1, h.2.ext k⟩
theorem PathAt.sep {base : Nat} {U V : World} {b : Nat} {sa : Option Addr} {sc : Nat} {q : List Stp × WRes} (h : PathAt U b sa sc q) (k : Sep base U V) : PathAt V b sa sc q :=
  ⟨k.2 _ _ _ h.1 (by decide) (by decide) (by decide), h.2.keep fun g hg => by
    obtain ⟨c, hc⟩ := h.2.heap g hg
    rw [hc]; exact k.2 _ _ _ hc (by decide) (by decide) (by decide)⟩
theorem PathAt.facts {U : World} {b : Nat} {sa : Option Addr} {sc : Nat} {q : List Stp × WRes} (h : PathAt U b sa sc q) :
    (U.cell? ⟨b, 0, none⟩ = some (.slice sa q.1.length sc) ∧ U.cell? ⟨b, 1, none⟩ = some (.int .i64 q.2.1) ∧ U.cell? ⟨b, 2, none⟩ = some (.bool q.2.2.1.1) ∧ U.cell? ⟨b, 3, none⟩ = some (.bool q.2.2.1.2.1) ∧ U.cell? ⟨b, 4, none⟩ = some (.bool q.2.2.1.2.2) ∧
      U.cell? ⟨b, 5, none⟩ = some (.int .i64 q.2.2.2.1) ∧ U.cell? ⟨b, 6, none⟩ = some (.int .u64 q.2.2.2.2)) ∧ b < U.heap.size :=
  ⟨⟨(heap_cell h.1 0).trans rfl, (heap_cell h.1 1).trans rfl, (heap_cell h.1 2).trans rfl, (heap_cell h.1 3).trans rfl, (heap_cell h.1 4).trans rfl, (heap_cell h.1 5).trans rfl, (heap_cell h.1 6).trans rfl⟩, heap_lt h.1⟩
def stpAt (L : List Stp) (i : Nat) : Stp := L.getD i (0, 0, 0)
theorem rowS_at : ∀ (L : List Stp) (i : Nat), i < L.length → ∀ j, j < 3 → (rowS L)[i * 3 + j]? = (Stp.cells (stpAt L i))[j]?
  | [], i, h, _, _ => by simp at h
  | x :: L, 0, h, j, hj => by
    simp only [rowS, List.flatMap_cons, Nat.zero_mul, Nat.zero_add]
    rw [List.getElem?_append_left (by simpa [Stp.cells] using hj)]; rfl
  | x :: L, i + 1, h, j, hj => by
    have h2 : i < L.length := by simpa using h
    have := rowS_at L i h2 j hj
    have e2 : stpAt (x :: L) (i + 1) = stpAt L i := by simp [stpAt]
    rw [e2, ← this, show (i + 1) * 3 + j = (i * 3 + j) + 3 by omega]
    simp [rowS, Stp.cells]
/-- The three cells of a step. -/
theorem Owns.step {U : World} {sa : Option Addr} {n sc : Nat} {L : List Stp} (h : Owns U 41 3 (.slice sa n sc) n (rowS L)) {i : Nat} (hi : i < L.length) (hn : n = L.length) :
    ∃ g, sa = some ⟨g, 0, none⟩ ∧ g < U.heap.size ∧ U.cell? ⟨g, i * 3, none⟩ = some (.int .i64 (stpAt L i).1) ∧ U.cell? ⟨g, i * 3 + 1, none⟩ = some (.int .u64 (stpAt L i).2.1) ∧ U.cell? ⟨g, i * 3 + 2, none⟩ = some (.int .u64 (stpAt L i).2.2) := by
  obtain ⟨g, hg⟩ : ∃ g, sa = some ⟨g, 0, none⟩ := by
    rcases h.2 with ⟨h1, h0⟩ | ⟨g, _, _, he, _⟩
    · omega
    · exact ⟨g, by injection he⟩
  subst hg
  have H := fun j hj u hu => h.cells (g := g) rfl (i * 3 + j) u ((rowS_at L i hi j hj).trans hu)
  exact ⟨g, rfl, h.lt g rfl, H 0 (by omega) _ rfl, H 1 (by omega) _ rfl, H 2 (by omega) _ rfl⟩

/-- A walk, for a law. -/
def EndWalkM (base mb : Nat) (B : Int) (M : Int → Int) (T : List Int) (q : List Stp × WRes) (U : World) (e : Ending) (V : World) : Prop :=
  ∃ sa sc, e = .returned (.agg #[.slice sa q.1.length sc, .int .i64 q.2.1, .bool q.2.2.1.1, .bool q.2.2.1.2.1, .bool q.2.2.1.2.2, .int .i64 q.2.2.2.1, .int .u64 q.2.2.2.2]) ∧ Owns V 41 3 (.slice sa q.1.length sc) q.1.length (rowS q.1) ∧
    MemIn base V mb B M (T ++ q.1.map (·.2.1)) ∧ Sep base U V
theorem from_m (base mb : Nat) (B : Int) (M : Int → Int) (T : List Int) (n : Nat) (t : Int) (r : Rt) (a : Int) (nxe : Bool) (U : World) (h : MemIn base U mb B M T) (hb : base ≤ U.heap.size)
    (hl1 : n ≤ 4) (ht0 : 0 ≤ t) (ht1 : t ≤ 18446744073709551615) (ha0 : 0 ≤ a) (ha1 : a ≤ 18446744073709551615) (hT : T.length ≤ 900000) :
    Calls Try.prog 21 #[.pointer (some ⟨mb, 0, none⟩), .agg #[.int .i64 n, .int .u64 t, .bool r.1, .bool r.2.1, .bool r.2.2], .int .u64 a, .bool nxe] U (EndWalkM base mb B M T (walkF M B nxe a n t r) U) := by
  obtain ⟨F, h1, h2⟩ := h
  obtain ⟨r0, r1, r2⟩ := r
  refine (from_c mb F B M T n t r0 r1 r2 a nxe U h1 hl1 ht0 ht1 ha0 ha1 hT).mono fun e V h => ?_
  obtain ⟨v, q1, q2, q3, q4⟩ := h
  have ⟨k1, k2⟩ := EndMem.sep h1 q3 h2 hb
  obtain ⟨sa, sc, rfl, -, -⟩ := q2.form
  exact ⟨sa, sc, q1, q2, k1, k2⟩
theorem new_m (B : Int) (U : World) (hB : 14 ≤ B ∧ B ≤ 22) : Calls Try.prog 67 #[.int .i64 B] U fun e V => ∃ mb, e = .returned (.pointer (some ⟨mb, 0, none⟩)) ∧ MemIn U.heap.size V mb B (fun _ => 0) [] ∧ Ext U V :=
  (memNew_c B U hB).mono fun e V h => by
    obtain ⟨mb, F, q1, q2, q3, q4⟩ := h
    exact ⟨mb, q1, ⟨F, q2, q4⟩, q3⟩
theorem trace_m (base mb : Nat) (B : Int) (M : Int → Int) (T : List Int) (U : World) (h : MemIn base U mb B M T) (hT : T.length ≤ 1000000) : Calls Try.prog 25 #[.pointer (some ⟨mb, 0, none⟩)] U (EndWords U T) := by
  obtain ⟨F, h1, h2⟩ := h
  exact trace_c mb F B M T U h1 hT
theorem peek_m (base mb : Nat) (B : Int) (M : Int → Int) (T : List Int) (a : Int) (U : World) (h : MemIn base U mb B M T) (h0 : 0 ≤ a) (h1 : a ≤ 18446744073709551615) :
    Calls Try.prog 37 #[.pointer (some ⟨mb, 0, none⟩), .int .u64 a] U fun e w' => e = .returned (.tuple #[.int .u64 (if errM B a = 0 then M (a / 8) else 0), .int .i64 (errM B a)]) ∧ Ext U w' := by
  obtain ⟨F, k1, k2⟩ := h
  exact peek_c mb F B M T a U k1 h0 h1
end Go.Proofs.YtkoohedbbdgjjaaR
