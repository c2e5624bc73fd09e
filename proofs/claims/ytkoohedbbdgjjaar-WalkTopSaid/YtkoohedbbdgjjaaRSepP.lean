/- Memories of a law's own, side by side: what the operations of one leave alone, by a set of blocks. -/
import Derived.Test.YtkoohedbbdgjjaaRSep
namespace Go.Proofs.YtkoohedbbdgjjaaR
set_option linter.unusedVariables false
set_option linter.unusedSimpArgs false
open Go.RowKit
attribute [local go_sem] wext_cell wext_frozen wext_heap alloc_cell alloc_frozen alloc_heap setCell_cell objCell_cells objFrozen_cells

/-- All blocks from n on. -/
def Up (P : Nat → Prop) (n : Nat) : Prop := ∀ x, n ≤ x → P x
theorem Up.mono {P : Nat → Prop} {n m : Nat} (h : Up P n) (k : n ≤ m) : Up P m := fun x hx => h x (Nat.le_trans k hx)
/-- What is not of the set, and what is no memory's, is as it was. -/
def SepP (P : Nat → Prop) (U V : World) : Prop :=
  (V.os = U.os ∧ V.tape = U.tape ∧ V.output = U.output ∧ U.heap.size ≤ V.heap.size ∧ ∀ b, b < U.heap.size → ¬ P b → V.heap[b]? = U.heap[b]?) ∧
    ∀ (b : Nat) (c : Array Value) (e : TypeId), U.heap[b]? = some (.cells c e (0, 0)) → e ≠ 153 → e ≠ 27 → e ≠ 168 → V.heap[b]? = some (.cells c e (0, 0))
theorem SepP.of_ext {P : Nat → Prop} {U V : World} (k : Ext U V) : SepP P U V :=
  ⟨⟨k.os, k.tape, k.output, k.size, fun b hb _ => k.block b hb⟩, fun b c e h _ _ _ => (k.block b (heap_lt h)).trans h⟩
theorem SepP.size {P : Nat → Prop} {U V : World} (h : SepP P U V) : U.heap.size ≤ V.heap.size := h.1.2.2.2.1
theorem SepP.trans {P : Nat → Prop} {U V W : World} (h : SepP P U V) (k : SepP P V W) : SepP P U W :=
  ⟨⟨k.1.1.trans h.1.1, k.1.2.1.trans h.1.2.1, k.1.2.2.1.trans h.1.2.2.1, Nat.le_trans h.size k.size, fun b hb hp => (k.1.2.2.2.2 b (Nat.lt_of_lt_of_le hb h.size) hp).trans (h.1.2.2.2.2 b hb hp)⟩,
    fun b c e hb h1 h2 h3 => k.2 b c e (h.2 b c e hb h1 h2 h3) h1 h2 h3⟩
theorem SepP.ext {P : Nat → Prop} {U V W : World} (h : SepP P U V) (k : Ext V W) : SepP P U W := h.trans (SepP.of_ext k)
theorem SepP.mono {P Q : Nat → Prop} {U V : World} (h : SepP P U V) (k : ∀ x, P x → Q x) : SepP Q U V :=
  ⟨⟨h.1.1, h.1.2.1, h.1.2.2.1, h.size, fun b hb hq => h.1.2.2.2.2 b hb fun hp => hq (k b hp)⟩, h.2⟩
theorem SepP.sep {base : Nat} {U V : World} (h : SepP (base ≤ ·) U V) (hb : base ≤ U.heap.size) : Sep base U V :=
  ⟨⟨h.1.1, h.1.2.1, h.1.2.2.1, h.size, fun b hbb => h.1.2.2.2.2 b (Nat.lt_of_lt_of_le hbb hb) (by omega)⟩, h.2⟩
theorem SepP.to_ext {w U V : World} (h : SepP (w.heap.size ≤ ·) U V) (k : Ext w U) : Ext w V :=
  ⟨h.1.1.trans k.os, h.1.2.1.trans k.tape, h.1.2.2.1.trans k.output, Nat.le_trans k.size h.size, fun b hb => (h.1.2.2.2.2 b (Nat.lt_of_lt_of_le hb k.size) (by omega)).trans (k.block b hb)⟩

theorem SepP.to_ext' {w U V : World} (h : SepP (U.heap.size ≤ ·) U V) (k : Ext w U) : Ext w V :=
  (h.mono fun _ hx => Nat.le_trans k.size hx : SepP (w.heap.size ≤ ·) U V).to_ext k
def MemP (P : Nat → Prop) (U : World) (mb : Nat) (B : Int) (M : Int → Int) (T : List Int) : Prop := ∃ F, MemAt U mb F B M T ∧ ∀ x ∈ F, P x
theorem MemP.ext {P : Nat → Prop} {U V : World} {mb : Nat} {B : Int} {M : Int → Int} {T : List Int} (h : MemP P U mb B M T) (k : Ext U V) : MemP P V mb B M T := by
  obtain ⟨F, h1, h2⟩ := h; exact ⟨F, h1.ext k, h2⟩
theorem MemP.wide {P : Nat → Prop} {U : World} {mb : Nat} {B : Int} {M : Int → Int} {T : List Int} (h : MemP P U mb B M T) : ∀ s, 0 ≤ M s ∧ M s ≤ 18446744073709551615 := by
  obtain ⟨F, ⟨pb, tv, es, clock, PL, p1, p2, p3, p4, p5, p6, p7, p8, p9, -, p10⟩, -⟩ := h; exact p8
theorem MemP.bits {P : Nat → Prop} {U : World} {mb : Nat} {B : Int} {M : Int → Int} {T : List Int} (h : MemP P U mb B M T) : 14 ≤ B ∧ B ≤ 22 := by
  obtain ⟨F, h1, -⟩ := h; exact h1.head.2.2
/-- Another memory, none of whose blocks is of the set. -/
theorem MemP.sep {P Q : Nat → Prop} {U V : World} {mb : Nat} {B : Int} {M : Int → Int} {T : List Int} (h : MemP Q U mb B M T) (k : SepP P U V) (hd : ∀ x, x < U.heap.size → Q x → ¬ P x) : MemP Q V mb B M T := by
  obtain ⟨F, h1, h2⟩ := h
  classical
  refine ⟨F, h1.keeps (G := (List.range U.heap.size).filter fun b => decide (P b)) ⟨k.1.1, k.1.2.1, k.1.2.2.1, k.size, fun b hb hn => ?_⟩ (fun x hx hm => ?_), h2⟩
  · refine k.1.2.2.2.2 b hb fun hp => hn (List.mem_filter.2 ⟨List.mem_range.2 hb, by simpa using hp⟩)
  · have h3 := (List.mem_filter.1 hm).2
    exact hd x (h1.lt x hx) (h2 x hx) (by simpa using h3)
theorem EndMem.sepP {P : Nat → Prop} {U V : World} {mb : Nat} {F : List Nat} {B : Int} {M M' : Int → Int} {T T' : List Int} (m : MemAt U mb F B M T) (h : EndMem mb F U B M' T' V) (hF : ∀ x ∈ F, P x) (hb : Up P U.heap.size) : MemP P V mb B M' T' ∧ SepP P U V := by
  obtain ⟨F', h1, h2, h3⟩ := h
  refine ⟨⟨F', h1, fun x hx => ?_⟩, ⟨h2.os, h2.tape, h2.output, h2.size, fun b hb hp => h2.block b hb (fun hm => hp (hF b hm))⟩, fun b c e hbb q1 q2 q3 => (h2.block b (heap_lt hbb) (m.apart hbb q1 q2 q3)).trans hbb⟩
  rcases h3 x hx with q | q
  · exact hF x q
  · exact hb x q
theorem PathAt.sepP {P : Nat → Prop} {U V : World} {b : Nat} {sa : Option Addr} {sc : Nat} {q : List Stp × WRes} (h : PathAt U b sa sc q) (k : SepP P U V) : PathAt V b sa sc q :=
  ⟨k.2 _ _ _ h.1 (by decide) (by decide) (by decide), h.2.keep fun g hg => by
    obtain ⟨c, hc⟩ := h.2.heap g hg
    rw [hc]; exact k.2 _ _ _ hc (by decide) (by decide) (by decide)⟩
/-- The blocks that two worlds' growth has left to one of two memories that lie side by side: from n on, but for those of the other one. -/
theorem MemP.two {P : Nat → Prop} {U : World} {mb : Nat} {B : Int} {M : Int → Int} {T : List Int} (h : MemP P U mb B M T) : ∃ F : List Nat, (∀ x ∈ F, P x ∧ x < U.heap.size) ∧ MemP (· ∈ F) U mb B M T := by
  obtain ⟨F, h1, h2⟩ := h
  exact ⟨F, fun x hx => ⟨h2 x hx, h1.lt x hx⟩, F, h1, fun x hx => hx⟩
theorem MemP.mono {P Q : Nat → Prop} {U : World} {mb : Nat} {B : Int} {M : Int → Int} {T : List Int} (h : MemP P U mb B M T) (k : ∀ x, P x → Q x) : MemP Q U mb B M T := by
  obtain ⟨F, h1, h2⟩ := h; exact ⟨F, h1, fun x hx => k x (h2 x hx)⟩

def EndWalkP (P : Nat → Prop) (mb : Nat) (B : Int) (M : Int → Int) (T : List Int) (q : List Stp × WRes) (U : World) (e : Ending) (V : World) : Prop :=
  ∃ sa sc, e = .returned (.agg #[.slice sa q.1.length sc, .int .i64 q.2.1, .bool q.2.2.1.1, .bool q.2.2.1.2.1, .bool q.2.2.1.2.2, .int .i64 q.2.2.2.1, .int .u64 q.2.2.2.2]) ∧ Owns V 41 3 (.slice sa q.1.length sc) q.1.length (rowS q.1) ∧
    MemP P V mb B M (T ++ q.1.map (·.2.1)) ∧ SepP P U V
theorem from_p (P : Nat → Prop) (mb : Nat) (B : Int) (M : Int → Int) (T : List Int) (n : Nat) (t : Int) (r : Rt) (a : Int) (nxe : Bool) (U : World) (h : MemP P U mb B M T) (hb : Up P U.heap.size)
    (hl1 : n ≤ 4) (ht0 : 0 ≤ t) (ht1 : t ≤ 18446744073709551615) (ha0 : 0 ≤ a) (ha1 : a ≤ 18446744073709551615) (hT : T.length ≤ 900000) :
    Calls Try.prog 21 #[.pointer (some ⟨mb, 0, none⟩), .agg #[.int .i64 n, .int .u64 t, .bool r.1, .bool r.2.1, .bool r.2.2], .int .u64 a, .bool nxe] U (EndWalkP P mb B M T (walkF M B nxe a n t r) U) := by
  obtain ⟨F, h1, h2⟩ := h
  obtain ⟨r0, r1, r2⟩ := r
  refine (from_c mb F B M T n t r0 r1 r2 a nxe U h1 hl1 ht0 ht1 ha0 ha1 hT).mono fun e V h => ?_
  obtain ⟨v, q1, q2, q3, q4⟩ := h
  have ⟨k1, k2⟩ := EndMem.sepP h1 q3 h2 hb
  obtain ⟨sa, sc, rfl, -, -⟩ := q2.form
  exact ⟨sa, sc, q1, q2, k1, k2⟩
theorem peek_p (P : Nat → Prop) (mb : Nat) (B : Int) (M : Int → Int) (T : List Int) (a : Int) (U : World) (h : MemP P U mb B M T) (h0 : 0 ≤ a) (h1 : a ≤ 18446744073709551615) :
    Calls Try.prog 37 #[.pointer (some ⟨mb, 0, none⟩), .int .u64 a] U fun e w' => e = .returned (.tuple #[.int .u64 (if errM B a = 0 then M (a / 8) else 0), .int .i64 (errM B a)]) ∧ Ext U w' := by
  obtain ⟨F, k1, k2⟩ := h
  exact peek_c mb F B M T a U k1 h0 h1
theorem store_p (P : Nat → Prop) (mb : Nat) (B : Int) (M : Int → Int) (T : List Int) (a x : Int) (U : World) (h : MemP P U mb B M T) (hb : Up P U.heap.size) (h0 : 0 ≤ a) (h1 : a ≤ 18446744073709551615) (hx0 : 0 ≤ x) (hx1 : x ≤ 18446744073709551615) :
    Calls Try.prog 38 #[.pointer (some ⟨mb, 0, none⟩), .int .u64 a, .int .u64 x] U fun e V => e = .returned (.int .i64 (errM B a)) ∧ MemP P V mb B (setIf B M a x) T ∧ SepP P U V := by
  obtain ⟨F, k1, k2⟩ := h
  refine (store_c mb F B M T a x U k1 h0 h1 hx0 hx1).mono fun e V hh => ?_
  obtain ⟨q1, q2⟩ := hh
  have ⟨z1, z2⟩ := EndMem.sepP k1 q2 k2 hb
  exact ⟨q1, z1, z2⟩
theorem trace_p (P : Nat → Prop) (mb : Nat) (B : Int) (M : Int → Int) (T : List Int) (U : World) (h : MemP P U mb B M T) (hT : T.length ≤ 1000000) : Calls Try.prog 25 #[.pointer (some ⟨mb, 0, none⟩)] U (EndWords U T) := by
  obtain ⟨F, h1, h2⟩ := h
  exact trace_c mb F B M T U h1 hT
end Go.Proofs.YtkoohedbbdgjjaaR
