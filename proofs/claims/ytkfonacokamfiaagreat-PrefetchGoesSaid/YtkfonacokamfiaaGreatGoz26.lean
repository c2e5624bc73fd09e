/- Joined texts, part 26 of what the law stands on: each as its own head says. -/
import Derived.Test.YtkfonacokamfiaaGreatGoz21
import Derived.Test.YtkfonacokamfiaaGreatGoz23
import Derived.Test.YtkfonacokamfiaaGreatGoz18
import Derived.Test.YtkfonacokamfiaaGreatGoz25
import Derived.Test.YtkfonacokamfiaaGreatGoz8
/- A memory, translations and tables, side by side. -/
namespace Go.Proofs.YtkfonacokamfiaaGreat
set_option linter.unusedVariables false
set_option linter.unusedSimpArgs false
open Go.RowKit
attribute [local go_sem] wext_cell wext_frozen wext_heap alloc_cell alloc_frozen alloc_heap setCell_cell objCell_cells objFrozen_cells
def allO (Fm Ft : List Nat) (Fp : Int → List Nat) : List Nat := Fm ++ (Ft ++ allF Fp)
theorem mem_allO {Fm Ft : List Nat} {Fp : Int → List Nat} {x : Nat} : x ∈ allO Fm Ft Fp ↔ x ∈ Fm ∨ x ∈ Ft ∨ x ∈ allF Fp := by simp [allO]
def COk (C : Int → Lines) : Prop := ∀ l, 2 ≤ l → l ≤ 4 → ∀ y ∈ C l, 0 ≤ y.2.f ∧ y.2.f ≤ 18446744073709551615
structure OptAt (w : World) (mb : Nat) (Fm : List Nat) (M : Int → Int) (T : List Int) (tb cb : Nat) (Ft : List Nat) (TL : Lines) (r : Nat) (pb : Nat) (pc : Int → Nat) (Fp : Int → List Nat) (C : Int → Lines) (q : Nat) : Prop where
 both : Both w mb Fm M T pb pc Fp C q
 tlb : TAt w tb cb Ft TL r
 sm : ∀ x ∈ Ft, x ∉ Fm
 sp : ∀ x ∈ Ft, x ∉ allF Fp
 lok : LOk TL
 cok : COk C
def OTo (mb : Nat) (Fm : List Nat) (M' : Int → Int) (T' : List Int) (tb cb : Nat) (Ft : List Nat) (TL' : Lines) (r : Nat) (pb : Nat) (pc : Int → Nat) (Fp : Int → List Nat) (C' : Int → Lines) (q : Nat) (w w' : World) : Prop :=
 ∃ Fm' Ft' Fp', OptAt w' mb Fm' M' T' tb cb Ft' TL' r pb pc Fp' C' q ∧ Keeps (allO Fm Ft Fp) w w' ∧ ∀ x ∈ allO Fm' Ft' Fp', x ∈ allO Fm Ft Fp ∨ w.heap.size ≤ x
theorem TAt.lt {w : World} {tb cb : Nat} {F : List Nat} {L : Lines} {r : Nat} (h : TAt w tb cb F L r) : ∀ x ∈ F, x < w.heap.size := h.2.lt
theorem TAt.keeps {w w' : World} {tb cb : Nat} {F G : List Nat} {L : Lines} {r : Nat} (h : TAt w tb cb F L r) (k : Keeps G w w') (hd : ∀ x ∈ F, x ∉ G) (ht : tb ∉ G) : TAt w' tb cb F L r :=
 ⟨(k.block _ (heap_lt h.1) ht).trans h.1, h.2.keeps k hd⟩
section
variable {w w' w2 : World} {mb : Nat} {Fm : List Nat} {M M' M2 : Int → Int} {T T' T2 : List Int} {tb cb : Nat} {Ft : List Nat} {TL TL' TL2 : Lines} {r : Nat} {pb : Nat} {pc : Int → Nat} {Fp : Int → List Nat} {C C' C2 : Int → Lines} {q : Nat}
theorem OptAt.ext (h : OptAt w mb Fm M T tb cb Ft TL r pb pc Fp C q) (k : Ext w w') : OptAt w' mb Fm M T tb cb Ft TL r pb pc Fp C q := ⟨h.both.ext k, h.tlb.ext k, h.sm, h.sp, h.lok, h.cok⟩
theorem OptAt.lt (h : OptAt w mb Fm M T tb cb Ft TL r pb pc Fp C q) : ∀ x ∈ allO Fm Ft Fp, x < w.heap.size := fun x hx => by
 rcases mem_allO.1 hx with hx | hx | hx
 ·exact h.both.mem.lt x hx
 ·exact h.tlb.lt x hx
 ·exact h.both.psc.lt x hx
theorem OptAt.out (h : OptAt w mb Fm M T tb cb Ft TL r pb pc Fp C q) {b : Nat} {c : Array Value} {e : TypeId} (hb : w.heap[b]? = some (.cells c e (0, 0))) (h1 : e ≠ 124) (h2 : e ≠ 23) (h3 : e ≠ 139) (h4 : e ≠ 180) (h5 : e ≠ 187) : b ∉ allO Fm Ft Fp := fun hx => by
 rcases mem_allO.1 hx with hx | hx | hx
 ·exact h.both.mem.apart hb h1 h2 h3 hx
 ·exact h.tlb.2.apart hb h4 h5 hx
 ·exact h.both.psc.out hb h4 h5 hx
theorem OTo.refl (h : OptAt w mb Fm M T tb cb Ft TL r pb pc Fp C q) (k : Ext w w') : OTo mb Fm M T tb cb Ft TL r pb pc Fp C q w w' := ⟨Fm, Ft, Fp, h.ext k, Keeps.of_ext k, fun _ hx => .inl hx⟩
theorem OTo.ext (h : OTo mb Fm M' T' tb cb Ft TL' r pb pc Fp C' q w w') (k : Ext w' w2) : OTo mb Fm M' T' tb cb Ft TL' r pb pc Fp C' q w w2 := by
 obtain ⟨a, b, c, h1, h2, h3⟩ := h
 exact ⟨a, b, c, h1.ext k, h2.ext k, h3⟩
theorem OTo.before (k : Ext w w2) (h : OTo mb Fm M' T' tb cb Ft TL' r pb pc Fp C' q w2 w') : OTo mb Fm M' T' tb cb Ft TL' r pb pc Fp C' q w w' := by
 obtain ⟨a, b, c, h1, h2, h3⟩ := h
 exact ⟨a, b, c, h1, (Keeps.of_ext k).same h2, fun x hx => (h3 x hx).imp id fun h => Nat.le_trans k.size h⟩
theorem OTo.trans {Fm' Ft' : List Nat} {Fp' : Int → List Nat} (h : OptAt w' mb Fm' M' T' tb cb Ft' TL' r pb pc Fp' C' q ∧ Keeps (allO Fm Ft Fp) w w' ∧ ∀ x ∈ allO Fm' Ft' Fp', x ∈ allO Fm Ft Fp ∨ w.heap.size ≤ x)
  (k : OTo mb Fm' M2 T2 tb cb Ft' TL2 r pb pc Fp' C2 q w' w2) : OTo mb Fm M2 T2 tb cb Ft TL2 r pb pc Fp C2 q w w2 := by
 obtain ⟨a, b, c, h1, h2, h3⟩ := k
 exact ⟨a, b, c, h1, h.2.1.trans h2 h.2.2, fun x hx => (h3 x hx).elim (h.2.2 x) fun h4 => .inr (Nat.le_trans h.2.1.size h4)⟩
theorem OTo.keep (h : OTo mb Fm M' T' tb cb Ft TL' r pb pc Fp C' q w w') {b : Nat} {o : Obj} (hb : w.heap[b]? = some o) (hn : b ∉ allO Fm Ft Fp) : w'.heap[b]? = some o := by
 obtain ⟨a, b', c, h1, h2, h3⟩ := h
 exact (h2.block _ (heap_lt hb) hn).trans hb
theorem OTo.size (h : OTo mb Fm M' T' tb cb Ft TL' r pb pc Fp C' q w w') : w.heap.size ≤ w'.heap.size := by
 obtain ⟨a, b', c, h1, h2, h3⟩ := h
 exact h2.size
theorem OTo.to_ext (h : OTo mb Fm M' T' tb cb Ft TL' r pb pc Fp C' q w w') {W : World} (k : Ext W w) (hF : ∀ x ∈ allO Fm Ft Fp, W.heap.size ≤ x) : Ext W w' := by
 obtain ⟨a, b', c, h1, h2, h3⟩ := h
 exact Keeps.to_ext k h2 hF
theorem OptAt.after_mem (h : OptAt w mb Fm M T tb cb Ft TL r pb pc Fp C q) (e : EndMem mb Fm w 16 M' T' w') : OTo mb Fm M' T' tb cb Ft TL r pb pc Fp C q w w' := by
 obtain ⟨Fm', hB, k, f⟩ := h.both.after_mem e
 have hl := h.tlb.lt
 refine ⟨Fm', Ft, Fp, ⟨hB, h.tlb.keeps k h.sm (h.both.mem.apart h.tlb.1 (by decide) (by decide) (by decide)), fun x hx hm => ?_, h.sp, h.lok, h.cok⟩, k.mono fun x hx => .inl (mem_allO.2 (.inl hx)), fun x hx => ?_⟩
 ·rcases f x hm with y | y
  ·exact h.sm x hx y
  ·have := hl x hx; omega
 ·rcases mem_allO.1 hx with hx | hx | hx
  ·exact (f x hx).imp (fun y => mem_allO.2 (.inl y)) id
  ·exact .inl (mem_allO.2 (.inr (.inl hx)))
  ·exact .inl (mem_allO.2 (.inr (.inr hx)))
theorem OptAt.after_psc (h : OptAt w mb Fm M T tb cb Ft TL r pb pc Fp C q) (hc : COk C') (e : ∃ F', PscAt w' pb pc F' C' q ∧ Keeps (allF Fp) w w' ∧ ∀ x ∈ allF F', x ∈ allF Fp ∨ w.heap.size ≤ x) : OTo mb Fm M T tb cb Ft TL r pb pc Fp C' q w w' := by
 obtain ⟨Fp', hB, k, f⟩ := h.both.after_psc e
 have hl := h.tlb.lt
 refine ⟨Fm, Ft, Fp', ⟨hB, h.tlb.keeps k h.sp (h.both.psc.out h.tlb.1 (by decide) (by decide)), h.sm, fun x hx hm => ?_, h.lok, hc⟩, k.mono fun x hx => .inl (mem_allO.2 (.inr (.inr hx))), fun x hx => ?_⟩
 ·rcases f x hm with y | y
  ·exact h.sp x hx y
  ·have := hl x hx; omega
 ·rcases mem_allO.1 hx with hx | hx | hx
  ·exact .inl (mem_allO.2 (.inl hx))
  ·exact .inl (mem_allO.2 (.inr (.inl hx)))
  ·exact (f x hx).imp (fun y => mem_allO.2 (.inr (.inr y))) id
theorem OptAt.after_tlb (h : OptAt w mb Fm M T tb cb Ft TL r pb pc Fp C q) (hc : LOk TL') (e : ∃ F', TAt w' tb cb F' TL' r ∧ Keeps Ft w w' ∧ ∀ x ∈ F', x ∈ Ft ∨ w.heap.size ≤ x) : OTo mb Fm M T tb cb Ft TL' r pb pc Fp C q w w' := by
 obtain ⟨F', hT, k, f⟩ := e
 have hm := h.both.mem.lt
 have hp := h.both.psc.lt
 refine ⟨Fm, F', Fp, ⟨⟨h.both.mem.keeps k (fun x hx ht => h.sm x ht hx), h.both.psc.keeps k (fun x hx ht => h.sp x ht hx) (h.tlb.2.apart h.both.psc.head (by decide) (by decide)), h.both.sep⟩, hT, fun x hx hx2 => ?_, fun x hx hx2 => ?_, hc, h.cok⟩, k.mono fun x hx => .inl (mem_allO.2 (.inr (.inl hx))), fun x hx => ?_⟩
 ·rcases f x hx with y | y
  ·exact h.sm x y hx2
  ·have := hm x hx2; omega
 ·rcases f x hx with y | y
  ·exact h.sp x y hx2
  ·have := hp x hx2; omega
 ·rcases mem_allO.1 hx with hx | hx | hx
  ·exact .inl (mem_allO.2 (.inl hx))
  ·exact (f x hx).imp (fun y => mem_allO.2 (.inr (.inl y))) id
  ·exact .inl (mem_allO.2 (.inr (.inr hx)))
theorem OptAt.keeps {G : List Nat} (h : OptAt w mb Fm M T tb cb Ft TL r pb pc Fp C q) (k : Keeps G w w') (hd : ∀ x ∈ allO Fm Ft Fp, x ∉ G) (ht : tb ∉ G) (hp : pb ∉ G) : OptAt w' mb Fm M T tb cb Ft TL r pb pc Fp C q :=
 ⟨⟨h.both.mem.keeps k (fun x hx => hd x (mem_allO.2 (.inl hx))), h.both.psc.keeps k (fun x hx => hd x (mem_allO.2 (.inr (.inr hx)))) hp, h.both.sep⟩,
  h.tlb.keeps k (fun x hx => hd x (mem_allO.2 (.inr (.inl hx)))) ht, h.sm, h.sp, h.lok, h.cok⟩
theorem OTo.aside {b : Nat} {c : Array Value} {e : TypeId} (h : OTo mb Fm M' T' tb cb Ft TL' r pb pc Fp C' q w w') (k : Keeps [b] w' w2) (hw : w.heap.size ≤ b) (hb : w'.heap[b]? = some (.cells c e (0, 0)))
  (h1 : e ≠ 124) (h2 : e ≠ 23) (h3 : e ≠ 139) (h4 : e ≠ 180) (h5 : e ≠ 187) (h6 : e ≠ 147) (h7 : e ≠ 150) : OTo mb Fm M' T' tb cb Ft TL' r pb pc Fp C' q w w2 := by
 obtain ⟨x, y, z, g1, g2, g3⟩ := h
 refine ⟨x, y, z, g1.keeps k (fun a ha hm => ?_) (fun hm => ?_) (fun hm => ?_), g2.trans k (fun a ha => .inr (by rw [List.mem_singleton.1 ha]; exact hw)), g3⟩
 ·rw [List.mem_singleton.1 hm] at ha; exact g1.out hb h1 h2 h3 h4 h5 ha
 ·have := g1.tlb.1; rw [List.mem_singleton.1 hm, hb] at this; simp only [Option.some.injEq, Obj.cells.injEq] at this; exact h6 this.2.1
 ·have := g1.both.psc.head; rw [List.mem_singleton.1 hm, hb] at this; simp only [Option.some.injEq, Obj.cells.injEq] at this; exact h7 this.2.1
theorem OptAt.memP (h : OptAt w mb Fm M T tb cb Ft TL r pb pc Fp C q) : MemP (fun x => x ∈ Fm ∨ w.heap.size ≤ x) w mb 16 M T := ⟨Fm, h.both.mem, fun x hx => .inl hx⟩
theorem EndMem.ofP (h : MemP (fun x => x ∈ Fm ∨ w.heap.size ≤ x) w' mb 16 M' T') (k : SepP (fun x => x ∈ Fm ∨ w.heap.size ≤ x) w w') : EndMem mb Fm w 16 M' T' w' := by
 obtain ⟨F', h1, h2⟩ := h
 exact ⟨F', h1, ⟨k.1.1, k.1.2.1, k.1.2.2.1, k.size, fun b hb hn => k.1.2.2.2.2 b hb fun hp => by rcases hp with hp | hp; exact hn hp; omega⟩, h2⟩
end
end Go.Proofs.YtkfonacokamfiaaGreat
/- Rights and steps compared; words in rows. -/
namespace Go.Proofs.YtkfonacokamfiaaGreat
set_option linter.unusedVariables false
set_option linter.unusedSimpArgs false
open Go.RowKit
attribute [local go_sem] wext_cell wext_frozen wext_heap alloc_cell alloc_frozen alloc_heap setCell_cell objCell_cells objFrozen_cells
def rtB (x y : Rt) : Bool := decide (x = y)
theorem rt_equal (x y : Rt) (w : World) : (Op.equal 84 (.agg #[.bool x.1, .bool x.2.1, .bool x.2.2]) (.agg #[.bool y.1, .bool y.2.1, .bool y.2.2])).run Tryz.prog w = .ok (decide (x = y)) w := by
 show (Op.equalIn 10000 _ _ _).run _ _ = _
 obtain ⟨p, l, t⟩ := x
 obtain ⟨p', l', t'⟩ := y
 simp [go_sem]
 by_cases h1 : p = p' <;> by_cases h2 : l = l' <;> by_cases h3 : t = t' <;> simp [*]
theorem rt_eql (p l t p' l' t' : Bool) (w : World) : (binOp .eql 84 (.agg #[.bool p, .bool l, .bool t]) (.agg #[.bool p', .bool l', .bool t'])).run Tryz.prog w = .ok (.bool (rtB (p, l, t) (p', l', t'))) w := by
 have := rt_equal (p, l, t) (p', l', t') w
 rw [run_eql_struct]
 show ((Op.equal _ _ _).run _ _).andThen _ = _
 rw [this]; rfl
theorem rt_neq (p l t p' l' t' : Bool) (w : World) : (binOp .neq 84 (.agg #[.bool p, .bool l, .bool t]) (.agg #[.bool p', .bool l', .bool t'])).run Tryz.prog w = .ok (.bool (!rtB (p, l, t) (p', l', t'))) w := by
 have := rt_equal (p, l, t) (p', l', t') w
 rw [run_neq_struct]
 show ((Op.equal _ _ _).run _ _).andThen _ = _
 rw [this]; rfl
theorem rtB_self (r : Rt) : rtB r r = true := by simp [rtB]
theorem Owns.word {U : World} {sa : Option Addr} {n sc : Nat} {xs : List Int} (h : Owns U 23 1 (.slice sa n sc) n (xs.map (.int .u64 ·))) {i : Nat} (hi : i < n) (hn : n = n) :
  ∃ g, sa = some ⟨g, 0, none⟩ ∧ g < U.heap.size ∧ U.cell? ⟨g, i, none⟩ = some (.int .u64 (xs.getD i 0)) := by
 obtain ⟨g, hg⟩ : ∃ g, sa = some ⟨g, 0, none⟩ := by
  rcases h.2 with ⟨h1, h0⟩ | ⟨g, _, _, he, _⟩
  ·omega
  ·exact ⟨g, by injection he⟩
 subst hg
 have hl : xs.length = n := by have := h.1; simpa using this
 exact ⟨g, rfl, h.lt g rfl, h.cells (g := g) rfl i _ (by simp [List.getD, hl, hi])⟩
theorem bit0 (x : Int) : bitB x 0 = (x % 2 == 1) := by unfold bitB; rw [show pow2 0 = 1 from rfl, Int.ediv_one]
def stB (x y : Stp) : Bool := decide (x = y)
theorem st_equal (x y : Stp) (w : World) : (Op.equal 94 (.agg #[.int .i64 x.1, .int .u64 x.2.1, .int .u64 x.2.2]) (.agg #[.int .i64 y.1, .int .u64 y.2.1, .int .u64 y.2.2])).run Tryz.prog w = .ok (decide (x = y)) w := by
 show (Op.equalIn 10000 _ _ _).run _ _ = _
 obtain ⟨p, l, t⟩ := x
 obtain ⟨p', l', t'⟩ := y
 simp [go_sem]
 by_cases h1 : p = p' <;> by_cases h2 : l = l' <;> by_cases h3 : t = t' <;> simp [*]
theorem st_eql (p l t p' l' t' : Int) (w : World) : (binOp .eql 94 (.agg #[.int .i64 p, .int .u64 l, .int .u64 t]) (.agg #[.int .i64 p', .int .u64 l', .int .u64 t'])).run Tryz.prog w = .ok (.bool (stB (p, l, t) (p', l', t'))) w := by
 have := st_equal (p, l, t) (p', l', t') w
 rw [run_eql_struct]
 show ((Op.equal _ _ _).run _ _).andThen _ = _
 rw [this]; rfl
theorem st_neq (p l t p' l' t' : Int) (w : World) : (binOp .neq 94 (.agg #[.int .i64 p, .int .u64 l, .int .u64 t]) (.agg #[.int .i64 p', .int .u64 l', .int .u64 t'])).run Tryz.prog w = .ok (.bool (!stB (p, l, t) (p', l', t'))) w := by
 have := st_equal (p, l, t) (p', l', t') w
 rw [run_neq_struct]
 show ((Op.equal _ _ _).run _ _).andThen _ = _
 rw [this]; rfl
theorem stB_self (s : Stp) : stB s s = true := by simp [stB]
theorem Owns.store7 {U : World} {e : TypeId} {k : Nat} {v : Value} {n : Nat} {xs : List Value} (h : Owns U e k v n xs) {qb : Nat} {c : Array Value} {e' : TypeId} (hq : U.heap[qb]? = some (.cells c e' (0, 0))) (hne : e ≠ e') {v0 v1 v2 v3 v4 v5 v6 : Value} :
  Owns (((((((U.setCell ⟨qb, 0, none⟩ v0).setCell ⟨qb, 1, none⟩ v1).setCell ⟨qb, 2, none⟩ v2).setCell ⟨qb, 3, none⟩ v3).setCell ⟨qb, 4, none⟩ v4).setCell ⟨qb, 5, none⟩ v5).setCell ⟨qb, 6, none⟩ v6) e k v n xs :=
 h.keep fun g hg => by
  obtain ⟨c', hc⟩ := h.heap g hg
  exact store7_other (fun e => by rw [← e, hq] at hc; simp only [Option.some.injEq, Obj.cells.injEq] at hc; exact hne hc.2.1.symm)
theorem PathAt.store7 {U : World} {b : Nat} {sa : Option Addr} {sc : Nat} {q : List Stp × WRes} (h : PathAt U b sa sc q) {qb : Nat} {c : Array Value} (hq : U.heap[qb]? = some (.cells c 86 (0, 0))) (hne : qb ≠ b) {v0 v1 v2 v3 v4 v5 v6 : Value} :
  PathAt (((((((U.setCell ⟨qb, 0, none⟩ v0).setCell ⟨qb, 1, none⟩ v1).setCell ⟨qb, 2, none⟩ v2).setCell ⟨qb, 3, none⟩ v3).setCell ⟨qb, 4, none⟩ v4).setCell ⟨qb, 5, none⟩ v5).setCell ⟨qb, 6, none⟩ v6) b sa sc q :=
 ⟨(store7_other hne).trans h.1, h.2.store7 hq (by decide)⟩
end Go.Proofs.YtkfonacokamfiaaGreat
