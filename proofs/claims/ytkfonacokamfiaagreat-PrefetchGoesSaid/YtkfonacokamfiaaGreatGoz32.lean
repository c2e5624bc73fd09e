/- Joined texts, part 32 of what the law stands on: each as its own head says. -/
import Derived.Test.YtkfonacokamfiaaGreatGoz2
import Derived.Test.YtkfonacokamfiaaGreatGoz31
import Derived.Test.YtkfonacokamfiaaGreatGoz9
/- What is left behind an append of one that was just built. -/
namespace Go.Proofs.YtkfonacokamfiaaGreat
open Go.RowKit
theorem grown_after {U W w3 : World} {o : Obj} {prev v3 : Value} {base : Nat} (hb : base ≤ W.heap.size) (hU : U.heap.size ≤ base) (hE : Ext U W) (hG : ∀ g, prev.ownBlock = some g → base ≤ g)
  (q2 : (W.alloc o).grownBy w3 prev.ownBlock) (q3 : v3.ownBlock = prev.ownBlock ∨ v3.ownBlock = some (W.alloc o).heap.size) :
  Ext U w3 ∧ (∀ b ob, b < base → W.heap[b]? = some ob → w3.heap[b]? = some ob) ∧ (∀ g, v3.ownBlock = some g → base ≤ g) ∧ base ≤ w3.heap.size := by
 refine ⟨Keeps.to_ext (F := []) (Ext.refl U) ((Keeps.of_ext (hE.alloc _)).grown q2 (fun x hx => .inr (Nat.le_trans hU (hG x hx)))) (by simp), fun b ob hlt h => ?_, fun g hg => ?_, ?_⟩
 ·exact ((q2.block b (by simp; omega) (fun e => by have := hG b e.symm; omega)).trans (alloc_other _ _ (by omega))).trans h
 ·rcases q3 with q3 | q3 <;> rw [q3] at hg
  ·exact hG g hg
  ·simp only [Option.some.injEq, World.size_alloc] at hg; omega
 ·have := q2.size; simp at this; omega
end Go.Proofs.YtkfonacokamfiaaGreat
/- prefetch.Ahead: a list of pages, each looked for. -/
namespace Go.Proofs.YtkfonacokamfiaaGreat
set_option linter.unusedVariables false
set_option linter.unusedSimpArgs false
open Go.RowKit
attribute [local go_sem] wext_cell wext_frozen wext_heap alloc_cell alloc_frozen alloc_heap setCell_cell objCell_cells objFrozen_cells
def aheadStep (r q : Nat) (u : Who) (z : OSt × List Int) (a : Int) : OSt × List Int :=
 ((fireF r q canonB u a z.1).1, if (fireF r q canonB u a z.1).2 then z.2 ++ [a] else z.2)
def aheadF (r q : Nat) (u : Who) (S : OSt) (xs : List Int) : OSt × List Int := xs.foldl (aheadStep r q u) (S, [])
theorem aheadF_take (r q : Nat) (u : Who) (S : OSt) (xs : List Int) (j : Nat) (h : j < xs.length) : aheadF r q u S (xs.take (j + 1)) = aheadStep r q u (aheadF r q u S (xs.take j)) (xs.getD j 0) := by
 have e : xs.take (j + 1) = xs.take j ++ [xs.getD j 0] := by rw [List.take_add_one, List.getElem?_eq_getElem h]; simp [List.getD, h]
 rw [e, aheadF, List.foldl_append]; rfl
theorem fireF_T (r q : Nat) (u : Who) (a : Int) (S : OSt) (hC : COk S.C) (h0 : 0 ≤ u.root) (h1 : u.root ≤ 18446744073709551615) : (fireF r q canonB u a S).1.T.length ≤ S.T.length + 12 := by
 have ⟨⟨s0, s1⟩, _⟩ := startQ_le (p := u.p) (a := a) hC h0 h1
 have hl := walk_len (M := S.M) (B := 16) (nxe := u.nxe) (a := a) (startQ u.root (deepF S.C u.p a)).1.toNat (startQ u.root (deepF S.C u.p a)).2.1 (startQ u.root (deepF S.C u.p a)).2.2
 have hj : (jobW S.M u.nxe u.root u.p a S.C).1.length ≤ 4 := by unfold jobW; omega
 unfold fireF
 split
 ·simp
 ·split
  ·have hk : (keepT (jobW S.M u.nxe u.root u.p a S.C).2.2.2.1 (lastS (jobW S.M u.nxe u.root u.p a S.C).1)).length ≤ 8 := by
    unfold keepT; split
    ·simp
    ·exact grpT_length _ 8
   simp only [keepS, List.length_append, List.length_map]; omega
  ·simp only [List.length_append, List.length_map]; omega
theorem aheadF_len (r q : Nat) (u : Who) (S : OSt) (xs : List Int) : (aheadF r q u S xs).2.length ≤ xs.length := by
 have g : ∀ (xs : List Int) (z : OSt × List Int), (xs.foldl (aheadStep r q u) z).2.length ≤ z.2.length + xs.length := by
  intro xs
  induction xs with
  | nil => intro z; simp
  | cons x xs ih =>
   intro z
   have := ih (aheadStep r q u z x)
   simp only [List.foldl_cons, List.length_cons]
   have h2 : (aheadStep r q u z x).2.length ≤ z.2.length + 1 := by unfold aheadStep; dsimp only; split <;> simp
   omega
 have := g xs (S, [])
 simpa [aheadF] using this
def rowI (xs : List Int) : List Value := xs.map fun x => .int .u64 x
def PlanAt (w : World) (G : List Nat) (v : Value) (xs : List Int) : Prop :=
 ∃ a cap, v = .slice a xs.length cap ∧ xs.length ≤ maxLen ∧ (∀ x ∈ xs, 0 ≤ x ∧ x ≤ 18446744073709551615) ∧ ∀ j, j < xs.length → ∃ g o, a = some ⟨g, o, none⟩ ∧ g ∉ G ∧ g < w.heap.size ∧ w.cell? ⟨g, o + j, none⟩ = some (.int .u64 (xs.getD j 0))
def EndAhead (mb : Nat) (Fm : List Nat) (tb cb : Nat) (Ft : List Nat) (r : Nat) (pb : Nat) (pc : Int → Nat) (Fp : Int → List Nat) (q : Nat) (z : OSt × List Int) (w : World) (e : Ending) (w' : World) : Prop :=
 ∃ v Fm' Ft' Fp', e = .returned v ∧ Owns w' 23 1 v z.2.length (rowI z.2) ∧ (∀ g, v.ownBlock = some g → w.heap.size ≤ g ∧ g ∉ allO Fm' Ft' Fp') ∧
  OptAt w' mb Fm' z.1.M z.1.T tb cb Ft' z.1.L r pb pc Fp' z.1.C q ∧ Keeps (allO Fm Ft Fp) w w' ∧ ∀ x ∈ allO Fm' Ft' Fp', x ∈ allO Fm Ft Fp ∨ w.heap.size ≤ x
structure AhSt (mb : Nat) (Fm : List Nat) (tb cb : Nat) (Ft : List Nat) (r : Nat) (pb : Nat) (pc : Int → Nat) (Fp : Int → List Nat) (q : Nat) (z : OSt × List Int) (w : World) (Fm' Ft' : List Nat) (Fp' : Int → List Nat) (v : Value) (w' : World) : Prop where
 opt : OptAt w' mb Fm' z.1.M z.1.T tb cb Ft' z.1.L r pb pc Fp' z.1.C q
 ks : Keeps (allO Fm Ft Fp) w w'
 fr : ∀ x ∈ allO Fm' Ft' Fp', x ∈ allO Fm Ft Fp ∨ w.heap.size ≤ x
 own : Owns w' 23 1 v z.2.length (rowI z.2)
 nb : ∀ g, v.ownBlock = some g → w.heap.size ≤ g ∧ g ∉ allO Fm' Ft' Fp'
theorem AhSt.fire {mb : Nat} {Fm : List Nat} {tb cb : Nat} {Ft : List Nat} {r : Nat} {pb : Nat} {pc : Int → Nat} {Fp : Int → List Nat} {q : Nat} {z : OSt × List Int} {w : World} {Fm' Ft' : List Nat} {Fp' : Int → List Nat} {v : Value} {w1 w2 : World} {S : OSt}
  (h : AhSt mb Fm tb cb Ft r pb pc Fp q z w Fm' Ft' Fp' v w1) (k : OTo mb Fm' S.M S.T tb cb Ft' S.L r pb pc Fp' S.C q w1 w2) : ∃ F1 F2 F3, AhSt mb Fm tb cb Ft r pb pc Fp q (S, z.2) w F1 F2 F3 v w2 := by
 obtain ⟨a, b, c, h1, h2, h3⟩ := k
 have hk : ∀ g, v.ownBlock = some g → w2.heap[g]? = w1.heap[g]? := fun g hg => h2.block g (h.own.lt g hg) (h.nb g hg).2
 exact ⟨a, b, c, h1, h.ks.trans h2 h.fr, fun x hx => (h3 x hx).elim (h.fr x) fun hh => .inr (Nat.le_trans h.ks.size hh), h.own.keep hk,
  fun g hg => ⟨(h.nb g hg).1, fun hx => (h3 g hx).elim (h.nb g hg).2 fun hh => by have := h.own.lt g hg; omega⟩⟩
theorem AhSt.ext {mb : Nat} {Fm : List Nat} {tb cb : Nat} {Ft : List Nat} {r : Nat} {pb : Nat} {pc : Int → Nat} {Fp : Int → List Nat} {q : Nat} {z : OSt × List Int} {w : World} {Fm' Ft' : List Nat} {Fp' : Int → List Nat} {v : Value} {w1 w2 : World}
  (h : AhSt mb Fm tb cb Ft r pb pc Fp q z w Fm' Ft' Fp' v w1) (k : Ext w1 w2) : AhSt mb Fm tb cb Ft r pb pc Fp q z w Fm' Ft' Fp' v w2 :=
 ⟨h.opt.ext k, h.ks.ext k, h.fr, h.own.ext k, h.nb⟩
theorem AhSt.app {mb : Nat} {Fm : List Nat} {tb cb : Nat} {Ft : List Nat} {r : Nat} {pb : Nat} {pc : Int → Nat} {Fp : Int → List Nat} {q : Nat} {z : OSt × List Int} {w : World} {Fm' Ft' : List Nat} {Fp' : Int → List Nat} {v v' : Value} {w1 w2 : World} {o : Obj} {x : Int}
  (h : AhSt mb Fm tb cb Ft r pb pc Fp q z w Fm' Ft' Fp' v w1) (q1 : Owns w2 23 1 v' (z.2.length + 1) (rowI z.2 ++ [.int .u64 x])) (q2 : (w1.alloc o).grownBy w2 v.ownBlock) (q3 : v'.ownBlock = v.ownBlock ∨ v'.ownBlock = some (w1.alloc o).heap.size)
  (ht : v.ownBlock ≠ some tb) (hp : v.ownBlock ≠ some pb) : AhSt mb Fm tb cb Ft r pb pc Fp q (z.1, z.2 ++ [x]) w Fm' Ft' Fp' v' w2 := by
 have hs := q2.size
 simp only [World.size_alloc] at hs
 obtain ⟨G, hG, hg⟩ : ∃ G : List Nat, (∀ g, v.ownBlock = some g → g ∈ G) ∧ ∀ g ∈ G, v.ownBlock = some g := by
  cases hv : v.ownBlock with
  | none => exact ⟨[], fun g e => (by cases e), fun g hg => (by cases hg)⟩
  | some b => exact ⟨[b], fun g e => (by cases e; simp), fun g hg => (by rw [List.mem_singleton.1 hg])⟩
 have hk : Keeps G w1 w2 := ⟨q2.os, q2.tape, q2.output, by omega, fun b hb hn => (q2.block b (by simp; omega) (fun e => hn (hG b e.symm))).trans (alloc_other _ _ hb)⟩
 refine ⟨h.opt.keeps hk (fun y hy hyG => (h.nb y (hg y hyG)).2 hy) (fun hy => ht (hg tb hy)) (fun hy => hp (hg pb hy)), h.ks.trans hk (fun y hy => .inr (h.nb y (hg y hy)).1), h.fr, ?_, fun g hgv => ?_⟩
 ·simpa [rowI] using q1
 ·rcases q3 with q3 | q3 <;> rw [q3] at hgv
  ·exact h.nb g hgv
  ·simp only [Option.some.injEq, World.size_alloc] at hgv
   exact ⟨by have := h.ks.size; omega, fun hx => by have := h.opt.lt g hx; omega⟩
set_option maxHeartbeats 4000000 in
set_option maxRecDepth 100000 in
theorem ahead_c (mb : Nat) (Fm : List Nat) (S : OSt) (tb cb : Nat) (Ft : List Nat) (r : Nat) (pb : Nat) (pc : Int → Nat) (Fp : Int → List Nat) (q : Nat) (u : Who) (kd : Int) (us ac wp sp sm : Bool) (v : Value) (xs : List Int) (w : World)
  (h : OptAt w mb Fm S.M S.T tb cb Ft S.L r pb pc Fp S.C q) (hT : S.T.length + 12 * xs.length ≤ 880000) (hu : u.ok) (hP : PlanAt w (allO Fm Ft Fp) v xs) :
  Calls Tryz.prog 16 #[.pointer (some ⟨mb, 0, none⟩), .agg #[.pointer (some ⟨tb, 0, none⟩), .pointer (some ⟨pb, 0, none⟩)], .agg #[.int .i64 u.p, .int .i64 u.k0, .int .i64 u.k1, .int .i64 u.k2, .int .i64 u.k3], .agg #[.int .u64 u.root, .int .i64 kd, .bool us, .bool ac, .bool wp, .bool u.nxe, .bool sp, .bool sm], v] w
   (EndAhead mb Fm tb cb Ft r pb pc Fp q (aheadF r q u S xs) w) := by
 obtain ⟨pa, cap, rfl, hm, hok, hcl⟩ := hP
 have hu0 := hu.2.2.1
 have hu1 := hu.2.2.2
 have HU := Lib.hid hu
 clear hu
 have H := Lib.hid h
 have HC := Lib.hid hcl
 have HK := Lib.hid hok
 clear h hcl hok
 go_enter Tryz.func16, Tryz.ntmps16
 go_upto_region 2 with (fail)
 refine wp_gen ?_; intro V hV
 have hVE : Ext w V := by rw [hV]; exact (by repeat (first | exact Ext.refl _ | assumption | refine Ext.alloc ?_ _ | refine Ext.drew ?_ | refine Ext.setCell ?_ (by first | (simp; done) | (dsimp only; omega)) _ | refine Ext.trans ?_ (by assumption)))
 have b1 : V.heap[w.heap.size]? = some (.cells #[.pointer (some ⟨tb, 0, none⟩), .pointer (some ⟨pb, 0, none⟩)] 64 (0, 0)) := by rw [hV]; exact (alloc_other _ _ (by simp; omega)).trans ((alloc_other _ _ (by simp)).trans (alloc_same ..))
 have b2 : V.heap[w.heap.size + 1]? = some (.cells #[.int .i64 u.p, .int .i64 u.k0, .int .i64 u.k1, .int .i64 u.k2, .int .i64 u.k3] 32 (0, 0)) := by rw [hV]; exact (alloc_other _ _ (by simp)).trans (alloc_same1 ..)
 have b3 : V.heap[w.heap.size + 1 + 1]? = some (.cells #[.int .u64 u.root, .int .i64 kd, .bool us, .bool ac, .bool wp, .bool u.nxe, .bool sp, .bool sm] 29 (0, 0)) := by rw [hV]; exact alloc_same2 ..
 obtain ⟨n, hn⟩ : ∃ n, w.heap.size = n := ⟨_, rfl⟩
 rw [hn] at b1 b2 b3 ⊢
 have hnV : n + 1 + 1 < V.heap.size := heap_lt b3
 have HN := Lib.hid hn
 have VE := Lib.hid hVE
 have S0 : Hid (AhSt mb Fm tb cb Ft r pb pc Fp q (S, []) w Fm Ft Fp (.slice none 0 0) V) := Lib.hid ⟨H.out.ext hVE, Keeps.of_ext hVE, fun x hx => .inl hx, Owns.nil .., fun g e => by cases e⟩
 have B1 := Lib.hid b1
 have B2 := Lib.hid b2
 have B3 := Lib.hid b3
 clear hV hn hVE b1 b2 b3
 have hxs : (xs.take 0) = [] := rfl
 go_wp2
 go_loopw [11, 16] (fun l i wr => ∃ (j k : Nat) (a : Option Addr) (c : Nat), j ≤ xs.length ∧ k ≤ j ∧ i = .int .i64 j ∧ l = .slice a k c ∧ n + 1 + 1 < wr.heap.size ∧ Hid (wr.heap[n]? = V.heap[n]? ∧ wr.heap[n + 1]? = V.heap[n + 1]? ∧ wr.heap[n + 1 + 1]? = V.heap[n + 1 + 1]? ∧ k = (aheadF r q u S (xs.take j)).2.length ∧ (aheadF r q u S (xs.take j)).1.T.length ≤ S.T.length + 12 * j ∧ ∃ F1 F2 F3, AhSt mb Fm tb cb Ft r pb pc Fp q (aheadF r q u S (xs.take j)) w F1 F2 F3 l wr)) (fun _ i _ => xs.length - (intOf i).toNat)
 case atStart => exact ⟨0, 0, none, 0, by omega, by omega, rfl, rfl, hnV, Lib.hid ⟨rfl, rfl, rfl, rfl, by simp [aheadF], Fm, Ft, Fp, S0.out⟩⟩
 case round =>
  obtain ⟨j, k, la, lc, hj, hkj, rfl, rfl, hnr, hR⟩ := hrel
  by_cases hlt : j < xs.length
  ·obtain ⟨g, o, rfl, hg, hgl, hx⟩ := HC.out j hlt
   have hxr := HK.out (xs.getD j 0) (by rw [List.getD_eq_getElem?_getD, List.getElem?_eq_getElem hlt]; exact List.getElem_mem hlt)
   obtain ⟨r1, r2, r3, hk, hTj, F1, F2, F3, hA⟩ := hR.out
   have d0 : wr.cell? ⟨g, o + j, none⟩ = some (.int .u64 (xs.getD j 0)) := (World.cell?_of_block (hA.ks.block g hgl hg)).trans hx
   have y1 := r1.trans B1.out
   have y2 := r2.trans B2.out
   have y3 := r3.trans B3.out
   have k10 := (heap_cell y1 0).trans rfl
   have k11 := (heap_cell y1 1).trans rfl
   have k20 := (heap_cell y2 0).trans rfl
   have k21 := (heap_cell y2 1).trans rfl
   have k22 := (heap_cell y2 2).trans rfl
   have k23 := (heap_cell y2 3).trans rfl
   have k24 := (heap_cell y2 4).trans rfl
   have k30 := (heap_cell y3 0).trans rfl
   have k31 := (heap_cell y3 1).trans rfl
   have k32 := (heap_cell y3 2).trans rfl
   have k33 := (heap_cell y3 3).trans rfl
   have k34 := (heap_cell y3 4).trans rfl
   have k35 := (heap_cell y3 5).trans rfl
   have k36 := (heap_cell y3 6).trans rfl
   have k37 := (heap_cell y3 7).trans rfl
   have hst := Lib.hid (aheadF_take r q u S xs j hlt)
   have hTn := Lib.hid (fireF_T r q u (xs.getD j 0) (aheadF r q u S (xs.take j)).1 hA.opt.cok hu0 hu1)
   have HF := Lib.hid (fire_c mb F1 (aheadF r q u S (xs.take j)).1 tb cb F2 r pb pc F3 q u kd (xs.getD j 0) us ac wp sp sm wr hA.opt (by omega) HU.out hxr.1 hxr.2)
   have A0 := Lib.hid hA
   have A1 := Lib.hid (⟨y1, y2, y3⟩ : _ ∧ _ ∧ _)
   have HK1 := Lib.hid (⟨hk, hTj⟩ : _ ∧ _)
   have htk : j + 1 ≤ xs.length := hlt
   clear hA hx hg hk hTj r1 r2 r3 y1 y2 y3 hR
   obtain ⟨z, hz⟩ : ∃ z, aheadF r q u S (xs.take j) = z := ⟨_, rfl⟩
   rw [hz] at hst hTn HF A0 HK1
   obtain ⟨x, hx⟩ : ∃ x, xs.getD j 0 = x := ⟨_, rfl⟩
   rw [hx] at d0 hst hTn HF hxr
   obtain ⟨y, hy⟩ : ∃ y, fireF r q canonB u x z.1 = y := ⟨_, rfl⟩
   have hst2 : Hid (aheadF r q u S (xs.take (j + 1)) = (y.1, if y.2 then z.2 ++ [x] else z.2)) := Lib.hid (by rw [hst.out]; unfold aheadStep; rw [hy])
   rw [hy] at hTn HF
   obtain ⟨S1, fd⟩ := y
   unfold EndFire at HF
   dsimp only at HF hst2 hTn
   clear hy hx hz hst
   cases fd
   ·go_wp2_with (first | (go_at_call 37; refine HF.out.mono ?_; rintro e w2 ⟨rfl, hO⟩))
    have hf := A0.out.fire hO
    have ks := hO.size
    have bk : ∀ b ob, wr.heap[b]? = some ob → (∃ c e, ob = Obj.cells c e (0, 0) ∧ e ≠ 124 ∧ e ≠ 23 ∧ e ≠ 139 ∧ e ≠ 180 ∧ e ≠ 187) → w2.heap[b]? = some ob := fun b ob hb ⟨c, e, ho, e1, e2, e3, e4, e5⟩ => hO.keep hb (A0.out.opt.out (ho ▸ hb) e1 e2 e3 e4 e5)
    refine ⟨⟨j + 1, k, la, lc, htk, by omega, by go_num, rfl, by omega, Lib.hid ⟨(bk _ _ A1.out.1 ⟨_, _, rfl, by decide, by decide, by decide, by decide, by decide⟩).trans B1.out.symm, (bk _ _ A1.out.2.1 ⟨_, _, rfl, by decide, by decide, by decide, by decide, by decide⟩).trans B2.out.symm, (bk _ _ A1.out.2.2 ⟨_, _, rfl, by decide, by decide, by decide, by decide, by decide⟩).trans B3.out.symm, ?_⟩⟩, by simp [intOf]; omega⟩
    rw [hst2.out]
    have := hTn.out
    have := HK1.out.2
    exact ⟨HK1.out.1, by dsimp only; omega, hf⟩
   ·go_upto_region 6 with (first | (go_at_call 37; refine HF.out.mono ?_; rintro e w2 ⟨rfl, hO⟩))
    have ks := hO.size
    have bk : ∀ b ob, wr.heap[b]? = some ob → (∃ c e, ob = Obj.cells c e (0, 0) ∧ e ≠ 124 ∧ e ≠ 23 ∧ e ≠ 139 ∧ e ≠ 180 ∧ e ≠ 187) → w2.heap[b]? = some ob := fun b ob hb ⟨c, e, ho, e1, e2, e3, e4, e5⟩ => hO.keep hb (A0.out.opt.out (ho ▸ hb) e1 e2 e3 e4 e5)
    have p1 := bk _ _ A1.out.1 ⟨_, _, rfl, by decide, by decide, by decide, by decide, by decide⟩
    have p2 := bk _ _ A1.out.2.1 ⟨_, _, rfl, by decide, by decide, by decide, by decide, by decide⟩
    have p3 := bk _ _ A1.out.2.2 ⟨_, _, rfl, by decide, by decide, by decide, by decide, by decide⟩
    obtain ⟨F1', F2', F3', hf⟩ := A0.out.fire hO
    have PP := Lib.hid (⟨p1, p2, p3⟩ : _ ∧ _ ∧ _)
    have AF := Lib.hid hf
    have hkl := HK1.out.1
    have HA := Lib.hid (hf.own.ext ((Ext.refl w2).alloc (.cells #[.int .u64 x] 23)))
    rw [← hkl] at HA
    have hk63 : k ≤ 140000000000000 := by unfold maxLen at hm; omega
    clear p1 p2 p3 hf bk d0 k10 k11 k20 k21 k22 k23 k24 k30 k31 k32 k33 k34 k35 k36 k37 HF A0 A1
    go_wp2_with (first | (at_builtin; refine wpList_append_owns rfl _ _ _ _ 1 8 wordRow rfl _ rfl k _ HA.out _ 1 1 rfl [.int .u64 x] rfl (fun j u hu => by rw [add0, heap_cell (alloc_same w2 _) j]; simpa using hu) (by simp [Value.oneCell']) (by unfold maxLen; omega) (by omega) ?_; intro v9 w9 q1 q2 q3; replace q2 : (w2.alloc (.cells #[.int .u64 x] 23)).grownBy w9 (Value.slice la k lc).ownBlock := q2; replace q3 : v9.ownBlock = (Value.slice la k lc).ownBlock ∨ v9.ownBlock = some (w2.alloc (.cells #[.int .u64 x] 23)).heap.size := q3; obtain ⟨a9, c9, rfl, -, -⟩ := q1.form; simp only [Act.put, Array.set!_eq_setIfInBounds, List.setIfInBounds_toArray, List.set_cons_succ, List.set_cons_zero]))
    all_goals
     have ht : (Value.slice la k lc).ownBlock ≠ some tb := fun e => by
      obtain ⟨c', hc'⟩ := AF.out.own.heap tb e
      have := AF.out.opt.tlb.1; rw [hc'] at this; cases this
     have hp : (Value.slice la k lc).ownBlock ≠ some pb := fun e => by
      obtain ⟨c', hc'⟩ := AF.out.own.heap pb e
      have := AF.out.opt.both.psc.head; rw [hc'] at this; cases this
     have hq := AF.out.app (x := x) (by rw [← hkl]; exact q1) q2 q3 ht hp
     have hs := q2.size
     simp only [World.size_alloc] at hs
     have bk : ∀ b ob, w2.heap[b]? = some ob → (∃ c e, ob = Obj.cells c e (0, 0) ∧ e ≠ 23) → w9.heap[b]? = some ob := fun b ob hb ⟨c, e, ho, e2⟩ => by
      have hlt' := heap_lt hb
      refine (q2.block b (by simp; omega) (fun eb => ?_)).trans ((alloc_other _ _ hlt').trans hb)
      obtain ⟨c', hc'⟩ := AF.out.own.heap b eb.symm
      rw [hc', ho] at hb; cases hb; exact e2 rfl
     refine ⟨⟨j + 1, k + 1, a9, c9, htk, by omega, by go_num, rfl, by omega, Lib.hid ⟨(bk _ _ PP.out.1 ⟨_, _, rfl, by decide⟩).trans B1.out.symm, (bk _ _ PP.out.2.1 ⟨_, _, rfl, by decide⟩).trans B2.out.symm, (bk _ _ PP.out.2.2 ⟨_, _, rfl, by decide⟩).trans B3.out.symm, ?_⟩⟩, by simp [intOf]; omega⟩
     rw [hst2.out]
     have := hTn.out
     have := HK1.out.2
     exact ⟨by simp [hkl], by dsimp only; omega, _, _, _, hq⟩
  ·have hjx : j = xs.length := by omega
   obtain ⟨-, -, -, hk, -, F1, F2, F3, hA⟩ := hR.out
   rw [hjx, List.take_length] at hk hA
   have A0 := Lib.hid hA
   clear hA hR
   go_wp2
   go_ret
   have hs := A0.out.own
   exact ⟨_, F1, F2, F3, rfl, hs, A0.out.nb, A0.out.opt, A0.out.ks, A0.out.fr⟩
end Go.Proofs.YtkfonacokamfiaaGreat
/- prefetch.Path: which slots looking for a page would mark. -/
namespace Go.Proofs.YtkfonacokamfiaaGreat
set_option linter.unusedVariables false
set_option linter.unusedSimpArgs false
open Go.RowKit
attribute [local go_sem] wext_cell wext_frozen wext_heap alloc_cell alloc_frozen alloc_heap setCell_cell objCell_cells objFrozen_cells
theorem store3h {w : World} {b : Nat} {c0 c1 c2 v0 v1 v2 : Value} {e : TypeId} {f : Nat × Nat} (h : w.heap[b]? = some (.cells #[c0, c1, c2] e f)) :
  (((w.setCell ⟨b, 0, none⟩ v0).setCell ⟨b, 1, none⟩ v1).setCell ⟨b, 2, none⟩ v2).heap[b]? = some (.cells #[v0, v1, v2] e f) := setCell_heap_same (setCell_heap_same (setCell_heap_same h))
def pathF (M : Int → Int) (root : Int) (nxe : Bool) (a : Int) : List Int :=
 if canonB a && decide ((walkF M 16 nxe a 4 (tabI root) allRt).2.1 = 0) then (walkF M 16 nxe a 4 (tabI root) allRt).1.map (·.2.1) else []
def EndPath (xs : List Int) (w : World) (e : Ending) (w' : World) : Prop :=
 ∃ v, e = .returned v ∧ Owns w' 23 1 v xs.length (rowI xs) ∧ (∀ g, v.ownBlock = some g → w.heap.size ≤ g) ∧ Ext w w'
set_option maxHeartbeats 4000000 in
set_option maxRecDepth 100000 in
theorem path_c (mb : Nat) (Fm : List Nat) (M : Int → Int) (T : List Int) (root kd a : Int) (us ac wp nxe sp sm : Bool) (w : World) (h : MemAt w mb Fm 16 M T) (hr0 : 0 ≤ root) (hr1 : root ≤ 18446744073709551615) (ha0 : 0 ≤ a) (ha1 : a ≤ 18446744073709551615) :
  Calls Tryz.prog 8 #[.pointer (some ⟨mb, 0, none⟩), .agg #[.int .u64 root, .int .i64 kd, .bool us, .bool ac, .bool wp, .bool nxe, .bool sp, .bool sm], .int .u64 a] w (EndPath (pathF M root nxe a) w) := by
 have H := Lib.hid h
 have HT := Lib.hid (fun w => wTop_c root w hr0 hr1)
 have HCn := Lib.hid (fun w1 => vaCanon_c a w1 ha0 ha1)
 have ht := tabI_le hr0
 have ht1 : tabI root ≤ 18446744073709551615 := by have := (tabI_le hr0).2; omega
 have hFr : ∀ (cb : Nat) (F : List Nat) (w1 : World), MemAt w1 cb F 16 M [] → Calls Tryz.prog 23 #[.pointer (some ⟨cb, 0, none⟩), .agg #[.int .i64 (4 : Nat), .int .u64 (tabI root), .bool true, .bool true, .bool true], .int .u64 a, .bool nxe] w1 (EndWalk cb F 16 M [] (walkF M 16 nxe a 4 (tabI root) allRt) w1) :=
  fun cb F w1 h1 => from_c cb F 16 M [] 4 (tabI root) true true true a nxe w1 h1 (by omega) ht.1 ht1 ha0 ha1 (by simp)
 generalize hE : pathF M root nxe a = E
 unfold pathF at hE
 have hql : (walkF M 16 nxe a 4 (tabI root) allRt).1.length ≤ 4 := walk_len 4 _ allRt
 generalize walkF M 16 nxe a 4 (tabI root) allRt = q at hFr hE hql
 generalize tabI root = tr at hFr HT ht ht1
 generalize canonB a = cn at hE HCn
 obtain ⟨L, why, ⟨b0, b1, b2⟩, lv, fr⟩ := q
 dsimp only at hE hql
 have HE := Lib.hid hE
 have HFr := Lib.hid hFr
 unfold EndWalk at HFr
 dsimp only at HFr
 clear hE hFr h
 go_enter Tryz.func8, Tryz.ntmps8
 go_upto_region 1 with (fail)
 refine wp_gen ?_; intro V hV
 have hVE : Ext w V := by rw [hV]; exact (by repeat (first | exact Ext.refl _ | assumption | refine Ext.alloc ?_ _ | refine Ext.drew ?_ | refine Ext.setCell ?_ (by first | (simp; done) | (dsimp only; omega)) _ | refine Ext.trans ?_ (by assumption)))
 have hVB : V.heap[w.heap.size]? = some (.cells #[.int .u64 root, .int .i64 kd, .bool us, .bool ac, .bool wp, .bool nxe, .bool sp, .bool sm] 29 (0, 0)) := by rw [hV]; exact alloc_same ..
 obtain ⟨ub, hub⟩ : ∃ ub, w.heap.size = ub := ⟨_, rfl⟩
 rw [hub] at hVB ⊢
 have y0 := (heap_cell hVB 0).trans rfl
 have y5 := (heap_cell hVB 5).trans rfl
 have yl := heap_lt hVB
 have VE := Lib.hid hVE
 have HV0 := Lib.hid (H.out.ext hVE)
 have hsV := hVE.size
 clear hV hVE hVB hub
 refine region_mixA 10 (.cells #[.slice none 0 0, .int .i64 0, .bool false, .bool false, .bool false, .int .i64 0, .int .u64 0] 86 (0, 0)) [.q [0, 2, 3, 5, 6, 7, 8], .l 1 5, .l 4 5, .l 9 6, .l 10 4, .l 11 2] (by kernel_rfl) (by kernel_rfl) (alloc_runA rfl (by kernel_rfl : _ = some (some (Value.agg (#[.slice none 0 0, .int .i64 0, .bool false, .bool false, .bool false, .int .i64 0, .int .u64 0])))) rfl) ?_
 (repeat (unfold wpPlanA; simp only [pickL, List.map_cons, List.map_nil, List.getD_cons_succ, List.getD_cons_zero]; (repeat go_big_quiet_step (fail)); refine wpQuiet_nil ?_)); unfold wpPlanA; intro w2 hb2; (try simp only [pickL, List.map_cons, List.map_nil, List.getD_cons_succ, List.getD_cons_zero])
 go_wp2_with (first | (go_at_call 24; refine (copy_c mb Fm 16 M T _ (HV0.out.ext hb2)).mono ?_; rintro e w3 ⟨cb, rfl, ⟨F, hC, hFf⟩, hb3⟩))
 have z2 := hb2.size
 have z3 := hb3.size
 refine ⟨⟨by omega, fun _ => hb3, fun h => absurd h (by omega)⟩, ?_⟩
 have C3 := Lib.hid hC
 have F3 : Hid (∀ x ∈ F, w.heap.size ≤ x) := Lib.hid fun x hx => by have := hFf x hx; omega
 have E3 := Lib.hid (VE.out.trans (hb2.trans hb3))
 have V3 := Lib.hid (hb2.trans hb3)
 clear hb2 hb3 hC hFf y0 y5
 (repeat (unfold wpPlanA; simp only [pickL, List.map_cons, List.map_nil, List.getD_cons_succ, List.getD_cons_zero]; (repeat go_big_quiet_step (fail)); refine wpQuiet_nil ?_)); unfold wpPlanA; intro w4 hb4; (try simp only [pickL, List.map_cons, List.map_nil, List.getD_cons_succ, List.getD_cons_zero])
 go_wp2_with (first | (go_at_call 25; refine (HT.out _).mono ?_; rintro e w5 ⟨rfl, hb5⟩))
 have z4 := hb4.size
 have z5 := hb5.size
 refine ⟨⟨by omega, fun _ => hb5, fun h => absurd h (by omega)⟩, ?_⟩
 have C5 := Lib.hid (C3.out.ext (hb4.trans hb5))
 have E5 := Lib.hid (E3.out.trans (hb4.trans hb5))
 clear hb4 hb5
 (repeat (unfold wpPlanA; simp only [pickL, List.map_cons, List.map_nil, List.getD_cons_succ, List.getD_cons_zero]; (repeat go_big_quiet_step (fail)); refine wpQuiet_nil ?_)); unfold wpPlanA; intro w6 hb6; (try simp only [pickL, List.map_cons, List.map_nil, List.getD_cons_succ, List.getD_cons_zero])
 have C6 := Lib.hid (C5.out.ext hb6)
 have E6 := Lib.hid (E5.out.trans hb6)
 have z6 := hb6.size
 clear hb6
 go_wp2_with (first | (go_at_call 23; refine (HFr.out _ F _ C6.out).mono ?_; rintro e w7 ⟨v7, rfl, q2, q3, q4⟩; obtain ⟨sa, sc, rfl, -, -⟩ := q2.form))
 obtain ⟨F7, m7, k7, f7⟩ := q3
 have z7 := k7.size
 refine ⟨⟨by omega, fun h => absurd h (by omega), fun _ b hb hbo => (k7.block b (heap_lt hbo) (C6.out.apart hbo (by decide) (by decide) (by decide))).trans hbo⟩, ?_⟩
 have E7 : Hid (Ext w w7) := Lib.hid (Keeps.to_ext E6.out k7 F3.out)
 have Q7 := Lib.hid q2
 have N7 : Hid (∀ g, (Value.slice sa L.length sc).ownBlock = some g → w.heap.size ≤ g) := Lib.hid fun g hg => by have := q4 g hg; omega
 clear q2 q4 m7 k7 f7
 (repeat (unfold wpPlanA; simp only [pickL, List.map_cons, List.map_nil, List.getD_cons_succ, List.getD_cons_zero]; (repeat go_big_quiet_step (fail)); refine wpQuiet_nil ?_)); unfold wpPlanA; intro pb w8 hb8 hb8B hb8O; simp only [List.getD_cons_succ, List.getD_cons_zero, ptrTo]; simp only [Act.put, Array.set!_eq_setIfInBounds, List.setIfInBounds_toArray, List.set_cons_succ, List.set_cons_zero]
 have E8 := Lib.hid (E7.out.trans hb8)
 have Q8 := Lib.hid (Q7.out.ext hb8)
 have O8 := Lib.hid hb8O
 have hpb := heap_lt hb8O
 have hpbB := Lib.hid hb8B
 have z8 := hb8.size
 clear hb8 hb8O
 (repeat (unfold wpPlanA; simp only [pickL, List.map_cons, List.map_nil, List.getD_cons_succ, List.getD_cons_zero]; (repeat go_big_quiet_step (fail)); refine wpQuiet_nil ?_)); unfold wpPlanA; intro w9 hb9; (try simp only [pickL, List.map_cons, List.map_nil, List.getD_cons_succ, List.getD_cons_zero])
 have b9 := (hb9.block pb hpb).trans O8.out
 have g0 := (heap_cell b9 0).trans rfl
 have g1 := (heap_cell b9 1).trans rfl
 have g2 := (heap_cell b9 2).trans rfl
 have g3 := (heap_cell b9 3).trans rfl
 have g4 := (heap_cell b9 4).trans rfl
 have g5 := (heap_cell b9 5).trans rfl
 have g6 := (heap_cell b9 6).trans rfl
 have gf := frozen_of b9
 have gl := heap_lt b9
 have B9 := Lib.hid b9
 have E9 := Lib.hid (E8.out.trans hb9)
 have Q9 := Lib.hid (Q8.out.ext hb9)
 have z9 := hb9.size
 clear b9 hb9
 go_wp2
 refine ⟨⟨by simp; omega, fun h => absurd h (by omega), fun h => absurd h (by omega)⟩, ?_⟩
 clear g0 g1 g2 g3 g4 g5 g6 gf gl
 (repeat (unfold wpPlanA; simp only [pickL, List.map_cons, List.map_nil, List.getD_cons_succ, List.getD_cons_zero]; (repeat go_big_quiet_step (fail)); refine wpQuiet_nil ?_)); unfold wpPlanA; intro X hX; (try simp only [pickL, List.map_cons, List.map_nil, List.getD_cons_succ, List.getD_cons_zero])
 have hwp : w.heap.size ≤ pb := by have := hpbB.out; omega
 have BX := Lib.hid ((hX.block pb (by simp; exact heap_lt B9.out)).trans (store7_heap B9.out))
 have EX : Hid (Ext w X) := Lib.hid ((ext7 E9.out hwp).trans hX)
 have QX : Hid (Owns X 94 3 (.slice sa L.length sc) L.length (rowS L)) := Lib.hid ((Q9.out.store7 B9.out (by decide)).ext hX)
 clear hX
 have x0 := (heap_cell BX.out 0).trans rfl
 have x1 := (heap_cell BX.out 1).trans rfl
 have xl := heap_lt BX.out
 cases cn
 case false =>
  as_aux_lemma =>
   go_wp2_with (first | (go_at_call 26; refine (HCn.out _).mono ?_; rintro e y1 ⟨rfl, hy1⟩))
   go_ret
   rw [← HE.out]
   exact ⟨_, rfl, Owns.nil .., fun g e => (by cases e), EX.out.trans hy1⟩
 case true =>
  by_cases hw : why = 0
  case neg =>
   have hwb : (why != 0) = true := by simpa using hw
   have HE2 : Hid ([] = E) := Lib.hid (by rw [← HE.out]; simp [hw])
   clear hw
   go_wp2_with (first | (go_at_call 26; refine (HCn.out _).mono ?_; rintro e y1 ⟨rfl, hy1⟩; have ⟨hc, hf, hh, hs⟩ := hy1.facts))
   go_ret
   rw [← HE2.out]
   exact ⟨_, rfl, Owns.nil .., fun g e => (by cases e), EX.out.trans hy1⟩
  case pos =>
   subst hw
   have HE2 : Hid (L.map (·.2.1) = E) := Lib.hid (by rw [← HE.out]; simp)
   clear HE
   go_upto_region 6 with (first | (go_at_call 26; refine (HCn.out _).mono ?_; rintro e y1 ⟨rfl, hy1⟩; have ⟨hc, hf, hh, hs⟩ := hy1.facts))
   have EY := Lib.hid (EX.out.trans hy1)
   have SY := Lib.hid (StepsAt.of (QX.out.ext hy1))
   have zy := EY.out.size
   clear hc hf hh hs hy1 x0 x1 xl
   go_loopw [8, 32] (fun l i wr => ∃ (j : Nat) (la : Option Addr) (lc : Nat), j ≤ L.length ∧ i = .int .i64 j ∧ l = .slice la j lc ∧ y1.heap.size ≤ wr.heap.size ∧ Hid (Owns wr 23 1 (.slice la j lc) j (rowI ((L.take j).map (·.2.1))) ∧ (∀ g, (Value.slice la j lc).ownBlock = some g → y1.heap.size ≤ g) ∧ Ext y1 wr)) (fun _ i _ => L.length - (intOf i).toNat)
   case atStart => exact ⟨0, none, 0, by omega, rfl, rfl, by omega, Lib.hid ⟨Owns.nil .., fun g e => (by cases e), Ext.refl _⟩⟩
   case round =>
    obtain ⟨j, la, lc, hj, rfl, rfl, hwr, hR⟩ := hrel
    by_cases hlt : j < L.length
    ·obtain ⟨g, o, rfl, hgl, d0, d1, d2⟩ := (SY.out.ext hR.out.2.2) j hlt
     have hst : (L.take (j + 1)).map (·.2.1) = (L.take j).map (·.2.1) ++ [(stpAt L j).2.1] := by
      have e : L.take (j + 1) = L.take j ++ [stpAt L j] := by rw [List.take_add_one, List.getElem?_eq_getElem hlt]; simp [stpAt, List.getD, hlt]
      rw [e]; simp
     have HS := Lib.hid hst
     clear hst
     generalize stpAt L j = s at d0 d1 d2 HS
     obtain ⟨s0, s1, s2⟩ := s
     dsimp only at d0 d1 d2 HS
     go_upto_region 8 with (fail)
     refine wp_gen ?_; intro U hU
     have hUE : Ext wr U := by rw [hU]; exact (by repeat (first | exact Ext.refl _ | assumption | refine Ext.alloc ?_ _ | refine Ext.drew ?_ | refine Ext.setCell ?_ (by first | (simp; done) | (dsimp only; omega)) _ | refine Ext.trans ?_ (by assumption)))
     have hUB : U.heap[wr.heap.size]? = some (.cells #[.int .i64 s0, .int .u64 s1, .int .u64 s2] 94 (0, 0)) := by rw [hU]; exact alloc_same ..
     obtain ⟨tb, htb⟩ : ∃ tb, wr.heap.size = tb := ⟨_, rfl⟩
     rw [htb] at hUB ⊢
     have u1 := (heap_cell hUB 1).trans rfl
     have ul := heap_lt hUB
     have UE := Lib.hid hUE
     have HA := Lib.hid ((hR.out.1.ext hUE).ext ((Ext.refl U).alloc (.cells #[.int .u64 s1] 23)))
     have hzU := hUE.size
     clear hU hUE hUB htb d0 d1 d2
     go_wp2_with (first | (at_builtin; refine wpList_append_owns rfl _ _ _ _ 1 8 wordRow rfl _ rfl j _ HA.out _ 1 1 rfl [.int .u64 s1] rfl (fun j u hu => by rw [add0, heap_cell (alloc_same U _) j]; simpa using hu) (by simp [Value.oneCell']) (by unfold maxLen; omega) (by omega) ?_; intro v9 w9 q1 q2 q3; replace q2 : (U.alloc (.cells #[.int .u64 s1] 23)).grownBy w9 (Value.slice la j lc).ownBlock := q2; replace q3 : v9.ownBlock = (Value.slice la j lc).ownBlock ∨ v9.ownBlock = some (U.alloc (.cells #[.int .u64 s1] 23)).heap.size := q3; obtain ⟨a9, c9, rfl, -, -⟩ := q1.form; simp only [Act.put, Array.set!_eq_setIfInBounds, List.setIfInBounds_toArray, List.set_cons_succ, List.set_cons_zero]))
     all_goals
      have ⟨g1, g2, g3, g4⟩ := grown_after (prev := Value.slice la j lc) (o := (.cells #[.int .u64 s1] 23)) (base := y1.heap.size) (by omega) (Nat.le_refl _) (hR.out.2.2.trans UE.out) hR.out.2.1 q2 q3
      refine ⟨⟨j + 1, a9, c9, hlt, by go_num, rfl, g4, Lib.hid ⟨?_, g3, g1⟩⟩, by simp [intOf]; omega⟩
      rw [HS.out]; simpa [rowI] using q1
    ·have hjx : j = L.length := by omega
     subst hjx
     go_wp2
     go_ret
     have ho := hR.out.1
     rw [List.take_length, HE2.out] at ho
     have hle : L.length = E.length := by rw [← HE2.out]; simp
     refine ⟨_, rfl, ?_, fun g hg => ?_, EY.out.trans hR.out.2.2⟩
     ·rw [← hle]; exact ho
     ·have := hR.out.2.1 g hg; omega
end Go.Proofs.YtkfonacokamfiaaGreat
