/- Joined texts, part 29 of what the law stands on: each as its own head says. -/
import Derived.Test.YtkfonacokamfiaaGreatGoz28
/- Package opt: what a job keeps, walked: a run of small pages. Printed by mkopte.py. -/
namespace Go.Proofs.YtkfonacokamfiaaGreat
set_option linter.unusedVariables false
set_option linter.unusedSimpArgs false
open Go.RowKit
attribute [local go_sem] wext_cell wext_frozen wext_heap alloc_cell alloc_frozen alloc_heap setCell_cell objCell_cells objFrozen_cells
theorem store14_heap {w : World} {b : Nat} {c0 c1 c2 c3 c4 c5 c6 c7 c8 c9 c10 c11 c12 c13 v0 v1 v2 v3 v4 v5 v6 v7 v8 v9 v10 v11 v12 v13 : Value} {e : TypeId} {f : Nat × Nat} (h : w.heap[b]? = some (.cells #[c0, c1, c2, c3, c4, c5, c6, c7, c8, c9, c10, c11, c12, c13] e f)) :
  ((((((((((((((w.setCell ⟨b, 0, none⟩ v0).setCell ⟨b, 1, none⟩ v1).setCell ⟨b, 2, none⟩ v2).setCell ⟨b, 3, none⟩ v3).setCell ⟨b, 4, none⟩ v4).setCell ⟨b, 5, none⟩ v5).setCell ⟨b, 6, none⟩ v6).setCell ⟨b, 7, none⟩ v7).setCell ⟨b, 8, none⟩ v8).setCell ⟨b, 9, none⟩ v9).setCell ⟨b, 10, none⟩ v10).setCell ⟨b, 11, none⟩ v11).setCell ⟨b, 12, none⟩ v12).setCell ⟨b, 13, none⟩ v13).heap[b]? = some (.cells #[v0, v1, v2, v3, v4, v5, v6, v7, v8, v9, v10, v11, v12, v13] e f) := by
 have h0 : (w.setCell ⟨b, 0, none⟩ v0).heap[b]? = some (.cells #[v0, c1, c2, c3, c4, c5, c6, c7, c8, c9, c10, c11, c12, c13] e f) := setCell_heap_same h
 have h1 : ((w.setCell ⟨b, 0, none⟩ v0).setCell ⟨b, 1, none⟩ v1).heap[b]? = some (.cells #[v0, v1, c2, c3, c4, c5, c6, c7, c8, c9, c10, c11, c12, c13] e f) := setCell_heap_same h0
 have h2 : (((w.setCell ⟨b, 0, none⟩ v0).setCell ⟨b, 1, none⟩ v1).setCell ⟨b, 2, none⟩ v2).heap[b]? = some (.cells #[v0, v1, v2, c3, c4, c5, c6, c7, c8, c9, c10, c11, c12, c13] e f) := setCell_heap_same h1
 have h3 : ((((w.setCell ⟨b, 0, none⟩ v0).setCell ⟨b, 1, none⟩ v1).setCell ⟨b, 2, none⟩ v2).setCell ⟨b, 3, none⟩ v3).heap[b]? = some (.cells #[v0, v1, v2, v3, c4, c5, c6, c7, c8, c9, c10, c11, c12, c13] e f) := setCell_heap_same h2
 have h4 : (((((w.setCell ⟨b, 0, none⟩ v0).setCell ⟨b, 1, none⟩ v1).setCell ⟨b, 2, none⟩ v2).setCell ⟨b, 3, none⟩ v3).setCell ⟨b, 4, none⟩ v4).heap[b]? = some (.cells #[v0, v1, v2, v3, v4, c5, c6, c7, c8, c9, c10, c11, c12, c13] e f) := setCell_heap_same h3
 have h5 : ((((((w.setCell ⟨b, 0, none⟩ v0).setCell ⟨b, 1, none⟩ v1).setCell ⟨b, 2, none⟩ v2).setCell ⟨b, 3, none⟩ v3).setCell ⟨b, 4, none⟩ v4).setCell ⟨b, 5, none⟩ v5).heap[b]? = some (.cells #[v0, v1, v2, v3, v4, v5, c6, c7, c8, c9, c10, c11, c12, c13] e f) := setCell_heap_same h4
 have h6 : (((((((w.setCell ⟨b, 0, none⟩ v0).setCell ⟨b, 1, none⟩ v1).setCell ⟨b, 2, none⟩ v2).setCell ⟨b, 3, none⟩ v3).setCell ⟨b, 4, none⟩ v4).setCell ⟨b, 5, none⟩ v5).setCell ⟨b, 6, none⟩ v6).heap[b]? = some (.cells #[v0, v1, v2, v3, v4, v5, v6, c7, c8, c9, c10, c11, c12, c13] e f) := setCell_heap_same h5
 have h7 : ((((((((w.setCell ⟨b, 0, none⟩ v0).setCell ⟨b, 1, none⟩ v1).setCell ⟨b, 2, none⟩ v2).setCell ⟨b, 3, none⟩ v3).setCell ⟨b, 4, none⟩ v4).setCell ⟨b, 5, none⟩ v5).setCell ⟨b, 6, none⟩ v6).setCell ⟨b, 7, none⟩ v7).heap[b]? = some (.cells #[v0, v1, v2, v3, v4, v5, v6, v7, c8, c9, c10, c11, c12, c13] e f) := setCell_heap_same h6
 have h8 : (((((((((w.setCell ⟨b, 0, none⟩ v0).setCell ⟨b, 1, none⟩ v1).setCell ⟨b, 2, none⟩ v2).setCell ⟨b, 3, none⟩ v3).setCell ⟨b, 4, none⟩ v4).setCell ⟨b, 5, none⟩ v5).setCell ⟨b, 6, none⟩ v6).setCell ⟨b, 7, none⟩ v7).setCell ⟨b, 8, none⟩ v8).heap[b]? = some (.cells #[v0, v1, v2, v3, v4, v5, v6, v7, v8, c9, c10, c11, c12, c13] e f) := setCell_heap_same h7
 have h9 : ((((((((((w.setCell ⟨b, 0, none⟩ v0).setCell ⟨b, 1, none⟩ v1).setCell ⟨b, 2, none⟩ v2).setCell ⟨b, 3, none⟩ v3).setCell ⟨b, 4, none⟩ v4).setCell ⟨b, 5, none⟩ v5).setCell ⟨b, 6, none⟩ v6).setCell ⟨b, 7, none⟩ v7).setCell ⟨b, 8, none⟩ v8).setCell ⟨b, 9, none⟩ v9).heap[b]? = some (.cells #[v0, v1, v2, v3, v4, v5, v6, v7, v8, v9, c10, c11, c12, c13] e f) := setCell_heap_same h8
 have h10 : (((((((((((w.setCell ⟨b, 0, none⟩ v0).setCell ⟨b, 1, none⟩ v1).setCell ⟨b, 2, none⟩ v2).setCell ⟨b, 3, none⟩ v3).setCell ⟨b, 4, none⟩ v4).setCell ⟨b, 5, none⟩ v5).setCell ⟨b, 6, none⟩ v6).setCell ⟨b, 7, none⟩ v7).setCell ⟨b, 8, none⟩ v8).setCell ⟨b, 9, none⟩ v9).setCell ⟨b, 10, none⟩ v10).heap[b]? = some (.cells #[v0, v1, v2, v3, v4, v5, v6, v7, v8, v9, v10, c11, c12, c13] e f) := setCell_heap_same h9
 have h11 : ((((((((((((w.setCell ⟨b, 0, none⟩ v0).setCell ⟨b, 1, none⟩ v1).setCell ⟨b, 2, none⟩ v2).setCell ⟨b, 3, none⟩ v3).setCell ⟨b, 4, none⟩ v4).setCell ⟨b, 5, none⟩ v5).setCell ⟨b, 6, none⟩ v6).setCell ⟨b, 7, none⟩ v7).setCell ⟨b, 8, none⟩ v8).setCell ⟨b, 9, none⟩ v9).setCell ⟨b, 10, none⟩ v10).setCell ⟨b, 11, none⟩ v11).heap[b]? = some (.cells #[v0, v1, v2, v3, v4, v5, v6, v7, v8, v9, v10, v11, c12, c13] e f) := setCell_heap_same h10
 have h12 : (((((((((((((w.setCell ⟨b, 0, none⟩ v0).setCell ⟨b, 1, none⟩ v1).setCell ⟨b, 2, none⟩ v2).setCell ⟨b, 3, none⟩ v3).setCell ⟨b, 4, none⟩ v4).setCell ⟨b, 5, none⟩ v5).setCell ⟨b, 6, none⟩ v6).setCell ⟨b, 7, none⟩ v7).setCell ⟨b, 8, none⟩ v8).setCell ⟨b, 9, none⟩ v9).setCell ⟨b, 10, none⟩ v10).setCell ⟨b, 11, none⟩ v11).setCell ⟨b, 12, none⟩ v12).heap[b]? = some (.cells #[v0, v1, v2, v3, v4, v5, v6, v7, v8, v9, v10, v11, v12, c13] e f) := setCell_heap_same h11
 have h13 : ((((((((((((((w.setCell ⟨b, 0, none⟩ v0).setCell ⟨b, 1, none⟩ v1).setCell ⟨b, 2, none⟩ v2).setCell ⟨b, 3, none⟩ v3).setCell ⟨b, 4, none⟩ v4).setCell ⟨b, 5, none⟩ v5).setCell ⟨b, 6, none⟩ v6).setCell ⟨b, 7, none⟩ v7).setCell ⟨b, 8, none⟩ v8).setCell ⟨b, 9, none⟩ v9).setCell ⟨b, 10, none⟩ v10).setCell ⟨b, 11, none⟩ v11).setCell ⟨b, 12, none⟩ v12).setCell ⟨b, 13, none⟩ v13).heap[b]? = some (.cells #[v0, v1, v2, v3, v4, v5, v6, v7, v8, v9, v10, v11, v12, v13] e f) := setCell_heap_same h12
 exact h13
theorem keeps14 {u w : World} {b : Nat} {v0 v1 v2 v3 v4 v5 v6 v7 v8 v9 v10 v11 v12 v13 : Value} (E : Ext u w) : Keeps [b] u ((((((((((((((w.setCell ⟨b, 0, none⟩ v0).setCell ⟨b, 1, none⟩ v1).setCell ⟨b, 2, none⟩ v2).setCell ⟨b, 3, none⟩ v3).setCell ⟨b, 4, none⟩ v4).setCell ⟨b, 5, none⟩ v5).setCell ⟨b, 6, none⟩ v6).setCell ⟨b, 7, none⟩ v7).setCell ⟨b, 8, none⟩ v8).setCell ⟨b, 9, none⟩ v9).setCell ⟨b, 10, none⟩ v10).setCell ⟨b, 11, none⟩ v11).setCell ⟨b, 12, none⟩ v12).setCell ⟨b, 13, none⟩ v13) := (Keeps.setCell (Keeps.setCell (Keeps.setCell (Keeps.setCell (Keeps.setCell (Keeps.setCell (Keeps.setCell (Keeps.setCell (Keeps.setCell (Keeps.setCell (Keeps.setCell (Keeps.setCell (Keeps.setCell (Keeps.setCell (Keeps.of_ext E) (.inl (by simp)) _) (.inl (by simp)) _) (.inl (by simp)) _) (.inl (by simp)) _) (.inl (by simp)) _) (.inl (by simp)) _) (.inl (by simp)) _) (.inl (by simp)) _) (.inl (by simp)) _) (.inl (by simp)) _) (.inl (by simp)) _) (.inl (by simp)) _) (.inl (by simp)) _) (.inl (by simp)) _)
def upF (F : Nat → Int) (k i : Nat) : Int := if i < k then F i else 0
theorem seen_set (F : Nat → Int) (k : Nat) (hk : k < 8) (x8 x9 x10 x11 x12 x13 : Value) (v : Int) (hv : v = F k) :
  (#[.int .u64 (upF F k 0), .int .u64 (upF F k 1), .int .u64 (upF F k 2), .int .u64 (upF F k 3), .int .u64 (upF F k 4), .int .u64 (upF F k 5), .int .u64 (upF F k 6), .int .u64 (upF F k 7), x8, x9, x10, x11, x12, x13] : Array Value).setIfInBounds k (.int .u64 v) = #[.int .u64 (upF F (k + 1) 0), .int .u64 (upF F (k + 1) 1), .int .u64 (upF F (k + 1) 2), .int .u64 (upF F (k + 1) 3), .int .u64 (upF F (k + 1) 4), .int .u64 (upF F (k + 1) 5), .int .u64 (upF F (k + 1) 6), .int .u64 (upF F (k + 1) 7), x8, x9, x10, x11, x12, x13] := by
 subst hv
 match k, hk with
 | 0, _ => simp [upF]
 | 1, _ => simp [upF]
 | 2, _ => simp [upF]
 | 3, _ => simp [upF]
 | 4, _ => simp [upF]
 | 5, _ => simp [upF]
 | 6, _ => simp [upF]
 | 7, _ => simp [upF]
theorem seen_put (f : Nat → Int) (x8 x9 x10 x11 x12 x13 : Value) (k : Nat) (hk : k < 8) (x : Int) : ((#[.int .u64 (f 0), .int .u64 (f 1), .int .u64 (f 2), .int .u64 (f 3), .int .u64 (f 4), .int .u64 (f 5), .int .u64 (f 6), .int .u64 (f 7), x8, x9, x10, x11, x12, x13] : Array Value).setIfInBounds k (.int .u64 x))[k]? = some (.int .u64 x) := by
 match k, hk with
 | 0, _ => rfl
 | 1, _ => rfl
 | 2, _ => rfl
 | 3, _ => rfl
 | 4, _ => rfl
 | 5, _ => rfl
 | 6, _ => rfl
 | 7, _ => rfl
theorem upF_all (F : Nat → Int) (i : Nat) (h : i < 8) : upF F 8 i = F i := by simp [upF, h]
theorem runF_congr {f g : Nat → Int} {at_ B : Int} {r : Rt} {nxe : Bool} {x : Int} (h : ∀ i, i < 8 → f i = g i) : runF f at_ B r nxe x = runF g at_ B r nxe x := by
 have hi : ∀ i, i < 8 → inRun f at_ B nxe x i = inRun g at_ B nxe x i := fun i hi => by unfold inRun; rw [h i hi]
 have hm : ∀ k, k ≤ 8 → maskUp (inRun f at_ B nxe x) k = maskUp (inRun g at_ B nxe x) k := fun k => by
  induction k with
  | zero => intro _; rfl
  | succ k ih => intro hk; unfold maskUp; rw [ih (by omega), hi k (by omega)]
 unfold runF
 rw [hm 8 (Nat.le_refl _)]
theorem groupSlots2_c (a : Int) (w : World) (h0 : 0 ≤ a) (h1 : a ≤ 18446744073709551615) :
  Calls Tryz.prog 98 #[.int .u64 a] w fun e w' => e = .returned (.agg #[.int .u64 (grpA a 0), .int .u64 (grpA a 1), .int .u64 (grpA a 2), .int .u64 (grpA a 3), .int .u64 (grpA a 4), .int .u64 (grpA a 5), .int .u64 (grpA a 6), .int .u64 (grpA a 7)]) ∧ Ext w w' := by
 have := groupSlots_c a w h0 h1
 unfold slotsV at this
 rw [show (#[.int .u64 (grpA a 0), .int .u64 (grpA a 1), .int .u64 (grpA a 2), .int .u64 (grpA a 3), .int .u64 (grpA a 4), .int .u64 (grpA a 5), .int .u64 (grpA a 6), .int .u64 (grpA a 7)] : Array Value) = #[.int .u64 (a - a % 64), .int .u64 (a - a % 64 + 8), .int .u64 (a - a % 64 + 16), .int .u64 (a - a % 64 + 24), .int .u64 (a - a % 64 + 32), .int .u64 (a - a % 64 + 40), .int .u64 (a - a % 64 + 48), .int .u64 (a - a % 64 + 56)] by simp [grpA]]
 exact this
set_option maxHeartbeats 4000000 in
set_option maxRecDepth 100000 in
theorem keepSmall_c (mb : Nat) (Fm : List Nat) (M : Int → Int) (T : List Int) (tb cb : Nat) (Ft : List Nat) (TL : Lines) (r : Nat) (pb : Nat) (pc : Int → Nat) (Fp : Int → List Nat) (C : Int → Lines) (q : Nat) (p k0 k1 k2 k3 root kd a : Int) (us ac wp nxe sp sm : Bool)
  (L : List Stp) (sa : Option Addr) (sc : Nat) (g0 g1 g2 : Bool) (fr n t last : Int) (x0 x1 x2 dirty : Bool) (w : World)
  (h : OptAt w mb Fm M T tb cb Ft TL r pb pc Fp C q) (hO : Owns w 94 3 (.slice sa L.length sc) L.length (rowS L)) (hTl : T.length ≤ 900000) (hK : KeepOk L last) (ha0 : 0 ≤ a) (ha1 : a ≤ 18446744073709551615)
  (hp0 : -9223372036854775808 ≤ k0 ∧ k0 ≤ 9223372036854775807) (hp : ∀ l, -9223372036854775808 ≤ pkF k1 k2 k3 l ∧ pkF k1 k2 k3 l ≤ 9223372036854775807) :
  Calls Tryz.prog 70 #[.agg #[.pointer (some ⟨mb, 0, none⟩), .pointer (some ⟨tb, 0, none⟩), .pointer (some ⟨pb, 0, none⟩), .int .i64 p, .int .i64 k0, .int .i64 k1, .int .i64 k2, .int .i64 k3, .int .u64 root, .int .i64 kd, .bool us, .bool ac, .bool wp, .bool nxe, .bool sp, .bool sm, .int .u64 a],
    .agg #[.slice sa L.length sc, .int .i64 0, .bool g0, .bool g1, .bool g2, .int .i64 1, .int .u64 fr], .agg #[.int .i64 n, .int .u64 t, .bool x0, .bool x1, .bool x2], .bool dirty] w
   (EndKeep mb Fm (markL 16 dirty L M) (T ++ keepT 1 last) tb cb Ft (keepL p a 1 fr (g0, g1, g2) last (markL 16 dirty L M) nxe k0 r TL) r pb pc Fp (fillF p a (pkF k1 k2 k3) q L (x0, x1, x2) C) q w) := by
 have H := Lib.hid h
 have HO := Lib.hid hO
 have HK := Lib.hid hK
 have hL4 := hK.len.2
 have hL1 := hK.len.1
 obtain ⟨N, hN⟩ : ∃ N, markL 16 dirty L M = N := ⟨_, rfl⟩
 obtain ⟨C2, hC2⟩ : ∃ C2, fillF p a (pkF k1 k2 k3) q L (x0, x1, x2) C = C2 := ⟨_, rfl⟩
 have hcok : COk C2 := by rw [← hC2]; exact COk.fill L _ C (fun s hs => by
  obtain ⟨i, hi, e⟩ := List.getElem_of_mem hs
  have := (hK.step i hi).2
  have e2 : stpAt L i = s := by simp [stpAt, List.getD, hi, e]
  rw [e2] at this; exact this) h.cok
 rw [hN, hC2]
 have hmk : ∀ w1, OptAt w1 mb Fm M T tb cb Ft TL r pb pc Fp C q → Owns w1 94 3 (.slice sa L.length sc) L.length (rowS L) → Calls Tryz.prog 95 #[.pointer (some ⟨mb, 0, none⟩), .agg #[.slice sa L.length sc, .int .i64 0, .bool g0, .bool g1, .bool g2, .int .i64 1, .int .u64 fr], .bool dirty] w1 fun e V => e = .returned (.tuple #[]) ∧ EndMem mb Fm w1 16 N T V := fun w1 h1 h2 => by
  have hS : StepsAt w1 sa L := StepsAt.of h2
  have := mark_p (fun x => x ∈ Fm ∨ w1.heap.size ≤ x) mb 16 M T L sa sc 0 (g0, g1, g2) 1 fr dirty w1 h1.memP (fun x hx => .inr hx) hS (fun V hV => StepsAt.of (sc := sc) (h2.keep fun g hg => by
   obtain ⟨c, hc⟩ := h2.heap g hg
   rw [hc]; exact hV.2 _ _ _ hc (by decide) (by decide) (by decide))) (by omega) (fun i hi => (hK.step i hi).1)
  simp only [beq_self_eq_true, Bool.and_true, hN] at this
  exact this.mono fun e V he => ⟨he.1, EndMem.ofP he.2.1 he.2.2⟩
 have HMk := Lib.hid hmk
 have HC2 := Lib.hid hC2
 have HCO := Lib.hid hcok
 have HPk := Lib.hid hp
 have HP0 := Lib.hid hp0
 generalize hE : EndKeep mb Fm N (T ++ keepT 1 last) tb cb Ft (keepL p a 1 fr (g0, g1, g2) last N nxe k0 r TL) r pb pc Fp C2 q w = E
 have HE := Lib.hid hE
 clear hE h hO hK hN hC2 hcok hmk hp hp0
 go_enter Tryz.func70, Tryz.ntmps70
 go_upto_region 1 with (fail)
 refine wp_gen ?_; intro U hU
 have hUE : Ext w U := by rw [hU]; exact (by repeat (first | exact Ext.refl _ | assumption | refine Ext.alloc ?_ _ | refine Ext.drew ?_ | refine Ext.setCell ?_ (by first | (simp; done) | (dsimp only; omega)) _ | refine Ext.trans ?_ (by assumption)))
 have hU0 : U.heap[w.heap.size]? = some (.cells #[.pointer (some ⟨mb, 0, none⟩), .pointer (some ⟨tb, 0, none⟩), .pointer (some ⟨pb, 0, none⟩), .int .i64 p, .int .i64 k0, .int .i64 k1, .int .i64 k2, .int .i64 k3, .int .u64 root, .int .i64 kd, .bool us, .bool ac, .bool wp, .bool nxe, .bool sp, .bool sm, .int .u64 a] 156 (0, 0)) := by rw [hU]; exact (alloc_other _ _ (by simp; omega)).trans ((alloc_other _ _ (by simp)).trans (alloc_same ..))
 have hU1 : U.heap[w.heap.size + 1]? = some (.cells #[.slice sa L.length sc, .int .i64 0, .bool g0, .bool g1, .bool g2, .int .i64 1, .int .u64 fr] 86 (0, 0)) := by rw [hU]; exact (alloc_other _ _ (by simp)).trans (alloc_same1 ..)
 have hU2 : U.heap[w.heap.size + 1 + 1]? = some (.cells #[.int .i64 n, .int .u64 t, .bool x0, .bool x1, .bool x2] 90 (0, 0)) := by rw [hU]; exact alloc_same2 ..
 obtain ⟨jb, hjb⟩ : ∃ jb, w.heap.size = jb := ⟨_, rfl⟩
 obtain ⟨ab, hab⟩ : ∃ ab, w.heap.size + 1 = ab := ⟨_, rfl⟩
 obtain ⟨bb, hbb⟩ : ∃ bb, w.heap.size + 1 + 1 = bb := ⟨_, rfl⟩
 rw [hbb] at hU2 ⊢
 rw [hab] at hU1 ⊢
 rw [hjb] at hU0 ⊢
 have UE := Lib.hid hUE
 have U0 := Lib.hid hU0
 have U1 := Lib.hid hU1
 have U2 := Lib.hid hU2
 have y0 := (heap_cell hU0 0).trans rfl
 have a0 := (heap_cell hU1 0).trans rfl
 have a1 := (heap_cell hU1 1).trans rfl
 have a2 := (heap_cell hU1 2).trans rfl
 have a3 := (heap_cell hU1 3).trans rfl
 have a4 := (heap_cell hU1 4).trans rfl
 have a5 := (heap_cell hU1 5).trans rfl
 have a6 := (heap_cell hU1 6).trans rfl
 have yl := heap_lt hU0
 have al := heap_lt hU1
 clear hU hUE hU0 hU1 hU2 hjb hab hbb
 have harr := arr3_run
 go_upto_region 2 with (first | (go_at_call 95; refine (HMk.out _ (H.out.ext UE.out) (HO.out.ext UE.out)).mono ?_; rintro e v1 ⟨rfl, hM1⟩))
 have h1 := (H.out.ext UE.out).after_mem hM1
 have J1 := Lib.hid (OTo.keep h1 U0.out ((H.out.ext UE.out).out U0.out (by decide) (by decide) (by decide) (by decide) (by decide)))
 have A1 := Lib.hid (OTo.keep h1 U1.out ((H.out.ext UE.out).out U1.out (by decide) (by decide) (by decide) (by decide) (by decide)))
 have B1 := Lib.hid (OTo.keep h1 U2.out ((H.out.ext UE.out).out U2.out (by decide) (by decide) (by decide) (by decide) (by decide)))
 have Q1 : Hid (Owns v1 94 3 (.slice sa L.length sc) L.length (rowS L)) := Lib.hid ((HO.out.ext UE.out).keep fun g hg => by
  obtain ⟨c, hc⟩ := (HO.out.ext UE.out).heap g hg
  rw [hc]; exact OTo.keep h1 hc ((H.out.ext UE.out).out hc (by decide) (by decide) (by decide) (by decide) (by decide)))
 have T1 := OTo.before UE.out h1
 obtain ⟨Fm1, Ft1, Fp1, hO1, hK1, hF1⟩ := T1
 have O1 := Lib.hid hO1
 have K1 := Lib.hid hK1
 have F1 := Lib.hid hF1
 clear h1 hM1 hO1 hK1 hF1 y0 a0 a1 a2 a3 a4 a5 a6 yl al
 have y2 := (heap_cell J1.out 2).trans rfl
 have y3 := (heap_cell J1.out 3).trans rfl
 have y5 := (heap_cell J1.out 5).trans rfl
 have y6 := (heap_cell J1.out 6).trans rfl
 have y7 := (heap_cell J1.out 7).trans rfl
 have y16 := (heap_cell J1.out 16).trans rfl
 have a0 := (heap_cell A1.out 0).trans rfl
 have a1 := (heap_cell A1.out 1).trans rfl
 have a2 := (heap_cell A1.out 2).trans rfl
 have a3 := (heap_cell A1.out 3).trans rfl
 have a4 := (heap_cell A1.out 4).trans rfl
 have a5 := (heap_cell A1.out 5).trans rfl
 have a6 := (heap_cell A1.out 6).trans rfl
 have c0 := (heap_cell B1.out 0).trans rfl
 have c1 := (heap_cell B1.out 1).trans rfl
 have c2 := (heap_cell B1.out 2).trans rfl
 have c3 := (heap_cell B1.out 3).trans rfl
 have c4 := (heap_cell B1.out 4).trans rfl
 have yl := heap_lt J1.out
 have al := heap_lt A1.out
 have bl := heap_lt B1.out
 refine region_ext_tail 15 (by kernel_rfl) (by kernel_rfl) ?_; simp only [List.take_succ_cons, List.take_zero, List.drop_succ_cons, List.drop_zero]; (repeat (go_big_quiet_step (fail))); refine wpQuiet_nil ?_; intro w1 hb; have ⟨hc, hf, hh, hs⟩ := hb.facts; try simp only [World.size_alloc, World.size_setCell, World.size_drew] at hs
 clear hc hf hh hs
 have V2 := Lib.hid hb
 have O2 := Lib.hid (O1.out.ext hb)
 have Q2 := Lib.hid (Q1.out.ext hb)
 clear hb
 go_upto_region 3 with (first | (go_at_call 96; refine (fill_c pb pc Fp1 C q p a L sa sc 0 (g0, g1, g2) 1 fr n t (x0, x1, x2) k1 k2 k3 _ O2.out.both.psc (StepsAt.of Q2.out) (fun g o e hg => by
   subst e
   obtain ⟨c, hc⟩ := Q2.out.heap g rfl
   exact O2.out.both.psc.out hc (by decide) (by decide) hg) (by omega) (fun i hi => (HK.out.step i hi).2) ha0 ha1 HPk.out).mono ?_; rintro e v3 ⟨rfl, hP3⟩))
 rw [HC2.out] at hP3
 have h3 := O2.out.after_psc HCO.out hP3
 have J3 := Lib.hid (OTo.keep h3 ((V2.out.block _ (heap_lt J1.out)).trans J1.out) (O2.out.out ((V2.out.block _ (heap_lt J1.out)).trans J1.out) (by decide) (by decide) (by decide) (by decide) (by decide)))
 have A3 := Lib.hid (OTo.keep h3 ((V2.out.block _ (heap_lt A1.out)).trans A1.out) (O2.out.out ((V2.out.block _ (heap_lt A1.out)).trans A1.out) (by decide) (by decide) (by decide) (by decide) (by decide)))
 have Q3 : Hid (Owns v3 94 3 (.slice sa L.length sc) L.length (rowS L)) := Lib.hid (Q2.out.keep fun g hg => by
  obtain ⟨c, hc⟩ := Q2.out.heap g hg
  rw [hc]; exact OTo.keep h3 hc (O2.out.out hc (by decide) (by decide) (by decide) (by decide) (by decide)))
 have T3 : OTo mb Fm N T tb cb Ft TL r pb pc Fp C2 q w v3 := OTo.trans ⟨O1.out, K1.out, F1.out⟩ (OTo.before V2.out h3)
 obtain ⟨Fm3, Ft3, Fp3, hO3, hK3, hF3⟩ := T3
 have O3 := Lib.hid hO3
 have K3 := Lib.hid hK3
 have F3 := Lib.hid hF3
 clear h3 hP3 hO3 hK3 hF3 y2 y3 y5 y6 y7 y16 a0 a1 a2 a3 a4 a5 a6 c0 c1 c2 c3 c4 yl al bl harr
 have a0 := (heap_cell A3.out 0).trans rfl
 have al := heap_lt A3.out
 obtain ⟨g, hsa, hgl, -, s1, -⟩ := Q3.out.step (i := L.length - 1) (by omega) rfl
 rw [HK.out.end_] at s1
 subst hsa
 have hi1 : ((L.length : Int) - 1).toNat = L.length - 1 := by omega
 go_upto_region 4 with (fail)
 obtain ⟨l0, l1, l8⟩ := HK.out.low
 have her := err16 (s := last) l1 l8
 have hpk : ∀ w1, MemAt w1 mb Fm3 16 N T → Calls Tryz.prog 32 #[.pointer (some ⟨mb, 0, none⟩), .int .u64 last] w1 fun e w' => e = .returned (.tuple #[.int .u64 (N (last / 8)), .int .i64 0]) ∧ Ext w1 w' := fun w1 hm => by
  have := peek_c mb Fm3 16 N T last w1 hm l0 (by omega)
  rw [if_pos her, her] at this; exact this
 have HPk2 := Lib.hid hpk
 obtain ⟨x, hx⟩ : ∃ x, N (last / 8) = x := ⟨_, rfl⟩
 have ⟨xa, xb⟩ := (MemP.wide O3.out.memP) (last / 8)
 rw [hx] at HPk2 xa xb
 have HX := Lib.hid hx
 clear hx hpk her
 have y0 := (heap_cell J3.out 0).trans rfl
 have y13 := (heap_cell J3.out 13).trans rfl
 have y16 := (heap_cell J3.out 16).trans rfl
 have yl := heap_lt J3.out
 have a2 := (heap_cell A3.out 2).trans rfl
 have a3 := (heap_cell A3.out 3).trans rfl
 have a4 := (heap_cell A3.out 4).trans rfl
 have a5 := (heap_cell A3.out 5).trans rfl
 go_upto_region 7 with (first | (go_at_call 32; refine (HPk2.out _ O3.out.both.mem).mono ?_; rintro e v4 ⟨rfl, hb4⟩; have ⟨hc, hf, hh, hs⟩ := hb4.facts))
 have J4 := Lib.hid ((hb4.block _ (heap_lt J3.out)).trans J3.out)
 have A4 := Lib.hid ((hb4.block _ (heap_lt A3.out)).trans A3.out)
 have V4 := Lib.hid hb4
 have O4 := Lib.hid (O3.out.ext hb4)
 clear hb4 hc hf hh hs y0 y13 y16 yl a0 a2 a3 a4 a5 al s1 hgl hi1
 have hpl : a / 4096 % 512 % 8 = placeI a := by unfold placeI; omega
 have ⟨hp0', hp1'⟩ := placeI_lt a ha0
 have HIx := Lib.hid (fun w1 => vaIndex1_c a w1 ha0 ha1)
 have HBi := Lib.hid (fun w1 h1 => bits_c mb Fm3 16 N T w1 h1)
 have y0 := (heap_cell J4.out 0).trans rfl
 have y13 := (heap_cell J4.out 13).trans rfl
 have y16 := (heap_cell J4.out 16).trans rfl
 have yl := heap_lt J4.out
 have a2 := (heap_cell A4.out 2).trans rfl
 have a3 := (heap_cell A4.out 3).trans rfl
 have a4 := (heap_cell A4.out 4).trans rfl
 have al := heap_lt A4.out
 refine region_mixA 14 (.cells #[.int .u64 0, .int .u64 0, .int .u64 0, .int .u64 0, .int .u64 0, .int .u64 0, .int .u64 0, .int .u64 0, .int .i64 0, .bool false, .bool false, .bool false, .int .i64 0, .bool false] 200 (0, 0)) [.q [0, 1, 4, 5, 6, 7, 9, 10, 11, 12], .l 2 5, .q [3], .l 8 5, .b [13], .l 14 4, .l 15 2] (by kernel_rfl) (by kernel_rfl) (alloc_runA rfl (by kernel_rfl : _ = some (some (Value.agg (#[.int .u64 0, .int .u64 0, .int .u64 0, .int .u64 0, .int .u64 0, .int .u64 0, .int .u64 0, .int .u64 0, .int .i64 0, .bool false, .bool false, .bool false, .int .i64 0, .bool false])))) rfl) ?_
 (repeat (unfold wpPlanA; simp only [pickL, List.map_cons, List.map_nil, List.getD_cons_succ, List.getD_cons_zero]; (repeat go_big_quiet_step (fail)); refine wpQuiet_nil ?_)); unfold wpPlanA; intro v5 hb5; (try simp only [pickL, List.map_cons, List.map_nil, List.getD_cons_succ, List.getD_cons_zero])
 go_wp2_with (first | (go_at_call 78; refine (HIx.out _).mono ?_; rintro e v6 ⟨rfl, hb6⟩))
 have z5 := hb5.size
 have z6 := hb6.size
 refine ⟨⟨by omega, fun _ => hb6, fun h => absurd h (by omega)⟩, ?_⟩
 have E6 := Lib.hid (hb5.trans hb6)
 clear hb5 hb6
 (repeat (unfold wpPlanA; simp only [pickL, List.map_cons, List.map_nil, List.getD_cons_succ, List.getD_cons_zero]; (repeat go_big_quiet_step (fail)); refine wpQuiet_nil ?_)); unfold wpPlanA; intro v7 hb7; (try simp only [pickL, List.map_cons, List.map_nil, List.getD_cons_succ, List.getD_cons_zero])
 go_wp2_with (first | (go_at_call 47; refine (HBi.out _ (O4.out.both.mem.ext (E6.out.trans hb7))).mono ?_; rintro e v8 ⟨rfl, hb8⟩))
 have z7 := hb7.size
 have z8 := hb8.size
 refine ⟨⟨by omega, fun _ => hb8, fun h => absurd h (by omega)⟩, ?_⟩
 have E8 := Lib.hid (E6.out.trans (hb7.trans hb8))
 clear hb7 hb8
 (repeat (unfold wpPlanA; simp only [pickL, List.map_cons, List.map_nil, List.getD_cons_succ, List.getD_cons_zero]; (repeat go_big_quiet_step (fail)); refine wpQuiet_nil ?_)); unfold wpPlanA; intro sn v9 hb9 hb9B hb9O; simp only [List.getD_cons_succ, List.getD_cons_zero, ptrTo]; simp only [Act.put, Array.set!_eq_setIfInBounds, List.setIfInBounds_toArray, List.set_cons_succ, List.set_cons_zero]
 have E9 := Lib.hid (E8.out.trans hb9)
 have S9 := Lib.hid hb9O
 have hsl := heap_lt hb9O
 have hsB := Lib.hid hb9B
 have z9 := hb9.size
 clear hb9 hb9O
 (repeat (unfold wpPlanA; simp only [pickL, List.map_cons, List.map_nil, List.getD_cons_succ, List.getD_cons_zero]; (repeat go_big_quiet_step (fail)); refine wpQuiet_nil ?_)); unfold wpPlanA; intro va hba; (try simp only [pickL, List.map_cons, List.map_nil, List.getD_cons_succ, List.getD_cons_zero])
 have SA := Lib.hid ((hba.block sn hsl).trans S9.out)
 have EA := Lib.hid (E9.out.trans hba)
 have za := hba.size
 have n0 := (heap_cell SA.out 0).trans rfl
 have n1 := (heap_cell SA.out 1).trans rfl
 have n2 := (heap_cell SA.out 2).trans rfl
 have n3 := (heap_cell SA.out 3).trans rfl
 have n4 := (heap_cell SA.out 4).trans rfl
 have n5 := (heap_cell SA.out 5).trans rfl
 have n6 := (heap_cell SA.out 6).trans rfl
 have n7 := (heap_cell SA.out 7).trans rfl
 have n8 := (heap_cell SA.out 8).trans rfl
 have n9 := (heap_cell SA.out 9).trans rfl
 have n10 := (heap_cell SA.out 10).trans rfl
 have n11 := (heap_cell SA.out 11).trans rfl
 have n12 := (heap_cell SA.out 12).trans rfl
 have n13 := (heap_cell SA.out 13).trans rfl
 have nf := frozen_of SA.out
 clear hba y0 y13 y16 yl a2 a3 a4 al
 go_wp2
 refine ⟨⟨by simp; omega, fun h => absurd h (by omega), fun h => absurd h (by omega)⟩, ?_⟩
 clear n0 n1 n2 n3 n4 n5 n6 n7 n8 n9 n10 n11 n12 n13 nf
 (repeat (unfold wpPlanA; simp only [pickL, List.map_cons, List.map_nil, List.getD_cons_succ, List.getD_cons_zero]; (repeat go_big_quiet_step (fail)); refine wpQuiet_nil ?_)); unfold wpPlanA; intro X hX; (try simp only [pickL, List.map_cons, List.map_nil, List.getD_cons_succ, List.getD_cons_zero])
 have hws : w.heap.size ≤ sn := by have := K3.out.size; have := V4.out.size; have := hsB.out; omega
 have hjs : sn ≠ jb := by have := heap_lt J4.out; have := hsB.out; omega
 have TX : Hid (OTo mb Fm N T tb cb Ft TL r pb pc Fp C2 q w X) := Lib.hid ((OTo.aside ((OTo.trans ⟨O3.out, K3.out, F3.out⟩ (OTo.refl O3.out V4.out)).ext EA.out) (keeps14 (Ext.refl va)) hws SA.out (by decide) (by decide) (by decide) (by decide) (by decide) (by decide) (by decide)).ext hX)
 have hsx := (hX.block sn (by simp; exact heap_lt SA.out)).trans (store14_heap SA.out)
 have SX : Hid (X.heap[sn]? = some (.cells #[.int .u64 (upF (grpF N last) 0 0), .int .u64 (upF (grpF N last) 0 1), .int .u64 (upF (grpF N last) 0 2), .int .u64 (upF (grpF N last) 0 3), .int .u64 (upF (grpF N last) 0 4), .int .u64 (upF (grpF N last) 0 5), .int .u64 (upF (grpF N last) 0 6), .int .u64 (upF (grpF N last) 0 7), .int .i64 (placeI a), .bool g0, .bool g1, .bool g2, .int .i64 16, .bool nxe] 200 (0, 0))) := Lib.hid (by simpa [upF] using hsx)
 have JX : Hid (X.heap[jb]? = some (.cells #[.pointer (some ⟨mb, 0, none⟩), .pointer (some ⟨tb, 0, none⟩), .pointer (some ⟨pb, 0, none⟩), .int .i64 p, .int .i64 k0, .int .i64 k1, .int .i64 k2, .int .i64 k3, .int .u64 root, .int .i64 kd, .bool us, .bool ac, .bool wp, .bool nxe, .bool sp, .bool sm, .int .u64 a] 156 (0, 0))) := Lib.hid ((((keeps14 EA.out).ext hX).block jb (heap_lt J4.out) (by simp; exact fun e => hjs e.symm)).trans J4.out)
 clear hX hsx
 have HSl := Lib.hid (fun w1 => groupSlots2_c last w1 l0 (by omega))
 go_wp2_with (first | (go_at_call 98; refine (HSl.out _).mono ?_; rintro e X2 ⟨rfl, hX2⟩))
 have T2' := Lib.hid (TX.out.ext hX2)
 have S2' := Lib.hid ((hX2.block _ (heap_lt SX.out)).trans SX.out)
 have J2' := Lib.hid ((hX2.block _ (heap_lt JX.out)).trans JX.out)
 clear hX2
 go_loopw [93] (fun iv wr => ∃ k : Nat, k ≤ 8 ∧ iv = .int .i64 k ∧ Hid (OTo mb Fm N (T ++ grpT last k) tb cb Ft TL r pb pc Fp C2 q w wr ∧ wr.heap[sn]? = some (.cells #[.int .u64 (upF (grpF N last) k 0), .int .u64 (upF (grpF N last) k 1), .int .u64 (upF (grpF N last) k 2), .int .u64 (upF (grpF N last) k 3), .int .u64 (upF (grpF N last) k 4), .int .u64 (upF (grpF N last) k 5), .int .u64 (upF (grpF N last) k 6), .int .u64 (upF (grpF N last) k 7), .int .i64 (placeI a), .bool g0, .bool g1, .bool g2, .int .i64 16, .bool nxe] 200 (0, 0)) ∧ wr.heap[jb]? = some (.cells #[.pointer (some ⟨mb, 0, none⟩), .pointer (some ⟨tb, 0, none⟩), .pointer (some ⟨pb, 0, none⟩), .int .i64 p, .int .i64 k0, .int .i64 k1, .int .i64 k2, .int .i64 k3, .int .u64 root, .int .i64 kd, .bool us, .bool ac, .bool wp, .bool nxe, .bool sp, .bool sm, .int .u64 a] 156 (0, 0)))) (fun iv _ => 8 - (intOf iv).toNat)
 case atStart => exact ⟨0, by omega, rfl, Lib.hid ⟨by simpa [grpT] using T2'.out, S2'.out, J2'.out⟩⟩
 case round =>
  obtain ⟨k, hk, rfl, hR⟩ := hrel
  have HT := Lib.hid hR.out.1
  have HS := Lib.hid hR.out.2.1
  have HJ := Lib.hid hR.out.2.2
  clear hR
  by_cases hlt : k < 8
  ·have hidx := fun w => idx8 (grpA last) k hlt w
   have sk := (heap_cell HS.out k).trans (seen_at (upF (grpF N last) k) _ _ _ _ _ _ k hlt)
   have sf := frozen_of HS.out
   have sl := heap_lt HS.out
   have ⟨q0, q1, q8⟩ := grpA_le l0 l1 k hlt
   have HT5 := Lib.hid (OTo.aside HT.out (Keeps.setCell (Keeps.refl _ _) (.inl (by simp)) (.int .u64 x)) hws HS.out (by decide) (by decide) (by decide) (by decide) (by decide) (by decide) (by decide) (w2 := wr.setCell ⟨sn, k, none⟩ (.int .u64 x)))
   have HS5 := Lib.hid (setCell_heap_same (i := k) (v := .int .u64 x) HS.out)
   have HJ5 := Lib.hid ((setCell_heap wr sn k jb (.int .u64 x) hjs).trans HJ.out)
   by_cases hsl : grpA last k = last
   ·have hsb : (grpA last k != last) = false := by simpa using hsl
    have hv : x = grpF N last k := by unfold grpF; rw [hsl]; exact HX.out.symm
    have FIN : Hid (OTo mb Fm N (T ++ grpT last (k + 1)) tb cb Ft TL r pb pc Fp C2 q w (wr.setCell ⟨sn, k, none⟩ (.int .u64 x)) ∧ (wr.setCell ⟨sn, k, none⟩ (.int .u64 x)).heap[sn]? = some (.cells #[.int .u64 (upF (grpF N last) (k + 1) 0), .int .u64 (upF (grpF N last) (k + 1) 1), .int .u64 (upF (grpF N last) (k + 1) 2), .int .u64 (upF (grpF N last) (k + 1) 3), .int .u64 (upF (grpF N last) (k + 1) 4), .int .u64 (upF (grpF N last) (k + 1) 5), .int .u64 (upF (grpF N last) (k + 1) 6), .int .u64 (upF (grpF N last) (k + 1) 7), .int .i64 (placeI a), .bool g0, .bool g1, .bool g2, .int .i64 16, .bool nxe] 200 (0, 0)) ∧ (wr.setCell ⟨sn, k, none⟩ (.int .u64 x)).heap[jb]? = some (.cells #[.pointer (some ⟨mb, 0, none⟩), .pointer (some ⟨tb, 0, none⟩), .pointer (some ⟨pb, 0, none⟩), .int .i64 p, .int .i64 k0, .int .i64 k1, .int .i64 k2, .int .i64 k3, .int .u64 root, .int .i64 kd, .bool us, .bool ac, .bool wp, .bool nxe, .bool sp, .bool sm, .int .u64 a] 156 (0, 0))) :=
     Lib.hid ⟨by rw [grpT_succ, if_pos hsl]; exact HT5.out, by rw [← seen_set (grpF N last) k hlt _ _ _ _ _ _ x hv]; exact HS5.out, HJ5.out⟩
    clear hsl hv HT5 HS5 HJ5 q0 q1 q8
    generalize grpA last k = slot at *
    go_wp2
    exact ⟨⟨k + 1, by omega, by go_num, FIN⟩, by simp [intOf]; omega⟩
   ·have hsb : (grpA last k != last) = true := by simpa using hsl
    obtain ⟨Fm5, Ft5, Fp5, hO5, hK5, hF5⟩ := HT5.out
    have herk := err16 (s := grpA last k) q1 q8
    have hld : ∀ w1, MemAt w1 mb Fm5 16 N (T ++ grpT last k) → Calls Tryz.prog 45 #[.pointer (some ⟨mb, 0, none⟩), .int .u64 (grpA last k)] w1 fun e w' => e = .returned (.tuple #[.int .u64 (grpF N last k), .int .i64 0]) ∧ EndMem mb Fm5 w1 16 N (T ++ grpT last k ++ [grpA last k]) w' := fun w1 hm => by
     have hgl := grpT_length last k
     have := load_c mb Fm5 16 N (T ++ grpT last k) (grpA last k) w1 hm q0 (by omega) (by rw [List.length_append]; omega)
     rw [if_pos herk, if_pos herk, herk] at this; exact this
    have HLD := Lib.hid hld
    have HO5 := Lib.hid hO5
    have hout := HO5.out.out HS5.out (by decide) (by decide) (by decide) (by decide) (by decide)
    have houtj := HO5.out.out HJ5.out (by decide) (by decide) (by decide) (by decide) (by decide)
    have HOUT := Lib.hid (⟨hout, houtj⟩ : _ ∧ _)
    have HKF := Lib.hid (⟨hK5, hF5⟩ : _ ∧ _)
    have hgs : grpT last (k + 1) = grpT last k ++ [grpA last k] := by rw [grpT_succ, if_neg hsl]
    have HGS := Lib.hid hgs
    obtain ⟨fv, hfv⟩ : ∃ fv, grpF N last k = fv := ⟨_, rfl⟩
    rw [hfv] at HLD
    have HFV := Lib.hid hfv
    have y0 := (heap_cell HJ5.out 0).trans rfl
    have yl := heap_lt HJ5.out
    have j0 := (heap_cell HJ.out 0).trans rfl
    have jl := heap_lt HJ.out
    clear hsl herk hld hO5 hK5 hF5 hout houtj hgs hfv q0 q1 q8
    obtain ⟨slot, hslot⟩ : ∃ slot, grpA last k = slot := ⟨_, rfl⟩
    rw [hslot] at HLD HGS hidx hsb
    clear hslot
    go_wp2_with (first | (go_at_call 45; refine (HLD.out _ HO5.out.both.mem).mono ?_; rintro e v6 ⟨rfl, hM6⟩; have S6 := Lib.hid (OTo.keep (HO5.out.after_mem hM6) HS5.out HOUT.out.1); have J6 := Lib.hid (OTo.keep (HO5.out.after_mem hM6) HJ5.out HOUT.out.2); have T6 := Lib.hid (OTo.trans ⟨HO5.out, HKF.out.1, HKF.out.2⟩ (HO5.out.after_mem hM6)); have q6 : v6.cell? ⟨sn, k, none⟩ = some (.int .u64 x) := (heap_cell S6.out k).trans (seen_put (upF (grpF N last) k) _ _ _ _ _ _ k hlt x); have qf := frozen_of S6.out; have ql := heap_lt S6.out; clear hM6))
    have FIN : Hid (OTo mb Fm N (T ++ grpT last (k + 1)) tb cb Ft TL r pb pc Fp C2 q w (v6.setCell ⟨sn, k, none⟩ (.int .u64 fv)) ∧ (v6.setCell ⟨sn, k, none⟩ (.int .u64 fv)).heap[sn]? = some (.cells #[.int .u64 (upF (grpF N last) (k + 1) 0), .int .u64 (upF (grpF N last) (k + 1) 1), .int .u64 (upF (grpF N last) (k + 1) 2), .int .u64 (upF (grpF N last) (k + 1) 3), .int .u64 (upF (grpF N last) (k + 1) 4), .int .u64 (upF (grpF N last) (k + 1) 5), .int .u64 (upF (grpF N last) (k + 1) 6), .int .u64 (upF (grpF N last) (k + 1) 7), .int .i64 (placeI a), .bool g0, .bool g1, .bool g2, .int .i64 16, .bool nxe] 200 (0, 0)) ∧ (v6.setCell ⟨sn, k, none⟩ (.int .u64 fv)).heap[jb]? = some (.cells #[.pointer (some ⟨mb, 0, none⟩), .pointer (some ⟨tb, 0, none⟩), .pointer (some ⟨pb, 0, none⟩), .int .i64 p, .int .i64 k0, .int .i64 k1, .int .i64 k2, .int .i64 k3, .int .u64 root, .int .i64 kd, .bool us, .bool ac, .bool wp, .bool nxe, .bool sp, .bool sm, .int .u64 a] 156 (0, 0))) :=
     Lib.hid ⟨by rw [HGS.out, ← List.append_assoc]; exact OTo.aside T6.out (Keeps.setCell (Keeps.refl _ _) (.inl (by simp)) _) hws S6.out (by decide) (by decide) (by decide) (by decide) (by decide) (by decide) (by decide),
      by rw [← seen_set (grpF N last) k hlt _ _ _ _ _ _ fv HFV.out.symm, setCell_heap_same (i := k) (v := .int .u64 fv) S6.out, Array.setIfInBounds_setIfInBounds], (setCell_heap v6 sn k jb _ hjs).trans J6.out⟩
    exact ⟨⟨k + 1, by omega, by go_num, FIN⟩, by simp [intOf]; omega⟩
  ·obtain rfl : k = 8 := by omega
   obtain ⟨j, hj⟩ : ∃ j : Nat, (j : Int) = placeI a := ⟨(placeI a).toNat, by omega⟩
   have hj8 : j < 8 := by omega
   have hjn : (placeI a).toNat = j := by omega
   have hrw := MemP.wide HT.out.choose_spec.choose_spec.choose_spec.1.memP
   have hrun : ∀ w1, Calls Tryz.prog 100 #[.agg #[.int .u64 (upF (grpF N last) 8 0), .int .u64 (upF (grpF N last) 8 1), .int .u64 (upF (grpF N last) 8 2), .int .u64 (upF (grpF N last) 8 3), .int .u64 (upF (grpF N last) 8 4), .int .u64 (upF (grpF N last) 8 5), .int .u64 (upF (grpF N last) 8 6), .int .u64 (upF (grpF N last) 8 7), .int .i64 (placeI a), .bool g0, .bool g1, .bool g2, .int .i64 16, .bool nxe]] w1 fun e w' => e = .returned (runF (grpF N last) (placeI a) 16 (g0, g1, g2) nxe (grpF N last j)).val ∧ Ext w1 w' := fun w1 => by
    have := grun_c (upF (grpF N last) 8) j 16 (g0, g1, g2) nxe w1 hj8 (fun i hi => by rw [upF_all _ i hi]; exact hrw _) (by omega) (by omega)
    rw [runF_congr (g := grpF N last) (fun i hi => upF_all _ i hi), upF_all _ j hj8, hj] at this
    exact this
   have HRun := Lib.hid hrun
   have HRV : Hid (keepL p a 1 fr (g0, g1, g2) last N nxe k0 r TL = smallL p a (runF (grpF N last) (placeI a) 16 (g0, g1, g2) nxe (grpF N last j)) k0 r TL) := Lib.hid (by unfold keepL; rw [if_neg (by omega), hjn, hj])
   clear hrun hrw hjn
   generalize runF (grpF N last) (placeI a) 16 (g0, g1, g2) nxe (grpF N last j) = RL at HRun HRV
   obtain ⟨Fm6, Ft6, Fp6, hO6, hK6, hF6⟩ := HT.out
   have O6 := Lib.hid hO6
   have KF6 := Lib.hid (⟨hK6, hF6⟩ : _ ∧ _)
   clear hO6 hK6 hF6
   have HSm := Lib.hid (fun w1 h1 => small_c tb cb Ft6 TL r p a RL k0 w1 h1 ha0 ha1 HP0.out.1 HP0.out.2)
   generalize placeI a = pl at *
   have s0 := (heap_cell HS.out 0).trans rfl
   have s1 := (heap_cell HS.out 1).trans rfl
   have s2 := (heap_cell HS.out 2).trans rfl
   have s3 := (heap_cell HS.out 3).trans rfl
   have s4 := (heap_cell HS.out 4).trans rfl
   have s5 := (heap_cell HS.out 5).trans rfl
   have s6 := (heap_cell HS.out 6).trans rfl
   have s7 := (heap_cell HS.out 7).trans rfl
   have s8 := (heap_cell HS.out 8).trans rfl
   have s9 := (heap_cell HS.out 9).trans rfl
   have s10 := (heap_cell HS.out 10).trans rfl
   have s11 := (heap_cell HS.out 11).trans rfl
   have s12 := (heap_cell HS.out 12).trans rfl
   have s13 := (heap_cell HS.out 13).trans rfl
   have sl := heap_lt HS.out
   have j1 := (heap_cell HJ.out 1).trans rfl
   have j3 := (heap_cell HJ.out 3).trans rfl
   have j4 := (heap_cell HJ.out 4).trans rfl
   have j16 := (heap_cell HJ.out 16).trans rfl
   have jl := heap_lt HJ.out
   clear hpl hp0' hp1'
   go_upto_region 15 with (fail)
   refine region_ext_tail 14 (by kernel_rfl) (by kernel_rfl) ?_; simp only [List.take_succ_cons, List.take_zero, List.drop_succ_cons, List.drop_zero]; (repeat (go_big_quiet_step ((go_at_call 100; exact calls_wext (HRun.out _))))); refine wpQuiet_nil ?_; intro w1 hb; have ⟨hc, hf, hh, hs⟩ := hb.facts; try simp only [World.size_alloc, World.size_setCell, World.size_drew] at hs
   clear hc hf hh hs
   go_wp2_with (first | (go_at_call 99; refine (HSm.out _ (O6.out.tlb.ext hb)).mono ?_; rintro e v9 ⟨rfl, hT9⟩))
   have h9 := (O6.out.ext hb).after_tlb (TL' := keepL p a 1 fr (g0, g1, g2) last N nxe k0 r TL) (LOk.keep O6.out.lok) (by rw [HRV.out]; exact hT9)
   have hkt : keepT 1 last = grpT last 8 := by unfold keepT; rw [if_neg (by omega)]
   rw [← HE.out, hkt]
   refine ⟨rfl, .tuple #[], (by simp [results, Tryz.results70, go_sem]), ?_⟩
   exact ⟨rfl, OTo.trans ⟨O6.out, KF6.out.1, KF6.out.2⟩ (OTo.before hb h9)⟩
end Go.Proofs.YtkfonacokamfiaaGreat
