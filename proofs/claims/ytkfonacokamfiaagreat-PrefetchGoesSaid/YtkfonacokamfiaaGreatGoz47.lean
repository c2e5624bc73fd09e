/- Joined texts, part 47 of what the law stands on: each as its own head says. -/
import Derived.Test.YtkfonacokamfiaaGreatGoz46
/- The document's quick translation: deepest. Printed by mkopts.py. Own text. -/
namespace Go.Proofs.YtkfonacokamfiaaGreat
set_option linter.unusedVariables false
set_option linter.unusedSimpArgs false
open Go.RowKit
attribute [local go_sem] wext_cell wext_frozen wext_heap alloc_cell alloc_frozen alloc_heap setCell_cell objCell_cells objFrozen_cells
theorem store11_heap {w : World} {b : Nat} {c0 c1 c2 c3 c4 c5 c6 c7 c8 c9 c10 v0 v1 v2 v3 v4 v5 v6 v7 v8 v9 v10 : Value} {e : TypeId} {f : Nat × Nat} (h : w.heap[b]? = some (.cells #[c0, c1, c2, c3, c4, c5, c6, c7, c8, c9, c10] e f)) :
  (((((((((((w.setCell ⟨b, 0, none⟩ v0).setCell ⟨b, 1, none⟩ v1).setCell ⟨b, 2, none⟩ v2).setCell ⟨b, 3, none⟩ v3).setCell ⟨b, 4, none⟩ v4).setCell ⟨b, 5, none⟩ v5).setCell ⟨b, 6, none⟩ v6).setCell ⟨b, 7, none⟩ v7).setCell ⟨b, 8, none⟩ v8).setCell ⟨b, 9, none⟩ v9).setCell ⟨b, 10, none⟩ v10).heap[b]? = some (.cells #[v0, v1, v2, v3, v4, v5, v6, v7, v8, v9, v10] e f) := by
 have h0 : (w.setCell ⟨b, 0, none⟩ v0).heap[b]? = some (.cells #[v0, c1, c2, c3, c4, c5, c6, c7, c8, c9, c10] e f) := setCell_heap_same h
 have h1 : ((w.setCell ⟨b, 0, none⟩ v0).setCell ⟨b, 1, none⟩ v1).heap[b]? = some (.cells #[v0, v1, c2, c3, c4, c5, c6, c7, c8, c9, c10] e f) := setCell_heap_same h0
 have h2 : (((w.setCell ⟨b, 0, none⟩ v0).setCell ⟨b, 1, none⟩ v1).setCell ⟨b, 2, none⟩ v2).heap[b]? = some (.cells #[v0, v1, v2, c3, c4, c5, c6, c7, c8, c9, c10] e f) := setCell_heap_same h1
 have h3 : ((((w.setCell ⟨b, 0, none⟩ v0).setCell ⟨b, 1, none⟩ v1).setCell ⟨b, 2, none⟩ v2).setCell ⟨b, 3, none⟩ v3).heap[b]? = some (.cells #[v0, v1, v2, v3, c4, c5, c6, c7, c8, c9, c10] e f) := setCell_heap_same h2
 have h4 : (((((w.setCell ⟨b, 0, none⟩ v0).setCell ⟨b, 1, none⟩ v1).setCell ⟨b, 2, none⟩ v2).setCell ⟨b, 3, none⟩ v3).setCell ⟨b, 4, none⟩ v4).heap[b]? = some (.cells #[v0, v1, v2, v3, v4, c5, c6, c7, c8, c9, c10] e f) := setCell_heap_same h3
 have h5 : ((((((w.setCell ⟨b, 0, none⟩ v0).setCell ⟨b, 1, none⟩ v1).setCell ⟨b, 2, none⟩ v2).setCell ⟨b, 3, none⟩ v3).setCell ⟨b, 4, none⟩ v4).setCell ⟨b, 5, none⟩ v5).heap[b]? = some (.cells #[v0, v1, v2, v3, v4, v5, c6, c7, c8, c9, c10] e f) := setCell_heap_same h4
 have h6 : (((((((w.setCell ⟨b, 0, none⟩ v0).setCell ⟨b, 1, none⟩ v1).setCell ⟨b, 2, none⟩ v2).setCell ⟨b, 3, none⟩ v3).setCell ⟨b, 4, none⟩ v4).setCell ⟨b, 5, none⟩ v5).setCell ⟨b, 6, none⟩ v6).heap[b]? = some (.cells #[v0, v1, v2, v3, v4, v5, v6, c7, c8, c9, c10] e f) := setCell_heap_same h5
 have h7 : ((((((((w.setCell ⟨b, 0, none⟩ v0).setCell ⟨b, 1, none⟩ v1).setCell ⟨b, 2, none⟩ v2).setCell ⟨b, 3, none⟩ v3).setCell ⟨b, 4, none⟩ v4).setCell ⟨b, 5, none⟩ v5).setCell ⟨b, 6, none⟩ v6).setCell ⟨b, 7, none⟩ v7).heap[b]? = some (.cells #[v0, v1, v2, v3, v4, v5, v6, v7, c8, c9, c10] e f) := setCell_heap_same h6
 have h8 : (((((((((w.setCell ⟨b, 0, none⟩ v0).setCell ⟨b, 1, none⟩ v1).setCell ⟨b, 2, none⟩ v2).setCell ⟨b, 3, none⟩ v3).setCell ⟨b, 4, none⟩ v4).setCell ⟨b, 5, none⟩ v5).setCell ⟨b, 6, none⟩ v6).setCell ⟨b, 7, none⟩ v7).setCell ⟨b, 8, none⟩ v8).heap[b]? = some (.cells #[v0, v1, v2, v3, v4, v5, v6, v7, v8, c9, c10] e f) := setCell_heap_same h7
 have h9 : ((((((((((w.setCell ⟨b, 0, none⟩ v0).setCell ⟨b, 1, none⟩ v1).setCell ⟨b, 2, none⟩ v2).setCell ⟨b, 3, none⟩ v3).setCell ⟨b, 4, none⟩ v4).setCell ⟨b, 5, none⟩ v5).setCell ⟨b, 6, none⟩ v6).setCell ⟨b, 7, none⟩ v7).setCell ⟨b, 8, none⟩ v8).setCell ⟨b, 9, none⟩ v9).heap[b]? = some (.cells #[v0, v1, v2, v3, v4, v5, v6, v7, v8, v9, c10] e f) := setCell_heap_same h8
 have h10 : (((((((((((w.setCell ⟨b, 0, none⟩ v0).setCell ⟨b, 1, none⟩ v1).setCell ⟨b, 2, none⟩ v2).setCell ⟨b, 3, none⟩ v3).setCell ⟨b, 4, none⟩ v4).setCell ⟨b, 5, none⟩ v5).setCell ⟨b, 6, none⟩ v6).setCell ⟨b, 7, none⟩ v7).setCell ⟨b, 8, none⟩ v8).setCell ⟨b, 9, none⟩ v9).setCell ⟨b, 10, none⟩ v10).heap[b]? = some (.cells #[v0, v1, v2, v3, v4, v5, v6, v7, v8, v9, v10] e f) := setCell_heap_same h9
 exact h10
theorem store11_other {w : World} {b b' : Nat} {v0 v1 v2 v3 v4 v5 v6 v7 v8 v9 v10 : Value} (h : b ≠ b') : (((((((((((w.setCell ⟨b, 0, none⟩ v0).setCell ⟨b, 1, none⟩ v1).setCell ⟨b, 2, none⟩ v2).setCell ⟨b, 3, none⟩ v3).setCell ⟨b, 4, none⟩ v4).setCell ⟨b, 5, none⟩ v5).setCell ⟨b, 6, none⟩ v6).setCell ⟨b, 7, none⟩ v7).setCell ⟨b, 8, none⟩ v8).setCell ⟨b, 9, none⟩ v9).setCell ⟨b, 10, none⟩ v10).heap[b']? = w.heap[b']? := by
 rw [setCell_heap _ _ _ _ _ h, setCell_heap _ _ _ _ _ h, setCell_heap _ _ _ _ _ h, setCell_heap _ _ _ _ _ h, setCell_heap _ _ _ _ _ h, setCell_heap _ _ _ _ _ h, setCell_heap _ _ _ _ _ h, setCell_heap _ _ _ _ _ h, setCell_heap _ _ _ _ _ h, setCell_heap _ _ _ _ _ h, setCell_heap _ _ _ _ _ h]
theorem ext11 {a w : World} {b : Nat} {v0 v1 v2 v3 v4 v5 v6 v7 v8 v9 v10 : Value} (h : Ext a w) (hb : a.heap.size ≤ b) : Ext a (((((((((((w.setCell ⟨b, 0, none⟩ v0).setCell ⟨b, 1, none⟩ v1).setCell ⟨b, 2, none⟩ v2).setCell ⟨b, 3, none⟩ v3).setCell ⟨b, 4, none⟩ v4).setCell ⟨b, 5, none⟩ v5).setCell ⟨b, 6, none⟩ v6).setCell ⟨b, 7, none⟩ v7).setCell ⟨b, 8, none⟩ v8).setCell ⟨b, 9, none⟩ v9).setCell ⟨b, 10, none⟩ v10) := by
 have h0 : Ext a (w.setCell ⟨b, 0, none⟩ v0) := Ext.setCell h hb _
 have h1 : Ext a ((w.setCell ⟨b, 0, none⟩ v0).setCell ⟨b, 1, none⟩ v1) := Ext.setCell h0 hb _
 have h2 : Ext a (((w.setCell ⟨b, 0, none⟩ v0).setCell ⟨b, 1, none⟩ v1).setCell ⟨b, 2, none⟩ v2) := Ext.setCell h1 hb _
 have h3 : Ext a ((((w.setCell ⟨b, 0, none⟩ v0).setCell ⟨b, 1, none⟩ v1).setCell ⟨b, 2, none⟩ v2).setCell ⟨b, 3, none⟩ v3) := Ext.setCell h2 hb _
 have h4 : Ext a (((((w.setCell ⟨b, 0, none⟩ v0).setCell ⟨b, 1, none⟩ v1).setCell ⟨b, 2, none⟩ v2).setCell ⟨b, 3, none⟩ v3).setCell ⟨b, 4, none⟩ v4) := Ext.setCell h3 hb _
 have h5 : Ext a ((((((w.setCell ⟨b, 0, none⟩ v0).setCell ⟨b, 1, none⟩ v1).setCell ⟨b, 2, none⟩ v2).setCell ⟨b, 3, none⟩ v3).setCell ⟨b, 4, none⟩ v4).setCell ⟨b, 5, none⟩ v5) := Ext.setCell h4 hb _
 have h6 : Ext a (((((((w.setCell ⟨b, 0, none⟩ v0).setCell ⟨b, 1, none⟩ v1).setCell ⟨b, 2, none⟩ v2).setCell ⟨b, 3, none⟩ v3).setCell ⟨b, 4, none⟩ v4).setCell ⟨b, 5, none⟩ v5).setCell ⟨b, 6, none⟩ v6) := Ext.setCell h5 hb _
 have h7 : Ext a ((((((((w.setCell ⟨b, 0, none⟩ v0).setCell ⟨b, 1, none⟩ v1).setCell ⟨b, 2, none⟩ v2).setCell ⟨b, 3, none⟩ v3).setCell ⟨b, 4, none⟩ v4).setCell ⟨b, 5, none⟩ v5).setCell ⟨b, 6, none⟩ v6).setCell ⟨b, 7, none⟩ v7) := Ext.setCell h6 hb _
 have h8 : Ext a (((((((((w.setCell ⟨b, 0, none⟩ v0).setCell ⟨b, 1, none⟩ v1).setCell ⟨b, 2, none⟩ v2).setCell ⟨b, 3, none⟩ v3).setCell ⟨b, 4, none⟩ v4).setCell ⟨b, 5, none⟩ v5).setCell ⟨b, 6, none⟩ v6).setCell ⟨b, 7, none⟩ v7).setCell ⟨b, 8, none⟩ v8) := Ext.setCell h7 hb _
 have h9 : Ext a ((((((((((w.setCell ⟨b, 0, none⟩ v0).setCell ⟨b, 1, none⟩ v1).setCell ⟨b, 2, none⟩ v2).setCell ⟨b, 3, none⟩ v3).setCell ⟨b, 4, none⟩ v4).setCell ⟨b, 5, none⟩ v5).setCell ⟨b, 6, none⟩ v6).setCell ⟨b, 7, none⟩ v7).setCell ⟨b, 8, none⟩ v8).setCell ⟨b, 9, none⟩ v9) := Ext.setCell h8 hb _
 have h10 : Ext a (((((((((((w.setCell ⟨b, 0, none⟩ v0).setCell ⟨b, 1, none⟩ v1).setCell ⟨b, 2, none⟩ v2).setCell ⟨b, 3, none⟩ v3).setCell ⟨b, 4, none⟩ v4).setCell ⟨b, 5, none⟩ v5).setCell ⟨b, 6, none⟩ v6).setCell ⟨b, 7, none⟩ v7).setCell ⟨b, 8, none⟩ v8).setCell ⟨b, 9, none⟩ v9).setCell ⟨b, 10, none⟩ v10) := Ext.setCell h9 hb _
 exact h10
theorem keeps11 {F : List Nat} {a w : World} {b : Nat} {v0 v1 v2 v3 v4 v5 v6 v7 v8 v9 v10 : Value} (h : Keeps F a w) (hb : b ∈ F) : Keeps F a (((((((((((w.setCell ⟨b, 0, none⟩ v0).setCell ⟨b, 1, none⟩ v1).setCell ⟨b, 2, none⟩ v2).setCell ⟨b, 3, none⟩ v3).setCell ⟨b, 4, none⟩ v4).setCell ⟨b, 5, none⟩ v5).setCell ⟨b, 6, none⟩ v6).setCell ⟨b, 7, none⟩ v7).setCell ⟨b, 8, none⟩ v8).setCell ⟨b, 9, none⟩ v9).setCell ⟨b, 10, none⟩ v10) := by
 have h0 : Keeps F a (w.setCell ⟨b, 0, none⟩ v0) := Keeps.setCell h (.inl hb) _
 have h1 : Keeps F a ((w.setCell ⟨b, 0, none⟩ v0).setCell ⟨b, 1, none⟩ v1) := Keeps.setCell h0 (.inl hb) _
 have h2 : Keeps F a (((w.setCell ⟨b, 0, none⟩ v0).setCell ⟨b, 1, none⟩ v1).setCell ⟨b, 2, none⟩ v2) := Keeps.setCell h1 (.inl hb) _
 have h3 : Keeps F a ((((w.setCell ⟨b, 0, none⟩ v0).setCell ⟨b, 1, none⟩ v1).setCell ⟨b, 2, none⟩ v2).setCell ⟨b, 3, none⟩ v3) := Keeps.setCell h2 (.inl hb) _
 have h4 : Keeps F a (((((w.setCell ⟨b, 0, none⟩ v0).setCell ⟨b, 1, none⟩ v1).setCell ⟨b, 2, none⟩ v2).setCell ⟨b, 3, none⟩ v3).setCell ⟨b, 4, none⟩ v4) := Keeps.setCell h3 (.inl hb) _
 have h5 : Keeps F a ((((((w.setCell ⟨b, 0, none⟩ v0).setCell ⟨b, 1, none⟩ v1).setCell ⟨b, 2, none⟩ v2).setCell ⟨b, 3, none⟩ v3).setCell ⟨b, 4, none⟩ v4).setCell ⟨b, 5, none⟩ v5) := Keeps.setCell h4 (.inl hb) _
 have h6 : Keeps F a (((((((w.setCell ⟨b, 0, none⟩ v0).setCell ⟨b, 1, none⟩ v1).setCell ⟨b, 2, none⟩ v2).setCell ⟨b, 3, none⟩ v3).setCell ⟨b, 4, none⟩ v4).setCell ⟨b, 5, none⟩ v5).setCell ⟨b, 6, none⟩ v6) := Keeps.setCell h5 (.inl hb) _
 have h7 : Keeps F a ((((((((w.setCell ⟨b, 0, none⟩ v0).setCell ⟨b, 1, none⟩ v1).setCell ⟨b, 2, none⟩ v2).setCell ⟨b, 3, none⟩ v3).setCell ⟨b, 4, none⟩ v4).setCell ⟨b, 5, none⟩ v5).setCell ⟨b, 6, none⟩ v6).setCell ⟨b, 7, none⟩ v7) := Keeps.setCell h6 (.inl hb) _
 have h8 : Keeps F a (((((((((w.setCell ⟨b, 0, none⟩ v0).setCell ⟨b, 1, none⟩ v1).setCell ⟨b, 2, none⟩ v2).setCell ⟨b, 3, none⟩ v3).setCell ⟨b, 4, none⟩ v4).setCell ⟨b, 5, none⟩ v5).setCell ⟨b, 6, none⟩ v6).setCell ⟨b, 7, none⟩ v7).setCell ⟨b, 8, none⟩ v8) := Keeps.setCell h7 (.inl hb) _
 have h9 : Keeps F a ((((((((((w.setCell ⟨b, 0, none⟩ v0).setCell ⟨b, 1, none⟩ v1).setCell ⟨b, 2, none⟩ v2).setCell ⟨b, 3, none⟩ v3).setCell ⟨b, 4, none⟩ v4).setCell ⟨b, 5, none⟩ v5).setCell ⟨b, 6, none⟩ v6).setCell ⟨b, 7, none⟩ v7).setCell ⟨b, 8, none⟩ v8).setCell ⟨b, 9, none⟩ v9) := Keeps.setCell h8 (.inl hb) _
 have h10 : Keeps F a (((((((((((w.setCell ⟨b, 0, none⟩ v0).setCell ⟨b, 1, none⟩ v1).setCell ⟨b, 2, none⟩ v2).setCell ⟨b, 3, none⟩ v3).setCell ⟨b, 4, none⟩ v4).setCell ⟨b, 5, none⟩ v5).setCell ⟨b, 6, none⟩ v6).setCell ⟨b, 7, none⟩ v7).setCell ⟨b, 8, none⟩ v8).setCell ⟨b, 9, none⟩ v9).setCell ⟨b, 10, none⟩ v10) := Keeps.setCell h9 (.inl hb) _
 exact h10
theorem keeps7m {F : List Nat} {a w : World} {b : Nat} {v0 v1 v2 v3 v4 v5 v6 : Value} (h : Keeps F a w) (hb : b ∈ F) : Keeps F a (((((((w.setCell ⟨b, 0, none⟩ v0).setCell ⟨b, 1, none⟩ v1).setCell ⟨b, 2, none⟩ v2).setCell ⟨b, 3, none⟩ v3).setCell ⟨b, 4, none⟩ v4).setCell ⟨b, 5, none⟩ v5).setCell ⟨b, 6, none⟩ v6) :=
 Keeps.setCell (Keeps.setCell (Keeps.setCell (Keeps.setCell (Keeps.setCell (Keeps.setCell (Keeps.setCell h (.inl hb) _) (.inl hb) _) (.inl hb) _) (.inl hb) _) (.inl hb) _) (.inl hb) _) (.inl hb) _
theorem store5_other {w : World} {b b' : Nat} {v0 v1 v2 v3 v4 : Value} (h : b ≠ b') : (((((w.setCell ⟨b, 0, none⟩ v0).setCell ⟨b, 1, none⟩ v1).setCell ⟨b, 2, none⟩ v2).setCell ⟨b, 3, none⟩ v3).setCell ⟨b, 4, none⟩ v4).heap[b']? = w.heap[b']? := by
 rw [setCell_heap _ _ _ _ _ h, setCell_heap _ _ _ _ _ h, setCell_heap _ _ _ _ _ h, setCell_heap _ _ _ _ _ h, setCell_heap _ _ _ _ _ h]
theorem alloc_same5 (w : World) (o o1 o2 o3 o4 o5 : Obj) : ((((((w.alloc o1).alloc o2).alloc o3).alloc o4).alloc o5).alloc o).heap[w.heap.size + 1 + 1 + 1 + 1 + 1]? = some o := by
 have := alloc_same (((((w.alloc o1).alloc o2).alloc o3).alloc o4).alloc o5) o
 simpa using this
set_option maxHeartbeats 4000000 in
set_option maxRecDepth 100000 in
theorem rdeepest_c (h : SPh) (S : List (Int × Int)) (M : Int → Int) (T : List Int) (L : Lines) (r : Nat) (C : Int → Lines) (q : Nat) (u : Who) (kd a : Int) (us ac wp sp sm : Bool) (w : World) (H : StAt w h S M T L r C q) (hC : COk C) (hSl : S.length ≤ 1000000) (hTl : T.length ≤ 900000)
  (hr0 : 0 ≤ u.root) (hr1 : u.root ≤ 18446744073709551615) (h0 : 0 ≤ a) (h1 : a ≤ 18446744073709551615) :
  Calls Tryz.prog 72 #[.agg (stV h S T L r C q), whoV u, useV u kd us ac wp sp sm, .int .u64 a] w (REndJob h S T L r C q (startQ u.root (deepF C u.p a)) (jobW M u.nxe u.root u.p a C) w) := by
 have HH := Lib.hid H
 have HD := Lib.hid (fun w k => rDeep_c h.pa h.pc C q u.p a w (H.psc.ext k : RpAt w h.pa h.pc C) h0 h1)
 have HTp := Lib.hid (fun w => refTop_c u.root w hr0 hr1)
 have ⟨⟨s0, s1⟩, s2, s3⟩ := startQ_le (p := u.p) (a := a) hC hr0 hr1
 have hFr : ∀ (w1 : World), SAt w1 h.sa h.sc S → TrAt w1 h.ta h.tc T → Calls Tryz.prog 29 #[.agg #[.int .i64 16, .slice h.sa S.length h.sc, .slice h.ta T.length h.tc], .agg #[.int .i64 (startQ u.root (deepF C u.p a)).1, .int .u64 (startQ u.root (deepF C u.p a)).2.1, .bool (startQ u.root (deepF C u.p a)).2.2.1, .bool (startQ u.root (deepF C u.p a)).2.2.2.1, .bool (startQ u.root (deepF C u.p a)).2.2.2.2], .int .u64 a, .bool u.nxe] w1 (EndFrom h.ta 16 h.sa S.length h.sc T (jobW M u.nxe u.root u.p a C) w1) := fun w1 k1 k2 => by
  have := rFrom_c 16 (by omega) h.sa h.ta S M T h.sc h.tc (startQ u.root (deepF C u.p a)).1.toNat (startQ u.root (deepF C u.p a)).2.1 a (startQ u.root (deepF C u.p a)).2.2.1 (startQ u.root (deepF C u.p a)).2.2.2.1 (startQ u.root (deepF C u.p a)).2.2.2.2 u.nxe w1 k1 k2 H.ok hSl hTl (by omega) s2 s3 h0 h1
  rw [Int.toNat_of_nonneg s0] at this
  exact this
 have HFr := Lib.hid hFr
 clear hFr s0 s1 s2 s3
 generalize jobW M u.nxe u.root u.p a C = z at HFr ⊢
 generalize deepF C u.p a = d at HD HFr ⊢
 obtain ⟨P, why, ⟨b0, b1, b2⟩, lv, fr⟩ := z
 obtain ⟨sa, sc, ta, tc, la, lc, pa, pc⟩ := h
 obtain ⟨up, uk0, uk1, uk2, uk3, ur, un⟩ := u
 have HSl := Lib.hid H.slots
 have HTr := Lib.hid H.trace
 clear H HH
 unfold REndJob
 unfold EndFrom at HFr
 unfold stV stC whoV useV
 dsimp only at HD HTp HFr HSl HTr ⊢
 generalize T ++ P.map (·.2.1) = T2 at HFr ⊢
 generalize S.length = n at *
 generalize T.length = k at *
 generalize L.length = l at *
 generalize (C 4).length = n4 at *
 generalize (C 3).length = n3 at *
 generalize (C 2).length = n2 at *
 generalize pa 4 = a4 at *
 generalize pa 3 = a3 at *
 generalize pa 2 = a2 at *
 generalize pc 4 = c4 at *
 generalize pc 3 = c3 at *
 generalize pc 2 = c2 at *
 generalize hE : (fun (e : Ending) (w' : World) => ∃ ta2 tc2 za zc, e = .returned (.tuple #[.agg #[.int .i64 16, .slice sa n sc, .slice ta2 T2.length tc2, .slice la l lc, .int .i64 r, .slice a4 n4 c4, .int .i64 q, .slice a3 n3 c3, .int .i64 q, .slice a2 n2 c2, .int .i64 q],
   .agg #[.slice za P.length zc, .int .i64 why, .bool b0, .bool b1, .bool b2, .int .i64 lv, .int .u64 fr], .agg #[.int .i64 (startQ ur d).1, .int .u64 (startQ ur d).2.1, .bool (startQ ur d).2.2.1, .bool (startQ ur d).2.2.2.1, .bool (startQ ur d).2.2.2.2]]) ∧
  TrAt w' ta2 tc2 T2 ∧ Owns w' 109 3 (.slice za P.length zc) P.length (rowS P) ∧ Ext w w' ∧ FreshT w ta ta2) = E
 have HE := Lib.hid hE
 clear hE
 go_enter Tryz.func72, Tryz.ntmps72
 go_upto_region 1 with (fail)
 refine wp_gen ?_; intro V hV
 have hVE : Ext w V := by rw [hV]; exact (by repeat (first | exact Ext.refl _ | assumption | refine Ext.alloc ?_ _ | refine Ext.drew ?_ | refine Ext.setCell ?_ (by first | (simp; done) | (dsimp only; omega)) _ | refine Ext.trans ?_ (by assumption)))
 have hV0 : V.heap[w.heap.size]? = some (.cells #[.int .i64 16, .slice sa n sc, .slice ta k tc, .slice la l lc, .int .i64 r, .slice a4 n4 c4, .int .i64 q, .slice a3 n3 c3, .int .i64 q, .slice a2 n2 c2, .int .i64 q] 60 (0, 0)) := by rw [hV]; exact (alloc_other _ _ (by first | (simp; done) | (simp; omega))).trans ((alloc_other _ _ (by first | (simp; done) | (simp; omega))).trans ((alloc_other _ _ (by first | (simp; done) | (simp; omega))).trans ((alloc_other _ _ (by first | (simp; done) | (simp; omega))).trans ((alloc_other _ _ (by first | (simp; done) | (simp; omega))).trans (alloc_same ..)))))
 have hV1 : V.heap[w.heap.size + 1]? = some (.cells #[.int .i64 up, .int .i64 uk0, .int .i64 uk1, .int .i64 uk2, .int .i64 uk3] 69 (0, 0)) := by rw [hV]; exact (alloc_other _ _ (by first | (simp; done) | (simp; omega))).trans ((alloc_other _ _ (by first | (simp; done) | (simp; omega))).trans ((alloc_other _ _ (by first | (simp; done) | (simp; omega))).trans ((alloc_other _ _ (by first | (simp; done) | (simp; omega))).trans (alloc_same1 ..))))
 have hV2 : V.heap[w.heap.size + 1 + 1]? = some (.cells #[.int .u64 ur, .int .i64 kd, .bool us, .bool ac, .bool wp, .bool un, .bool sp, .bool sm] 47 (0, 0)) := by rw [hV]; exact (alloc_other _ _ (by first | (simp; done) | (simp; omega))).trans ((alloc_other _ _ (by first | (simp; done) | (simp; omega))).trans ((alloc_other _ _ (by first | (simp; done) | (simp; omega))).trans (alloc_same2 ..)))
 have hV3 : V.heap[w.heap.size + 1 + 1 + 1]? = some (.cells #[.int .i64 0, .slice none 0 0, .slice none 0 0, .slice none 0 0, .int .i64 0, .slice none 0 0, .int .i64 0, .slice none 0 0, .int .i64 0, .slice none 0 0, .int .i64 0] 60 (0, 0)) := by rw [hV]; exact (alloc_other _ _ (by first | (simp; done) | (simp; omega))).trans ((alloc_other _ _ (by first | (simp; done) | (simp; omega))).trans (alloc_same3 ..))
 have hV4 : V.heap[w.heap.size + 1 + 1 + 1 + 1]? = some (.cells #[.slice none 0 0, .int .i64 0, .bool false, .bool false, .bool false, .int .i64 0, .int .u64 0] 103 (0, 0)) := by rw [hV]; exact (alloc_other _ _ (by first | (simp; done) | (simp; omega))).trans (alloc_same4 ..)
 have hV5 : V.heap[w.heap.size + 1 + 1 + 1 + 1 + 1]? = some (.cells #[.int .i64 0, .int .u64 0, .bool false, .bool false, .bool false] 107 (0, 0)) := by rw [hV]; exact alloc_same5 ..
 obtain ⟨vb, hvb⟩ : ∃ vb, w.heap.size = vb := ⟨_, rfl⟩
 rw [hvb] at hV0 hV1 hV2 hV3 hV4 hV5 ⊢
 have hwv : w.heap.size ≤ vb := by omega
 have VE := Lib.hid hVE
 have V0 := Lib.hid hV0
 have V1 := Lib.hid hV1
 have V2 := Lib.hid hV2
 have V3 := Lib.hid hV3
 have V4 := Lib.hid hV4
 have V5 := Lib.hid hV5
 have hVs : Hid (∀ x, x < vb + 1 + 1 + 1 + 1 + 1 + 1 → x < V.heap.size) := Lib.hid fun x hx => by have := heap_lt hV5; omega
 clear hV hVE hV0 hV1 hV2 hV3 hV4 hV5 hvb
 have x0 := (heap_cell V0.out 0).trans rfl
 have x1 := (heap_cell V0.out 1).trans rfl
 have x2 := (heap_cell V0.out 2).trans rfl
 have x3 := (heap_cell V0.out 3).trans rfl
 have x4 := (heap_cell V0.out 4).trans rfl
 have x5 := (heap_cell V0.out 5).trans rfl
 have x6 := (heap_cell V0.out 6).trans rfl
 have x7 := (heap_cell V0.out 7).trans rfl
 have x8 := (heap_cell V0.out 8).trans rfl
 have x9 := (heap_cell V0.out 9).trans rfl
 have x10 := (heap_cell V0.out 10).trans rfl
 have xl := heap_lt V0.out
 have y0 := (heap_cell V1.out 0).trans rfl
 have yl := heap_lt V1.out
 have hst : (d = none ∨ ∃ y, d = some y) := by cases d; exact .inl rfl; exact .inr ⟨_, rfl⟩
 rcases hst with rfl | ⟨⟨dl, dx⟩, rfl⟩
 ·have HD1 : Hid (∀ w1, Ext w w1 → Calls Tryz.prog 105 #[.agg #[.slice a4 n4 c4, .int .i64 q, .slice a3 n3 c3, .int .i64 q, .slice a2 n2 c2, .int .i64 q], .int .i64 up, .int .u64 a] w1 fun e w' => e = .returned (.tuple #[.agg #[.int .i64 0, .int .u64 0, .bool false, .bool false, .bool false], .bool false]) ∧ Ext w1 w') := Lib.hid fun w1 k => HD.out w1 k
  have HF1 : Hid (∀ (w1 : World), SAt w1 sa sc S → TrAt w1 ta tc T → Calls Tryz.prog 29 #[.agg #[.int .i64 16, .slice sa n sc, .slice ta k tc], .agg #[.int .i64 4, .int .u64 (tabI ur), .bool true, .bool true, .bool true], .int .u64 a, .bool un] w1 fun e w' => ∃ ta2 tc2 za zc, e = .returned (.tuple #[.agg #[.int .i64 16, .slice sa n sc, .slice ta2 T2.length tc2], .agg #[.slice za P.length zc, .int .i64 why, .bool b0, .bool b1, .bool b2, .int .i64 lv, .int .u64 fr]]) ∧
   TrAt w' ta2 tc2 T2 ∧ Owns w' 109 3 (.slice za P.length zc) P.length (rowS P) ∧ Ext w1 w' ∧ FreshT w1 ta ta2) := Lib.hid fun w1 k1 k2 => HFr.out w1 k1 k2
  clear HD HFr
  go_upto_region 2 with (first | (go_at_call 105; refine (HD1.out _ (VE.out.trans (by repeat (first | exact Ext.refl _ | assumption | refine Ext.alloc ?_ _ | refine Ext.drew ?_ | refine Ext.setCell ?_ (by first | (simp; done) | (dsimp only; omega)) _ | refine Ext.trans ?_ (by assumption))))).mono ?_; rintro e w1 ⟨rfl, hb1⟩))
  refine wp_gen ?_; intro U hU
  have KU := Lib.hid (show Ext V U by rw [hU]; exact (Ext.trans (by repeat (first | exact Ext.refl _ | assumption | refine Ext.alloc ?_ _ | refine Ext.drew ?_ | refine Ext.setCell ?_ (by first | (simp; done) | (dsimp only; omega)) _ | refine Ext.trans ?_ (by assumption))) hb1).alloc _)
  have hU1 : U.heap[w1.heap.size]? = some (.cells #[.int .i64 0, .int .u64 0, .bool false, .bool false, .bool false] 107 (0, 0)) := by rw [hU]; exact alloc_same ..
  obtain ⟨ub, hub⟩ : ∃ ub, w1.heap.size = ub := ⟨_, rfl⟩
  have hubv : vb + 1 + 1 + 1 + 1 + 1 + 1 ≤ ub := by have := hb1.size; have := heap_lt V5.out; omega
  rw [hub] at hU1 ⊢
  have UB := Lib.hid hU1
  clear hU hU1 hub hb1 x0 x1 x2 x3 x4 x5 x6 x7 x8 x9 x10 xl y0 yl
  have U2 := Lib.hid ((KU.out.block _ (heap_lt V2.out)).trans V2.out)
  have g0 := (heap_cell U2.out 0).trans rfl
  have gl := heap_lt U2.out
  have hu0 := (heap_cell UB.out 0).trans rfl
  have hu1 := (heap_cell UB.out 1).trans rfl
  have hu2 := (heap_cell UB.out 2).trans rfl
  have hu3 := (heap_cell UB.out 3).trans rfl
  have hu4 := (heap_cell UB.out 4).trans rfl
  have huf := frozen_of UB.out
  have hul := heap_lt UB.out
  go_upto_region 4 with (first | (go_at_call 30; refine (HTp.out _).mono ?_; rintro e w2 ⟨rfl, hb2⟩; have RB := (hb2.block _ (heap_lt UB.out)).trans UB.out; have p0 := (heap_cell RB 0).trans rfl; have p1 := (heap_cell RB 1).trans rfl; have p2 := (heap_cell RB 2).trans rfl; have p3 := (heap_cell RB 3).trans rfl; have p4 := (heap_cell RB 4).trans rfl; have pf := frozen_of RB; have pl := heap_lt RB))
  refine wp_gen ?_; intro W hW
  have hWB : W.heap[ub]? = some (.cells #[.int .i64 4, .int .u64 (tabI ur), .bool true, .bool true, .bool true] 107 (0, 0)) := by rw [hW]; exact store5_heap RB
  have hWo : ∀ b o, b ≠ ub → U.heap[b]? = some o → W.heap[b]? = some o := fun b o hne hb => by rw [hW]; exact (store5_other (Ne.symm hne)).trans ((hb2.block _ (heap_lt hb)).trans hb)
  have EW : Hid (Ext w W) := Lib.hid (by rw [hW]; exact ext5 ((VE.out.trans KU.out).trans hb2) (by omega))
  have hW0 := hWo _ _ (by omega) ((KU.out.block _ (heap_lt V0.out)).trans V0.out)
  have hW2 := hWo _ _ (by omega) U2.out
  have hW3 := hWo _ _ (by omega) ((KU.out.block _ (heap_lt V3.out)).trans V3.out)
  have hW4 := hWo _ _ (by omega) ((KU.out.block _ (heap_lt V4.out)).trans V4.out)
  have hW5 := hWo _ _ (by omega) ((KU.out.block _ (heap_lt V5.out)).trans V5.out)
  clear hW hWo RB p0 p1 p2 p3 p4 pf pl hb2 g0 gl hu0 hu1 hu2 hu3 hu4 huf hul
  have WB := Lib.hid hWB
  have W0 := Lib.hid hW0
  have W3 := Lib.hid hW3
  have W4 := Lib.hid hW4
  have W5 := Lib.hid hW5
  have x0 := (heap_cell hW0 0).trans rfl
  have x1 := (heap_cell hW0 1).trans rfl
  have x2 := (heap_cell hW0 2).trans rfl
  have xl := heap_lt hW0
  have g5 := (heap_cell hW2 5).trans rfl
  have gl := heap_lt hW2
  have p0 := (heap_cell hWB 0).trans rfl
  have p1 := (heap_cell hWB 1).trans rfl
  have p2 := (heap_cell hWB 2).trans rfl
  have p3 := (heap_cell hWB 3).trans rfl
  have p4 := (heap_cell hWB 4).trans rfl
  have pl := heap_lt hWB
  clear hWB hW0 hW2 hW3 hW4 hW5
  go_upto_region 5 with (first | (go_at_call 29; refine (HF1.out _ (SAt.ext HSl.out EW.out) (TrAt.ext HTr.out EW.out)).mono ?_; rintro e w3 ⟨tb, td, za, zc, rfl, hT3, hO3, hE3, hF3⟩))
  refine wp_gen ?_; intro X hX
  have KX := Lib.hid (show Ext _ X by rw [hX]; exact (hE3.alloc _).alloc _)
  have hXm : X.heap[w3.heap.size]? = some (.cells #[.int .i64 16, .slice sa n sc, .slice tb T2.length td] 41 (0, 0)) := by rw [hX]; exact (alloc_other _ _ (by simp)).trans (alloc_same ..)
  have hXp : X.heap[w3.heap.size + 1]? = some (.cells #[.slice za P.length zc, .int .i64 why, .bool b0, .bool b1, .bool b2, .int .i64 lv, .int .u64 fr] 103 (0, 0)) := by rw [hX]; exact alloc_same1 ..
  have hXT : Hid (TrAt X tb td T2) := Lib.hid (by rw [hX]; exact TrAt.ext hT3 (((Ext.refl _).alloc _).alloc _))
  have hXO : Hid (Owns X 109 3 (.slice za P.length zc) P.length (rowS P)) := Lib.hid (by rw [hX]; exact hO3.ext (((Ext.refl _).alloc _).alloc _))
  have hFT : Hid (FreshT w ta tb) := Lib.hid (FreshT.trans (FreshT.refl w ta) EW.out.size hF3)
  obtain ⟨mb, hmb⟩ : ∃ mb, w3.heap.size = mb := ⟨_, rfl⟩
  have hmbu : ub < mb := by have := hE3.size; have := heap_lt WB.out; omega
  rw [hmb] at hXm hXp ⊢
  have X0 := Lib.hid ((KX.out.block _ (heap_lt W0.out)).trans W0.out)
  have XB := Lib.hid ((KX.out.block _ (heap_lt WB.out)).trans WB.out)
  have X3 := Lib.hid ((KX.out.block _ (heap_lt W3.out)).trans W3.out)
  have X4 := Lib.hid ((KX.out.block _ (heap_lt W4.out)).trans W4.out)
  have X5 := Lib.hid ((KX.out.block _ (heap_lt W5.out)).trans W5.out)
  have XM := Lib.hid hXm
  have XP := Lib.hid hXp
  have EX := Lib.hid (EW.out.trans KX.out)
  clear hX hXm hXp hmb hT3 hO3 hE3 hF3 x0 x1 x2 xl g5 gl p0 p1 p2 p3 p4 pl
  have m0 := (heap_cell XM.out 0).trans rfl
  have m1 := (heap_cell XM.out 1).trans rfl
  have m2 := (heap_cell XM.out 2).trans rfl
  have ml := heap_lt XM.out
  have x0 := (heap_cell X0.out 0).trans rfl
  have x1 := (heap_cell X0.out 1).trans rfl
  have x2 := (heap_cell X0.out 2).trans rfl
  have xf := frozen_of X0.out
  have xl := heap_lt X0.out
  go_upto_region 6 with (fail)
  refine wp_gen ?_; intro Y hY
  have hY0 : Y.heap[vb]? = some (.cells #[.int .i64 16, .slice sa n sc, .slice tb T2.length td, .slice la l lc, .int .i64 r, .slice a4 n4 c4, .int .i64 q, .slice a3 n3 c3, .int .i64 q, .slice a2 n2 c2, .int .i64 q] 60 (0, 0)) := by
   rw [hY]; exact setCell_heap_same (setCell_heap_same (setCell_heap_same X0.out))
  have hYo : ∀ b o, vb ≠ b → X.heap[b]? = some o → Y.heap[b]? = some o := fun b o hne hb => by rw [hY]; exact (store3_other hne).trans hb
  have hY3 := hYo _ _ (by omega) X3.out
  have hY4 := hYo _ _ (by omega) X4.out
  have hY5 := hYo _ _ (by omega) X5.out
  have hYB := hYo _ _ (by omega) XB.out
  have hYP := hYo _ _ (by omega) XP.out
  have YE : Hid (Ext w Y) := Lib.hid (by rw [hY]; exact ext3 EX.out hwv)
  have YT : Hid (TrAt Y tb td T2) := Lib.hid (by rw [hY]; exact Owns.keep hXT.out fun g hg => store3_other (Owns.ne hXT.out X0.out (by decide) g hg))
  have YO : Hid (Owns Y 109 3 (.slice za P.length zc) P.length (rowS P)) := Lib.hid (by rw [hY]; exact hXO.out.keep fun g hg => store3_other (Owns.ne hXO.out X0.out (by decide) g hg))
  have Y3 := Lib.hid hY3
  have Y4 := Lib.hid hY4
  have Y5 := Lib.hid hY5
  have l0 := heap_lt hY0
  have lB := heap_lt hYB
  have lP := heap_lt hYP
  clear hY hYo m0 m1 m2 ml x0 x1 x2 xf xl
  have x0 := wk_cell (F := (vb + 1 + 1 + 1) :: (vb + 1 + 1 + 1 + 1) :: []) l0 (by simp; omega) ((heap_cell hY0 0).trans rfl)
  have x1 := wk_cell (F := (vb + 1 + 1 + 1) :: (vb + 1 + 1 + 1 + 1) :: []) l0 (by simp; omega) ((heap_cell hY0 1).trans rfl)
  have x2 := wk_cell (F := (vb + 1 + 1 + 1) :: (vb + 1 + 1 + 1 + 1) :: []) l0 (by simp; omega) ((heap_cell hY0 2).trans rfl)
  have x3 := wk_cell (F := (vb + 1 + 1 + 1) :: (vb + 1 + 1 + 1 + 1) :: []) l0 (by simp; omega) ((heap_cell hY0 3).trans rfl)
  have x4 := wk_cell (F := (vb + 1 + 1 + 1) :: (vb + 1 + 1 + 1 + 1) :: []) l0 (by simp; omega) ((heap_cell hY0 4).trans rfl)
  have x5 := wk_cell (F := (vb + 1 + 1 + 1) :: (vb + 1 + 1 + 1 + 1) :: []) l0 (by simp; omega) ((heap_cell hY0 5).trans rfl)
  have x6 := wk_cell (F := (vb + 1 + 1 + 1) :: (vb + 1 + 1 + 1 + 1) :: []) l0 (by simp; omega) ((heap_cell hY0 6).trans rfl)
  have x7 := wk_cell (F := (vb + 1 + 1 + 1) :: (vb + 1 + 1 + 1 + 1) :: []) l0 (by simp; omega) ((heap_cell hY0 7).trans rfl)
  have x8 := wk_cell (F := (vb + 1 + 1 + 1) :: (vb + 1 + 1 + 1 + 1) :: []) l0 (by simp; omega) ((heap_cell hY0 8).trans rfl)
  have x9 := wk_cell (F := (vb + 1 + 1 + 1) :: (vb + 1 + 1 + 1 + 1) :: []) l0 (by simp; omega) ((heap_cell hY0 9).trans rfl)
  have x10 := wk_cell (F := (vb + 1 + 1 + 1) :: (vb + 1 + 1 + 1 + 1) :: []) l0 (by simp; omega) ((heap_cell hY0 10).trans rfl)
  have y0 := wk_cell (F := (vb + 1 + 1 + 1) :: (vb + 1 + 1 + 1 + 1) :: []) lP (by simp; omega) ((heap_cell hYP 0).trans rfl)
  have y1 := wk_cell (F := (vb + 1 + 1 + 1) :: (vb + 1 + 1 + 1 + 1) :: []) lP (by simp; omega) ((heap_cell hYP 1).trans rfl)
  have y2 := wk_cell (F := (vb + 1 + 1 + 1) :: (vb + 1 + 1 + 1 + 1) :: []) lP (by simp; omega) ((heap_cell hYP 2).trans rfl)
  have y3 := wk_cell (F := (vb + 1 + 1 + 1) :: (vb + 1 + 1 + 1 + 1) :: []) lP (by simp; omega) ((heap_cell hYP 3).trans rfl)
  have y4 := wk_cell (F := (vb + 1 + 1 + 1) :: (vb + 1 + 1 + 1 + 1) :: []) lP (by simp; omega) ((heap_cell hYP 4).trans rfl)
  have y5 := wk_cell (F := (vb + 1 + 1 + 1) :: (vb + 1 + 1 + 1 + 1) :: []) lP (by simp; omega) ((heap_cell hYP 5).trans rfl)
  have y6 := wk_cell (F := (vb + 1 + 1 + 1) :: (vb + 1 + 1 + 1 + 1) :: []) lP (by simp; omega) ((heap_cell hYP 6).trans rfl)
  have p0 := wk_cell (F := (vb + 1 + 1 + 1) :: (vb + 1 + 1 + 1 + 1) :: []) lB (by simp; omega) ((heap_cell hYB 0).trans rfl)
  have p1 := wk_cell (F := (vb + 1 + 1 + 1) :: (vb + 1 + 1 + 1 + 1) :: []) lB (by simp; omega) ((heap_cell hYB 1).trans rfl)
  have p2 := wk_cell (F := (vb + 1 + 1 + 1) :: (vb + 1 + 1 + 1 + 1) :: []) lB (by simp; omega) ((heap_cell hYB 2).trans rfl)
  have p3 := wk_cell (F := (vb + 1 + 1 + 1) :: (vb + 1 + 1 + 1 + 1) :: []) lB (by simp; omega) ((heap_cell hYB 3).trans rfl)
  have p4 := wk_cell (F := (vb + 1 + 1 + 1) :: (vb + 1 + 1 + 1 + 1) :: []) lB (by simp; omega) ((heap_cell hYB 4).trans rfl)
  clear hY0 hYP hYB hY3 hY4 hY5
  refine region_mixGR (Rw := fun a b => Keeps ((vb + 1 + 1 + 1) :: (vb + 1 + 1 + 1 + 1) :: []) a b) (fun k => Keeps.of_ext k) (fun h1 h2 => h1.trans h2 (fun y hy => .inl hy)) [.q [0, 1, 2], .l 3 3, .l 4 3, .l 5 2] (by kernel_rfl) (by kernel_rfl) ?_
  (try refine ⟨fun h => absurd h (by simp), ?_⟩); (repeat (unfold wpPlanR; simp only [pickL, List.map_cons, List.map_nil, List.getD_cons_succ, List.getD_cons_zero]; (try refine quiet_wk ?_); (repeat go_big_quiet_step (fail)); refine wpQuiet_nil ?_)); unfold wpPlanR; intro c1 hc1; (try simp only [pickL, List.map_cons, List.map_nil, List.getD_cons_succ, List.getD_cons_zero])
  clear x0 x1 x2 x3 x4 x5 x6 x7 x8 x9 x10 y0 y1 y2 y3 y4 y5 y6 p0 p1 p2 p3 p4
  have C3 := Lib.hid ((hc1.block _ (heap_lt Y3.out)).trans Y3.out)
  have C4 := Lib.hid ((hc1.block _ (heap_lt Y4.out)).trans Y4.out)
  have C5 := Lib.hid ((hc1.block _ (heap_lt Y5.out)).trans Y5.out)
  have CE := Lib.hid (YE.out.trans hc1)
  have CT := Lib.hid (TrAt.ext YT.out hc1)
  have CO := Lib.hid (YO.out.ext hc1)
  have CK := Lib.hid hc1
  clear hc1
  have x0 := (heap_cell C3.out 0).trans rfl
  have x1 := (heap_cell C3.out 1).trans rfl
  have x2 := (heap_cell C3.out 2).trans rfl
  have x3 := (heap_cell C3.out 3).trans rfl
  have x4 := (heap_cell C3.out 4).trans rfl
  have x5 := (heap_cell C3.out 5).trans rfl
  have x6 := (heap_cell C3.out 6).trans rfl
  have x7 := (heap_cell C3.out 7).trans rfl
  have x8 := (heap_cell C3.out 8).trans rfl
  have x9 := (heap_cell C3.out 9).trans rfl
  have x10 := (heap_cell C3.out 10).trans rfl
  have xf := frozen_of C3.out
  have xl := heap_lt C3.out
  go_wp2
  refine ⟨fun _ => keeps11 (Keeps.of_ext CK.out) (by simp), ?_⟩
  clear x0 x1 x2 x3 x4 x5 x6 x7 x8 x9 x10 xf xl
  (try refine ⟨fun h => absurd h (by simp), ?_⟩); (repeat (unfold wpPlanR; simp only [pickL, List.map_cons, List.map_nil, List.getD_cons_succ, List.getD_cons_zero]; (try refine quiet_wk ?_); (repeat go_big_quiet_step (fail)); refine wpQuiet_nil ?_)); unfold wpPlanR; intro c2 hc2; (try simp only [pickL, List.map_cons, List.map_nil, List.getD_cons_succ, List.getD_cons_zero])
  have D3 := Lib.hid ((hc2.block (vb + 1 + 1 + 1) (by simp only [World.size_setCell]; exact heap_lt C3.out)).trans (store11_heap C3.out))
  have D4 := Lib.hid ((hc2.block (vb + 1 + 1 + 1 + 1) (by simp only [World.size_setCell]; exact heap_lt C4.out)).trans ((store11_other (by omega)).trans C4.out))
  have D5 := Lib.hid ((hc2.block (vb + 1 + 1 + 1 + 1 + 1) (by simp only [World.size_setCell]; exact heap_lt C5.out)).trans ((store11_other (by omega)).trans C5.out))
  have DE := Lib.hid ((ext11 CE.out (by omega : w.heap.size ≤ vb + 1 + 1 + 1)).trans hc2)
  have DT : Hid (TrAt c2 tb td T2) := Lib.hid (TrAt.ext (Owns.keep CT.out fun g hg => store11_other (Owns.ne CT.out C3.out (by decide) g hg)) hc2)
  have DO : Hid (Owns c2 109 3 (.slice za P.length zc) P.length (rowS P)) := Lib.hid ((CO.out.keep fun g hg => store11_other (Owns.ne CO.out C3.out (by decide) g hg)).ext hc2)
  have hk2 := Lib.hid hc2
  clear hc2
  have y0 := (heap_cell D4.out 0).trans rfl
  have y1 := (heap_cell D4.out 1).trans rfl
  have y2 := (heap_cell D4.out 2).trans rfl
  have y3 := (heap_cell D4.out 3).trans rfl
  have y4 := (heap_cell D4.out 4).trans rfl
  have y5 := (heap_cell D4.out 5).trans rfl
  have y6 := (heap_cell D4.out 6).trans rfl
  have yf := frozen_of D4.out
  have yl := heap_lt D4.out
  go_wp2
  refine ⟨fun _ => keeps7m (Keeps.of_ext hk2.out) (by simp), ?_⟩
  clear y0 y1 y2 y3 y4 y5 y6 yf yl
  (try refine ⟨fun h => absurd h (by simp), ?_⟩); (repeat (unfold wpPlanR; simp only [pickL, List.map_cons, List.map_nil, List.getD_cons_succ, List.getD_cons_zero]; (try refine quiet_wk ?_); (repeat go_big_quiet_step (fail)); refine wpQuiet_nil ?_)); unfold wpPlanR; intro c3 hc3; (try simp only [pickL, List.map_cons, List.map_nil, List.getD_cons_succ, List.getD_cons_zero])
  have F3 := Lib.hid ((hc3.block (vb + 1 + 1 + 1) (by simp only [World.size_setCell]; exact heap_lt D3.out)).trans ((store7_other (by omega)).trans D3.out))
  have F4 := Lib.hid ((hc3.block (vb + 1 + 1 + 1 + 1) (by simp only [World.size_setCell]; exact heap_lt D4.out)).trans (store7_heap D4.out))
  have F5 := Lib.hid ((hc3.block (vb + 1 + 1 + 1 + 1 + 1) (by simp only [World.size_setCell]; exact heap_lt D5.out)).trans ((store7_other (by omega)).trans D5.out))
  have FE := Lib.hid ((ext7 DE.out (by omega : w.heap.size ≤ vb + 1 + 1 + 1 + 1)).trans hc3)
  have FT : Hid (TrAt c3 tb td T2) := Lib.hid (TrAt.ext (Owns.keep DT.out fun g hg => store7_other (Owns.ne DT.out D4.out (by decide) g hg)) hc3)
  have FO : Hid (Owns c3 109 3 (.slice za P.length zc) P.length (rowS P)) := Lib.hid ((DO.out.keep fun g hg => store7_other (Owns.ne DO.out D4.out (by decide) g hg)).ext hc3)
  clear hc3
  have p0 := (heap_cell F5.out 0).trans rfl
  have p1 := (heap_cell F5.out 1).trans rfl
  have p2 := (heap_cell F5.out 2).trans rfl
  have p3 := (heap_cell F5.out 3).trans rfl
  have p4 := (heap_cell F5.out 4).trans rfl
  have pf := frozen_of F5.out
  have pl := heap_lt F5.out
  go_wp2
  (try refine ⟨fun h => absurd h (by simp), ?_⟩); (repeat (unfold wpPlanR; simp only [pickL, List.map_cons, List.map_nil, List.getD_cons_succ, List.getD_cons_zero]; (try refine quiet_wk ?_); (repeat go_big_quiet_step (fail)); refine wpQuiet_nil ?_)); unfold wpPlanR; intro c4 hc4; (try simp only [pickL, List.map_cons, List.map_nil, List.getD_cons_succ, List.getD_cons_zero])
  have G3 := (hc4.block (vb + 1 + 1 + 1) (by simp only [World.size_setCell]; exact heap_lt F3.out)).trans ((store5_other (by omega)).trans F3.out)
  have G4 := (hc4.block (vb + 1 + 1 + 1 + 1) (by simp only [World.size_setCell]; exact heap_lt F4.out)).trans ((store5_other (by omega)).trans F4.out)
  have G5 := (hc4.block (vb + 1 + 1 + 1 + 1 + 1) (by simp only [World.size_setCell]; exact heap_lt F5.out)).trans (store5_heap F5.out)
  have GE := Lib.hid ((ext5 FE.out (by omega : w.heap.size ≤ vb + 1 + 1 + 1 + 1 + 1)).trans hc4)
  have GT : Hid (TrAt c4 tb td T2) := Lib.hid (TrAt.ext (Owns.keep FT.out fun g hg => store5_other (Owns.ne FT.out F5.out (by decide) g hg)) hc4)
  have GO : Hid (Owns c4 109 3 (.slice za P.length zc) P.length (rowS P)) := Lib.hid ((FO.out.keep fun g hg => store5_other (Owns.ne FO.out F5.out (by decide) g hg)).ext hc4)
  clear hc4 p0 p1 p2 p3 p4 pf pl
  have x0 := (heap_cell G3 0).trans rfl
  have x1 := (heap_cell G3 1).trans rfl
  have x2 := (heap_cell G3 2).trans rfl
  have x3 := (heap_cell G3 3).trans rfl
  have x4 := (heap_cell G3 4).trans rfl
  have x5 := (heap_cell G3 5).trans rfl
  have x6 := (heap_cell G3 6).trans rfl
  have x7 := (heap_cell G3 7).trans rfl
  have x8 := (heap_cell G3 8).trans rfl
  have x9 := (heap_cell G3 9).trans rfl
  have x10 := (heap_cell G3 10).trans rfl
  have xl := heap_lt G3
  have y0 := (heap_cell G4 0).trans rfl
  have y1 := (heap_cell G4 1).trans rfl
  have y2 := (heap_cell G4 2).trans rfl
  have y3 := (heap_cell G4 3).trans rfl
  have y4 := (heap_cell G4 4).trans rfl
  have y5 := (heap_cell G4 5).trans rfl
  have y6 := (heap_cell G4 6).trans rfl
  have yl := heap_lt G4
  have p0 := (heap_cell G5 0).trans rfl
  have p1 := (heap_cell G5 1).trans rfl
  have p2 := (heap_cell G5 2).trans rfl
  have p3 := (heap_cell G5 3).trans rfl
  have p4 := (heap_cell G5 4).trans rfl
  have pl := heap_lt G5
  clear G3 G4 G5
  go_wp2
  (try rw [Exit.noGoto_ret])
  refine bodyPost_ret (by simp [results, Tryz.results72, go_sem, ↓IntWalk.iteOmega, *]; try rfl) rfl (by rw [← HE.out]; exact ⟨tb, td, za, zc, rfl, GT.out, GO.out, GE.out, hFT.out⟩)
 ·have HD1 : Hid (∀ w1, Ext w w1 → Calls Tryz.prog 105 #[.agg #[.slice a4 n4 c4, .int .i64 q, .slice a3 n3 c3, .int .i64 q, .slice a2 n2 c2, .int .i64 q], .int .i64 up, .int .u64 a] w1 fun e w' => e = .returned (.tuple #[.agg #[.int .i64 (dl - 1), .int .u64 dx.f, .bool dx.a, .bool dx.b, .bool dx.c], .bool true]) ∧ Ext w1 w') := Lib.hid fun w1 k => HD.out w1 k
  have HF1 : Hid (∀ (w1 : World), SAt w1 sa sc S → TrAt w1 ta tc T → Calls Tryz.prog 29 #[.agg #[.int .i64 16, .slice sa n sc, .slice ta k tc], .agg #[.int .i64 (dl - 1), .int .u64 dx.f, .bool dx.a, .bool dx.b, .bool dx.c], .int .u64 a, .bool un] w1 fun e w' => ∃ ta2 tc2 za zc, e = .returned (.tuple #[.agg #[.int .i64 16, .slice sa n sc, .slice ta2 T2.length tc2], .agg #[.slice za P.length zc, .int .i64 why, .bool b0, .bool b1, .bool b2, .int .i64 lv, .int .u64 fr]]) ∧
   TrAt w' ta2 tc2 T2 ∧ Owns w' 109 3 (.slice za P.length zc) P.length (rowS P) ∧ Ext w1 w' ∧ FreshT w1 ta ta2) := Lib.hid fun w1 k1 k2 => HFr.out w1 k1 k2
  clear HD HFr
  go_upto_region 2 with (first | (go_at_call 105; refine (HD1.out _ (VE.out.trans (by repeat (first | exact Ext.refl _ | assumption | refine Ext.alloc ?_ _ | refine Ext.drew ?_ | refine Ext.setCell ?_ (by first | (simp; done) | (dsimp only; omega)) _ | refine Ext.trans ?_ (by assumption))))).mono ?_; rintro e w1 ⟨rfl, hb1⟩))
  refine wp_gen ?_; intro U hU
  have KU := Lib.hid (show Ext V U by rw [hU]; exact (Ext.trans (by repeat (first | exact Ext.refl _ | assumption | refine Ext.alloc ?_ _ | refine Ext.drew ?_ | refine Ext.setCell ?_ (by first | (simp; done) | (dsimp only; omega)) _ | refine Ext.trans ?_ (by assumption))) hb1).alloc _)
  have hU1 : U.heap[w1.heap.size]? = some (.cells #[.int .i64 (dl - 1), .int .u64 dx.f, .bool dx.a, .bool dx.b, .bool dx.c] 107 (0, 0)) := by rw [hU]; exact alloc_same ..
  obtain ⟨ub, hub⟩ : ∃ ub, w1.heap.size = ub := ⟨_, rfl⟩
  have hubv : vb + 1 + 1 + 1 + 1 + 1 + 1 ≤ ub := by have := hb1.size; have := heap_lt V5.out; omega
  rw [hub] at hU1 ⊢
  have UB := Lib.hid hU1
  clear hU hU1 hub hb1 x0 x1 x2 x3 x4 x5 x6 x7 x8 x9 x10 xl y0 yl
  have hWB := UB.out
  have EW := Lib.hid (VE.out.trans KU.out)
  have hW0 := (KU.out.block _ (heap_lt V0.out)).trans V0.out
  have hW2 := (KU.out.block _ (heap_lt V2.out)).trans V2.out
  have hW3 := (KU.out.block _ (heap_lt V3.out)).trans V3.out
  have hW4 := (KU.out.block _ (heap_lt V4.out)).trans V4.out
  have hW5 := (KU.out.block _ (heap_lt V5.out)).trans V5.out
  go_upto_region 4 with (fail)
  have WB := Lib.hid hWB
  have W0 := Lib.hid hW0
  have W3 := Lib.hid hW3
  have W4 := Lib.hid hW4
  have W5 := Lib.hid hW5
  have x0 := (heap_cell hW0 0).trans rfl
  have x1 := (heap_cell hW0 1).trans rfl
  have x2 := (heap_cell hW0 2).trans rfl
  have xl := heap_lt hW0
  have g5 := (heap_cell hW2 5).trans rfl
  have gl := heap_lt hW2
  have p0 := (heap_cell hWB 0).trans rfl
  have p1 := (heap_cell hWB 1).trans rfl
  have p2 := (heap_cell hWB 2).trans rfl
  have p3 := (heap_cell hWB 3).trans rfl
  have p4 := (heap_cell hWB 4).trans rfl
  have pl := heap_lt hWB
  clear hWB hW0 hW2 hW3 hW4 hW5
  go_upto_region 5 with (first | (go_at_call 29; refine (HF1.out _ (SAt.ext HSl.out EW.out) (TrAt.ext HTr.out EW.out)).mono ?_; rintro e w3 ⟨tb, td, za, zc, rfl, hT3, hO3, hE3, hF3⟩))
  refine wp_gen ?_; intro X hX
  have KX := Lib.hid (show Ext _ X by rw [hX]; exact (hE3.alloc _).alloc _)
  have hXm : X.heap[w3.heap.size]? = some (.cells #[.int .i64 16, .slice sa n sc, .slice tb T2.length td] 41 (0, 0)) := by rw [hX]; exact (alloc_other _ _ (by simp)).trans (alloc_same ..)
  have hXp : X.heap[w3.heap.size + 1]? = some (.cells #[.slice za P.length zc, .int .i64 why, .bool b0, .bool b1, .bool b2, .int .i64 lv, .int .u64 fr] 103 (0, 0)) := by rw [hX]; exact alloc_same1 ..
  have hXT : Hid (TrAt X tb td T2) := Lib.hid (by rw [hX]; exact TrAt.ext hT3 (((Ext.refl _).alloc _).alloc _))
  have hXO : Hid (Owns X 109 3 (.slice za P.length zc) P.length (rowS P)) := Lib.hid (by rw [hX]; exact hO3.ext (((Ext.refl _).alloc _).alloc _))
  have hFT : Hid (FreshT w ta tb) := Lib.hid (FreshT.trans (FreshT.refl w ta) EW.out.size hF3)
  obtain ⟨mb, hmb⟩ : ∃ mb, w3.heap.size = mb := ⟨_, rfl⟩
  have hmbu : ub < mb := by have := hE3.size; have := heap_lt WB.out; omega
  rw [hmb] at hXm hXp ⊢
  have X0 := Lib.hid ((KX.out.block _ (heap_lt W0.out)).trans W0.out)
  have XB := Lib.hid ((KX.out.block _ (heap_lt WB.out)).trans WB.out)
  have X3 := Lib.hid ((KX.out.block _ (heap_lt W3.out)).trans W3.out)
  have X4 := Lib.hid ((KX.out.block _ (heap_lt W4.out)).trans W4.out)
  have X5 := Lib.hid ((KX.out.block _ (heap_lt W5.out)).trans W5.out)
  have XM := Lib.hid hXm
  have XP := Lib.hid hXp
  have EX := Lib.hid (EW.out.trans KX.out)
  clear hX hXm hXp hmb hT3 hO3 hE3 hF3 x0 x1 x2 xl g5 gl p0 p1 p2 p3 p4 pl
  have m0 := (heap_cell XM.out 0).trans rfl
  have m1 := (heap_cell XM.out 1).trans rfl
  have m2 := (heap_cell XM.out 2).trans rfl
  have ml := heap_lt XM.out
  have x0 := (heap_cell X0.out 0).trans rfl
  have x1 := (heap_cell X0.out 1).trans rfl
  have x2 := (heap_cell X0.out 2).trans rfl
  have xf := frozen_of X0.out
  have xl := heap_lt X0.out
  go_upto_region 6 with (fail)
  refine wp_gen ?_; intro Y hY
  have hY0 : Y.heap[vb]? = some (.cells #[.int .i64 16, .slice sa n sc, .slice tb T2.length td, .slice la l lc, .int .i64 r, .slice a4 n4 c4, .int .i64 q, .slice a3 n3 c3, .int .i64 q, .slice a2 n2 c2, .int .i64 q] 60 (0, 0)) := by
   rw [hY]; exact setCell_heap_same (setCell_heap_same (setCell_heap_same X0.out))
  have hYo : ∀ b o, vb ≠ b → X.heap[b]? = some o → Y.heap[b]? = some o := fun b o hne hb => by rw [hY]; exact (store3_other hne).trans hb
  have hY3 := hYo _ _ (by omega) X3.out
  have hY4 := hYo _ _ (by omega) X4.out
  have hY5 := hYo _ _ (by omega) X5.out
  have hYB := hYo _ _ (by omega) XB.out
  have hYP := hYo _ _ (by omega) XP.out
  have YE : Hid (Ext w Y) := Lib.hid (by rw [hY]; exact ext3 EX.out hwv)
  have YT : Hid (TrAt Y tb td T2) := Lib.hid (by rw [hY]; exact Owns.keep hXT.out fun g hg => store3_other (Owns.ne hXT.out X0.out (by decide) g hg))
  have YO : Hid (Owns Y 109 3 (.slice za P.length zc) P.length (rowS P)) := Lib.hid (by rw [hY]; exact hXO.out.keep fun g hg => store3_other (Owns.ne hXO.out X0.out (by decide) g hg))
  have Y3 := Lib.hid hY3
  have Y4 := Lib.hid hY4
  have Y5 := Lib.hid hY5
  have l0 := heap_lt hY0
  have lB := heap_lt hYB
  have lP := heap_lt hYP
  clear hY hYo m0 m1 m2 ml x0 x1 x2 xf xl
  have x0 := wk_cell (F := (vb + 1 + 1 + 1) :: (vb + 1 + 1 + 1 + 1) :: []) l0 (by simp; omega) ((heap_cell hY0 0).trans rfl)
  have x1 := wk_cell (F := (vb + 1 + 1 + 1) :: (vb + 1 + 1 + 1 + 1) :: []) l0 (by simp; omega) ((heap_cell hY0 1).trans rfl)
  have x2 := wk_cell (F := (vb + 1 + 1 + 1) :: (vb + 1 + 1 + 1 + 1) :: []) l0 (by simp; omega) ((heap_cell hY0 2).trans rfl)
  have x3 := wk_cell (F := (vb + 1 + 1 + 1) :: (vb + 1 + 1 + 1 + 1) :: []) l0 (by simp; omega) ((heap_cell hY0 3).trans rfl)
  have x4 := wk_cell (F := (vb + 1 + 1 + 1) :: (vb + 1 + 1 + 1 + 1) :: []) l0 (by simp; omega) ((heap_cell hY0 4).trans rfl)
  have x5 := wk_cell (F := (vb + 1 + 1 + 1) :: (vb + 1 + 1 + 1 + 1) :: []) l0 (by simp; omega) ((heap_cell hY0 5).trans rfl)
  have x6 := wk_cell (F := (vb + 1 + 1 + 1) :: (vb + 1 + 1 + 1 + 1) :: []) l0 (by simp; omega) ((heap_cell hY0 6).trans rfl)
  have x7 := wk_cell (F := (vb + 1 + 1 + 1) :: (vb + 1 + 1 + 1 + 1) :: []) l0 (by simp; omega) ((heap_cell hY0 7).trans rfl)
  have x8 := wk_cell (F := (vb + 1 + 1 + 1) :: (vb + 1 + 1 + 1 + 1) :: []) l0 (by simp; omega) ((heap_cell hY0 8).trans rfl)
  have x9 := wk_cell (F := (vb + 1 + 1 + 1) :: (vb + 1 + 1 + 1 + 1) :: []) l0 (by simp; omega) ((heap_cell hY0 9).trans rfl)
  have x10 := wk_cell (F := (vb + 1 + 1 + 1) :: (vb + 1 + 1 + 1 + 1) :: []) l0 (by simp; omega) ((heap_cell hY0 10).trans rfl)
  have y0 := wk_cell (F := (vb + 1 + 1 + 1) :: (vb + 1 + 1 + 1 + 1) :: []) lP (by simp; omega) ((heap_cell hYP 0).trans rfl)
  have y1 := wk_cell (F := (vb + 1 + 1 + 1) :: (vb + 1 + 1 + 1 + 1) :: []) lP (by simp; omega) ((heap_cell hYP 1).trans rfl)
  have y2 := wk_cell (F := (vb + 1 + 1 + 1) :: (vb + 1 + 1 + 1 + 1) :: []) lP (by simp; omega) ((heap_cell hYP 2).trans rfl)
  have y3 := wk_cell (F := (vb + 1 + 1 + 1) :: (vb + 1 + 1 + 1 + 1) :: []) lP (by simp; omega) ((heap_cell hYP 3).trans rfl)
  have y4 := wk_cell (F := (vb + 1 + 1 + 1) :: (vb + 1 + 1 + 1 + 1) :: []) lP (by simp; omega) ((heap_cell hYP 4).trans rfl)
  have y5 := wk_cell (F := (vb + 1 + 1 + 1) :: (vb + 1 + 1 + 1 + 1) :: []) lP (by simp; omega) ((heap_cell hYP 5).trans rfl)
  have y6 := wk_cell (F := (vb + 1 + 1 + 1) :: (vb + 1 + 1 + 1 + 1) :: []) lP (by simp; omega) ((heap_cell hYP 6).trans rfl)
  have p0 := wk_cell (F := (vb + 1 + 1 + 1) :: (vb + 1 + 1 + 1 + 1) :: []) lB (by simp; omega) ((heap_cell hYB 0).trans rfl)
  have p1 := wk_cell (F := (vb + 1 + 1 + 1) :: (vb + 1 + 1 + 1 + 1) :: []) lB (by simp; omega) ((heap_cell hYB 1).trans rfl)
  have p2 := wk_cell (F := (vb + 1 + 1 + 1) :: (vb + 1 + 1 + 1 + 1) :: []) lB (by simp; omega) ((heap_cell hYB 2).trans rfl)
  have p3 := wk_cell (F := (vb + 1 + 1 + 1) :: (vb + 1 + 1 + 1 + 1) :: []) lB (by simp; omega) ((heap_cell hYB 3).trans rfl)
  have p4 := wk_cell (F := (vb + 1 + 1 + 1) :: (vb + 1 + 1 + 1 + 1) :: []) lB (by simp; omega) ((heap_cell hYB 4).trans rfl)
  clear hY0 hYP hYB hY3 hY4 hY5
  refine region_mixGR (Rw := fun a b => Keeps ((vb + 1 + 1 + 1) :: (vb + 1 + 1 + 1 + 1) :: []) a b) (fun k => Keeps.of_ext k) (fun h1 h2 => h1.trans h2 (fun y hy => .inl hy)) [.q [0, 1, 2], .l 3 3, .l 4 3, .l 5 2] (by kernel_rfl) (by kernel_rfl) ?_
  (try refine ⟨fun h => absurd h (by simp), ?_⟩); (repeat (unfold wpPlanR; simp only [pickL, List.map_cons, List.map_nil, List.getD_cons_succ, List.getD_cons_zero]; (try refine quiet_wk ?_); (repeat go_big_quiet_step (fail)); refine wpQuiet_nil ?_)); unfold wpPlanR; intro c1 hc1; (try simp only [pickL, List.map_cons, List.map_nil, List.getD_cons_succ, List.getD_cons_zero])
  clear x0 x1 x2 x3 x4 x5 x6 x7 x8 x9 x10 y0 y1 y2 y3 y4 y5 y6 p0 p1 p2 p3 p4
  have C3 := Lib.hid ((hc1.block _ (heap_lt Y3.out)).trans Y3.out)
  have C4 := Lib.hid ((hc1.block _ (heap_lt Y4.out)).trans Y4.out)
  have C5 := Lib.hid ((hc1.block _ (heap_lt Y5.out)).trans Y5.out)
  have CE := Lib.hid (YE.out.trans hc1)
  have CT := Lib.hid (TrAt.ext YT.out hc1)
  have CO := Lib.hid (YO.out.ext hc1)
  have CK := Lib.hid hc1
  clear hc1
  have x0 := (heap_cell C3.out 0).trans rfl
  have x1 := (heap_cell C3.out 1).trans rfl
  have x2 := (heap_cell C3.out 2).trans rfl
  have x3 := (heap_cell C3.out 3).trans rfl
  have x4 := (heap_cell C3.out 4).trans rfl
  have x5 := (heap_cell C3.out 5).trans rfl
  have x6 := (heap_cell C3.out 6).trans rfl
  have x7 := (heap_cell C3.out 7).trans rfl
  have x8 := (heap_cell C3.out 8).trans rfl
  have x9 := (heap_cell C3.out 9).trans rfl
  have x10 := (heap_cell C3.out 10).trans rfl
  have xf := frozen_of C3.out
  have xl := heap_lt C3.out
  go_wp2
  refine ⟨fun _ => keeps11 (Keeps.of_ext CK.out) (by simp), ?_⟩
  clear x0 x1 x2 x3 x4 x5 x6 x7 x8 x9 x10 xf xl
  (try refine ⟨fun h => absurd h (by simp), ?_⟩); (repeat (unfold wpPlanR; simp only [pickL, List.map_cons, List.map_nil, List.getD_cons_succ, List.getD_cons_zero]; (try refine quiet_wk ?_); (repeat go_big_quiet_step (fail)); refine wpQuiet_nil ?_)); unfold wpPlanR; intro c2 hc2; (try simp only [pickL, List.map_cons, List.map_nil, List.getD_cons_succ, List.getD_cons_zero])
  have D3 := Lib.hid ((hc2.block (vb + 1 + 1 + 1) (by simp only [World.size_setCell]; exact heap_lt C3.out)).trans (store11_heap C3.out))
  have D4 := Lib.hid ((hc2.block (vb + 1 + 1 + 1 + 1) (by simp only [World.size_setCell]; exact heap_lt C4.out)).trans ((store11_other (by omega)).trans C4.out))
  have D5 := Lib.hid ((hc2.block (vb + 1 + 1 + 1 + 1 + 1) (by simp only [World.size_setCell]; exact heap_lt C5.out)).trans ((store11_other (by omega)).trans C5.out))
  have DE := Lib.hid ((ext11 CE.out (by omega : w.heap.size ≤ vb + 1 + 1 + 1)).trans hc2)
  have DT : Hid (TrAt c2 tb td T2) := Lib.hid (TrAt.ext (Owns.keep CT.out fun g hg => store11_other (Owns.ne CT.out C3.out (by decide) g hg)) hc2)
  have DO : Hid (Owns c2 109 3 (.slice za P.length zc) P.length (rowS P)) := Lib.hid ((CO.out.keep fun g hg => store11_other (Owns.ne CO.out C3.out (by decide) g hg)).ext hc2)
  have hk2 := Lib.hid hc2
  clear hc2
  have y0 := (heap_cell D4.out 0).trans rfl
  have y1 := (heap_cell D4.out 1).trans rfl
  have y2 := (heap_cell D4.out 2).trans rfl
  have y3 := (heap_cell D4.out 3).trans rfl
  have y4 := (heap_cell D4.out 4).trans rfl
  have y5 := (heap_cell D4.out 5).trans rfl
  have y6 := (heap_cell D4.out 6).trans rfl
  have yf := frozen_of D4.out
  have yl := heap_lt D4.out
  go_wp2
  refine ⟨fun _ => keeps7m (Keeps.of_ext hk2.out) (by simp), ?_⟩
  clear y0 y1 y2 y3 y4 y5 y6 yf yl
  (try refine ⟨fun h => absurd h (by simp), ?_⟩); (repeat (unfold wpPlanR; simp only [pickL, List.map_cons, List.map_nil, List.getD_cons_succ, List.getD_cons_zero]; (try refine quiet_wk ?_); (repeat go_big_quiet_step (fail)); refine wpQuiet_nil ?_)); unfold wpPlanR; intro c3 hc3; (try simp only [pickL, List.map_cons, List.map_nil, List.getD_cons_succ, List.getD_cons_zero])
  have F3 := Lib.hid ((hc3.block (vb + 1 + 1 + 1) (by simp only [World.size_setCell]; exact heap_lt D3.out)).trans ((store7_other (by omega)).trans D3.out))
  have F4 := Lib.hid ((hc3.block (vb + 1 + 1 + 1 + 1) (by simp only [World.size_setCell]; exact heap_lt D4.out)).trans (store7_heap D4.out))
  have F5 := Lib.hid ((hc3.block (vb + 1 + 1 + 1 + 1 + 1) (by simp only [World.size_setCell]; exact heap_lt D5.out)).trans ((store7_other (by omega)).trans D5.out))
  have FE := Lib.hid ((ext7 DE.out (by omega : w.heap.size ≤ vb + 1 + 1 + 1 + 1)).trans hc3)
  have FT : Hid (TrAt c3 tb td T2) := Lib.hid (TrAt.ext (Owns.keep DT.out fun g hg => store7_other (Owns.ne DT.out D4.out (by decide) g hg)) hc3)
  have FO : Hid (Owns c3 109 3 (.slice za P.length zc) P.length (rowS P)) := Lib.hid ((DO.out.keep fun g hg => store7_other (Owns.ne DO.out D4.out (by decide) g hg)).ext hc3)
  clear hc3
  have p0 := (heap_cell F5.out 0).trans rfl
  have p1 := (heap_cell F5.out 1).trans rfl
  have p2 := (heap_cell F5.out 2).trans rfl
  have p3 := (heap_cell F5.out 3).trans rfl
  have p4 := (heap_cell F5.out 4).trans rfl
  have pf := frozen_of F5.out
  have pl := heap_lt F5.out
  go_wp2
  (try refine ⟨fun h => absurd h (by simp), ?_⟩); (repeat (unfold wpPlanR; simp only [pickL, List.map_cons, List.map_nil, List.getD_cons_succ, List.getD_cons_zero]; (try refine quiet_wk ?_); (repeat go_big_quiet_step (fail)); refine wpQuiet_nil ?_)); unfold wpPlanR; intro c4 hc4; (try simp only [pickL, List.map_cons, List.map_nil, List.getD_cons_succ, List.getD_cons_zero])
  have G3 := (hc4.block (vb + 1 + 1 + 1) (by simp only [World.size_setCell]; exact heap_lt F3.out)).trans ((store5_other (by omega)).trans F3.out)
  have G4 := (hc4.block (vb + 1 + 1 + 1 + 1) (by simp only [World.size_setCell]; exact heap_lt F4.out)).trans ((store5_other (by omega)).trans F4.out)
  have G5 := (hc4.block (vb + 1 + 1 + 1 + 1 + 1) (by simp only [World.size_setCell]; exact heap_lt F5.out)).trans (store5_heap F5.out)
  have GE := Lib.hid ((ext5 FE.out (by omega : w.heap.size ≤ vb + 1 + 1 + 1 + 1 + 1)).trans hc4)
  have GT : Hid (TrAt c4 tb td T2) := Lib.hid (TrAt.ext (Owns.keep FT.out fun g hg => store5_other (Owns.ne FT.out F5.out (by decide) g hg)) hc4)
  have GO : Hid (Owns c4 109 3 (.slice za P.length zc) P.length (rowS P)) := Lib.hid ((FO.out.keep fun g hg => store5_other (Owns.ne FO.out F5.out (by decide) g hg)).ext hc4)
  clear hc4 p0 p1 p2 p3 p4 pf pl
  have x0 := (heap_cell G3 0).trans rfl
  have x1 := (heap_cell G3 1).trans rfl
  have x2 := (heap_cell G3 2).trans rfl
  have x3 := (heap_cell G3 3).trans rfl
  have x4 := (heap_cell G3 4).trans rfl
  have x5 := (heap_cell G3 5).trans rfl
  have x6 := (heap_cell G3 6).trans rfl
  have x7 := (heap_cell G3 7).trans rfl
  have x8 := (heap_cell G3 8).trans rfl
  have x9 := (heap_cell G3 9).trans rfl
  have x10 := (heap_cell G3 10).trans rfl
  have xl := heap_lt G3
  have y0 := (heap_cell G4 0).trans rfl
  have y1 := (heap_cell G4 1).trans rfl
  have y2 := (heap_cell G4 2).trans rfl
  have y3 := (heap_cell G4 3).trans rfl
  have y4 := (heap_cell G4 4).trans rfl
  have y5 := (heap_cell G4 5).trans rfl
  have y6 := (heap_cell G4 6).trans rfl
  have yl := heap_lt G4
  have p0 := (heap_cell G5 0).trans rfl
  have p1 := (heap_cell G5 1).trans rfl
  have p2 := (heap_cell G5 2).trans rfl
  have p3 := (heap_cell G5 3).trans rfl
  have p4 := (heap_cell G5 4).trans rfl
  have pl := heap_lt G5
  clear G3 G4 G5
  go_wp2
  (try rw [Exit.noGoto_ret])
  refine bodyPost_ret (by simp [results, Tryz.results72, go_sem, ↓IntWalk.iteOmega, *]; try rfl) rfl (by rw [← HE.out]; exact ⟨tb, td, za, zc, rfl, GT.out, GO.out, GE.out, hFT.out⟩)
end Go.Proofs.YtkfonacokamfiaaGreat
