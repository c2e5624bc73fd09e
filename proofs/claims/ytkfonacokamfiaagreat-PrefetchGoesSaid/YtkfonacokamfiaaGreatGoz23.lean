/- Joined texts, part 23 of what the law stands on: each as its own head says. -/
import Derived.Test.YtkfonacokamfiaaGreatGoz22
import Derived.Test.YtkfonacokamfiaaGreatGoz9
import Derived.ChangeKeysEq
/- Translations: what a Tlb is in memory; New, Len, Small, Great, DropOf, Clear, Evict. -/
namespace Go.Proofs.YtkfonacokamfiaaGreat
set_option linter.unusedVariables false
set_option linter.unusedSimpArgs false
open Go.RowKit
attribute [local go_sem] wext_cell wext_frozen wext_heap alloc_cell alloc_frozen alloc_heap setCell_cell objCell_cells objFrozen_cells
def TAt (w : World) (tb cb : Nat) (F : List Nat) (L : List (Key × Line)) (r : Nat) : Prop :=
 w.heap[tb]? = some (.cells #[.pointer (some ⟨cb, 0, none⟩)] 147 (0, 0)) ∧ CAt w cb F L r
theorem TAt.ext {w w' : World} {tb cb : Nat} {F : List Nat} {L : List (Key × Line)} {r : Nat} (h : TAt w tb cb F L r) (k : Ext w w') : TAt w' tb cb F L r :=
 ⟨(k.block _ (heap_lt h.1)).trans h.1, h.2.ext k⟩
theorem TAt.out {w : World} {tb cb : Nat} {F : List Nat} {L : List (Key × Line)} {r : Nat} (h : TAt w tb cb F L r) : tb ∉ F := h.2.apart h.1 (by decide) (by decide)
def EndT (tb cb : Nat) (F : List Nat) (w : World) (L' : List (Key × Line)) (r : Nat) (e : Ending) (w' : World) : Prop :=
 e = .returned (.tuple #[]) ∧ ∃ F', TAt w' tb cb F' L' r ∧ Keeps F w w' ∧ ∀ x ∈ F', x ∈ F ∨ w.heap.size ≤ x
theorem EndT.of {w w1 w2 w3 : World} {tb cb : Nat} {F F' : List Nat} {L L' : List (Key × Line)} {r : Nat} (h : TAt w tb cb F L r) (k : Ext w w1) (hc : CAt w2 cb F' L' r) (hk : Keeps F w1 w2) (hf : ∀ x ∈ F', x ∈ F ∨ w1.heap.size ≤ x) (k3 : Ext w2 w3) :
  EndT tb cb F w L' r (.returned (.tuple #[])) w3 := by
 have h1 := h.ext k
 refine ⟨rfl, F', ⟨(k3.block _ (Nat.lt_of_lt_of_le (heap_lt h1.1) hk.size)).trans ((hk.block tb (heap_lt h1.1) h1.out).trans h1.1), hc.ext k3⟩, ((Keeps.of_ext k).same hk).ext k3, fun x hx => (hf x hx).imp id fun h => Nat.le_trans k.size h⟩
theorem EndT.none {w w3 : World} {tb cb : Nat} {F : List Nat} {L : List (Key × Line)} {r : Nat} (h : TAt w tb cb F L r) (k : Ext w w3) : EndT tb cb F w L r (.returned (.tuple #[])) w3 :=
 ⟨rfl, F, h.ext k, Keeps.of_ext k, fun _ hx => .inl hx⟩
theorem cached_c (tb cb : Nat) (w : World) (h : w.heap[tb]? = some (.cells #[.pointer (some ⟨cb, 0, none⟩)] 147 (0, 0))) :
  Calls Tryz.prog 89 #[.pointer (some ⟨tb, 0, none⟩)] w fun e w' => e = .returned (.pointer (some ⟨cb, 0, none⟩)) ∧ Ext w w' := by
 have c0 := (heap_cell h 0).trans rfl
 have hl := heap_lt h
 clear h
 go_enter Tryz.func89, Tryz.ntmps89
 go_wp2
 all_goals
  go_ret
  exact ⟨rfl, (by repeat (first | exact Ext.refl _ | assumption | refine Ext.alloc ?_ _ | refine Ext.drew ?_ | refine Ext.setCell ?_ (by first | (simp; done) | (dsimp only; omega)) _ | refine Ext.trans ?_ (by assumption)))⟩
def EndTNew (room : Int) (w : World) (e : Ending) (w' : World) : Prop :=
 ∃ tb cb F, e = .returned (.pointer (some ⟨tb, 0, none⟩)) ∧ TAt w' tb cb F [] (clampR room) ∧ Ext w w' ∧ w.heap.size ≤ tb ∧ ∀ x ∈ F, w.heap.size ≤ x
theorem tnew_c (room : Int) (w : World) (h0 : -9223372036854775808 ≤ room) (h1 : room ≤ 9223372036854775807) :
  Calls Tryz.prog 35 #[.int .i64 room] w (EndTNew room w) := by
 go_enter Tryz.func35, Tryz.ntmps35
 go_wp2_with (first | (go_at_call 67; refine (new_c room _ h0 h1).mono ?_; rintro e w1 ⟨cb, F, rfl, hC, hE, hF⟩))
 go_ret
 exact ⟨w1.heap.size, cb, F, rfl, ⟨alloc_same .., hC.ext ((Ext.refl _).alloc _)⟩, hE.alloc _, hE.size, hF⟩
def smallL (p a : Int) (x : Line) (pick : Int) (r : Nat) (L : List (Key × Line)) : List (Key × Line) := if x.m = 0 then L else putC (kT p 1 a) x pick r L
set_option maxHeartbeats 1000000 in
theorem small_c (tb cb : Nat) (F : List Nat) (L : List (Key × Line)) (r : Nat) (p a : Int) (x : Line) (pick : Int) (w : World) (h : TAt w tb cb F L r) (h0 : 0 ≤ a) (h1 : a ≤ 18446744073709551615) (hp0 : -9223372036854775808 ≤ pick) (hp1 : pick ≤ 9223372036854775807) :
  Calls Tryz.prog 99 #[.pointer (some ⟨tb, 0, none⟩), .int .i64 p, .int .u64 a, x.val, .int .i64 pick] w (EndT tb cb F w (smallL p a x pick r L) r) := by
 have H := Lib.hid h
 clear h
 have hput := fun w hc => put_c cb F L r (kT p 1 a) x pick w hc hp0 hp1
 have hkey := fun w => tlbKey_c p 1 a w (.inl rfl) h0 h1
 unfold smallL
 generalize (kT p 1 a) = k at hput hkey
 generalize putC k x pick r L = LP at hput
 obtain ⟨xf, xa, xb, xc, xd, xm⟩ := x
 unfold Line.val at *
 dsimp only at hput ⊢
 have HP := Lib.hid hput
 have HK := Lib.hid hkey
 clear hput hkey
 by_cases hz : xm = 0
 ·have hzb : (xm != 0) = false := by simpa using hz
  rw [if_pos hz]
  go_enter Tryz.func99, Tryz.ntmps99
  go_wp2
  all_goals
   refine ⟨rfl, .tuple #[], (by simp [results, Tryz.results99, go_sem]), ?_⟩
   exact EndT.none H.out (by repeat (first | exact Ext.refl _ | assumption | refine Ext.alloc ?_ _ | refine Ext.drew ?_ | refine Ext.setCell ?_ (by first | (simp; done) | (dsimp only; omega)) _ | refine Ext.trans ?_ (by assumption)))
 ·have hzb : (xm != 0) = true := by simpa using hz
  rw [if_neg hz]
  have hlt := Lib.hid (heap_lt H.out.1)
  go_enter Tryz.func99, Tryz.ntmps99
  go_upto_region 2 with (fail)
  refine region_ext_tail 7 (by kernel_rfl) (by kernel_rfl) ?_; simp only [List.take_succ_cons, List.take_zero, List.drop_succ_cons, List.drop_zero]; (repeat (go_big_quiet_step (first | (go_at_call 89; exact calls_wext (cached_c tb cb _ ((H.out.ext (Ext.trans (by repeat (first | exact Ext.refl _ | assumption | refine Ext.alloc ?_ _ | refine Ext.drew ?_ | refine Ext.setCell ?_ (by first | (simp; done) | (dsimp only; omega)) _ | refine Ext.trans ?_ (by assumption))) (wext_ext _ _))).1))) | (go_at_call 91; exact calls_wext (HK.out _))))); refine wpQuiet_nil ?_; intro w1 hb; have ⟨hc, hf, hh, hs⟩ := hb.facts; try simp only [World.size_alloc, World.size_setCell, World.size_drew] at hs
  clear hc hf hh hs
  go_wp2_with (first | (go_at_call 122; refine (HP.out _ (H.out.ext (Ext.trans (by repeat (first | exact Ext.refl _ | assumption | refine Ext.alloc ?_ _ | refine Ext.drew ?_ | refine Ext.setCell ?_ (by first | (simp; done) | (dsimp only; omega)) _ | refine Ext.trans ?_ (by assumption))) hb)).2).mono ?_; rintro e w2 ⟨rfl, F2, q1, q2, q3⟩))
  refine ⟨rfl, .tuple #[], (by simp [results, Tryz.results99, go_sem]), ?_⟩
  exact EndT.of H.out (Ext.trans (by repeat (first | exact Ext.refl _ | assumption | refine Ext.alloc ?_ _ | refine Ext.drew ?_ | refine Ext.setCell ?_ (by first | (simp; done) | (dsimp only; omega)) _ | refine Ext.trans ?_ (by assumption))) hb) q1 q2 q3 (Ext.refl _)
structure Hit where
 f : Int
 l : Int
 a : Bool
 b : Bool
 c : Bool
 d : Bool
deriving DecidableEq, Inhabited
def Hit.val (x : Hit) : Value := .agg #[.int .u64 x.f, .int .i64 x.l, .bool x.a, .bool x.b, .bool x.c, .bool x.d]
def greatL (p a : Int) (x : Hit) (pick : Int) (r : Nat) (L : List (Key × Line)) : List (Key × Line) := if x.l = 2 ∨ x.l = 3 then putC (kT p x.l a) ⟨x.f, x.a, x.b, x.c, x.d, 0⟩ pick r L else L
set_option maxHeartbeats 1000000 in
theorem great_c (tb cb : Nat) (F : List Nat) (L : List (Key × Line)) (r : Nat) (p a : Int) (x : Hit) (pick : Int) (w : World) (h : TAt w tb cb F L r) (h0 : 0 ≤ a) (h1 : a ≤ 18446744073709551615) (hp0 : -9223372036854775808 ≤ pick) (hp1 : pick ≤ 9223372036854775807) :
  Calls Tryz.prog 97 #[.pointer (some ⟨tb, 0, none⟩), .int .i64 p, .int .u64 a, x.val, .int .i64 pick] w (EndT tb cb F w (greatL p a x pick r L) r) := by
 have H := Lib.hid h
 clear h
 have hput := fun w hc => put_c cb F L r (kT p x.l a) ⟨x.f, x.a, x.b, x.c, x.d, 0⟩ pick w hc hp0 hp1
 have hkey := fun w hl => tlbKey_c p x.l a w hl h0 h1
 unfold greatL
 obtain ⟨xf, xl, xa, xb, xc, xd⟩ := x
 unfold Hit.val
 dsimp only at hput hkey ⊢
 generalize (kT p xl a) = k at hput hkey
 generalize putC k ⟨xf, xa, xb, xc, xd, 0⟩ pick r L = LP at hput
 unfold Line.val at hput
 dsimp only at hput
 have HP := Lib.hid hput
 have HK := Lib.hid hkey
 clear hput hkey
 have hcase : (xl ≠ 2 ∧ xl ≠ 3) ∨ xl = 2 ∨ xl = 3 := by omega
 rcases hcase with ⟨n2, n3⟩ | hl
 ·rw [if_neg (by omega)]
  have e2 : (xl == 2) = false := by simpa using n2
  have e3 : (xl == 3) = false := by simpa using n3
  go_enter Tryz.func97, Tryz.ntmps97
  go_wp2
  all_goals
   refine ⟨rfl, .tuple #[], (by simp [results, Tryz.results97, go_sem]), ?_⟩
   exact EndT.none H.out (by repeat (first | exact Ext.refl _ | assumption | refine Ext.alloc ?_ _ | refine Ext.drew ?_ | refine Ext.setCell ?_ (by first | (simp; done) | (dsimp only; omega)) _ | refine Ext.trans ?_ (by assumption)))
 ·rw [if_pos hl]
  have HK2 := Lib.hid (fun w => HK.out w (by omega))
  rcases hl with rfl | rfl
  all_goals
   go_enter Tryz.func97, Tryz.ntmps97
   go_upto_region 4 with (fail)
   refine region_ext_tail 15 (by kernel_rfl) (by kernel_rfl) ?_; simp only [List.take_succ_cons, List.take_zero, List.drop_succ_cons, List.drop_zero]; (repeat (go_big_quiet_step (first | (go_at_call 89; exact calls_wext (cached_c tb cb _ ((H.out.ext (Ext.trans (by repeat (first | exact Ext.refl _ | assumption | refine Ext.alloc ?_ _ | refine Ext.drew ?_ | refine Ext.setCell ?_ (by first | (simp; done) | (dsimp only; omega)) _ | refine Ext.trans ?_ (by assumption))) (wext_ext _ _))).1))) | (go_at_call 91; exact calls_wext (HK2.out _))))); refine wpQuiet_nil ?_; intro w1 hb; have ⟨hc, hf, hh, hs⟩ := hb.facts; try simp only [World.size_alloc, World.size_setCell, World.size_drew] at hs
   clear hc hf hh hs
   go_wp2_with (first | (go_at_call 122; refine (HP.out _ (H.out.ext (Ext.trans (by repeat (first | exact Ext.refl _ | assumption | refine Ext.alloc ?_ _ | refine Ext.drew ?_ | refine Ext.setCell ?_ (by first | (simp; done) | (dsimp only; omega)) _ | refine Ext.trans ?_ (by assumption))) hb)).2).mono ?_; rintro e w2 ⟨rfl, F2, q1, q2, q3⟩))
   refine ⟨rfl, .tuple #[], (by simp [results, Tryz.results97, go_sem]), ?_⟩
   exact EndT.of H.out (Ext.trans (by repeat (first | exact Ext.refl _ | assumption | refine Ext.alloc ?_ _ | refine Ext.drew ?_ | refine Ext.setCell ?_ (by first | (simp; done) | (dsimp only; omega)) _ | refine Ext.trans ?_ (by assumption))) hb) q1 q2 q3 (Ext.refl _)
end Go.Proofs.YtkfonacokamfiaaGreat
/- Translations: DropPage. -/
namespace Go.Proofs.YtkfonacokamfiaaGreat
set_option linter.unusedVariables false
set_option linter.unusedSimpArgs false
open Go.RowKit
attribute [local go_sem] wext_cell wext_frozen wext_heap alloc_cell alloc_frozen alloc_heap setCell_cell objCell_cells objFrozen_cells
def LOk (L : List (Key × Line)) : Prop := ∀ y ∈ L, y.2.ok
theorem getLine_ok {k : Key} {L : List (Key × Line)} (h : LOk L) : (getLine k L).ok := by
 unfold getLine
 cases hl : look k L 0 with
 | none => exact ⟨by simp [noLine], by simp [noLine]⟩
 | some y =>
  obtain ⟨i, y⟩ := y
  exact h _ (List.mem_of_getElem? (look_some hl).2.1)
def dropPageL (p a : Int) (r : Nat) (L : List (Key × Line)) : List (Key × Line) :=
 let L2 := delL (kT p 3 a) (delL (kT p 2 a) L)
 if hasK (kT p 1 a) L2 = true then (if (outL (getLine (kT p 1 a) L2) (placeI a)).m = 0 then delL (kT p 1 a) L2 else putC (kT p 1 a) (outL (getLine (kT p 1 a) L2) (placeI a)) 0 r L2) else L2
theorem delL_sub {k : Key} {L : List (Key × Line)} : (delL k L).Sublist L := by
 unfold delL
 split
 ·exact List.eraseIdx_sublist ..
 ·exact List.Sublist.refl _
theorem LOk.sub {L L' : List (Key × Line)} (h : LOk L) (hs : L'.Sublist L) : LOk L' := fun y hy => h y (hs.subset hy)
theorem LOk.put {L : List (Key × Line)} {k : Key} {x : Line} {pick : Int} {r : Nat} (h : LOk L) (hx : x.ok) : LOk (putC k x pick r L) := by
 unfold putC
 split
 ·exact h
 ·split
  ·unfold putL
   split
   ·intro y hy
    rcases List.mem_or_eq_of_mem_set hy with hy | rfl
    ·exact h y hy
    ·exact hx
   ·intro y hy
    rcases List.mem_append.1 hy with hy | hy
    ·exact h y hy
    ·obtain rfl : y = (k, x) := by simpa using hy
     exact hx
  ·intro y hy
   rcases List.mem_append.1 hy with hy | hy
   ·split at hy
    ·exact h y hy
    ·exact h y (evictL_sub.subset hy)
   ·obtain rfl : y = (k, x) := by simpa using hy
    exact hx
theorem EndT.fin {w W : World} {tb cb : Nat} {F F5 : List Nat} {L L' : List (Key × Line)} {r : Nat} (h : TAt w tb cb F L r) (k : Keeps F w W) (c : CAt W cb F5 L' r) (f : ∀ x ∈ F5, x ∈ F ∨ w.heap.size ≤ x) :
  EndT tb cb F w L' r (.returned (.tuple #[])) W :=
 ⟨rfl, F5, ⟨(k.block tb (heap_lt h.1) h.out).trans h.1, c⟩, k, f⟩
end Go.Proofs.YtkfonacokamfiaaGreat
/- Translations: Look. -/
namespace Go.Proofs.YtkfonacokamfiaaGreat
set_option linter.unusedVariables false
set_option linter.unusedSimpArgs false
open Go.RowKit
attribute [local go_sem] wext_cell wext_frozen wext_heap alloc_cell alloc_frozen alloc_heap setCell_cell objCell_cells objFrozen_cells
def resR (x1 : Line) (h1 b1 : Bool) (f1 : Int) (x2 : Line) (h2 : Bool) (x3 : Line) (h3 : Bool) : Hit × Bool :=
 if (h1 && b1) = true then (⟨f1, 1, x1.a, x1.b, x1.c, x1.d⟩, true)
 else if h2 = true then (⟨x2.f, 2, x2.a, x2.b, x2.c, x2.d⟩, true)
 else if h3 = true then (⟨x3.f, 3, x3.a, x3.b, x3.c, x3.d⟩, true)
 else (⟨0, 0, false, false, false, false⟩, false)
def lookR (p a : Int) (L : List (Key × Line)) : Hit × Bool :=
 resR (getLine (kT p 1 a) L) (hasK (kT p 1 a) L) (bitB (getLine (kT p 1 a) L).m (placeI a)) (hasF (getLine (kT p 1 a) L) (placeI a)) (getLine (kT p 2 a) L) (hasK (kT p 2 a) L) (getLine (kT p 3 a) L) (hasK (kT p 3 a) L)
def lookV (p a : Int) (L : List (Key × Line)) : Value := .tuple #[(lookR p a L).1.val, .bool (lookR p a L).2]
set_option maxHeartbeats 4000000 in
theorem look_c (tb cb : Nat) (F : List Nat) (L : List (Key × Line)) (r : Nat) (p a : Int) (w : World) (h : TAt w tb cb F L r) (hL : LOk L) (h0 : 0 ≤ a) (h1 : a ≤ 18446744073709551615) :
  Calls Tryz.prog 68 #[.pointer (some ⟨tb, 0, none⟩), .int .i64 p, .int .u64 a] w fun e w' => e = .returned (lookV p a L) ∧ Ext w w' := by
 have H := Lib.hid h
 have hk1 := fun w => tlbKey_c p 1 a w (.inl rfl) h0 h1
 have hk2 := fun w => tlbKey_c p 2 a w (.inr (.inl rfl)) h0 h1
 have hk3 := fun w => tlbKey_c p 3 a w (.inr (.inr rfl)) h0 h1
 have hpl := fun w => tlbPlace_c a w h0 h1
 obtain ⟨hpl0, hpl1⟩ := placeI_lt a h0
 have hg1 := fun w1 hx => get_c cb F L r (kT p 1 a) w1 ((h.ext (w' := w1) hx).2)
 have hg2 := fun w1 hx => get_c cb F L r (kT p 2 a) w1 ((h.ext (w' := w1) hx).2)
 have hg3 := fun w1 hx => get_c cb F L r (kT p 3 a) w1 ((h.ext (w' := w1) hx).2)
 have hhas := fun w => has_c (getLine (kT p 1 a) L) (placeI a) w (getLine_ok hL) hpl0 hpl1
 generalize hres : lookV p a L = R
 unfold lookV lookR at hres
 generalize kT p 1 a = k1 at *
 generalize kT p 2 a = k2 at *
 generalize kT p 3 a = k3 at *
 generalize placeI a = pl at *
 generalize hasF (getLine k1 L) pl = f1 at *
 generalize bitB (getLine k1 L).m pl = b1 at *
 generalize getLine k1 L = y1 at *
 generalize hasK k1 L = s1 at *
 generalize getLine k2 L = y2 at *
 generalize hasK k2 L = s2 at *
 generalize getLine k3 L = y3 at *
 generalize hasK k3 L = s3 at *
 obtain ⟨yf, ya, yb, yc, yd, ym⟩ := y1
 obtain ⟨uf, ua, ub, uc, ud, um⟩ := y2
 obtain ⟨vf, va, vb, vc, vd, vm⟩ := y3
 unfold Line.val at *
 dsimp only at *
 have HK1 := Lib.hid hk1
 have HK2 := Lib.hid hk2
 have HK3 := Lib.hid hk3
 have HPL := Lib.hid hpl
 have HG1 := Lib.hid hg1
 have HG2 := Lib.hid hg2
 have HG3 := Lib.hid hg3
 have HH := Lib.hid hhas
 have HRES := Aside.mk hres
 clear hk1 hk2 hk3 hpl hg1 hg2 hg3 hhas hres h hL
 go_enter Tryz.func68, Tryz.ntmps68
 go_upto_region 3 with (first | (go_at_call 89; refine (cached_c tb cb _ (H.out.ext (by repeat (first | exact Ext.refl _ | assumption | refine Ext.alloc ?_ _ | refine Ext.drew ?_ | refine Ext.setCell ?_ (by first | (simp; done) | (dsimp only; omega)) _ | refine Ext.trans ?_ (by assumption)))).1).mono ?_; rintro e w1 ⟨rfl, hb1⟩) | (go_at_call 91; refine (HK1.out _).mono ?_; rintro e w2 ⟨rfl, hb2⟩) | (go_at_call 90; refine (HG1.out _ ((Ext.trans (by repeat (first | exact Ext.refl _ | assumption | refine Ext.alloc ?_ _ | refine Ext.drew ?_ | refine Ext.setCell ?_ (by first | (simp; done) | (dsimp only; omega)) _ | refine Ext.trans ?_ (by assumption))) hb1).trans hb2)).mono ?_; rintro e w3 ⟨rfl, hb3⟩))
 refine wp_gen ?_; intro W hW
 have EW : Ext w W := by rw [hW]; exact (((Ext.trans (by repeat (first | exact Ext.refl _ | assumption | refine Ext.alloc ?_ _ | refine Ext.drew ?_ | refine Ext.setCell ?_ (by first | (simp; done) | (dsimp only; omega)) _ | refine Ext.trans ?_ (by assumption))) hb1).trans hb2).trans hb3).alloc _
 have r0 : W.heap[w.heap.size]? = some (.cells #[.int .u64 0, .int .i64 0, .bool false, .bool false, .bool false, .bool false] 152 (0, 0)) := by
  rw [hW]; exact (alloc_other _ _ (by have := ((hb1.trans hb2).trans hb3).size; simp at this; omega)).trans ((((hb1.trans hb2).trans hb3).block _ (by simp)).trans (alloc_same ..))
 have n8 : W.heap[w3.heap.size]? = some (.cells #[.int .u64 yf, .bool ya, .bool yb, .bool yc, .bool yd, .int .u8 ym] 183 (0, 0)) := by rw [hW]; exact alloc_same ..
 have hz : w.heap.size < w3.heap.size := by have := ((hb1.trans hb2).trans hb3).size; simp at this; omega
 have hl8 := heap_lt n8
 generalize w3.heap.size = b8 at n8 hz hl8 ⊢
 have N8 := Lib.hid n8
 have R0 := Lib.hid r0
 have HE := Lib.hid EW
 clear hW hb1 hb2 hb3 EW n8 r0
 go_upto_if 26 with (fail)
 go_cut [] (fun wx => Hid (Ext w wx ∧ wx.heap[w.heap.size]? = some (.cells #[.int .u64 0, .int .i64 0, .bool false, .bool false, .bool false, .bool false] 152 (0, 0)) ∧ (s1 && b1) = false))
 case first =>
  cases s1
  ·go_wp2
   go_meet
   exact ⟨HE.out, R0.out, rfl⟩
  ·have g0 := (heap_cell N8.out 0).trans rfl
   have g1 := (heap_cell N8.out 1).trans rfl
   have g2 := (heap_cell N8.out 2).trans rfl
   have g3 := (heap_cell N8.out 3).trans rfl
   have g4 := (heap_cell N8.out 4).trans rfl
   have g5 := (heap_cell N8.out 5).trans rfl
   go_upto_region 4 with (fail)
   refine region_ext (by kernel_rfl) (by kernel_rfl) ?_; (repeat (go_big_quiet_step (first | (go_at_call 93; exact calls_wext (HPL.out _)) | (go_at_call 92; exact calls_wext (HH.out _))))); refine wpQuiet_nil ?_; intro w1 hb; have ⟨hc, hf, hh, hs⟩ := hb.facts; try simp only [World.size_alloc, World.size_setCell, World.size_drew] at hs
   have EQ : Hid (Ext w w1) := Lib.hid (HE.out.trans hb)
   have RQ : Hid (w1.heap[w.heap.size]? = some (.cells #[.int .u64 0, .int .i64 0, .bool false, .bool false, .bool false, .bool false] 152 (0, 0))) := Lib.hid ((hb.block _ (by omega)).trans R0.out)
   have n9 := (hb.block _ hl8).trans N8.out
   clear hb hc hf hh hs g0 g1 g2 g3 g4 g5
   cases b1
   ·go_wp2
    go_meet
    exact ⟨EQ.out, RQ.out, rfl⟩
   ·have g0 := (heap_cell n9 0).trans rfl
    have g1 := (heap_cell n9 1).trans rfl
    have g2 := (heap_cell n9 2).trans rfl
    have g3 := (heap_cell n9 3).trans rfl
    have g4 := (heap_cell n9 4).trans rfl
    have g5 := (heap_cell n9 5).trans rfl
    have q0 := (heap_cell RQ.out 0).trans rfl
    have q1 := (heap_cell RQ.out 1).trans rfl
    have q2 := (heap_cell RQ.out 2).trans rfl
    have q3 := (heap_cell RQ.out 3).trans rfl
    have q4 := (heap_cell RQ.out 4).trans rfl
    have q5 := (heap_cell RQ.out 5).trans rfl
    have qf := frozen_of RQ.out
    clear n9
    go_wp2
    refine post_gen (fun U => U.heap[w.heap.size]? = some (.cells #[.int .u64 f1, .int .i64 1, .bool ya, .bool yb, .bool yc, .bool yd] 152 (0, 0)) ∧ Ext w U) ⟨?_, ?_⟩ ?_
    ·exact store6_heap RQ.out
    ·exact ext6 EQ.out (Nat.le_refl _)
    rintro U ⟨m5, E5⟩
    have v0 := (heap_cell m5 0).trans rfl
    have v1 := (heap_cell m5 1).trans rfl
    have v2 := (heap_cell m5 2).trans rfl
    have v3 := (heap_cell m5 3).trans rfl
    have v4 := (heap_cell m5 4).trans rfl
    have v5 := (heap_cell m5 5).trans rfl
    clear m5 g0 g1 g2 g3 g4 g5 q0 q1 q2 q3 q4 q5 qf
    rw [← HRES.out]
    refine bodyPost_ret (by simp [results, Tryz.results68, go_sem, ↓IntWalk.iteOmega, *]; try rfl) rfl ⟨by simp [resR, Hit.val], E5⟩
 case rest =>
  obtain ⟨hE1, hR1, hS⟩ := hcut.out
  have H1 := Lib.hid hE1
  have H2 := Lib.hid hR1
  clear hE1 hR1 hcut
  go_wp2
  go_loopw [13] (fun lv wr => ∃ j : Nat, j ≤ 2 ∧ lv = .int .i64 ((j : Int) + 2) ∧ Hid (Ext w wr ∧ wr.heap[w.heap.size]? = some (.cells #[.int .u64 0, .int .i64 0, .bool false, .bool false, .bool false, .bool false] 152 (0, 0)) ∧ (0 < j → s2 = false) ∧ (1 < j → s3 = false))) (fun lv _ => 4 - (intOf lv).toNat)
  case atStart => exact ⟨0, by omega, rfl, Lib.hid ⟨H1.out, H2.out, fun h => absurd h (by omega), fun h => absurd h (by omega)⟩⟩
  case round =>
  obtain ⟨j, hj, rfl, hR⟩ := hrel
  rcases (show j = 0 ∨ j = 1 ∨ j = 2 by omega) with rfl | rfl | rfl
  ·skip
   have hl2 := HE
   go_upto_region 11 with (first | (go_at_call 91; refine (HK2.out _).mono ?_; rintro e w4 ⟨rfl, hb4⟩) | (go_at_call 90; refine (HG2.out _ (hR.out.1.trans hb4)).mono ?_; rintro e w5 ⟨rfl, hb5⟩))
   refine wp_gen ?_; intro V hV
   have EQ : Hid (Ext w V) := Lib.hid (by rw [hV]; exact ((hR.out.1.trans hb4).trans hb5).alloc _)
   have n9 : V.heap[w5.heap.size]? = some (.cells #[.int .u64 uf, .bool ua, .bool ub, .bool uc, .bool ud, .int .u8 um] 183 (0, 0)) := by rw [hV]; exact alloc_same ..
   have hlr := heap_lt hR.out.2.1
   have RQ : Hid (V.heap[w.heap.size]? = some (.cells #[.int .u64 0, .int .i64 0, .bool false, .bool false, .bool false, .bool false] 152 (0, 0))) := Lib.hid (by rw [hV]; exact (alloc_other _ _ (by have := (hb4.trans hb5).size; omega)).trans (((hb4.trans hb5).block _ hlr).trans hR.out.2.1))
   have hz9 : w.heap.size < w5.heap.size := by have := (hb4.trans hb5).size; omega
   have hl9 := heap_lt n9
   generalize w5.heap.size = b9 at n9 hz9 hl9 ⊢
   clear hV hb4 hb5
   cases s2
   ·go_wp2
    refine ⟨⟨1, by omega, by go_num, Lib.hid ⟨EQ.out, RQ.out, fun _ => by simp, fun h => absurd h (by omega)⟩⟩, by simp [intOf]⟩
   ·have g0 := (heap_cell n9 0).trans rfl
    have g1 := (heap_cell n9 1).trans rfl
    have g2 := (heap_cell n9 2).trans rfl
    have g3 := (heap_cell n9 3).trans rfl
    have g4 := (heap_cell n9 4).trans rfl
    have g5 := (heap_cell n9 5).trans rfl
    have q0 := (heap_cell RQ.out 0).trans rfl
    have q1 := (heap_cell RQ.out 1).trans rfl
    have q2 := (heap_cell RQ.out 2).trans rfl
    have q3 := (heap_cell RQ.out 3).trans rfl
    have q4 := (heap_cell RQ.out 4).trans rfl
    have q5 := (heap_cell RQ.out 5).trans rfl
    have qf := frozen_of RQ.out
    clear n9
    go_wp2
    refine post_gen (fun U => U.heap[w.heap.size]? = some (.cells #[.int .u64 uf, .int .i64 2, .bool ua, .bool ub, .bool uc, .bool ud] 152 (0, 0)) ∧ Ext w U) ⟨?_, ?_⟩ ?_
    ·exact store6_heap RQ.out
    ·exact ext6 EQ.out (Nat.le_refl _)
    rintro U ⟨m5, E5⟩
    have v0 := (heap_cell m5 0).trans rfl
    have v1 := (heap_cell m5 1).trans rfl
    have v2 := (heap_cell m5 2).trans rfl
    have v3 := (heap_cell m5 3).trans rfl
    have v4 := (heap_cell m5 4).trans rfl
    have v5 := (heap_cell m5 5).trans rfl
    clear m5 g0 g1 g2 g3 g4 g5 q0 q1 q2 q3 q4 q5 qf
    rw [← HRES.out]
    refine bodyPost_ret (by simp [results, Tryz.results68, go_sem, ↓IntWalk.iteOmega, *]; try rfl) rfl ⟨by simp [resR, Hit.val, hS], E5⟩
  ·have hs2 := hR.out.2.2.1
   have hl3 := HE
   go_upto_region 11 with (first | (go_at_call 91; refine (HK3.out _).mono ?_; rintro e w4 ⟨rfl, hb4⟩) | (go_at_call 90; refine (HG3.out _ (hR.out.1.trans hb4)).mono ?_; rintro e w5 ⟨rfl, hb5⟩))
   refine wp_gen ?_; intro V hV
   have EQ : Hid (Ext w V) := Lib.hid (by rw [hV]; exact ((hR.out.1.trans hb4).trans hb5).alloc _)
   have n9 : V.heap[w5.heap.size]? = some (.cells #[.int .u64 vf, .bool va, .bool vb, .bool vc, .bool vd, .int .u8 vm] 183 (0, 0)) := by rw [hV]; exact alloc_same ..
   have hlr := heap_lt hR.out.2.1
   have RQ : Hid (V.heap[w.heap.size]? = some (.cells #[.int .u64 0, .int .i64 0, .bool false, .bool false, .bool false, .bool false] 152 (0, 0))) := Lib.hid (by rw [hV]; exact (alloc_other _ _ (by have := (hb4.trans hb5).size; omega)).trans (((hb4.trans hb5).block _ hlr).trans hR.out.2.1))
   have hz9 : w.heap.size < w5.heap.size := by have := (hb4.trans hb5).size; omega
   have hl9 := heap_lt n9
   generalize w5.heap.size = b9 at n9 hz9 hl9 ⊢
   clear hV hb4 hb5
   cases s3
   ·go_wp2
    refine ⟨⟨2, by omega, by go_num, Lib.hid ⟨EQ.out, RQ.out, fun _ => hs2 (by omega), fun _ => by simp⟩⟩, by simp [intOf]⟩
   ·have g0 := (heap_cell n9 0).trans rfl
    have g1 := (heap_cell n9 1).trans rfl
    have g2 := (heap_cell n9 2).trans rfl
    have g3 := (heap_cell n9 3).trans rfl
    have g4 := (heap_cell n9 4).trans rfl
    have g5 := (heap_cell n9 5).trans rfl
    have q0 := (heap_cell RQ.out 0).trans rfl
    have q1 := (heap_cell RQ.out 1).trans rfl
    have q2 := (heap_cell RQ.out 2).trans rfl
    have q3 := (heap_cell RQ.out 3).trans rfl
    have q4 := (heap_cell RQ.out 4).trans rfl
    have q5 := (heap_cell RQ.out 5).trans rfl
    have qf := frozen_of RQ.out
    clear n9
    go_wp2
    refine post_gen (fun U => U.heap[w.heap.size]? = some (.cells #[.int .u64 vf, .int .i64 3, .bool va, .bool vb, .bool vc, .bool vd] 152 (0, 0)) ∧ Ext w U) ⟨?_, ?_⟩ ?_
    ·exact store6_heap RQ.out
    ·exact ext6 EQ.out (Nat.le_refl _)
    rintro U ⟨m5, E5⟩
    have v0 := (heap_cell m5 0).trans rfl
    have v1 := (heap_cell m5 1).trans rfl
    have v2 := (heap_cell m5 2).trans rfl
    have v3 := (heap_cell m5 3).trans rfl
    have v4 := (heap_cell m5 4).trans rfl
    have v5 := (heap_cell m5 5).trans rfl
    clear m5 g0 g1 g2 g3 g4 g5 q0 q1 q2 q3 q4 q5 qf
    rw [← HRES.out]
    refine bodyPost_ret (by simp [results, Tryz.results68, go_sem, ↓IntWalk.iteOmega, *]; try rfl) rfl ⟨by simp [resR, Hit.val, hS, hs2 (by omega)], E5⟩
  ·have hs2 := hR.out.2.2.1 (by omega)
   have hs3 := hR.out.2.2.2 (by omega)
   have RQ := Lib.hid hR.out.2.1
   have EQ := Lib.hid hR.out.1
   have q0 := (heap_cell RQ.out 0).trans rfl
   have q1 := (heap_cell RQ.out 1).trans rfl
   have q2 := (heap_cell RQ.out 2).trans rfl
   have q3 := (heap_cell RQ.out 3).trans rfl
   have q4 := (heap_cell RQ.out 4).trans rfl
   have q5 := (heap_cell RQ.out 5).trans rfl
   have qf := frozen_of RQ.out
   go_wp2
   refine post_gen (fun U => U.heap[w.heap.size]? = some (.cells #[.int .u64 0, .int .i64 0, .bool false, .bool false, .bool false, .bool false] 152 (0, 0)) ∧ Ext w U) ⟨?_, ?_⟩ ?_
   ·exact store6_heap RQ.out
   ·exact ext6 EQ.out (Nat.le_refl _)
   rintro U ⟨m5, E5⟩
   have v0 := (heap_cell m5 0).trans rfl
   have v1 := (heap_cell m5 1).trans rfl
   have v2 := (heap_cell m5 2).trans rfl
   have v3 := (heap_cell m5 3).trans rfl
   have v4 := (heap_cell m5 4).trans rfl
   have v5 := (heap_cell m5 5).trans rfl
   clear m5 q0 q1 q2 q3 q4 q5 qf
   rw [← HRES.out]
   refine bodyPost_ret (by simp [results, Tryz.results68, go_sem, ↓IntWalk.iteOmega, *]; try rfl) rfl ⟨by simp [resR, Hit.val, hS, hs2, hs3], E5⟩
end Go.Proofs.YtkfonacokamfiaaGreat
/- Diff: where two memories' slots differ. -/
namespace Go.Proofs.YtkfonacokamfiaaGreat
set_option linter.unusedVariables false
set_option linter.unusedSimpArgs false
open Go.RowKit
attribute [local go_sem] wext_cell wext_frozen wext_heap alloc_cell alloc_frozen alloc_heap setCell_cell objCell_cells objFrozen_cells
def PageC (c : Array Value) (M : Int → Int) (n : Int) : Prop := c.size = 512 ∧ ∀ i : Nat, i < 512 → c[i]? = some (.int .u64 (M (n * 512 + i)))
def EndPage (M : Int → Int) (n : Int) (w : World) (e : Ending) (w' : World) : Prop := ∃ c, e = .returned (.agg c) ∧ PageC c M n ∧ Ext w w'
theorem pageC_one {c : Array Value} {M : Int → Int} {n : Int} (h : PageC c M n) : c.all (·.oneCell') = true := by
 rw [Array.all_eq_true]
 intro i hi
 have := h.2 i (by have := h.1; omega)
 rw [Array.getElem?_eq_getElem hi] at this
 injection this with this
 rw [this]; rfl
theorem setRow_ext {w U : World} (h : Ext w U) {g : Nat} (hg : w.heap.size ≤ g) (c : Array Value) : Ext w (U.setRow g c) := by
 refine ⟨?_, ?_, ?_, ?_, fun b hb => (setRow_other _ _ _ _ (by omega)).trans (h.block b hb)⟩
 ·exact h.os
 ·exact h.tape
 ·exact h.output
 ·have : (U.setRow g c).heap.size = U.heap.size := by simp [World.setRow]
  rw [this]; exact h.size
section
variable {P : Program}
theorem eqItems_ints {e : TypeId} (he : P.underlying e = some (.int .u64)) (hp : P.plainKey e = true) (hc : P.cellsOf e = 1) (d : Nat) (xs ys : Array Value) (f g : Nat → Int) (w : World) :
  ∀ is : List Nat, (∀ i ∈ is, xs[i]? = some (.int .u64 (f i)) ∧ ys[i]? = some (.int .u64 (g i))) → (Op.eqItems (d + 1) e (P.cellsOf e) xs ys is).run P w = .ok (is.all fun i => f i == g i) w
 | [], _ => by simp [Op.eqItems]
 | i :: is, h => by
  have ⟨h1, h2⟩ := h i (List.mem_cons_self ..)
  have ih := eqItems_ints he hp hc d xs ys f g w is fun j hj => h j (List.mem_cons_of_mem _ hj)
  rw [hc] at ih ⊢
  have hr : (Op.equalIn (d + 1) e (.int .u64 (f i)) (.int .u64 (g i))).run P w = .ok (f i == g i) w := by
   simp only [Op.equalIn, Sem.run_bind, run_underlying he, Result.andThen_ok]
   simp
  simp only [Op.eqItems, Sem.run_bind, Nat.mul_one, run_part_plain w hp h1, run_part_plain w hp h2, Result.andThen_ok, hr]
  cases hb : f i == g i
  ·simp [hb]
  ·simp only [Bool.not_true, Bool.false_eq_true, if_false, ih, List.all_cons, hb, Bool.true_and]
end
def pageB (M1 M2 : Int → Int) (n : Int) : Bool := (List.range 512).all fun i => M1 (n * 512 + i) == M2 (n * 512 + i)
theorem page_eql {c1 c2 : Array Value} {M1 M2 : Int → Int} {n : Int} (h1 : PageC c1 M1 n) (h2 : PageC c2 M2 n) (w : World) : (binOp .eql 139 (.agg c1) (.agg c2)).run Tryz.prog w = .ok (.bool (pageB M1 M2 n)) w := by
 rw [run_eql_struct]
 obtain ⟨i, hi⟩ : ∃ i, Tryz.prog.info? 23 = some i := by
  cases hh : Tryz.prog.info? 23 with
  | some i => exact ⟨i, rfl⟩
  | none => exact absurd hh (by have : (Tryz.prog.info? 23).isSome = true := (by kernel_rfl); intro e; rw [e] at this; cases this)
 rw [show (10000 : Nat) = 9998 + 1 + 1 from rfl, run_equalIn_array w (9998 + 1) c1 c2 Tryz.underlying139 hi,
  eqItems_ints (P := Tryz.prog) Tryz.underlying23 (by kernel_rfl) (by kernel_rfl) 9998 c1 c2 (fun i => M1 (n * 512 + i)) (fun i => M2 (n * 512 + i)) w (List.range 512) (fun i hi => ⟨h1.2 i (by simpa using hi), h2.2 i (by simpa using hi)⟩)]
 rfl
def dIn (M1 M2 : Int → Int) (n : Int) (k : Nat) : List Int := ((List.range k).filter fun i : Nat => M1 (n * 512 + i) != M2 (n * 512 + i)).map fun i : Nat => n * 4096 + (i : Int) * 8
def dOut (M1 M2 : Int → Int) (n : Nat) : List Int := (List.range n).flatMap fun i : Nat => dIn M1 M2 i 512
theorem dIn_succ (M1 M2 : Int → Int) (n : Int) (k : Nat) : dIn M1 M2 n (k + 1) = if (M1 (n * 512 + k) != M2 (n * 512 + k)) = true then dIn M1 M2 n k ++ [n * 4096 + (k : Int) * 8] else dIn M1 M2 n k := by
 unfold dIn
 rw [List.range_succ, List.filter_append, List.map_append]
 split
 ·rename_i h; simp [h]
 ·rename_i h; simp [h]
theorem dOut_succ (M1 M2 : Int → Int) (n : Nat) : dOut M1 M2 (n + 1) = dOut M1 M2 n ++ dIn M1 M2 n 512 := by
 unfold dOut
 rw [List.range_succ, List.flatMap_append]; simp
theorem dIn_length (M1 M2 : Int → Int) (n : Int) (k : Nat) : (dIn M1 M2 n k).length ≤ k := by
 unfold dIn
 rw [List.length_map]
 exact Nat.le_trans (List.length_filter_le ..) (by simp)
theorem dOut_length (M1 M2 : Int → Int) (n : Nat) : (dOut M1 M2 n).length ≤ 512 * n := by
 induction n with
 | zero => simp [dOut]
 | succ n ih => rw [dOut_succ, List.length_append]; have := dIn_length M1 M2 n 512; omega
theorem dIn_none {M1 M2 : Int → Int} {n : Int} (h : pageB M1 M2 n = true) : dIn M1 M2 n 512 = [] := by
 unfold dIn
 rw [List.filter_eq_nil_iff.2, List.map_nil]
 intro i hi
 have := List.all_eq_true.1 h i hi
 simpa [bne] using this
theorem mem_dOut {M1 M2 : Int → Int} {N : Nat} {a : Int} (h : a ∈ dOut M1 M2 N) : 0 ≤ a ∧ a < N * 4096 ∧ a % 8 = 0 ∧ M1 (a / 8) ≠ M2 (a / 8) := by
 unfold dOut dIn at h
 obtain ⟨n, hn, h⟩ := List.mem_flatMap.1 h
 obtain ⟨i, hi, rfl⟩ := List.mem_map.1 h
 obtain ⟨h1, h2⟩ := List.mem_filter.1 hi
 have hn' : n < N := by simpa using hn
 have hi' : i < 512 := by simpa using h1
 have e : ((n : Int) * 4096 + (i : Int) * 8) / 8 = (n : Int) * 512 + i := by omega
 rw [e]
 refine ⟨by omega, by omega, by omega, by simpa using h2⟩
theorem dOut_nil {M1 M2 : Int → Int} {N : Nat} (h : ∀ s, M1 s = M2 s) : dOut M1 M2 N = [] := by
 unfold dOut dIn
 rw [List.flatMap_eq_nil_iff]
 intro n _
 rw [List.filter_eq_nil_iff.2, List.map_nil]
 intro i _
 simp [h]
end Go.Proofs.YtkfonacokamfiaaGreat
/- Diff of two memories of 16 bits. -/
namespace Go.Proofs.YtkfonacokamfiaaGreat
set_option linter.unusedVariables false
set_option linter.unusedSimpArgs false
open Go.RowKit
attribute [local go_sem] wext_cell wext_frozen wext_heap alloc_cell alloc_frozen alloc_heap setCell_cell objCell_cells objFrozen_cells
def EndDiff (w : World) (l : List Int) (e : Ending) (w' : World) : Prop :=
 ∃ la lc, e = .returned (.slice la l.length lc) ∧ Owns w' 23 1 (.slice la l.length lc) l.length (l.map (.int .u64 ·)) ∧ Ext w w' ∧ ∀ g, (Value.slice la l.length lc).ownBlock = some g → w.heap.size ≤ g
theorem MemAt.cell0 {w : World} {mb : Nat} {F : List Nat} {B : Int} {M : Int → Int} {T : List Int} (h : MemAt w mb F B M T) : w.cell? ⟨mb, 0, none⟩ = some (.int .i64 B) := h.head.1
end Go.Proofs.YtkfonacokamfiaaGreat
