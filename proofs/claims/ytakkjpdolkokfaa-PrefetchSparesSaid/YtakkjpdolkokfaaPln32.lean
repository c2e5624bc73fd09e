/- Joined texts, part 32 of what the law stands on: each as its own head says. -/
import Derived.Test.YtakkjpdolkokfaaPln31
/- Translations: what a Tlb is in memory; New, Len, Small, Great, DropOf, Clear, Evict. -/
namespace Go.Proofs.Ytakkjpdolkokfaa
set_option linter.unusedVariables false
set_option linter.unusedSimpArgs false
open Go.RowKit
attribute [local go_sem] wext_cell wext_frozen wext_heap alloc_cell alloc_frozen alloc_heap setCell_cell objCell_cells objFrozen_cells

/-- A Tlb, its cache, the cache's blocks, its lines, its room. -/
def TAt (w : World) (tb cb : Nat) (F : List Nat) (L : List (Key × Line)) (r : Nat) : Prop :=
  w.heap[tb]? = some (.cells #[.pointer (some ⟨cb, 0, none⟩)] 177 (0, 0)) ∧ CAt w cb F L r
theorem TAt.ext {w w' : World} {tb cb : Nat} {F : List Nat} {L : List (Key × Line)} {r : Nat} (h : TAt w tb cb F L r) (k : Ext w w') : TAt w' tb cb F L r :=
  ⟨(k.block _ (heap_lt h.1)).trans h.1, h.2.ext k⟩
theorem TAt.out {w : World} {tb cb : Nat} {F : List Nat} {L : List (Key × Line)} {r : Nat} (h : TAt w tb cb F L r) : tb ∉ F := h.2.apart h.1 (by decide) (by decide)
def EndT (tb cb : Nat) (F : List Nat) (w : World) (L' : List (Key × Line)) (r : Nat) (e : Ending) (w' : World) : Prop :=
  e = .returned (.tuple #[]) ∧ ∃ F', TAt w' tb cb F' L' r ∧ Keeps F w w' ∧ ∀ x ∈ F', x ∈ F ∨ w.heap.size ≤ x
theorem EndT.of {w w1 w2 w3 : World} {tb cb : Nat} {F F' : List Nat} {L L' : List (Key × Line)} {r : Nat} (h : TAt w tb cb F L r) (k : Ext w w1) (hc : CAt w2 cb F' L' r) (hk : Keeps F w1 w2) (hf : ∀ x ∈ F', x ∈ F ∨ w1.heap.size ≤ x) (k3 : Ext w2 w3) :
    EndT tb cb F w L' r (.returned (.tuple #[])) w3 := by
  have h1 := h.ext k
  refine ⟨rfl, F', ⟨(k3.block _ (Nat.lt_of_lt_of_le (heap_lt h1.1) hk.size)).trans ((hk.block tb (heap_lt h1.1) h1.out).trans h1.1), hc.ext k3⟩, ((Keeps.of_ext k).same hk).ext k3, fun x hx => (hf x hx).imp id fun h => Nat.le_trans k.size h⟩
theorem EndT.none {w w3 : World} {tb cb : Nat} {F : List Nat} {L : List (Key × Line)} {r : Nat} (h : TAt w tb cb F L r) (k : Ext w w3) : EndT tb cb F w L r (.returned (.tuple #[])) w3 :=
  ⟨rfl, F, h.ext k, Keeps.of_ext k, fun _ hx => .inl hx⟩

theorem cached_c (tb cb : Nat) (w : World) (h : w.heap[tb]? = some (.cells #[.pointer (some ⟨cb, 0, none⟩)] 177 (0, 0))) :
    Calls Try.prog 105 #[.pointer (some ⟨tb, 0, none⟩)] w fun e w' => e = .returned (.pointer (some ⟨cb, 0, none⟩)) ∧ Ext w w' := by
  have c0 := (heap_cell h 0).trans rfl
  have hl := heap_lt h
  clear h
  go_enter Try.func105, Try.ntmps105
  go_wp2
  all_goals
    go_ret
    exact ⟨rfl, (by repeat (first | exact Ext.refl _ | assumption | refine Ext.alloc ?_ _ | refine Ext.drew ?_ | refine Ext.setCell ?_ (by first | (simp; done) | (dsimp only; omega)) _ | refine Ext.trans ?_ (by assumption)))⟩

def EndTNew (room : Int) (w : World) (e : Ending) (w' : World) : Prop :=
  ∃ tb cb F, e = .returned (.pointer (some ⟨tb, 0, none⟩)) ∧ TAt w' tb cb F [] (clampR room) ∧ Ext w w' ∧ w.heap.size ≤ tb ∧ ∀ x ∈ F, w.heap.size ≤ x
theorem tnew_c (room : Int) (w : World) (h0 : -9223372036854775808 ≤ room) (h1 : room ≤ 9223372036854775807) :
    Calls Try.prog 57 #[.int .i64 room] w (EndTNew room w) := by
  go_enter Try.func57, Try.ntmps57
  go_wp2_with (first | (go_at_call 33; refine (new_c room _ h0 h1).mono ?_; rintro e w1 ⟨cb, F, rfl, hC, hE, hF⟩))
  go_ret
  exact ⟨w1.heap.size, cb, F, rfl, ⟨alloc_same .., hC.ext ((Ext.refl _).alloc _)⟩, hE.alloc _, hE.size, hF⟩

def smallL (p a : Int) (x : Line) (pick : Int) (r : Nat) (L : List (Key × Line)) : List (Key × Line) := if x.m = 0 then L else putC (kT p 1 a) x pick r L
set_option maxHeartbeats 1000000 in
theorem small_c (tb cb : Nat) (F : List Nat) (L : List (Key × Line)) (r : Nat) (p a : Int) (x : Line) (pick : Int) (w : World) (h : TAt w tb cb F L r) (h0 : 0 ≤ a) (h1 : a ≤ 18446744073709551615) (hp0 : -9223372036854775808 ≤ pick) (hp1 : pick ≤ 9223372036854775807) :
    Calls Try.prog 112 #[.pointer (some ⟨tb, 0, none⟩), .int .i64 p, .int .u64 a, x.val, .int .i64 pick] w (EndT tb cb F w (smallL p a x pick r L) r) := by
  have H := Lib.hid h
  clear h
  have hput := fun w hc => put_c cb F L r (kT p 1 a) x pick w hc hp0 hp1
  have hkey := fun w => tlbKey_c p 1 a w (.inl rfl) h0 h1
  unfold smallL
  generalize (kT p 1 a) = k at hput hkey
  generalize putC k x pick r L = LP at hput
  obtain ⟨xf, xa, xb, xc, xd, xm⟩ := x
  unfold Line.val at *
  dsimp only at hput ⊢
  have HP := Lib.hid hput
  have HK := Lib.hid hkey
  clear hput hkey
  by_cases hz : xm = 0
  · have hzb : (xm != 0) = false := by simpa using hz
    rw [if_pos hz]
    go_enter Try.func112, Try.ntmps112
    go_wp2
    all_goals
      refine ⟨rfl, .tuple #[], (by simp [results, Try.results112, go_sem]), ?_⟩
      exact EndT.none H.out (by repeat (first | exact Ext.refl _ | assumption | refine Ext.alloc ?_ _ | refine Ext.drew ?_ | refine Ext.setCell ?_ (by first | (simp; done) | (dsimp only; omega)) _ | refine Ext.trans ?_ (by assumption)))
  · have hzb : (xm != 0) = true := by simpa using hz
    rw [if_neg hz]
    have hlt := Lib.hid (heap_lt H.out.1)
    go_enter Try.func112, Try.ntmps112
    go_upto_region 2 with (fail)
    refine region_ext_tail 7 (by kernel_rfl) (by kernel_rfl) ?_; simp only [List.take_succ_cons, List.take_zero, List.drop_succ_cons, List.drop_zero]; (repeat (go_big_quiet_step (first | (go_at_call 105; exact calls_wext (cached_c tb cb _ ((H.out.ext (Ext.trans (by repeat (first | exact Ext.refl _ | assumption | refine Ext.alloc ?_ _ | refine Ext.drew ?_ | refine Ext.setCell ?_ (by first | (simp; done) | (dsimp only; omega)) _ | refine Ext.trans ?_ (by assumption))) (wext_ext _ _))).1))) | (go_at_call 106; exact calls_wext (HK.out _))))); refine wpQuiet_nil ?_; intro w1 hb; have ⟨hc, hf, hh, hs⟩ := hb.facts; try simp only [World.size_alloc, World.size_setCell, World.size_drew] at hs
    clear hc hf hh hs
    go_wp2_with (first | (go_at_call 67; refine (HP.out _ (H.out.ext (Ext.trans (by repeat (first | exact Ext.refl _ | assumption | refine Ext.alloc ?_ _ | refine Ext.drew ?_ | refine Ext.setCell ?_ (by first | (simp; done) | (dsimp only; omega)) _ | refine Ext.trans ?_ (by assumption))) hb)).2).mono ?_; rintro e w2 ⟨rfl, F2, q1, q2, q3⟩))
    refine ⟨rfl, .tuple #[], (by simp [results, Try.results112, go_sem]), ?_⟩
    exact EndT.of H.out (Ext.trans (by repeat (first | exact Ext.refl _ | assumption | refine Ext.alloc ?_ _ | refine Ext.drew ?_ | refine Ext.setCell ?_ (by first | (simp; done) | (dsimp only; omega)) _ | refine Ext.trans ?_ (by assumption))) hb) q1 q2 q3 (Ext.refl _)

structure Hit where
  f : Int
  l : Int
  a : Bool
  b : Bool
  c : Bool
  d : Bool
deriving DecidableEq, Inhabited
def Hit.val (x : Hit) : Value := .agg #[.int .u64 x.f, .int .i64 x.l, .bool x.a, .bool x.b, .bool x.c, .bool x.d]
def greatL (p a : Int) (x : Hit) (pick : Int) (r : Nat) (L : List (Key × Line)) : List (Key × Line) := if x.l = 2 ∨ x.l = 3 then putC (kT p x.l a) ⟨x.f, x.a, x.b, x.c, x.d, 0⟩ pick r L else L
set_option maxHeartbeats 1000000 in
theorem great_c (tb cb : Nat) (F : List Nat) (L : List (Key × Line)) (r : Nat) (p a : Int) (x : Hit) (pick : Int) (w : World) (h : TAt w tb cb F L r) (h0 : 0 ≤ a) (h1 : a ≤ 18446744073709551615) (hp0 : -9223372036854775808 ≤ pick) (hp1 : pick ≤ 9223372036854775807) :
    Calls Try.prog 110 #[.pointer (some ⟨tb, 0, none⟩), .int .i64 p, .int .u64 a, x.val, .int .i64 pick] w (EndT tb cb F w (greatL p a x pick r L) r) := by
  have H := Lib.hid h
  clear h
  have hput := fun w hc => put_c cb F L r (kT p x.l a) ⟨x.f, x.a, x.b, x.c, x.d, 0⟩ pick w hc hp0 hp1
  have hkey := fun w hl => tlbKey_c p x.l a w hl h0 h1
  unfold greatL
  obtain ⟨xf, xl, xa, xb, xc, xd⟩ := x
  unfold Hit.val
  dsimp only at hput hkey ⊢
  generalize (kT p xl a) = k at hput hkey
  generalize putC k ⟨xf, xa, xb, xc, xd, 0⟩ pick r L = LP at hput
  unfold Line.val at hput
  dsimp only at hput
  have HP := Lib.hid hput
  have HK := Lib.hid hkey
  clear hput hkey
  have hcase : (xl ≠ 2 ∧ xl ≠ 3) ∨ xl = 2 ∨ xl = 3 := by omega
  rcases hcase with ⟨n2, n3⟩ | hl
  · rw [if_neg (by omega)]
    have e2 : (xl == 2) = false := by simpa using n2
    have e3 : (xl == 3) = false := by simpa using n3
    go_enter Try.func110, Try.ntmps110
    go_wp2
    all_goals
      refine ⟨rfl, .tuple #[], (by simp [results, Try.results110, go_sem]), ?_⟩
      exact EndT.none H.out (by repeat (first | exact Ext.refl _ | assumption | refine Ext.alloc ?_ _ | refine Ext.drew ?_ | refine Ext.setCell ?_ (by first | (simp; done) | (dsimp only; omega)) _ | refine Ext.trans ?_ (by assumption)))
  · rw [if_pos hl]
    have HK2 := Lib.hid (fun w => HK.out w (by omega))
    rcases hl with rfl | rfl
    all_goals
      go_enter Try.func110, Try.ntmps110
      go_upto_region 4 with (fail)
      refine region_ext_tail 15 (by kernel_rfl) (by kernel_rfl) ?_; simp only [List.take_succ_cons, List.take_zero, List.drop_succ_cons, List.drop_zero]; (repeat (go_big_quiet_step (first | (go_at_call 105; exact calls_wext (cached_c tb cb _ ((H.out.ext (Ext.trans (by repeat (first | exact Ext.refl _ | assumption | refine Ext.alloc ?_ _ | refine Ext.drew ?_ | refine Ext.setCell ?_ (by first | (simp; done) | (dsimp only; omega)) _ | refine Ext.trans ?_ (by assumption))) (wext_ext _ _))).1))) | (go_at_call 106; exact calls_wext (HK2.out _))))); refine wpQuiet_nil ?_; intro w1 hb; have ⟨hc, hf, hh, hs⟩ := hb.facts; try simp only [World.size_alloc, World.size_setCell, World.size_drew] at hs
      clear hc hf hh hs
      go_wp2_with (first | (go_at_call 67; refine (HP.out _ (H.out.ext (Ext.trans (by repeat (first | exact Ext.refl _ | assumption | refine Ext.alloc ?_ _ | refine Ext.drew ?_ | refine Ext.setCell ?_ (by first | (simp; done) | (dsimp only; omega)) _ | refine Ext.trans ?_ (by assumption))) hb)).2).mono ?_; rintro e w2 ⟨rfl, F2, q1, q2, q3⟩))
      refine ⟨rfl, .tuple #[], (by simp [results, Try.results110, go_sem]), ?_⟩
      exact EndT.of H.out (Ext.trans (by repeat (first | exact Ext.refl _ | assumption | refine Ext.alloc ?_ _ | refine Ext.drew ?_ | refine Ext.setCell ?_ (by first | (simp; done) | (dsimp only; omega)) _ | refine Ext.trans ?_ (by assumption))) hb) q1 q2 q3 (Ext.refl _)
end Go.Proofs.Ytakkjpdolkokfaa
/- Translations: DropPage. -/
namespace Go.Proofs.Ytakkjpdolkokfaa
set_option linter.unusedVariables false
set_option linter.unusedSimpArgs false
open Go.RowKit
attribute [local go_sem] wext_cell wext_frozen wext_heap alloc_cell alloc_frozen alloc_heap setCell_cell objCell_cells objFrozen_cells

def LOk (L : List (Key × Line)) : Prop := ∀ y ∈ L, y.2.ok
theorem getLine_ok {k : Key} {L : List (Key × Line)} (h : LOk L) : (getLine k L).ok := by
  unfold getLine
  cases hl : look k L 0 with
  | none => exact ⟨by simp [noLine], by simp [noLine]⟩
  | some y =>
    obtain ⟨i, y⟩ := y
    exact h _ (List.mem_of_getElem? (look_some hl).2.1)
def dropPageL (p a : Int) (r : Nat) (L : List (Key × Line)) : List (Key × Line) :=
  let L2 := delL (kT p 3 a) (delL (kT p 2 a) L)
  if hasK (kT p 1 a) L2 = true then (if (outL (getLine (kT p 1 a) L2) (placeI a)).m = 0 then delL (kT p 1 a) L2 else putC (kT p 1 a) (outL (getLine (kT p 1 a) L2) (placeI a)) 0 r L2) else L2
theorem delL_sub {k : Key} {L : List (Key × Line)} : (delL k L).Sublist L := by
  unfold delL
  split
  · exact List.eraseIdx_sublist ..
  · exact List.Sublist.refl _
theorem LOk.sub {L L' : List (Key × Line)} (h : LOk L) (hs : L'.Sublist L) : LOk L' := fun y hy => h y (hs.subset hy)
theorem LOk.put {L : List (Key × Line)} {k : Key} {x : Line} {pick : Int} {r : Nat} (h : LOk L) (hx : x.ok) : LOk (putC k x pick r L) := by
  unfold putC
  split
  · exact h
  · split
    · unfold putL
      split
      · intro y hy
        rcases List.mem_or_eq_of_mem_set hy with hy | rfl
        · exact h y hy
        · exact hx
      · intro y hy
        rcases List.mem_append.1 hy with hy | hy
        · exact h y hy
        · obtain rfl : y = (k, x) := by simpa using hy
          exact hx
    · intro y hy
      rcases List.mem_append.1 hy with hy | hy
      · split at hy
        · exact h y hy
        · exact h y (evictL_sub.subset hy)
      · obtain rfl : y = (k, x) := by simpa using hy
        exact hx

theorem EndT.fin {w W : World} {tb cb : Nat} {F F5 : List Nat} {L L' : List (Key × Line)} {r : Nat} (h : TAt w tb cb F L r) (k : Keeps F w W) (c : CAt W cb F5 L' r) (f : ∀ x ∈ F5, x ∈ F ∨ w.heap.size ≤ x) :
    EndT tb cb F w L' r (.returned (.tuple #[])) W :=
  ⟨rfl, F5, ⟨(k.block tb (heap_lt h.1) h.out).trans h.1, c⟩, k, f⟩

end Go.Proofs.Ytakkjpdolkokfaa
