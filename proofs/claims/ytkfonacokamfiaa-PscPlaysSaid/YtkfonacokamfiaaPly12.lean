/- Joined texts, part 12 of what the law stands on: each as its own head says. -/
import Derived.Test.YtkfonacokamfiaaPly8
import Derived.Test.YtkfonacokamfiaaPly11
import Derived.Test.YtkfonacokamfiaaPly2
import Derived.DeepKeys3
import Derived.ChangeMaps5
/- Caches of tables: what one is in memory; a level's cache, a level's key; New, Len, Evict. -/
namespace Go.Proofs.Ytkfonacokamfiaa
set_option linter.unusedVariables false
set_option linter.unusedSimpArgs false
open Go.RowKit
attribute [local go_sem] wext_cell wext_frozen wext_heap alloc_cell alloc_frozen alloc_heap setCell_cell objCell_cells objFrozen_cells

/-- The place of an address among the tables of a level. -/
def tagP (a l : Int) : Int := if l = 2 then a / 2097152 % 134217728 else if l = 3 then a / 1073741824 % 262144 else a / 549755813888 % 512
def kP (p l a : Int) : Key := ⟨p, l, tagP a l⟩
theorem pscKey_c (p l a : Int) (w : World) (hl : l = 2 ∨ l = 3 ∨ l = 4) (h0 : 0 ≤ a) (h1 : a ≤ 18446744073709551615) : Calls Try.prog 30 #[.int .i64 p, .int .i64 l, .int .u64 a] w fun e w' => e = .returned (kP p l a).val ∧ Ext w w' := by
  have e2 : IntKind.u64.wrap (a * 65536) / 137438953472 = tagP a 2 := by rw [IntKind.wrap_u64]; unfold tagP; simp only [reduceIte]; omega
  have e3 : IntKind.u64.wrap (a * 65536) / 70368744177664 = tagP a 3 := by rw [IntKind.wrap_u64]; unfold tagP; simp only [Int.reduceEq, reduceIte]; omega
  have e4 : IntKind.u64.wrap (a * 65536) / 36028797018963968 = tagP a 4 := by rw [IntKind.wrap_u64]; unfold tagP; simp only [Int.reduceEq, reduceIte]; omega
  unfold kP Key.val
  rcases hl with rfl | rfl | rfl
  · go_enter Try.func30, Try.ntmps30
    go_wp2
    refine bodyPost_ret (by simp [results, Try.results30, go_sem, ↓IntWalk.iteOmega, *]; try rfl) rfl ⟨by rw [← e2], (by repeat (first | exact Ext.refl _ | assumption | refine Ext.alloc ?_ _ | refine Ext.drew ?_ | refine Ext.setCell ?_ (by first | (simp; done) | (dsimp only; omega)) _ | refine Ext.trans ?_ (by assumption)))⟩
  · go_enter Try.func30, Try.ntmps30
    go_wp2
    refine bodyPost_ret (by simp [results, Try.results30, go_sem, ↓IntWalk.iteOmega, *]; try rfl) rfl ⟨by rw [← e3], (by repeat (first | exact Ext.refl _ | assumption | refine Ext.alloc ?_ _ | refine Ext.drew ?_ | refine Ext.setCell ?_ (by first | (simp; done) | (dsimp only; omega)) _ | refine Ext.trans ?_ (by assumption)))⟩
  · go_enter Try.func30, Try.ntmps30
    go_wp2
    refine bodyPost_ret (by simp [results, Try.results30, go_sem, ↓IntWalk.iteOmega, *]; try rfl) rfl ⟨by rw [← e4], (by repeat (first | exact Ext.refl _ | assumption | refine Ext.alloc ?_ _ | refine Ext.drew ?_ | refine Ext.setCell ?_ (by first | (simp; done) | (dsimp only; omega)) _ | refine Ext.trans ?_ (by assumption)))⟩

abbrev Lines := List (Key × Line)
/-- All blocks of the three caches. -/
def allF (F : Int → List Nat) : List Nat := F 4 ++ F 3 ++ F 2
theorem mem_allF {F : Int → List Nat} {x : Nat} : x ∈ allF F ↔ ∃ l, 2 ≤ l ∧ l ≤ 4 ∧ x ∈ F l := by
  unfold allF
  simp only [List.mem_append]
  constructor
  · rintro ((h | h) | h)
    · exact ⟨4, by omega, by omega, h⟩
    · exact ⟨3, by omega, by omega, h⟩
    · exact ⟨2, by omega, by omega, h⟩
  · rintro ⟨l, h0, h1, h⟩
    obtain rfl | rfl | rfl : l = 2 ∨ l = 3 ∨ l = 4 := by omega
    · exact .inr h
    · exact .inl (.inr h)
    · exact .inl (.inl h)
def upd {α : Type} (C : Int → α) (l : Int) (x : α) : Int → α := fun j => if j = l then x else C j
theorem upd_same {α : Type} (C : Int → α) (l : Int) (x : α) : upd C l x l = x := by simp [upd]
theorem upd_other {α : Type} (C : Int → α) {l j : Int} (x : α) (h : j ≠ l) : upd C l x j = C j := by simp [upd, h]
/-- Caches of tables: each level's cache, its blocks, its lines. -/
structure PscAt (w : World) (pb : Nat) (cb : Int → Nat) (F : Int → List Nat) (C : Int → Lines) (r : Nat) : Prop where
  head : w.heap[pb]? = some (.cells #[.pointer (some ⟨cb 4, 0, none⟩), .pointer (some ⟨cb 3, 0, none⟩), .pointer (some ⟨cb 2, 0, none⟩)] 67 (0, 0))
  cache : ∀ l, 2 ≤ l → l ≤ 4 → CAt w (cb l) (F l) (C l) r
  apart : ∀ l j, 2 ≤ l → l ≤ 4 → 2 ≤ j → j ≤ 4 → l ≠ j → ∀ x ∈ F l, x ∉ F j
section
variable {w w' : World} {pb : Nat} {cb : Int → Nat} {F : Int → List Nat} {C C' : Int → Lines} {r : Nat}
theorem PscAt.ext (h : PscAt w pb cb F C r) (k : Ext w w') : PscAt w' pb cb F C r := ⟨(k.block _ (heap_lt h.head)).trans h.head, fun l h0 h1 => (h.cache l h0 h1).ext k, h.apart⟩
theorem PscAt.lt (h : PscAt w pb cb F C r) : ∀ x ∈ allF F, x < w.heap.size := fun x hx => by
  obtain ⟨l, h0, h1, hx⟩ := mem_allF.1 hx
  exact (h.cache l h0 h1).lt x hx
theorem PscAt.out (h : PscAt w pb cb F C r) {b : Nat} {c : Array Value} {e : TypeId} (hb : w.heap[b]? = some (.cells c e (0, 0))) (h1 : e ≠ 117) (h2 : e ≠ 87) : b ∉ allF F := fun hx => by
  obtain ⟨l, l0, l1, hx⟩ := mem_allF.1 hx
  exact (h.cache l l0 l1).apart hb h1 h2 hx
theorem PscAt.keeps (h : PscAt w pb cb F C r) {G : List Nat} (k : Keeps G w w') (hd : ∀ x ∈ allF F, x ∉ G) (hp : pb ∉ G) : PscAt w' pb cb F C r :=
  ⟨(k.block _ (heap_lt h.head) hp).trans h.head, fun l h0 h1 => (h.cache l h0 h1).keeps k fun x hx => hd x (mem_allF.2 ⟨l, h0, h1, hx⟩), h.apart⟩
theorem PscAt.room (h : PscAt w pb cb F C r) {l : Int} (h0 : 2 ≤ l) (h1 : l ≤ 4) : (C l).length ≤ r ∧ r ≤ 64 := (h.cache l h0 h1).room
theorem PscAt.nodup (h : PscAt w pb cb F C r) {l : Int} (h0 : 2 ≤ l) (h1 : l ≤ 4) : (keysOf (C l)).Nodup := (h.cache l h0 h1).nodup
theorem PscAt.congr (h : PscAt w pb cb F C r) (hc : ∀ l, 2 ≤ l → l ≤ 4 → C l = C' l) : PscAt w pb cb F C' r := ⟨h.head, fun l h0 h1 => hc l h0 h1 ▸ h.cache l h0 h1, h.apart⟩

/-- What an operation leaves. -/
def EndP (pb : Nat) (cb : Int → Nat) (F : Int → List Nat) (C' : Int → Lines) (r : Nat) (w : World) (e : Ending) (w' : World) : Prop :=
  e = .returned (.tuple #[]) ∧ ∃ F', PscAt w' pb cb F' C' r ∧ Keeps (allF F) w w' ∧ ∀ x ∈ allF F', x ∈ allF F ∨ w.heap.size ≤ x
theorem EndP.none (h : PscAt w pb cb F C r) (k : Ext w w') : EndP pb cb F C r w (.returned (.tuple #[])) w' := ⟨rfl, F, h.ext k, Keeps.of_ext k, fun _ hx => .inl hx⟩
/-- One cache's operation, among the three. -/
theorem PscAt.op (h : PscAt w pb cb F C r) {l : Int} (h0 : 2 ≤ l) (h1 : l ≤ 4) {F1 : List Nat} {L' : Lines} (c : CAt w' (cb l) F1 L' r) (k : Keeps (F l) w w') (f : ∀ x ∈ F1, x ∈ F l ∨ w.heap.size ≤ x) :
    PscAt w' pb cb (upd F l F1) (upd C l L') r ∧ Keeps (allF F) w w' ∧ ∀ x ∈ allF (upd F l F1), x ∈ allF F ∨ w.heap.size ≤ x := by
  have hlt := h.lt
  refine ⟨⟨(k.block _ (heap_lt h.head) ((h.cache l h0 h1).apart h.head (by decide) (by decide))).trans h.head, fun j j0 j1 => ?_, fun i j i0 i1 j0 j1 hij x hx => ?_⟩, k.mono fun x hx => .inl (mem_allF.2 ⟨l, h0, h1, hx⟩), fun x hx => ?_⟩
  · by_cases hj : j = l
    · subst hj; rw [upd_same, upd_same]; exact c
    · rw [upd_other _ _ hj, upd_other _ _ hj]
      exact (h.cache j j0 j1).keeps k (h.apart j l j0 j1 h0 h1 hj)
  · by_cases hi : i = l
    · subst hi
      rw [upd_same] at hx
      rw [upd_other _ _ (Ne.symm hij)]
      rcases f x hx with q | q
      · exact h.apart i j i0 i1 j0 j1 hij x q
      · intro hm
        have := hlt x (mem_allF.2 ⟨j, j0, j1, hm⟩)
        omega
    · rw [upd_other _ _ hi] at hx
      by_cases hj : j = l
      · subst hj
        rw [upd_same]
        intro hm
        rcases f x hm with q | q
        · exact h.apart i j i0 i1 j0 j1 hij x hx q
        · have := hlt x (mem_allF.2 ⟨i, i0, i1, hx⟩)
          omega
      · rw [upd_other _ _ hj]
        exact h.apart i j i0 i1 j0 j1 hij x hx
  · obtain ⟨j, j0, j1, hx⟩ := mem_allF.1 hx
    by_cases hj : j = l
    · subst hj
      rw [upd_same] at hx
      exact (f x hx).imp (fun q => mem_allF.2 ⟨j, j0, j1, q⟩) id
    · rw [upd_other _ _ hj] at hx
      exact .inl (mem_allF.2 ⟨j, j0, j1, hx⟩)
/-- The state of a loop over the levels: what came of the caches so far. -/
def PscTo (pb : Nat) (cb : Int → Nat) (F : Int → List Nat) (C' : Int → Lines) (r : Nat) (w w' : World) : Prop := ∃ F', PscAt w' pb cb F' C' r ∧ Keeps (allF F) w w' ∧ ∀ x ∈ allF F', x ∈ allF F ∨ w.heap.size ≤ x
theorem PscTo.refl (h : PscAt w pb cb F C r) : PscTo pb cb F C r w w := ⟨F, h, Keeps.refl _ _, fun _ hx => .inl hx⟩
theorem PscTo.ext {w2 : World} (h : PscTo pb cb F C' r w w') (k : Ext w' w2) : PscTo pb cb F C' r w w2 := by
  obtain ⟨F', h1, h2, h3⟩ := h
  exact ⟨F', h1.ext k, h2.ext k, h3⟩
theorem PscTo.at (h : PscTo pb cb F C' r w w') : ∃ F', PscAt w' pb cb F' C' r := by
  obtain ⟨F', h1, -⟩ := h; exact ⟨F', h1⟩
theorem PscTo.trans {C2 : Int → Lines} {w2 : World} {F' : Int → List Nat} (h : PscAt w' pb cb F' C' r ∧ Keeps (allF F) w w' ∧ ∀ x ∈ allF F', x ∈ allF F ∨ w.heap.size ≤ x) (k : PscTo pb cb F' C2 r w' w2) : PscTo pb cb F C2 r w w2 := by
  obtain ⟨F2, k1, k2, k3⟩ := k
  exact ⟨F2, k1, h.2.1.trans k2 h.2.2, fun x hx => (k3 x hx).elim (h.2.2 x) fun q => .inr (Nat.le_trans h.2.1.size q)⟩
theorem PscTo.congr {C2 : Int → Lines} (h : PscTo pb cb F C' r w w') (hc : ∀ l, 2 ≤ l → l ≤ 4 → C' l = C2 l) : PscTo pb cb F C2 r w w' := by
  obtain ⟨F', h1, h2⟩ := h; exact ⟨F', h1.congr hc, h2⟩
end

theorem of_c (pb : Nat) (cb : Int → Nat) (F : Int → List Nat) (C : Int → Lines) (r : Nat) (l : Int) (w : World) (h : PscAt w pb cb F C r) (hl : l = 2 ∨ l = 3 ∨ l = 4) :
    Calls Try.prog 28 #[.pointer (some ⟨pb, 0, none⟩), .int .i64 l] w fun e w' => e = .returned (.pointer (some ⟨cb l, 0, none⟩)) ∧ Ext w w' := by
  have c0 := (heap_cell h.head 0).trans rfl
  have c1 := (heap_cell h.head 1).trans rfl
  have c2 := (heap_cell h.head 2).trans rfl
  have hl0 := heap_lt h.head
  clear h
  rcases hl with rfl | rfl | rfl
  all_goals
    go_enter Try.func28, Try.ntmps28
    go_wp2
    all_goals
      go_ret
      exact ⟨rfl, (by repeat (first | exact Ext.refl _ | assumption | refine Ext.alloc ?_ _ | refine Ext.drew ?_ | refine Ext.setCell ?_ (by first | (simp; done) | (dsimp only; omega)) _ | refine Ext.trans ?_ (by assumption)))⟩
theorem ofNo_c (p : Option Addr) (l : Int) (w : World) (h : p = none ∨ l < 2 ∨ 4 < l) :
    Calls Try.prog 28 #[.pointer p, .int .i64 l] w fun e w' => e = .returned (.pointer none) ∧ Ext w w' := by
  have : p = none ∨ (p.isNone = false ∧ l < 2) ∨ (p.isNone = false ∧ ¬ l < 2 ∧ 4 < l) := by
    cases p with
    | none => exact .inl rfl
    | some x => simp at h ⊢; omega
  rcases this with rfl | ⟨h1, h2⟩ | ⟨h1, h2, h3⟩
  all_goals
    go_enter Try.func28, Try.ntmps28
    go_wp2
    all_goals
      go_ret
      exact ⟨rfl, (by repeat (first | exact Ext.refl _ | assumption | refine Ext.alloc ?_ _ | refine Ext.drew ?_ | refine Ext.setCell ?_ (by first | (simp; done) | (dsimp only; omega)) _ | refine Ext.trans ?_ (by assumption)))⟩

theorem pscLen_c (pb : Nat) (cb : Int → Nat) (F : Int → List Nat) (C : Int → Lines) (r : Nat) (l : Int) (w : World) (h : PscAt w pb cb F C r) (hl : l = 2 ∨ l = 3 ∨ l = 4) :
    Calls Try.prog 11 #[.pointer (some ⟨pb, 0, none⟩), .int .i64 l] w fun e w' => e = .returned (.int .i64 (C l).length) ∧ Ext w w' := by
  have H := Lib.hid h
  have HO := Lib.hid (fun w h => of_c pb cb F C r l w h hl)
  have HK := Lib.hid (fun w (h : PscAt w pb cb F C r) => keys_c (cb l) (F l) (C l) r w (h.cache l (by omega) (by omega)))
  have k4 := keysOf_length (C l)
  generalize C l = L at HK k4
  clear h hl
  go_enter Try.func11, Try.ntmps11
  go_wp2_with (first | (go_at_call 28; refine (HO.out _ (H.out.ext (by repeat (first | exact Ext.refl _ | assumption | refine Ext.alloc ?_ _ | refine Ext.drew ?_ | refine Ext.setCell ?_ (by first | (simp; done) | (dsimp only; omega)) _ | refine Ext.trans ?_ (by assumption))))).mono ?_; rintro e w1 ⟨rfl, hb1⟩) | (go_at_call 33; refine (HK.out _ (H.out.ext (by repeat (first | exact Ext.refl _ | assumption | refine Ext.alloc ?_ _ | refine Ext.drew ?_ | refine Ext.setCell ?_ (by first | (simp; done) | (dsimp only; omega)) _ | refine Ext.trans ?_ (by assumption))))).mono ?_; rintro e w2 ⟨v2, rfl, hv2, hE2, -⟩; obtain ⟨a2, c2, rfl, -, -⟩ := hv2.form; clear hv2))
  go_ret
  exact ⟨by rw [← k4]; rfl, (by repeat (first | exact Ext.refl _ | assumption | refine Ext.alloc ?_ _ | refine Ext.drew ?_ | refine Ext.setCell ?_ (by first | (simp; done) | (dsimp only; omega)) _ | refine Ext.trans ?_ (by assumption)))⟩
theorem pscLenNo_c (p : Option Addr) (l : Int) (w : World) (h : p = none ∨ l < 2 ∨ 4 < l) :
    Calls Try.prog 11 #[.pointer p, .int .i64 l] w fun e w' => e = .returned (.int .i64 0) ∧ Ext w w' := by
  have HO := Lib.hid (fun w => ofNo_c p l w h)
  clear h
  go_enter Try.func11, Try.ntmps11
  go_wp2_with (first | (go_at_call 28; refine (HO.out _).mono ?_; rintro e w1 ⟨rfl, hb1⟩) | (go_at_call 33; refine (nil_keys _).mono ?_; rintro e w2 ⟨rfl, hb2⟩))
  go_ret
  exact ⟨rfl, (by repeat (first | exact Ext.refl _ | assumption | refine Ext.alloc ?_ _ | refine Ext.drew ?_ | refine Ext.setCell ?_ (by first | (simp; done) | (dsimp only; omega)) _ | refine Ext.trans ?_ (by assumption)))⟩
theorem pscEvict_c (pb : Nat) (cb : Int → Nat) (F : Int → List Nat) (C : Int → Lines) (r : Nat) (l pick : Int) (w : World) (h : PscAt w pb cb F C r) (hl : l = 2 ∨ l = 3 ∨ l = 4) (hp0 : -9223372036854775808 ≤ pick) (hp1 : pick ≤ 9223372036854775807) :
    Calls Try.prog 26 #[.pointer (some ⟨pb, 0, none⟩), .int .i64 l, .int .i64 pick] w (EndP pb cb F (upd C l (evictL pick (C l))) r w) := by
  have H := Lib.hid h
  have HO := Lib.hid (fun w h => of_c pb cb F C r l w h hl)
  have HK := Lib.hid (fun w (h : PscAt w pb cb F C r) => evict_c (cb l) (F l) (C l) r pick w (h.cache l (by omega) (by omega)) hp0 hp1)
  have l0 : 2 ≤ l := by omega
  have l1 : l ≤ 4 := by omega
  clear h hl
  go_enter Try.func26, Try.ntmps26
  go_wp2_with (first | (go_at_call 28; refine (HO.out _ (H.out.ext (by repeat (first | exact Ext.refl _ | assumption | refine Ext.alloc ?_ _ | refine Ext.drew ?_ | refine Ext.setCell ?_ (by first | (simp; done) | (dsimp only; omega)) _ | refine Ext.trans ?_ (by assumption))))).mono ?_; rintro e w1 ⟨rfl, hb1⟩) | (go_at_call 57; refine (HK.out _ (H.out.ext (by repeat (first | exact Ext.refl _ | assumption | refine Ext.alloc ?_ _ | refine Ext.drew ?_ | refine Ext.setCell ?_ (by first | (simp; done) | (dsimp only; omega)) _ | refine Ext.trans ?_ (by assumption))))).mono ?_; rintro e w2 ⟨rfl, F2, q1, q2, q3⟩))
  refine ⟨rfl, .tuple #[], (by simp [results, Try.results26, go_sem]), ?_⟩
  have K := PscTo.trans ⟨H.out.ext hb1, Keeps.of_ext hb1, fun _ hx => .inl hx⟩ ⟨_, PscAt.op (H.out.ext hb1) l0 l1 q1 q2 q3⟩
  exact ⟨rfl, K⟩
theorem pscEvictNo_c (p : Option Addr) (l pick : Int) (w : World) (h : p = none ∨ l < 2 ∨ 4 < l) :
    Calls Try.prog 26 #[.pointer p, .int .i64 l, .int .i64 pick] w fun e w' => e = .returned (.tuple #[]) ∧ Ext w w' := by
  have HO := Lib.hid (fun w => ofNo_c p l w h)
  clear h
  go_enter Try.func26, Try.ntmps26
  go_wp2_with (first | (go_at_call 28; refine (HO.out _).mono ?_; rintro e w1 ⟨rfl, hb1⟩) | (go_at_call 57; refine (nil_evict _ _).mono ?_; rintro e w2 ⟨rfl, hb2⟩))
  refine ⟨rfl, .tuple #[], (by simp [results, Try.results26, go_sem]), ?_⟩
  exact ⟨rfl, (by repeat (first | exact Ext.refl _ | assumption | refine Ext.alloc ?_ _ | refine Ext.drew ?_ | refine Ext.setCell ?_ (by first | (simp; done) | (dsimp only; omega)) _ | refine Ext.trans ?_ (by assumption)))⟩
end Go.Proofs.Ytkfonacokamfiaa
/- Memories: maps from pages' numbers to pages; what a memory is; may, aligned, at, Bits, Peek, New. -/
namespace Go.Proofs.Ytkfonacokamfiaa
set_option linter.unusedVariables false
set_option linter.unusedSimpArgs false
open Go.RowKit
attribute [local go_sem] wext_cell wext_frozen wext_heap alloc_cell alloc_frozen alloc_heap setCell_cell objCell_cells objFrozen_cells

/-- The entries of a map of pages, in turn. -/
def EntP (es : Array MapEntry) (clock : Nat) (PL : List (Int × Nat)) : Prop := ((∀ e ∈ es.toList, e.born < clock) ∧ (es.toList.map (·.born)).Nodup) ∧ es.toList.map (fun e => (e.key, e.val)) = PL.map fun x => (.int .u64 x.1, .pointer (some ⟨x.2, 0, none⟩))
def findI (n : Int) : List (Int × Nat) → Nat → Option (Nat × Nat)
  | [], _ => none
  | x :: L, i => if n = x.1 then some (i, x.2) else findI n L (i + 1)
def findP (n : Int) (PL : List (Int × Nat)) : Option Nat := (findI n PL 0).map (·.2)
theorem findNowP (n : Int) : ∀ (l : List MapEntry) (PL : List (Int × Nat)) (i : Nat), l.map (fun e => (e.key, e.val)) = PL.map (fun x => (Value.int .u64 x.1, Value.pointer (some ⟨x.2, 0, none⟩))) →
    Instr.findNow (.int .u64) (.int .u64 n) l i = some ((findI n PL i).map fun x => (x.1, .pointer (some ⟨x.2, 0, none⟩)))
  | [], [], i, _ => rfl
  | [], x :: L, i, h => by cases h
  | e :: l, [], i, h => by cases h
  | e :: l, x :: L, i, h => by
    simp only [List.map_cons, List.cons.injEq, Prod.mk.injEq] at h
    unfold Instr.findNow findI
    rw [h.1.1]
    simp only [Instr.sameNow, if_true]
    by_cases hk : n = x.1
    · simp [hk, h.1.2]
    · have : (n == x.1) = false := by simpa using hk
      rw [this, if_neg hk]
      exact findNowP n l L (i + 1) h.2
theorem findKeyP (n : Int) (w : World) (es : Array MapEntry) (clock : Nat) (PL : List (Int × Nat)) (h : EntP es clock PL) :
    (Instr.findKey 34 (.int .u64 n) es.toList).run Try.prog w = .ok ((findI n PL 0).map fun x => (x.1, .pointer (some ⟨x.2, 0, none⟩))) w := by
  unfold Instr.findKey
  rw [Sem.run_bind, run_underlying Try.underlying34]
  simp only [Result.andThen_ok, findNowP n es.toList PL 0 h.2]
  rfl
theorem checkP_at (e : Bool) (n : Int) (w : World) (d : Nat) : (Instr.checkKey e (d + 1) 34 (.int .u64 n)).run Try.prog w = .ok () w := by
  simp [Instr.checkKey, go_sem]
theorem checkP (e : Bool) (n : Int) (w : World) : (Instr.checkKey e 10000 34 (.int .u64 n)).run Try.prog w = .ok () w := checkP_at e n w 9999
theorem lookupP_run (n : Int) (w : World) (pb : Nat) (es : Array MapEntry) (clock : Nat) (PL : List (Int × Nat)) (hb : w.heap[pb]? = some (.map es clock)) (h : EntP es clock PL) :
    (Instr.lookup 130 (.map (some pb)) (.int .u64 n) false).run Try.prog w = .ok (match findP n PL with | some g => .pointer (some ⟨g, 0, none⟩) | none => .pointer none) w := by
  unfold Instr.lookup
  rw [Sem.run_bind, run_underlying Try.underlying130]
  simp only [Result.andThen_ok, Sem.run_bind, getObj_at hb, Sem.run_pure, checkP, findKeyP n w es clock PL h]
  unfold findP
  cases hl : findI n PL 0 with
  | none => simp [go_sem]
  | some x => simp
theorem updateP_run (n : Int) (g : Nat) (w : World) (pb : Nat) (es : Array MapEntry) (clock : Nat) (PL : List (Int × Nat)) (hb : w.heap[pb]? = some (.map es clock)) (h : EntP es clock PL) (hn : findP n PL = none) :
    ∃ es' c', (Instr.mapUpdate 130 (.map (some pb)) (.int .u64 n) (.pointer (some ⟨g, 0, none⟩))).run Try.prog w = .ok () (putBlk w pb (.map es' c')) ∧ EntP es' c' (PL ++ [(n, g)]) := by
  unfold Instr.mapUpdate
  rw [Sem.run_bind, run_underlying Try.underlying130]
  simp only [Result.andThen_ok, Sem.run_bind, getObj_at hb, Sem.run_pure, checkP, findKeyP n w es clock PL h]
  unfold findP at hn
  cases hl : findI n PL 0 with
  | some x => rw [hl] at hn; cases hn
  | none =>
    refine ⟨_, _, setObj_at _ hb, ?_⟩
    obtain ⟨⟨h1, h2⟩, h3⟩ := h
    refine ⟨⟨fun e he => ?_, ?_⟩, by simp [h3]⟩
    · simp only [Array.toList_push, List.mem_append, List.mem_singleton] at he
      rcases he with he | rfl
      · have := h1 e he; omega
      · exact Nat.lt_succ_self _
    · simp only [Array.toList_push, List.map_append, List.map_cons, List.map_nil]
      rw [List.nodup_append]
      refine ⟨h2, by simp, fun a ha b hb => ?_⟩
      obtain ⟨e, he, rfl⟩ := List.mem_map.1 ha
      simp only [List.mem_singleton] at hb
      have := h1 e he
      omega

def PageAt (w : World) (g : Nat) (n : Int) (M : Int → Int) : Prop := ∃ c, w.heap[g]? = some (.cells c 144 (0, 0)) ∧ c.size = 512 ∧ ∀ i : Nat, i < 512 → c[i]? = some (.int .u64 (M (n * 512 + i)))
/-- A memory of so many bits, its blocks, its words by the slots' numbers, its trace. -/
def MemAt (w : World) (mb : Nat) (F : List Nat) (B : Int) (M : Int → Int) (T : List Int) : Prop :=
  ∃ pb tv es clock PL, w.heap[mb]? = some (.cells #[.int .i64 B, .map (some pb), tv] 133 (0, 0)) ∧ w.heap[pb]? = some (.map es clock) ∧ EntP es clock PL ∧ (PL.map (·.1)).Nodup ∧ (PL.map (·.2)).Nodup ∧
    (∀ x ∈ PL, PageAt w x.2 x.1 M) ∧ (∀ s, findP (s / 512) PL = none → M s = 0) ∧ (∀ s, 0 ≤ M s ∧ M s ≤ 18446744073709551615) ∧
    Owns w 34 1 tv T.length (T.map (.int .u64 ·)) ∧ F = mb :: pb :: (tv.ownBlock.toList ++ PL.map (·.2)) ∧ (14 ≤ B ∧ B ≤ 22)
theorem MemAt.lt {w : World} {mb : Nat} {F : List Nat} {B : Int} {M : Int → Int} {T : List Int} (h : MemAt w mb F B M T) : ∀ x ∈ F, x < w.heap.size := by
  obtain ⟨pb, tv, es, clock, PL, h1, h2, h3, h4, h5, h6, h7, h8, h9, rfl, h10⟩ := h
  intro x hx
  simp only [List.mem_cons, List.mem_append, Option.mem_toList, List.mem_map] at hx
  rcases hx with rfl | rfl | hx | ⟨y, hy, rfl⟩
  · exact heap_lt h1
  · exact heap_lt h2
  · exact h9.lt x hx
  · obtain ⟨c, hc, _⟩ := h6 y hy; exact heap_lt hc
theorem MemAt.keeps {w w' : World} {mb : Nat} {F G : List Nat} {B : Int} {M : Int → Int} {T : List Int} (h : MemAt w mb F B M T) (k : Keeps G w w') (hd : ∀ x ∈ F, x ∉ G) : MemAt w' mb F B M T := by
  have hlt := h.lt
  have hk : ∀ b ∈ F, w'.heap[b]? = w.heap[b]? := fun b hb => k.block b (hlt b hb) (hd b hb)
  obtain ⟨pb, tv, es, clock, PL, h1, h2, h3, h4, h5, h6, h7, h8, h9, hF, h10⟩ := h
  refine ⟨pb, tv, es, clock, PL, (hk _ (by rw [hF]; simp)).trans h1, (hk _ (by rw [hF]; simp)).trans h2, h3, h4, h5, fun x hx => ?_, h7, h8, h9.keep fun g hg => hk g (by rw [hF]; simp [hg]), hF, h10⟩
  obtain ⟨c, q1, q2, q3⟩ := h6 x hx
  exact ⟨c, (hk _ (by rw [hF]; simp only [List.mem_cons, List.mem_append, List.mem_map]; exact .inr (.inr (.inr ⟨x, hx, rfl⟩)))).trans q1, q2, q3⟩
theorem MemAt.ext {w w' : World} {mb : Nat} {F : List Nat} {B : Int} {M : Int → Int} {T : List Int} (h : MemAt w mb F B M T) (k : Ext w w') : MemAt w' mb F B M T :=
  h.keeps (G := []) (Keeps.of_ext k) (fun _ _ => by simp)

theorem findI_mem {n : Int} : ∀ {L : List (Int × Nat)} {i j g : Nat}, findI n L i = some (j, g) → (n, g) ∈ L
  | [], _, _, _, h => by cases h
  | x :: L, i, j, g, h => by
    unfold findI at h
    split at h
    · rename_i hn
      cases h
      rw [hn]; exact List.mem_cons_self ..
    · exact List.mem_cons_of_mem _ (findI_mem h)
theorem findP_mem {n : Int} {L : List (Int × Nat)} {g : Nat} (h : findP n L = some g) : (n, g) ∈ L := by
  unfold findP at h
  cases hl : findI n L 0 with
  | none => rw [hl] at h; cases h
  | some x => rw [hl] at h; cases h; exact findI_mem hl

set_option maxHeartbeats 1000000 in
set_option maxRecDepth 20000 in
theorem mat_c (mb : Nat) (F : List Nat) (B : Int) (M : Int → Int) (T : List Int) (a : Int) (w : World) (h : MemAt w mb F B M T) (h0 : 0 ≤ a) (h1 : a ≤ 4194303) :
    Calls Try.prog 79 #[.pointer (some ⟨mb, 0, none⟩), .int .u64 a] w fun e w' => e = .returned (.int .u64 (M (a / 8))) ∧ Ext w w' := by
  obtain ⟨pb, tv, es, clock, PL, p1, p2, p3, -, -, p6, p7, -, -, -, -⟩ := h
  have c1 := (heap_cell p1 1).trans rfl
  have hlt := heap_lt p1
  have hlk := lookupP_run (a / 4096) w pb es clock PL p2 p3
  cases hf : findP (a / 4096) PL with
  | none =>
    have hz : M (a / 8) = 0 := p7 (a / 8) (by rw [show a / 8 / 512 = a / 4096 by omega]; exact hf)
    rw [hf] at hlk
    rw [hz]
    dsimp only at hlk
    clear p1 p2 p3 p6 p7
    go_enter Try.func79, Try.ntmps79
    go_wp2
    all_goals
      go_ret
      exact ⟨rfl, (by repeat (first | exact Ext.refl _ | assumption | refine Ext.alloc ?_ _ | refine Ext.drew ?_ | refine Ext.setCell ?_ (by first | (simp; done) | (dsimp only; omega)) _ | refine Ext.trans ?_ (by assumption)))⟩
  | some g =>
    obtain ⟨c, q1, q2, q3⟩ := p6 _ (findP_mem hf)
    rw [hf] at hlk
    dsimp only at hlk q3
    have hcell : w.cell? ⟨g, (a % 4096 / 8).toNat, none⟩ = some (.int .u64 (M (a / 8))) := by
      rw [heap_cell q1, q3 _ (by omega)]
      congr 3; omega
    have hgl := heap_lt q1
    clear p1 p2 p3 p6 p7 q1 q2 q3
    go_enter Try.func79, Try.ntmps79
    go_wp2
    all_goals
      go_ret
      exact ⟨rfl, (by repeat (first | exact Ext.refl _ | assumption | refine Ext.alloc ?_ _ | refine Ext.drew ?_ | refine Ext.setCell ?_ (by first | (simp; done) | (dsimp only; omega)) _ | refine Ext.trans ?_ (by assumption)))⟩
end Go.Proofs.Ytkfonacokamfiaa
/- Memories: may, aligned, Bits, Peek. -/
namespace Go.Proofs.Ytkfonacokamfiaa
set_option linter.unusedVariables false
set_option linter.unusedSimpArgs false
open Go.RowKit
attribute [local go_sem] wext_cell wext_frozen wext_heap alloc_cell alloc_frozen alloc_heap setCell_cell objCell_cells objFrozen_cells

def limB (B : Int) : Int := if B = 14 then 16384 else if B = 15 then 32768 else if B = 16 then 65536 else if B = 17 then 131072 else if B = 18 then 262144 else if B = 19 then 524288 else if B = 20 then 1048576 else if B = 21 then 2097152 else 4194304
theorem limB_le (B : Int) : limB B ≤ 4194304 := by unfold limB; repeat (split; omega); omega
def errM (B a : Int) : Int := if a < limB B then (if a % 8 = 0 then 0 else 3) else 2
theorem B_cases {B : Int} (h : 14 ≤ B ∧ B ≤ 22) : B = 14 ∨ B = 15 ∨ B = 16 ∨ B = 17 ∨ B = 18 ∨ B = 19 ∨ B = 20 ∨ B = 21 ∨ B = 22 := by omega

theorem MemAt.head {w : World} {mb : Nat} {F : List Nat} {B : Int} {M : Int → Int} {T : List Int} (h : MemAt w mb F B M T) : w.cell? ⟨mb, 0, none⟩ = some (.int .i64 B) ∧ mb < w.heap.size ∧ 14 ≤ B ∧ B ≤ 22 := by
  obtain ⟨pb, tv, es, clock, PL, p1, -, -, -, -, -, -, -, -, -, p⟩ := h
  exact ⟨(heap_cell p1 0).trans rfl, heap_lt p1, p⟩
set_option maxHeartbeats 2000000 in
theorem may_c (mb : Nat) (F : List Nat) (B : Int) (M : Int → Int) (T : List Int) (a : Int) (w : World) (h : MemAt w mb F B M T) (h0 : 0 ≤ a) (h1 : a ≤ 18446744073709551615) :
    Calls Try.prog 75 #[.pointer (some ⟨mb, 0, none⟩), .int .u64 a] w fun e w' => e = .returned (.int .i64 (if a < limB B then 0 else 2)) ∧ Ext w w' := by
  obtain ⟨c0, hlt, hB⟩ := h.head
  clear h
  rcases B_cases hB with rfl | rfl | rfl | rfl | rfl | rfl | rfl | rfl | rfl
  all_goals
    simp only [limB, reduceIte, Int.reduceEq]
    clear hB
    split
    · go_enter Try.func75, Try.ntmps75
      go_wp2
      all_goals
        go_ret
        exact ⟨rfl, (by repeat (first | exact Ext.refl _ | assumption | refine Ext.alloc ?_ _ | refine Ext.drew ?_ | refine Ext.setCell ?_ (by first | (simp; done) | (dsimp only; omega)) _ | refine Ext.trans ?_ (by assumption)))⟩
    · go_enter Try.func75, Try.ntmps75
      go_wp2
      all_goals
        go_ret
        exact ⟨rfl, (by repeat (first | exact Ext.refl _ | assumption | refine Ext.alloc ?_ _ | refine Ext.drew ?_ | refine Ext.setCell ?_ (by first | (simp; done) | (dsimp only; omega)) _ | refine Ext.trans ?_ (by assumption)))⟩
theorem aligned_c (mb : Nat) (F : List Nat) (B : Int) (M : Int → Int) (T : List Int) (a : Int) (w : World) (h : MemAt w mb F B M T) (h0 : 0 ≤ a) (h1 : a ≤ 18446744073709551615) :
    Calls Try.prog 62 #[.pointer (some ⟨mb, 0, none⟩), .int .u64 a] w fun e w' => e = .returned (.int .i64 (errM B a)) ∧ Ext w w' := by
  have hm := fun w' (hx : Ext w w') => may_c mb F B M T a w' (h.ext hx) h0 h1
  clear h
  unfold errM
  by_cases ha : a < limB B
  · rw [if_pos ha]
    simp only [if_pos ha] at hm
    clear ha
    by_cases h8 : a % 8 = 0
    · rw [if_pos h8]
      have h8b : (a % 8 != 0) = false := by simpa using h8
      go_enter Try.func62, Try.ntmps62
      go_wp2_with (first | (go_at_call 75; refine (hm _ (by repeat (first | exact Ext.refl _ | assumption | refine Ext.alloc ?_ _ | refine Ext.drew ?_ | refine Ext.setCell ?_ (by first | (simp; done) | (dsimp only; omega)) _ | refine Ext.trans ?_ (by assumption)))).mono ?_; rintro e w1 ⟨rfl, hb1⟩))
      all_goals
        go_ret
        exact ⟨rfl, (by repeat (first | exact Ext.refl _ | assumption | refine Ext.alloc ?_ _ | refine Ext.drew ?_ | refine Ext.setCell ?_ (by first | (simp; done) | (dsimp only; omega)) _ | refine Ext.trans ?_ (by assumption)))⟩
    · rw [if_neg h8]
      have h8b : (a % 8 != 0) = true := by simpa using h8
      go_enter Try.func62, Try.ntmps62
      go_wp2_with (first | (go_at_call 75; refine (hm _ (by repeat (first | exact Ext.refl _ | assumption | refine Ext.alloc ?_ _ | refine Ext.drew ?_ | refine Ext.setCell ?_ (by first | (simp; done) | (dsimp only; omega)) _ | refine Ext.trans ?_ (by assumption)))).mono ?_; rintro e w1 ⟨rfl, hb1⟩))
      all_goals
        go_ret
        exact ⟨rfl, (by repeat (first | exact Ext.refl _ | assumption | refine Ext.alloc ?_ _ | refine Ext.drew ?_ | refine Ext.setCell ?_ (by first | (simp; done) | (dsimp only; omega)) _ | refine Ext.trans ?_ (by assumption)))⟩
  · rw [if_neg ha]
    simp only [if_neg ha] at hm
    clear ha
    go_enter Try.func62, Try.ntmps62
    go_wp2_with (first | (go_at_call 75; refine (hm _ (by repeat (first | exact Ext.refl _ | assumption | refine Ext.alloc ?_ _ | refine Ext.drew ?_ | refine Ext.setCell ?_ (by first | (simp; done) | (dsimp only; omega)) _ | refine Ext.trans ?_ (by assumption)))).mono ?_; rintro e w1 ⟨rfl, hb1⟩))
    all_goals
      go_ret
      exact ⟨rfl, (by repeat (first | exact Ext.refl _ | assumption | refine Ext.alloc ?_ _ | refine Ext.drew ?_ | refine Ext.setCell ?_ (by first | (simp; done) | (dsimp only; omega)) _ | refine Ext.trans ?_ (by assumption)))⟩
theorem bits_c (mb : Nat) (F : List Nat) (B : Int) (M : Int → Int) (T : List Int) (w : World) (h : MemAt w mb F B M T) :
    Calls Try.prog 45 #[.pointer (some ⟨mb, 0, none⟩)] w fun e w' => e = .returned (.int .i64 B) ∧ Ext w w' := by
  obtain ⟨c0, hlt, hB⟩ := h.head
  clear h
  go_enter Try.func45, Try.ntmps45
  go_wp2
  all_goals
    go_ret
    exact ⟨rfl, (by repeat (first | exact Ext.refl _ | assumption | refine Ext.alloc ?_ _ | refine Ext.drew ?_ | refine Ext.setCell ?_ (by first | (simp; done) | (dsimp only; omega)) _ | refine Ext.trans ?_ (by assumption)))⟩
theorem peek_c (mb : Nat) (F : List Nat) (B : Int) (M : Int → Int) (T : List Int) (a : Int) (w : World) (h : MemAt w mb F B M T) (h0 : 0 ≤ a) (h1 : a ≤ 18446744073709551615) :
    Calls Try.prog 66 #[.pointer (some ⟨mb, 0, none⟩), .int .u64 a] w fun e w' => e = .returned (.tuple #[.int .u64 (if errM B a = 0 then M (a / 8) else 0), .int .i64 (errM B a)]) ∧ Ext w w' := by
  have hal := fun w' (hx : Ext w w') => aligned_c mb F B M T a w' (h.ext hx) h0 h1
  by_cases he : errM B a = 0
  · have ha : a ≤ 4194303 := by
      unfold errM at he
      by_cases hq : a < limB B
      · have := limB_le B; omega
      · rw [if_neg hq] at he; omega
    have hat := fun w' (hx : Ext w w') => mat_c mb F B M T a w' (h.ext hx) h0 ha
    rw [if_pos he, he]
    rw [he] at hal
    generalize M (a / 8) = y at hat
    clear h he ha
    go_enter Try.func66, Try.ntmps66
    go_wp2_with (first | (go_at_call 62; refine (hal _ (by repeat (first | exact Ext.refl _ | assumption | refine Ext.alloc ?_ _ | refine Ext.drew ?_ | refine Ext.setCell ?_ (by first | (simp; done) | (dsimp only; omega)) _ | refine Ext.trans ?_ (by assumption)))).mono ?_; rintro e w1 ⟨rfl, hb1⟩) | (go_at_call 79; refine (hat _ (by repeat (first | exact Ext.refl _ | assumption | refine Ext.alloc ?_ _ | refine Ext.drew ?_ | refine Ext.setCell ?_ (by first | (simp; done) | (dsimp only; omega)) _ | refine Ext.trans ?_ (by assumption)))).mono ?_; rintro e w2 ⟨rfl, hb2⟩))
    all_goals
      go_ret2
      exact ⟨rfl, (by repeat (first | exact Ext.refl _ | assumption | refine Ext.alloc ?_ _ | refine Ext.drew ?_ | refine Ext.setCell ?_ (by first | (simp; done) | (dsimp only; omega)) _ | refine Ext.trans ?_ (by assumption)))⟩
  · rw [if_neg he]
    generalize errM B a = er at hal he
    have heb : (er != 0) = true := by simpa using he
    clear h
    go_enter Try.func66, Try.ntmps66
    go_wp2_with (first | (go_at_call 62; refine (hal _ (by repeat (first | exact Ext.refl _ | assumption | refine Ext.alloc ?_ _ | refine Ext.drew ?_ | refine Ext.setCell ?_ (by first | (simp; done) | (dsimp only; omega)) _ | refine Ext.trans ?_ (by assumption)))).mono ?_; rintro e w1 ⟨rfl, hb1⟩))
    all_goals
      go_ret2
      exact ⟨rfl, (by repeat (first | exact Ext.refl _ | assumption | refine Ext.alloc ?_ _ | refine Ext.drew ?_ | refine Ext.setCell ?_ (by first | (simp; done) | (dsimp only; omega)) _ | refine Ext.trans ?_ (by assumption)))⟩
end Go.Proofs.Ytkfonacokamfiaa
