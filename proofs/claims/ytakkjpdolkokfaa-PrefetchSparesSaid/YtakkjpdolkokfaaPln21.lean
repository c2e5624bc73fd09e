/- Joined texts, part 21 of what the law stands on: each as its own head says. -/
import Derived.Test.YtakkjpdolkokfaaPln19
import Derived.Test.YtakkjpdolkokfaaPln20
import Derived.Test.YtakkjpdolkokfaaPln16
/- Caches, plainly: what is dropped; blocks of another type are none of a cache's. -/
namespace Go.Proofs.Ytakkjpdolkokfaa
set_option linter.unusedVariables false
set_option linter.unusedSimpArgs false
open Go.RowKit
attribute [local go_sem] wext_cell wext_frozen wext_heap alloc_cell alloc_frozen alloc_heap setCell_cell objCell_cells objFrozen_cells
attribute [local go_sem high] refKey_eql

theorem delL_filter {k : Key} {L : List (Key × Line)} (hn : (keysOf L).Nodup) : delL k L = L.filter fun x => x.1 != k := by
  unfold delL
  cases hl : look k L 0 with
  | none => exact (List.filter_eq_self.2 fun x hx => by have := look_none hl x hx; simpa using this).symm
  | some y =>
    obtain ⟨i, y⟩ := y
    obtain ⟨-, h2, h3⟩ := look_some hl
    simp only [Nat.sub_zero] at h2 h3
    have hi := (List.getElem?_eq_some_iff.1 h2)
    have hs : L = L.take i ++ (k, y) :: L.drop (i + 1) := by
      rw [← hi.2, List.getElem_cons_drop, List.take_append_drop]
    show L.eraseIdx i = _
    rw [List.eraseIdx_eq_take_drop_succ]
    conv => rhs; rw [hs]
    rw [List.filter_append, List.filter_cons]
    have e1 : (L.take i).filter (fun x => x.1 != k) = L.take i := List.filter_eq_self.2 fun x hx => by have := List.all_eq_true.1 h3 x hx; simpa using this
    have e2 : (L.drop (i + 1)).filter (fun x => x.1 != k) = L.drop (i + 1) := List.filter_eq_self.2 fun x hx => by
      rw [hs] at hn
      simp only [keysOf, List.map_append, List.map_cons] at hn
      have h4 := (List.nodup_cons.1 (List.nodup_append.1 hn).2.1).1
      have : x.1 ≠ k := fun e => h4 (List.mem_map.2 ⟨x, hx, e⟩)
      simpa using this
    rw [e1, e2]
    simp
theorem nodup_filter {L : List (Key × Line)} (p : Key × Line → Bool) (hn : (keysOf L).Nodup) : (keysOf (L.filter p)).Nodup := hn.sublist (List.filter_sublist.map _)
theorem dropN_filter (pcid : Int) : ∀ (ks : List Key) (L : List (Key × Line)), (keysOf L).Nodup → dropN pcid ks L = L.filter fun x => !(decide (x.1.p = pcid) && decide (x.1 ∈ ks))
  | [], L, _ => (List.filter_eq_self.2 (by simp)).symm
  | k :: ks, L, hn => by
    show dropN pcid ks (if k.p = pcid then delL k L else L) = _
    by_cases hk : k.p = pcid
    · rw [if_pos hk, delL_filter hn, dropN_filter pcid ks _ (nodup_filter _ hn), List.filter_filter]
      apply List.filter_congr
      intro x _
      by_cases h1 : x.1 = k
      · simp [h1, hk]
      · simp [h1]
    · rw [if_neg hk, dropN_filter pcid ks _ hn]
      apply List.filter_congr
      intro x _
      by_cases h1 : x.1 = k
      · simp [h1, hk]
      · simp [h1]
theorem dropN_filtL {pcid : Int} {L : List (Key × Line)} (hn : (keysOf L).Nodup) : dropN pcid (keysOf L) L = filtL pcid L := by
  rw [dropN_filter pcid _ L hn]
  apply List.filter_congr
  intro x hx
  have : x.1 ∈ keysOf L := List.mem_map.2 ⟨x, hx, rfl⟩
  by_cases h : x.1.p = pcid <;> simp [h, this]

theorem CAt.nodup {w : World} {cb : Nat} {F : List Nat} {L : List (Key × Line)} {r : Nat} (h : CAt w cb F L r) : (keysOf L).Nodup := by
  obtain ⟨mb, ov, es, clock, h1, h2, h3, h4, h5, h6, h7, h8⟩ := h; exact h8
theorem CAt.room {w : World} {cb : Nat} {F : List Nat} {L : List (Key × Line)} {r : Nat} (h : CAt w cb F L r) : L.length ≤ r ∧ r ≤ 64 := by
  obtain ⟨mb, ov, es, clock, h1, h2, h3, h4, h5, h6, h7, h8⟩ := h; exact ⟨h6, h7⟩

/-- A block of another type is none of a cache's. -/
theorem CAt.apart {w : World} {cb : Nat} {F : List Nat} {L : List (Key × Line)} {r : Nat} (h : CAt w cb F L r) {b : Nat} {c : Array Value} {e : TypeId} (hb : w.heap[b]? = some (.cells c e (0, 0)))
    (h1 : e ≠ 163) (h2 : e ≠ 121) : b ∉ F := by
  obtain ⟨mb, ov, es, clock, p1, p2, p3, p4, rfl, -⟩ := h
  intro hm
  simp only [List.mem_cons, Option.mem_toList] at hm
  rcases hm with rfl | rfl | hm
  · rw [hb] at p1; simp only [Option.some.injEq, Obj.cells.injEq] at p1; exact h1 p1.2.1
  · rw [hb] at p2; cases p2
  · obtain ⟨c', hc⟩ := p4.heap b hm
    rw [hb] at hc; simp only [Option.some.injEq, Obj.cells.injEq] at hc; exact h2 hc.2.1
theorem RefAt.keeps {w w' : World} {cb : Nat} {F : List Nat} {L L2 : List (Key × Line)} {r : Nat} {v : Value} (h : RefAt w v L2) (hc : CAt w cb F L r) (hk : Keeps F w w') : RefAt w' v L2 :=
  ⟨h.1.keep fun g hg => by
    obtain ⟨c, hcc⟩ := h.1.heap g hg
    exact hk.block g (heap_lt hcc) (hc.apart hcc (by decide) (by decide)), h.2⟩

end Go.Proofs.Ytakkjpdolkokfaa
/- Caches of tables: what one is in memory; a level's cache, a level's key; New, Len, Evict. -/
namespace Go.Proofs.Ytakkjpdolkokfaa
set_option linter.unusedVariables false
set_option linter.unusedSimpArgs false
open Go.RowKit
attribute [local go_sem] wext_cell wext_frozen wext_heap alloc_cell alloc_frozen alloc_heap setCell_cell objCell_cells objFrozen_cells

/-- The place of an address among the tables of a level. -/
def tagP (a l : Int) : Int := if l = 2 then a / 2097152 % 134217728 else if l = 3 then a / 1073741824 % 262144 else a / 549755813888 % 512
def kP (p l a : Int) : Key := ⟨p, l, tagP a l⟩
theorem pscKey_c (p l a : Int) (w : World) (hl : l = 2 ∨ l = 3 ∨ l = 4) (h0 : 0 ≤ a) (h1 : a ≤ 18446744073709551615) : Calls Try.prog 47 #[.int .i64 p, .int .i64 l, .int .u64 a] w fun e w' => e = .returned (kP p l a).val ∧ Ext w w' := by
  have e2 : IntKind.u64.wrap (a * 65536) / 137438953472 = tagP a 2 := by rw [IntKind.wrap_u64]; unfold tagP; simp only [reduceIte]; omega
  have e3 : IntKind.u64.wrap (a * 65536) / 70368744177664 = tagP a 3 := by rw [IntKind.wrap_u64]; unfold tagP; simp only [Int.reduceEq, reduceIte]; omega
  have e4 : IntKind.u64.wrap (a * 65536) / 36028797018963968 = tagP a 4 := by rw [IntKind.wrap_u64]; unfold tagP; simp only [Int.reduceEq, reduceIte]; omega
  unfold kP Key.val
  rcases hl with rfl | rfl | rfl
  · go_enter Try.func47, Try.ntmps47
    go_wp2
    refine bodyPost_ret (by simp [results, Try.results47, go_sem, ↓IntWalk.iteOmega, *]; try rfl) rfl ⟨by rw [← e2], (by repeat (first | exact Ext.refl _ | assumption | refine Ext.alloc ?_ _ | refine Ext.drew ?_ | refine Ext.setCell ?_ (by first | (simp; done) | (dsimp only; omega)) _ | refine Ext.trans ?_ (by assumption)))⟩
  · go_enter Try.func47, Try.ntmps47
    go_wp2
    refine bodyPost_ret (by simp [results, Try.results47, go_sem, ↓IntWalk.iteOmega, *]; try rfl) rfl ⟨by rw [← e3], (by repeat (first | exact Ext.refl _ | assumption | refine Ext.alloc ?_ _ | refine Ext.drew ?_ | refine Ext.setCell ?_ (by first | (simp; done) | (dsimp only; omega)) _ | refine Ext.trans ?_ (by assumption)))⟩
  · go_enter Try.func47, Try.ntmps47
    go_wp2
    refine bodyPost_ret (by simp [results, Try.results47, go_sem, ↓IntWalk.iteOmega, *]; try rfl) rfl ⟨by rw [← e4], (by repeat (first | exact Ext.refl _ | assumption | refine Ext.alloc ?_ _ | refine Ext.drew ?_ | refine Ext.setCell ?_ (by first | (simp; done) | (dsimp only; omega)) _ | refine Ext.trans ?_ (by assumption)))⟩

abbrev Lines := List (Key × Line)
/-- All blocks of the three caches. -/
def allF (F : Int → List Nat) : List Nat := F 4 ++ F 3 ++ F 2
theorem mem_allF {F : Int → List Nat} {x : Nat} : x ∈ allF F ↔ ∃ l, 2 ≤ l ∧ l ≤ 4 ∧ x ∈ F l := by
  unfold allF
  simp only [List.mem_append]
  constructor
  · rintro ((h | h) | h)
    · exact ⟨4, by omega, by omega, h⟩
    · exact ⟨3, by omega, by omega, h⟩
    · exact ⟨2, by omega, by omega, h⟩
  · rintro ⟨l, h0, h1, h⟩
    obtain rfl | rfl | rfl : l = 2 ∨ l = 3 ∨ l = 4 := by omega
    · exact .inr h
    · exact .inl (.inr h)
    · exact .inl (.inl h)
def upd {α : Type} (C : Int → α) (l : Int) (x : α) : Int → α := fun j => if j = l then x else C j
theorem upd_same {α : Type} (C : Int → α) (l : Int) (x : α) : upd C l x l = x := by simp [upd]
theorem upd_other {α : Type} (C : Int → α) {l j : Int} (x : α) (h : j ≠ l) : upd C l x j = C j := by simp [upd, h]
/-- Caches of tables: each level's cache, its blocks, its lines. -/
structure PscAt (w : World) (pb : Nat) (cb : Int → Nat) (F : Int → List Nat) (C : Int → Lines) (r : Nat) : Prop where
  head : w.heap[pb]? = some (.cells #[.pointer (some ⟨cb 4, 0, none⟩), .pointer (some ⟨cb 3, 0, none⟩), .pointer (some ⟨cb 2, 0, none⟩)] 101 (0, 0))
  cache : ∀ l, 2 ≤ l → l ≤ 4 → CAt w (cb l) (F l) (C l) r
  apart : ∀ l j, 2 ≤ l → l ≤ 4 → 2 ≤ j → j ≤ 4 → l ≠ j → ∀ x ∈ F l, x ∉ F j
section
variable {w w' : World} {pb : Nat} {cb : Int → Nat} {F : Int → List Nat} {C C' : Int → Lines} {r : Nat}
theorem PscAt.ext (h : PscAt w pb cb F C r) (k : Ext w w') : PscAt w' pb cb F C r := ⟨(k.block _ (heap_lt h.head)).trans h.head, fun l h0 h1 => (h.cache l h0 h1).ext k, h.apart⟩
theorem PscAt.lt (h : PscAt w pb cb F C r) : ∀ x ∈ allF F, x < w.heap.size := fun x hx => by
  obtain ⟨l, h0, h1, hx⟩ := mem_allF.1 hx
  exact (h.cache l h0 h1).lt x hx
theorem PscAt.out (h : PscAt w pb cb F C r) {b : Nat} {c : Array Value} {e : TypeId} (hb : w.heap[b]? = some (.cells c e (0, 0))) (h1 : e ≠ 163) (h2 : e ≠ 121) : b ∉ allF F := fun hx => by
  obtain ⟨l, l0, l1, hx⟩ := mem_allF.1 hx
  exact (h.cache l l0 l1).apart hb h1 h2 hx
theorem PscAt.keeps (h : PscAt w pb cb F C r) {G : List Nat} (k : Keeps G w w') (hd : ∀ x ∈ allF F, x ∉ G) (hp : pb ∉ G) : PscAt w' pb cb F C r :=
  ⟨(k.block _ (heap_lt h.head) hp).trans h.head, fun l h0 h1 => (h.cache l h0 h1).keeps k fun x hx => hd x (mem_allF.2 ⟨l, h0, h1, hx⟩), h.apart⟩
theorem PscAt.room (h : PscAt w pb cb F C r) {l : Int} (h0 : 2 ≤ l) (h1 : l ≤ 4) : (C l).length ≤ r ∧ r ≤ 64 := (h.cache l h0 h1).room
theorem PscAt.nodup (h : PscAt w pb cb F C r) {l : Int} (h0 : 2 ≤ l) (h1 : l ≤ 4) : (keysOf (C l)).Nodup := (h.cache l h0 h1).nodup
theorem PscAt.congr (h : PscAt w pb cb F C r) (hc : ∀ l, 2 ≤ l → l ≤ 4 → C l = C' l) : PscAt w pb cb F C' r := ⟨h.head, fun l h0 h1 => hc l h0 h1 ▸ h.cache l h0 h1, h.apart⟩

/-- What an operation leaves. -/
def EndP (pb : Nat) (cb : Int → Nat) (F : Int → List Nat) (C' : Int → Lines) (r : Nat) (w : World) (e : Ending) (w' : World) : Prop :=
  e = .returned (.tuple #[]) ∧ ∃ F', PscAt w' pb cb F' C' r ∧ Keeps (allF F) w w' ∧ ∀ x ∈ allF F', x ∈ allF F ∨ w.heap.size ≤ x
theorem EndP.none (h : PscAt w pb cb F C r) (k : Ext w w') : EndP pb cb F C r w (.returned (.tuple #[])) w' := ⟨rfl, F, h.ext k, Keeps.of_ext k, fun _ hx => .inl hx⟩
/-- One cache's operation, among the three. -/
theorem PscAt.op (h : PscAt w pb cb F C r) {l : Int} (h0 : 2 ≤ l) (h1 : l ≤ 4) {F1 : List Nat} {L' : Lines} (c : CAt w' (cb l) F1 L' r) (k : Keeps (F l) w w') (f : ∀ x ∈ F1, x ∈ F l ∨ w.heap.size ≤ x) :
    PscAt w' pb cb (upd F l F1) (upd C l L') r ∧ Keeps (allF F) w w' ∧ ∀ x ∈ allF (upd F l F1), x ∈ allF F ∨ w.heap.size ≤ x := by
  have hlt := h.lt
  refine ⟨⟨(k.block _ (heap_lt h.head) ((h.cache l h0 h1).apart h.head (by decide) (by decide))).trans h.head, fun j j0 j1 => ?_, fun i j i0 i1 j0 j1 hij x hx => ?_⟩, k.mono fun x hx => .inl (mem_allF.2 ⟨l, h0, h1, hx⟩), fun x hx => ?_⟩
  · by_cases hj : j = l
    · subst hj; rw [upd_same, upd_same]; exact c
    · rw [upd_other _ _ hj, upd_other _ _ hj]
      exact (h.cache j j0 j1).keeps k (h.apart j l j0 j1 h0 h1 hj)
  · by_cases hi : i = l
    · subst hi
      rw [upd_same] at hx
      rw [upd_other _ _ (Ne.symm hij)]
      rcases f x hx with q | q
      · exact h.apart i j i0 i1 j0 j1 hij x q
      · intro hm
        have := hlt x (mem_allF.2 ⟨j, j0, j1, hm⟩)
        omega
    · rw [upd_other _ _ hi] at hx
      by_cases hj : j = l
      · subst hj
        rw [upd_same]
        intro hm
        rcases f x hm with q | q
        · exact h.apart i j i0 i1 j0 j1 hij x hx q
        · have := hlt x (mem_allF.2 ⟨i, i0, i1, hx⟩)
          omega
      · rw [upd_other _ _ hj]
        exact h.apart i j i0 i1 j0 j1 hij x hx
  · obtain ⟨j, j0, j1, hx⟩ := mem_allF.1 hx
    by_cases hj : j = l
    · subst hj
      rw [upd_same] at hx
      exact (f x hx).imp (fun q => mem_allF.2 ⟨j, j0, j1, q⟩) id
    · rw [upd_other _ _ hj] at hx
      exact .inl (mem_allF.2 ⟨j, j0, j1, hx⟩)
/-- The state of a loop over the levels: what came of the caches so far. -/
def PscTo (pb : Nat) (cb : Int → Nat) (F : Int → List Nat) (C' : Int → Lines) (r : Nat) (w w' : World) : Prop := ∃ F', PscAt w' pb cb F' C' r ∧ Keeps (allF F) w w' ∧ ∀ x ∈ allF F', x ∈ allF F ∨ w.heap.size ≤ x
theorem PscTo.refl (h : PscAt w pb cb F C r) : PscTo pb cb F C r w w := ⟨F, h, Keeps.refl _ _, fun _ hx => .inl hx⟩
theorem PscTo.ext {w2 : World} (h : PscTo pb cb F C' r w w') (k : Ext w' w2) : PscTo pb cb F C' r w w2 := by
  obtain ⟨F', h1, h2, h3⟩ := h
  exact ⟨F', h1.ext k, h2.ext k, h3⟩
theorem PscTo.at (h : PscTo pb cb F C' r w w') : ∃ F', PscAt w' pb cb F' C' r := by
  obtain ⟨F', h1, -⟩ := h; exact ⟨F', h1⟩
theorem PscTo.trans {C2 : Int → Lines} {w2 : World} {F' : Int → List Nat} (h : PscAt w' pb cb F' C' r ∧ Keeps (allF F) w w' ∧ ∀ x ∈ allF F', x ∈ allF F ∨ w.heap.size ≤ x) (k : PscTo pb cb F' C2 r w' w2) : PscTo pb cb F C2 r w w2 := by
  obtain ⟨F2, k1, k2, k3⟩ := k
  exact ⟨F2, k1, h.2.1.trans k2 h.2.2, fun x hx => (k3 x hx).elim (h.2.2 x) fun q => .inr (Nat.le_trans h.2.1.size q)⟩
theorem PscTo.congr {C2 : Int → Lines} (h : PscTo pb cb F C' r w w') (hc : ∀ l, 2 ≤ l → l ≤ 4 → C' l = C2 l) : PscTo pb cb F C2 r w w' := by
  obtain ⟨F', h1, h2⟩ := h; exact ⟨F', h1.congr hc, h2⟩
end

theorem of_c (pb : Nat) (cb : Int → Nat) (F : Int → List Nat) (C : Int → Lines) (r : Nat) (l : Int) (w : World) (h : PscAt w pb cb F C r) (hl : l = 2 ∨ l = 3 ∨ l = 4) :
    Calls Try.prog 45 #[.pointer (some ⟨pb, 0, none⟩), .int .i64 l] w fun e w' => e = .returned (.pointer (some ⟨cb l, 0, none⟩)) ∧ Ext w w' := by
  have c0 := (heap_cell h.head 0).trans rfl
  have c1 := (heap_cell h.head 1).trans rfl
  have c2 := (heap_cell h.head 2).trans rfl
  have hl0 := heap_lt h.head
  clear h
  rcases hl with rfl | rfl | rfl
  all_goals
    go_enter Try.func45, Try.ntmps45
    go_wp2
    all_goals
      go_ret
      exact ⟨rfl, (by repeat (first | exact Ext.refl _ | assumption | refine Ext.alloc ?_ _ | refine Ext.drew ?_ | refine Ext.setCell ?_ (by first | (simp; done) | (dsimp only; omega)) _ | refine Ext.trans ?_ (by assumption)))⟩
theorem ofNo_c (p : Option Addr) (l : Int) (w : World) (h : p = none ∨ l < 2 ∨ 4 < l) :
    Calls Try.prog 45 #[.pointer p, .int .i64 l] w fun e w' => e = .returned (.pointer none) ∧ Ext w w' := by
  have : p = none ∨ (p.isNone = false ∧ l < 2) ∨ (p.isNone = false ∧ ¬ l < 2 ∧ 4 < l) := by
    cases p with
    | none => exact .inl rfl
    | some x => simp at h ⊢; omega
  rcases this with rfl | ⟨h1, h2⟩ | ⟨h1, h2, h3⟩
  all_goals
    go_enter Try.func45, Try.ntmps45
    go_wp2
    all_goals
      go_ret
      exact ⟨rfl, (by repeat (first | exact Ext.refl _ | assumption | refine Ext.alloc ?_ _ | refine Ext.drew ?_ | refine Ext.setCell ?_ (by first | (simp; done) | (dsimp only; omega)) _ | refine Ext.trans ?_ (by assumption)))⟩

theorem pscLen_c (pb : Nat) (cb : Int → Nat) (F : Int → List Nat) (C : Int → Lines) (r : Nat) (l : Int) (w : World) (h : PscAt w pb cb F C r) (hl : l = 2 ∨ l = 3 ∨ l = 4) :
    Calls Try.prog 14 #[.pointer (some ⟨pb, 0, none⟩), .int .i64 l] w fun e w' => e = .returned (.int .i64 (C l).length) ∧ Ext w w' := by
  have H := Lib.hid h
  have HO := Lib.hid (fun w h => of_c pb cb F C r l w h hl)
  have HK := Lib.hid (fun w (h : PscAt w pb cb F C r) => keys_c (cb l) (F l) (C l) r w (h.cache l (by omega) (by omega)))
  have k4 := keysOf_length (C l)
  generalize C l = L at HK k4
  clear h hl
  go_enter Try.func14, Try.ntmps14
  go_wp2_with (first | (go_at_call 45; refine (HO.out _ (H.out.ext (by repeat (first | exact Ext.refl _ | assumption | refine Ext.alloc ?_ _ | refine Ext.drew ?_ | refine Ext.setCell ?_ (by first | (simp; done) | (dsimp only; omega)) _ | refine Ext.trans ?_ (by assumption))))).mono ?_; rintro e w1 ⟨rfl, hb1⟩) | (go_at_call 50; refine (HK.out _ (H.out.ext (by repeat (first | exact Ext.refl _ | assumption | refine Ext.alloc ?_ _ | refine Ext.drew ?_ | refine Ext.setCell ?_ (by first | (simp; done) | (dsimp only; omega)) _ | refine Ext.trans ?_ (by assumption))))).mono ?_; rintro e w2 ⟨v2, rfl, hv2, hE2, -⟩; obtain ⟨a2, c2, rfl, -, -⟩ := hv2.form; clear hv2))
  go_ret
  exact ⟨by rw [← k4]; rfl, (by repeat (first | exact Ext.refl _ | assumption | refine Ext.alloc ?_ _ | refine Ext.drew ?_ | refine Ext.setCell ?_ (by first | (simp; done) | (dsimp only; omega)) _ | refine Ext.trans ?_ (by assumption)))⟩
theorem pscLenNo_c (p : Option Addr) (l : Int) (w : World) (h : p = none ∨ l < 2 ∨ 4 < l) :
    Calls Try.prog 14 #[.pointer p, .int .i64 l] w fun e w' => e = .returned (.int .i64 0) ∧ Ext w w' := by
  have HO := Lib.hid (fun w => ofNo_c p l w h)
  clear h
  go_enter Try.func14, Try.ntmps14
  go_wp2_with (first | (go_at_call 45; refine (HO.out _).mono ?_; rintro e w1 ⟨rfl, hb1⟩) | (go_at_call 50; refine (nil_keys _).mono ?_; rintro e w2 ⟨rfl, hb2⟩))
  go_ret
  exact ⟨rfl, (by repeat (first | exact Ext.refl _ | assumption | refine Ext.alloc ?_ _ | refine Ext.drew ?_ | refine Ext.setCell ?_ (by first | (simp; done) | (dsimp only; omega)) _ | refine Ext.trans ?_ (by assumption)))⟩
theorem pscEvict_c (pb : Nat) (cb : Int → Nat) (F : Int → List Nat) (C : Int → Lines) (r : Nat) (l pick : Int) (w : World) (h : PscAt w pb cb F C r) (hl : l = 2 ∨ l = 3 ∨ l = 4) (hp0 : -9223372036854775808 ≤ pick) (hp1 : pick ≤ 9223372036854775807) :
    Calls Try.prog 43 #[.pointer (some ⟨pb, 0, none⟩), .int .i64 l, .int .i64 pick] w (EndP pb cb F (upd C l (evictL pick (C l))) r w) := by
  have H := Lib.hid h
  have HO := Lib.hid (fun w h => of_c pb cb F C r l w h hl)
  have HK := Lib.hid (fun w (h : PscAt w pb cb F C r) => evict_c (cb l) (F l) (C l) r pick w (h.cache l (by omega) (by omega)) hp0 hp1)
  have l0 : 2 ≤ l := by omega
  have l1 : l ≤ 4 := by omega
  clear h hl
  go_enter Try.func43, Try.ntmps43
  go_wp2_with (first | (go_at_call 45; refine (HO.out _ (H.out.ext (by repeat (first | exact Ext.refl _ | assumption | refine Ext.alloc ?_ _ | refine Ext.drew ?_ | refine Ext.setCell ?_ (by first | (simp; done) | (dsimp only; omega)) _ | refine Ext.trans ?_ (by assumption))))).mono ?_; rintro e w1 ⟨rfl, hb1⟩) | (go_at_call 83; refine (HK.out _ (H.out.ext (by repeat (first | exact Ext.refl _ | assumption | refine Ext.alloc ?_ _ | refine Ext.drew ?_ | refine Ext.setCell ?_ (by first | (simp; done) | (dsimp only; omega)) _ | refine Ext.trans ?_ (by assumption))))).mono ?_; rintro e w2 ⟨rfl, F2, q1, q2, q3⟩))
  refine ⟨rfl, .tuple #[], (by simp [results, Try.results43, go_sem]), ?_⟩
  have K := PscTo.trans ⟨H.out.ext hb1, Keeps.of_ext hb1, fun _ hx => .inl hx⟩ ⟨_, PscAt.op (H.out.ext hb1) l0 l1 q1 q2 q3⟩
  exact ⟨rfl, K⟩
theorem pscEvictNo_c (p : Option Addr) (l pick : Int) (w : World) (h : p = none ∨ l < 2 ∨ 4 < l) :
    Calls Try.prog 43 #[.pointer p, .int .i64 l, .int .i64 pick] w fun e w' => e = .returned (.tuple #[]) ∧ Ext w w' := by
  have HO := Lib.hid (fun w => ofNo_c p l w h)
  clear h
  go_enter Try.func43, Try.ntmps43
  go_wp2_with (first | (go_at_call 45; refine (HO.out _).mono ?_; rintro e w1 ⟨rfl, hb1⟩) | (go_at_call 83; refine (nil_evict _ _).mono ?_; rintro e w2 ⟨rfl, hb2⟩))
  refine ⟨rfl, .tuple #[], (by simp [results, Try.results43, go_sem]), ?_⟩
  exact ⟨rfl, (by repeat (first | exact Ext.refl _ | assumption | refine Ext.alloc ?_ _ | refine Ext.drew ?_ | refine Ext.setCell ?_ (by first | (simp; done) | (dsimp only; omega)) _ | refine Ext.trans ?_ (by assumption)))⟩
end Go.Proofs.Ytakkjpdolkokfaa
