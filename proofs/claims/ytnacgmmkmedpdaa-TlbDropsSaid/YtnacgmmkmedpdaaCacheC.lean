/- Caches: Drop, Evict, Get, Room, Keys, Clear. -/
import Derived.Test.YtnacgmmkmedpdaaCacheB
namespace Go.Proofs.Ytnacgmmkmedpdaa
set_option linter.unusedVariables false
set_option linter.unusedSimpArgs false
open Go.RowKit
attribute [local go_sem] wext_cell wext_frozen wext_heap alloc_cell alloc_frozen alloc_heap setCell_cell objCell_cells objFrozen_cells
attribute [local go_sem high] key_eql

theorem CAt.ext {w w' : World} {cb : Nat} {F : List Nat} {L : List (Key × Line)} {r : Nat} (h : CAt w cb F L r) (k : Ext w w') : CAt w' cb F L r := by
  obtain ⟨mb, ov, es, clock, h1, h2, h3, h4, h5⟩ := h
  exact ⟨mb, ov, es, clock, (k.block cb (heap_lt h1)).trans h1, (k.block mb (heap_lt h2)).trans h2, h3, h4.ext k, h5⟩
theorem CAt.keeps {w w' : World} {cb : Nat} {F G : List Nat} {L : List (Key × Line)} {r : Nat} (h : CAt w cb F L r) (k : Keeps G w w') (hd : ∀ x ∈ F, x ∉ G) : CAt w' cb F L r := by
  obtain ⟨mb, ov, es, clock, h1, h2, h3, h4, h5, h6⟩ := h
  refine ⟨mb, ov, es, clock, (k.block cb (heap_lt h1) (hd _ (by rw [h5]; simp))).trans h1, (k.block mb (heap_lt h2) (hd _ (by rw [h5]; simp))).trans h2, h3, h4.keep fun g hg => k.block g (h4.lt g hg) (hd _ (by rw [h5]; simp [hg])), h5, h6⟩
theorem CAt.lt {w : World} {cb : Nat} {F : List Nat} {L : List (Key × Line)} {r : Nat} (h : CAt w cb F L r) : ∀ x ∈ F, x < w.heap.size := by
  obtain ⟨mb, ov, es, clock, h1, h2, h3, h4, h5, h6⟩ := h
  intro x hx
  rw [h5] at hx
  simp only [List.mem_cons, Option.mem_toList] at hx
  rcases hx with rfl | rfl | hx
  · exact heap_lt h1
  · exact heap_lt h2
  · exact h4.lt x hx
theorem EndC.none {w w' : World} {cb : Nat} {F : List Nat} {L : List (Key × Line)} {r : Nat} (h : CAt w cb F L r) (k : Ext w w') : EndC cb F w L r (.returned (.tuple #[])) w' :=
  ⟨rfl, F, h.ext k, Keeps.of_ext k, fun _ hx => .inl hx⟩
theorem EndC.after {w w1 w2 : World} {cb : Nat} {F : List Nat} {L : List (Key × Line)} {r : Nat} {e : Ending} (k : Ext w w1) (h : EndC cb F w1 L r e w2) : EndC cb F w L r e w2 := by
  obtain ⟨he, F', h1, h2, h3⟩ := h
  exact ⟨he, F', h1, (Keeps.of_ext k).same h2, fun x hx => (h3 x hx).elim .inl fun h => .inr (Nat.le_trans k.size h)⟩
theorem EndC.before {w w1 w2 : World} {cb : Nat} {F : List Nat} {L : List (Key × Line)} {r : Nat} {e : Ending} (h : EndC cb F w L r e w1) (k : Ext w1 w2) : EndC cb F w L r e w2 := by
  obtain ⟨he, F', h1, h2, h3⟩ := h
  exact ⟨he, F', h1.ext k, h2.ext k, h3⟩

theorem ix_look (k : Key) : ∀ (L : List (Key × Line)) (j : Nat), ixK k (keysOf L) j = match look k L j with | some (i, _) => (i : Int) | none => -1
  | [], j => rfl
  | x :: L, j => by
    have := ix_look k L (j + 1)
    simp only [keysOf, List.map_cons, ixK, look] at *
    split
    · rfl
    · rw [← this]; congr 1

/-- The order's value, as the cell has it. -/
theorem CAt.order {w : World} {cb : Nat} {F : List Nat} {L : List (Key × Line)} {r : Nat} (h : CAt w cb F L r) :
    ∃ mb a cap, w.cell? ⟨cb, 0, none⟩ = some (.map (some mb)) ∧ w.cell? ⟨cb, 1, none⟩ = some (.slice a L.length cap) ∧ w.cell? ⟨cb, 2, none⟩ = some (.int .i64 r) ∧
      Owns w 34 3 (.slice a L.length cap) (keysOf L).length (rowK (keysOf L)) ∧ L.length ≤ cap ∧ cap ≤ 9223372036854775807 ∧ cb < w.heap.size ∧ L.length ≤ r ∧ r ≤ 64 ∧ (L.length = 0 ∨ a.isSome = true) := by
  obtain ⟨mb, ov, es, clock, h1, h2, h3, h4, h5, h6, h7, h8⟩ := h
  have k4 := keysOf_length L
  obtain ⟨a, cap, rfl, hn, hm⟩ := h4.form
  refine ⟨mb, a, cap, (heap_cell h1 0).trans rfl, (heap_cell h1 1).trans (by rw [← k4]; rfl), (heap_cell h1 2).trans rfl, by rw [← k4]; rw [k4]; rw [k4] at h4; exact h4, by omega, by unfold maxLen at hm; omega, heap_lt h1, h6, h7, ?_⟩
  rcases h4.2 with ⟨_, h0⟩ | ⟨g, cap', cur, he, _⟩
  · left; omega
  · right; injection he with e1; rw [e1]; rfl

set_option maxHeartbeats 1000000 in
theorem drop_c (cb : Nat) (F : List Nat) (L : List (Key × Line)) (r : Nat) (k : Key) (w : World) (h : CAt w cb F L r) :
    Calls Try.prog 27 #[.pointer (some ⟨cb, 0, none⟩), k.val] w (EndC cb F w (delL k L) r) := by
  have HC := Lib.hid h
  obtain ⟨mb, a, cap, c0, c1, c2, ho, b1, b2, b3, b4, b5, b6⟩ := h.order
  have HO := Lib.hid ho
  have hix := ix_look k L 0
  obtain ⟨p, l, t⟩ := k
  unfold Key.val
  clear h ho b6 c0 c2
  go_enter Try.func27, Try.ntmps27
  go_upto_region 2 with (fail)
  refine wp_gen ?_; intro W hW
  have hE : Ext w W := by rw [hW]; exact (by repeat (first | exact Ext.refl _ | assumption | refine Ext.alloc ?_ _ | refine Ext.drew ?_ | refine Ext.setCell ?_ (by first | (simp; done) | (dsimp only; omega)) _ | refine Ext.trans ?_ (by assumption)))
  have HE := Lib.hid hE
  have x1 : W.cell? ⟨cb, 1, none⟩ = some (.slice a L.length cap) := by rw [hE.cell _ _ b3]; exact c1
  have x2 : W.cell? ⟨w.heap.size, 0, none⟩ = some (.int .i64 p) := (by rw [hW]; simp [go_sem, ↓IntWalk.iteOmega, *])
  have x3 : W.cell? ⟨w.heap.size, 1, none⟩ = some (.int .i64 l) := (by rw [hW]; simp [go_sem, ↓IntWalk.iteOmega, *])
  have x4 : W.cell? ⟨w.heap.size, 2, none⟩ = some (.int .u64 t) := (by rw [hW]; simp [go_sem, ↓IntWalk.iteOmega, *])
  have x5 : w.heap.size < W.heap.size := (by rw [hW]; (try simp only [World.size_alloc, World.size_setCell, World.size_drew]); omega)
  have b3' : cb < W.heap.size := by omega
  clear hW hE c1
  have HX := Aside.mk hix
  clear hix
  refine region_ext (by kernel_rfl) (by kernel_rfl) ?_; (repeat (go_big_quiet_step ((go_at_call 82; exact calls_wext (indexK_c (keysOf L) ⟨p, l, t⟩ _ _ ((HO.out.ext HE.out).ext (wext_ext _ _))))))); refine wpQuiet_nil ?_; intro w1 hb; have ⟨hc, hf, hh, hs⟩ := hb.facts; try simp only [World.size_alloc, World.size_setCell, World.size_drew] at hs
  have HB := Lib.hid hb
  clear hb hc hf hh
  cases hl : look ⟨p, l, t⟩ L 0 with
  | none =>
    have hi : ixK ⟨p, l, t⟩ (keysOf L) 0 = -1 := by have := HX.out; rw [hl] at this; exact this
    go_wp2
    refine ⟨rfl, .tuple #[], (by simp [results, Try.results27, go_sem]), ?_⟩
    rw [show delL ⟨p, l, t⟩ L = L by unfold delL; rw [hl]]
    exact EndC.none HC.out (HE.out.trans HB.out)
  | some y =>
    obtain ⟨i, y⟩ := y
    have hi : ixK ⟨p, l, t⟩ (keysOf L) 0 = (i : Int) := by have := HX.out; rw [hl] at this; exact this
    have hlt : i < L.length := (List.getElem?_eq_some_iff.1 (look_some hl).2.1).1
    go_wp2_with (first | (go_at_call 83; refine (cut_c cb F L r i _ ((HC.out.ext HE.out).ext HB.out) hlt).mono ?_; rintro e w2 ⟨rfl, hC2⟩))
    refine ⟨rfl, .tuple #[], (by simp [results, Try.results27, go_sem]), ?_⟩
    rw [show delL ⟨p, l, t⟩ L = L.eraseIdx i by unfold delL; rw [hl]]
    exact EndC.after (HE.out.trans HB.out) ⟨rfl, hC2⟩

/-- the place that is picked -/
def pickI (pick n : Int) : Int := pick % n
def evictL (pick : Int) (L : List (Key × Line)) : List (Key × Line) := if L.length = 0 then L else L.eraseIdx (pickI pick L.length).toNat
theorem tmod_mod (a n : Int) : a.tmod n % n = a % n := by
  rw [Int.tmod_def, Int.sub_mul_emod_self_left]

set_option maxHeartbeats 1000000 in
theorem evict_c (cb : Nat) (F : List Nat) (L : List (Key × Line)) (r : Nat) (pick : Int) (w : World) (h : CAt w cb F L r) (hp0 : -9223372036854775808 ≤ pick) (hp1 : pick ≤ 9223372036854775807) :
    Calls Try.prog 30 #[.pointer (some ⟨cb, 0, none⟩), .int .i64 pick] w (EndC cb F w (evictL pick L) r) := by
  have HC := Lib.hid h
  obtain ⟨mb, a, cap, c0, c1, c2, ho, b1, b2, b3, b4, b5, b6⟩ := h.order
  clear h ho b6 c0 c2
  by_cases h0 : L.length = 0
  · go_enter Try.func30, Try.ntmps30
    have hz : ((L.length : Nat) : Int) = 0 := by omega
    go_wp2
    all_goals
      refine ⟨rfl, .tuple #[], (by simp [results, Try.results30, go_sem]), ?_⟩
      rw [show evictL pick L = L by unfold evictL; rw [if_pos h0]]
      exact EndC.none HC.out (by repeat (first | exact Ext.refl _ | assumption | refine Ext.alloc ?_ _ | refine Ext.drew ?_ | refine Ext.setCell ?_ (by first | (simp; done) | (dsimp only; omega)) _ | refine Ext.trans ?_ (by assumption)))
  · go_enter Try.func30, Try.ntmps30
    have hz : (((L.length : Nat) : Int) == 0) = false := by simp; simpa using h0
    have h1 : -(L.length : Int) < pick.tmod L.length := Int.lt_tmod_of_pos pick (by omega)
    have h2 : pick.tmod L.length < L.length := Int.tmod_lt_of_pos pick (by omega)
    have hnz : ¬ ((L.length : Int) = 0) := by omega
    have e1 : 0 ≤ pickI pick L.length := Int.emod_nonneg _ hnz
    have e2 : pickI pick L.length < L.length := Int.emod_lt_of_pos _ (by omega)
    have hq : pick.tmod L.length % L.length = ((pickI pick L.length).toNat : Int) := by rw [tmod_mod]; unfold pickI at *; omega
    have hlt : (pickI pick L.length).toNat < L.length := by omega
    have he : evictL pick L = L.eraseIdx (pickI pick L.length).toNat := by unfold evictL; rw [if_neg h0]
    generalize (pickI pick L.length).toNat = q at hq hlt he
    clear e1 e2
    have HQ := Aside.mk he
    clear he
    go_wp2_with (first | (go_at_call 83; refine (cut_c cb F L r q _ (HC.out.ext (by repeat (first | exact Ext.refl _ | assumption | refine Ext.alloc ?_ _ | refine Ext.drew ?_ | refine Ext.setCell ?_ (by first | (simp; done) | (dsimp only; omega)) _ | refine Ext.trans ?_ (by assumption)))) hlt).mono ?_; rintro e w2 ⟨rfl, hC2⟩))
    all_goals
      refine ⟨rfl, .tuple #[], (by simp [results, Try.results30, go_sem]), ?_⟩
      rw [HQ.out]
      exact ⟨rfl, hC2⟩
end Go.Proofs.Ytnacgmmkmedpdaa
