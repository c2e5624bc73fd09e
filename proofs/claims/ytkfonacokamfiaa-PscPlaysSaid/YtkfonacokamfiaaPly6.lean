/- Joined texts, part 6 of what the law stands on: each as its own head says. -/
import Derived.Test.YtkfonacokamfiaaPly5
/- Caches: Room, Keys, Clear, New; of nil. -/
namespace Go.Proofs.Ytkfonacokamfiaa
set_option linter.unusedVariables false
set_option linter.unusedSimpArgs false
open Go.RowKit
attribute [local go_sem] wext_cell wext_frozen wext_heap alloc_cell alloc_frozen alloc_heap setCell_cell objCell_cells objFrozen_cells
attribute [local go_sem high] key_eql

theorem keys_c (cb : Nat) (F : List Nat) (L : List (Key × Line)) (r : Nat) (w : World) (h : CAt w cb F L r) :
    Calls Try.prog 33 #[.pointer (some ⟨cb, 0, none⟩)] w (EndKeys w (keysOf L)) := by
  obtain ⟨mb, a, cap, c0, c1, c2, ho, b1, b2, b3, b4, b5, b6⟩ := h.order
  have HO := Lib.hid ho
  have k4 := keysOf_length L
  have hl : (keysOf L).length ≤ 1000 := by omega
  clear h ho c0 c2 b6
  go_enter Try.func33, Try.ntmps33
  go_wp2_with (first | (go_at_call 61; refine (cloneK_c (keysOf L) _ _ (HO.out.ext (by repeat (first | exact Ext.refl _ | assumption | refine Ext.alloc ?_ _ | refine Ext.drew ?_ | refine Ext.setCell ?_ (by first | (simp; done) | (dsimp only; omega)) _ | refine Ext.trans ?_ (by assumption)))) hl).mono ?_; rintro e w1 ⟨v, rfl, q1, q2, q3⟩))
  all_goals
    go_ret
    exact ⟨v, rfl, q1, q2, q3⟩

def clampR (room : Int) : Nat := if room < 0 then 0 else if 64 < room then 64 else room.toNat
theorem clampR_le (r : Int) : clampR r ≤ 64 := by
  unfold clampR
  split
  · omega
  · split <;> omega
def EndNew (room : Int) (w : World) (e : Ending) (w' : World) : Prop :=
  ∃ cb F, e = .returned (.pointer (some ⟨cb, 0, none⟩)) ∧ CAt w' cb F [] (clampR room) ∧ Ext w w' ∧ ∀ x ∈ F, w.heap.size ≤ x
theorem new_c (room : Int) (w : World) (h0 : -9223372036854775808 ≤ room) (h1 : room ≤ 9223372036854775807) :
    Calls Try.prog 16 #[.int .i64 room] w (EndNew room w) := by
  have hmk : ∀ w, (Instr.makeMap 115 none).run Try.prog w = .ok (.map (some w.heap.size)) (w.alloc (.map #[] 0)) := fun _ => rfl
  go_enter Try.func16, Try.ntmps16
  go_wp2
  all_goals
    go_ret
    refine ⟨w.heap.size + 1, [w.heap.size + 1, w.heap.size], rfl, ⟨w.heap.size, .slice none 0 0, #[], 0, ?_, ?_, rfl, Owns.nil .., rfl, Nat.zero_le _, clampR_le _, List.nodup_nil⟩, (by repeat (first | exact Ext.refl _ | assumption | refine Ext.alloc ?_ _ | refine Ext.drew ?_ | refine Ext.setCell ?_ (by first | (simp; done) | (dsimp only; omega)) _ | refine Ext.trans ?_ (by assumption))), by simp⟩
    · rw [alloc_same1]
      unfold clampR
      first | (rw [if_pos (by omega)]; rfl) | (rw [if_neg (by omega), if_pos (by omega)]; rfl) | (rw [if_neg (by omega), if_neg (by omega), Int.toNat_of_nonneg (by omega)])
    · rw [alloc_other _ _ (by simp), alloc_same]

theorem clear_run (w : World) (mb : Nat) (es : Array MapEntry) (clock : Nat) (hb : w.heap[mb]? = some (.map es clock)) (ty : TypeId) :
    (Builtin.clear_ #[115] ty #[.map (some mb)]).run Try.prog w = .ok (.tuple #[]) (putBlk w mb (.map #[] clock)) := by
  simp [Builtin.clear_, run_underlying Try.underlying115, getObj_at hb, setObj_at _ hb]

theorem clear_c (cb : Nat) (F : List Nat) (L : List (Key × Line)) (r : Nat) (w : World) (h : CAt w cb F L r) :
    Calls Try.prog 56 #[.pointer (some ⟨cb, 0, none⟩)] w (EndC cb F w [] r) := by
  obtain ⟨mb, ov, es, clock, h1, h2, h3, h4, h5, h6, h7, h8⟩ := h
  obtain ⟨a, cap, rfl, hn, hm⟩ := h4.form
  have c0 := (heap_cell h1 0).trans rfl
  have hcl := clear_run w mb es clock h2
  have hmc : mb ≠ cb := fun e => by have := h1; rw [← e, h2] at this; cases this
  have m1 := (putBlk_heap w mb cb (.map #[] clock) hmc).trans h1
  have m2 := putBlk_same w mb (.map #[] clock) (heap_lt h2)
  have x1 := (heap_cell m1 1).trans rfl
  have x2 : (putBlk w mb (.map #[] clock)).frozen? ⟨cb, 1, none⟩ = false := by rw [frozen_heap, m1]; rfl
  have M1 := Lib.hid m1
  have M2 := Lib.hid m2
  have H5 := Lib.hid h5
  have K : Keeps F w (putBlk w mb (.map #[] clock)) := (Keeps.refl F w).put (.inl (by rw [h5]; simp)) _
  have y1 := setCell_heap_same (i := 1) (v := .slice none 0 0) m1
  have Y1 := Lib.hid y1
  have lt1 := heap_lt h1
  clear h1 h2 h3 h4 h5 h6 h8 hn hm m1 m2 y1
  go_enter Try.func56, Try.ntmps56
  go_wp2
  refine ⟨rfl, .tuple #[], (by simp [results, Try.results56, go_sem]), ?_⟩
  exact ⟨rfl, [cb, mb], ⟨mb, .slice none 0 0, #[], clock, Y1.out, (setCell_heap _ _ _ _ _ (Ne.symm hmc)).trans M2.out, rfl, Owns.nil .., rfl, Nat.zero_le _, h7, List.nodup_nil⟩,
    K.setCell (.inl (by rw [H5.out]; simp)) _, fun x hx => .inl (by rw [H5.out]; simp at hx; rcases hx with rfl | rfl <;> simp)⟩

/-! ### of nil -/
theorem nil_put (k : Key) (x : Line) (pick : Int) (w : World) : Calls Try.prog 41 #[.pointer none, k.val, x.val, .int .i64 pick] w fun e w' => e = .returned (.tuple #[]) ∧ Ext w w' := by
  obtain ⟨p, l, t⟩ := k
  obtain ⟨zf, za, zb, zc, zd, zm⟩ := x
  unfold Key.val Line.val
  go_enter Try.func41, Try.ntmps41
  go_wp2
  refine ⟨rfl, .tuple #[], (by simp [results, Try.results41, go_sem]), ?_⟩
  exact ⟨rfl, (by repeat (first | exact Ext.refl _ | assumption | refine Ext.alloc ?_ _ | refine Ext.drew ?_ | refine Ext.setCell ?_ (by first | (simp; done) | (dsimp only; omega)) _ | refine Ext.trans ?_ (by assumption)))⟩
theorem nil_drop (k : Key) (w : World) : Calls Try.prog 52 #[.pointer none, k.val] w fun e w' => e = .returned (.tuple #[]) ∧ Ext w w' := by
  obtain ⟨p, l, t⟩ := k
  unfold Key.val
  go_enter Try.func52, Try.ntmps52
  go_wp2
  refine ⟨rfl, .tuple #[], (by simp [results, Try.results52, go_sem]), ?_⟩
  exact ⟨rfl, (by repeat (first | exact Ext.refl _ | assumption | refine Ext.alloc ?_ _ | refine Ext.drew ?_ | refine Ext.setCell ?_ (by first | (simp; done) | (dsimp only; omega)) _ | refine Ext.trans ?_ (by assumption)))⟩
theorem nil_keys (w : World) : Calls Try.prog 33 #[.pointer none] w fun e w' => e = .returned (.slice none 0 0) ∧ Ext w w' := by
  go_enter Try.func33, Try.ntmps33
  go_wp2
  go_ret
  exact ⟨rfl, (by repeat (first | exact Ext.refl _ | assumption | refine Ext.alloc ?_ _ | refine Ext.drew ?_ | refine Ext.setCell ?_ (by first | (simp; done) | (dsimp only; omega)) _ | refine Ext.trans ?_ (by assumption)))⟩
theorem nil_clear (w : World) : Calls Try.prog 56 #[.pointer none] w fun e w' => e = .returned (.tuple #[]) ∧ Ext w w' := by
  go_enter Try.func56, Try.ntmps56
  go_wp2
  refine ⟨rfl, .tuple #[], (by simp [results, Try.results56, go_sem]), ?_⟩
  exact ⟨rfl, (by repeat (first | exact Ext.refl _ | assumption | refine Ext.alloc ?_ _ | refine Ext.drew ?_ | refine Ext.setCell ?_ (by first | (simp; done) | (dsimp only; omega)) _ | refine Ext.trans ?_ (by assumption)))⟩
theorem nil_evict (pick : Int) (w : World) : Calls Try.prog 57 #[.pointer none, .int .i64 pick] w fun e w' => e = .returned (.tuple #[]) ∧ Ext w w' := by
  go_enter Try.func57, Try.ntmps57
  go_wp2
  refine ⟨rfl, .tuple #[], (by simp [results, Try.results57, go_sem]), ?_⟩
  exact ⟨rfl, (by repeat (first | exact Ext.refl _ | assumption | refine Ext.alloc ?_ _ | refine Ext.drew ?_ | refine Ext.setCell ?_ (by first | (simp; done) | (dsimp only; omega)) _ | refine Ext.trans ?_ (by assumption)))⟩
theorem nil_get (k : Key) (w : World) : Calls Try.prog 29 #[.pointer none, k.val] w fun e w' => e = .returned (.tuple #[noLine.val, .bool false]) ∧ Ext w w' := by
  obtain ⟨p, l, t⟩ := k
  unfold Key.val
  go_enter Try.func29, Try.ntmps29
  go_wp2
  refine bodyPost_ret (by simp [results, Try.results29, go_sem, ↓IntWalk.iteOmega, *]; try rfl) rfl ⟨rfl, (by repeat (first | exact Ext.refl _ | assumption | refine Ext.alloc ?_ _ | refine Ext.drew ?_ | refine Ext.setCell ?_ (by first | (simp; done) | (dsimp only; omega)) _ | refine Ext.trans ?_ (by assumption)))⟩
end Go.Proofs.Ytkfonacokamfiaa
