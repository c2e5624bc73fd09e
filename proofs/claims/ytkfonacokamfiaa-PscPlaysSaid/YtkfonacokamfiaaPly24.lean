/- Joined texts, part 24 of what the law stands on: each as its own head says. -/
import Derived.Test.YtkfonacokamfiaaPly22
import Derived.Test.YtkfonacokamfiaaPly23
/- The document's caches of tables. -/
namespace Go.Proofs.Ytkfonacokamfiaa
set_option linter.unusedVariables false
set_option linter.unusedSimpArgs false
open Go.RowKit
attribute [local go_sem] wext_cell wext_frozen wext_heap alloc_cell alloc_frozen alloc_heap setCell_cell objCell_cells objFrozen_cells
attribute [local go_sem high] refKey_eql

def downP (f : Int → Lines → Lines) (C : Int → Lines) (j : Nat) : Int → Lines := fun l => if 4 - (j : Int) < l ∧ l ≤ 4 then f l (C l) else C l
theorem down_zero (f : Int → Lines → Lines) (C : Int → Lines) : downP f C 0 = C := by
  funext l; unfold downP; rw [if_neg (by omega)]
theorem down_three (f : Int → Lines → Lines) (C : Int → Lines) : downP f C 3 = eachP f C := by
  funext l; unfold downP eachP
  by_cases h : 2 ≤ l ∧ l ≤ 4
  · rw [if_pos h, if_pos (by omega)]
  · rw [if_neg h, if_neg (by omega)]
theorem down_at (f : Int → Lines → Lines) (C : Int → Lines) (j : Nat) : downP f C j (4 - (j : Int)) = C (4 - (j : Int)) := by unfold downP; rw [if_neg (by omega)]
theorem down_step (f : Int → Lines → Lines) (C : Int → Lines) (j : Nat) : upd (downP f C j) (4 - (j : Int)) (f (4 - (j : Int)) (C (4 - (j : Int)))) = downP f C (j + 1) := by
  funext l
  unfold upd downP
  by_cases h : l = 4 - (j : Int)
  · subst h; rw [if_pos rfl, if_pos (by omega)]
  · rw [if_neg h]
    by_cases h2 : 4 - (j : Int) < l ∧ l ≤ 4
    · rw [if_pos h2, if_pos (by omega)]
    · rw [if_neg h2, if_neg (by omega)]
def RpAt (w : World) (sa : Int → Option Addr) (sc : Int → Nat) (C : Int → Lines) : Prop := ∀ l, 2 ≤ l → l ≤ 4 → RefAt w (.slice (sa l) (C l).length (sc l)) (C l)
theorem RpAt.ext {w w' : World} {sa : Int → Option Addr} {sc : Int → Nat} {C : Int → Lines} (h : RpAt w sa sc C) (k : Ext w w') : RpAt w' sa sc C := fun l l0 l1 => (h l l0 l1).ext k
theorem RpAt.congr {w : World} {sa : Int → Option Addr} {sc : Int → Nat} {C C' : Int → Lines} (h : RpAt w sa sc C) (hc : ∀ l, 2 ≤ l → l ≤ 4 → C l = C' l) : RpAt w sa sc C' := fun l l0 l1 => hc l l0 l1 ▸ h l l0 l1
/-- .. in a block. -/
def RcAt (w : World) (b : Nat) (sa : Int → Option Addr) (sc : Int → Nat) (C : Int → Lines) (r : Nat) : Prop :=
  w.heap[b]? = some (.cells #[.slice (sa 4) (C 4).length (sc 4), .int .i64 r, .slice (sa 3) (C 3).length (sc 3), .int .i64 r, .slice (sa 2) (C 2).length (sc 2), .int .i64 r] 31 (0, 0)) ∧ RpAt w sa sc C
def EndRp (C' : Int → Lines) (r : Nat) (w : World) (e : Ending) (w' : World) : Prop :=
  ∃ sa sc, e = .returned (.agg #[.slice (sa 4) (C' 4).length (sc 4), .int .i64 r, .slice (sa 3) (C' 3).length (sc 3), .int .i64 r, .slice (sa 2) (C' 2).length (sc 2), .int .i64 r]) ∧ RpAt w' sa sc C' ∧ Ext w w'
section
variable {w w' : World} {b : Nat} {sa : Int → Option Addr} {sc : Int → Nat} {C : Int → Lines} {r : Nat}
theorem RcAt.ext (h : RcAt w b sa sc C r) (k : Ext w w') : RcAt w' b sa sc C r := ⟨(k.block _ (heap_lt h.1)).trans h.1, h.2.ext k⟩
theorem RefAt.store {v : Value} {L : Lines} (h : RefAt w v L) {cs : Array Value} (hb : w.heap[b]? = some (.cells cs 31 (0, 0))) {o : Nat} {u : Value} : RefAt (w.setCell ⟨b, o, none⟩ u) v L :=
  ⟨h.1.keep fun g hg => setCell_heap _ _ _ _ _ fun e => by
    obtain ⟨c, hc⟩ := h.1.heap g hg
    rw [← e, hb] at hc
    simp only [Option.some.injEq, Obj.cells.injEq] at hc
    exact absurd hc.2.1 (by decide), h.2⟩
theorem RcAt.put (h : RcAt w b sa sc C r) {l : Int} {o : Nat} (hl : (l = 4 ∧ o = 0) ∨ (l = 3 ∧ o = 2) ∨ (l = 2 ∧ o = 4)) {a : Option Addr} {c : Nat} {L' : Lines} (hr : RefAt w (.slice a L'.length c) L') :
    RcAt ((w.setCell ⟨b, o, none⟩ (.slice a L'.length c)).setCell ⟨b, o + 1, none⟩ (.int .i64 r)) b (upd sa l a) (upd sc l c) (upd C l L') r := by
  have h1 := setCell_heap_same (i := o) (v := .slice a L'.length c) h.1
  refine ⟨(setCell_heap_same h1).trans ?_, fun j j0 j1 => RefAt.store ?_ h1⟩
  · rcases hl with ⟨rfl, rfl⟩ | ⟨rfl, rfl⟩ | ⟨rfl, rfl⟩ <;> rfl
  · refine RefAt.store ?_ h.1
    by_cases hj : j = l
    · subst hj; rw [upd_same, upd_same, upd_same]; exact hr
    · rw [upd_other _ _ hj, upd_other _ _ hj, upd_other _ _ hj]; exact h.2 j j0 j1
theorem RcAt.put1 (h : RcAt w b sa sc C r) {l : Int} {o : Nat} (hl : (l = 4 ∧ o = 0) ∨ (l = 3 ∧ o = 2) ∨ (l = 2 ∧ o = 4)) {a : Option Addr} {c : Nat} {L' : Lines} (hr : RefAt w (.slice a L'.length c) L') :
    RcAt (w.setCell ⟨b, o, none⟩ (.slice a L'.length c)) b (upd sa l a) (upd sc l c) (upd C l L') r := by
  refine ⟨(setCell_heap_same h.1).trans ?_, fun j j0 j1 => RefAt.store ?_ h.1⟩
  · rcases hl with ⟨rfl, rfl⟩ | ⟨rfl, rfl⟩ | ⟨rfl, rfl⟩ <;> rfl
  · by_cases hj : j = l
    · subst hj; rw [upd_same, upd_same, upd_same]; exact hr
    · rw [upd_other _ _ hj, upd_other _ _ hj, upd_other _ _ hj]; exact h.2 j j0 j1
end
theorem RefAt.nil (w : World) : RefAt w (.slice none 0 0) [] := ⟨Owns.nil _ _ _, by simp⟩
/-- What a level's cache hands back, its slice written out. -/
theorem EndRef.form {L' : Lines} {r : Int} {w w' : World} {e : Ending} (h : EndRef L' r w e w') : ∃ a c, e = .returned (.agg #[.slice a L'.length c, .int .i64 r]) ∧ RefAt w' (.slice a L'.length c) L' ∧ Ext w w' := by
  obtain ⟨v, rfl, h1, h2⟩ := h
  obtain ⟨a, c, rfl, -, -⟩ := h1.1.form
  exact ⟨a, c, rfl, h1, h2⟩

/-! ### Key -/
theorem r48_c (a : Int) (w : World) (h0 : 0 ≤ a) (h1 : a ≤ 18446744073709551615) : Calls Try.prog 60 #[.int .u64 a, .int .i64 0, .int .i64 48] w fun e w' => e = .returned (.int .u64 (a % 281474976710656)) ∧ Ext w w' := by
  have := ref1Get_c a 0 48 w h0 h1 (by omega) (by omega) (by omega) (by omega) (by omega)
  rw [show pow2 0 = 1 from rfl, show pow2 48 = 281474976710656 from rfl, Int.ediv_one] at this
  exact this
set_option maxHeartbeats 1000000 in
theorem rpKey_c (p l a : Int) (w : World) (hl : l = 2 ∨ l = 3 ∨ l = 4) (h0 : 0 ≤ a) (h1 : a ≤ 18446744073709551615) :
    Calls Try.prog 32 #[.int .i64 p, .int .i64 l, .int .u64 a] w fun e w' => e = .returned (kP p l a).val ∧ Ext w w' := by
  have HG := Lib.hid (fun w => r48_c a w h0 h1)
  have hm : 0 ≤ a % 281474976710656 ∧ a % 281474976710656 ≤ 281474976710655 := by omega
  have hk : (l = 2 → a % 281474976710656 / 2097152 = tagP a l) ∧ (l = 3 → a % 281474976710656 / 1073741824 = tagP a l) ∧ (l = 4 → a % 281474976710656 / 549755813888 = tagP a l) := by
    refine ⟨fun h => ?_, fun h => ?_, fun h => ?_⟩ <;> subst h <;> unfold tagP <;> simp <;> omega
  unfold kP Key.val
  generalize tagP a l = tg at hk ⊢
  generalize a % 281474976710656 = m at HG hm hk
  obtain ⟨m0, m1⟩ := hm
  obtain ⟨k2, k3, k4⟩ := hk
  have K2 := Lib.hid k2
  have K3 := Lib.hid k3
  have K4 := Lib.hid k4
  clear k2 k3 k4
  go_enter Try.func32, Try.ntmps32
  go_upto_region 3 with (first | (go_at_call 60; refine (HG.out _).mono ?_; rintro e w1 ⟨rfl, hb1⟩))
  have hv := (hb1.block w.heap.size (by simp)).trans (alloc_same ..)
  have hE : Ext w w1 := Ext.trans (by repeat (first | exact Ext.refl _ | assumption | refine Ext.alloc ?_ _ | refine Ext.drew ?_ | refine Ext.setCell ?_ (by first | (simp; done) | (dsimp only; omega)) _ | refine Ext.trans ?_ (by assumption))) hb1
  obtain ⟨vb, hvb⟩ : ∃ vb, w.heap.size = vb := ⟨_, rfl⟩
  rw [hvb] at hv ⊢
  have hwv : w.heap.size ≤ vb := by omega
  have VB := Lib.hid hv
  have VE := Lib.hid hE
  clear hv hE hvb hb1
  go_wp2
  go_loopw [8, 9] (fun sv iv wr => ∃ i : Nat, 1 ≤ i ∧ (i : Int) ≤ l ∧ iv = .int .i64 i ∧ sv = .int .u64 (if i = 1 then 4096 else if i = 2 then 2097152 else if i = 3 then 1073741824 else 549755813888) ∧ Hid (Ext w1 wr)) (fun _ iv _ => (l - intOf iv).toNat)
  case atStart => exact ⟨1, by omega, by omega, rfl, rfl, Lib.hid (Ext.refl _)⟩
  case round =>
    obtain ⟨i, hi1, hil, rfl, rfl, hR⟩ := hrel
    by_cases hlt : (i : Int) < l
    · have hi : i = 1 ∨ i = 2 ∨ i = 3 := by omega
      rcases hi with rfl | rfl | rfl
      all_goals
        go_wp2
        first
          | (refine ⟨⟨2, by omega, by omega, by go_num, by rfl, hR⟩, by simp [intOf]; omega⟩; done)
          | (refine ⟨⟨3, by omega, by omega, by go_num, by rfl, hR⟩, by simp [intOf]; omega⟩; done)
          | (refine ⟨⟨4, by omega, by omega, by go_num, by rfl, hR⟩, by simp [intOf]; omega⟩; done)
    · have hli : (i : Int) = l := by omega
      have hB := (hR.out.block _ (heap_lt VB.out)).trans VB.out
      have b0 := (heap_cell hB 0).trans rfl
      have b1 := (heap_cell hB 1).trans rfl
      have b2 := (heap_cell hB 2).trans rfl
      have bf := frozen_of hB
      have bl := heap_lt hB
      have BB := Lib.hid hB
      have hcase : (i = 2 ∧ l = 2) ∨ (i = 3 ∧ l = 3) ∨ (i = 4 ∧ l = 4) := by omega
      clear hB hli hlt
      rcases hcase with ⟨rfl, rfl⟩ | ⟨rfl, rfl⟩ | ⟨rfl, rfl⟩
      all_goals
        go_wp2
        refine post_gen (fun U => ∃ tt, U.heap[vb]? = some (.cells #[.int .i64 p, .int .i64 _, .int .u64 tt] 93 (0, 0)) ∧ tt = tg ∧ Ext w U) ⟨_, setCell_heap_same (setCell_heap_same (setCell_heap_same BB.out)), ?_, Ext.setCell (Ext.setCell (Ext.setCell (VE.out.trans hR.out) hwv _) hwv _) hwv _⟩ ?_
        · have h2 := K2.out; have h3 := K3.out; have h4 := K4.out; simp at h2 h3 h4; first | exact h2 | exact h3 | exact h4 | (rw [← h2]; rfl) | (rw [← h3]; rfl) | (rw [← h4]; rfl) | trace_state
        clear b0 b1 b2 bf bl
        rintro U ⟨tt, m5, rfl, E5⟩
        have v0 := (heap_cell m5 0).trans rfl
        have v1 := (heap_cell m5 1).trans rfl
        have v2 := (heap_cell m5 2).trans rfl
        clear m5
        refine bodyPost_ret (by simp [results, Try.results32, go_sem, ↓IntWalk.iteOmega, *]; try rfl) rfl ⟨rfl, E5⟩
end Go.Proofs.Ytkfonacokamfiaa
