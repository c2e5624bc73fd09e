/- FaultGP: whatever is wrapped around a general protection fault, it is found; it is no page fault. -/
import Derived.Test.YtjlgfkhkjfiadaaDoorAwake07
import Derived.Test.YtjlgfkhkjfiadaaDoorRowL
namespace Go.Proofs.YtjlgfkhkjfiadaaDoor
set_option linter.unusedVariables false
set_option linter.unusedSimpArgs false
open Go.RowKit
attribute [local go_sem] wext_cell wext_frozen wext_heap alloc_cell alloc_frozen alloc_heap setCell_cell objCell_cells objFrozen_cells

/-- A chain whose number is m, with no page fault in it. -/
structure NoH (m : Int) (w : World) (v : Value) : Prop where
  out : ∃ E, ErIs w E v ∧ E.num = some m
theorem NoH.mv {m : Int} {w w' : World} {v : Value} (h : NoH m w v) (k : Ext w w') : NoH m w' v := by
  obtain ⟨E, h1, h2⟩ := h.out
  exact ⟨E, h1.ext k, h2⟩
theorem NoH.form {m : Int} {w : World} {v : Value} (h : NoH m w v) : ∃ t x, v = .iface t x := by
  obtain ⟨E, h1, h2⟩ := h.out
  exact h1.form
def EndNo (m : Int) (w : World) (e : Ending) (w' : World) : Prop := ∃ t x, e = .returned (.iface t x) ∧ NoH m w' (.iface t x) ∧ Ext w w'
theorem wrapNo_c (m : Int) (y : ByteArray) (v : Value) (w : World) (h : NoH m w v) : Calls Tryd.prog 13 #[.string y, v] w (EndNo m w) := by
  obtain ⟨E, h1, h2⟩ := h.out
  exact (wrap_c y E v w h1).mono fun e w' hE => by
    obtain ⟨t, x, rfl, hv, hb⟩ := hE.form
    exact ⟨t, x, rfl, ⟨_, hv.out, h2⟩, hb⟩
theorem gpNo_c (y : ByteArray) (w : World) : Calls Tryd.prog 17 #[.string y] w (EndNo 5 w) :=
  (gp_c y w).mono fun e w' hE => by
    obtain ⟨t, x, rfl, hv, hb⟩ := hE.form
    exact ⟨t, x, rfl, ⟨_, hv.out, rfl⟩, hb⟩
theorem kindNo_c (m : Int) (v : Value) (w : World) (h : NoH m w v) (hg : Glob w) : Calls Tryd.prog 15 #[v] w fun e w' => e = .returned (.int .i64 m) ∧ Ext w w' := by
  obtain ⟨E, h1, h2⟩ := h.out
  exact kind_c m E v w h1 hg (by rw [h2]; rfl)
theorem isNo_c (m k : Int) (v : Value) (w : World) (h : NoH m w v) : Calls Tryd.prog 16 #[v, .iface 33 (.int .i64 k)] w fun e w' => e = .returned (.bool (m == k)) ∧ w' = w := by
  obtain ⟨E, h1, h2⟩ := h.out
  exact errIs_c k (m == k) E v w h1 (by rw [h2]; simp)
theorem ofNo_c (v : Value) (w : World) (h : NoH 5 w v) : Calls Tryd.prog 14 #[v] w fun e w' => e = .returned (.tuple #[.agg #[.int .u64 0, .int .i64 0], .bool false]) ∧ Ext w w' := by
  obtain ⟨E, h1, h2⟩ := h.out
  exact faultOf_no E v w h1 (by rw [h2]; rfl)

set_option maxRecDepth 100000 in
set_option maxHeartbeats 1600000 in
theorem faultGP_c (y : ByteArray) (a : Option Addr) (len cap : Nat) (w : World) (hg : Glob w) (hl : len ≤ maxLen) (hc : 0 < len → ∃ b off, a = some ⟨b, off, none⟩ ∧ ∀ i, i < len → ∃ s, w.cell? ⟨b, off + i, none⟩ = some (.string s)) :
    Calls Tryd.prog 4 #[.string y, .slice a len cap] w fun e w' => e = .returned (.bool true) ∧ Ext w w' := by
  have HG := Lib.hid hg
  have HC := Lib.hid hc
  clear hg hc
  unfold maxLen at hl
  go_enter Tryd.func4, Tryd.ntmps4
  go_wp2_with (first | (go_at_call 11; refine (awake07_c _ HG.out).mono ?_; rintro e w1 ⟨rfl, hb1⟩) | (go_at_call 17; refine (gpNo_c _ _).mono ?_; rintro e w2 ⟨t, x, rfl, hv, hb2⟩))
  go_loopw [6, 7] (fun v i wr => ∃ (j : Nat) (t : TypeId) (x : Value), j ≤ len ∧ j ≤ 30 ∧ i = .int .i64 j ∧ v = .iface t x ∧ Hid (NoH 5 wr (.iface t x)) ∧ Hid (Ext w wr)) (fun _ i _ => len - (intOf i).toNat)
  case atStart => exact ⟨0, t, x, by omega, by omega, rfl, rfl, Lib.hid hv, Lib.hid (by repeat (first | exact Ext.refl _ | assumption | refine Ext.alloc ?_ _ | refine Ext.drew ?_ | refine Ext.setCell ?_ (by first | (simp; done) | (dsimp only; omega)) _ | refine Ext.trans ?_ (by assumption)))⟩
  case round =>
    obtain ⟨j, t, x, hj, hj2, rfl, rfl, hN, hE⟩ := hrel
    have hE0 := hE.out
    have hN0 := hN.out
    by_cases hlt : j < len ∧ j < 30
    · obtain ⟨hlt, h30⟩ := hlt
      obtain ⟨b, off, rfl, hcc⟩ := HC.out (by omega)
      obtain ⟨s, hs⟩ := hcc j hlt
      have hs1 := hE0.someCell hs
      clear hcc hs
      go_wp2_with (go_at_call 13; refine (wrapNo_c 5 _ _ _ hN0).mono ?_; rintro e w3 ⟨t3, x3, rfl, hv3, hb3⟩)
      go_roundw
      case rel => exact ⟨j + 1, t3, x3, by omega, by omega, by go_num, rfl, Lib.hid hv3, Lib.hid (hE0.trans hb3)⟩
      case measure => simp [intOf]; omega
    · have hd : j = len ∨ (j = 30 ∧ 30 < len) := by omega
      clear hlt
      rcases hd with rfl | ⟨rfl, hd⟩
      all_goals
        go_wp2_with (first | (go_at_call 14; refine (ofNo_c _ _ hN0).mono ?_; rintro e w4 ⟨rfl, hb4⟩) | (go_at_call 15; refine (kindNo_c 5 _ _ (by apply NoH.mv hN0; exact (by repeat (first | exact Ext.refl _ | assumption | refine Ext.alloc ?_ _ | refine Ext.drew ?_ | refine Ext.setCell ?_ (by first | (simp; done) | (dsimp only; omega)) _ | refine Ext.trans ?_ (by assumption)))) (HG.out.ext (by repeat (first | exact Ext.refl _ | assumption | refine Ext.alloc ?_ _ | refine Ext.drew ?_ | refine Ext.setCell ?_ (by first | (simp; done) | (dsimp only; omega)) _ | refine Ext.trans ?_ (by assumption))))).mono ?_; rintro e w5 ⟨rfl, hb5⟩) | (go_at_call 16; refine (isNo_c 5 _ _ _ (by apply NoH.mv hN0; exact (by repeat (first | exact Ext.refl _ | assumption | refine Ext.alloc ?_ _ | refine Ext.drew ?_ | refine Ext.setCell ?_ (by first | (simp; done) | (dsimp only; omega)) _ | refine Ext.trans ?_ (by assumption))))).mono ?_; rintro e w6 ⟨rfl, rfl⟩))
        go_ret
        exact ⟨rfl, (by repeat (first | exact Ext.refl _ | assumption | refine Ext.alloc ?_ _ | refine Ext.drew ?_ | refine Ext.setCell ?_ (by first | (simp; done) | (dsimp only; omega)) _ | refine Ext.trans ?_ (by assumption)))⟩

theorem strs_of {W : World} {v : Value} (h : (Dsc.slice .str).Is W [v]) : ∃ a len cap, v = .slice a len cap ∧ len ≤ maxLen ∧ (0 < len → ∃ b off, a = some ⟨b, off, none⟩ ∧ ∀ i, i < len → ∃ s, W.cell? ⟨b, off + i, none⟩ = some (.string s)) := by
  rcases h with h | ⟨a, len, cap, h, h1, h2, h3⟩
  · simp only [List.cons.injEq, and_true] at h
    exact ⟨none, 0, 0, h, by unfold maxLen; omega, fun h => absurd h (by omega)⟩
  · simp only [List.cons.injEq, and_true] at h
    refine ⟨some a, len, cap, h, by omega, fun h0 => ?_⟩
    obtain ⟨b, off, rfl, _, hc⟩ := slice_open (e := .str) (by simp [Dsc.size]) (by omega) h3
    refine ⟨b, off, rfl, fun i hi => ?_⟩
    obtain ⟨vs, hl, hj, x, rfl, _⟩ := hc i (by omega)
    have := hj 0 (by simp [Dsc.size])
    simp only [Dsc.size, Nat.mul_one, Nat.add_zero] at this
    exact ⟨x, this⟩
theorem faultGP_walk (W : World) (args : List Value) (hg : Glob W) (h : ArgsAre W [.str, .slice .str] args) :
    Calls Tryd.prog 4 args.toArray W fun e w' => e = .returned (.bool true) ∧ Ext W w' := by
  obtain ⟨_, _, rfl, ⟨y, h2, -⟩, _, _, rfl, h3, rfl⟩ := h
  simp only [List.cons.injEq, and_true] at h2
  subst h2
  obtain ⟨a, len, cap, rfl, k1, k2⟩ := strs_of h3
  exact faultGP_c y a len cap W hg k1 k2

theorem faultGPDscs : okParams Tryd.prog [.str, .slice .str] Tryd.f4.params.toList = true := by kernel_rfl
set_option maxRecDepth 100000 in
theorem faultGP_lifted (os : Os) (started : os.Started) (H : Type) (enc : TypeId × Value → H) :
    ReturnsInHanded {} Tryd.checked os 4 .any (fun w args => (Rows.faultGPSpec.pre enc Tryd.prog Tryd.f4 [] false w args ∧ laidMetH Tryd.prog Rows.faultGPRow.laid w) ∧ sizedMet enc Tryd.prog Tryd.f4 (OpenSpec.ofChange Rows.faultGPSpec) false w args)
      (Rows.faultGPSpec.post enc Tryd.prog Tryd.f4 false true false false) :=
  law_lift_laid (C := Tryd.checked) (X := fun w => laidMetH Tryd.prog Rows.faultGPRow.laid w) (fun _ _ hh h => h.of_heap hh) [.str, .slice .str] (by kernel_rfl) started (by kernel_rfl) Tryd.func4
    (ChangeSpec.witness_at (enc := enc) (C := Tryd.checked) (os := os) (X := fun w _ => laidMetH Tryd.prog Rows.faultGPRow.laid w) false (laidWorld os) #[.string { data := #[] }, .slice none 0 0] 8 rfl (by kernel_rfl) (by kernel_rfl) (by kernel_rfl) (by kernel_rfl) (by kernel_rfl) (laidMetH_of_parts (laidMet_nil _ _) (by kernel_rfl)))
    (by kernel_rfl) faultGPDscs rfl Tryd.underlying4 rfl (fun ds h => by
      first
        | (obtain ⟨a, rfl⟩ := len1 h; rfl)
        | (obtain ⟨a, b, rfl⟩ := len2 h; rfl)
        | (obtain ⟨a, b, c, rfl⟩ := len3 h; rfl)
        | (obtain ⟨a, b, c, d, rfl⟩ := len4 h; rfl)) (fun W args hL hA => faultGP_walk W args (glob_of_laid hL) hA)
theorem faultGP_holds : Rows.FaultGPSaid :=
  OpenClaim.holds_of_wide 4 Tryd.f4 rfl rfl rfl rfl rfl rfl rfl ⟨rfl, rfl, rfl, rfl, rfl⟩ rfl rfl rfl rfl rfl (by kernel_rfl) Tryd.func4 (by kernel_rfl)
    (of_decide_eq_true (by kernel_rfl)) (by unfold Func.isWrapper; first | (rw [if_pos (by decide +kernel)]; kernel_rfl) | (rw [if_neg (by decide +kernel)]; exact ⟨rfl, rfl⟩))
    (fun os started H enc _ => faultGP_lifted os started H enc)
#print axioms faultGP_holds
end Go.Proofs.YtjlgfkhkjfiadaaDoor
