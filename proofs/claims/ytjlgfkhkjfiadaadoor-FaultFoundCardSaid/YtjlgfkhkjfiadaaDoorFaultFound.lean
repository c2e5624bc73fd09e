/- FaultFound: whatever is wrapped around a fault, it is found, with its address and code. -/
import Derived.Test.YtjlgfkhkjfiadaaDoorFaultGP
namespace Go.Proofs.YtjlgfkhkjfiadaaDoor
set_option linter.unusedVariables false
set_option linter.unusedSimpArgs false
open Go.RowKit
attribute [local go_sem] wext_cell wext_frozen wext_heap alloc_cell alloc_frozen alloc_heap setCell_cell objCell_cells objFrozen_cells

structure PgH (a c : Int) (w : World) (v : Value) : Prop where
  out : ∃ E, ErIs w E v ∧ E.num = some 4 ∧ E.pg = some (a, c)
theorem PgH.mv {a c : Int} {w w' : World} {v : Value} (h : PgH a c w v) (k : Ext w w') : PgH a c w' v := by
  obtain ⟨E, h1, h2⟩ := h.out
  exact ⟨E, h1.ext k, h2⟩
theorem PgH.no {a c : Int} {w : World} {v : Value} (h : PgH a c w v) : NoH 4 w v := by
  obtain ⟨E, h1, h2, h3⟩ := h.out
  exact ⟨E, h1, h2⟩
def EndPg (a c : Int) (w : World) (e : Ending) (w' : World) : Prop := ∃ t x, e = .returned (.iface t x) ∧ PgH a c w' (.iface t x) ∧ Ext w w'
theorem wrapPg_c (a c : Int) (y : ByteArray) (v : Value) (w : World) (h : PgH a c w v) : Calls Tryd.prog 13 #[.string y, v] w (EndPg a c w) := by
  obtain ⟨E, h1, h2⟩ := h.out
  exact (wrap_c y E v w h1).mono fun e w' hE => by
    obtain ⟨t, x, rfl, hv, hb⟩ := hE.form
    exact ⟨t, x, rfl, ⟨_, hv.out, h2⟩, hb⟩
theorem atPg_c (a c : Int) (w : World) : Calls Tryd.prog 12 #[.int .u64 a, .int .i64 c] w (EndPg a c w) :=
  (at_c a c w).mono fun e w' hE => by
    obtain ⟨t, x, rfl, hv, hb⟩ := hE.form
    exact ⟨t, x, rfl, ⟨_, hv.out, rfl, rfl⟩, hb⟩
theorem ofPg_c (a c : Int) (v : Value) (w : World) (h : PgH a c w v) (hg : Glob w) : Calls Tryd.prog 14 #[v] w fun e w' => e = .returned (.tuple #[.agg #[.int .u64 a, .int .i64 c], .bool true]) ∧ Ext w w' := by
  obtain ⟨E, h1, h2, h3⟩ := h.out
  exact faultOf_pg a c E v w h1 hg h3 (by rw [h2]; rfl)
set_option maxRecDepth 100000 in
set_option maxHeartbeats 1600000 in
theorem faultFound_c (p c : Int) (a : Option Addr) (len cap : Nat) (w : World) (hg : Glob w) (hl : len ≤ maxLen) (hc : 0 < len → ∃ b off, a = some ⟨b, off, none⟩ ∧ ∀ i, i < len → ∃ s, w.cell? ⟨b, off + i, none⟩ = some (.string s)) :
    Calls Tryd.prog 3 #[.int .u64 p, .int .i64 c, .slice a len cap] w fun e w' => e = .returned (.bool true) ∧ Ext w w' := by
  have HG := Lib.hid hg
  have HC := Lib.hid hc
  clear hg hc
  unfold maxLen at hl
  go_enter Tryd.func3, Tryd.ntmps3
  go_wp2_with (first | (go_at_call 11; refine (awake07_c _ HG.out).mono ?_; rintro e w1 ⟨rfl, hb1⟩) | (go_at_call 12; refine (atPg_c _ _ _).mono ?_; rintro e w2 ⟨t, x, rfl, hv, hb2⟩))
  go_loopw [8, 9] (fun v i wr => ∃ (j : Nat) (t : TypeId) (x : Value), j ≤ len ∧ j ≤ 30 ∧ i = .int .i64 j ∧ v = .iface t x ∧ Hid (PgH p c wr (.iface t x)) ∧ Hid (Ext w wr)) (fun _ i _ => len - (intOf i).toNat)
  case atStart => exact ⟨0, t, x, by omega, by omega, rfl, rfl, Lib.hid hv, Lib.hid (by repeat (first | exact Ext.refl _ | assumption | refine Ext.alloc ?_ _ | refine Ext.drew ?_ | refine Ext.setCell ?_ (by first | (simp; done) | (dsimp only; omega)) _ | refine Ext.trans ?_ (by assumption)))⟩
  case round =>
    obtain ⟨j, t, x, hj, hj2, rfl, rfl, hN, hE⟩ := hrel
    have hE0 := hE.out
    have hN0 := hN.out
    by_cases hlt : j < len ∧ j < 30
    · obtain ⟨hlt, h30⟩ := hlt
      obtain ⟨b, off, rfl, hcc⟩ := HC.out (by omega)
      obtain ⟨s, hs⟩ := hcc j hlt
      have hs1 := hE0.someCell hs
      clear hcc hs
      go_wp2_with (go_at_call 13; refine (wrapPg_c p c _ _ _ hN0).mono ?_; rintro e w3 ⟨t3, x3, rfl, hv3, hb3⟩)
      go_roundw
      case rel => exact ⟨j + 1, t3, x3, by omega, by omega, by go_num, rfl, Lib.hid hv3, Lib.hid (hE0.trans hb3)⟩
      case measure => simp [intOf]; omega
    · have hd : j = len ∨ (j = 30 ∧ 30 < len) := by omega
      clear hlt
      rcases hd with rfl | ⟨rfl, hd⟩
      all_goals
        go_wp2_with (first | (go_at_call 14; refine (ofPg_c _ _ _ _ hN0 (HG.out.ext (by repeat (first | exact Ext.refl _ | assumption | refine Ext.alloc ?_ _ | refine Ext.drew ?_ | refine Ext.setCell ?_ (by first | (simp; done) | (dsimp only; omega)) _ | refine Ext.trans ?_ (by assumption))))).mono ?_; rintro e w4 ⟨rfl, hb4⟩) | (go_at_call 15; refine (kindNo_c 4 _ _ (by apply NoH.mv hN0.no; exact (by repeat (first | exact Ext.refl _ | assumption | refine Ext.alloc ?_ _ | refine Ext.drew ?_ | refine Ext.setCell ?_ (by first | (simp; done) | (dsimp only; omega)) _ | refine Ext.trans ?_ (by assumption)))) (HG.out.ext (by repeat (first | exact Ext.refl _ | assumption | refine Ext.alloc ?_ _ | refine Ext.drew ?_ | refine Ext.setCell ?_ (by first | (simp; done) | (dsimp only; omega)) _ | refine Ext.trans ?_ (by assumption))))).mono ?_; rintro e w5 ⟨rfl, hb5⟩) | (go_at_call 16; refine (isNo_c 4 _ _ _ (by apply NoH.mv hN0.no; exact (by repeat (first | exact Ext.refl _ | assumption | refine Ext.alloc ?_ _ | refine Ext.drew ?_ | refine Ext.setCell ?_ (by first | (simp; done) | (dsimp only; omega)) _ | refine Ext.trans ?_ (by assumption))))).mono ?_; rintro e w6 ⟨rfl, rfl⟩))
        go_ret
        exact ⟨rfl, (by repeat (first | exact Ext.refl _ | assumption | refine Ext.alloc ?_ _ | refine Ext.drew ?_ | refine Ext.setCell ?_ (by first | (simp; done) | (dsimp only; omega)) _ | refine Ext.trans ?_ (by assumption)))⟩

theorem faultFound_walk (W : World) (args : List Value) (hg : Glob W) (h : ArgsAre W [.int .u64, .int .i64, .slice .str] args) :
    Calls Tryd.prog 3 args.toArray W fun e w' => e = .returned (.bool true) ∧ Ext W w' := by
  obtain ⟨_, _, rfl, ⟨p, h2, -⟩, _, _, rfl, ⟨c, h4, -⟩, _, _, rfl, h3, rfl⟩ := h
  simp only [List.cons.injEq, and_true] at h2 h4
  subst h2 h4
  obtain ⟨a, len, cap, rfl, k1, k2⟩ := strs_of h3
  exact faultFound_c _ _ a len cap W hg k1 k2

theorem faultFoundDscs : okParams Tryd.prog [.int .u64, .int .i64, .slice .str] Tryd.f3.params.toList = true := by kernel_rfl
set_option maxRecDepth 100000 in
theorem faultFound_lifted (os : Os) (started : os.Started) (H : Type) (enc : TypeId × Value → H) :
    ReturnsInHanded {} Tryd.checked os 3 .any (fun w args => (Rows.faultFoundSpec.pre enc Tryd.prog Tryd.f3 [] false w args ∧ laidMetH Tryd.prog Rows.faultFoundRow.laid w) ∧ sizedMet enc Tryd.prog Tryd.f3 (OpenSpec.ofChange Rows.faultFoundSpec) false w args)
      (Rows.faultFoundSpec.post enc Tryd.prog Tryd.f3 false true false false) :=
  law_lift_laid (C := Tryd.checked) (X := fun w => laidMetH Tryd.prog Rows.faultFoundRow.laid w) (fun _ _ hh h => h.of_heap hh) [.int .u64, .int .i64, .slice .str] (by kernel_rfl) started (by kernel_rfl) Tryd.func3
    (ChangeSpec.witness_at (enc := enc) (C := Tryd.checked) (os := os) (X := fun w _ => laidMetH Tryd.prog Rows.faultFoundRow.laid w) false (laidWorld os) #[.int .u64 0, .int .i64 0, .slice none 0 0] 8 rfl (by kernel_rfl) (by kernel_rfl) (by kernel_rfl) (by kernel_rfl) (by kernel_rfl) (laidMetH_of_parts (laidMet_nil _ _) (by kernel_rfl)))
    (by kernel_rfl) faultFoundDscs rfl Tryd.underlying4 rfl (fun ds h => by
      first
        | (obtain ⟨a, rfl⟩ := len1 h; rfl)
        | (obtain ⟨a, b, rfl⟩ := len2 h; rfl)
        | (obtain ⟨a, b, c, rfl⟩ := len3 h; rfl)
        | (obtain ⟨a, b, c, d, rfl⟩ := len4 h; rfl)) (fun W args hL hA => faultFound_walk W args (glob_of_laid hL) hA)
theorem faultFound_holds : Rows.FaultFoundSaid :=
  OpenClaim.holds_of_wide 3 Tryd.f3 rfl rfl rfl rfl rfl rfl rfl ⟨rfl, rfl, rfl, rfl, rfl⟩ rfl rfl rfl rfl rfl (by kernel_rfl) Tryd.func3 (by kernel_rfl)
    (of_decide_eq_true (by kernel_rfl)) (by unfold Func.isWrapper; first | (rw [if_pos (by decide +kernel)]; kernel_rfl) | (rw [if_neg (by decide +kernel)]; exact ⟨rfl, rfl⟩))
    (fun os started H enc _ => faultFound_lifted os started H enc)
#print axioms faultFound_holds
end Go.Proofs.YtjlgfkhkjfiadaaDoor
