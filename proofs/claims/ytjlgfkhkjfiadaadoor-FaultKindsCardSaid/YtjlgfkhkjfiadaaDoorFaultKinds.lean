/- FaultKinds: an error's number is its own, whatever is wrapped around it; of two that were joined both are found: for every input. -/
import Derived.Test.YtjlgfkhkjfiadaaDoorErrL
import Derived.Test.YtjlgfkhkjfiadaaDoorRowL
import Derived.OpenShut
namespace Go.Proofs.YtjlgfkhkjfiadaaDoor
set_option linter.unusedVariables false
set_option linter.unusedSimpArgs false
open Go.RowKit
attribute [local go_sem] wext_cell wext_frozen wext_heap alloc_cell alloc_frozen alloc_heap setCell_cell objCell_cells objFrozen_cells

/-- Its number is k. -/
structure KH (k : Int) (w : World) (v : Value) : Prop where
  out : (∃ E, ErIs w E v ∧ E.num.getD 1 = k) ∨ ∃ E1 E2, JoE E1 E2 w v ∧ E1.num = some k
theorem KH.mv {k : Int} {w w' : World} {v : Value} (h : KH k w v) (x : Ext w w') : KH k w' v := by
  rcases h.out with ⟨E, h1, h2⟩ | ⟨E1, E2, h1, h2⟩
  · exact ⟨.inl ⟨E, h1.ext x, h2⟩⟩
  · exact ⟨.inr ⟨E1, E2, h1.ext x, h2⟩⟩
theorem kindK_c (k : Int) (v : Value) (w : World) (h : KH k w v) (hg : Glob w) : Calls Tryd.prog 15 #[v] w fun e w' => e = .returned (.int .i64 k) ∧ Ext w w' := by
  rcases h.out with ⟨E, h1, h2⟩ | ⟨E1, E2, h1, h2⟩
  · exact kind_c k E v w h1 hg h2
  · exact kindJo_c k E1 E2 v w h1 hg h2
def EndW (k : Int) (E : Er) (w : World) (e : Ending) (w' : World) : Prop := ∃ t x, e = .returned (.iface t x) ∧ ErH w' E (.iface t x) ∧ KH k w' (.iface t x) ∧ Ext w w'
theorem wrapE_c (n : Int) (y : ByteArray) (w : World) : Calls Tryd.prog 13 #[.string y, .iface 33 (.int .i64 n)] w (EndW n (.ahead y (.no n)) w) :=
  (wrap_c y (.no n) _ w rfl).mono fun e w' hE => by
    obtain ⟨t, x, rfl, hv, hb⟩ := hE.form
    exact ⟨t, x, rfl, hv, ⟨.inl ⟨_, hv.out, rfl⟩⟩, hb⟩
theorem wrapN_c (y : ByteArray) (v : Value) (w : World) (h : ErH w .new v) : Calls Tryd.prog 13 #[.string y, v] w (EndW 1 (.ahead y .new) w) :=
  (wrap_c y .new v w h.out).mono fun e w' hE => by
    obtain ⟨t, x, rfl, hv, hb⟩ := hE.form
    exact ⟨t, x, rfl, hv, ⟨.inl ⟨_, hv.out, rfl⟩⟩, hb⟩

set_option maxRecDepth 100000 in
set_option maxHeartbeats 3200000 in
theorem faultKinds_c (n : Int) (y : ByteArray) (a : Int) (w : World) (hg : Glob w) (hn0 : 0 ≤ n) (hn1 : n ≤ 255) :
    Calls Tryd.prog 7 #[.int .u8 n, .string y, .int .u64 a] w fun e w' => e = .returned (.bool true) ∧ Ext w w' := by
  have HG := Lib.hid hg
  clear hg
  go_enter Tryd.func7, Tryd.ntmps7
  go_upto_region 4 with (first | (go_at_call 11; refine (awake07_c _ HG.out).mono ?_; rintro e w1 ⟨rfl, hb1⟩) | (go_at_call 22; refine (errNew_c _ _).mono ?_; rintro e w2 hE; obtain ⟨t2, x2, rfl, hv2, hb2⟩ := hE.form; clear hE))
  have hN : KH 1 w2 (.iface t2 x2) := ⟨.inl ⟨.new, hv2.out, rfl⟩⟩
  have e0 : 1 ≤ 1 + n % 9 := by omega
  have e1 : 1 + n % 9 ≤ 9 := by omega
  generalize 1 + n % 9 = m at *
  generalize n % 9 = m9 at *
  have hM : KH m w2 (.iface 33 (.int .i64 m)) := ⟨.inl ⟨.no m, rfl, rfl⟩⟩
  go_upto_region 5 with (first | (go_at_call 13; ((with_reducible refine (wrapE_c _ _ _).mono ?_)); rintro e w3 ⟨t3, x3, rfl, hv3, hk3, hb3⟩) | (go_at_call 12; refine (at_c _ _ _).mono ?_; rintro e w4 hE; obtain ⟨t4, x4, rfl, hv4, hb4⟩ := hE.form; clear hE) | (go_at_call 23; refine (errJoin_c _ t3 t4 x3 x4 _ (by simp [alloc_cell, objCell_cells]) (by simp [alloc_cell, objCell_cells])).mono ?_; rintro e w5 ⟨t5, x5, rfl, hJ, hb5⟩))
  have hJE : JoE (.ahead y (.no m)) (.page a 1) w5 (.iface t5 x5) := ⟨_, _, hJ, hv3.mv (by repeat (first | exact Ext.refl _ | assumption | refine Ext.alloc ?_ _ | refine Ext.drew ?_ | refine Ext.setCell ?_ (by first | (simp; done) | (dsimp only; omega)) _ | refine Ext.trans ?_ (by assumption))), hv4.mv (by repeat (first | exact Ext.refl _ | assumption | refine Ext.alloc ?_ _ | refine Ext.drew ?_ | refine Ext.setCell ?_ (by first | (simp; done) | (dsimp only; omega)) _ | refine Ext.trans ?_ (by assumption)))⟩
  have hJK : KH m w5 (.iface t5 x5) := ⟨.inr ⟨_, _, hJE, rfl⟩⟩
  have HJE := Lib.hid hJE
  have E25 : Ext w2 w5 := (by repeat (first | exact Ext.refl _ | assumption | refine Ext.alloc ?_ _ | refine Ext.drew ?_ | refine Ext.setCell ?_ (by first | (simp; done) | (dsimp only; omega)) _ | refine Ext.trans ?_ (by assumption)))
  have E5 : Ext w w5 := (hb1.trans hb2).trans E25
  clear hJ hJE hv3 hk3 hv4 hb3 hb4 hb5
  go_upto_region 6 with (first | (go_at_call 14; refine (faultOfJo_pg a 1 _ _ _ _ HJE.out (HG.out.ext E5) rfl rfl (by simp [Er.num])).mono ?_; rintro e w6 ⟨rfl, hb6⟩))
  have E6 : Ext w w6 := E5.trans hb6
  have E26 : Ext w2 w6 := E25.trans hb6
  have hM6 := hM.mv E26
  have hN6 := hN.mv E26
  have hv6 := hv2.mvH E26
  have hJ6 := hJK.mv hb6
  have HG6 := Lib.hid (HG.out.ext E6)
  clear hM hN hv2 hJK hb1 hb2 E5 E25 hb6 E26 HJE HG
  go_wp2_with (first | (go_at_call 13; ((with_reducible refine (wrapE_c _ _ _).mono ?_)); rintro e w7 ⟨t7, x7, rfl, hv7, hk7, hb7⟩; clear hv7; have ⟨hc7, hf7, hh7, hs7⟩ := hb7.facts; try simp only [World.size_alloc, World.size_setCell, World.size_drew] at hs7) | (go_at_call 13; refine (wrapN_c _ _ _ (by apply ErH.mvH; assumption; exact (by repeat (first | exact Ext.refl _ | assumption | refine Ext.alloc ?_ _ | refine Ext.drew ?_ | refine Ext.setCell ?_ (by first | (simp; done) | (dsimp only; omega)) _ | refine Ext.trans ?_ (by assumption))))).mono ?_; rintro e w8 ⟨t8, x8, rfl, hv8, hk8, hb8⟩; clear hv8; have ⟨hc8, hf8, hh8, hs8⟩ := hb8.facts; try simp only [World.size_alloc, World.size_setCell, World.size_drew] at hs8) | (go_at_call 15; refine (kindK_c _ _ _ (by apply KH.mv; assumption; exact (by repeat (first | exact Ext.refl _ | assumption | refine Ext.alloc ?_ _ | refine Ext.drew ?_ | refine Ext.setCell ?_ (by first | (simp; done) | (dsimp only; omega)) _ | refine Ext.trans ?_ (by assumption)))) (HG6.out.ext (by repeat (first | exact Ext.refl _ | assumption | refine Ext.alloc ?_ _ | refine Ext.drew ?_ | refine Ext.setCell ?_ (by first | (simp; done) | (dsimp only; omega)) _ | refine Ext.trans ?_ (by assumption))))).mono ?_; rintro e w9 ⟨rfl, hb9⟩; have ⟨hc, hf, hh, hs⟩ := hb9.facts; try simp only [World.size_alloc, World.size_setCell, World.size_drew] at hs))
  go_ret
  exact ⟨rfl, E6.trans (by repeat (first | exact Ext.refl _ | assumption | refine Ext.alloc ?_ _ | refine Ext.drew ?_ | refine Ext.setCell ?_ (by first | (simp; done) | (dsimp only; omega)) _ | refine Ext.trans ?_ (by assumption)))⟩

theorem faultKinds_walk (W : World) (args : List Value) (hg : Glob W) (h : ArgsAre W [.int .u8, .str, .int .u64] args) :
    Calls Tryd.prog 7 args.toArray W fun e w' => e = .returned (.bool true) ∧ Ext W w' := by
  obtain ⟨_, _, rfl, ⟨n, h1, w1⟩, _, _, rfl, ⟨y, h2, -⟩, _, _, rfl, ⟨a, h3, w3⟩, rfl⟩ := h
  simp only [List.cons.injEq, and_true] at h1 h2 h3
  subst h1 h2 h3
  have hn := bounds_u8 w1
  exact faultKinds_c n y a W hg hn.1 hn.2

theorem faultKindsDscs : okParams Tryd.prog [.int .u8, .str, .int .u64] Tryd.f7.params.toList = true := by kernel_rfl
set_option maxRecDepth 100000 in
theorem faultKinds_lifted (os : Os) (started : os.Started) (H : Type) (enc : TypeId × Value → H) :
    ReturnsInHanded {} Tryd.checked os 7 .any (fun w args => (Rows.faultKindsSpec.pre enc Tryd.prog Tryd.f7 [] false w args ∧ laidMetH Tryd.prog Rows.faultKindsRow.laid w) ∧ sizedMet enc Tryd.prog Tryd.f7 (OpenSpec.ofChange Rows.faultKindsSpec) false w args)
      (Rows.faultKindsSpec.post enc Tryd.prog Tryd.f7 false true false false) :=
  law_lift_laid (C := Tryd.checked) (X := fun w => laidMetH Tryd.prog Rows.faultKindsRow.laid w) (fun _ _ hh h => h.of_heap hh) [.int .u8, .str, .int .u64] (by kernel_rfl) started (by kernel_rfl) Tryd.func7
    (ChangeSpec.witness_at (enc := enc) (C := Tryd.checked) (os := os) (X := fun w _ => laidMetH Tryd.prog Rows.faultKindsRow.laid w) false (laidWorld os) #[.int .u8 0, .string { data := #[] }, .int .u64 0] 8 rfl (by kernel_rfl) (by kernel_rfl) (by kernel_rfl) (by kernel_rfl) (by kernel_rfl) (laidMetH_of_parts (laidMet_nil _ _) (by kernel_rfl)))
    (by kernel_rfl) faultKindsDscs rfl Tryd.underlying4 rfl (fun ds h => by
      first
        | (obtain ⟨a, rfl⟩ := len1 h; rfl)
        | (obtain ⟨a, b, rfl⟩ := len2 h; rfl)
        | (obtain ⟨a, b, c, rfl⟩ := len3 h; rfl)
        | (obtain ⟨a, b, c, d, rfl⟩ := len4 h; rfl)) (fun W args hL hA => faultKinds_walk W args (glob_of_laid hL) hA)
theorem faultKinds_holds : Rows.FaultKindsSaid :=
  OpenClaim.holds_of_wide 7 Tryd.f7 rfl rfl rfl rfl rfl rfl rfl ⟨rfl, rfl, rfl, rfl, rfl⟩ rfl rfl rfl rfl rfl (by kernel_rfl) Tryd.func7 (by kernel_rfl)
    (of_decide_eq_true (by kernel_rfl)) (by unfold Func.isWrapper; first | (rw [if_pos (by decide +kernel)]; kernel_rfl) | (rw [if_neg (by decide +kernel)]; exact ⟨rfl, rfl⟩))
    (fun os started H enc _ => faultKinds_lifted os started H enc)
#print axioms faultKinds_holds
end Go.Proofs.YtjlgfkhkjfiadaaDoor
