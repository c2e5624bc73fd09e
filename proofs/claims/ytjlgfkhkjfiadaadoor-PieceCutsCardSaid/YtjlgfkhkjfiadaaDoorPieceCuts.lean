/- PieceCuts: any bytes' pieces, or the fault. -/
import Derived.Test.YtjlgfkhkjfiadaaDoorPieceF
import Derived.Test.YtjlgfkhkjfiadaaDoorRefCut
import Derived.Test.YtjlgfkhkjfiadaaDoorRowL
namespace Go.Proofs.YtjlgfkhkjfiadaaDoor
set_option linter.unusedVariables false
set_option linter.unusedSimpArgs false
open Go.RowKit
attribute [local go_sem] wext_cell wext_frozen wext_heap alloc_cell alloc_frozen alloc_heap setCell_cell objCell_cells objFrozen_cells

theorem piece_equal (x c : Int) (w : World) : (Op.equal 46 (.agg #[.int .u64 x, .int .i64 c]) (.agg #[.int .u64 x, .int .i64 c])).run Tryd.prog w = .ok true w := by
  show (Op.equalIn 10000 _ _ _).run _ _ = _
  simp [go_sem]
theorem piece_neq (x c : Int) (w : World) : (binOp .neq 46 (.agg #[.int .u64 x, .int .i64 c]) (.agg #[.int .u64 x, .int .i64 c])).run Tryd.prog w = .ok (.bool false) w := by
  have := piece_equal x c w
  rw [run_neq_struct]
  show ((Op.equal _ _ _).run _ _).andThen _ = _
  rw [this]; rfl
attribute [local go_sem high] piece_neq
set_option maxRecDepth 100000 in
set_option maxHeartbeats 3200000 in
theorem pieceCuts_c (a n : Int) (w : World) (hg : Glob w) (h0 : 0 ≤ a) (h1 : a ≤ 18446744073709551615) (n0 : -9223372036854775808 ≤ n) (n1 : n ≤ 9223372036854775807) :
    Calls Tryd.prog 5 #[.int .u64 a, .int .i64 n] w fun e w' => e = .returned (.bool true) ∧ Ext w w' := by
  have HG := Lib.hid hg
  clear hg
  cases hC : cutB a n
  case false =>
    go_enter Tryd.func5, Tryd.ntmps5
    go_wp2_with (first | (go_at_call 18; refine (awake17_c _).mono ?_; rintro e w1 ⟨rfl, hb⟩; have ⟨hc, hf, hh, hs⟩ := hb.facts; try simp only [World.size_alloc, World.size_setCell, World.size_drew] at hs) | (go_at_call 19; refine (cut_gp _ _ _ h0 h1 n0 n1 hC).mono ?_; rintro e w4 ⟨t, x, rfl, hv4, hb4⟩) | (go_at_call 20; refine (refCut_bad _ _ _ h0 h1 n0 n1 hC).mono ?_; rintro e w5 ⟨rfl, hb5⟩) | (go_at_call 15; refine (kindGP_c _ _ (by apply GPv.ext; assumption; exact (by repeat (first | exact Ext.refl _ | assumption | refine Ext.alloc ?_ _ | refine Ext.drew ?_ | refine Ext.setCell ?_ (by first | (simp; done) | (dsimp only; omega)) _ | refine Ext.trans ?_ (by assumption)))) (HG.out.ext (by repeat (first | exact Ext.refl _ | assumption | refine Ext.alloc ?_ _ | refine Ext.drew ?_ | refine Ext.setCell ?_ (by first | (simp; done) | (dsimp only; omega)) _ | refine Ext.trans ?_ (by assumption))))).mono ?_; rintro e w6 ⟨rfl, hb6⟩))
    go_loopw [10] (fun i wr => i = .int .i64 0 ∧ Ext w wr) (fun _ _ => 0)
    case atStart => exact ⟨rfl, (by repeat (first | exact Ext.refl _ | assumption | refine Ext.alloc ?_ _ | refine Ext.drew ?_ | refine Ext.setCell ?_ (by first | (simp; done) | (dsimp only; omega)) _ | refine Ext.trans ?_ (by assumption)))⟩
    case round =>
      obtain ⟨rfl, hb7⟩ := hrel
      go_wp2
      go_ret
      exact ⟨rfl, (by repeat (first | exact Ext.refl _ | assumption | refine Ext.alloc ?_ _ | refine Ext.drew ?_ | refine Ext.setCell ?_ (by first | (simp; done) | (dsimp only; omega)) _ | refine Ext.trans ?_ (by assumption)))⟩
  case true =>
    obtain ⟨c1, c2, c3, c4, c5⟩ := cutB_true hC
    clear c5 c3
    by_cases hr : n ≤ 4096 - a % 4096
    · go_enter Tryd.func5, Tryd.ntmps5
      go_wp2_with (first | (go_at_call 18; refine (awake17_c _).mono ?_; rintro e w1 ⟨rfl, hb⟩; have ⟨hc, hf, hh, hs⟩ := hb.facts; try simp only [World.size_alloc, World.size_setCell, World.size_drew] at hs) | (go_at_call 19; refine (cut_one _ _ _ h0 hC hr).mono ?_; rintro e w4 ⟨g, rfl, g1, g2, d0, d1, hb4⟩) | (go_at_call 20; refine (refCut_one _ _ _ h0 hC hr).mono ?_; rintro e w5 ⟨k, rfl, k0, k1, k2, hb5⟩; replace d0 := hb5.someCell d0; replace d1 := hb5.someCell d1))
      go_loopw [10] (fun i wr => (i = .int .i64 0 ∨ i = .int .i64 1) ∧ Ext w5 wr) (fun i _ => (1 - intOf i).toNat)
      case atStart => exact ⟨.inl rfl, Ext.refl _⟩
      case round =>
        obtain ⟨hi, hb6⟩ := hrel
        have s5 := hb5.size
        have s6 := hb6.size
        replace d0 := hb6.someCell d0
        replace d1 := hb6.someCell d1
        replace k0 := hb6.someCell k0
        replace k1 := hb6.someCell k1
        rcases hi with rfl | rfl
        · go_upto_region 9 with (fail)
          refine region_ext (by kernel_rfl) (by kernel_rfl) ?_; (repeat (go_big_quiet_step (fail))); refine wpQuiet_nil ?_; intro w1 hb; have ⟨hc, hf, hh, hs⟩ := hb.facts; try simp only [World.size_alloc, World.size_setCell, World.size_drew] at hs
          go_wp2
          go_roundw
          case rel => exact ⟨.inr rfl, (by repeat (first | exact Ext.refl _ | assumption | refine Ext.alloc ?_ _ | refine Ext.drew ?_ | refine Ext.setCell ?_ (by first | (simp; done) | (dsimp only; omega)) _ | refine Ext.trans ?_ (by assumption)))⟩
          case measure => simp [intOf]
        · go_wp2
          go_ret
          exact ⟨rfl, (by repeat (first | exact Ext.refl _ | assumption | refine Ext.alloc ?_ _ | refine Ext.drew ?_ | refine Ext.setCell ?_ (by first | (simp; done) | (dsimp only; omega)) _ | refine Ext.trans ?_ (by assumption)))⟩
    · have hr' : 4096 - a % 4096 < n := by omega
      go_enter Tryd.func5, Tryd.ntmps5
      go_wp2_with (first | (go_at_call 18; refine (awake17_c _).mono ?_; rintro e w1 ⟨rfl, hb⟩; have ⟨hc, hf, hh, hs⟩ := hb.facts; try simp only [World.size_alloc, World.size_setCell, World.size_drew] at hs) | (go_at_call 19; refine (cut_two _ _ _ h0 hC hr').mono ?_; rintro e w4 ⟨g, rfl, g1, g2, d0, d1, d2, d3, hb4⟩) | (go_at_call 20; refine (refCut_two _ _ _ h0 hC hr').mono ?_; rintro e w5 ⟨k, rfl, k0, k1, k2, k3, k4, hb5⟩; replace d0 := hb5.someCell d0; replace d1 := hb5.someCell d1; replace d2 := hb5.someCell d2; replace d3 := hb5.someCell d3))
      go_loopw [10] (fun i wr => (i = .int .i64 0 ∨ i = .int .i64 1 ∨ i = .int .i64 2) ∧ Ext w5 wr) (fun i _ => (2 - intOf i).toNat)
      case atStart => exact ⟨.inl rfl, Ext.refl _⟩
      case round =>
        obtain ⟨hi, hb6⟩ := hrel
        have s5 := hb5.size
        have s6 := hb6.size
        replace d0 := hb6.someCell d0
        replace d1 := hb6.someCell d1
        replace k0 := hb6.someCell k0
        replace k1 := hb6.someCell k1
        replace d2 := hb6.someCell d2
        replace d3 := hb6.someCell d3
        replace k2 := hb6.someCell k2
        replace k3 := hb6.someCell k3
        rcases hi with rfl | rfl | rfl
        · go_upto_region 9 with (fail)
          refine region_ext (by kernel_rfl) (by kernel_rfl) ?_; (repeat (go_big_quiet_step (fail))); refine wpQuiet_nil ?_; intro w1 hb; have ⟨hc, hf, hh, hs⟩ := hb.facts; try simp only [World.size_alloc, World.size_setCell, World.size_drew] at hs
          go_wp2
          go_roundw
          case rel => exact ⟨.inr (.inl rfl), (by repeat (first | exact Ext.refl _ | assumption | refine Ext.alloc ?_ _ | refine Ext.drew ?_ | refine Ext.setCell ?_ (by first | (simp; done) | (dsimp only; omega)) _ | refine Ext.trans ?_ (by assumption)))⟩
          case measure => simp [intOf]
        · go_upto_region 9 with (fail)
          refine region_ext (by kernel_rfl) (by kernel_rfl) ?_; (repeat (go_big_quiet_step (fail))); refine wpQuiet_nil ?_; intro w1 hb; have ⟨hc, hf, hh, hs⟩ := hb.facts; try simp only [World.size_alloc, World.size_setCell, World.size_drew] at hs
          go_wp2
          go_roundw
          case rel => exact ⟨.inr (.inr rfl), (by repeat (first | exact Ext.refl _ | assumption | refine Ext.alloc ?_ _ | refine Ext.drew ?_ | refine Ext.setCell ?_ (by first | (simp; done) | (dsimp only; omega)) _ | refine Ext.trans ?_ (by assumption)))⟩
          case measure => simp [intOf]
        · go_wp2
          go_ret
          exact ⟨rfl, (by repeat (first | exact Ext.refl _ | assumption | refine Ext.alloc ?_ _ | refine Ext.drew ?_ | refine Ext.setCell ?_ (by first | (simp; done) | (dsimp only; omega)) _ | refine Ext.trans ?_ (by assumption)))⟩

theorem pieceCuts_walk (W : World) (args : List Value) (hg : Glob W) (h : ArgsAre W [.int .u64, .int .i64] args) :
    Calls Tryd.prog 5 args.toArray W fun e w' => e = .returned (.bool true) ∧ Ext W w' := by
  obtain ⟨_, _, rfl, ⟨a, h2, ha⟩, _, _, rfl, ⟨n, h3, hn⟩, rfl⟩ := h
  simp only [List.cons.injEq, and_true] at h2 h3
  subst h2 h3
  have ⟨i0, i1⟩ := bounds_u64 ha
  have ⟨a0, a1⟩ := bounds_i64 hn
  exact pieceCuts_c _ _ W hg i0 i1 a0 a1

theorem pieceCutsDscs : okParams Tryd.prog [.int .u64, .int .i64] Tryd.f5.params.toList = true := by kernel_rfl
set_option maxRecDepth 100000 in
theorem pieceCuts_lifted (os : Os) (started : os.Started) (H : Type) (enc : TypeId × Value → H) :
    ReturnsInHanded {} Tryd.checked os 5 .any (fun w args => (Rows.pieceCutsSpec.pre enc Tryd.prog Tryd.f5 [] false w args ∧ laidMetH Tryd.prog Rows.pieceCutsRow.laid w) ∧ sizedMet enc Tryd.prog Tryd.f5 (OpenSpec.ofChange Rows.pieceCutsSpec) false w args)
      (Rows.pieceCutsSpec.post enc Tryd.prog Tryd.f5 false true false false) :=
  law_lift_laid (C := Tryd.checked) (X := fun w => laidMetH Tryd.prog Rows.pieceCutsRow.laid w) (fun _ _ hh h => h.of_heap hh) [.int .u64, .int .i64] (by kernel_rfl) started (by kernel_rfl) Tryd.func5
    (ChangeSpec.witness_at (enc := enc) (C := Tryd.checked) (os := os) (X := fun w _ => laidMetH Tryd.prog Rows.pieceCutsRow.laid w) false (laidWorld os) #[.int .u64 0, .int .i64 0] 8 rfl (by kernel_rfl) (by kernel_rfl) (by kernel_rfl) (by kernel_rfl) (by kernel_rfl) (laidMetH_of_parts (laidMet_nil _ _) (by kernel_rfl)))
    (by kernel_rfl) pieceCutsDscs rfl Tryd.underlying4 rfl (fun ds h => by
      first
        | (obtain ⟨a, rfl⟩ := len1 h; rfl)
        | (obtain ⟨a, b, rfl⟩ := len2 h; rfl)
        | (obtain ⟨a, b, c, rfl⟩ := len3 h; rfl)
        | (obtain ⟨a, b, c, d, rfl⟩ := len4 h; rfl)) (fun W args hL hA => pieceCuts_walk W args (glob_of_laid hL) hA)
theorem pieceCuts_holds : Rows.PieceCutsSaid :=
  OpenClaim.holds_of_wide 5 Tryd.f5 rfl rfl rfl rfl rfl rfl rfl ⟨rfl, rfl, rfl, rfl, rfl⟩ rfl rfl rfl rfl rfl (by kernel_rfl) Tryd.func5 (by kernel_rfl)
    (of_decide_eq_true (by kernel_rfl)) (by unfold Func.isWrapper; first | (rw [if_pos (by decide +kernel)]; kernel_rfl) | (rw [if_neg (by decide +kernel)]; exact ⟨rfl, rfl⟩))
    (fun os started H enc _ => pieceCuts_lifted os started H enc)
#print axioms pieceCuts_holds
end Go.Proofs.YtjlgfkhkjfiadaaDoor
