/- Joined texts, part 38 of what the law stands on: each as its own head says. -/
import Derived.Test.YtkfonacokamfiaaGreatGoz37
/- The document's reserved bits; rights. -/
namespace Go.Proofs.YtkfonacokamfiaaGreat
set_option linter.unusedVariables false
set_option linter.unusedSimpArgs false
open Go.RowKit
attribute [local go_sem] wext_cell wext_frozen wext_heap alloc_cell alloc_frozen alloc_heap setCell_cell objCell_cells objFrozen_cells
set_option maxHeartbeats 1600000 in
theorem rAnd_c (a b c : Bool) (x : Int) (w : World) (hx : 0 ≤ x) (hx1 : x ≤ 18446744073709551615) :
  Calls Tryz.prog 61 #[.agg #[.bool a, .bool b, .bool c], .int .u64 x] w fun e w' =>
   e = .returned (.agg #[.bool (a && bitB x 1), .bool (b && bitB x 2), .bool (c && !bitB x 63)]) ∧ Ext w w' := by
 cases a <;> cases b <;> cases c
 all_goals
  go_enter Tryz.func61, Tryz.ntmps61
  go_upto_region 1 with (fail)
  refine region_ext_tail 20 (by kernel_rfl) (by kernel_rfl) ?_; simp only [List.take_succ_cons, List.take_zero, List.drop_succ_cons, List.drop_zero]; (repeat (go_big_quiet_step ((go_at_call 59; exact calls_wext (bit_c _ _ _ hx hx1 (by omega) (by omega)))))); refine wpQuiet_nil ?_; intro w1 hb; have ⟨hc, hf, hh, hs⟩ := hb.facts; try simp only [World.size_alloc, World.size_setCell, World.size_drew] at hs
  go_wp2
  refine bodyPost_ret (by simp [results, Tryz.results61, go_sem, *]; rfl) rfl ⟨by simp, (by repeat (first | exact Ext.refl _ | assumption | refine Ext.alloc ?_ _ | refine Ext.drew ?_ | refine Ext.setCell ?_ (by first | (simp; done) | (dsimp only; omega)) _ | refine Ext.trans ?_ (by assumption)))⟩
theorem gI_step (x i : Int) (k : Nat) (h0 : 0 ≤ x) (hi : 0 ≤ i) : (gI x i ((k : Int) + 1) != 0) = (bitB x i || gI x (i + 1) k != 0) := by
 unfold gI bitB
 obtain ⟨n, rfl⟩ : ∃ n : Nat, i = n := ⟨i.toNat, by omega⟩
 have e1 : pow2 ((n : Int) + 1) = pow2 n * 2 := by unfold pow2; rw [show ((n : Int) + 1).toNat = n + 1 by omega, show ((n : Int)).toNat = n by omega, Nat.pow_succ]; omega
 have e2 : pow2 ((k : Int) + 1) = 2 * pow2 k := by unfold pow2; rw [show ((k : Int) + 1).toNat = k + 1 by omega, show ((k : Int)).toNat = k by omega, Nat.pow_succ]; omega
 rw [e1, e2, ← Int.ediv_ediv_of_nonneg (by have := pow2_pos (n : Int); omega)]
 have hy : 0 ≤ x / pow2 n := Int.ediv_nonneg h0 (by have := pow2_pos (n : Int); omega)
 generalize x / pow2 n = y at hy
 have hp := pow2_pos (k : Int)
 generalize pow2 (k : Int) = p at hp
 have e3 : y % (2 * p) = y % 2 + 2 * (y / 2 % p) := by
  have h1 := Int.emod_add_mul_ediv y (2 * p)
  have h2 := Int.emod_add_mul_ediv (y / 2) p
  have h3 : y / (2 * p) = y / 2 / p := (Int.ediv_ediv_of_nonneg (by omega)).symm
  rw [h3, Int.mul_assoc] at h1
  omega
 have h4 := Int.emod_nonneg (y / 2) (b := p) (by omega)
 rw [e3]
 by_cases h5 : y % 2 = 1
 ·simp [h5]; omega
 ·have : y % 2 = 0 := by omega
  rw [this]
  by_cases h6 : y / 2 % p = 0
  ·simp [h6]
  ·have k1 : (2 * (y / 2 % p) != 0) = true := by rw [bne_iff_ne]; omega
   have k2 : (y / 2 % p != 0) = true := by rw [bne_iff_ne]; exact h6
   rw [k2]; simp; omega
theorem gI_zero (x i : Int) : (gI x i 0 != 0) = false := by unfold gI; rw [show pow2 0 = 1 from rfl, Int.emod_one]; rfl
def someB (x f t : Int) : Bool := gI x f (t + 1 - f) != 0
set_option maxHeartbeats 1000000 in
theorem rSome_c (x f t : Int) (w : World) (h0 : 0 ≤ x) (h1 : x ≤ 18446744073709551615) (hf : 0 ≤ f) (hft : f ≤ t + 1) (ht : t ≤ 62) :
  Calls Tryz.prog 85 #[.int .u64 x, .int .i64 f, .int .i64 t] w fun e w' => e = .returned (.bool (someB x f t)) ∧ Ext w w' := by
 have HB := Lib.hid (fun i w (hi0 : (0 : Int) ≤ i) (hi1 : i ≤ 63) => bit_c x i w h0 h1 hi0 hi1)
 have hst : ∀ i, 0 ≤ i → i ≤ t → someB x i t = (bitB x i || someB x (i + 1) t) := fun i hi hit => by
  unfold someB
  have := gI_step x i (t - i).toNat h0 hi
  rw [show (((t - i).toNat : Nat) : Int) + 1 = t + 1 - i by omega, show (((t - i).toNat : Nat) : Int) = t + 1 - (i + 1) by omega] at this
  exact this
 have HS := Lib.hid hst
 have HZ : Hid (someB x (t + 1) t = false) := Lib.hid (by unfold someB; rw [show t + 1 - (t + 1) = 0 by omega]; exact gI_zero x _)
 generalize hq : bitB x = q at HB HS
 generalize someB x = s at HS HZ ⊢
 clear hst hq
 go_enter Tryz.func85, Tryz.ntmps85
 go_wp2
 go_loopw [7] (fun i wr => ∃ j : Int, f ≤ j ∧ j ≤ t + 1 ∧ i = .int .i64 j ∧ Hid (Ext w wr ∧ s f t = s j t)) (fun i _ => (t + 1 - intOf i).toNat)
 case atStart => exact ⟨f, by omega, by omega, rfl, Lib.hid ⟨Ext.refl _, rfl⟩⟩
 case round =>
  obtain ⟨j, hj, hjt, rfl, hR⟩ := hrel
  by_cases hlt : j ≤ t
  ·have HBj := Lib.hid (fun w => HB.out j w (by omega) (by omega))
   have hs := HS.out j (by omega) hlt
   have h2 := hR.out.2
   rw [hs] at h2
   have HR2 := Lib.hid h2
   clear hs h2
   cases hqj : q j
   ·rw [hqj] at HR2 HBj
    go_wp2_with (first | (go_at_call 59; refine (HBj.out _).mono ?_; rintro e w1 ⟨rfl, hb1⟩))
    refine ⟨⟨j + 1, by omega, by omega, by go_num, Lib.hid ⟨hR.out.1.trans (by repeat (first | exact Ext.refl _ | assumption | refine Ext.alloc ?_ _ | refine Ext.drew ?_ | refine Ext.setCell ?_ (by first | (simp; done) | (dsimp only; omega)) _ | refine Ext.trans ?_ (by assumption))), by rw [HR2.out]; simp⟩⟩, by simp [intOf]; omega⟩
   ·rw [hqj] at HR2 HBj
    go_wp2_with (first | (go_at_call 59; refine (HBj.out _).mono ?_; rintro e w1 ⟨rfl, hb1⟩))
    all_goals
     (try go_ret)
     exact ⟨by rw [HR2.out]; simp, hR.out.1.trans (by repeat (first | exact Ext.refl _ | assumption | refine Ext.alloc ?_ _ | refine Ext.drew ?_ | refine Ext.setCell ?_ (by first | (simp; done) | (dsimp only; omega)) _ | refine Ext.trans ?_ (by assumption)))⟩
  ·have e : j = t + 1 := by omega
   have HR2 : Hid (s f t = false) := Lib.hid (by rw [hR.out.2, e]; exact HZ.out)
   clear e
   go_wp2
   all_goals
    (try go_ret)
    exact ⟨by rw [HR2.out]; rfl, hR.out.1.trans (by repeat (first | exact Ext.refl _ | assumption | refine Ext.alloc ?_ _ | refine Ext.drew ?_ | refine Ext.setCell ?_ (by first | (simp; done) | (dsimp only; omega)) _ | refine Ext.trans ?_ (by assumption)))⟩
def resK (l : Int) (nxe : Bool) (sB s8 s17 q7 q63 : Bool) : Bool := sB || (q63 && !nxe) || (l == 4 && q7) || (l == 2 && q7 && s8) || (l == 3 && q7 && s17)
theorem resK_is (x l B : Int) (nxe : Bool) : resI x l B nxe = resK l nxe (someB x B 51) (someB x 13 20) (someB x 13 29) (bitB x 7) (bitB x 63) := by
 unfold someB resK
 rw [show (51 : Int) + 1 - B = 52 - B by omega]
 rfl
set_option maxHeartbeats 4000000 in
set_option maxRecDepth 20000 in
theorem rReserved_c (x l B : Int) (nxe : Bool) (w : World) (hl0 : 1 ≤ l) (hl1 : l ≤ 4) (h0 : 0 ≤ x) (h1 : x ≤ 18446744073709551615) (hB0 : 14 ≤ B) (hB1 : B ≤ 22) :
  Calls Tryz.prog 60 #[.int .u64 x, .int .i64 l, .int .i64 B, .bool nxe] w fun e w' => e = .returned (.bool (resI x l B nxe)) ∧ Ext w w' := by
 have HB := Lib.hid (fun i w (hi0 : (0 : Int) ≤ i) (hi1 : i ≤ 63) => bit_c x i w h0 h1 hi0 hi1)
 have HS := Lib.hid (fun f t w (k0 : (0 : Int) ≤ f) (k1 : f ≤ t + 1) (k2 : t ≤ 62) => rSome_c x f t w h0 h1 k0 k1 k2)
 have HL := Lib.hid (fun l w (k0 : (1 : Int) ≤ l) (k1 : l ≤ 4) => rLeaf_c x l w h0 h1 k0 k1)
 have hlf : ∀ l, leafI x l = (l == 1 || ((l == 2 || l == 3) && bitB x 7)) := fun l => rfl
 have HL2 : Hid (∀ l w, 2 ≤ l → l ≤ 3 → Calls Tryz.prog 62 #[.int .u64 x, .int .i64 l] w fun e w' => e = .returned (.bool (bitB x 7)) ∧ Ext w w') := Lib.hid (fun l w k0 k1 => by
  have := HL.out l w (by omega) (by omega)
  rw [hlf] at this
  have e : (l == 1 || ((l == 2 || l == 3) && bitB x 7)) = bitB x 7 := by
   rcases (show l = 2 ∨ l = 3 by omega) with rfl | rfl <;> simp
  rw [e] at this
  exact this)
 rw [resK_is]
 generalize bitB x = q at HB HL2 ⊢
 generalize someB x = s at HS ⊢
 clear hlf HL
 obtain ⟨q7, h7⟩ : ∃ b, q 7 = b := ⟨_, rfl⟩
 obtain ⟨q63, h63⟩ : ∃ b, q 63 = b := ⟨_, rfl⟩
 obtain ⟨sB, hsB⟩ : ∃ b, s B 51 = b := ⟨_, rfl⟩
 obtain ⟨s8, hs8⟩ : ∃ b, s 13 20 = b := ⟨_, rfl⟩
 obtain ⟨s17, hs17⟩ : ∃ b, s 13 29 = b := ⟨_, rfl⟩
 rcases (show l = 1 ∨ l = 2 ∨ l = 3 ∨ l = 4 by omega) with rfl | rfl | rfl | rfl
 all_goals
  clear hl0 hl1
  go_enter Tryz.func60, Tryz.ntmps60
  go_wp2_with (first | (go_at_call 85; refine (HS.out _ _ _ (by omega) (by omega) (by omega)).mono ?_; rintro e w1 ⟨rfl, hb⟩) | (go_at_call 59; refine (HB.out _ _ (by omega) (by omega)).mono ?_; rintro e w1 ⟨rfl, hb⟩) | (go_at_call 62; refine (HL2.out _ _ (by omega) (by omega)).mono ?_; rintro e w1 ⟨rfl, hb⟩))
  all_goals
   go_ret
   exact ⟨by unfold resK; simp_all, (by repeat (first | exact Ext.refl _ | assumption | refine Ext.alloc ?_ _ | refine Ext.drew ?_ | refine Ext.setCell ?_ (by first | (simp; done) | (dsimp only; omega)) _ | refine Ext.trans ?_ (by assumption)))⟩
end Go.Proofs.YtkfonacokamfiaaGreat
