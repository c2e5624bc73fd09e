/- CacheEvicts: picked, one line is gone, the one at that place; cleared, all are: for every room, all deeds and every pick. -/
import Derived.Test.YtnacgmmkmedpdaaLawCF
namespace Go.Proofs.Ytnacgmmkmedpdaa
set_option linter.unusedVariables false
set_option linter.unusedSimpArgs false
open Go.RowKit
attribute [local go_sem] wext_cell wext_frozen wext_heap alloc_cell alloc_frozen alloc_heap setCell_cell objCell_cells objFrozen_cells

theorem evictL_gone {pick : Int} {L : List (Key × Line)} {q : Nat} (hn : (keysOf L).Nodup) (hq : pickI pick L.length = q) (hl : q < L.length) : hasK (kAt (keysOf L) q) (evictL pick L) = false := by
  cases h : hasK (kAt (keysOf L) q) (evictL pick L) with
  | false => rfl
  | true =>
    exfalso
    have hm := hasK_iff.1 h
    unfold evictL at hm
    rw [if_neg (by omega), hq, show ((q : Int)).toNat = q by omega, keysOf_erase] at hm
    have hlt : q < (keysOf L).length := by rw [keysOf_length]; exact hl
    have hk : kAt (keysOf L) q = (keysOf L)[q] := by simp [kAt, List.getD, hlt]
    have hs : keysOf L = (keysOf L).take q ++ (keysOf L)[q] :: (keysOf L).drop (q + 1) := by rw [List.getElem_cons_drop, List.take_append_drop]
    rw [hk] at hm
    generalize (keysOf L)[q] = k at hm hs
    rw [hs] at hn
    have h2 := List.nodup_append.1 hn
    have h3 := List.nodup_cons.1 h2.2.1
    rcases List.mem_append.1 hm with hm | hm
    · exact h2.2.2 k hm k (by simp) rfl
    · exact h3.1 hm

set_option maxHeartbeats 2000000 in
set_option maxRecDepth 20000 in
theorem cacheEvicts_c (room : Int) (v : Value) (ds : List Deed) (pick : Int) (w : World) (h0 : 0 ≤ room) (h1 : room ≤ 255) (hds : DeedsAt w v ds) (hp0 : -9223372036854775808 ≤ pick) (hp1 : pick ≤ 9223372036854775807) :
    Calls Try.prog 5 #[.int .u8 room, v, .int .i64 pick] w fun e w' => e = .returned (.bool true) ∧ Ext w w' := by
  have hrun := fun w' (hx : Ext w w') => run_c room v ds w' h0 h1 (hds.ext hx)
  obtain ⟨a, cap, rfl, hn, hm, -, -⟩ := hds
  unfold EndRun at hrun
  generalize foldD (1 + (room % 8).toNat) (ds.take 120) = L at hrun
  generalize 1 + (room % 8).toNat = r at hrun
  have HR := Lib.hid hrun
  clear hrun
  go_enter Try.func5, Try.ntmps5
  go_upto_region 3 with (first | (go_at_call 21; refine (awake10_c _).mono ?_; rintro e w1 ⟨rfl, hb1⟩) | (go_at_call 26; refine (HR.out _ hb1).mono ?_; rintro e w2 ⟨cb, F, rfl, hC2, hE2, hF2⟩))
  have hF3 : ∀ x ∈ F, w.heap.size ≤ x := fun x hx => by have := hF2 x hx; have := hb1.size; omega
  have E2 := hb1.trans hE2
  have HC2 := Lib.hid hC2
  have HF := Lib.hid hF3
  have HE2 := Lib.hid E2
  have hlt := Lib.hid hC2.lt
  have hnd := Lib.hid hC2.nodup
  have ⟨hr1, hr2⟩ := hC2.room
  clear hC2 hE2 hF2 hF3 hb1 E2
  have k4 := keysOf_length L
  go_upto_region 6 with (first | (go_at_call 25; refine (keys_c cb F L r _ (HC2.out.ext (by repeat (first | exact Ext.refl _ | assumption | refine Ext.alloc ?_ _ | refine Ext.drew ?_ | refine Ext.setCell ?_ (by first | (simp; done) | (dsimp only; omega)) _ | refine Ext.trans ?_ (by assumption))))).mono ?_; rintro e w3 ⟨v3, rfl, hv3, hE3, hG3⟩; obtain ⟨a3, c3, rfl, hn3, hm3⟩ := hv3.form))
  unfold maxLen at hm3
  rw [k4] at hv3 hn3 hG3
  have hG : ∀ g, (Value.slice a3 L.length c3).ownBlock = some g → g ∉ F := fun g hg hx => by have := hG3 g hg; have := hlt.out g hx; omega
  have HV3 := Lib.hid hv3
  have HE3 := Lib.hid hE3
  have HG := Lib.hid hG
  have HC3 := Lib.hid (HC2.out.ext hE3)
  clear hv3 hE3 hG3 hG
  go_upto_region 7 with (first | (go_at_call 30; refine (evict_c cb F L r pick _ (HC3.out.ext (by repeat (first | exact Ext.refl _ | assumption | refine Ext.alloc ?_ _ | refine Ext.drew ?_ | refine Ext.setCell ?_ (by first | (simp; done) | (dsimp only; omega)) _ | refine Ext.trans ?_ (by assumption)))) hp0 hp1).mono ?_; rintro e w4 ⟨rfl, F4, hC4, hK4, hF4⟩))
  have hF44 : ∀ x ∈ F4, w.heap.size ≤ x := fun x hx => (hF4 x hx).elim (HF.out x) fun h => by have := HE2.out.size; have := HE3.out.size; omega
  have E4 : Ext w w4 := Keeps.to_ext (HE2.out.trans HE3.out) hK4 HF.out
  have HV4 := Lib.hid (HV3.out.keep fun g hg => hK4.block g (HV3.out.lt g hg) (HG.out g hg))
  have HC4 := Lib.hid hC4
  have HE4 := Lib.hid E4
  have HF4 := Lib.hid hF44
  have k5 := keysOf_length (evictL pick L)
  have hlen4 : L.length ≠ 0 → (evictL pick L).length = L.length - 1 := fun h => evictL_length (by omega)
  have hgone := fun q (hq : pickI pick L.length = (q : Nat)) hl => evictL_gone hnd.out hq hl
  have HG4 := Lib.hid hgone
  have hle4 : (evictL pick L).length ≤ L.length := evictL_sub.length_le
  generalize evictL pick L = L4 at HC4 k5 hlen4 HG4 hle4
  clear hgone hC4 hK4 hF4 hF44 E4
  go_upto_region 8 with (first | (go_at_call 25; refine (keys_c cb F4 L4 r _ (HC4.out.ext (by repeat (first | exact Ext.refl _ | assumption | refine Ext.alloc ?_ _ | refine Ext.drew ?_ | refine Ext.setCell ?_ (by first | (simp; done) | (dsimp only; omega)) _ | refine Ext.trans ?_ (by assumption))))).mono ?_; rintro e w5 ⟨v5, rfl, hv5, hE5, hG5⟩; obtain ⟨a5, c5, rfl, hn5, hm5⟩ := hv5.form))
  unfold maxLen at hm5
  rw [k5] at hn5
  have HV5 := Lib.hid (HV4.out.ext hE5)
  have HC5 := Lib.hid (HC4.out.ext hE5)
  have HE5 := Lib.hid (HE4.out.trans hE5)
  clear hv5 hE5 hG5
  by_cases hz : L.length = 0
  · have hz4 : L4.length = 0 := by omega
    go_wp2
    go_ret
    exact ⟨rfl, HE5.out.trans (by repeat (first | exact Ext.refl _ | assumption | refine Ext.alloc ?_ _ | refine Ext.drew ?_ | refine Ext.setCell ?_ (by first | (simp; done) | (dsimp only; omega)) _ | refine Ext.trans ?_ (by assumption)))⟩
  · have hq1 := Int.emod_nonneg pick (b := (L.length : Int)) (by omega)
    have hq2 := Int.emod_lt_of_pos pick (b := (L.length : Int)) (by omega)
    obtain ⟨q, hq⟩ : ∃ q : Nat, pickI pick L.length = q := ⟨(pickI pick L.length).toNat, by unfold pickI; omega⟩
    have hql : q < L.length := by unfold pickI at hq; omega
    have hpc := fun w => picked_c pick L.length w hp0 hp1 (by omega) (by omega)
    rw [hq] at hpc
    have HP := Lib.hid hpc
    have hno := HG4.out q hq hql
    obtain ⟨z0, z1, z2⟩ := rowK_get (keysOf L) q (by omega)
    obtain ⟨g, rfl⟩ : ∃ g, a3 = some ⟨g, 0, none⟩ := by
      rcases HV5.out.2 with ⟨_, h0⟩ | ⟨g, _, _, he, _⟩
      · omega
      · exact ⟨g, by injection he⟩
    have y0 := HV5.out.cells (g := g) rfl _ _ z0
    have y1 := HV5.out.cells (g := g) rfl _ _ z1
    have y2 := HV5.out.cells (g := g) rfl _ _ z2
    have hget := fun w1 hx => get_c cb F4 L4 r (kAt (keysOf L) q) w1 (HC5.out.ext hx)
    have hgl := HV5.out.lt g rfl
    rw [hno] at hget
    generalize kAt (keysOf L) q = kk at hget y0 y1 y2
    obtain ⟨p, l, t⟩ := kk
    generalize getLine ⟨p, l, t⟩ L4 = yy at hget
    obtain ⟨yf, ya, yb, yc, yd, ym⟩ := yy
    unfold Key.val Line.val at hget
    have HGet := Lib.hid hget
    have hl4 := hlen4 hz
    clear hpc hq hno z0 z1 z2 hget hq1 hq2 hlen4 HG4
    go_upto_region 11 with (first | (go_at_call 31; refine (HP.out _).mono ?_; rintro e w6 ⟨rfl, hb6⟩))
    have y0 := hb6.someCell y0
    have y1 := hb6.someCell y1
    have y2 := hb6.someCell y2
    go_upto_region 12 with (first | (go_at_call 29; refine (HGet.out _ (hb6.trans (by repeat (first | exact Ext.refl _ | assumption | refine Ext.alloc ?_ _ | refine Ext.drew ?_ | refine Ext.setCell ?_ (by first | (simp; done) | (dsimp only; omega)) _ | refine Ext.trans ?_ (by assumption))))).mono ?_; rintro e w7 ⟨rfl, hb7⟩))
    refine wp_gen ?_; intro W hW
    have EW : Hid (Ext w5 W) := Lib.hid (by rw [hW]; exact (hb6.trans (Ext.trans (by repeat (first | exact Ext.refl _ | assumption | refine Ext.alloc ?_ _ | refine Ext.drew ?_ | refine Ext.setCell ?_ (by first | (simp; done) | (dsimp only; omega)) _ | refine Ext.trans ?_ (by assumption))) hb7)).alloc _)
    have HCW := Lib.hid (HC5.out.ext EW.out)
    have HEW := Lib.hid (HE5.out.trans EW.out)
    clear hW hb6 hb7 y0 y1 y2
    go_upto_region 14 with (first | (go_at_call 32; refine (clear_c cb F4 L4 r _ (HCW.out.ext (by repeat (first | exact Ext.refl _ | assumption | refine Ext.alloc ?_ _ | refine Ext.drew ?_ | refine Ext.setCell ?_ (by first | (simp; done) | (dsimp only; omega)) _ | refine Ext.trans ?_ (by assumption))))).mono ?_; rintro e w8 ⟨rfl, F8, hC8, hK8, hF8⟩))
    have HC8 := Lib.hid hC8
    have HE8 : Hid (Ext w w8) := Lib.hid (Keeps.to_ext HEW.out hK8 HF4.out)
    clear hC8 hK8 hF8
    go_wp2_with (first | (go_at_call 25; refine (keys_c cb F8 [] r _ (HC8.out.ext (by repeat (first | exact Ext.refl _ | assumption | refine Ext.alloc ?_ _ | refine Ext.drew ?_ | refine Ext.setCell ?_ (by first | (simp; done) | (dsimp only; omega)) _ | refine Ext.trans ?_ (by assumption))))).mono ?_; rintro e w9 ⟨v9, rfl, hv9, hE9, hG9⟩; obtain ⟨a9, c9, rfl, hn9, hm9⟩ := hv9.form; clear hv9 hG9; replace hE9 := hE9))
    go_ret
    exact ⟨rfl, HE8.out.trans (by repeat (first | exact Ext.refl _ | assumption | refine Ext.alloc ?_ _ | refine Ext.drew ?_ | refine Ext.setCell ?_ (by first | (simp; done) | (dsimp only; omega)) _ | refine Ext.trans ?_ (by assumption)))⟩

theorem cacheEvicts_walk (W : World) (args : List Value) (h : ArgsAre W [.int .u8, .slice deedD, .int .i64] args) :
    Calls Try.prog 5 args.toArray W fun e w' => e = .returned (.bool true) ∧ Ext W w' := by
  obtain ⟨_, _, rfl, ⟨a, h2, ha⟩, v, _, rfl, hv, _, _, rfl, ⟨n, h3, hn⟩, rfl⟩ := h
  simp only [List.cons.injEq, and_true] at h2 h3
  subst h2 h3
  obtain ⟨ds, hds⟩ := deeds_of hv
  have ⟨i0, i1⟩ := bounds_u8 ha
  have ⟨a0, a1⟩ := bounds_i64 hn
  exact cacheEvicts_c a v ds n W i0 i1 hds a0 a1

theorem cacheEvictsDscs : okParams Try.prog [.int .u8, .slice deedD, .int .i64] Try.f5.params.toList = true := by kernel_rfl
set_option maxRecDepth 100000 in
theorem cacheEvicts_lifted (os : Os) (started : os.Started) (H : Type) (enc : TypeId × Value → H) :
    ReturnsInHanded {} Try.checked os 5 .any (Rows.cacheEvictsSpec.pre6 enc Try.prog Try.f5 Rows.cacheEvictsRow.domain false) (Rows.cacheEvictsSpec.post enc Try.prog Try.f5 false true false false) :=
  law_lift (C := Try.checked) [.int .u8, .slice deedD, .int .i64] (by kernel_rfl) started (by kernel_rfl) Try.func5
    (ChangeSpec.witness6 (enc := enc) (C := Try.checked) false ⟨#[], #[.int .u8 0, .slice none 0 0, .int .i64 0], []⟩ 8 (by kernel_rfl) (by kernel_rfl) (by kernel_rfl) (by kernel_rfl))
    (by kernel_rfl) cacheEvictsDscs rfl Try.underlying4 rfl (fun ds h => by
      first
        | (obtain ⟨a, rfl⟩ := len1 h; rfl)
        | (obtain ⟨a, b, rfl⟩ := len2 h; rfl)
        | (obtain ⟨a, b, c, rfl⟩ := len3 h; rfl)
        | (obtain ⟨a, b, c, d, rfl⟩ := len4 h; rfl)) cacheEvicts_walk
theorem cacheEvicts_holds : Rows.CacheEvictsSaid :=
  OpenClaim.holds_of_wide 5 Try.f5 rfl rfl rfl rfl rfl rfl rfl ⟨rfl, rfl, rfl, rfl, rfl⟩ rfl rfl rfl rfl rfl (by kernel_rfl) Try.func5 (by kernel_rfl)
    (of_decide_eq_true (by kernel_rfl)) (by unfold Func.isWrapper; first | (rw [if_pos (by decide +kernel)]; kernel_rfl) | (rw [if_neg (by decide +kernel)]; exact ⟨rfl, rfl⟩))
    (fun os started H enc _ => cacheEvicts_lifted os started H enc)
#print axioms cacheEvicts_holds
end Go.Proofs.Ytnacgmmkmedpdaa
