/- Joined texts, part 50 of what the law stands on: each as its own head says. -/
import Derived.Test.YtkfonacokamfiaaGreatGoz22
import Derived.Test.YtkfonacokamfiaaGreatGoz30
import Derived.Test.YtkfonacokamfiaaGreatGoz49
/- The document's Sign and Canon. (The tail of XRef3, for a seat that has XRefB.) -/
namespace Go.Proofs.YtkfonacokamfiaaGreat
set_option linter.unusedVariables false
set_option linter.unusedSimpArgs false
open Go.RowKit
attribute [local go_sem] wext_cell wext_frozen wext_heap alloc_cell alloc_frozen alloc_heap setCell_cell objCell_cells objFrozen_cells
def signBits (a j : Nat) : Nat → Bool := fun i => if 48 ≤ i ∧ i < j then a.testBit 47 else a.testBit i
theorem sign_sum (a : Nat) (h : a ≤ 18446744073709551615) : ((sumBits (signBits a 64) 64 : Nat) : Int) = signI (a : Int) := by
 have e : sumBits (signBits a 64) 64 = if a % 281474976710656 < 140737488355328 then a % 281474976710656 else a % 281474976710656 + 18446462598732840960 := by
  have h47 : a.testBit 47 = decide (¬ a % 281474976710656 < 140737488355328) := by
   rw [Nat.testBit_eq_decide_div_mod_eq, decide_eq_decide]; omega
  have hm : ∀ i, (a % 281474976710656).testBit i = (decide (i < 48) && a.testBit i) := fun i => Nat.testBit_mod_two_pow a 48 i
  apply Nat.eq_of_testBit_eq
  intro i
  rw [sumBits_testBit]
  split
  ·rename_i hlt
   rw [hm]
   unfold signBits
   by_cases h48 : i < 48
   ·rw [if_neg (by omega)]; simp [h48, show i < 64 by omega]
   ·by_cases h64 : i < 64
    ·rw [if_pos (by omega), h47]; simp [h48, hlt]
    ·simp [h48, h64]
  ·rename_i hlt
   have e2 : a % 281474976710656 + 18446462598732840960 = ((2 ^ 16 - 1) <<< 48) ||| (a % 281474976710656) := by
    rw [nat_join 48 _ _ (by rw [Nat.shiftLeft_eq]) (by omega), Nat.shiftLeft_eq]; omega
   rw [e2, Nat.testBit_or, hm, Nat.testBit_shiftLeft, Nat.testBit_two_pow_sub_one]
   unfold signBits
   by_cases h48 : i < 48
   ·rw [if_neg (by omega)]; simp [h48, show i < 64 by omega, show ¬ 48 ≤ i by omega]
   ·by_cases h64 : i < 64
    ·rw [if_pos (by omega), h47]; simp [h48, hlt, h64]; omega
    ·simp [h48, h64]; omega
 rw [e]
 unfold signI
 split <;> split <;> omega
theorem refSign_c (a : Nat) (w : World) (h : a ≤ 18446744073709551615) :
  Calls Tryz.prog 65 #[.int .u64 (a : Int)] w fun e w' => e = .returned (.int .u64 (signI (a : Int))) ∧ Ext w w' := by
 have HS := Aside.mk (sign_sum a h)
 go_enter Tryz.func65, Tryz.ntmps65
 go_wp2
 go_loopw [0, 3] (fun r i wr => ∃ j S : Nat, 48 ≤ j ∧ j ≤ 64 ∧ i = .int .i64 (j : Int) ∧ r = .int .u64 (S : Int) ∧ Aside (S = sumBits (signBits a j) 64) ∧ Ext w wr) (fun _ i _ => 64 - (intOf i).toNat)
 case atStart =>
  refine ⟨48, a, by omega, by omega, rfl, rfl, ?_, Ext.refl _⟩
  refine ⟨?_⟩
  rw [sumBits_congr (g := a.testBit) (fun i _ => by unfold signBits; rw [if_neg (by omega)]), sumBits_eq (by omega)]
 case round =>
  obtain ⟨j, S, hj0, hj, rfl, rfl, HSS, hb⟩ := hrel
  have HB := Lib.hid hb
  clear hb
  have s1 : S ≤ 18446744073709551615 := by have := sumBits_lt (signBits a j) 64; rw [HSS.out]; omega
  by_cases hlt : j < 64
  ·have e1 : bitB (S : Int) 47 = a.testBit 47 := by
    rw [show (47 : Int) = ((47 : Nat) : Int) from rfl, bitB_testBit, HSS.out, sumBits_testBit]; simp [signBits]
   obtain ⟨b47, hb47⟩ : ∃ b, b = a.testBit 47 := ⟨_, rfl⟩
   rw [← hb47] at e1
   have E2 : Aside (withN S j b47 = sumBits (signBits a (j + 1)) 64) := ⟨sumBits_congr fun k hk => by
    rw [HSS.out, sumBits_testBit, hb47]
    unfold signBits
    by_cases hkj : k = j
    ·subst hkj; simp [hj0]
    ·rw [if_neg hkj]
     by_cases h48 : 48 ≤ k ∧ k < j
     ·rw [if_pos h48, if_pos (by omega)]; simp [hk]
     ·rw [if_neg h48, if_neg (by omega)]; simp [hk]⟩
   clear hb47
   go_wp2_with (first | (go_at_call 59; refine (bit_c _ _ _ (by omega) (by omega) (by omega) (by omega)).mono ?_; rintro e w1 ⟨rfl, hb⟩) | (go_at_call 88; refine (refWith_c _ _ _ _ (by omega) (by omega)).mono ?_; rintro e w1 ⟨rfl, hb⟩))
   go_roundw
   case rel => exact ⟨j + 1, _, by omega, by omega, by go_num, rfl, E2, HB.out.trans (by repeat (first | exact Ext.refl _ | assumption | refine Ext.alloc ?_ _ | refine Ext.drew ?_ | refine Ext.setCell ?_ (by first | (simp; done) | (dsimp only; omega)) _ | refine Ext.trans ?_ (by assumption)))⟩
   case measure => simp [intOf]; omega
  ·obtain rfl : j = 64 := by omega
   go_wp2
   go_ret
   exact ⟨by rw [← HS.out, ← HSS.out]; rfl, HB.out⟩
theorem refCanon_c (a : Int) (w : World) (h0 : 0 ≤ a) (h1 : a ≤ 18446744073709551615) :
  Calls Tryz.prog 31 #[.int .u64 a] w fun e w' => e = .returned (.bool (canonB a)) ∧ Ext w w' := by
 have HC := Lib.hid (canon_eq h0 h1)
 have hsg : ∀ w, Calls Tryz.prog 65 #[.int .u64 a] w fun e w' => e = .returned (.int .u64 (signI a)) ∧ Ext w w' := fun w => by
  have := refSign_c a.toNat w (by omega)
  rwa [Int.toNat_of_nonneg h0] at this
 have HSG := Lib.hid hsg
 clear hsg
 go_enter Tryz.func31, Tryz.ntmps31
 go_wp2_with (first | (go_at_call 65; refine (HSG.out _).mono ?_; rintro e w1 ⟨rfl, hb⟩))
 go_ret
 exact ⟨by rw [← HC.out]; rfl, hb⟩
end Go.Proofs.YtkfonacokamfiaaGreat
/- The document's quick translation: Fire. Printed by mkfire.py. Own text. -/
namespace Go.Proofs.YtkfonacokamfiaaGreat
set_option linter.unusedVariables false
set_option linter.unusedSimpArgs false
open Go.RowKit
attribute [local go_sem] wext_cell wext_frozen wext_heap alloc_cell alloc_frozen alloc_heap setCell_cell objCell_cells objFrozen_cells
theorem StAt.other {w w' : World} {h : SPh} {S : List (Int × Int)} {M : Int → Int} {T : List Int} {L : Lines} {r : Nat} {C : Int → Lines} {q : Nat} (H : StAt w h S M T L r C q) {b : Nat} {cs : Array Value} {t : TypeId} (hb : w.heap[b]? = some (.cells cs t (0, 0)))
  (h1 : t ≠ 227) (h2 : t ≠ 113) (h3 : t ≠ 23) (hk : ∀ g, b ≠ g → w'.heap[g]? = w.heap[g]?) : StAt w' h S M T L r C q :=
 ⟨Owns.keep H.slots fun g hg => hk g (Owns.ne H.slots hb (fun e => h2 e.symm) g hg), Owns.keep H.trace fun g hg => hk g (Owns.ne H.trace hb (fun e => h3 e.symm) g hg), H.lines.other hb h1 hk, H.psc.other hb h1 hk, H.ok, H.room, H.rooms⟩
def REndFire (h : SPh) (n : Nat) (r q : Nat) (z : OSt × Bool) (w : World) (e : Ending) (w' : World) : Prop :=
 ∃ h' S', e = .returned (.tuple #[.agg (stV h' S' z.1.T z.1.L r z.1.C q), .bool z.2]) ∧ StAt w' h' S' z.1.M z.1.T z.1.L r z.1.C q ∧ S'.length ≤ n + 4 ∧ Ext w w' ∧ FreshT w h.ta h'.ta
set_option maxHeartbeats 4000000 in
set_option maxRecDepth 100000 in
theorem rfire_c (h : SPh) (S : List (Int × Int)) (M : Int → Int) (T : List Int) (L : Lines) (r : Nat) (C : Int → Lines) (q : Nat) (u : Who) (kd a : Int) (us ac wp sp sm : Bool) (w : World) (H : StAt w h S M T L r C q) (hL : LOk L) (hC : COk C) (hSl : S.length ≤ 900000) (hTl : T.length ≤ 890000) (hu : u.ok) (h0 : 0 ≤ a) (h1 : a ≤ 18446744073709551615) :
  Calls Tryz.prog 38 #[.agg (stV h S T L r C q), whoV u, useV u kd us ac wp sp sm, .int .u64 a] w (REndFire h S.length r q (fireF r q canonB u a ⟨M, T, L, C⟩) w) := by
 have HH := Lib.hid H
 have HU := Lib.hid hu
 have HLk := Lib.hid (fun w1 (k : Ext w w1) => refLook_c L (.slice h.la L.length h.lc) r u.p a w1 (H.lines.ext k) hL h0 h1)
 have HCn := Lib.hid (fun w1 => refCanon_c a w1 h0 h1)
 have hdp := fun w1 (k : Ext w w1) => rdeepest_c h S M T L r C q u kd a us ac wp sp sm w1 (H.ext k) hC (by omega) (by omega) hu.2.2.1 hu.2.2.2 h0 h1
 have hkp := job_keep (M := M) (nxe := u.nxe) (root := u.root) (p := u.p) (a := a) (C := C) H.ok.wide hC hu.2.2.1 hu.2.2.2
 have hw4 : (jobW M u.nxe u.root u.p a C).1.length ≤ 4 := by
  have ⟨⟨s0, s1⟩, _⟩ := startQ_le (p := u.p) (a := a) hC hu.2.2.1 hu.2.2.2
  unfold jobW
  exact Nat.le_trans (walk_len _ _ _) (by omega)
 have HOK : Hid (∀ i, i < (jobW M u.nxe u.root u.p a C).1.length → errM 16 (stpAt (jobW M u.nxe u.root u.p a C).1 i).2.1 = 0) := Lib.hid fun i hi => by
  have hx : (jobW M u.nxe u.root u.p a C).1[i]? = some (stpAt (jobW M u.nxe u.root u.p a C).1 i) := by simp [stpAt, List.getD, hi]
  unfold jobW at hx ⊢
  exact (walk_at H.ok.wide hx).2.1
 have hff : fireF r q canonB u a ⟨M, T, L, C⟩ = if (lookR u.p a L).2 || !canonB a then (⟨M, T, L, C⟩, false)
   else if (jobW M u.nxe u.root u.p a C).2.1 = 0 then (keepS r q u a false (startQ u.root (deepF C u.p a)).2.2 (jobW M u.nxe u.root u.p a C) ⟨M, T, L, C⟩, true)
   else (⟨M, T ++ (jobW M u.nxe u.root u.p a C).1.map (·.2.1), L, C⟩, false) := rfl
 unfold lookV at HLk
 generalize fireF r q canonB u a ⟨M, T, L, C⟩ = ff at hff ⊢
 generalize jobW M u.nxe u.root u.p a C = z at hdp hkp hff hw4 HOK
 obtain ⟨P, why, ⟨b0, b1, b2⟩, lv, fr⟩ := z
 generalize hlr : lookR u.p a L = lr at HLk hff
 obtain ⟨hit, is⟩ := lr
 unfold Hit.val at HLk
 generalize canonB a = cn at HCn hff
 have HFF := Lib.hid hff
 unfold REndJob at hdp
 obtain ⟨sa, sc, ta, tc, la, lc, pa, pc⟩ := h
 obtain ⟨up, uk0, uk1, uk2, uk3, ur, un⟩ := u
 dsimp only at hdp hkp hw4 HLk HOK
 obtain ⟨T2, hT2⟩ : ∃ T2, T ++ P.map (·.2.1) = T2 := ⟨_, rfl⟩
 rw [hT2] at hdp
 have HT2 := Lib.hid hT2
 have hT2l : T2.length ≤ T.length + 4 := by rw [← hT2]; simp; omega
 unfold stV stC whoV useV at hdp
 dsimp only at hdp
 have HDp := Lib.hid hdp
 have HKp := Lib.hid hkp
 clear hff hdp hkp hT2 hlr H hu
 generalize hE : REndFire ⟨sa, sc, ta, tc, la, lc, pa, pc⟩ S.length r q ff w = E
 have HE := Lib.hid hE
 clear hE
 unfold stV stC whoV useV
 dsimp only
 go_enter Tryz.func38, Tryz.ntmps38
 go_upto_region 1 with (fail)
 refine wp_gen ?_; intro V hV
 have hVE : Ext w V := by rw [hV]; exact (by repeat (first | exact Ext.refl _ | assumption | refine Ext.alloc ?_ _ | refine Ext.drew ?_ | refine Ext.setCell ?_ (by first | (simp; done) | (dsimp only; omega)) _ | refine Ext.trans ?_ (by assumption)))
 have hV0 : V.heap[w.heap.size]? = some (.cells #[.int .i64 16, .slice sa S.length sc, .slice ta T.length tc, .slice la L.length lc, .int .i64 r, .slice (pa 4) (C 4).length (pc 4), .int .i64 q, .slice (pa 3) (C 3).length (pc 3), .int .i64 q, .slice (pa 2) (C 2).length (pc 2), .int .i64 q] 60 (0, 0)) := by rw [hV]; exact (alloc_other _ _ (by first | (simp; done) | (simp; omega))).trans ((alloc_other _ _ (by first | (simp; done) | (simp; omega))).trans ((alloc_other _ _ (by first | (simp; done) | (simp; omega))).trans (alloc_same ..)))
 have hV1 : V.heap[w.heap.size + 1]? = some (.cells #[.int .i64 up, .int .i64 uk0, .int .i64 uk1, .int .i64 uk2, .int .i64 uk3] 69 (0, 0)) := by rw [hV]; exact (alloc_other _ _ (by first | (simp; done) | (simp; omega))).trans ((alloc_other _ _ (by first | (simp; done) | (simp; omega))).trans (alloc_same1 ..))
 have hV2 : V.heap[w.heap.size + 1 + 1]? = some (.cells #[.int .u64 ur, .int .i64 kd, .bool us, .bool ac, .bool wp, .bool un, .bool sp, .bool sm] 47 (0, 0)) := by rw [hV]; exact (alloc_other _ _ (by first | (simp; done) | (simp; omega))).trans (alloc_same2 ..)
 have hV3 : V.heap[w.heap.size + 1 + 1 + 1]? = some (.cells #[.int .i64 0, .slice none 0 0, .slice none 0 0, .slice none 0 0, .int .i64 0, .slice none 0 0, .int .i64 0, .slice none 0 0, .int .i64 0, .slice none 0 0, .int .i64 0] 60 (0, 0)) := by rw [hV]; exact alloc_same3 ..
 obtain ⟨vb, hvb⟩ : ∃ vb, w.heap.size = vb := ⟨_, rfl⟩
 rw [hvb] at hV0 hV1 hV2 hV3 ⊢
 have hwv : w.heap.size ≤ vb := by omega
 have VE := Lib.hid hVE
 have V0 := Lib.hid hV0
 have V1 := Lib.hid hV1
 have V2 := Lib.hid hV2
 have V3 := Lib.hid hV3
 have x3 := (heap_cell hV0 3).trans rfl
 have x4 := (heap_cell hV0 4).trans rfl
 have xl := heap_lt hV0
 have y0 := (heap_cell hV1 0).trans rfl
 have yl := heap_lt hV1
 clear hV hVE hV0 hV1 hV2 hV3 hvb
 go_upto_region 2 with (first | (go_at_call 71; refine (HLk.out _ VE.out).mono ?_; rintro e w1 ⟨rfl, hb1⟩))
 refine wp_gen ?_; intro U hU
 have KU := Lib.hid (show Ext V U by rw [hU]; exact hb1.alloc _)
 have U0 := Lib.hid ((KU.out.block _ (heap_lt V0.out)).trans V0.out)
 have U1 := Lib.hid ((KU.out.block _ (heap_lt V1.out)).trans V1.out)
 have U2 := Lib.hid ((KU.out.block _ (heap_lt V2.out)).trans V2.out)
 have U3 := Lib.hid ((KU.out.block _ (heap_lt V3.out)).trans V3.out)
 have UE := Lib.hid (VE.out.trans KU.out)
 clear hU hb1 x3 x4 xl y0 yl V0 V1 V2 V3 VE KU
 by_cases hsk : (is || !cn) = true
 ·have HF : Hid (ff = (⟨M, T, L, C⟩, false)) := Lib.hid (by rw [HFF.out, if_pos hsk])
  clear HFF
  have hcase : cn = false ∨ (cn = true ∧ is = true) := by cases cn <;> cases is <;> simp at hsk ⊢
  clear hsk
  rcases hcase with rfl | ⟨rfl, rfl⟩
  all_goals
   go_upto_region 3 with (first | (go_at_call 31; refine (HCn.out _).mono ?_; rintro e w2 ⟨rfl, hb2⟩))
   have Z0 := Lib.hid ((hb2.block _ (heap_lt U0.out)).trans U0.out)
   have Z5 := Lib.hid ((hb2.block _ (heap_lt U3.out)).trans U3.out)
   have ZE := Lib.hid (UE.out.trans hb2)
   have ZS := Lib.hid (HH.out.ext ZE.out)
   clear hb2
   have x0 := (heap_cell Z0.out 0).trans rfl
   have x1 := (heap_cell Z0.out 1).trans rfl
   have x2 := (heap_cell Z0.out 2).trans rfl
   have x3 := (heap_cell Z0.out 3).trans rfl
   have x4 := (heap_cell Z0.out 4).trans rfl
   have x5 := (heap_cell Z0.out 5).trans rfl
   have x6 := (heap_cell Z0.out 6).trans rfl
   have x7 := (heap_cell Z0.out 7).trans rfl
   have x8 := (heap_cell Z0.out 8).trans rfl
   have x9 := (heap_cell Z0.out 9).trans rfl
   have x10 := (heap_cell Z0.out 10).trans rfl
   have xl := heap_lt Z0.out
   have y0 := (heap_cell Z5.out 0).trans rfl
   have y1 := (heap_cell Z5.out 1).trans rfl
   have y2 := (heap_cell Z5.out 2).trans rfl
   have y3 := (heap_cell Z5.out 3).trans rfl
   have y4 := (heap_cell Z5.out 4).trans rfl
   have y5 := (heap_cell Z5.out 5).trans rfl
   have y6 := (heap_cell Z5.out 6).trans rfl
   have y7 := (heap_cell Z5.out 7).trans rfl
   have y8 := (heap_cell Z5.out 8).trans rfl
   have y9 := (heap_cell Z5.out 9).trans rfl
   have y10 := (heap_cell Z5.out 10).trans rfl
   have yf := frozen_of Z5.out
   have yl := heap_lt Z5.out
   go_wp2
   refine post_gen (fun Q => Q.heap[vb + 1 + 1 + 1]? = some (.cells #[.int .i64 16, .slice sa S.length sc, .slice ta T.length tc, .slice la L.length lc, .int .i64 r, .slice (pa 4) (C 4).length (pc 4), .int .i64 q, .slice (pa 3) (C 3).length (pc 3), .int .i64 q, .slice (pa 2) (C 2).length (pc 2), .int .i64 q] 60 (0, 0)) ∧ StAt Q ⟨sa, sc, ta, tc, la, lc, pa, pc⟩ S M T L r C q ∧ Ext w Q) ⟨store11_heap Z5.out, ZS.out.other Z5.out (by decide) (by decide) (by decide) fun g hg => store11_other hg, ext11 ZE.out (by omega)⟩ ?_
   clear x0 y0 x1 y1 x2 y2 x3 y3 x4 y4 x5 y5 x6 y6 x7 y7 x8 y8 x9 y9 x10 y10 yf yl
   rintro Q ⟨m5, q1, q2⟩
   have v0 := (heap_cell m5 0).trans rfl
   have v1 := (heap_cell m5 1).trans rfl
   have v2 := (heap_cell m5 2).trans rfl
   have v3 := (heap_cell m5 3).trans rfl
   have v4 := (heap_cell m5 4).trans rfl
   have v5 := (heap_cell m5 5).trans rfl
   have v6 := (heap_cell m5 6).trans rfl
   have v7 := (heap_cell m5 7).trans rfl
   have v8 := (heap_cell m5 8).trans rfl
   have v9 := (heap_cell m5 9).trans rfl
   have v10 := (heap_cell m5 10).trans rfl
   have Q1 := Lib.hid q1
   have Q2 := Lib.hid q2
   clear m5 q1 q2
   refine bodyPost_ret (by simp [results, Tryz.results38, go_sem, ↓IntWalk.iteOmega, *]; try rfl) rfl (by
    rw [← HE.out, HF.out]
    exact ⟨⟨sa, sc, ta, tc, la, lc, pa, pc⟩, S, rfl, Q1.out, by omega, Q2.out, FreshT.refl _ _⟩)
 ·have hcase : cn = true ∧ is = false := by cases cn <;> cases is <;> simp at hsk ⊢
  obtain ⟨rfl, rfl⟩ := hcase
  have HF0 : Hid (ff = if why = 0 then (keepS r q ⟨up, uk0, uk1, uk2, uk3, ur, un⟩ a false (startQ ur (deepF C up a)).2.2 (P, why, (b0, b1, b2), lv, fr) ⟨M, T, L, C⟩, true) else (⟨M, T2, L, C⟩, false)) := Lib.hid (by rw [HFF.out, if_neg hsk, ← HT2.out])
  clear HFF hsk
  go_upto_region 4 with (first | (go_at_call 31; refine (HCn.out _).mono ?_; rintro e w2 ⟨rfl, hb2⟩))
  have A0 := Lib.hid ((hb2.block _ (heap_lt U0.out)).trans U0.out)
  have A1 := Lib.hid ((hb2.block _ (heap_lt U1.out)).trans U1.out)
  have A2 := Lib.hid ((hb2.block _ (heap_lt U2.out)).trans U2.out)
  have A3 := Lib.hid ((hb2.block _ (heap_lt U3.out)).trans U3.out)
  have AE := Lib.hid (UE.out.trans hb2)
  clear hb2 U0 U1 U2 U3 UE
  have x0 := (heap_cell A0.out 0).trans rfl
  have x1 := (heap_cell A0.out 1).trans rfl
  have x2 := (heap_cell A0.out 2).trans rfl
  have x3 := (heap_cell A0.out 3).trans rfl
  have x4 := (heap_cell A0.out 4).trans rfl
  have x5 := (heap_cell A0.out 5).trans rfl
  have x6 := (heap_cell A0.out 6).trans rfl
  have x7 := (heap_cell A0.out 7).trans rfl
  have x8 := (heap_cell A0.out 8).trans rfl
  have x9 := (heap_cell A0.out 9).trans rfl
  have x10 := (heap_cell A0.out 10).trans rfl
  have xl := heap_lt A0.out
  have y0 := (heap_cell A1.out 0).trans rfl
  have y1 := (heap_cell A1.out 1).trans rfl
  have y2 := (heap_cell A1.out 2).trans rfl
  have y3 := (heap_cell A1.out 3).trans rfl
  have y4 := (heap_cell A1.out 4).trans rfl
  have yl := heap_lt A1.out
  have z0 := (heap_cell A2.out 0).trans rfl
  have z1 := (heap_cell A2.out 1).trans rfl
  have z2 := (heap_cell A2.out 2).trans rfl
  have z3 := (heap_cell A2.out 3).trans rfl
  have z4 := (heap_cell A2.out 4).trans rfl
  have z5 := (heap_cell A2.out 5).trans rfl
  have z6 := (heap_cell A2.out 6).trans rfl
  have z7 := (heap_cell A2.out 7).trans rfl
  have zl := heap_lt A2.out
  go_upto_region 5 with (first | (go_at_call 72; refine (HDp.out _ AE.out).mono ?_; rintro e w3 ⟨tb, td, za, zc, rfl, hT3, hO3, hb3, hF3⟩))
  refine wp_gen ?_; intro B hB
  have KB := Lib.hid (show Ext w2 B by rw [hB]; exact ((hb3.alloc _).alloc _).alloc _)
  have hBs : B.heap[w3.heap.size]? = some (.cells #[.int .i64 16, .slice sa S.length sc, .slice tb T2.length td, .slice la L.length lc, .int .i64 r, .slice (pa 4) (C 4).length (pc 4), .int .i64 q, .slice (pa 3) (C 3).length (pc 3), .int .i64 q, .slice (pa 2) (C 2).length (pc 2), .int .i64 q] 60 (0, 0)) := by rw [hB]; exact (alloc_other _ _ (by first | (simp; done) | (simp; omega))).trans ((alloc_other _ _ (by first | (simp; done) | (simp; omega))).trans (alloc_same ..))
  have hBp : B.heap[w3.heap.size + 1]? = some (.cells #[.slice za P.length zc, .int .i64 why, .bool b0, .bool b1, .bool b2, .int .i64 lv, .int .u64 fr] 103 (0, 0)) := by rw [hB]; exact (alloc_other _ _ (by first | (simp; done) | (simp; omega))).trans (alloc_same1 ..)
  have hBq : B.heap[w3.heap.size + 1 + 1]? = some (.cells #[.int .i64 (startQ ur (deepF C up a)).1, .int .u64 (startQ ur (deepF C up a)).2.1, .bool (startQ ur (deepF C up a)).2.2.1, .bool (startQ ur (deepF C up a)).2.2.2.1, .bool (startQ ur (deepF C up a)).2.2.2.2] 107 (0, 0)) := by rw [hB]; exact alloc_same2 ..
  have BT : Hid (TrAt B tb td T2) := Lib.hid (by rw [hB]; exact TrAt.ext hT3 ((((Ext.refl _).alloc _).alloc _).alloc _))
  have BO : Hid (Owns B 109 3 (.slice za P.length zc) P.length (rowS P)) := Lib.hid (by rw [hB]; exact hO3.ext ((((Ext.refl _).alloc _).alloc _).alloc _))
  have BF : Hid (FreshT w ta tb) := Lib.hid (FreshT.trans (FreshT.refl w ta) AE.out.size hF3)
  obtain ⟨xb, hxb⟩ : ∃ xb, w3.heap.size = xb := ⟨_, rfl⟩
  have hxv : vb + 1 + 1 + 1 < xb := by have := hb3.size; have := heap_lt A3.out; omega
  rw [hxb] at hBs hBp hBq ⊢
  have BX := Lib.hid hBs
  have BP := Lib.hid hBp
  have BQ := Lib.hid hBq
  have B1 := Lib.hid ((KB.out.block _ (heap_lt A1.out)).trans A1.out)
  have B2 := Lib.hid ((KB.out.block _ (heap_lt A2.out)).trans A2.out)
  have B3 := Lib.hid ((KB.out.block _ (heap_lt A3.out)).trans A3.out)
  have BE := Lib.hid (AE.out.trans KB.out)
  have BS : Hid (StAt B ⟨sa, sc, tb, td, la, lc, pa, pc⟩ S M T2 L r C q) := Lib.hid ⟨(HH.out.ext BE.out).slots, BT.out, (HH.out.ext BE.out).lines, (HH.out.ext BE.out).psc, HH.out.ok, HH.out.room, HH.out.rooms⟩
  have k1 := (heap_cell hBp 1).trans rfl
  have kl := heap_lt hBp
  clear hB hBs hBp hBq hxb hb3 hT3 hO3 hF3 x0 x1 x2 x3 x4 x5 x6 x7 x8 x9 x10 xl y0 y1 y2 y3 y4 yl z0 z1 z2 z3 z4 z5 z6 z7 zl A0 A1 A2 A3 AE
  by_cases hw : why = 0
  case neg =>
   have hwb : (why != 0) = true := by simpa using hw
   have HF : Hid (ff = (⟨M, T2, L, C⟩, false)) := Lib.hid (by rw [HF0.out, if_neg hw])
   clear hw HF0
   go_upto_region 6 with (fail)
   have Z0 := BX
   have Z5 := B3
   have ZE := BE
   have ZS := BS
   clear k1 kl
   have x0 := (heap_cell Z0.out 0).trans rfl
   have x1 := (heap_cell Z0.out 1).trans rfl
   have x2 := (heap_cell Z0.out 2).trans rfl
   have x3 := (heap_cell Z0.out 3).trans rfl
   have x4 := (heap_cell Z0.out 4).trans rfl
   have x5 := (heap_cell Z0.out 5).trans rfl
   have x6 := (heap_cell Z0.out 6).trans rfl
   have x7 := (heap_cell Z0.out 7).trans rfl
   have x8 := (heap_cell Z0.out 8).trans rfl
   have x9 := (heap_cell Z0.out 9).trans rfl
   have x10 := (heap_cell Z0.out 10).trans rfl
   have xl := heap_lt Z0.out
   have y0 := (heap_cell Z5.out 0).trans rfl
   have y1 := (heap_cell Z5.out 1).trans rfl
   have y2 := (heap_cell Z5.out 2).trans rfl
   have y3 := (heap_cell Z5.out 3).trans rfl
   have y4 := (heap_cell Z5.out 4).trans rfl
   have y5 := (heap_cell Z5.out 5).trans rfl
   have y6 := (heap_cell Z5.out 6).trans rfl
   have y7 := (heap_cell Z5.out 7).trans rfl
   have y8 := (heap_cell Z5.out 8).trans rfl
   have y9 := (heap_cell Z5.out 9).trans rfl
   have y10 := (heap_cell Z5.out 10).trans rfl
   have yf := frozen_of Z5.out
   have yl := heap_lt Z5.out
   go_wp2
   refine post_gen (fun Q => Q.heap[vb + 1 + 1 + 1]? = some (.cells #[.int .i64 16, .slice sa S.length sc, .slice tb T2.length td, .slice la L.length lc, .int .i64 r, .slice (pa 4) (C 4).length (pc 4), .int .i64 q, .slice (pa 3) (C 3).length (pc 3), .int .i64 q, .slice (pa 2) (C 2).length (pc 2), .int .i64 q] 60 (0, 0)) ∧ StAt Q ⟨sa, sc, tb, td, la, lc, pa, pc⟩ S M T2 L r C q ∧ Ext w Q) ⟨store11_heap Z5.out, ZS.out.other Z5.out (by decide) (by decide) (by decide) fun g hg => store11_other hg, ext11 ZE.out (by omega)⟩ ?_
   clear x0 y0 x1 y1 x2 y2 x3 y3 x4 y4 x5 y5 x6 y6 x7 y7 x8 y8 x9 y9 x10 y10 yf yl
   rintro Q ⟨m5, q1, q2⟩
   have v0 := (heap_cell m5 0).trans rfl
   have v1 := (heap_cell m5 1).trans rfl
   have v2 := (heap_cell m5 2).trans rfl
   have v3 := (heap_cell m5 3).trans rfl
   have v4 := (heap_cell m5 4).trans rfl
   have v5 := (heap_cell m5 5).trans rfl
   have v6 := (heap_cell m5 6).trans rfl
   have v7 := (heap_cell m5 7).trans rfl
   have v8 := (heap_cell m5 8).trans rfl
   have v9 := (heap_cell m5 9).trans rfl
   have v10 := (heap_cell m5 10).trans rfl
   have Q1 := Lib.hid q1
   have Q2 := Lib.hid q2
   clear m5 q1 q2
   refine bodyPost_ret (by simp [results, Tryz.results38, go_sem, ↓IntWalk.iteOmega, *]; try rfl) rfl (by
    rw [← HE.out, HF.out]
    exact ⟨⟨sa, sc, tb, td, la, lc, pa, pc⟩, S, rfl, Q1.out, by omega, Q2.out, BF.out⟩)
  case pos =>
   subst hw
   obtain ⟨hKO, hlv0, hlv1⟩ := HKp.out rfl
   obtain ⟨last, hlast⟩ : ∃ last, lastS P = last := ⟨_, rfl⟩
   rw [hlast] at hKO
   obtain ⟨M2, hM2⟩ : ∃ M2, markL 16 false P M = M2 := ⟨_, rfl⟩
   have HF1 : Hid (ff = (⟨M2, T2 ++ keepT lv last, keepL up a lv fr (b0, b1, b2) last M2 un uk0 r L, fillF up a (pkF uk1 uk2 uk3) q P (startQ ur (deepF C up a)).2.2 C⟩, true)) := Lib.hid (by
    rw [HF0.out, if_pos rfl, ← HT2.out, ← hM2, ← hlast]; rfl)
   have HMk : Hid (∀ w1, Ext B w1 → Calls Tryz.prog 73 #[.agg #[.int .i64 16, .slice sa S.length sc, .slice tb T2.length td], .agg #[.slice za P.length zc, .int .i64 0, .bool b0, .bool b1, .bool b2, .int .i64 lv, .int .u64 fr], .bool false] w1 (EndSet8 16 M2 (S.length + P.length) tb T2.length td w1)) := Lib.hid (fun w1 k => by
    have := rMark_c 16 (by omega) sa tb za S M T2.length sc td zc P 0 (b0, b1, b2) lv fr false w1 (BS.out.ext k).slots HH.out.ok ((StepsAt.ofT BO.out).ext k) (by omega) (by omega) (fun i hi => ⟨(hKO.step i hi).1.1, (hKO.step i hi).1.2, ?_⟩)
    ·rw [show (false && (0 : Int) == 0) = false from rfl, hM2] at this; exact this
    ·exact HOK.out i hi)
   have HKO := Lib.hid hKO
   clear HF0 hKO hM2 hlast
   have p0 := (heap_cell BP.out 0).trans rfl
   have p2 := (heap_cell BP.out 2).trans rfl
   have p3 := (heap_cell BP.out 3).trans rfl
   have p4 := (heap_cell BP.out 4).trans rfl
   have p5 := (heap_cell BP.out 5).trans rfl
   have p6 := (heap_cell BP.out 6).trans rfl
   have x0 := (heap_cell BX.out 0).trans rfl
   have x1 := (heap_cell BX.out 1).trans rfl
   have x2 := (heap_cell BX.out 2).trans rfl
   have xl := heap_lt BX.out
   go_upto_region 8 with (first | (go_at_call 73; refine (HMk.out _ (Ext.refl _)).mono ?_; rintro e w4 ⟨sa2, sc2, S2, rfl, hS4, hok4, hSl4, hb4⟩; have XB := (hb4.block _ (heap_lt BX.out)).trans BX.out; have d0 := (heap_cell XB 0).trans rfl; have d1 := (heap_cell XB 1).trans rfl; have d2 := (heap_cell XB 2).trans rfl; have df := frozen_of XB; have dl := heap_lt XB))
   refine wp_gen ?_; intro D hD
   have hDo : ∀ b o, xb ≠ b → B.heap[b]? = some o → D.heap[b]? = some o := fun b o hne hb => by rw [hD]; exact (store3_other hne).trans ((hb4.block _ (heap_lt hb)).trans hb)
   have DX : Hid (D.heap[xb]? = some (.cells #[.int .i64 16, .slice sa2 S2.length sc2, .slice tb T2.length td, .slice la L.length lc, .int .i64 r, .slice (pa 4) (C 4).length (pc 4), .int .i64 q, .slice (pa 3) (C 3).length (pc 3), .int .i64 q, .slice (pa 2) (C 2).length (pc 2), .int .i64 q] 60 (0, 0))) := Lib.hid (by rw [hD]; exact setCell_heap_same (setCell_heap_same (setCell_heap_same XB)))
   have DP := Lib.hid (hDo _ _ (by omega) BP.out)
   have DQ := Lib.hid (hDo _ _ (by omega) BQ.out)
   have D1 := Lib.hid (hDo _ _ (by omega) B1.out)
   have D2 := Lib.hid (hDo _ _ (by omega) B2.out)
   have D3 := Lib.hid (hDo _ _ (by omega) B3.out)
   have DE : Hid (Ext w D) := Lib.hid (by rw [hD]; exact ext3 (BE.out.trans hb4) (by omega))
   have DS : Hid (StAt D ⟨sa2, sc2, tb, td, la, lc, pa, pc⟩ S2 M2 T2 L r C q) := Lib.hid (by
    rw [hD]
    exact StAt.other (⟨hS4, (BS.out.ext hb4).trace, (BS.out.ext hb4).lines, (BS.out.ext hb4).psc, hok4, HH.out.room, HH.out.rooms⟩ : StAt w4 ⟨sa2, sc2, tb, td, la, lc, pa, pc⟩ S2 M2 T2 L r C q) XB (by decide) (by decide) (by decide) fun g hg => store3_other hg)
   have DO : Hid (Owns D 109 3 (.slice za P.length zc) P.length (rowS P)) := Lib.hid (by rw [hD]; exact (BO.out.ext hb4).keep fun g hg => store3_other (Owns.ne (BO.out.ext hb4) XB (by decide) g hg))
   have hS2l : S2.length ≤ S.length + 4 := by omega
   clear hD hDo XB d0 d1 d2 df dl hb4 hS4 hok4 hSl4 p0 p2 p3 p4 p5 p6 x0 x1 x2 xl k1 kl BX BP BQ B1 B2 B3 BE BS BO BT HMk
   have hkt : Calls Tryz.prog 74 #[.agg #[.int .i64 16, .slice sa2 S2.length sc2, .slice tb T2.length td, .slice la L.length lc, .int .i64 r, .slice (pa 4) (C 4).length (pc 4), .int .i64 q, .slice (pa 3) (C 3).length (pc 3), .int .i64 q, .slice (pa 2) (C 2).length (pc 2), .int .i64 q], .agg #[.int .i64 up, .int .i64 uk0, .int .i64 uk1, .int .i64 uk2, .int .i64 uk3], .agg #[.int .u64 ur, .int .i64 kd, .bool us, .bool ac, .bool wp, .bool un, .bool sp, .bool sm], .int .u64 a, .agg #[.slice za P.length zc, .int .i64 0, .bool b0, .bool b1, .bool b2, .int .i64 lv, .int .u64 fr], .agg #[.int .i64 (startQ ur (deepF C up a)).1, .int .u64 (startQ ur (deepF C up a)).2.1, .bool (startQ ur (deepF C up a)).2.2.1, .bool (startQ ur (deepF C up a)).2.2.2.1, .bool (startQ ur (deepF C up a)).2.2.2.2]] D (REndKept ⟨sa2, sc2, tb, td, la, lc, pa, pc⟩ S2 M2 (T2 ++ keepT lv last) (keepL up a lv fr (b0, b1, b2) last M2 un uk0 r L) r (fillF up a (pkF uk1 uk2 uk3) q P (startQ ur (deepF C up a)).2.2 C) q D) := by
    by_cases hl : 1 < lv
    ·exact rkeptGreat_c ⟨sa2, sc2, tb, td, la, lc, pa, pc⟩ S2 M2 T2 L r C q ⟨up, uk0, uk1, uk2, uk3, ur, un⟩ kd a us ac wp sp sm P za zc 0 (b0, b1, b2) (startQ ur (deepF C up a)).2.2 lv fr (startQ ur (deepF C up a)).1 (startQ ur (deepF C up a)).2.1 last D DS.out (StepsAt.ofT DO.out) HKO.out HU.out (by omega) (by omega) h0 h1 hl hlv1
    ·obtain rfl : lv = 1 := by omega
     exact rkeptSmall_c ⟨sa2, sc2, tb, td, la, lc, pa, pc⟩ S2 M2 T2 L r C q ⟨up, uk0, uk1, uk2, uk3, ur, un⟩ kd a us ac wp sp sm P za zc 0 (b0, b1, b2) (startQ ur (deepF C up a)).2.2 fr (startQ ur (deepF C up a)).1 (startQ ur (deepF C up a)).2.1 last D DS.out (StepsAt.ofT DO.out) HKO.out HU.out (by omega) (by omega) h0 h1
   have HKt := Lib.hid hkt
   clear hkt
   generalize fillF up a (pkF uk1 uk2 uk3) q P (startQ ur (deepF C up a)).2.2 C = C3 at HKt HF1
   generalize keepL up a lv fr (b0, b1, b2) last M2 un uk0 r L = L3 at HKt HF1
   generalize T2 ++ keepT lv last = T3 at HKt HF1
   have x0 := (heap_cell DX.out 0).trans rfl
   have x1 := (heap_cell DX.out 1).trans rfl
   have x2 := (heap_cell DX.out 2).trans rfl
   have x3 := (heap_cell DX.out 3).trans rfl
   have x4 := (heap_cell DX.out 4).trans rfl
   have x5 := (heap_cell DX.out 5).trans rfl
   have x6 := (heap_cell DX.out 6).trans rfl
   have x7 := (heap_cell DX.out 7).trans rfl
   have x8 := (heap_cell DX.out 8).trans rfl
   have x9 := (heap_cell DX.out 9).trans rfl
   have x10 := (heap_cell DX.out 10).trans rfl
   have xl := heap_lt DX.out
   have y0 := (heap_cell D1.out 0).trans rfl
   have y1 := (heap_cell D1.out 1).trans rfl
   have y2 := (heap_cell D1.out 2).trans rfl
   have y3 := (heap_cell D1.out 3).trans rfl
   have y4 := (heap_cell D1.out 4).trans rfl
   have yl := heap_lt D1.out
   have z0 := (heap_cell D2.out 0).trans rfl
   have z1 := (heap_cell D2.out 1).trans rfl
   have z2 := (heap_cell D2.out 2).trans rfl
   have z3 := (heap_cell D2.out 3).trans rfl
   have z4 := (heap_cell D2.out 4).trans rfl
   have z5 := (heap_cell D2.out 5).trans rfl
   have z6 := (heap_cell D2.out 6).trans rfl
   have z7 := (heap_cell D2.out 7).trans rfl
   have zl := heap_lt D2.out
   have p0 := (heap_cell DP.out 0).trans rfl
   have p1 := (heap_cell DP.out 1).trans rfl
   have p2 := (heap_cell DP.out 2).trans rfl
   have p3 := (heap_cell DP.out 3).trans rfl
   have p4 := (heap_cell DP.out 4).trans rfl
   have p5 := (heap_cell DP.out 5).trans rfl
   have p6 := (heap_cell DP.out 6).trans rfl
   have pl := heap_lt DP.out
   have s0 := (heap_cell DQ.out 0).trans rfl
   have s1 := (heap_cell DQ.out 1).trans rfl
   have s2 := (heap_cell DQ.out 2).trans rfl
   have s3 := (heap_cell DQ.out 3).trans rfl
   have s4 := (heap_cell DQ.out 4).trans rfl
   have sl := heap_lt DQ.out
   unfold REndKept stV stC at HKt
   dsimp only at HKt
   go_wp2_with (first | (go_at_call 74; refine HKt.out.mono ?_; rintro e w5 ⟨⟨sa5, sc5, ta5, tc5, la5, lc5, pa5, pc5⟩, rfl, hS5, hb5, hF5⟩; have RB := (hb5.block _ (heap_lt D3.out)).trans D3.out; have t0 := (heap_cell RB 0).trans rfl; have t1 := (heap_cell RB 1).trans rfl; have t2 := (heap_cell RB 2).trans rfl; have t3 := (heap_cell RB 3).trans rfl; have t4 := (heap_cell RB 4).trans rfl; have t5 := (heap_cell RB 5).trans rfl; have t6 := (heap_cell RB 6).trans rfl; have t7 := (heap_cell RB 7).trans rfl; have t8 := (heap_cell RB 8).trans rfl; have t9 := (heap_cell RB 9).trans rfl; have t10 := (heap_cell RB 10).trans rfl; have tf := frozen_of RB; have tl := heap_lt RB; have HRB := Lib.hid RB; have E5 := Lib.hid (DE.out.trans hb5); have S5 := Lib.hid hS5; have F5 : Hid (FreshT w ta ta5) := Lib.hid (FreshT.trans BF.out DE.out.size hF5); clear RB hb5 hS5 hF5))
   all_goals
    refine post_gen (fun Q => Q.heap[vb + 1 + 1 + 1]? = some (.cells #[.int .i64 16, .slice sa5 S2.length sc5, .slice ta5 T3.length tc5, .slice la5 L3.length lc5, .int .i64 r, .slice (pa5 4) (C3 4).length (pc5 4), .int .i64 q, .slice (pa5 3) (C3 3).length (pc5 3), .int .i64 q, .slice (pa5 2) (C3 2).length (pc5 2), .int .i64 q] 60 (0, 0)) ∧ StAt Q ⟨sa5, sc5, ta5, tc5, la5, lc5, pa5, pc5⟩ S2 M2 T3 L3 r C3 q ∧ Ext w Q) ⟨store11_heap HRB.out, S5.out.other HRB.out (by decide) (by decide) (by decide) fun g hg => store11_other hg, ext11 E5.out (by omega)⟩ ?_
    clear x0 t0 x1 t1 x2 t2 x3 t3 x4 t4 x5 t5 x6 t6 x7 t7 x8 t8 x9 t9 x10 t10 xl y0 y1 y2 y3 y4 yl z0 z1 z2 z3 z4 z5 z6 z7 zl p0 p1 p2 p3 p4 p5 p6 pl s0 s1 s2 s3 s4 sl tf tl
    rintro Q ⟨m5, q1, q2⟩
    have v0 := (heap_cell m5 0).trans rfl
    have v1 := (heap_cell m5 1).trans rfl
    have v2 := (heap_cell m5 2).trans rfl
    have v3 := (heap_cell m5 3).trans rfl
    have v4 := (heap_cell m5 4).trans rfl
    have v5 := (heap_cell m5 5).trans rfl
    have v6 := (heap_cell m5 6).trans rfl
    have v7 := (heap_cell m5 7).trans rfl
    have v8 := (heap_cell m5 8).trans rfl
    have v9 := (heap_cell m5 9).trans rfl
    have v10 := (heap_cell m5 10).trans rfl
    have Q1 := Lib.hid q1
    have Q2 := Lib.hid q2
    clear m5 q1 q2
    refine bodyPost_ret (by simp [results, Tryz.results38, go_sem, ↓IntWalk.iteOmega, *]; try rfl) rfl (by
     rw [← HE.out, HF1.out]
     exact ⟨⟨sa5, sc5, ta5, tc5, la5, lc5, pa5, pc5⟩, S2, rfl, Q1.out, hS2l, Q2.out, F5.out⟩)
end Go.Proofs.YtkfonacokamfiaaGreat
