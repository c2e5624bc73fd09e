/- Joined texts, part 42 of what the law stands on: each as its own head says. -/
import Derived.Test.YtkfonacokamfiaaGreatGoz37
import Derived.Test.YtkfonacokamfiaaGreatGoz40
import Derived.Test.YtkfonacokamfiaaGreatGoz17
/- The document's marks. -/
namespace Go.Proofs.YtkfonacokamfiaaGreat
set_option linter.unusedVariables false
set_option linter.unusedSimpArgs false
open Go.RowKit
attribute [local go_sem] wext_cell wext_frozen wext_heap alloc_cell alloc_frozen alloc_heap setCell_cell objCell_cells objFrozen_cells
def bitsD (df : Bool) : Int := if df then 96 else 32
def EndSet8 (B : Int) (M' : Int → Int) (n : Nat) (ta : Option Addr) (k tc : Nat) (w : World) (e : Ending) (w' : World) : Prop :=
 ∃ sa sc S', e = .returned (.agg #[.int .i64 B, .slice sa S'.length sc, .slice ta k tc]) ∧ SAt w' sa sc S' ∧ RefOk B S' M' ∧ S'.length ≤ n ∧ Ext w w'
theorem EndSet8.mk {B : Int} {M' : Int → Int} {n : Nat} {ta : Option Addr} {k tc : Nat} {w w' : World} {sa : Option Addr} {sc : Nat} {S' : List (Int × Int)} (h1 : SAt w' sa sc S') (h2 : RefOk B S' M') (h3 : S'.length ≤ n) (h4 : Ext w w') :
  EndSet8 B M' n ta k tc w (.returned (.agg #[.int .i64 B, .slice sa S'.length sc, .slice ta k tc])) w' := ⟨sa, sc, S', rfl, h1, h2, h3, h4⟩
theorem markS_keep {B : Int} {M : Int → Int} {a : Int} {df : Bool} (he : errM B a = 0) (h : (if df then orD (M (a / 8)) else orA (M (a / 8))) = M (a / 8)) : markS B M a df = M := by
 unfold markS; rw [if_pos he, h]; exact setM_self M (a / 8)
set_option maxHeartbeats 1000000 in
set_option maxRecDepth 20000 in
theorem rMset_c (B : Int) (hB : 14 ≤ B ∧ B ≤ 22) (sa ta : Option Addr) (S : List (Int × Int)) (M : Int → Int) (k sc tc : Nat) (a : Int) (df : Bool) (w : World) (hS : SAt w sa sc S) (hok : RefOk B S M) (hl : S.length ≤ 999999) (h0 : 0 ≤ a) (h1 : a ≤ 18446744073709551615) (he : errM B a = 0) :
  Calls Tryz.prog 106 #[.agg #[.int .i64 B, .slice sa S.length sc, .slice ta k tc], .int .u64 a, .int .u64 (bitsD df)] w (EndSet8 B (markS B M a df) (S.length + 1) ta k tc w) := by
 have HS := Lib.hid hS
 have hp := fun w h => rPeek_c B hB sa ta S sc k tc a w h (by omega) h0 h1
 rw [if_pos he, he, hok.agree a h0 he] at hp
 have ⟨x0, x1⟩ := hok.wide (a / 8)
 obtain ⟨x, hx⟩ : ∃ x, M (a / 8) = x := ⟨_, rfl⟩
 rw [hx] at hp x0 x1
 have HP := Lib.hid hp
 generalize hE : EndSet8 B (markS B M a df) (S.length + 1) ta k tc w = E
 have HE := Lib.hid hE
 clear hE hp hS
 cases df
 ·have hand := and32 x0 x1
  have hor := or32 x0 x1
  have hle := orA_le x0 x1
  by_cases hx9 : x / 32 % 2 = 1
  ·have hxe : (x / 32 % 2 * 32 == 32) = true := by rw [hx9]; rfl
   have HOK : Hid (RefOk B S (markS B M a false)) := Lib.hid (by rw [markS_keep he (by simp only [reduceIte, Bool.false_eq_true]; rw [hx]; unfold orA; omega)]; exact hok)
   clear hx9 hor hle hx he hok
   simp only [bitsD, if_true, if_false, reduceIte, Bool.false_eq_true]
   go_enter Tryz.func106, Tryz.ntmps106
   go_wp2_with (first | (go_at_call 42; refine (HP.out _ (HS.out.ext (by repeat (first | exact Ext.refl _ | assumption | refine Ext.alloc ?_ _ | refine Ext.drew ?_ | refine Ext.setCell ?_ (by first | (simp; done) | (dsimp only; omega)) _ | refine Ext.trans ?_ (by assumption))))).mono ?_; rintro e w1 ⟨rfl, hb1⟩; have B0 := (hb1.block w.heap.size (by simp; omega)).trans ((alloc_other _ _ (by simp)).trans (alloc_same ..)); have B1 := (hb1.block (w.heap.size + 1) (by simp)).trans (alloc_same1 ..); have p0 := (heap_cell B0 0).trans rfl; have p1 := (heap_cell B0 1).trans rfl; have p2 := (heap_cell B0 2).trans rfl; have r0 := (heap_cell B1 0).trans rfl; have r1 := (heap_cell B1 1).trans rfl; have r2 := (heap_cell B1 2).trans rfl; have rf := frozen_of B1; have rl := heap_lt B1; have bl := heap_lt B0; have E1 : Ext w w1 := Ext.trans (by repeat (first | exact Ext.refl _ | assumption | refine Ext.alloc ?_ _ | refine Ext.drew ?_ | refine Ext.setCell ?_ (by first | (simp; done) | (dsimp only; omega)) _ | refine Ext.trans ?_ (by assumption))) hb1; have BB := Lib.hid B1; have EE := Lib.hid E1; clear B0 B1 E1 hb1))
   refine post_gen (fun U => U.heap[w.heap.size + 1]? = some (.cells #[.int .i64 B, .slice sa S.length sc, .slice ta k tc] 41 (0, 0)) ∧ SAt U sa sc S ∧ Ext w U) ⟨store3_heap BB.out, Owns.keep (HS.out.ext EE.out) fun g hg => store3_other (Owns.ne (HS.out.ext EE.out) BB.out (by decide) g hg), ext3 EE.out (by omega)⟩ ?_
   clear p0 p1 p2 r0 r1 r2 rf rl bl
   rintro U ⟨m3, s3, e3⟩
   have v0 := (heap_cell m3 0).trans rfl
   have v1 := (heap_cell m3 1).trans rfl
   have v2 := (heap_cell m3 2).trans rfl
   have HE3 := Lib.hid e3
   have HS3 := Lib.hid s3
   clear m3 e3 s3
   refine bodyPost_ret (by simp [results, Tryz.results106, go_sem, ↓IntWalk.iteOmega, *]; try rfl) rfl (by rw [← HE.out]; exact EndSet8.mk HS3.out HOK.out (by omega) HE3.out)
  ·have hxe : (x / 32 % 2 * 32 == 32) = false := by rw [beq_eq_false_iff_ne]; omega
   obtain ⟨S', hS'⟩ : ∃ S', setL a (orA x) false S = S' := ⟨_, rfl⟩
   have HOK : Hid (RefOk B S' (markS B M a false)) := Lib.hid (by
    have := hok.set h0 he hle.1 hle.2
    rw [hS'] at this
    unfold markS
    rw [if_pos he]
    simp only [reduceIte, Bool.false_eq_true]
    rw [hx]; exact this)
   have HLE : Hid (S'.length ≤ S.length + 1) := Lib.hid (by rw [← hS']; exact set_length a (orA x) S false)
   have hst := fun w h => rStore_c B hB sa ta S k sc tc a (orA x) w h (by omega) h0 h1 he
   rw [hS'] at hst
   have HST := Lib.hid hst
   clear hx9 hx he hok hS' hst
   generalize orA x = y at HST hor hle
   simp only [bitsD, if_true, if_false, reduceIte, Bool.false_eq_true]
   go_enter Tryz.func106, Tryz.ntmps106
   go_wp2_with (first | (go_at_call 42; refine (HP.out _ (HS.out.ext (by repeat (first | exact Ext.refl _ | assumption | refine Ext.alloc ?_ _ | refine Ext.drew ?_ | refine Ext.setCell ?_ (by first | (simp; done) | (dsimp only; omega)) _ | refine Ext.trans ?_ (by assumption))))).mono ?_; rintro e w1 ⟨rfl, hb1⟩; have B0 := (hb1.block w.heap.size (by simp; omega)).trans ((alloc_other _ _ (by simp)).trans (alloc_same ..)); have B1 := (hb1.block (w.heap.size + 1) (by simp)).trans (alloc_same1 ..); have p0 := (heap_cell B0 0).trans rfl; have p1 := (heap_cell B0 1).trans rfl; have p2 := (heap_cell B0 2).trans rfl; have bl := heap_lt B0; have E1 : Ext w w1 := Ext.trans (by repeat (first | exact Ext.refl _ | assumption | refine Ext.alloc ?_ _ | refine Ext.drew ?_ | refine Ext.setCell ?_ (by first | (simp; done) | (dsimp only; omega)) _ | refine Ext.trans ?_ (by assumption))) hb1; have BB := Lib.hid B1; have EE := Lib.hid E1; clear B0 B1 E1 hb1) | (go_at_call 22; refine (HST.out _ (HS.out.ext (EE.out.trans (by repeat (first | exact Ext.refl _ | assumption | refine Ext.alloc ?_ _ | refine Ext.drew ?_ | refine Ext.setCell ?_ (by first | (simp; done) | (dsimp only; omega)) _ | refine Ext.trans ?_ (by assumption)))))).mono ?_; rintro e w2 ⟨sa2, sc2, rfl, hs2, hb2⟩; have B1 := (hb2.block (w.heap.size + 1) (heap_lt BB.out)).trans BB.out; have r0 := (heap_cell B1 0).trans rfl; have r1 := (heap_cell B1 1).trans rfl; have r2 := (heap_cell B1 2).trans rfl; have rf := frozen_of B1; have rl := heap_lt B1; have BB2 := Lib.hid B1; have EE2 := Lib.hid (EE.out.trans hb2); have SS2 := Lib.hid hs2; clear B1 hb2 hs2))
   refine post_gen (fun U => U.heap[w.heap.size + 1]? = some (.cells #[.int .i64 B, .slice sa2 S'.length sc2, .slice ta k tc] 41 (0, 0)) ∧ SAt U sa2 sc2 S' ∧ Ext w U) ⟨?_, ?_, ?_⟩ ?_
   ·exact (alloc_other _ _ (by simp only [World.size_setCell]; exact heap_lt BB2.out)).trans (store3_heap BB2.out)
   ·exact SAt.ext (Owns.keep SS2.out fun g hg => store3_other (Owns.ne SS2.out BB2.out (by decide) g hg)) ((Ext.refl _).alloc _)
   ·exact (ext3 EE2.out (by omega)).alloc _
   clear p0 p1 p2 r0 r1 r2 rf rl bl
   rintro U ⟨m3, s3, e3⟩
   have v0 := (heap_cell m3 0).trans rfl
   have v1 := (heap_cell m3 1).trans rfl
   have v2 := (heap_cell m3 2).trans rfl
   have HE3 := Lib.hid e3
   have HS3 := Lib.hid s3
   clear m3 e3 s3
   refine bodyPost_ret (by simp [results, Tryz.results106, go_sem, ↓IntWalk.iteOmega, *]; try rfl) rfl (by rw [← HE.out]; exact EndSet8.mk HS3.out HOK.out HLE.out HE3.out)
 ·have hand := and96 x0 x1
  have hor := or96 x0 x1
  have hle := orD_le x0 x1
  by_cases hx9 : x / 32 % 4 = 3
  ·have hxe : (x / 32 % 4 * 32 == 96) = true := by rw [hx9]; rfl
   have HOK : Hid (RefOk B S (markS B M a true)) := Lib.hid (by rw [markS_keep he (by simp only [reduceIte, Bool.false_eq_true]; rw [hx]; unfold orD; omega)]; exact hok)
   clear hx9 hor hle hx he hok
   simp only [bitsD, if_true, if_false, reduceIte, Bool.false_eq_true]
   go_enter Tryz.func106, Tryz.ntmps106
   go_wp2_with (first | (go_at_call 42; refine (HP.out _ (HS.out.ext (by repeat (first | exact Ext.refl _ | assumption | refine Ext.alloc ?_ _ | refine Ext.drew ?_ | refine Ext.setCell ?_ (by first | (simp; done) | (dsimp only; omega)) _ | refine Ext.trans ?_ (by assumption))))).mono ?_; rintro e w1 ⟨rfl, hb1⟩; have B0 := (hb1.block w.heap.size (by simp; omega)).trans ((alloc_other _ _ (by simp)).trans (alloc_same ..)); have B1 := (hb1.block (w.heap.size + 1) (by simp)).trans (alloc_same1 ..); have p0 := (heap_cell B0 0).trans rfl; have p1 := (heap_cell B0 1).trans rfl; have p2 := (heap_cell B0 2).trans rfl; have r0 := (heap_cell B1 0).trans rfl; have r1 := (heap_cell B1 1).trans rfl; have r2 := (heap_cell B1 2).trans rfl; have rf := frozen_of B1; have rl := heap_lt B1; have bl := heap_lt B0; have E1 : Ext w w1 := Ext.trans (by repeat (first | exact Ext.refl _ | assumption | refine Ext.alloc ?_ _ | refine Ext.drew ?_ | refine Ext.setCell ?_ (by first | (simp; done) | (dsimp only; omega)) _ | refine Ext.trans ?_ (by assumption))) hb1; have BB := Lib.hid B1; have EE := Lib.hid E1; clear B0 B1 E1 hb1))
   refine post_gen (fun U => U.heap[w.heap.size + 1]? = some (.cells #[.int .i64 B, .slice sa S.length sc, .slice ta k tc] 41 (0, 0)) ∧ SAt U sa sc S ∧ Ext w U) ⟨store3_heap BB.out, Owns.keep (HS.out.ext EE.out) fun g hg => store3_other (Owns.ne (HS.out.ext EE.out) BB.out (by decide) g hg), ext3 EE.out (by omega)⟩ ?_
   clear p0 p1 p2 r0 r1 r2 rf rl bl
   rintro U ⟨m3, s3, e3⟩
   have v0 := (heap_cell m3 0).trans rfl
   have v1 := (heap_cell m3 1).trans rfl
   have v2 := (heap_cell m3 2).trans rfl
   have HE3 := Lib.hid e3
   have HS3 := Lib.hid s3
   clear m3 e3 s3
   refine bodyPost_ret (by simp [results, Tryz.results106, go_sem, ↓IntWalk.iteOmega, *]; try rfl) rfl (by rw [← HE.out]; exact EndSet8.mk HS3.out HOK.out (by omega) HE3.out)
  ·have hxe : (x / 32 % 4 * 32 == 96) = false := by rw [beq_eq_false_iff_ne]; omega
   obtain ⟨S', hS'⟩ : ∃ S', setL a (orD x) false S = S' := ⟨_, rfl⟩
   have HOK : Hid (RefOk B S' (markS B M a true)) := Lib.hid (by
    have := hok.set h0 he hle.1 hle.2
    rw [hS'] at this
    unfold markS
    rw [if_pos he]
    simp only [reduceIte, Bool.false_eq_true]
    rw [hx]; exact this)
   have HLE : Hid (S'.length ≤ S.length + 1) := Lib.hid (by rw [← hS']; exact set_length a (orD x) S false)
   have hst := fun w h => rStore_c B hB sa ta S k sc tc a (orD x) w h (by omega) h0 h1 he
   rw [hS'] at hst
   have HST := Lib.hid hst
   clear hx9 hx he hok hS' hst
   generalize orD x = y at HST hor hle
   simp only [bitsD, if_true, if_false, reduceIte, Bool.false_eq_true]
   go_enter Tryz.func106, Tryz.ntmps106
   go_wp2_with (first | (go_at_call 42; refine (HP.out _ (HS.out.ext (by repeat (first | exact Ext.refl _ | assumption | refine Ext.alloc ?_ _ | refine Ext.drew ?_ | refine Ext.setCell ?_ (by first | (simp; done) | (dsimp only; omega)) _ | refine Ext.trans ?_ (by assumption))))).mono ?_; rintro e w1 ⟨rfl, hb1⟩; have B0 := (hb1.block w.heap.size (by simp; omega)).trans ((alloc_other _ _ (by simp)).trans (alloc_same ..)); have B1 := (hb1.block (w.heap.size + 1) (by simp)).trans (alloc_same1 ..); have p0 := (heap_cell B0 0).trans rfl; have p1 := (heap_cell B0 1).trans rfl; have p2 := (heap_cell B0 2).trans rfl; have bl := heap_lt B0; have E1 : Ext w w1 := Ext.trans (by repeat (first | exact Ext.refl _ | assumption | refine Ext.alloc ?_ _ | refine Ext.drew ?_ | refine Ext.setCell ?_ (by first | (simp; done) | (dsimp only; omega)) _ | refine Ext.trans ?_ (by assumption))) hb1; have BB := Lib.hid B1; have EE := Lib.hid E1; clear B0 B1 E1 hb1) | (go_at_call 22; refine (HST.out _ (HS.out.ext (EE.out.trans (by repeat (first | exact Ext.refl _ | assumption | refine Ext.alloc ?_ _ | refine Ext.drew ?_ | refine Ext.setCell ?_ (by first | (simp; done) | (dsimp only; omega)) _ | refine Ext.trans ?_ (by assumption)))))).mono ?_; rintro e w2 ⟨sa2, sc2, rfl, hs2, hb2⟩; have B1 := (hb2.block (w.heap.size + 1) (heap_lt BB.out)).trans BB.out; have r0 := (heap_cell B1 0).trans rfl; have r1 := (heap_cell B1 1).trans rfl; have r2 := (heap_cell B1 2).trans rfl; have rf := frozen_of B1; have rl := heap_lt B1; have BB2 := Lib.hid B1; have EE2 := Lib.hid (EE.out.trans hb2); have SS2 := Lib.hid hs2; clear B1 hb2 hs2))
   refine post_gen (fun U => U.heap[w.heap.size + 1]? = some (.cells #[.int .i64 B, .slice sa2 S'.length sc2, .slice ta k tc] 41 (0, 0)) ∧ SAt U sa2 sc2 S' ∧ Ext w U) ⟨?_, ?_, ?_⟩ ?_
   ·exact (alloc_other _ _ (by simp only [World.size_setCell]; exact heap_lt BB2.out)).trans (store3_heap BB2.out)
   ·exact SAt.ext (Owns.keep SS2.out fun g hg => store3_other (Owns.ne SS2.out BB2.out (by decide) g hg)) ((Ext.refl _).alloc _)
   ·exact (ext3 EE2.out (by omega)).alloc _
   clear p0 p1 p2 r0 r1 r2 rf rl bl
   rintro U ⟨m3, s3, e3⟩
   have v0 := (heap_cell m3 0).trans rfl
   have v1 := (heap_cell m3 1).trans rfl
   have v2 := (heap_cell m3 2).trans rfl
   have HE3 := Lib.hid e3
   have HS3 := Lib.hid s3
   clear m3 e3 s3
   refine bodyPost_ret (by simp [results, Tryz.results106, go_sem, ↓IntWalk.iteOmega, *]; try rfl) rfl (by rw [← HE.out]; exact EndSet8.mk HS3.out HOK.out HLE.out HE3.out)
set_option maxHeartbeats 4000000 in
set_option maxRecDepth 20000 in
theorem rMark_c (B : Int) (hB : 14 ≤ B ∧ B ≤ 22) (sa ta pa : Option Addr) (S : List (Int × Int)) (M : Int → Int) (k sc tc pc : Nat) (L : List Stp) (why : Int) (rr : Rt) (lv fr : Int) (dirty : Bool) (w : World) (hS : SAt w sa sc S) (hok : RefOk B S M) (hP : StepsAt w pa L) (hl : S.length + L.length ≤ 999999) (hL : L.length ≤ 1000)
  (hs : ∀ i, i < L.length → 0 ≤ (stpAt L i).2.1 ∧ (stpAt L i).2.1 ≤ 18446744073709551615 ∧ errM B (stpAt L i).2.1 = 0) :
  Calls Tryz.prog 73 #[.agg #[.int .i64 B, .slice sa S.length sc, .slice ta k tc], .agg #[.slice pa L.length pc, .int .i64 why, .bool rr.1, .bool rr.2.1, .bool rr.2.2, .int .i64 lv, .int .u64 fr], .bool dirty] w
   (EndSet8 B (markL B (dirty && why == 0) L M) (S.length + L.length) ta k tc w) := by
 have HS := Lib.hid hS
 have HP := Lib.hid hP
 have HSt := Lib.hid hs
 have HOk := Lib.hid hok
 have HB := Lib.hid hB
 generalize hE : EndSet8 B (markL B (dirty && why == 0) L M) (S.length + L.length) ta k tc w = E
 have HE := Lib.hid hE
 obtain ⟨b0, b1, b2⟩ := rr
 clear hE hS hP hs hok hB
 go_enter Tryz.func73, Tryz.ntmps73
 go_wp2
 refine wp_gen ?_; intro V hV
 have hVE : Ext w V := by rw [hV]; exact (by repeat (first | exact Ext.refl _ | assumption | refine Ext.alloc ?_ _ | refine Ext.drew ?_ | refine Ext.setCell ?_ (by first | (simp; done) | (dsimp only; omega)) _ | refine Ext.trans ?_ (by assumption)))
 have hV0 : V.heap[w.heap.size]? = some (.cells #[.int .i64 B, .slice sa S.length sc, .slice ta k tc] 41 (0, 0)) := by
  rw [hV]; exact (alloc_other _ _ (by first | (simp; done) | (simp; omega))).trans ((alloc_other _ _ (by simp)).trans (alloc_same ..))
 have hV1 : V.heap[w.heap.size + 1]? = some (.cells #[.slice pa L.length pc, .int .i64 why, .bool b0, .bool b1, .bool b2, .int .i64 lv, .int .u64 fr] 103 (0, 0)) := by
  rw [hV]; exact (alloc_other _ _ (by simp)).trans (alloc_same1 ..)
 have hV2 : V.heap[w.heap.size + 1 + 1]? = some (.cells #[.int .i64 0, .slice none 0 0, .slice none 0 0] 41 (0, 0)) := by
  rw [hV]; exact alloc_same2 ..
 obtain ⟨vb, hvb⟩ : ∃ vb, w.heap.size = vb := ⟨_, rfl⟩
 rw [hvb] at hV0 hV1 hV2 ⊢
 have hwv : w.heap.size ≤ vb := by omega
 have VE := Lib.hid hVE
 have V0 := Lib.hid hV0
 have V1 := Lib.hid hV1
 have V2 := Lib.hid hV2
 clear hV hVE hV0 hV1 hV2 hvb
 go_loopw [7] (fun iv wr => ∃ (i : Nat) (S' : List (Int × Int)) (M' : Int → Int) (sa' : Option Addr) (sc' : Nat), i ≤ L.length ∧ iv = .int .i64 i ∧ S'.length ≤ S.length + i ∧ Hid (wr.heap[vb]? = some (.cells #[.int .i64 B, .slice sa' S'.length sc', .slice ta k tc] 41 (0, 0)) ∧
  wr.heap[vb + 1]? = some (.cells #[.slice pa L.length pc, .int .i64 why, .bool b0, .bool b1, .bool b2, .int .i64 lv, .int .u64 fr] 103 (0, 0)) ∧ wr.heap[vb + 1 + 1]? = some (.cells #[.int .i64 0, .slice none 0 0, .slice none 0 0] 41 (0, 0)) ∧
  SAt wr sa' sc' S' ∧ RefOk B S' M' ∧ markL B (dirty && why == 0) (L.drop i) M' = markL B (dirty && why == 0) L M ∧ Ext w wr)) (fun iv _ => L.length - (intOf iv).toNat)
 case atStart => exact ⟨0, S, M, sa, sc, by omega, rfl, by omega, Lib.hid ⟨V0.out, V1.out, V2.out, HS.out.ext VE.out, HOk.out, by simp, VE.out⟩⟩
 case round =>
  obtain ⟨i, S', M', sa', sc', hi, rfl, hSl, hR⟩ := hrel
  have c0 := (heap_cell hR.out.2.1 0).trans rfl
  have c1 := (heap_cell hR.out.2.1 1).trans rfl
  have cl := heap_lt hR.out.2.1
  by_cases hlt : i < L.length
  ·obtain ⟨g, o, hpa, hgl, s0, s1, s2⟩ := (HP.out.ext hR.out.2.2.2.2.2.2) i hlt
   subst hpa
   obtain ⟨t0, t1, te⟩ := HSt.out i hlt
   have hst := markL_drop B (dirty && why == 0) L i hlt M'
   generalize stpAt L i = sj at s0 s1 s2 t0 t1 te hst
   obtain ⟨lj, aj, xj⟩ := sj
   dsimp only at s0 s1 s2 t0 t1 te hst
   have hdf : ((dirty && why == 0) && decide (i + 1 = L.length)) = ((((i : Int) == (L.length : Int) - 1) && dirty) && why == 0) := by
    have : decide (i + 1 = L.length) = ((i : Int) == (L.length : Int) - 1) := by rw [Bool.eq_iff_iff]; simp; omega
    rw [this]; cases dirty <;> cases (why == 0) <;> cases ((i : Int) == (L.length : Int) - 1) <;> rfl
   rw [hdf] at hst
   have HMs := Lib.hid (fun (df : Bool) w (h : SAt w sa' sc' S') => rMset_c B HB.out sa' ta S' M' k sc' tc aj df w h hR.out.2.2.2.2.1 (by omega) t0 t1 te)
   have d0 := (heap_cell hR.out.1 0).trans rfl
   have d1 := (heap_cell hR.out.1 1).trans rfl
   have d2 := (heap_cell hR.out.1 2).trans rfl
   have dl := heap_lt hR.out.1
   have hpath : ∀ df : Bool, ((((i : Int) == (L.length : Int) - 1) && dirty) && why == 0) = df → ∃ hq : True, True := fun _ _ => ⟨trivial, trivial⟩
   clear hpath hdf te
   have HST := Lib.hid hst
   clear hst
   by_cases hlast : i + 1 = L.length
   ·have hlb : ((i : Int) == (L.length : Int) - 1) = true := by rw [beq_iff_eq]; omega
    clear hlast
    cases dirty
    ·have HDf : Hid (((((i : Int) == (L.length : Int) - 1) && false) && why == 0) = false) := Lib.hid (by simp)
     have HMf := Lib.hid (HMs.out false)
     rw [show bitsD false = 32 from rfl] at HMf
     go_upto_region 7 with (fail)
     refine region_mix [.q [0, 1, 2, 3, 4, 5, 6, 7], .l 8 3, .l 9 2] (by kernel_rfl) (by kernel_rfl) ?_
     (try refine ⟨fun h => absurd h (by simp), ?_⟩); (repeat (unfold wpPlan; simp only [pickL, List.map_cons, List.map_nil, List.getD_cons_succ, List.getD_cons_zero]; (repeat go_big_quiet_step (fail)); refine wpQuiet_nil ?_)); unfold wpPlan; intro w1 hb1; (try simp only [pickL, List.map_cons, List.map_nil, List.getD_cons_succ, List.getD_cons_zero])
     have HB1 := Lib.hid hb1
     clear hb1
     go_wp2_with (first | (go_at_call 106; refine (HMf.out _ (hR.out.2.2.2.1.ext (HB1.out.trans (by repeat (first | exact Ext.refl _ | assumption | refine Ext.alloc ?_ _ | refine Ext.drew ?_ | refine Ext.setCell ?_ (by first | (simp; done) | (dsimp only; omega)) _ | refine Ext.trans ?_ (by assumption)))))).mono ?_; rintro e w2 ⟨sa2, sc2, S2, rfl, hs2, hok2, hle2, hb2⟩))
     refine ⟨fun _ => HB1.out.trans (Ext.trans (by repeat (first | exact Ext.refl _ | assumption | refine Ext.alloc ?_ _ | refine Ext.drew ?_ | refine Ext.setCell ?_ (by first | (simp; done) | (dsimp only; omega)) _ | refine Ext.trans ?_ (by assumption))) hb2), ?_⟩
     (try refine ⟨fun h => absurd h (by simp), ?_⟩); (repeat (unfold wpPlan; simp only [pickL, List.map_cons, List.map_nil, List.getD_cons_succ, List.getD_cons_zero]; (repeat go_big_quiet_step (fail)); refine wpQuiet_nil ?_)); unfold wpPlan; intro w3 hb3; (try simp only [pickL, List.map_cons, List.map_nil, List.getD_cons_succ, List.getD_cons_zero])
     have hE3 : Ext wr w3 := (HB1.out.trans (Ext.trans (by repeat (first | exact Ext.refl _ | assumption | refine Ext.alloc ?_ _ | refine Ext.drew ?_ | refine Ext.setCell ?_ (by first | (simp; done) | (dsimp only; omega)) _ | refine Ext.trans ?_ (by assumption))) hb2)).trans hb3
     have z0 := (hE3.block _ (heap_lt hR.out.1)).trans hR.out.1
     have z1 := (hE3.block _ (heap_lt hR.out.2.1)).trans hR.out.2.1
     have z2 := (hE3.block _ (heap_lt hR.out.2.2.1)).trans hR.out.2.2.1
     have zs := SAt.ext hs2 hb3
     have Z0 := Lib.hid z0
     have Z1 := Lib.hid z1
     have Z2 := Lib.hid z2
     have ZS := Lib.hid zs
     have ZE := Lib.hid (hR.out.2.2.2.2.2.2.trans hE3)
     have ZO := Lib.hid hok2
     clear hb2 hb3 hE3 z1 z2 zs hs2 hok2 c0 c1 d0 d1 d2 s0 s1 s2
     have d0 := (heap_cell z0 0).trans rfl
     have d1 := (heap_cell z0 1).trans rfl
     have d2 := (heap_cell z0 2).trans rfl
     have df := frozen_of z0
     have dl := heap_lt z0
     clear z0
     go_wp2
     (try refine ⟨fun h => absurd h (by simp), ?_⟩); (repeat (unfold wpPlan; simp only [pickL, List.map_cons, List.map_nil, List.getD_cons_succ, List.getD_cons_zero]; (repeat go_big_quiet_step (fail)); refine wpQuiet_nil ?_)); unfold wpPlan; intro w4 hb4; (try simp only [pickL, List.map_cons, List.map_nil, List.getD_cons_succ, List.getD_cons_zero])
     have HB4 := Lib.hid hb4
     clear hb4 d0 d1 d2 df
     go_wp2
     refine ⟨⟨i + 1, S2, markS B M' aj false, sa2, sc2, by omega, by go_num, by omega, Lib.hid ⟨?_, ?_, ?_, ?_, ZO.out, ?_, ?_⟩⟩, by simp [intOf]; omega⟩
     ·exact (HB4.out.block _ (by simp only [World.size_setCell]; exact heap_lt Z0.out)).trans (store3_heap Z0.out)
     ·exact (HB4.out.block _ (by simp only [World.size_setCell]; exact heap_lt Z1.out)).trans ((store3_other (by omega)).trans Z1.out)
     ·exact (HB4.out.block _ (by simp only [World.size_setCell]; exact heap_lt Z2.out)).trans ((store3_other (by omega)).trans Z2.out)
     ·exact SAt.ext (Owns.keep ZS.out fun g hg => store3_other (Owns.ne ZS.out Z0.out (by decide) g hg)) HB4.out
     ·have := HST.out
      rw [HDf.out] at this
      rw [← hR.out.2.2.2.2.2.1, this]
     ·exact (ext3 ZE.out (by omega)).trans HB4.out
    ·by_cases hw : why = 0
     ·have hwb : (why == 0) = true := by simpa using hw
      have HDf : Hid (((((i : Int) == (L.length : Int) - 1) && true) && why == 0) = true) := Lib.hid (by rw [hlb, hwb]; rfl)
      have HMf := Lib.hid (HMs.out true)
      rw [show bitsD true = 96 from rfl] at HMf
      clear hw
      go_upto_region 7 with (fail)
      refine region_mix [.q [0, 1, 2, 3, 4, 5, 6, 7], .l 8 3, .l 9 2] (by kernel_rfl) (by kernel_rfl) ?_
      (try refine ⟨fun h => absurd h (by simp), ?_⟩); (repeat (unfold wpPlan; simp only [pickL, List.map_cons, List.map_nil, List.getD_cons_succ, List.getD_cons_zero]; (repeat go_big_quiet_step (fail)); refine wpQuiet_nil ?_)); unfold wpPlan; intro w1 hb1; (try simp only [pickL, List.map_cons, List.map_nil, List.getD_cons_succ, List.getD_cons_zero])
      have HB1 := Lib.hid hb1
      clear hb1
      go_wp2_with (first | (go_at_call 106; refine (HMf.out _ (hR.out.2.2.2.1.ext (HB1.out.trans (by repeat (first | exact Ext.refl _ | assumption | refine Ext.alloc ?_ _ | refine Ext.drew ?_ | refine Ext.setCell ?_ (by first | (simp; done) | (dsimp only; omega)) _ | refine Ext.trans ?_ (by assumption)))))).mono ?_; rintro e w2 ⟨sa2, sc2, S2, rfl, hs2, hok2, hle2, hb2⟩))
      refine ⟨fun _ => HB1.out.trans (Ext.trans (by repeat (first | exact Ext.refl _ | assumption | refine Ext.alloc ?_ _ | refine Ext.drew ?_ | refine Ext.setCell ?_ (by first | (simp; done) | (dsimp only; omega)) _ | refine Ext.trans ?_ (by assumption))) hb2), ?_⟩
      (try refine ⟨fun h => absurd h (by simp), ?_⟩); (repeat (unfold wpPlan; simp only [pickL, List.map_cons, List.map_nil, List.getD_cons_succ, List.getD_cons_zero]; (repeat go_big_quiet_step (fail)); refine wpQuiet_nil ?_)); unfold wpPlan; intro w3 hb3; (try simp only [pickL, List.map_cons, List.map_nil, List.getD_cons_succ, List.getD_cons_zero])
      have hE3 : Ext wr w3 := (HB1.out.trans (Ext.trans (by repeat (first | exact Ext.refl _ | assumption | refine Ext.alloc ?_ _ | refine Ext.drew ?_ | refine Ext.setCell ?_ (by first | (simp; done) | (dsimp only; omega)) _ | refine Ext.trans ?_ (by assumption))) hb2)).trans hb3
      have z0 := (hE3.block _ (heap_lt hR.out.1)).trans hR.out.1
      have z1 := (hE3.block _ (heap_lt hR.out.2.1)).trans hR.out.2.1
      have z2 := (hE3.block _ (heap_lt hR.out.2.2.1)).trans hR.out.2.2.1
      have zs := SAt.ext hs2 hb3
      have Z0 := Lib.hid z0
      have Z1 := Lib.hid z1
      have Z2 := Lib.hid z2
      have ZS := Lib.hid zs
      have ZE := Lib.hid (hR.out.2.2.2.2.2.2.trans hE3)
      have ZO := Lib.hid hok2
      clear hb2 hb3 hE3 z1 z2 zs hs2 hok2 c0 c1 d0 d1 d2 s0 s1 s2
      have d0 := (heap_cell z0 0).trans rfl
      have d1 := (heap_cell z0 1).trans rfl
      have d2 := (heap_cell z0 2).trans rfl
      have df := frozen_of z0
      have dl := heap_lt z0
      clear z0
      go_wp2
      (try refine ⟨fun h => absurd h (by simp), ?_⟩); (repeat (unfold wpPlan; simp only [pickL, List.map_cons, List.map_nil, List.getD_cons_succ, List.getD_cons_zero]; (repeat go_big_quiet_step (fail)); refine wpQuiet_nil ?_)); unfold wpPlan; intro w4 hb4; (try simp only [pickL, List.map_cons, List.map_nil, List.getD_cons_succ, List.getD_cons_zero])
      have HB4 := Lib.hid hb4
      clear hb4 d0 d1 d2 df
      go_wp2
      refine ⟨⟨i + 1, S2, markS B M' aj true, sa2, sc2, by omega, by go_num, by omega, Lib.hid ⟨?_, ?_, ?_, ?_, ZO.out, ?_, ?_⟩⟩, by simp [intOf]; omega⟩
      ·exact (HB4.out.block _ (by simp only [World.size_setCell]; exact heap_lt Z0.out)).trans (store3_heap Z0.out)
      ·exact (HB4.out.block _ (by simp only [World.size_setCell]; exact heap_lt Z1.out)).trans ((store3_other (by omega)).trans Z1.out)
      ·exact (HB4.out.block _ (by simp only [World.size_setCell]; exact heap_lt Z2.out)).trans ((store3_other (by omega)).trans Z2.out)
      ·exact SAt.ext (Owns.keep ZS.out fun g hg => store3_other (Owns.ne ZS.out Z0.out (by decide) g hg)) HB4.out
      ·have := HST.out
       rw [HDf.out] at this
       rw [← hR.out.2.2.2.2.2.1, this]
      ·exact (ext3 ZE.out (by omega)).trans HB4.out
     ·have hwb : (why == 0) = false := by simpa using hw
      have HDf : Hid (((((i : Int) == (L.length : Int) - 1) && true) && why == 0) = false) := Lib.hid (by rw [hwb]; simp)
      have HMf := Lib.hid (HMs.out false)
      rw [show bitsD false = 32 from rfl] at HMf
      clear hw
      go_upto_region 7 with (fail)
      refine region_mix [.q [0, 1, 2, 3, 4, 5, 6, 7], .l 8 3, .l 9 2] (by kernel_rfl) (by kernel_rfl) ?_
      (try refine ⟨fun h => absurd h (by simp), ?_⟩); (repeat (unfold wpPlan; simp only [pickL, List.map_cons, List.map_nil, List.getD_cons_succ, List.getD_cons_zero]; (repeat go_big_quiet_step (fail)); refine wpQuiet_nil ?_)); unfold wpPlan; intro w1 hb1; (try simp only [pickL, List.map_cons, List.map_nil, List.getD_cons_succ, List.getD_cons_zero])
      have HB1 := Lib.hid hb1
      clear hb1
      go_wp2_with (first | (go_at_call 106; refine (HMf.out _ (hR.out.2.2.2.1.ext (HB1.out.trans (by repeat (first | exact Ext.refl _ | assumption | refine Ext.alloc ?_ _ | refine Ext.drew ?_ | refine Ext.setCell ?_ (by first | (simp; done) | (dsimp only; omega)) _ | refine Ext.trans ?_ (by assumption)))))).mono ?_; rintro e w2 ⟨sa2, sc2, S2, rfl, hs2, hok2, hle2, hb2⟩))
      refine ⟨fun _ => HB1.out.trans (Ext.trans (by repeat (first | exact Ext.refl _ | assumption | refine Ext.alloc ?_ _ | refine Ext.drew ?_ | refine Ext.setCell ?_ (by first | (simp; done) | (dsimp only; omega)) _ | refine Ext.trans ?_ (by assumption))) hb2), ?_⟩
      (try refine ⟨fun h => absurd h (by simp), ?_⟩); (repeat (unfold wpPlan; simp only [pickL, List.map_cons, List.map_nil, List.getD_cons_succ, List.getD_cons_zero]; (repeat go_big_quiet_step (fail)); refine wpQuiet_nil ?_)); unfold wpPlan; intro w3 hb3; (try simp only [pickL, List.map_cons, List.map_nil, List.getD_cons_succ, List.getD_cons_zero])
      have hE3 : Ext wr w3 := (HB1.out.trans (Ext.trans (by repeat (first | exact Ext.refl _ | assumption | refine Ext.alloc ?_ _ | refine Ext.drew ?_ | refine Ext.setCell ?_ (by first | (simp; done) | (dsimp only; omega)) _ | refine Ext.trans ?_ (by assumption))) hb2)).trans hb3
      have z0 := (hE3.block _ (heap_lt hR.out.1)).trans hR.out.1
      have z1 := (hE3.block _ (heap_lt hR.out.2.1)).trans hR.out.2.1
      have z2 := (hE3.block _ (heap_lt hR.out.2.2.1)).trans hR.out.2.2.1
      have zs := SAt.ext hs2 hb3
      have Z0 := Lib.hid z0
      have Z1 := Lib.hid z1
      have Z2 := Lib.hid z2
      have ZS := Lib.hid zs
      have ZE := Lib.hid (hR.out.2.2.2.2.2.2.trans hE3)
      have ZO := Lib.hid hok2
      clear hb2 hb3 hE3 z1 z2 zs hs2 hok2 c0 c1 d0 d1 d2 s0 s1 s2
      have d0 := (heap_cell z0 0).trans rfl
      have d1 := (heap_cell z0 1).trans rfl
      have d2 := (heap_cell z0 2).trans rfl
      have df := frozen_of z0
      have dl := heap_lt z0
      clear z0
      go_wp2
      (try refine ⟨fun h => absurd h (by simp), ?_⟩); (repeat (unfold wpPlan; simp only [pickL, List.map_cons, List.map_nil, List.getD_cons_succ, List.getD_cons_zero]; (repeat go_big_quiet_step (fail)); refine wpQuiet_nil ?_)); unfold wpPlan; intro w4 hb4; (try simp only [pickL, List.map_cons, List.map_nil, List.getD_cons_succ, List.getD_cons_zero])
      have HB4 := Lib.hid hb4
      clear hb4 d0 d1 d2 df
      go_wp2
      refine ⟨⟨i + 1, S2, markS B M' aj false, sa2, sc2, by omega, by go_num, by omega, Lib.hid ⟨?_, ?_, ?_, ?_, ZO.out, ?_, ?_⟩⟩, by simp [intOf]; omega⟩
      ·exact (HB4.out.block _ (by simp only [World.size_setCell]; exact heap_lt Z0.out)).trans (store3_heap Z0.out)
      ·exact (HB4.out.block _ (by simp only [World.size_setCell]; exact heap_lt Z1.out)).trans ((store3_other (by omega)).trans Z1.out)
      ·exact (HB4.out.block _ (by simp only [World.size_setCell]; exact heap_lt Z2.out)).trans ((store3_other (by omega)).trans Z2.out)
      ·exact SAt.ext (Owns.keep ZS.out fun g hg => store3_other (Owns.ne ZS.out Z0.out (by decide) g hg)) HB4.out
      ·have := HST.out
       rw [HDf.out] at this
       rw [← hR.out.2.2.2.2.2.1, this]
      ·exact (ext3 ZE.out (by omega)).trans HB4.out
   ·have hlb : ((i : Int) == (L.length : Int) - 1) = false := by rw [beq_eq_false_iff_ne]; omega
    clear hlast
    have HDf : Hid (((((i : Int) == (L.length : Int) - 1) && dirty) && why == 0) = false) := Lib.hid (by rw [hlb]; rfl)
    have HMf := Lib.hid (HMs.out false)
    rw [show bitsD false = 32 from rfl] at HMf
    go_upto_region 7 with (fail)
    refine region_mix [.q [0, 1, 2, 3, 4, 5, 6, 7], .l 8 3, .l 9 2] (by kernel_rfl) (by kernel_rfl) ?_
    (try refine ⟨fun h => absurd h (by simp), ?_⟩); (repeat (unfold wpPlan; simp only [pickL, List.map_cons, List.map_nil, List.getD_cons_succ, List.getD_cons_zero]; (repeat go_big_quiet_step (fail)); refine wpQuiet_nil ?_)); unfold wpPlan; intro w1 hb1; (try simp only [pickL, List.map_cons, List.map_nil, List.getD_cons_succ, List.getD_cons_zero])
    have HB1 := Lib.hid hb1
    clear hb1
    go_wp2_with (first | (go_at_call 106; refine (HMf.out _ (hR.out.2.2.2.1.ext (HB1.out.trans (by repeat (first | exact Ext.refl _ | assumption | refine Ext.alloc ?_ _ | refine Ext.drew ?_ | refine Ext.setCell ?_ (by first | (simp; done) | (dsimp only; omega)) _ | refine Ext.trans ?_ (by assumption)))))).mono ?_; rintro e w2 ⟨sa2, sc2, S2, rfl, hs2, hok2, hle2, hb2⟩))
    refine ⟨fun _ => HB1.out.trans (Ext.trans (by repeat (first | exact Ext.refl _ | assumption | refine Ext.alloc ?_ _ | refine Ext.drew ?_ | refine Ext.setCell ?_ (by first | (simp; done) | (dsimp only; omega)) _ | refine Ext.trans ?_ (by assumption))) hb2), ?_⟩
    (try refine ⟨fun h => absurd h (by simp), ?_⟩); (repeat (unfold wpPlan; simp only [pickL, List.map_cons, List.map_nil, List.getD_cons_succ, List.getD_cons_zero]; (repeat go_big_quiet_step (fail)); refine wpQuiet_nil ?_)); unfold wpPlan; intro w3 hb3; (try simp only [pickL, List.map_cons, List.map_nil, List.getD_cons_succ, List.getD_cons_zero])
    have hE3 : Ext wr w3 := (HB1.out.trans (Ext.trans (by repeat (first | exact Ext.refl _ | assumption | refine Ext.alloc ?_ _ | refine Ext.drew ?_ | refine Ext.setCell ?_ (by first | (simp; done) | (dsimp only; omega)) _ | refine Ext.trans ?_ (by assumption))) hb2)).trans hb3
    have z0 := (hE3.block _ (heap_lt hR.out.1)).trans hR.out.1
    have z1 := (hE3.block _ (heap_lt hR.out.2.1)).trans hR.out.2.1
    have z2 := (hE3.block _ (heap_lt hR.out.2.2.1)).trans hR.out.2.2.1
    have zs := SAt.ext hs2 hb3
    have Z0 := Lib.hid z0
    have Z1 := Lib.hid z1
    have Z2 := Lib.hid z2
    have ZS := Lib.hid zs
    have ZE := Lib.hid (hR.out.2.2.2.2.2.2.trans hE3)
    have ZO := Lib.hid hok2
    clear hb2 hb3 hE3 z1 z2 zs hs2 hok2 c0 c1 d0 d1 d2 s0 s1 s2
    have d0 := (heap_cell z0 0).trans rfl
    have d1 := (heap_cell z0 1).trans rfl
    have d2 := (heap_cell z0 2).trans rfl
    have df := frozen_of z0
    have dl := heap_lt z0
    clear z0
    go_wp2
    (try refine ⟨fun h => absurd h (by simp), ?_⟩); (repeat (unfold wpPlan; simp only [pickL, List.map_cons, List.map_nil, List.getD_cons_succ, List.getD_cons_zero]; (repeat go_big_quiet_step (fail)); refine wpQuiet_nil ?_)); unfold wpPlan; intro w4 hb4; (try simp only [pickL, List.map_cons, List.map_nil, List.getD_cons_succ, List.getD_cons_zero])
    have HB4 := Lib.hid hb4
    clear hb4 d0 d1 d2 df
    go_wp2
    refine ⟨⟨i + 1, S2, markS B M' aj false, sa2, sc2, by omega, by go_num, by omega, Lib.hid ⟨?_, ?_, ?_, ?_, ZO.out, ?_, ?_⟩⟩, by simp [intOf]; omega⟩
    ·exact (HB4.out.block _ (by simp only [World.size_setCell]; exact heap_lt Z0.out)).trans (store3_heap Z0.out)
    ·exact (HB4.out.block _ (by simp only [World.size_setCell]; exact heap_lt Z1.out)).trans ((store3_other (by omega)).trans Z1.out)
    ·exact (HB4.out.block _ (by simp only [World.size_setCell]; exact heap_lt Z2.out)).trans ((store3_other (by omega)).trans Z2.out)
    ·exact SAt.ext (Owns.keep ZS.out fun g hg => store3_other (Owns.ne ZS.out Z0.out (by decide) g hg)) HB4.out
    ·have := HST.out
     rw [HDf.out] at this
     rw [← hR.out.2.2.2.2.2.1, this]
    ·exact (ext3 ZE.out (by omega)).trans HB4.out
  ·obtain rfl : i = L.length := by omega
   have heq := hR.out.2.2.2.2.2.1
   rw [List.drop_length] at heq
   have HQ : Hid (M' = markL B (dirty && why == 0) L M) := Lib.hid heq
   have d0 := (heap_cell hR.out.1 0).trans rfl
   have d1 := (heap_cell hR.out.1 1).trans rfl
   have d2 := (heap_cell hR.out.1 2).trans rfl
   have dl := heap_lt hR.out.1
   have r0 := (heap_cell hR.out.2.2.1 0).trans rfl
   have r1 := (heap_cell hR.out.2.2.1 1).trans rfl
   have r2 := (heap_cell hR.out.2.2.1 2).trans rfl
   have rf := frozen_of hR.out.2.2.1
   have rl := heap_lt hR.out.2.2.1
   clear heq
   go_wp2
   refine post_gen (fun U => U.heap[vb + 1 + 1]? = some (.cells #[.int .i64 B, .slice sa' S'.length sc', .slice ta k tc] 41 (0, 0)) ∧ SAt U sa' sc' S' ∧ Ext w U) ⟨store3_heap hR.out.2.2.1, Owns.keep hR.out.2.2.2.1 fun g hg => store3_other (Owns.ne hR.out.2.2.2.1 hR.out.2.2.1 (by decide) g hg), ext3 hR.out.2.2.2.2.2.2 (by omega)⟩ ?_
   clear d0 d1 d2 r0 r1 r2 rf c0 c1
   rintro U ⟨m3, s3, e3⟩
   have v0 := (heap_cell m3 0).trans rfl
   have v1 := (heap_cell m3 1).trans rfl
   have v2 := (heap_cell m3 2).trans rfl
   have HE3 := Lib.hid e3
   have HS3 := Lib.hid s3
   clear m3 e3 s3
   refine bodyPost_ret (by simp [results, Tryz.results73, go_sem, ↓IntWalk.iteOmega, *]; try rfl) rfl (by rw [← HE.out, ← HQ.out]; exact EndSet8.mk HS3.out hR.out.2.2.2.2.1 hSl HE3.out)
end Go.Proofs.YtkfonacokamfiaaGreat
