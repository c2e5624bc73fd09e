/- Joined texts, part 18 of what the law stands on: each as its own head says. -/
import Derived.Test.YtkfonacokamfiaaGreatGoz8
import Derived.Test.YtkfonacokamfiaaGreatGoz17
/- Mark: a path's slots' flags. -/
namespace Go.Proofs.YtkfonacokamfiaaGreat
set_option linter.unusedVariables false
set_option linter.unusedSimpArgs false
open Go.RowKit
attribute [local go_sem] wext_cell wext_frozen wext_heap alloc_cell alloc_frozen alloc_heap setCell_cell objCell_cells objFrozen_cells
def StepsAt (U : World) (sa : Option Addr) (L : List Stp) : Prop :=
 ∀ i, i < L.length → ∃ g o, sa = some ⟨g, o, none⟩ ∧ g < U.heap.size ∧ U.cell? ⟨g, o + i * 3, none⟩ = some (.int .i64 (stpAt L i).1) ∧ U.cell? ⟨g, o + i * 3 + 1, none⟩ = some (.int .u64 (stpAt L i).2.1) ∧ U.cell? ⟨g, o + i * 3 + 2, none⟩ = some (.int .u64 (stpAt L i).2.2)
theorem StepsAt.ext {U V : World} {sa : Option Addr} {L : List Stp} (h : StepsAt U sa L) (k : Ext U V) : StepsAt V sa L := fun i hi => by
 obtain ⟨g, o, h1, h2, h3, h4, h5⟩ := h i hi
 exact ⟨g, o, h1, Nat.lt_of_lt_of_le h2 k.size, k.someCell h3, k.someCell h4, k.someCell h5⟩
theorem StepsAt.of {U : World} {sa : Option Addr} {sc : Nat} {L : List Stp} (h : Owns U 94 3 (.slice sa L.length sc) L.length (rowS L)) : StepsAt U sa L := fun i hi => by
 obtain ⟨g, h1, h2, h3, h4, h5⟩ := h.step hi rfl
 exact ⟨g, 0, h1, h2, by rw [Nat.zero_add]; exact h3, by rw [Nat.zero_add]; exact h4, by rw [Nat.zero_add]; exact h5⟩
theorem markL_drop (B : Int) (df : Bool) (L : List Stp) (j : Nat) (h : j < L.length) (M : Int → Int) : markL B df (L.drop j) M = markL B df (L.drop (j + 1)) (markS B M (stpAt L j).2.1 (df && decide (j + 1 = L.length))) := by
 have e : L.drop j = stpAt L j :: L.drop (j + 1) := by
  rw [List.drop_eq_getElem_cons h]
  congr 1
  simp [stpAt, List.getD, h]
 rw [e]
 show markL B df _ (markS B M _ (df && (L.drop (j + 1)).isEmpty)) = _
 have : (L.drop (j + 1)).isEmpty = decide (j + 1 = L.length) := by
  rw [Bool.eq_iff_iff, List.isEmpty_iff, List.drop_eq_nil_iff, decide_eq_true_eq]; omega
 rw [this]
def EndMark (P : Nat → Prop) (mb : Nat) (B : Int) (M : Int → Int) (T : List Int) (U : World) (e : Ending) (V : World) : Prop := e = .returned (.tuple #[]) ∧ MemP P V mb B M T ∧ SepP P U V
set_option maxHeartbeats 4000000 in
set_option maxRecDepth 100000 in
theorem mark_p (P : Nat → Prop) (mb : Nat) (B : Int) (M : Int → Int) (T : List Int) (L : List Stp) (sa : Option Addr) (sc : Nat) (why : Int) (rr : Rt) (lv fr : Int) (dirty : Bool) (U : World) (h : MemP P U mb B M T) (hb : Up P U.heap.size)
  (hS : StepsAt U sa L) (hSb : ∀ V, SepP P U V → StepsAt V sa L) (hL : L.length ≤ 1000000) (hok : ∀ i, i < L.length → 0 ≤ (stpAt L i).2.1 ∧ (stpAt L i).2.1 ≤ 18446744073709551615) :
  Calls Tryz.prog 95 #[.pointer (some ⟨mb, 0, none⟩), .agg #[.slice sa L.length sc, .int .i64 why, .bool rr.1, .bool rr.2.1, .bool rr.2.2, .int .i64 lv, .int .u64 fr], .bool dirty] U
   (EndMark P mb B (markL B (dirty && why == 0) L M) T U) := by
 have HM := Lib.hid h
 have HS := Lib.hid hSb
 have HO := Lib.hid hok
 have hW := h.wide
 have HW := Lib.hid hW
 generalize hE : EndMark P mb B (markL B (dirty && why == 0) L M) T U = E
 have HE := Lib.hid hE
 clear hE hS hSb h hok hW
 go_enter Tryz.func95, Tryz.ntmps95
 go_wp2
 refine wp_gen ?_; intro V hV
 have hVE : Ext U V := by rw [hV]; exact (by repeat (first | exact Ext.refl _ | assumption | refine Ext.alloc ?_ _ | refine Ext.drew ?_ | refine Ext.setCell ?_ (by first | (simp; done) | (dsimp only; omega)) _ | refine Ext.trans ?_ (by assumption)))
 have hVp : V.heap[U.heap.size]? = some (.cells #[.slice sa L.length sc, .int .i64 why, .bool rr.1, .bool rr.2.1, .bool rr.2.2, .int .i64 lv, .int .u64 fr] 86 (0, 0)) := by rw [hV]; exact alloc_same ..
 have VE := Lib.hid hVE
 have VP := Lib.hid hVp
 clear hV hVE hVp
 go_wp2
 go_loopw [14] (fun i wr => ∃ (j : Nat) (M' : Int → Int), j ≤ L.length ∧ i = .int .i64 j ∧ Hid (MemP P wr mb B M' T ∧ SepP P V wr ∧ markL B (dirty && why == 0) (L.drop j) M' = markL B (dirty && why == 0) L M ∧
  wr.heap[U.heap.size]? = some (.cells #[.slice sa L.length sc, .int .i64 why, .bool rr.1, .bool rr.2.1, .bool rr.2.2, .int .i64 lv, .int .u64 fr] 86 (0, 0)))) (fun i _ => L.length - (intOf i).toNat)
 case atStart => exact ⟨0, M, by omega, rfl, Lib.hid ⟨HM.out.ext VE.out, SepP.of_ext (Ext.refl _), by simp, VP.out⟩⟩
 case round =>
  obtain ⟨j, M', hj, rfl, hR⟩ := hrel
  by_cases hlt : j < L.length
  ·have hSU : SepP P U wr := (SepP.of_ext VE.out).trans hR.out.2.1
   obtain ⟨g, o, rfl, hgl, s0, s1, s2⟩ := HS.out wr hSU j hlt
   obtain ⟨ha0, ha1⟩ := HO.out j hlt
   have hst := markL_drop B (dirty && why == 0) L j hlt M'
   have HSU := Lib.hid hSU
   generalize stpAt L j = sj at s0 s1 s2 ha0 ha1 hst
   obtain ⟨lj, aj, xj⟩ := sj
   dsimp only at s0 s1 s2 ha0 ha1 hst
   have HST := Lib.hid hst
   have c0 := (heap_cell hR.out.2.2.2 0).trans rfl
   have c1 := (heap_cell hR.out.2.2.2 1).trans rfl
   have hul := heap_lt hR.out.2.2.2
   have HP := Lib.hid (fun w1 (k : Ext wr w1) => peek_p P mb B M' T aj w1 (hR.out.1.ext k) ha0 ha1)
   have ⟨m0, m1⟩ := hR.out.1.wide (aj / 8)
   obtain ⟨x, hx⟩ : ∃ x, M' (aj / 8) = x := ⟨_, rfl⟩
   rw [hx] at m0 m1
   have HX := Lib.hid hx
   have HWS := Lib.hid (fun w1 (k : Ext wr w1) y (hy0 : 0 ≤ y) (hy1 : y ≤ 18446744073709551615) => store_p P mb B M' T aj y w1 (hR.out.1.ext k) (hb.mono (Nat.le_trans HSU.out.size k.size)) ha0 ha1 hy0 hy1)
   clear hst hSU hx
   cases dirty
   ·have DF : Hid ((false && why == 0 && decide (j + 1 = L.length)) = false) := Lib.hid rfl
    have hand := and32 m0 m1
    have hor := or32 m0 m1
    have hle := orA_le m0 m1
    by_cases he : errM B aj = 0
    ·have HPe : Hid (∀ w1, Ext wr w1 → Calls Tryz.prog 32 #[.pointer (some ⟨mb, 0, none⟩), .int .u64 aj] w1 fun e w' => e = .returned (.tuple #[.int .u64 x, .int .i64 0]) ∧ Ext w1 w') := Lib.hid (fun w1 k => by have := HP.out w1 k; rw [if_pos he, he, HX.out] at this; exact this)
     have hsame : orA x = x → markS B M' aj false = M' := fun e => by unfold markS; rw [if_pos he, HX.out]; simp only [Bool.false_eq_true, if_false]; rw [e, ← HX.out]; exact setM_self M' (aj / 8)
     have hnew : setIf B M' aj (orA x) = markS B M' aj false := by unfold setIf markS; rw [if_pos he, if_pos he, HX.out]; rfl
     have HE0 := Lib.hid he
     have HSA := Lib.hid hsame
     have HNW := Lib.hid hnew
     clear he hsame hnew
     by_cases hx9 : x / 32 % 2 = 1
     ·have hfix : orA x = x := by unfold orA; omega
      have hxe : (x / 32 % 2 * 32 != 32) = false := by rw [hx9]; rfl
      have HFX := Lib.hid hfix
      clear hx9 hfix hor
      go_wp2_with (first | (go_at_call 32; refine (HPe.out _ (by repeat (first | exact Ext.refl _ | assumption | refine Ext.alloc ?_ _ | refine Ext.drew ?_ | refine Ext.setCell ?_ (by first | (simp; done) | (dsimp only; omega)) _ | refine Ext.trans ?_ (by assumption)))).mono ?_; rintro e w5 ⟨rfl, hb5⟩; have ⟨hc, hf, hh, hs⟩ := hb5.facts; try simp only [World.size_alloc, World.size_setCell, World.size_drew] at hs))
      refine ⟨⟨j + 1, M', by omega, by go_num, Lib.hid ⟨hR.out.1.ext (by repeat (first | exact Ext.refl _ | assumption | refine Ext.alloc ?_ _ | refine Ext.drew ?_ | refine Ext.setCell ?_ (by first | (simp; done) | (dsimp only; omega)) _ | refine Ext.trans ?_ (by assumption))), hR.out.2.1.ext (by repeat (first | exact Ext.refl _ | assumption | refine Ext.alloc ?_ _ | refine Ext.drew ?_ | refine Ext.setCell ?_ (by first | (simp; done) | (dsimp only; omega)) _ | refine Ext.trans ?_ (by assumption))), ?_, ((Ext.trans (by repeat (first | exact Ext.refl _ | assumption | refine Ext.alloc ?_ _ | refine Ext.drew ?_ | refine Ext.setCell ?_ (by first | (simp; done) | (dsimp only; omega)) _ | refine Ext.trans ?_ (by assumption))) hb5 : Ext wr w5).block _ hul).trans hR.out.2.2.2⟩⟩, by simp [intOf]; omega⟩
      have := HST.out
      rw [DF.out, HSA.out HFX.out] at this
      rw [← hR.out.2.2.1, this]
     ·have hxe : (x / 32 % 2 * 32 != 32) = true := by rw [bne_iff_ne]; omega
      clear hx9
      go_wp2_with (first | (go_at_call 32; refine (HPe.out _ (by repeat (first | exact Ext.refl _ | assumption | refine Ext.alloc ?_ _ | refine Ext.drew ?_ | refine Ext.setCell ?_ (by first | (simp; done) | (dsimp only; omega)) _ | refine Ext.trans ?_ (by assumption)))).mono ?_; rintro e w5 ⟨rfl, hb5⟩; have ⟨hc, hf, hh, hs⟩ := hb5.facts; try simp only [World.size_alloc, World.size_setCell, World.size_drew] at hs) | (go_at_call 21; refine (HWS.out _ (Ext.trans (by repeat (first | exact Ext.refl _ | assumption | refine Ext.alloc ?_ _ | refine Ext.drew ?_ | refine Ext.setCell ?_ (by first | (simp; done) | (dsimp only; omega)) _ | refine Ext.trans ?_ (by assumption))) hb5) _ hle.1 hle.2).mono ?_; rintro e w6 ⟨rfl, hM6, hP6⟩))
      refine ⟨⟨j + 1, markS B M' aj false, by omega, by go_num, Lib.hid ⟨by rw [← HNW.out]; exact hM6, ?_, ?_, ?_⟩⟩, by simp [intOf]; omega⟩
      ·exact (hR.out.2.1.ext (Ext.trans (by repeat (first | exact Ext.refl _ | assumption | refine Ext.alloc ?_ _ | refine Ext.drew ?_ | refine Ext.setCell ?_ (by first | (simp; done) | (dsimp only; omega)) _ | refine Ext.trans ?_ (by assumption))) hb5)).trans hP6
      ·have := HST.out
       rw [DF.out] at this
       rw [← hR.out.2.2.1, this]
      ·exact hP6.2 _ _ _ (((Ext.trans (by repeat (first | exact Ext.refl _ | assumption | refine Ext.alloc ?_ _ | refine Ext.drew ?_ | refine Ext.setCell ?_ (by first | (simp; done) | (dsimp only; omega)) _ | refine Ext.trans ?_ (by assumption))) hb5 : Ext wr w5).block _ hul).trans hR.out.2.2.2) (by decide) (by decide) (by decide)
    ·have heb : (errM B aj == 0) = false := by simpa using he
     have hsame : markS B M' aj false = M' := by unfold markS; rw [if_neg he]
     have HPe : Hid (∀ w1, Ext wr w1 → Calls Tryz.prog 32 #[.pointer (some ⟨mb, 0, none⟩), .int .u64 aj] w1 fun e w' => e = .returned (.tuple #[.int .u64 0, .int .i64 (errM B aj)]) ∧ Ext w1 w') := Lib.hid (fun w1 k => by have := HP.out w1 k; rw [if_neg he] at this; exact this)
     have HSA := Lib.hid hsame
     generalize errM B aj = er at HPe heb
     clear he hsame
     go_wp2_with (first | (go_at_call 32; refine (HPe.out _ (by repeat (first | exact Ext.refl _ | assumption | refine Ext.alloc ?_ _ | refine Ext.drew ?_ | refine Ext.setCell ?_ (by first | (simp; done) | (dsimp only; omega)) _ | refine Ext.trans ?_ (by assumption)))).mono ?_; rintro e w5 ⟨rfl, hb5⟩; have ⟨hc, hf, hh, hs⟩ := hb5.facts; try simp only [World.size_alloc, World.size_setCell, World.size_drew] at hs))
     refine ⟨⟨j + 1, M', by omega, by go_num, Lib.hid ⟨hR.out.1.ext (by repeat (first | exact Ext.refl _ | assumption | refine Ext.alloc ?_ _ | refine Ext.drew ?_ | refine Ext.setCell ?_ (by first | (simp; done) | (dsimp only; omega)) _ | refine Ext.trans ?_ (by assumption))), hR.out.2.1.ext (by repeat (first | exact Ext.refl _ | assumption | refine Ext.alloc ?_ _ | refine Ext.drew ?_ | refine Ext.setCell ?_ (by first | (simp; done) | (dsimp only; omega)) _ | refine Ext.trans ?_ (by assumption))), ?_, ((Ext.trans (by repeat (first | exact Ext.refl _ | assumption | refine Ext.alloc ?_ _ | refine Ext.drew ?_ | refine Ext.setCell ?_ (by first | (simp; done) | (dsimp only; omega)) _ | refine Ext.trans ?_ (by assumption))) hb5 : Ext wr w5).block _ hul).trans hR.out.2.2.2⟩⟩, by simp [intOf]; omega⟩
     have := HST.out
     rw [DF.out, HSA.out] at this
     rw [← hR.out.2.2.1, this]
   ·by_cases hw : why = 0
    ·have hwb : (why == 0) = true := by simpa using hw
     by_cases hl : j + 1 = L.length
     ·have hlb : ((j : Int) == (L.length : Int) - 1) = true := by rw [beq_iff_eq]; omega
      have DF : Hid ((true && why == 0 && decide (j + 1 = L.length)) = true) := Lib.hid (by simp [hw, hl])
      clear hl hw
      have hand := and96 m0 m1
      have hor := or96 m0 m1
      have hle := orD_le m0 m1
      by_cases he : errM B aj = 0
      ·have HPe : Hid (∀ w1, Ext wr w1 → Calls Tryz.prog 32 #[.pointer (some ⟨mb, 0, none⟩), .int .u64 aj] w1 fun e w' => e = .returned (.tuple #[.int .u64 x, .int .i64 0]) ∧ Ext w1 w') := Lib.hid (fun w1 k => by have := HP.out w1 k; rw [if_pos he, he, HX.out] at this; exact this)
       have hsame : orD x = x → markS B M' aj true = M' := fun e => by unfold markS; rw [if_pos he, HX.out]; simp only [if_true]; rw [e, ← HX.out]; exact setM_self M' (aj / 8)
       have hnew : setIf B M' aj (orD x) = markS B M' aj true := by unfold setIf markS; rw [if_pos he, if_pos he, HX.out]; rfl
       have HE0 := Lib.hid he
       have HSA := Lib.hid hsame
       have HNW := Lib.hid hnew
       clear he hsame hnew
       by_cases hx9 : x / 32 % 4 = 3
       ·have hfix : orD x = x := by unfold orD; omega
        have hxe : (x / 32 % 4 * 32 != 96) = false := by rw [hx9]; rfl
        have HFX := Lib.hid hfix
        clear hx9 hfix hor
        go_wp2_with (first | (go_at_call 32; refine (HPe.out _ (by repeat (first | exact Ext.refl _ | assumption | refine Ext.alloc ?_ _ | refine Ext.drew ?_ | refine Ext.setCell ?_ (by first | (simp; done) | (dsimp only; omega)) _ | refine Ext.trans ?_ (by assumption)))).mono ?_; rintro e w5 ⟨rfl, hb5⟩; have ⟨hc, hf, hh, hs⟩ := hb5.facts; try simp only [World.size_alloc, World.size_setCell, World.size_drew] at hs))
        refine ⟨⟨j + 1, M', by omega, by go_num, Lib.hid ⟨hR.out.1.ext (by repeat (first | exact Ext.refl _ | assumption | refine Ext.alloc ?_ _ | refine Ext.drew ?_ | refine Ext.setCell ?_ (by first | (simp; done) | (dsimp only; omega)) _ | refine Ext.trans ?_ (by assumption))), hR.out.2.1.ext (by repeat (first | exact Ext.refl _ | assumption | refine Ext.alloc ?_ _ | refine Ext.drew ?_ | refine Ext.setCell ?_ (by first | (simp; done) | (dsimp only; omega)) _ | refine Ext.trans ?_ (by assumption))), ?_, ((Ext.trans (by repeat (first | exact Ext.refl _ | assumption | refine Ext.alloc ?_ _ | refine Ext.drew ?_ | refine Ext.setCell ?_ (by first | (simp; done) | (dsimp only; omega)) _ | refine Ext.trans ?_ (by assumption))) hb5 : Ext wr w5).block _ hul).trans hR.out.2.2.2⟩⟩, by simp [intOf]; omega⟩
        have := HST.out
        rw [DF.out, HSA.out HFX.out] at this
        rw [← hR.out.2.2.1, this]
       ·have hxe : (x / 32 % 4 * 32 != 96) = true := by rw [bne_iff_ne]; omega
        clear hx9
        go_wp2_with (first | (go_at_call 32; refine (HPe.out _ (by repeat (first | exact Ext.refl _ | assumption | refine Ext.alloc ?_ _ | refine Ext.drew ?_ | refine Ext.setCell ?_ (by first | (simp; done) | (dsimp only; omega)) _ | refine Ext.trans ?_ (by assumption)))).mono ?_; rintro e w5 ⟨rfl, hb5⟩; have ⟨hc, hf, hh, hs⟩ := hb5.facts; try simp only [World.size_alloc, World.size_setCell, World.size_drew] at hs) | (go_at_call 21; refine (HWS.out _ (Ext.trans (by repeat (first | exact Ext.refl _ | assumption | refine Ext.alloc ?_ _ | refine Ext.drew ?_ | refine Ext.setCell ?_ (by first | (simp; done) | (dsimp only; omega)) _ | refine Ext.trans ?_ (by assumption))) hb5) _ hle.1 hle.2).mono ?_; rintro e w6 ⟨rfl, hM6, hP6⟩))
        refine ⟨⟨j + 1, markS B M' aj true, by omega, by go_num, Lib.hid ⟨by rw [← HNW.out]; exact hM6, ?_, ?_, ?_⟩⟩, by simp [intOf]; omega⟩
        ·exact (hR.out.2.1.ext (Ext.trans (by repeat (first | exact Ext.refl _ | assumption | refine Ext.alloc ?_ _ | refine Ext.drew ?_ | refine Ext.setCell ?_ (by first | (simp; done) | (dsimp only; omega)) _ | refine Ext.trans ?_ (by assumption))) hb5)).trans hP6
        ·have := HST.out
         rw [DF.out] at this
         rw [← hR.out.2.2.1, this]
        ·exact hP6.2 _ _ _ (((Ext.trans (by repeat (first | exact Ext.refl _ | assumption | refine Ext.alloc ?_ _ | refine Ext.drew ?_ | refine Ext.setCell ?_ (by first | (simp; done) | (dsimp only; omega)) _ | refine Ext.trans ?_ (by assumption))) hb5 : Ext wr w5).block _ hul).trans hR.out.2.2.2) (by decide) (by decide) (by decide)
      ·have heb : (errM B aj == 0) = false := by simpa using he
       have hsame : markS B M' aj true = M' := by unfold markS; rw [if_neg he]
       have HPe : Hid (∀ w1, Ext wr w1 → Calls Tryz.prog 32 #[.pointer (some ⟨mb, 0, none⟩), .int .u64 aj] w1 fun e w' => e = .returned (.tuple #[.int .u64 0, .int .i64 (errM B aj)]) ∧ Ext w1 w') := Lib.hid (fun w1 k => by have := HP.out w1 k; rw [if_neg he] at this; exact this)
       have HSA := Lib.hid hsame
       generalize errM B aj = er at HPe heb
       clear he hsame
       go_wp2_with (first | (go_at_call 32; refine (HPe.out _ (by repeat (first | exact Ext.refl _ | assumption | refine Ext.alloc ?_ _ | refine Ext.drew ?_ | refine Ext.setCell ?_ (by first | (simp; done) | (dsimp only; omega)) _ | refine Ext.trans ?_ (by assumption)))).mono ?_; rintro e w5 ⟨rfl, hb5⟩; have ⟨hc, hf, hh, hs⟩ := hb5.facts; try simp only [World.size_alloc, World.size_setCell, World.size_drew] at hs))
       refine ⟨⟨j + 1, M', by omega, by go_num, Lib.hid ⟨hR.out.1.ext (by repeat (first | exact Ext.refl _ | assumption | refine Ext.alloc ?_ _ | refine Ext.drew ?_ | refine Ext.setCell ?_ (by first | (simp; done) | (dsimp only; omega)) _ | refine Ext.trans ?_ (by assumption))), hR.out.2.1.ext (by repeat (first | exact Ext.refl _ | assumption | refine Ext.alloc ?_ _ | refine Ext.drew ?_ | refine Ext.setCell ?_ (by first | (simp; done) | (dsimp only; omega)) _ | refine Ext.trans ?_ (by assumption))), ?_, ((Ext.trans (by repeat (first | exact Ext.refl _ | assumption | refine Ext.alloc ?_ _ | refine Ext.drew ?_ | refine Ext.setCell ?_ (by first | (simp; done) | (dsimp only; omega)) _ | refine Ext.trans ?_ (by assumption))) hb5 : Ext wr w5).block _ hul).trans hR.out.2.2.2⟩⟩, by simp [intOf]; omega⟩
       have := HST.out
       rw [DF.out, HSA.out] at this
       rw [← hR.out.2.2.1, this]
     ·have hlb : ((j : Int) == (L.length : Int) - 1) = false := by rw [beq_eq_false_iff_ne]; omega
      have DF : Hid ((true && why == 0 && decide (j + 1 = L.length)) = false) := Lib.hid (by simp [hl])
      clear hl hw
      have hand := and32 m0 m1
      have hor := or32 m0 m1
      have hle := orA_le m0 m1
      by_cases he : errM B aj = 0
      ·have HPe : Hid (∀ w1, Ext wr w1 → Calls Tryz.prog 32 #[.pointer (some ⟨mb, 0, none⟩), .int .u64 aj] w1 fun e w' => e = .returned (.tuple #[.int .u64 x, .int .i64 0]) ∧ Ext w1 w') := Lib.hid (fun w1 k => by have := HP.out w1 k; rw [if_pos he, he, HX.out] at this; exact this)
       have hsame : orA x = x → markS B M' aj false = M' := fun e => by unfold markS; rw [if_pos he, HX.out]; simp only [Bool.false_eq_true, if_false]; rw [e, ← HX.out]; exact setM_self M' (aj / 8)
       have hnew : setIf B M' aj (orA x) = markS B M' aj false := by unfold setIf markS; rw [if_pos he, if_pos he, HX.out]; rfl
       have HE0 := Lib.hid he
       have HSA := Lib.hid hsame
       have HNW := Lib.hid hnew
       clear he hsame hnew
       by_cases hx9 : x / 32 % 2 = 1
       ·have hfix : orA x = x := by unfold orA; omega
        have hxe : (x / 32 % 2 * 32 != 32) = false := by rw [hx9]; rfl
        have HFX := Lib.hid hfix
        clear hx9 hfix hor
        go_wp2_with (first | (go_at_call 32; refine (HPe.out _ (by repeat (first | exact Ext.refl _ | assumption | refine Ext.alloc ?_ _ | refine Ext.drew ?_ | refine Ext.setCell ?_ (by first | (simp; done) | (dsimp only; omega)) _ | refine Ext.trans ?_ (by assumption)))).mono ?_; rintro e w5 ⟨rfl, hb5⟩; have ⟨hc, hf, hh, hs⟩ := hb5.facts; try simp only [World.size_alloc, World.size_setCell, World.size_drew] at hs))
        refine ⟨⟨j + 1, M', by omega, by go_num, Lib.hid ⟨hR.out.1.ext (by repeat (first | exact Ext.refl _ | assumption | refine Ext.alloc ?_ _ | refine Ext.drew ?_ | refine Ext.setCell ?_ (by first | (simp; done) | (dsimp only; omega)) _ | refine Ext.trans ?_ (by assumption))), hR.out.2.1.ext (by repeat (first | exact Ext.refl _ | assumption | refine Ext.alloc ?_ _ | refine Ext.drew ?_ | refine Ext.setCell ?_ (by first | (simp; done) | (dsimp only; omega)) _ | refine Ext.trans ?_ (by assumption))), ?_, ((Ext.trans (by repeat (first | exact Ext.refl _ | assumption | refine Ext.alloc ?_ _ | refine Ext.drew ?_ | refine Ext.setCell ?_ (by first | (simp; done) | (dsimp only; omega)) _ | refine Ext.trans ?_ (by assumption))) hb5 : Ext wr w5).block _ hul).trans hR.out.2.2.2⟩⟩, by simp [intOf]; omega⟩
        have := HST.out
        rw [DF.out, HSA.out HFX.out] at this
        rw [← hR.out.2.2.1, this]
       ·have hxe : (x / 32 % 2 * 32 != 32) = true := by rw [bne_iff_ne]; omega
        clear hx9
        go_wp2_with (first | (go_at_call 32; refine (HPe.out _ (by repeat (first | exact Ext.refl _ | assumption | refine Ext.alloc ?_ _ | refine Ext.drew ?_ | refine Ext.setCell ?_ (by first | (simp; done) | (dsimp only; omega)) _ | refine Ext.trans ?_ (by assumption)))).mono ?_; rintro e w5 ⟨rfl, hb5⟩; have ⟨hc, hf, hh, hs⟩ := hb5.facts; try simp only [World.size_alloc, World.size_setCell, World.size_drew] at hs) | (go_at_call 21; refine (HWS.out _ (Ext.trans (by repeat (first | exact Ext.refl _ | assumption | refine Ext.alloc ?_ _ | refine Ext.drew ?_ | refine Ext.setCell ?_ (by first | (simp; done) | (dsimp only; omega)) _ | refine Ext.trans ?_ (by assumption))) hb5) _ hle.1 hle.2).mono ?_; rintro e w6 ⟨rfl, hM6, hP6⟩))
        refine ⟨⟨j + 1, markS B M' aj false, by omega, by go_num, Lib.hid ⟨by rw [← HNW.out]; exact hM6, ?_, ?_, ?_⟩⟩, by simp [intOf]; omega⟩
        ·exact (hR.out.2.1.ext (Ext.trans (by repeat (first | exact Ext.refl _ | assumption | refine Ext.alloc ?_ _ | refine Ext.drew ?_ | refine Ext.setCell ?_ (by first | (simp; done) | (dsimp only; omega)) _ | refine Ext.trans ?_ (by assumption))) hb5)).trans hP6
        ·have := HST.out
         rw [DF.out] at this
         rw [← hR.out.2.2.1, this]
        ·exact hP6.2 _ _ _ (((Ext.trans (by repeat (first | exact Ext.refl _ | assumption | refine Ext.alloc ?_ _ | refine Ext.drew ?_ | refine Ext.setCell ?_ (by first | (simp; done) | (dsimp only; omega)) _ | refine Ext.trans ?_ (by assumption))) hb5 : Ext wr w5).block _ hul).trans hR.out.2.2.2) (by decide) (by decide) (by decide)
      ·have heb : (errM B aj == 0) = false := by simpa using he
       have hsame : markS B M' aj false = M' := by unfold markS; rw [if_neg he]
       have HPe : Hid (∀ w1, Ext wr w1 → Calls Tryz.prog 32 #[.pointer (some ⟨mb, 0, none⟩), .int .u64 aj] w1 fun e w' => e = .returned (.tuple #[.int .u64 0, .int .i64 (errM B aj)]) ∧ Ext w1 w') := Lib.hid (fun w1 k => by have := HP.out w1 k; rw [if_neg he] at this; exact this)
       have HSA := Lib.hid hsame
       generalize errM B aj = er at HPe heb
       clear he hsame
       go_wp2_with (first | (go_at_call 32; refine (HPe.out _ (by repeat (first | exact Ext.refl _ | assumption | refine Ext.alloc ?_ _ | refine Ext.drew ?_ | refine Ext.setCell ?_ (by first | (simp; done) | (dsimp only; omega)) _ | refine Ext.trans ?_ (by assumption)))).mono ?_; rintro e w5 ⟨rfl, hb5⟩; have ⟨hc, hf, hh, hs⟩ := hb5.facts; try simp only [World.size_alloc, World.size_setCell, World.size_drew] at hs))
       refine ⟨⟨j + 1, M', by omega, by go_num, Lib.hid ⟨hR.out.1.ext (by repeat (first | exact Ext.refl _ | assumption | refine Ext.alloc ?_ _ | refine Ext.drew ?_ | refine Ext.setCell ?_ (by first | (simp; done) | (dsimp only; omega)) _ | refine Ext.trans ?_ (by assumption))), hR.out.2.1.ext (by repeat (first | exact Ext.refl _ | assumption | refine Ext.alloc ?_ _ | refine Ext.drew ?_ | refine Ext.setCell ?_ (by first | (simp; done) | (dsimp only; omega)) _ | refine Ext.trans ?_ (by assumption))), ?_, ((Ext.trans (by repeat (first | exact Ext.refl _ | assumption | refine Ext.alloc ?_ _ | refine Ext.drew ?_ | refine Ext.setCell ?_ (by first | (simp; done) | (dsimp only; omega)) _ | refine Ext.trans ?_ (by assumption))) hb5 : Ext wr w5).block _ hul).trans hR.out.2.2.2⟩⟩, by simp [intOf]; omega⟩
       have := HST.out
       rw [DF.out, HSA.out] at this
       rw [← hR.out.2.2.1, this]
    ·have hwb : (why == 0) = false := by simpa using hw
     have DF : Hid ((true && why == 0 && decide (j + 1 = L.length)) = false) := Lib.hid (by simp [hw])
     clear hw
     have hand := and32 m0 m1
     have hor := or32 m0 m1
     have hle := orA_le m0 m1
     by_cases he : errM B aj = 0
     ·have HPe : Hid (∀ w1, Ext wr w1 → Calls Tryz.prog 32 #[.pointer (some ⟨mb, 0, none⟩), .int .u64 aj] w1 fun e w' => e = .returned (.tuple #[.int .u64 x, .int .i64 0]) ∧ Ext w1 w') := Lib.hid (fun w1 k => by have := HP.out w1 k; rw [if_pos he, he, HX.out] at this; exact this)
      have hsame : orA x = x → markS B M' aj false = M' := fun e => by unfold markS; rw [if_pos he, HX.out]; simp only [Bool.false_eq_true, if_false]; rw [e, ← HX.out]; exact setM_self M' (aj / 8)
      have hnew : setIf B M' aj (orA x) = markS B M' aj false := by unfold setIf markS; rw [if_pos he, if_pos he, HX.out]; rfl
      have HE0 := Lib.hid he
      have HSA := Lib.hid hsame
      have HNW := Lib.hid hnew
      clear he hsame hnew
      by_cases hx9 : x / 32 % 2 = 1
      ·have hfix : orA x = x := by unfold orA; omega
       have hxe : (x / 32 % 2 * 32 != 32) = false := by rw [hx9]; rfl
       have HFX := Lib.hid hfix
       clear hx9 hfix hor
       go_wp2_with (first | (go_at_call 32; refine (HPe.out _ (by repeat (first | exact Ext.refl _ | assumption | refine Ext.alloc ?_ _ | refine Ext.drew ?_ | refine Ext.setCell ?_ (by first | (simp; done) | (dsimp only; omega)) _ | refine Ext.trans ?_ (by assumption)))).mono ?_; rintro e w5 ⟨rfl, hb5⟩; have ⟨hc, hf, hh, hs⟩ := hb5.facts; try simp only [World.size_alloc, World.size_setCell, World.size_drew] at hs))
       refine ⟨⟨j + 1, M', by omega, by go_num, Lib.hid ⟨hR.out.1.ext (by repeat (first | exact Ext.refl _ | assumption | refine Ext.alloc ?_ _ | refine Ext.drew ?_ | refine Ext.setCell ?_ (by first | (simp; done) | (dsimp only; omega)) _ | refine Ext.trans ?_ (by assumption))), hR.out.2.1.ext (by repeat (first | exact Ext.refl _ | assumption | refine Ext.alloc ?_ _ | refine Ext.drew ?_ | refine Ext.setCell ?_ (by first | (simp; done) | (dsimp only; omega)) _ | refine Ext.trans ?_ (by assumption))), ?_, ((Ext.trans (by repeat (first | exact Ext.refl _ | assumption | refine Ext.alloc ?_ _ | refine Ext.drew ?_ | refine Ext.setCell ?_ (by first | (simp; done) | (dsimp only; omega)) _ | refine Ext.trans ?_ (by assumption))) hb5 : Ext wr w5).block _ hul).trans hR.out.2.2.2⟩⟩, by simp [intOf]; omega⟩
       have := HST.out
       rw [DF.out, HSA.out HFX.out] at this
       rw [← hR.out.2.2.1, this]
      ·have hxe : (x / 32 % 2 * 32 != 32) = true := by rw [bne_iff_ne]; omega
       clear hx9
       go_wp2_with (first | (go_at_call 32; refine (HPe.out _ (by repeat (first | exact Ext.refl _ | assumption | refine Ext.alloc ?_ _ | refine Ext.drew ?_ | refine Ext.setCell ?_ (by first | (simp; done) | (dsimp only; omega)) _ | refine Ext.trans ?_ (by assumption)))).mono ?_; rintro e w5 ⟨rfl, hb5⟩; have ⟨hc, hf, hh, hs⟩ := hb5.facts; try simp only [World.size_alloc, World.size_setCell, World.size_drew] at hs) | (go_at_call 21; refine (HWS.out _ (Ext.trans (by repeat (first | exact Ext.refl _ | assumption | refine Ext.alloc ?_ _ | refine Ext.drew ?_ | refine Ext.setCell ?_ (by first | (simp; done) | (dsimp only; omega)) _ | refine Ext.trans ?_ (by assumption))) hb5) _ hle.1 hle.2).mono ?_; rintro e w6 ⟨rfl, hM6, hP6⟩))
       refine ⟨⟨j + 1, markS B M' aj false, by omega, by go_num, Lib.hid ⟨by rw [← HNW.out]; exact hM6, ?_, ?_, ?_⟩⟩, by simp [intOf]; omega⟩
       ·exact (hR.out.2.1.ext (Ext.trans (by repeat (first | exact Ext.refl _ | assumption | refine Ext.alloc ?_ _ | refine Ext.drew ?_ | refine Ext.setCell ?_ (by first | (simp; done) | (dsimp only; omega)) _ | refine Ext.trans ?_ (by assumption))) hb5)).trans hP6
       ·have := HST.out
        rw [DF.out] at this
        rw [← hR.out.2.2.1, this]
       ·exact hP6.2 _ _ _ (((Ext.trans (by repeat (first | exact Ext.refl _ | assumption | refine Ext.alloc ?_ _ | refine Ext.drew ?_ | refine Ext.setCell ?_ (by first | (simp; done) | (dsimp only; omega)) _ | refine Ext.trans ?_ (by assumption))) hb5 : Ext wr w5).block _ hul).trans hR.out.2.2.2) (by decide) (by decide) (by decide)
     ·have heb : (errM B aj == 0) = false := by simpa using he
      have hsame : markS B M' aj false = M' := by unfold markS; rw [if_neg he]
      have HPe : Hid (∀ w1, Ext wr w1 → Calls Tryz.prog 32 #[.pointer (some ⟨mb, 0, none⟩), .int .u64 aj] w1 fun e w' => e = .returned (.tuple #[.int .u64 0, .int .i64 (errM B aj)]) ∧ Ext w1 w') := Lib.hid (fun w1 k => by have := HP.out w1 k; rw [if_neg he] at this; exact this)
      have HSA := Lib.hid hsame
      generalize errM B aj = er at HPe heb
      clear he hsame
      go_wp2_with (first | (go_at_call 32; refine (HPe.out _ (by repeat (first | exact Ext.refl _ | assumption | refine Ext.alloc ?_ _ | refine Ext.drew ?_ | refine Ext.setCell ?_ (by first | (simp; done) | (dsimp only; omega)) _ | refine Ext.trans ?_ (by assumption)))).mono ?_; rintro e w5 ⟨rfl, hb5⟩; have ⟨hc, hf, hh, hs⟩ := hb5.facts; try simp only [World.size_alloc, World.size_setCell, World.size_drew] at hs))
      refine ⟨⟨j + 1, M', by omega, by go_num, Lib.hid ⟨hR.out.1.ext (by repeat (first | exact Ext.refl _ | assumption | refine Ext.alloc ?_ _ | refine Ext.drew ?_ | refine Ext.setCell ?_ (by first | (simp; done) | (dsimp only; omega)) _ | refine Ext.trans ?_ (by assumption))), hR.out.2.1.ext (by repeat (first | exact Ext.refl _ | assumption | refine Ext.alloc ?_ _ | refine Ext.drew ?_ | refine Ext.setCell ?_ (by first | (simp; done) | (dsimp only; omega)) _ | refine Ext.trans ?_ (by assumption))), ?_, ((Ext.trans (by repeat (first | exact Ext.refl _ | assumption | refine Ext.alloc ?_ _ | refine Ext.drew ?_ | refine Ext.setCell ?_ (by first | (simp; done) | (dsimp only; omega)) _ | refine Ext.trans ?_ (by assumption))) hb5 : Ext wr w5).block _ hul).trans hR.out.2.2.2⟩⟩, by simp [intOf]; omega⟩
      have := HST.out
      rw [DF.out, HSA.out] at this
      rw [← hR.out.2.2.1, this]
  ·obtain rfl : j = L.length := by omega
   go_wp2
   all_goals
    (try refine ⟨rfl, .tuple #[], (by simp [results, Tryz.results95, go_sem]), ?_⟩)
    rw [← HE.out]
    refine ⟨rfl, ?_, (SepP.of_ext VE.out).trans hR.out.2.1⟩
    have := hR.out.2.2.1
    rw [List.drop_of_length_le (Nat.le_refl _)] at this
    rw [← this]; exact hR.out.1
end Go.Proofs.YtkfonacokamfiaaGreat
