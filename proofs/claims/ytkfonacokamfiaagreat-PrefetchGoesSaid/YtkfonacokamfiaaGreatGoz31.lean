/- Joined texts, part 31 of what the law stands on: each as its own head says. -/
import Derived.Test.YtkfonacokamfiaaGreatGoz30
/- Package opt: Fire, walked. Printed by mkoptg.py. -/
namespace Go.Proofs.YtkfonacokamfiaaGreat
set_option linter.unusedVariables false
set_option linter.unusedSimpArgs false
open Go.RowKit
attribute [local go_sem] wext_cell wext_frozen wext_heap alloc_cell alloc_frozen alloc_heap setCell_cell objCell_cells objFrozen_cells
set_option maxHeartbeats 4000000 in
set_option maxRecDepth 100000 in
theorem fireSkip_c (mb : Nat) (Fm : List Nat) (M : Int → Int) (T : List Int) (tb cb : Nat) (Ft : List Nat) (TL : Lines) (r : Nat) (pb : Nat) (pc : Int → Nat) (Fp : Int → List Nat) (C : Int → Lines) (q : Nat) (p k0 k1 k2 k3 root kd a : Int) (us ac wp nxe sp sm : Bool) (w : World)
  (h : OptAt w mb Fm M T tb cb Ft TL r pb pc Fp C q) (ha0 : 0 ≤ a) (ha1 : a ≤ 18446744073709551615) (hx : ((lookR p a TL).2 || !canonB a) = true) :
  Calls Tryz.prog 37 #[.pointer (some ⟨mb, 0, none⟩), .agg #[.pointer (some ⟨tb, 0, none⟩), .pointer (some ⟨pb, 0, none⟩)], .agg #[.int .i64 p, .int .i64 k0, .int .i64 k1, .int .i64 k2, .int .i64 k3], .agg #[.int .u64 root, .int .i64 kd, .bool us, .bool ac, .bool wp, .bool nxe, .bool sp, .bool sm], .int .u64 a] w fun e w' => e = .returned (.bool false) ∧ Ext w w' := by
 have H := Lib.hid h
 have HLk := Lib.hid (fun w1 h1 => look_c tb cb Ft TL r p a w1 h1 h.lok ha0 ha1)
 have HCn := Lib.hid (fun w1 => vaCanon_c a w1 ha0 ha1)
 unfold lookV at HLk
 generalize lookR p a TL = lk at *
 generalize canonB a = cn at *
 clear h
 obtain ⟨⟨hf, hl, hha, hhb, hhc, hhd⟩, is⟩ := lk
 unfold Hit.val at HLk
 dsimp only at HLk hx
 cases is
 ·obtain rfl : cn = false := by simpa using hx
  clear hx
  go_enter Tryz.func37, Tryz.ntmps37
  go_wp2_with (first | (go_at_call 68; refine (HLk.out _ (H.out.tlb.ext (by repeat (first | exact Ext.refl _ | assumption | refine Ext.alloc ?_ _ | refine Ext.drew ?_ | refine Ext.setCell ?_ (by first | (simp; done) | (dsimp only; omega)) _ | refine Ext.trans ?_ (by assumption))))).mono ?_; rintro e w1 ⟨rfl, hb1⟩; have ⟨hc, hf, hh, hs⟩ := hb1.facts; try simp only [World.size_alloc, World.size_setCell, World.size_drew] at hs) | (go_at_call 26; refine (HCn.out _).mono ?_; rintro e w2 ⟨rfl, hb2⟩; have ⟨hc2, hf2, hh2, hs2⟩ := hb2.facts; try simp only [World.size_alloc, World.size_setCell, World.size_drew] at hs2))
  go_ret
  exact ⟨rfl, Ext.trans (by repeat (first | exact Ext.refl _ | assumption | refine Ext.alloc ?_ _ | refine Ext.drew ?_ | refine Ext.setCell ?_ (by first | (simp; done) | (dsimp only; omega)) _ | refine Ext.trans ?_ (by assumption))) hb2⟩
 ·clear hx
  go_enter Tryz.func37, Tryz.ntmps37
  go_wp2_with (first | (go_at_call 68; refine (HLk.out _ (H.out.tlb.ext (by repeat (first | exact Ext.refl _ | assumption | refine Ext.alloc ?_ _ | refine Ext.drew ?_ | refine Ext.setCell ?_ (by first | (simp; done) | (dsimp only; omega)) _ | refine Ext.trans ?_ (by assumption))))).mono ?_; rintro e w1 ⟨rfl, hb1⟩; have ⟨hc, hf, hh, hs⟩ := hb1.facts; try simp only [World.size_alloc, World.size_setCell, World.size_drew] at hs))
  go_ret
  exact ⟨rfl, (by repeat (first | exact Ext.refl _ | assumption | refine Ext.alloc ?_ _ | refine Ext.drew ?_ | refine Ext.setCell ?_ (by first | (simp; done) | (dsimp only; omega)) _ | refine Ext.trans ?_ (by assumption)))⟩
set_option maxHeartbeats 4000000 in
set_option maxRecDepth 100000 in
theorem fireMiss_c (mb : Nat) (Fm : List Nat) (M : Int → Int) (T : List Int) (tb cb : Nat) (Ft : List Nat) (TL : Lines) (r : Nat) (pb : Nat) (pc : Int → Nat) (Fp : Int → List Nat) (C : Int → Lines) (q : Nat) (p k0 k1 k2 k3 root kd a : Int) (us ac wp nxe sp sm : Bool) (w : World)
  (h : OptAt w mb Fm M T tb cb Ft TL r pb pc Fp C q) (ha0 : 0 ≤ a) (ha1 : a ≤ 18446744073709551615) (hT : T.length ≤ 890000) (hr0 : 0 ≤ root) (hr1 : root ≤ 18446744073709551615) (hit : Hit) (hlk : lookR p a TL = (hit, false)) (hcn : canonB a = true) (L : List Stp) (g0 g1 g2 x0 x1 x2 : Bool) (n tt : Int) (why lv fr : Int)
  (hz : jobW M nxe root p a C = (L, why, (g0, g1, g2), lv, fr)) (hs : startQ root (deepF C p a) = (n, tt, x0, x1, x2)) (hw : why ≠ 0) :
  Calls Tryz.prog 37 #[.pointer (some ⟨mb, 0, none⟩), .agg #[.pointer (some ⟨tb, 0, none⟩), .pointer (some ⟨pb, 0, none⟩)], .agg #[.int .i64 p, .int .i64 k0, .int .i64 k1, .int .i64 k2, .int .i64 k3], .agg #[.int .u64 root, .int .i64 kd, .bool us, .bool ac, .bool wp, .bool nxe, .bool sp, .bool sm], .int .u64 a] w fun e w' => e = .returned (.bool false) ∧ OTo mb Fm M (T ++ L.map (·.2.1)) tb cb Ft TL r pb pc Fp C q w w' := by
 have H := Lib.hid h
 have HLk := Lib.hid (fun w1 h1 => look_c tb cb Ft TL r p a w1 h1 h.lok ha0 ha1)
 have HCn := Lib.hid (fun w1 => vaCanon_c a w1 ha0 ha1)
 have HJ := Lib.hid (fun w1 h1 => jobWalk_c mb Fm M T tb cb Ft TL r pb pc Fp C q p k0 k1 k2 k3 root kd a us ac wp nxe sp sm w1 h1 (by omega) hr0 hr1 ha0 ha1)
 unfold lookV at HLk
 rw [hlk] at HLk
 rw [hcn] at HCn
 rw [hz, hs] at HJ
 clear h hlk hcn hz hs
 obtain ⟨hf, hl, hha, hhb, hhc, hhd⟩ := hit
 unfold Hit.val at HLk
 dsimp only at HLk
 unfold EndJob at HJ
 dsimp only at HJ
 go_enter Tryz.func37, Tryz.ntmps37
 go_upto_region 5 with (first | (go_at_call 68; refine (HLk.out _ (H.out.tlb.ext (by repeat (first | exact Ext.refl _ | assumption | refine Ext.alloc ?_ _ | refine Ext.drew ?_ | refine Ext.setCell ?_ (by first | (simp; done) | (dsimp only; omega)) _ | refine Ext.trans ?_ (by assumption))))).mono ?_; rintro e w1 ⟨rfl, hb1⟩; have ⟨hc, hf, hh, hs⟩ := hb1.facts; try simp only [World.size_alloc, World.size_setCell, World.size_drew] at hs) | (go_at_call 26; refine (HCn.out _).mono ?_; rintro e w2 ⟨rfl, hb2⟩; have ⟨hc2, hf2, hh2, hs2⟩ := hb2.facts; try simp only [World.size_alloc, World.size_setCell, World.size_drew] at hs2))
 refine wp_gen ?_; intro V hV
 have hVE : Ext w V := by rw [hV]; exact (Ext.trans (by repeat (first | exact Ext.refl _ | assumption | refine Ext.alloc ?_ _ | refine Ext.drew ?_ | refine Ext.setCell ?_ (by first | (simp; done) | (dsimp only; omega)) _ | refine Ext.trans ?_ (by assumption))) hb2).alloc _
 have hVJ : V.heap[w2.heap.size]? = some (.cells #[.pointer (some ⟨mb, 0, none⟩), .pointer (some ⟨tb, 0, none⟩), .pointer (some ⟨pb, 0, none⟩), .int .i64 p, .int .i64 k0, .int .i64 k1, .int .i64 k2, .int .i64 k3, .int .u64 root, .int .i64 kd, .bool us, .bool ac, .bool wp, .bool nxe, .bool sp, .bool sm, .int .u64 a] 156 (0, 0)) := by rw [hV]; exact alloc_same ..
 obtain ⟨jb, hjb⟩ : ∃ jb, w2.heap.size = jb := ⟨_, rfl⟩
 rw [hjb] at hVJ ⊢
 have VE := Lib.hid hVE
 have VJ := Lib.hid hVJ
 clear hV hVE hjb hb1 hb2 hc hf hh hs hc2 hf2 hh2 hs2 HLk HCn
 as_aux_lemma =>
  have y0 := (heap_cell VJ.out 0).trans rfl
  have y1 := (heap_cell VJ.out 1).trans rfl
  have y2 := (heap_cell VJ.out 2).trans rfl
  have y3 := (heap_cell VJ.out 3).trans rfl
  have y4 := (heap_cell VJ.out 4).trans rfl
  have y5 := (heap_cell VJ.out 5).trans rfl
  have y6 := (heap_cell VJ.out 6).trans rfl
  have y7 := (heap_cell VJ.out 7).trans rfl
  have y8 := (heap_cell VJ.out 8).trans rfl
  have y9 := (heap_cell VJ.out 9).trans rfl
  have y10 := (heap_cell VJ.out 10).trans rfl
  have y11 := (heap_cell VJ.out 11).trans rfl
  have y12 := (heap_cell VJ.out 12).trans rfl
  have y13 := (heap_cell VJ.out 13).trans rfl
  have y14 := (heap_cell VJ.out 14).trans rfl
  have y15 := (heap_cell VJ.out 15).trans rfl
  have y16 := (heap_cell VJ.out 16).trans rfl
  have yl := heap_lt VJ.out
  clear hVJ
  go_upto_region 6 with (first | (go_at_call 69; refine (HJ.out _ (H.out.ext VE.out)).mono ?_; rintro e w3 ⟨sa, sc, rfl, hO3, hT3⟩))
  refine wp_gen ?_; intro X hX
  have hx1 : X.heap[w3.heap.size]? = some (.cells #[.slice sa L.length sc, .int .i64 why, .bool g0, .bool g1, .bool g2, .int .i64 lv, .int .u64 fr] 86 (0, 0)) := by rw [hX]; exact (alloc_other _ _ (by simp)).trans (alloc_same ..)
  have hx2 : X.heap[w3.heap.size + 1]? = some (.cells #[.int .i64 n, .int .u64 tt, .bool x0, .bool x1, .bool x2] 90 (0, 0)) := by rw [hX]; exact alloc_same1 ..
  have hxe : Ext w3 X := by rw [hX]; exact (by repeat (first | exact Ext.refl _ | assumption | refine Ext.alloc ?_ _ | refine Ext.drew ?_ | refine Ext.setCell ?_ (by first | (simp; done) | (dsimp only; omega)) _ | refine Ext.trans ?_ (by assumption)))
  have J3 := OTo.keep hT3 VJ.out ((H.out.ext VE.out).out VJ.out (by decide) (by decide) (by decide) (by decide) (by decide))
  have XJ := Lib.hid ((hxe.block _ (heap_lt J3)).trans J3)
  have XO := Lib.hid (hO3.ext hxe)
  have XT := Lib.hid (OTo.ext (OTo.before VE.out hT3) hxe)
  obtain ⟨ab, hab⟩ : ∃ ab, w3.heap.size = ab := ⟨_, rfl⟩
  obtain ⟨bb, hbb⟩ : ∃ bb, w3.heap.size + 1 = bb := ⟨_, rfl⟩
  rw [hbb] at hx2 ⊢
  rw [hab] at hx1 ⊢
  have X1 := Lib.hid hx1
  have X2 := Lib.hid hx2
  clear hX hx1 hx2 hxe J3 hO3 hT3 hab hbb HJ y0 y1 y2 y3 y4 y5 y6 y7 y8 y9 y10 y11 y12 y13 y14 y15 y16 yl
  as_aux_lemma =>
   have a1 := (heap_cell X1.out 1).trans rfl
   have al := heap_lt X1.out
   have hwb : (why != 0) = true := by simpa using hw
   clear hw
   go_wp2
   go_ret
   exact ⟨rfl, XT.out⟩
set_option maxHeartbeats 4000000 in
set_option maxRecDepth 100000 in
theorem fireSmall_c (mb : Nat) (Fm : List Nat) (M : Int → Int) (T : List Int) (tb cb : Nat) (Ft : List Nat) (TL : Lines) (r : Nat) (pb : Nat) (pc : Int → Nat) (Fp : Int → List Nat) (C : Int → Lines) (q : Nat) (p k0 k1 k2 k3 root kd a : Int) (us ac wp nxe sp sm : Bool) (w : World)
  (h : OptAt w mb Fm M T tb cb Ft TL r pb pc Fp C q) (ha0 : 0 ≤ a) (ha1 : a ≤ 18446744073709551615) (hT : T.length ≤ 890000) (hr0 : 0 ≤ root) (hr1 : root ≤ 18446744073709551615) (hit : Hit) (hlk : lookR p a TL = (hit, false)) (hcn : canonB a = true) (L : List Stp) (g0 g1 g2 x0 x1 x2 : Bool) (n tt : Int) (fr : Int)
  (hz : jobW M nxe root p a C = (L, 0, (g0, g1, g2), 1, fr)) (hs : startQ root (deepF C p a) = (n, tt, x0, x1, x2)) (hKO : KeepOk L (lastS L))
  (hu0 : -9223372036854775808 ≤ k0 ∧ k0 ≤ 9223372036854775807) (hu1 : ∀ l, -9223372036854775808 ≤ pkF k1 k2 k3 l ∧ pkF k1 k2 k3 l ≤ 9223372036854775807) :
  Calls Tryz.prog 37 #[.pointer (some ⟨mb, 0, none⟩), .agg #[.pointer (some ⟨tb, 0, none⟩), .pointer (some ⟨pb, 0, none⟩)], .agg #[.int .i64 p, .int .i64 k0, .int .i64 k1, .int .i64 k2, .int .i64 k3], .agg #[.int .u64 root, .int .i64 kd, .bool us, .bool ac, .bool wp, .bool nxe, .bool sp, .bool sm], .int .u64 a] w fun e w' => e = .returned (.bool true) ∧ OTo mb Fm (markL 16 false L M) (T ++ L.map (·.2.1) ++ keepT 1 (lastS L)) tb cb Ft (keepL p a 1 fr (g0, g1, g2) (lastS L) (markL 16 false L M) nxe k0 r TL) r pb pc Fp (fillF p a (pkF k1 k2 k3) q L (x0, x1, x2) C) q w w' := by
 have KO := Lib.hid hKO
 have hl4 := hKO.len.2
 clear hKO
 have H := Lib.hid h
 have HLk := Lib.hid (fun w1 h1 => look_c tb cb Ft TL r p a w1 h1 h.lok ha0 ha1)
 have HCn := Lib.hid (fun w1 => vaCanon_c a w1 ha0 ha1)
 have HJ := Lib.hid (fun w1 h1 => jobWalk_c mb Fm M T tb cb Ft TL r pb pc Fp C q p k0 k1 k2 k3 root kd a us ac wp nxe sp sm w1 h1 (by omega) hr0 hr1 ha0 ha1)
 unfold lookV at HLk
 rw [hlk] at HLk
 rw [hcn] at HCn
 rw [hz, hs] at HJ
 clear h hlk hcn hz hs
 obtain ⟨hf, hl, hha, hhb, hhc, hhd⟩ := hit
 unfold Hit.val at HLk
 dsimp only at HLk
 unfold EndJob at HJ
 dsimp only at HJ
 go_enter Tryz.func37, Tryz.ntmps37
 go_upto_region 5 with (first | (go_at_call 68; refine (HLk.out _ (H.out.tlb.ext (by repeat (first | exact Ext.refl _ | assumption | refine Ext.alloc ?_ _ | refine Ext.drew ?_ | refine Ext.setCell ?_ (by first | (simp; done) | (dsimp only; omega)) _ | refine Ext.trans ?_ (by assumption))))).mono ?_; rintro e w1 ⟨rfl, hb1⟩; have ⟨hc, hf, hh, hs⟩ := hb1.facts; try simp only [World.size_alloc, World.size_setCell, World.size_drew] at hs) | (go_at_call 26; refine (HCn.out _).mono ?_; rintro e w2 ⟨rfl, hb2⟩; have ⟨hc2, hf2, hh2, hs2⟩ := hb2.facts; try simp only [World.size_alloc, World.size_setCell, World.size_drew] at hs2))
 refine wp_gen ?_; intro V hV
 have hVE : Ext w V := by rw [hV]; exact (Ext.trans (by repeat (first | exact Ext.refl _ | assumption | refine Ext.alloc ?_ _ | refine Ext.drew ?_ | refine Ext.setCell ?_ (by first | (simp; done) | (dsimp only; omega)) _ | refine Ext.trans ?_ (by assumption))) hb2).alloc _
 have hVJ : V.heap[w2.heap.size]? = some (.cells #[.pointer (some ⟨mb, 0, none⟩), .pointer (some ⟨tb, 0, none⟩), .pointer (some ⟨pb, 0, none⟩), .int .i64 p, .int .i64 k0, .int .i64 k1, .int .i64 k2, .int .i64 k3, .int .u64 root, .int .i64 kd, .bool us, .bool ac, .bool wp, .bool nxe, .bool sp, .bool sm, .int .u64 a] 156 (0, 0)) := by rw [hV]; exact alloc_same ..
 obtain ⟨jb, hjb⟩ : ∃ jb, w2.heap.size = jb := ⟨_, rfl⟩
 rw [hjb] at hVJ ⊢
 have VE := Lib.hid hVE
 have VJ := Lib.hid hVJ
 clear hV hVE hjb hb1 hb2 hc hf hh hs hc2 hf2 hh2 hs2 HLk HCn
 as_aux_lemma =>
  have y0 := (heap_cell VJ.out 0).trans rfl
  have y1 := (heap_cell VJ.out 1).trans rfl
  have y2 := (heap_cell VJ.out 2).trans rfl
  have y3 := (heap_cell VJ.out 3).trans rfl
  have y4 := (heap_cell VJ.out 4).trans rfl
  have y5 := (heap_cell VJ.out 5).trans rfl
  have y6 := (heap_cell VJ.out 6).trans rfl
  have y7 := (heap_cell VJ.out 7).trans rfl
  have y8 := (heap_cell VJ.out 8).trans rfl
  have y9 := (heap_cell VJ.out 9).trans rfl
  have y10 := (heap_cell VJ.out 10).trans rfl
  have y11 := (heap_cell VJ.out 11).trans rfl
  have y12 := (heap_cell VJ.out 12).trans rfl
  have y13 := (heap_cell VJ.out 13).trans rfl
  have y14 := (heap_cell VJ.out 14).trans rfl
  have y15 := (heap_cell VJ.out 15).trans rfl
  have y16 := (heap_cell VJ.out 16).trans rfl
  have yl := heap_lt VJ.out
  clear hVJ
  go_upto_region 6 with (first | (go_at_call 69; refine (HJ.out _ (H.out.ext VE.out)).mono ?_; rintro e w3 ⟨sa, sc, rfl, hO3, hT3⟩))
  refine wp_gen ?_; intro X hX
  have hx1 : X.heap[w3.heap.size]? = some (.cells #[.slice sa L.length sc, .int .i64 0, .bool g0, .bool g1, .bool g2, .int .i64 1, .int .u64 fr] 86 (0, 0)) := by rw [hX]; exact (alloc_other _ _ (by simp)).trans (alloc_same ..)
  have hx2 : X.heap[w3.heap.size + 1]? = some (.cells #[.int .i64 n, .int .u64 tt, .bool x0, .bool x1, .bool x2] 90 (0, 0)) := by rw [hX]; exact alloc_same1 ..
  have hxe : Ext w3 X := by rw [hX]; exact (by repeat (first | exact Ext.refl _ | assumption | refine Ext.alloc ?_ _ | refine Ext.drew ?_ | refine Ext.setCell ?_ (by first | (simp; done) | (dsimp only; omega)) _ | refine Ext.trans ?_ (by assumption)))
  have J3 := OTo.keep hT3 VJ.out ((H.out.ext VE.out).out VJ.out (by decide) (by decide) (by decide) (by decide) (by decide))
  have XJ := Lib.hid ((hxe.block _ (heap_lt J3)).trans J3)
  have XO := Lib.hid (hO3.ext hxe)
  have XT := Lib.hid (OTo.ext (OTo.before VE.out hT3) hxe)
  obtain ⟨ab, hab⟩ : ∃ ab, w3.heap.size = ab := ⟨_, rfl⟩
  obtain ⟨bb, hbb⟩ : ∃ bb, w3.heap.size + 1 = bb := ⟨_, rfl⟩
  rw [hbb] at hx2 ⊢
  rw [hab] at hx1 ⊢
  have X1 := Lib.hid hx1
  have X2 := Lib.hid hx2
  clear hX hx1 hx2 hxe J3 hO3 hT3 hab hbb HJ y0 y1 y2 y3 y4 y5 y6 y7 y8 y9 y10 y11 y12 y13 y14 y15 y16 yl
  as_aux_lemma =>
   have y0 := (heap_cell XJ.out 0).trans rfl
   have y1 := (heap_cell XJ.out 1).trans rfl
   have y2 := (heap_cell XJ.out 2).trans rfl
   have y3 := (heap_cell XJ.out 3).trans rfl
   have y4 := (heap_cell XJ.out 4).trans rfl
   have y5 := (heap_cell XJ.out 5).trans rfl
   have y6 := (heap_cell XJ.out 6).trans rfl
   have y7 := (heap_cell XJ.out 7).trans rfl
   have y8 := (heap_cell XJ.out 8).trans rfl
   have y9 := (heap_cell XJ.out 9).trans rfl
   have y10 := (heap_cell XJ.out 10).trans rfl
   have y11 := (heap_cell XJ.out 11).trans rfl
   have y12 := (heap_cell XJ.out 12).trans rfl
   have y13 := (heap_cell XJ.out 13).trans rfl
   have y14 := (heap_cell XJ.out 14).trans rfl
   have y15 := (heap_cell XJ.out 15).trans rfl
   have y16 := (heap_cell XJ.out 16).trans rfl
   have yl := heap_lt XJ.out
   have a0 := (heap_cell X1.out 0).trans rfl
   have a1 := (heap_cell X1.out 1).trans rfl
   have a2 := (heap_cell X1.out 2).trans rfl
   have a3 := (heap_cell X1.out 3).trans rfl
   have a4 := (heap_cell X1.out 4).trans rfl
   have a5 := (heap_cell X1.out 5).trans rfl
   have a6 := (heap_cell X1.out 6).trans rfl
   have al := heap_lt X1.out
   have b0 := (heap_cell X2.out 0).trans rfl
   have b1 := (heap_cell X2.out 1).trans rfl
   have b2 := (heap_cell X2.out 2).trans rfl
   have b3 := (heap_cell X2.out 3).trans rfl
   have b4 := (heap_cell X2.out 4).trans rfl
   have bl := heap_lt X2.out
   obtain ⟨Fm6, Ft6, Fp6, hO6, hK6, hF6⟩ := XT.out
   have O6 := Lib.hid hO6
   have KF6 := Lib.hid (⟨hK6, hF6⟩ : _ ∧ _)
   clear hO6 hK6 hF6
   have HK := Lib.hid (keepSmall_c mb Fm6 M (T ++ L.map (·.2.1)) tb cb Ft6 TL r pb pc Fp6 C q p k0 k1 k2 k3 root kd a us ac wp nxe sp sm L sa sc g0 g1 g2 fr n tt (lastS L) x0 x1 x2 false X O6.out XO.out (by rw [List.length_append, List.length_map]; omega) KO.out ha0 ha1 hu0 hu1)
   go_wp2_with (first | (go_at_call 70; refine HK.out.mono ?_; rintro e w7 ⟨rfl, hT7⟩))
   go_ret
   exact ⟨rfl, OTo.trans ⟨O6.out, KF6.out.1, KF6.out.2⟩ hT7⟩
set_option maxHeartbeats 4000000 in
set_option maxRecDepth 100000 in
theorem fireGreat_c (mb : Nat) (Fm : List Nat) (M : Int → Int) (T : List Int) (tb cb : Nat) (Ft : List Nat) (TL : Lines) (r : Nat) (pb : Nat) (pc : Int → Nat) (Fp : Int → List Nat) (C : Int → Lines) (q : Nat) (p k0 k1 k2 k3 root kd a : Int) (us ac wp nxe sp sm : Bool) (w : World)
  (h : OptAt w mb Fm M T tb cb Ft TL r pb pc Fp C q) (ha0 : 0 ≤ a) (ha1 : a ≤ 18446744073709551615) (hT : T.length ≤ 890000) (hr0 : 0 ≤ root) (hr1 : root ≤ 18446744073709551615) (hit : Hit) (hlk : lookR p a TL = (hit, false)) (hcn : canonB a = true) (L : List Stp) (g0 g1 g2 x0 x1 x2 : Bool) (n tt : Int) (lv fr : Int) (hlv0 : 1 < lv) (hlv1 : lv ≤ 3)
  (hz : jobW M nxe root p a C = (L, 0, (g0, g1, g2), lv, fr)) (hs : startQ root (deepF C p a) = (n, tt, x0, x1, x2)) (hKO : KeepOk L (lastS L))
  (hu0 : -9223372036854775808 ≤ k0 ∧ k0 ≤ 9223372036854775807) (hu1 : ∀ l, -9223372036854775808 ≤ pkF k1 k2 k3 l ∧ pkF k1 k2 k3 l ≤ 9223372036854775807) :
  Calls Tryz.prog 37 #[.pointer (some ⟨mb, 0, none⟩), .agg #[.pointer (some ⟨tb, 0, none⟩), .pointer (some ⟨pb, 0, none⟩)], .agg #[.int .i64 p, .int .i64 k0, .int .i64 k1, .int .i64 k2, .int .i64 k3], .agg #[.int .u64 root, .int .i64 kd, .bool us, .bool ac, .bool wp, .bool nxe, .bool sp, .bool sm], .int .u64 a] w fun e w' => e = .returned (.bool true) ∧ OTo mb Fm (markL 16 false L M) (T ++ L.map (·.2.1) ++ keepT lv (lastS L)) tb cb Ft (keepL p a lv fr (g0, g1, g2) (lastS L) (markL 16 false L M) nxe k0 r TL) r pb pc Fp (fillF p a (pkF k1 k2 k3) q L (x0, x1, x2) C) q w w' := by
 have KO := Lib.hid hKO
 have hl4 := hKO.len.2
 clear hKO
 have H := Lib.hid h
 have HLk := Lib.hid (fun w1 h1 => look_c tb cb Ft TL r p a w1 h1 h.lok ha0 ha1)
 have HCn := Lib.hid (fun w1 => vaCanon_c a w1 ha0 ha1)
 have HJ := Lib.hid (fun w1 h1 => jobWalk_c mb Fm M T tb cb Ft TL r pb pc Fp C q p k0 k1 k2 k3 root kd a us ac wp nxe sp sm w1 h1 (by omega) hr0 hr1 ha0 ha1)
 unfold lookV at HLk
 rw [hlk] at HLk
 rw [hcn] at HCn
 rw [hz, hs] at HJ
 clear h hlk hcn hz hs
 obtain ⟨hf, hl, hha, hhb, hhc, hhd⟩ := hit
 unfold Hit.val at HLk
 dsimp only at HLk
 unfold EndJob at HJ
 dsimp only at HJ
 go_enter Tryz.func37, Tryz.ntmps37
 go_upto_region 5 with (first | (go_at_call 68; refine (HLk.out _ (H.out.tlb.ext (by repeat (first | exact Ext.refl _ | assumption | refine Ext.alloc ?_ _ | refine Ext.drew ?_ | refine Ext.setCell ?_ (by first | (simp; done) | (dsimp only; omega)) _ | refine Ext.trans ?_ (by assumption))))).mono ?_; rintro e w1 ⟨rfl, hb1⟩; have ⟨hc, hf, hh, hs⟩ := hb1.facts; try simp only [World.size_alloc, World.size_setCell, World.size_drew] at hs) | (go_at_call 26; refine (HCn.out _).mono ?_; rintro e w2 ⟨rfl, hb2⟩; have ⟨hc2, hf2, hh2, hs2⟩ := hb2.facts; try simp only [World.size_alloc, World.size_setCell, World.size_drew] at hs2))
 refine wp_gen ?_; intro V hV
 have hVE : Ext w V := by rw [hV]; exact (Ext.trans (by repeat (first | exact Ext.refl _ | assumption | refine Ext.alloc ?_ _ | refine Ext.drew ?_ | refine Ext.setCell ?_ (by first | (simp; done) | (dsimp only; omega)) _ | refine Ext.trans ?_ (by assumption))) hb2).alloc _
 have hVJ : V.heap[w2.heap.size]? = some (.cells #[.pointer (some ⟨mb, 0, none⟩), .pointer (some ⟨tb, 0, none⟩), .pointer (some ⟨pb, 0, none⟩), .int .i64 p, .int .i64 k0, .int .i64 k1, .int .i64 k2, .int .i64 k3, .int .u64 root, .int .i64 kd, .bool us, .bool ac, .bool wp, .bool nxe, .bool sp, .bool sm, .int .u64 a] 156 (0, 0)) := by rw [hV]; exact alloc_same ..
 obtain ⟨jb, hjb⟩ : ∃ jb, w2.heap.size = jb := ⟨_, rfl⟩
 rw [hjb] at hVJ ⊢
 have VE := Lib.hid hVE
 have VJ := Lib.hid hVJ
 clear hV hVE hjb hb1 hb2 hc hf hh hs hc2 hf2 hh2 hs2 HLk HCn
 as_aux_lemma =>
  have y0 := (heap_cell VJ.out 0).trans rfl
  have y1 := (heap_cell VJ.out 1).trans rfl
  have y2 := (heap_cell VJ.out 2).trans rfl
  have y3 := (heap_cell VJ.out 3).trans rfl
  have y4 := (heap_cell VJ.out 4).trans rfl
  have y5 := (heap_cell VJ.out 5).trans rfl
  have y6 := (heap_cell VJ.out 6).trans rfl
  have y7 := (heap_cell VJ.out 7).trans rfl
  have y8 := (heap_cell VJ.out 8).trans rfl
  have y9 := (heap_cell VJ.out 9).trans rfl
  have y10 := (heap_cell VJ.out 10).trans rfl
  have y11 := (heap_cell VJ.out 11).trans rfl
  have y12 := (heap_cell VJ.out 12).trans rfl
  have y13 := (heap_cell VJ.out 13).trans rfl
  have y14 := (heap_cell VJ.out 14).trans rfl
  have y15 := (heap_cell VJ.out 15).trans rfl
  have y16 := (heap_cell VJ.out 16).trans rfl
  have yl := heap_lt VJ.out
  clear hVJ
  go_upto_region 6 with (first | (go_at_call 69; refine (HJ.out _ (H.out.ext VE.out)).mono ?_; rintro e w3 ⟨sa, sc, rfl, hO3, hT3⟩))
  refine wp_gen ?_; intro X hX
  have hx1 : X.heap[w3.heap.size]? = some (.cells #[.slice sa L.length sc, .int .i64 0, .bool g0, .bool g1, .bool g2, .int .i64 lv, .int .u64 fr] 86 (0, 0)) := by rw [hX]; exact (alloc_other _ _ (by simp)).trans (alloc_same ..)
  have hx2 : X.heap[w3.heap.size + 1]? = some (.cells #[.int .i64 n, .int .u64 tt, .bool x0, .bool x1, .bool x2] 90 (0, 0)) := by rw [hX]; exact alloc_same1 ..
  have hxe : Ext w3 X := by rw [hX]; exact (by repeat (first | exact Ext.refl _ | assumption | refine Ext.alloc ?_ _ | refine Ext.drew ?_ | refine Ext.setCell ?_ (by first | (simp; done) | (dsimp only; omega)) _ | refine Ext.trans ?_ (by assumption)))
  have J3 := OTo.keep hT3 VJ.out ((H.out.ext VE.out).out VJ.out (by decide) (by decide) (by decide) (by decide) (by decide))
  have XJ := Lib.hid ((hxe.block _ (heap_lt J3)).trans J3)
  have XO := Lib.hid (hO3.ext hxe)
  have XT := Lib.hid (OTo.ext (OTo.before VE.out hT3) hxe)
  obtain ⟨ab, hab⟩ : ∃ ab, w3.heap.size = ab := ⟨_, rfl⟩
  obtain ⟨bb, hbb⟩ : ∃ bb, w3.heap.size + 1 = bb := ⟨_, rfl⟩
  rw [hbb] at hx2 ⊢
  rw [hab] at hx1 ⊢
  have X1 := Lib.hid hx1
  have X2 := Lib.hid hx2
  clear hX hx1 hx2 hxe J3 hO3 hT3 hab hbb HJ y0 y1 y2 y3 y4 y5 y6 y7 y8 y9 y10 y11 y12 y13 y14 y15 y16 yl
  as_aux_lemma =>
   have y0 := (heap_cell XJ.out 0).trans rfl
   have y1 := (heap_cell XJ.out 1).trans rfl
   have y2 := (heap_cell XJ.out 2).trans rfl
   have y3 := (heap_cell XJ.out 3).trans rfl
   have y4 := (heap_cell XJ.out 4).trans rfl
   have y5 := (heap_cell XJ.out 5).trans rfl
   have y6 := (heap_cell XJ.out 6).trans rfl
   have y7 := (heap_cell XJ.out 7).trans rfl
   have y8 := (heap_cell XJ.out 8).trans rfl
   have y9 := (heap_cell XJ.out 9).trans rfl
   have y10 := (heap_cell XJ.out 10).trans rfl
   have y11 := (heap_cell XJ.out 11).trans rfl
   have y12 := (heap_cell XJ.out 12).trans rfl
   have y13 := (heap_cell XJ.out 13).trans rfl
   have y14 := (heap_cell XJ.out 14).trans rfl
   have y15 := (heap_cell XJ.out 15).trans rfl
   have y16 := (heap_cell XJ.out 16).trans rfl
   have yl := heap_lt XJ.out
   have a0 := (heap_cell X1.out 0).trans rfl
   have a1 := (heap_cell X1.out 1).trans rfl
   have a2 := (heap_cell X1.out 2).trans rfl
   have a3 := (heap_cell X1.out 3).trans rfl
   have a4 := (heap_cell X1.out 4).trans rfl
   have a5 := (heap_cell X1.out 5).trans rfl
   have a6 := (heap_cell X1.out 6).trans rfl
   have al := heap_lt X1.out
   have b0 := (heap_cell X2.out 0).trans rfl
   have b1 := (heap_cell X2.out 1).trans rfl
   have b2 := (heap_cell X2.out 2).trans rfl
   have b3 := (heap_cell X2.out 3).trans rfl
   have b4 := (heap_cell X2.out 4).trans rfl
   have bl := heap_lt X2.out
   obtain ⟨Fm6, Ft6, Fp6, hO6, hK6, hF6⟩ := XT.out
   have O6 := Lib.hid hO6
   have KF6 := Lib.hid (⟨hK6, hF6⟩ : _ ∧ _)
   clear hO6 hK6 hF6
   have HK := Lib.hid (keepGreat_c mb Fm6 M (T ++ L.map (·.2.1)) tb cb Ft6 TL r pb pc Fp6 C q p k0 k1 k2 k3 root kd a us ac wp nxe sp sm L sa sc g0 g1 g2 lv fr n tt (lastS L) x0 x1 x2 false X O6.out XO.out KO.out hlv0 hlv1 ha0 ha1 hu0 hu1)
   go_wp2_with (first | (go_at_call 70; refine HK.out.mono ?_; rintro e w7 ⟨rfl, hT7⟩))
   go_ret
   exact ⟨rfl, OTo.trans ⟨O6.out, KF6.out.1, KF6.out.2⟩ hT7⟩
def Who.ok (u : Who) : Prop := (-9223372036854775808 ≤ u.k0 ∧ u.k0 ≤ 9223372036854775807) ∧ (∀ l, -9223372036854775808 ≤ pkF u.k1 u.k2 u.k3 l ∧ pkF u.k1 u.k2 u.k3 l ≤ 9223372036854775807) ∧ 0 ≤ u.root ∧ u.root ≤ 18446744073709551615
def EndFire (mb : Nat) (Fm : List Nat) (tb cb : Nat) (Ft : List Nat) (r : Nat) (pb : Nat) (pc : Int → Nat) (Fp : Int → List Nat) (q : Nat) (z : OSt × Bool) (w : World) (e : Ending) (w' : World) : Prop :=
 e = .returned (.bool z.2) ∧ OTo mb Fm z.1.M z.1.T tb cb Ft z.1.L r pb pc Fp z.1.C q w w'
theorem fire_c (mb : Nat) (Fm : List Nat) (S : OSt) (tb cb : Nat) (Ft : List Nat) (r : Nat) (pb : Nat) (pc : Int → Nat) (Fp : Int → List Nat) (q : Nat) (u : Who) (kd a : Int) (us ac wp sp sm : Bool) (w : World)
  (h : OptAt w mb Fm S.M S.T tb cb Ft S.L r pb pc Fp S.C q) (hT : S.T.length ≤ 890000) (hu : u.ok) (ha0 : 0 ≤ a) (ha1 : a ≤ 18446744073709551615) :
  Calls Tryz.prog 37 #[.pointer (some ⟨mb, 0, none⟩), .agg #[.pointer (some ⟨tb, 0, none⟩), .pointer (some ⟨pb, 0, none⟩)], .agg #[.int .i64 u.p, .int .i64 u.k0, .int .i64 u.k1, .int .i64 u.k2, .int .i64 u.k3], .agg #[.int .u64 u.root, .int .i64 kd, .bool us, .bool ac, .bool wp, .bool u.nxe, .bool sp, .bool sm], .int .u64 a] w
   (EndFire mb Fm tb cb Ft r pb pc Fp q (fireF r q canonB u a S) w) := by
 obtain ⟨hu0, hu1, hr0, hr1⟩ := hu
 have hkp := job_keep (nxe := u.nxe) (root := u.root) (p := u.p) (a := a) (MemP.wide h.memP) h.cok hr0 hr1
 by_cases hx : ((lookR u.p a S.L).2 || !canonB a) = true
 ·refine (fireSkip_c mb Fm S.M S.T tb cb Ft S.L r pb pc Fp S.C q u.p u.k0 u.k1 u.k2 u.k3 u.root kd a us ac wp u.nxe sp sm w h ha0 ha1 hx).mono fun e w' hh => ?_
  unfold fireF
  rw [if_pos hx]
  exact ⟨hh.1, OTo.refl h hh.2⟩
 ·obtain ⟨hit, is, hlk⟩ : ∃ hit is, lookR u.p a S.L = (hit, is) := ⟨_, _, rfl⟩
  have hcase : is = false ∧ canonB a = true := by
   rw [hlk] at hx
   cases is <;> cases hc : canonB a <;> simp [hc] at hx ⊢
  obtain ⟨rfl, hcn⟩ := hcase
  obtain ⟨L, why, ⟨g0, g1, g2⟩, lv, fr, hz⟩ : ∃ L why g lv fr, jobW S.M u.nxe u.root u.p a S.C = (L, why, g, lv, fr) := ⟨_, _, _, _, _, rfl⟩
  obtain ⟨n, tt, ⟨x0, x1, x2⟩, hs⟩ : ∃ n tt x, startQ u.root (deepF S.C u.p a) = (n, tt, x) := ⟨_, _, _, rfl⟩
  unfold fireF
  rw [if_neg hx, hz, hs]
  rw [hz] at hkp
  dsimp only at hkp ⊢
  by_cases hw : why = 0
  ·subst hw
   obtain ⟨hKO, l1, l3⟩ := hkp rfl
   rw [if_pos rfl]
   by_cases h1 : lv = 1
   ·subst h1
    exact (fireSmall_c mb Fm S.M S.T tb cb Ft S.L r pb pc Fp S.C q u.p u.k0 u.k1 u.k2 u.k3 u.root kd a us ac wp u.nxe sp sm w h ha0 ha1 hT hr0 hr1 hit hlk hcn L g0 g1 g2 x0 x1 x2 n tt fr hz hs hKO hu0 hu1).mono fun e w' hh => hh
   ·exact (fireGreat_c mb Fm S.M S.T tb cb Ft S.L r pb pc Fp S.C q u.p u.k0 u.k1 u.k2 u.k3 u.root kd a us ac wp u.nxe sp sm w h ha0 ha1 hT hr0 hr1 hit hlk hcn L g0 g1 g2 x0 x1 x2 n tt lv fr (by omega) l3 hz hs hKO hu0 hu1).mono fun e w' hh => hh
  ·rw [if_neg hw]
   exact (fireMiss_c mb Fm S.M S.T tb cb Ft S.L r pb pc Fp S.C q u.p u.k0 u.k1 u.k2 u.k3 u.root kd a us ac wp u.nxe sp sm w h ha0 ha1 hT hr0 hr1 hit hlk hcn L g0 g1 g2 x0 x1 x2 n tt why lv fr hz hs hw).mono fun e w' hh => hh
end Go.Proofs.YtkfonacokamfiaaGreat
