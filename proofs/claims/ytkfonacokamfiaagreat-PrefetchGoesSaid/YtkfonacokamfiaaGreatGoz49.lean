/- Joined texts, part 49 of what the law stands on: each as its own head says. -/
import Derived.Test.YtkfonacokamfiaaGreatGoz48
/- The document's quick translation: what it keeps of a walk to a small page. Printed by mkoptu.py. Own text. -/
namespace Go.Proofs.YtkfonacokamfiaaGreat
set_option linter.unusedVariables false
set_option linter.unusedSimpArgs false
open Go.RowKit
attribute [local go_sem] wext_cell wext_frozen wext_heap alloc_cell alloc_frozen alloc_heap setCell_cell objCell_cells objFrozen_cells
theorem arr8_at (f : Nat → Int) (j : Nat) (hj : j < 8) : (#[.int .u64 (f 0), .int .u64 (f 1), .int .u64 (f 2), .int .u64 (f 3), .int .u64 (f 4), .int .u64 (f 5), .int .u64 (f 6), .int .u64 (f 7)] : Array Value)[j]? = some (.int .u64 (f j)) := by
 match j, hj with
 | 0, _ => rfl
 | 1, _ => rfl
 | 2, _ => rfl
 | 3, _ => rfl
 | 4, _ => rfl
 | 5, _ => rfl
 | 6, _ => rfl
 | 7, _ => rfl
theorem Keeps.blk {F : List Nat} {w w' : World} (k : Keeps F w w') {b : Nat} {c : Array Value} {t : TypeId} (hb : w.heap[b]? = some (.cells c t (0, 0))) (h : b ∉ F) : w'.heap[b]? = some (.cells c t (0, 0)) := (k.block _ (heap_lt hb) h).trans hb
set_option maxHeartbeats 4000000 in
set_option maxRecDepth 100000 in
theorem rkeptSmall_c (h : SPh) (S : List (Int × Int)) (N : Int → Int) (T : List Int) (L : Lines) (r : Nat) (C : Int → Lines) (q : Nat) (u : Who) (kd a : Int) (us ac wp sp sm : Bool) (P : List Stp) (za : Option Addr) (zc : Nat) (why : Int) (rr rt : Rt) (fr pn pt last : Int) (w : World)
  (H : StAt w h S N T L r C q) (hP : StepsAt w za P) (hK : KeepOk P last) (hu : u.ok) (hSl : S.length ≤ 1000000) (hTl : T.length ≤ 900000) (h0 : 0 ≤ a) (h1 : a ≤ 18446744073709551615)  :
  Calls Tryz.prog 74 #[.agg (stV h S T L r C q), whoV u, useV u kd us ac wp sp sm, .int .u64 a, .agg #[.slice za P.length zc, .int .i64 why, .bool rr.1, .bool rr.2.1, .bool rr.2.2, .int .i64 1, .int .u64 fr], .agg #[.int .i64 pn, .int .u64 pt, .bool rt.1, .bool rt.2.1, .bool rt.2.2]] w
   (REndKept h S N (T ++ keepT 1 last) (keepL u.p a 1 fr rr last N u.nxe u.k0 r L) r (fillF u.p a (pkF u.k1 u.k2 u.k3) q P rt C) q w) := by
 have HH := Lib.hid H
 have HP := Lib.hid hP
 have HU := Lib.hid hu
 have ⟨⟨pl0, pl1⟩, hst, hend, hl0, hl1, hl8⟩ := hK
 have HEnd := Lib.hid hend
 have HFl := Lib.hid (fun w1 (k : Ext w w1) => rFill_c h.pa h.pc C q u.p a P za zc why rr 1 fr pn pt rt u.k1 u.k2 u.k3 w1 (H.psc.ext k) H.rooms.1 H.rooms.2 (hP.ext k) (by omega) (fun i hi => (hst i hi).2) h0 h1 hu.2.1)
 have her := err16 (s := last) hl1 hl8
 have hpk := fun w1 (k : SAt w1 h.sa h.sc S) => rPeek_c 16 (by omega) h.sa h.ta S h.sc T.length h.tc last w1 k hSl hl0 (by omega)
 rw [if_pos her, her, H.ok.agree last hl0 her] at hpk
 have HPk := Lib.hid hpk
 have ⟨xa, xb⟩ := H.ok.wide (last / 8)
 obtain ⟨D, hD⟩ : ∃ D, fillF u.p a (pkF u.k1 u.k2 u.k3) q P rt C = D := ⟨_, rfl⟩
 have hDl : ∀ l, 2 ≤ l → l ≤ 4 → (D l).length ≤ q := fun l l0 l1 => by rw [← hD]; exact fillF_len P rt C H.rooms.1 l l0 l1
 rw [hD] at HFl ⊢
 have HDl := Lib.hid hDl
 have HSl := Lib.hid H.slots
 have HTr := Lib.hid H.trace
 have HLn := Lib.hid H.lines
 have HOk := Lib.hid H.ok
 have HRm := Lib.hid H.room
 have HQ64 := Lib.hid H.rooms.2
 clear hK hst hend her hpk hD hDl H HH hP
 generalize hE : REndKept h S N (T ++ keepT 1 last) (keepL u.p a 1 fr rr last N u.nxe u.k0 r L) r D q w = E
 have HE := Lib.hid hE
 clear hE
 obtain ⟨sa, sc, ta, tc, la, lc, pa, pc⟩ := h
 obtain ⟨up, uk0, uk1, uk2, uk3, ur, un⟩ := u
 obtain ⟨g0, g1, g2⟩ := rr
 obtain ⟨t0, t1, t2⟩ := rt
 unfold EndRp at HFl
 unfold stV stC whoV useV
 dsimp only at HFl HSl HTr HLn HPk HE ⊢
 obtain ⟨n, hn⟩ : ∃ n, S.length = n := ⟨_, rfl⟩
 obtain ⟨k, hk⟩ : ∃ k, T.length = k := ⟨_, rfl⟩
 obtain ⟨l, hl⟩ : ∃ l, L.length = l := ⟨_, rfl⟩
 obtain ⟨zn, hzn⟩ : ∃ zn, P.length = zn := ⟨_, rfl⟩
 rw [hn, hk] at HPk
 rw [hzn] at HFl
 rw [hn, hk, hl, hzn]
 have HN := Lib.hid (And.intro hn (And.intro hk (And.intro hl hzn)))
 have hz0 : 1 ≤ zn := by omega
 have hz1 : zn ≤ 4 := by omega
 clear hn hk hl hzn
 obtain ⟨o4, ho4⟩ : ∃ o4, (C 4).length = o4 := ⟨_, rfl⟩
 obtain ⟨o3, ho3⟩ : ∃ o3, (C 3).length = o3 := ⟨_, rfl⟩
 obtain ⟨o2, ho2⟩ : ∃ o2, (C 2).length = o2 := ⟨_, rfl⟩
 rw [ho4, ho3, ho2] at HFl
 rw [ho4, ho3, ho2]
 clear ho4 ho3 ho2
 generalize pa 4 = a4 at HFl ⊢
 generalize pa 3 = a3 at HFl ⊢
 generalize pa 2 = a2 at HFl ⊢
 generalize pc 4 = c4 at HFl ⊢
 generalize pc 3 = c3 at HFl ⊢
 generalize pc 2 = c2 at HFl ⊢
 obtain ⟨x, hx⟩ : ∃ x, N (last / 8) = x := ⟨_, rfl⟩
 rw [hx] at HPk xa xb
 have HX := Lib.hid hx
 clear hx
 go_enter Tryz.func74, Tryz.ntmps74
 go_upto_region 1 with (fail)
 refine wp_gen ?_; intro V hV
 have hVE : Ext w V := by rw [hV]; exact (by repeat (first | exact Ext.refl _ | assumption | refine Ext.alloc ?_ _ | refine Ext.drew ?_ | refine Ext.setCell ?_ (by first | (simp; done) | (dsimp only; omega)) _ | refine Ext.trans ?_ (by assumption)))
 have hV0 : V.heap[w.heap.size]? = some (.cells #[.int .i64 16, .slice sa n sc, .slice ta k tc, .slice la l lc, .int .i64 r, .slice a4 o4 c4, .int .i64 q, .slice a3 o3 c3, .int .i64 q, .slice a2 o2 c2, .int .i64 q] 60 (0, 0)) := by rw [hV]; exact (alloc_other _ _ (by first | (simp; done) | (simp; omega))).trans ((alloc_other _ _ (by first | (simp; done) | (simp; omega))).trans ((alloc_other _ _ (by first | (simp; done) | (simp; omega))).trans ((alloc_other _ _ (by first | (simp; done) | (simp; omega))).trans ((alloc_other _ _ (by first | (simp; done) | (simp; omega))).trans (alloc_same ..)))))
 have hV1 : V.heap[w.heap.size + 1]? = some (.cells #[.int .i64 up, .int .i64 uk0, .int .i64 uk1, .int .i64 uk2, .int .i64 uk3] 69 (0, 0)) := by rw [hV]; exact (alloc_other _ _ (by first | (simp; done) | (simp; omega))).trans ((alloc_other _ _ (by first | (simp; done) | (simp; omega))).trans ((alloc_other _ _ (by first | (simp; done) | (simp; omega))).trans ((alloc_other _ _ (by first | (simp; done) | (simp; omega))).trans (alloc_same1 ..))))
 have hV2 : V.heap[w.heap.size + 1 + 1]? = some (.cells #[.int .u64 ur, .int .i64 kd, .bool us, .bool ac, .bool wp, .bool un, .bool sp, .bool sm] 47 (0, 0)) := by rw [hV]; exact (alloc_other _ _ (by first | (simp; done) | (simp; omega))).trans ((alloc_other _ _ (by first | (simp; done) | (simp; omega))).trans ((alloc_other _ _ (by first | (simp; done) | (simp; omega))).trans (alloc_same2 ..)))
 have hV3 : V.heap[w.heap.size + 1 + 1 + 1]? = some (.cells #[.slice za zn zc, .int .i64 why, .bool g0, .bool g1, .bool g2, .int .i64 1, .int .u64 fr] 103 (0, 0)) := by rw [hV]; exact (alloc_other _ _ (by first | (simp; done) | (simp; omega))).trans ((alloc_other _ _ (by first | (simp; done) | (simp; omega))).trans (alloc_same3 ..))
 have hV4 : V.heap[w.heap.size + 1 + 1 + 1 + 1]? = some (.cells #[.int .i64 pn, .int .u64 pt, .bool t0, .bool t1, .bool t2] 107 (0, 0)) := by rw [hV]; exact (alloc_other _ _ (by first | (simp; done) | (simp; omega))).trans (alloc_same4 ..)
 have hV5 : V.heap[w.heap.size + 1 + 1 + 1 + 1 + 1]? = some (.cells #[.int .i64 0, .slice none 0 0, .slice none 0 0, .slice none 0 0, .int .i64 0, .slice none 0 0, .int .i64 0, .slice none 0 0, .int .i64 0, .slice none 0 0, .int .i64 0] 60 (0, 0)) := by rw [hV]; exact alloc_same5 ..
 obtain ⟨vb, hvb⟩ : ∃ vb, w.heap.size = vb := ⟨_, rfl⟩
 rw [hvb] at hV0 hV1 hV2 hV3 hV4 hV5 ⊢
 have hwv : w.heap.size ≤ vb := by omega
 have VE := Lib.hid hVE
 have V0 := Lib.hid hV0
 have V1 := Lib.hid hV1
 have V2 := Lib.hid hV2
 have V3 := Lib.hid hV3
 have V4 := Lib.hid hV4
 have V5 := Lib.hid hV5
 have x0 := (heap_cell hV0 0).trans rfl
 have x1 := (heap_cell hV0 1).trans rfl
 have x2 := (heap_cell hV0 2).trans rfl
 have x3 := (heap_cell hV0 3).trans rfl
 have x4 := (heap_cell hV0 4).trans rfl
 have x5 := (heap_cell hV0 5).trans rfl
 have x6 := (heap_cell hV0 6).trans rfl
 have x7 := (heap_cell hV0 7).trans rfl
 have x8 := (heap_cell hV0 8).trans rfl
 have x9 := (heap_cell hV0 9).trans rfl
 have x10 := (heap_cell hV0 10).trans rfl
 have xl := heap_lt hV0
 have xf := frozen_of hV0
 have y0 := (heap_cell hV1 0).trans rfl
 have y1 := (heap_cell hV1 1).trans rfl
 have y2 := (heap_cell hV1 2).trans rfl
 have y3 := (heap_cell hV1 3).trans rfl
 have y4 := (heap_cell hV1 4).trans rfl
 have yl := heap_lt hV1
 have z0 := (heap_cell hV3 0).trans rfl
 have z1 := (heap_cell hV3 1).trans rfl
 have z2 := (heap_cell hV3 2).trans rfl
 have z3 := (heap_cell hV3 3).trans rfl
 have z4 := (heap_cell hV3 4).trans rfl
 have z5 := (heap_cell hV3 5).trans rfl
 have z6 := (heap_cell hV3 6).trans rfl
 have zl := heap_lt hV3
 have p0 := (heap_cell hV4 0).trans rfl
 have p1 := (heap_cell hV4 1).trans rfl
 have p2 := (heap_cell hV4 2).trans rfl
 have p3 := (heap_cell hV4 3).trans rfl
 have p4 := (heap_cell hV4 4).trans rfl
 have pl := heap_lt hV4
 clear hV hVE hV0 hV1 hV2 hV3 hV4 hV5 hvb
 go_upto_region 2 with (first | (go_at_call 107; refine (HFl.out _ VE.out).mono ?_; rintro e w1 ⟨pa2, pc2, rfl, hR1, hb1⟩; have B1 := (hb1.block _ (heap_lt V0.out)).trans V0.out; have d5 := (heap_cell B1 5).trans rfl; have d6 := (heap_cell B1 6).trans rfl; have d7 := (heap_cell B1 7).trans rfl; have d8 := (heap_cell B1 8).trans rfl; have d9 := (heap_cell B1 9).trans rfl; have d10 := (heap_cell B1 10).trans rfl; have df := frozen_of B1; have dl := heap_lt B1))
 refine wp_gen ?_; intro W hW
 have W0 : Hid (W.heap[vb]? = some (.cells #[.int .i64 16, .slice sa n sc, .slice ta k tc, .slice la l lc, .int .i64 r, .slice (pa2 4) (D 4).length (pc2 4), .int .i64 q, .slice (pa2 3) (D 3).length (pc2 3), .int .i64 q, .slice (pa2 2) (D 2).length (pc2 2), .int .i64 q] 60 (0, 0))) := Lib.hid (by rw [hW]; exact psc6_heap B1)
 have hWo : ∀ b o, vb ≠ b → V.heap[b]? = some o → W.heap[b]? = some o := fun b o hne hb => by rw [hW]; exact (psc6_other hne).trans ((hb1.block _ (heap_lt hb)).trans hb)
 have W1 := Lib.hid (hWo _ _ (by omega) V1.out)
 have W2 := Lib.hid (hWo _ _ (by omega) V2.out)
 have W3 := Lib.hid (hWo _ _ (by omega) V3.out)
 have W5 := Lib.hid (hWo _ _ (by omega) V5.out)
 have WE : Hid (Ext w W) := Lib.hid (by rw [hW]; exact psc6_ext (VE.out.trans hb1) hwv)
 have WR : Hid (RpAt W pa2 pc2 D) := Lib.hid (by rw [hW]; exact hR1.other B1 (by decide) fun g hg => psc6_other hg)
 clear hW hWo B1 d5 d6 d7 d8 d9 d10 df dl hb1 hR1 x0 x1 x2 x3 x4 x5 x6 x7 x8 x9 x10 xl xf y0 y1 y2 y3 y4 yl z0 z1 z2 z3 z4 z5 z6 zl p0 p1 p2 p3 p4 pl
 obtain ⟨g, o, hza, hgl, i0, i1, i2⟩ := (HP.out.ext WE.out) (zn - 1) (by have := HN.out.2.2.2; omega)
 have hlast : (stpAt P (zn - 1)).2.1 = last := by have := HEnd.out; rw [HN.out.2.2.2] at this; exact this
 rw [hlast] at i1
 generalize (stpAt P (zn - 1)).1 = e0 at i0
 generalize (stpAt P (zn - 1)).2.2 = e2 at i2
 clear hlast
 subst hza
 have hzi : (zn : Int) - 1 = ((zn - 1 : Nat) : Int) := by omega
 obtain ⟨zi, hzi2⟩ : ∃ zi, zn - 1 = zi := ⟨_, rfl⟩
 rw [hzi2] at i0 i1 i2 hzi
 have hzlt : zi < zn := by omega
 clear hzi2
 have z0 := (heap_cell W3.out 0).trans rfl
 have zl := heap_lt W3.out
 go_upto_region 3 with (fail)
 refine wp_gen ?_; intro X hX
 have KX := Lib.hid (show Ext W X by rw [hX]; exact (by repeat (first | exact Ext.refl _ | assumption | refine Ext.alloc ?_ _ | refine Ext.drew ?_ | refine Ext.setCell ?_ (by first | (simp; done) | (dsimp only; omega)) _ | refine Ext.trans ?_ (by assumption))))
 have hXl : X.heap[W.heap.size]? = some (.cells #[.int .i64 e0, .int .u64 last, .int .u64 e2] 109 (0, 0)) := by rw [hX]; exact alloc_same ..
 obtain ⟨lb, hlb⟩ : ∃ lb, W.heap.size = lb := ⟨_, rfl⟩
 have hlv : vb + 1 + 1 + 1 + 1 + 1 < lb := by have := heap_lt W5.out; omega
 rw [hlb] at hXl ⊢
 have XL := Lib.hid hXl
 have X0 := Lib.hid ((KX.out.block _ (heap_lt W0.out)).trans W0.out)
 have X3 := Lib.hid ((KX.out.block _ (heap_lt W3.out)).trans W3.out)
 have XE := Lib.hid (WE.out.trans KX.out)
 clear hX hXl hlb i0 i1 i2 hgl z0 zl
 have l1' := (heap_cell XL.out 1).trans rfl
 have ll := heap_lt XL.out
 have x0 := (heap_cell X0.out 0).trans rfl
 have x1 := (heap_cell X0.out 1).trans rfl
 have x2 := (heap_cell X0.out 2).trans rfl
 have xl := heap_lt X0.out
 go_upto_region 4 with (first | (go_at_call 42; refine (HPk.out _ (SAt.ext HSl.out XE.out)).mono ?_; rintro e Y ⟨rfl, hY⟩))
 have KY := Lib.hid (KX.out.trans hY)
 have YE := Lib.hid (XE.out.trans hY)
 have YL := Lib.hid ((hY.block _ (heap_lt XL.out)).trans XL.out)
 have Y0 := Lib.hid ((hY.block _ (heap_lt X0.out)).trans X0.out)
 have Y1 := Lib.hid ((KY.out.block _ (heap_lt W1.out)).trans W1.out)
 have Y2 := Lib.hid ((KY.out.block _ (heap_lt W2.out)).trans W2.out)
 have Y3 := Lib.hid ((KY.out.block _ (heap_lt W3.out)).trans W3.out)
 have Y5 := Lib.hid ((KY.out.block _ (heap_lt W5.out)).trans W5.out)
 have YR := Lib.hid (WR.out.ext KY.out)
 have HUk := Lib.hid HU.out.1
 dsimp only at HUk
 clear hY KY KX W0 W1 W2 W3 W5 WE WR X0 X3 XE XL V0 V1 V2 V3 V4 V5 VE l1' ll x0 x1 x2 xl HFl HPk HU
 have hpl0 := placeI_lt a h0
 have hpl1 : (a / 4096 % 512).tmod 8 = placeI a := by rw [Int.tmod_eq_emod_of_nonneg (by omega)]; unfold placeI; omega
 have hpl2 : a / 4096 % 512 % 8 = placeI a := by unfold placeI; omega
 have HIx := Lib.hid (fun w1 => refIndex1_c a w1 h0 h1)
 obtain ⟨pl, hpl⟩ : ∃ pl, placeI a = pl := ⟨_, rfl⟩
 rw [hpl] at hpl0 hpl1 hpl2
 have HPL := Lib.hid hpl
 clear hpl
 obtain ⟨pl0, pl1⟩ := hpl0
 have z2 := (heap_cell Y3.out 2).trans rfl
 have z3 := (heap_cell Y3.out 3).trans rfl
 have z4 := (heap_cell Y3.out 4).trans rfl
 have z5 := (heap_cell Y3.out 5).trans rfl
 have zl := heap_lt Y3.out
 have x0 := (heap_cell Y0.out 0).trans rfl
 have xl := heap_lt Y0.out
 have u5 := (heap_cell Y2.out 5).trans rfl
 have ul := heap_lt Y2.out
 go_upto_region 8 with (fail)
 refine region_mixA 12 (.cells #[.int .u64 0, .int .u64 0, .int .u64 0, .int .u64 0, .int .u64 0, .int .u64 0, .int .u64 0, .int .u64 0, .int .i64 0, .bool false, .bool false, .bool false, .int .i64 0, .bool false] 216 (0, 0)) [.q [0, 3, 4, 5, 6, 7, 8, 9, 10], .l 1 5, .b [2, 11], .l 12 4, .l 13 2] (by kernel_rfl) (by kernel_rfl) (alloc_runA rfl (by kernel_rfl : _ = some (some (Value.agg (#[.int .u64 0, .int .u64 0, .int .u64 0, .int .u64 0, .int .u64 0, .int .u64 0, .int .u64 0, .int .u64 0, .int .i64 0, .bool false, .bool false, .bool false, .int .i64 0, .bool false])))) rfl) ?_
 (repeat (unfold wpPlanA; simp only [pickL, List.map_cons, List.map_nil, List.getD_cons_succ, List.getD_cons_zero]; (repeat go_big_quiet_step (fail)); refine wpQuiet_nil ?_)); unfold wpPlanA; intro v1 hb1; (try simp only [pickL, List.map_cons, List.map_nil, List.getD_cons_succ, List.getD_cons_zero])
 go_wp2_with (first | (go_at_call 83; refine (HIx.out _).mono ?_; rintro e v2 ⟨rfl, hb2⟩))
 have q1 := hb1.size
 have q2 := hb2.size
 refine ⟨⟨by omega, fun _ => hb2, fun h => absurd h (by omega)⟩, ?_⟩
 have K2 := Lib.hid (hb1.trans hb2)
 clear hb1 hb2
 (repeat (unfold wpPlanA; simp only [pickL, List.map_cons, List.map_nil, List.getD_cons_succ, List.getD_cons_zero]; (repeat go_big_quiet_step (fail)); refine wpQuiet_nil ?_)); unfold wpPlanA; intro sn v3 hb3 hb3B hb3O; simp only [List.getD_cons_succ, List.getD_cons_zero, ptrTo]; simp only [Act.put, Array.set!_eq_setIfInBounds, List.setIfInBounds_toArray, List.set_cons_succ, List.set_cons_zero]
 have K3 := Lib.hid (K2.out.trans hb3)
 have S3 := Lib.hid hb3O
 have hsl := heap_lt hb3O
 have hsB := Lib.hid hb3B
 have q3 := hb3.size
 clear hb3 hb3O
 (repeat (unfold wpPlanA; simp only [pickL, List.map_cons, List.map_nil, List.getD_cons_succ, List.getD_cons_zero]; (repeat go_big_quiet_step (fail)); refine wpQuiet_nil ?_)); unfold wpPlanA; intro v4 hb4; (try simp only [pickL, List.map_cons, List.map_nil, List.getD_cons_succ, List.getD_cons_zero])
 have S4 := Lib.hid ((hb4.block sn hsl).trans S3.out)
 have K4 := Lib.hid (K3.out.trans hb4)
 have q4 := hb4.size
 have n0 := (heap_cell S4.out 0).trans rfl
 have n1 := (heap_cell S4.out 1).trans rfl
 have n2 := (heap_cell S4.out 2).trans rfl
 have n3 := (heap_cell S4.out 3).trans rfl
 have n4 := (heap_cell S4.out 4).trans rfl
 have n5 := (heap_cell S4.out 5).trans rfl
 have n6 := (heap_cell S4.out 6).trans rfl
 have n7 := (heap_cell S4.out 7).trans rfl
 have n8 := (heap_cell S4.out 8).trans rfl
 have n9 := (heap_cell S4.out 9).trans rfl
 have n10 := (heap_cell S4.out 10).trans rfl
 have n11 := (heap_cell S4.out 11).trans rfl
 have n12 := (heap_cell S4.out 12).trans rfl
 have n13 := (heap_cell S4.out 13).trans rfl
 have nf := frozen_of S4.out
 have nl := heap_lt S4.out
 clear hb4 z2 z3 z4 z5 zl x0 xl u5 ul
 go_wp2
 refine ⟨⟨by simp; omega, fun h => absurd h (by omega), fun h => absurd h (by omega)⟩, ?_⟩
 clear n0 n1 n2 n3 n4 n5 n6 n7 n8 n9 n10 n11 n12 n13 nf nl
 (repeat (unfold wpPlanA; simp only [pickL, List.map_cons, List.map_nil, List.getD_cons_succ, List.getD_cons_zero]; (repeat go_big_quiet_step (fail)); refine wpQuiet_nil ?_)); unfold wpPlanA; intro G hG; (try simp only [pickL, List.map_cons, List.map_nil, List.getD_cons_succ, List.getD_cons_zero])
 have hsv : vb + 1 + 1 + 1 + 1 + 1 < sn ∧ lb < sn := by have := hsB.out; have := heap_lt Y5.out; have := heap_lt YL.out; omega
 have hws : w.heap.size ≤ sn := by omega
 have hsg := (hG.block sn (by simp; exact heap_lt S4.out)).trans (store14_heap S4.out)
 have GS : Hid (G.heap[sn]? = some (.cells #[.int .u64 (upF (grpF N last) 0 0), .int .u64 (upF (grpF N last) 0 1), .int .u64 (upF (grpF N last) 0 2), .int .u64 (upF (grpF N last) 0 3), .int .u64 (upF (grpF N last) 0 4), .int .u64 (upF (grpF N last) 0 5), .int .u64 (upF (grpF N last) 0 6), .int .u64 (upF (grpF N last) 0 7), .int .i64 pl, .bool g0, .bool g1, .bool g2, .int .i64 16, .bool un] 216 (0, 0))) := Lib.hid (by simpa [upF] using hsg)
 have GK : Hid (Keeps [sn] Y G) := Lib.hid ((keeps14 K4.out).ext hG)
 have GE : Hid (Ext w G) := Lib.hid (Keeps.to_ext YE.out GK.out (by simpa using hws))
 have gk : ∀ {b : Nat} {c : Array Value} {t : TypeId}, Y.heap[b]? = some (.cells c t (0, 0)) → b ≠ sn → G.heap[b]? = some (.cells c t (0, 0)) := fun hb hne => (GK.out.block _ (heap_lt hb) (by simpa using hne)).trans hb
 have G0 := Lib.hid (gk Y0.out (by omega))
 have G1 := Lib.hid (gk Y1.out (by omega))
 have G5 := Lib.hid (gk Y5.out (by omega))
 have GL := Lib.hid (gk YL.out (by omega))
 have GR : Hid (RpAt G pa2 pc2 D) := Lib.hid fun j j0 j1 => ⟨(YR.out j j0 j1).1.keep fun g hg => by
  obtain ⟨c, hc⟩ := (YR.out j j0 j1).1.heap g hg
  refine GK.out.block _ (heap_lt hc) ?_
  have := heap_lt hc
  have := hsB.out
  simp; omega, (YR.out j j0 j1).2⟩
 clear hG hsg gk hpl1 hpl2
 have l1' := (heap_cell GL.out 1).trans rfl
 have ll := heap_lt GL.out
 have HSl2 : Hid (∀ w1, Calls Tryz.prog 109 #[.int .u64 last] w1 fun e w' => e = .returned (.agg #[.int .u64 (grpA last 0), .int .u64 (grpA last 1), .int .u64 (grpA last 2), .int .u64 (grpA last 3), .int .u64 (grpA last 4), .int .u64 (grpA last 5), .int .u64 (grpA last 6), .int .u64 (grpA last 7)]) ∧ Ext w1 w') := Lib.hid (fun w1 => by
  have := rslots_c last w1 hl0 (by omega)
  unfold slotsV at this
  rw [show (#[.int .u64 (grpA last 0), .int .u64 (grpA last 1), .int .u64 (grpA last 2), .int .u64 (grpA last 3), .int .u64 (grpA last 4), .int .u64 (grpA last 5), .int .u64 (grpA last 6), .int .u64 (grpA last 7)] : Array Value) = #[.int .u64 (last - last % 64), .int .u64 (last - last % 64 + 8), .int .u64 (last - last % 64 + 16), .int .u64 (last - last % 64 + 24), .int .u64 (last - last % 64 + 32), .int .u64 (last - last % 64 + 40), .int .u64 (last - last % 64 + 48), .int .u64 (last - last % 64 + 56)] by simp [grpA]]
  exact this)
 go_upto_region 10 with (first | (go_at_call 109; refine (HSl2.out _).mono ?_; rintro e w5 ⟨rfl, hb5⟩))
 refine wp_gen ?_; intro X hX
 have KX := Lib.hid (show Ext G X by rw [hX]; exact hb5.alloc _)
 have hXs : X.heap[w5.heap.size]? = some (.cells #[.int .u64 (grpA last 0), .int .u64 (grpA last 1), .int .u64 (grpA last 2), .int .u64 (grpA last 3), .int .u64 (grpA last 4), .int .u64 (grpA last 5), .int .u64 (grpA last 6), .int .u64 (grpA last 7)] 198 (0, 0)) := by rw [hX]; exact alloc_same ..
 obtain ⟨slb, hslb⟩ : ∃ slb, w5.heap.size = slb := ⟨_, rfl⟩
 have hsls : sn < slb := by have := hb5.size; have := heap_lt GS.out; omega
 rw [hslb] at hXs ⊢
 have XW := Lib.hid hXs
 have XS := Lib.hid ((KX.out.block _ (heap_lt GS.out)).trans GS.out)
 have X0 := Lib.hid ((KX.out.block _ (heap_lt G0.out)).trans G0.out)
 have X1 := Lib.hid ((KX.out.block _ (heap_lt G1.out)).trans G1.out)
 have X5 := Lib.hid ((KX.out.block _ (heap_lt G5.out)).trans G5.out)
 have XL := Lib.hid ((KX.out.block _ (heap_lt GL.out)).trans GL.out)
 have XE := Lib.hid (GE.out.trans KX.out)
 have XR := Lib.hid (GR.out.ext KX.out)
 clear hX hXs hslb hb5 l1' ll
 go_wp2
 go_loopw [19] (fun iv wr => ∃ (j : Nat) (tb : Option Addr) (td m : Nat), j ≤ 8 ∧ iv = .int .i64 j ∧ Hid (m = (T ++ grpT last j).length ∧ wr.heap[vb]? = some (.cells #[.int .i64 16, .slice sa n sc, .slice tb m td, .slice la l lc, .int .i64 r, .slice (pa2 4) (D 4).length (pc2 4), .int .i64 q, .slice (pa2 3) (D 3).length (pc2 3), .int .i64 q, .slice (pa2 2) (D 2).length (pc2 2), .int .i64 q] 60 (0, 0)) ∧ TrAt wr tb td (T ++ grpT last j) ∧ wr.heap[sn]? = some (.cells #[.int .u64 (upF (grpF N last) j 0), .int .u64 (upF (grpF N last) j 1), .int .u64 (upF (grpF N last) j 2), .int .u64 (upF (grpF N last) j 3), .int .u64 (upF (grpF N last) j 4), .int .u64 (upF (grpF N last) j 5), .int .u64 (upF (grpF N last) j 6), .int .u64 (upF (grpF N last) j 7), .int .i64 pl, .bool g0, .bool g1, .bool g2, .int .i64 16, .bool un] 216 (0, 0)) ∧ Keeps (vb :: sn :: []) X wr ∧ FreshT w ta tb)) (fun iv _ => 8 - (intOf iv).toNat)
 case atStart => exact ⟨0, ta, tc, k, by omega, rfl, Lib.hid ⟨by rw [← HN.out.2.1]; simp [grpT], X0.out, by simpa [grpT] using TrAt.ext HTr.out XE.out, XS.out, Keeps.refl _ _, FreshT.refl _ _⟩⟩
 case round =>
  obtain ⟨j, tb, td, m, hj, rfl, hR⟩ := hrel
  have HM := Lib.hid hR.out.1
  have R0 := Lib.hid hR.out.2.1
  have RT := Lib.hid hR.out.2.2.1
  have RS := Lib.hid hR.out.2.2.2.1
  have RK := Lib.hid hR.out.2.2.2.2.1
  have RF := Lib.hid hR.out.2.2.2.2.2
  clear hR
  have hXv := XE.out.size
  by_cases hlt : j < 8
  ·have sk := (heap_cell RS.out j).trans (seen_at (upF (grpF N last) j) _ _ _ _ _ _ j hlt)
   have sf := frozen_of RS.out
   have sl := heap_lt RS.out
   have ⟨q0, q1', q8⟩ := grpA_le hl0 hl1 j hlt
   go_upto_region 14 with (fail)
   refine wp_gen ?_; intro A hA
   have A0 : Hid (A.heap[vb]? = some (.cells #[.int .i64 16, .slice sa n sc, .slice tb m td, .slice la l lc, .int .i64 r, .slice (pa2 4) (D 4).length (pc2 4), .int .i64 q, .slice (pa2 3) (D 3).length (pc2 3), .int .i64 q, .slice (pa2 2) (D 2).length (pc2 2), .int .i64 q] 60 (0, 0))) := Lib.hid (by rw [hA]; exact (setCell_heap wr sn j vb (.int .u64 x) (by omega)).trans R0.out)
   have AS : Hid (A.heap[sn]? = some (.cells ((#[.int .u64 (upF (grpF N last) j 0), .int .u64 (upF (grpF N last) j 1), .int .u64 (upF (grpF N last) j 2), .int .u64 (upF (grpF N last) j 3), .int .u64 (upF (grpF N last) j 4), .int .u64 (upF (grpF N last) j 5), .int .u64 (upF (grpF N last) j 6), .int .u64 (upF (grpF N last) j 7), .int .i64 pl, .bool g0, .bool g1, .bool g2, .int .i64 16, .bool un] : Array Value).setIfInBounds j (.int .u64 x)) 216 (0, 0))) := Lib.hid (by rw [hA]; exact setCell_heap_same (i := j) (v := .int .u64 x) RS.out)
   have AK : Hid (Keeps (vb :: sn :: []) X A) := Lib.hid (by rw [hA]; exact Keeps.setCell RK.out (.inl (by simp)) _)
   have AT : Hid (TrAt A tb td (T ++ grpT last j)) := Lib.hid (by rw [hA]; exact Owns.keep RT.out fun g hg => setCell_heap _ _ _ _ _ (Owns.ne RT.out RS.out (by decide) g hg))
   have AE : Hid (Ext w A) := Lib.hid (Keeps.to_ext XE.out AK.out (by intro y hy; simp at hy; omega))
   clear hA sk sf sl
   have hAw := AK.out.blk XW.out (by simp; omega)
   have hAl := AK.out.blk XL.out (by simp; omega)
   have w0 := (heap_cell hAw j).trans (arr8_at (grpA last) j hlt)
   have wl := heap_lt hAw
   have l1' := (heap_cell hAl 1).trans rfl
   have ll := heap_lt hAl
   have al := heap_lt A0.out
   have dj : decide (8 ≤ j) = false := by rw [decide_eq_false_iff_not]; omega
   have dj2 : decide (8 ≤ (j : Int)) = false := by rw [decide_eq_false_iff_not]; omega
   clear hAw hAl
   by_cases hsl' : grpA last j = last
   ·have hsb : (grpA last j != last) = false := by simpa using hsl'
    have hv : x = grpF N last j := by unfold grpF; rw [hsl']; exact HX.out.symm
    have FIN : Hid (m = (T ++ grpT last (j + 1)).length ∧ TrAt A tb td (T ++ grpT last (j + 1)) ∧ A.heap[sn]? = some (.cells #[.int .u64 (upF (grpF N last) (j + 1) 0), .int .u64 (upF (grpF N last) (j + 1) 1), .int .u64 (upF (grpF N last) (j + 1) 2), .int .u64 (upF (grpF N last) (j + 1) 3), .int .u64 (upF (grpF N last) (j + 1) 4), .int .u64 (upF (grpF N last) (j + 1) 5), .int .u64 (upF (grpF N last) (j + 1) 6), .int .u64 (upF (grpF N last) (j + 1) 7), .int .i64 pl, .bool g0, .bool g1, .bool g2, .int .i64 16, .bool un] 216 (0, 0))) :=
     Lib.hid ⟨by rw [grpT_succ, if_pos hsl']; exact HM.out, by rw [grpT_succ, if_pos hsl']; exact AT.out, by rw [← seen_set (grpF N last) j hlt _ _ _ _ _ _ x hv]; exact AS.out⟩
    clear hsl' hv q0 q1' q8
    generalize grpA last j = slot at *
    refine region_ext (by kernel_rfl) (by kernel_rfl) ?_; (repeat (go_big_quiet_step (fail))); refine wpQuiet_nil ?_; intro w1 hb; have ⟨hc, hf, hh, hs⟩ := hb.facts; try simp only [World.size_alloc, World.size_setCell, World.size_drew] at hs
    have HB := Lib.hid hb
    clear hb hc hf hh hs w0 wl l1' ll al
    go_wp2
    exact ⟨⟨j + 1, tb, td, m, by omega, by go_num, Lib.hid ⟨FIN.out.1, (HB.out.block _ (heap_lt A0.out)).trans A0.out, TrAt.ext FIN.out.2.1 HB.out, (HB.out.block _ (heap_lt FIN.out.2.2)).trans FIN.out.2.2, AK.out.ext HB.out, RF.out⟩⟩, by simp [intOf]; omega⟩
   ·have hsb : (grpA last j != last) = true := by simpa using hsl'
    have herk := err16 (s := grpA last j) q1' q8
    have hgl := grpT_length last j
    have hld : ∀ w1, SAt w1 sa sc S → TrAt w1 tb td (T ++ grpT last j) → Calls Tryz.prog 58 #[.agg #[.int .i64 16, .slice sa n sc, .slice tb m td], .int .u64 (grpA last j)] w1 fun e w' => ∃ t3 d3, e = .returned (.tuple #[.agg #[.int .i64 16, .slice sa n sc, .slice t3 (T ++ grpT last (j + 1)).length d3], .int .u64 (grpF N last j), .int .i64 0]) ∧ TrAt w' t3 d3 (T ++ grpT last (j + 1)) ∧ Ext w1 w' ∧ FreshT w1 tb t3 := fun w1 k1 k2 => by
     have := rLoad_ok 16 (by omega) sa tb S (T ++ grpT last j) sc td (grpA last j) w1 k1 k2 hSl (by rw [List.length_append]; omega) q0 (by omega) herk
     rw [HN.out.1, ← HM.out, HOk.out.agree _ q0 herk] at this
     unfold EndLoad at this
     rw [grpT_succ, if_neg hsl', ← List.append_assoc]
     exact this
    have HLD := Lib.hid hld
    obtain ⟨T3, hT3⟩ : ∃ T3, T ++ grpT last (j + 1) = T3 := ⟨_, rfl⟩
    rw [hT3] at HLD
    have HT3 := Lib.hid hT3
    obtain ⟨fv, hfv⟩ : ∃ fv, grpF N last j = fv := ⟨_, rfl⟩
    rw [hfv] at HLD
    have HFV := Lib.hid hfv
    obtain ⟨m3, hm3⟩ : ∃ m3, T3.length = m3 := ⟨_, rfl⟩
    rw [hm3] at HLD
    have HM3 := Lib.hid hm3
    clear hsl' herk hld hT3 hfv hm3 q0 q1' q8 hgl
    obtain ⟨slot, hslot⟩ : ∃ slot, grpA last j = slot := ⟨_, rfl⟩
    rw [hslot] at HLD hsb w0
    have HSO := Lib.hid hslot
    clear hslot
    go_upto_region 14 with (fail)
    refine region_ext (by kernel_rfl) (by kernel_rfl) ?_; (repeat (go_big_quiet_step (fail))); refine wpQuiet_nil ?_; intro w1 hb; have ⟨hc, hf, hh, hs⟩ := hb.facts; try simp only [World.size_alloc, World.size_setCell, World.size_drew] at hs
    have HB := Lib.hid hb
    clear hb hc hf hh hs w0 wl l1' ll al
    have B0 := Lib.hid ((HB.out.block _ (heap_lt A0.out)).trans A0.out)
    have BS := Lib.hid ((HB.out.block _ (heap_lt AS.out)).trans AS.out)
    have BK := Lib.hid (AK.out.ext HB.out)
    have BT := Lib.hid (TrAt.ext AT.out HB.out)
    have BE := Lib.hid (AE.out.trans HB.out)
    clear A0 AS AK AT AE HB
    have hAw := BK.out.blk XW.out (by simp; omega)
    have w0 := (heap_cell hAw j).trans (arr8_at (grpA last) j hlt)
    rw [HSO.out] at w0
    have wl := heap_lt hAw
    have b0 := (heap_cell B0.out 0).trans rfl
    have b1 := (heap_cell B0.out 1).trans rfl
    have b2 := (heap_cell B0.out 2).trans rfl
    have bl := heap_lt B0.out
    clear hAw
    go_upto_region 15 with (fail)
    refine region_mixA 10 (.cells #[.int .i64 0, .slice none 0 0, .slice none 0 0] 41 (0, 0)) [.q [0, 1, 2, 3, 4], .l 5 5, .q [6, 7], .b [8, 9], .l 10 4, .l 11 2, .b [12, 13]] (by kernel_rfl) (by kernel_rfl) (alloc_runA rfl (by kernel_rfl : _ = some (some (Value.agg (#[.int .i64 0, .slice none 0 0, .slice none 0 0])))) rfl) ?_
    (repeat (unfold wpPlanA; simp only [pickL, List.map_cons, List.map_nil, List.getD_cons_succ, List.getD_cons_zero]; (repeat go_big_quiet_step (fail)); refine wpQuiet_nil ?_)); unfold wpPlanA; intro c1 hc1; (try simp only [pickL, List.map_cons, List.map_nil, List.getD_cons_succ, List.getD_cons_zero])
    go_wp2_with (first | (go_at_call 58; refine (HLD.out _ (SAt.ext HSl.out (BE.out.trans hc1)) (TrAt.ext BT.out hc1)).mono ?_; rintro e c2 ⟨t3, d3, rfl, hT4, hE4, hF4⟩))
    have s1 := hc1.size
    have s2 := hE4.size
    refine ⟨⟨by omega, fun _ => hE4, fun h => absurd h (by omega)⟩, ?_⟩
    have C2 := Lib.hid (hc1.trans hE4)
    have CT := Lib.hid hT4
    have CF : Hid (FreshT w ta t3) := Lib.hid (FreshT.trans RF.out (by have := BE.out.size; omega) hF4)
    clear hc1 hE4 hT4 hF4 w0 wl b0 b1 b2 bl
    (repeat (unfold wpPlanA; simp only [pickL, List.map_cons, List.map_nil, List.getD_cons_succ, List.getD_cons_zero]; (repeat go_big_quiet_step (fail)); refine wpQuiet_nil ?_)); unfold wpPlanA; intro mb c3 hc3 hc3B hc3O; simp only [List.getD_cons_succ, List.getD_cons_zero, ptrTo]; simp only [Act.put, Array.set!_eq_setIfInBounds, List.setIfInBounds_toArray, List.set_cons_succ, List.set_cons_zero]
    have C3 := Lib.hid (C2.out.trans hc3)
    have M3 := Lib.hid hc3O
    have hml := heap_lt hc3O
    have hmB := hc3B
    have CT3 := Lib.hid (TrAt.ext CT.out hc3)
    have s3 := hc3.size
    clear hc3 hc3O hc3B
    (repeat (unfold wpPlanA; simp only [pickL, List.map_cons, List.map_nil, List.getD_cons_succ, List.getD_cons_zero]; (repeat go_big_quiet_step (fail)); refine wpQuiet_nil ?_)); unfold wpPlanA; intro c4 hc4; (try simp only [pickL, List.map_cons, List.map_nil, List.getD_cons_succ, List.getD_cons_zero])
    have M4 := Lib.hid ((hc4.block mb hml).trans M3.out)
    have C4 := Lib.hid (C3.out.trans hc4)
    have CT4 := Lib.hid (TrAt.ext CT3.out hc4)
    have s4 := hc4.size
    have g0' := (heap_cell M4.out 0).trans rfl
    have g1' := (heap_cell M4.out 1).trans rfl
    have g2' := (heap_cell M4.out 2).trans rfl
    have gf := frozen_of M4.out
    have gl := heap_lt M4.out
    clear hc4
    go_wp2
    refine ⟨⟨by simp; omega, fun h => absurd h (by omega), fun h => absurd h (by omega)⟩, ?_⟩
    clear g0' g1' g2' gf gl
    (repeat (unfold wpPlanA; simp only [pickL, List.map_cons, List.map_nil, List.getD_cons_succ, List.getD_cons_zero]; (repeat go_big_quiet_step (fail)); refine wpQuiet_nil ?_)); unfold wpPlanA; intro c5 hc5; (try simp only [pickL, List.map_cons, List.map_nil, List.getD_cons_succ, List.getD_cons_zero])
    have hbv : vb < mb ∧ sn < mb := by have := heap_lt B0.out; have := heap_lt BS.out; omega
    have D0 := Lib.hid ((hc5.block vb (by simp; exact heap_lt ((C4.out.block _ (heap_lt B0.out)).trans B0.out))).trans ((store3_other (by omega)).trans ((C4.out.block _ (heap_lt B0.out)).trans B0.out)))
    have DS := Lib.hid ((hc5.block sn (by simp; exact heap_lt ((C4.out.block _ (heap_lt BS.out)).trans BS.out))).trans ((store3_other (by omega)).trans ((C4.out.block _ (heap_lt BS.out)).trans BS.out)))
    have DM := Lib.hid ((hc5.block mb (by simp; exact heap_lt M4.out)).trans (store3_heap M4.out))
    have DK : Hid (Keeps (vb :: sn :: []) X c5) := Lib.hid (Keeps.ext (Keeps.setCell (Keeps.setCell (Keeps.setCell (BK.out.ext C4.out) (.inr (by have := BK.out.size; omega)) _) (.inr (by have := BK.out.size; omega)) _) (.inr (by have := BK.out.size; omega)) _) hc5)
    have DT : Hid (TrAt c5 t3 d3 T3) := Lib.hid (TrAt.ext (Owns.keep CT4.out fun g hg => store3_other (Owns.ne CT4.out M4.out (by decide) g hg)) hc5)
    clear hc5 B0 BS BK BT BE C2 CT C3 M3 CT3 M4 C4 CT4
    have m0 := (heap_cell DM.out 0).trans rfl
    have m1 := (heap_cell DM.out 1).trans rfl
    have m2 := (heap_cell DM.out 2).trans rfl
    have ml := heap_lt DM.out
    have b0 := (heap_cell D0.out 0).trans rfl
    have b1 := (heap_cell D0.out 1).trans rfl
    have b2 := (heap_cell D0.out 2).trans rfl
    have bf := frozen_of D0.out
    have bl := heap_lt D0.out
    go_upto_region 17 with (fail)
    refine wp_gen ?_; intro E2 hE2
    have F0 : Hid (E2.heap[vb]? = some (.cells #[.int .i64 16, .slice sa n sc, .slice t3 m3 d3, .slice la l lc, .int .i64 r, .slice (pa2 4) (D 4).length (pc2 4), .int .i64 q, .slice (pa2 3) (D 3).length (pc2 3), .int .i64 q, .slice (pa2 2) (D 2).length (pc2 2), .int .i64 q] 60 (0, 0))) := Lib.hid (by rw [hE2]; exact setCell_heap_same (setCell_heap_same (setCell_heap_same D0.out)))
    have hFS : E2.heap[sn]? = some (.cells ((#[.int .u64 (upF (grpF N last) j 0), .int .u64 (upF (grpF N last) j 1), .int .u64 (upF (grpF N last) j 2), .int .u64 (upF (grpF N last) j 3), .int .u64 (upF (grpF N last) j 4), .int .u64 (upF (grpF N last) j 5), .int .u64 (upF (grpF N last) j 6), .int .u64 (upF (grpF N last) j 7), .int .i64 pl, .bool g0, .bool g1, .bool g2, .int .i64 16, .bool un] : Array Value).setIfInBounds j (.int .u64 x)) 216 (0, 0)) := by rw [hE2]; exact (store3_other (by omega)).trans DS.out
    have FS := Lib.hid hFS
    have FK : Hid (Keeps (vb :: sn :: []) X E2) := Lib.hid (by rw [hE2]; exact Keeps.setCell (Keeps.setCell (Keeps.setCell DK.out (.inl (by simp)) _) (.inl (by simp)) _) (.inl (by simp)) _)
    have FT : Hid (TrAt E2 t3 d3 T3) := Lib.hid (by rw [hE2]; exact Owns.keep DT.out fun g hg => store3_other (Owns.ne DT.out D0.out (by decide) g hg))
    clear hE2 hFS m0 m1 m2 ml b0 b1 b2 bf bl D0 DS DM DK DT
    have sk : E2.cell? ⟨sn, j, none⟩ = some (.int .u64 x) := (heap_cell FS.out j).trans (seen_put (upF (grpF N last) j) _ _ _ _ _ _ j hlt x)
    have sf := frozen_of FS.out
    have sl := heap_lt FS.out
    go_wp2
    refine ⟨⟨j + 1, t3, d3, m3, by omega, by go_num, Lib.hid ⟨by rw [HT3.out]; exact HM3.out.symm, (setCell_heap E2 sn j vb (.int .u64 fv) (by omega)).trans F0.out, by rw [HT3.out]; exact Owns.keep FT.out fun g hg => setCell_heap _ _ _ _ _ (Owns.ne FT.out FS.out (by decide) g hg), ?_, Keeps.setCell FK.out (.inl (by simp)) _, CF.out⟩⟩, by simp [intOf]; omega⟩
    rw [← seen_set (grpF N last) j hlt _ _ _ _ _ _ fv HFV.out.symm, setCell_heap_same (i := j) (v := .int .u64 fv) FS.out, Array.setIfInBounds_setIfInBounds]
  ·obtain rfl : j = 8 := by omega
   obtain ⟨pj, hpj⟩ : ∃ pj : Nat, (pj : Int) = pl := ⟨pl.toNat, by omega⟩
   have hpj8 : pj < 8 := by omega
   have hrw := HOk.out.wide
   have hrun : ∀ w1, Calls Tryz.prog 111 #[.agg #[.int .u64 (upF (grpF N last) 8 0), .int .u64 (upF (grpF N last) 8 1), .int .u64 (upF (grpF N last) 8 2), .int .u64 (upF (grpF N last) 8 3), .int .u64 (upF (grpF N last) 8 4), .int .u64 (upF (grpF N last) 8 5), .int .u64 (upF (grpF N last) 8 6), .int .u64 (upF (grpF N last) 8 7), .int .i64 pl, .bool g0, .bool g1, .bool g2, .int .i64 16, .bool un]] w1 fun e w' => e = .returned (runF (grpF N last) pl 16 (g0, g1, g2) un (grpF N last pj)).val ∧ Ext w1 w' := fun w1 => by
    have := rrun_c (upF (grpF N last) 8) pj 16 (g0, g1, g2) un w1 hpj8 (fun i hi => by rw [upF_all _ i hi]; exact hrw _) (by omega) (by omega)
    rw [runF_congr (g := grpF N last) (fun i hi => upF_all _ i hi), upF_all _ pj hpj8, hpj] at this
    exact this
   have HRun := Lib.hid hrun
   have hkl : keepL up a 1 fr (g0, g1, g2) last N un uk0 r L = smallL up a (runF (grpF N last) pl 16 (g0, g1, g2) un (grpF N last pj)) uk0 r L := by
    unfold keepL; rw [if_neg (by omega), HPL.out, show pl.toNat = pj by omega, hpj]
   obtain ⟨RL, hRL⟩ : ∃ RL, runF (grpF N last) pl 16 (g0, g1, g2) un (grpF N last pj) = RL := ⟨_, rfl⟩
   rw [hRL] at HRun hkl
   obtain ⟨L2, hL2⟩ : ∃ L2, smallL up a RL uk0 r L = L2 := ⟨_, rfl⟩
   have HL2 : Hid (keepL up a 1 fr (g0, g1, g2) last N un uk0 r L = L2) := Lib.hid (by rw [hkl, hL2])
   have HL2r : Hid (L2.length ≤ r) := Lib.hid (by rw [← hL2]; unfold smallL; split; exact HRm.out.1; exact putC_len HRm.out.1)
   have hSm := fun w1 h1' => refSmall_c L (.slice la l lc) r up a RL uk0 w1 h1' HRm.out.1 HRm.out.2 h0 h1 HUk.out.1 HUk.out.2
   rw [hL2] at hSm
   have HSm := Lib.hid hSm
   obtain ⟨T2, hT2⟩ : ∃ T2, T ++ keepT 1 last = T2 := ⟨_, rfl⟩
   have HT2 := Lib.hid hT2
   have hT2' : T ++ grpT last 8 = T2 := by rw [← hT2]; unfold keepT; rw [if_neg (by omega)]
   rw [hT2'] at HM RT
   have HT2l : Hid (T2.length = m) := Lib.hid HM.out.symm
   clear hrun hrw hkl hRL hL2 hSm hT2 hT2' hpj hpj8
   have hRE : Ext w wr := Keeps.to_ext XE.out RK.out (by intro y hy; simp at hy; omega)
   have RE := Lib.hid hRE
   have R1 := Lib.hid (RK.out.blk X1.out (by simp; omega))
   have R5 := Lib.hid (RK.out.blk X5.out (by simp; omega))
   have RR : Hid (RpAt wr pa2 pc2 D) := Lib.hid fun j j0 j1 => ⟨(XR.out j j0 j1).1.keep fun g hg => by
    obtain ⟨c, hc⟩ := (XR.out j j0 j1).1.heap g hg
    refine RK.out.block _ (heap_lt hc) ?_
    have h1 : g ≠ vb := fun e => by rw [e, X0.out] at hc; simp only [Option.some.injEq, Obj.cells.injEq] at hc; exact absurd hc.2.1 (by decide)
    have h2 : g ≠ sn := fun e => by rw [e, XS.out] at hc; simp only [Option.some.injEq, Obj.cells.injEq] at hc; exact absurd hc.2.1 (by decide)
    simp [h1, h2], (XR.out j j0 j1).2⟩
   clear hRE
   have x3 := (heap_cell R0.out 3).trans rfl
   have x4 := (heap_cell R0.out 4).trans rfl
   have xl := heap_lt R0.out
   have y0 := (heap_cell R1.out 0).trans rfl
   have y1 := (heap_cell R1.out 1).trans rfl
   have yl := heap_lt R1.out
   have s0 := (heap_cell RS.out 0).trans rfl
   have s1 := (heap_cell RS.out 1).trans rfl
   have s2 := (heap_cell RS.out 2).trans rfl
   have s3 := (heap_cell RS.out 3).trans rfl
   have s4 := (heap_cell RS.out 4).trans rfl
   have s5 := (heap_cell RS.out 5).trans rfl
   have s6 := (heap_cell RS.out 6).trans rfl
   have s7 := (heap_cell RS.out 7).trans rfl
   have s8 := (heap_cell RS.out 8).trans rfl
   have s9 := (heap_cell RS.out 9).trans rfl
   have s10 := (heap_cell RS.out 10).trans rfl
   have s11 := (heap_cell RS.out 11).trans rfl
   have s12 := (heap_cell RS.out 12).trans rfl
   have s13 := (heap_cell RS.out 13).trans rfl
   have sl := heap_lt RS.out
   go_upto_region 18 with (fail)
   refine region_mixG [.q [0, 1, 2, 3, 4, 5, 6, 8, 9, 10], .l 7 3, .l 11 3, .b [12, 13], .l 14 2] (by kernel_rfl) (by kernel_rfl) ?_
   (try refine ⟨fun h => absurd h (by simp), ?_⟩); (repeat (unfold wpPlan; simp only [pickL, List.map_cons, List.map_nil, List.getD_cons_succ, List.getD_cons_zero]; (repeat go_big_quiet_step (fail)); refine wpQuiet_nil ?_)); unfold wpPlan; intro u1 hu1; (try simp only [pickL, List.map_cons, List.map_nil, List.getD_cons_succ, List.getD_cons_zero])
   go_wp2_with (first | (go_at_call 111; refine (HRun.out _).mono ?_; rintro e u2 ⟨rfl, hu2⟩))
   refine ⟨?_, ?_⟩
   ·(try intro _); exact hu1.trans hu2
   have E2 := Lib.hid (hu1.trans hu2)
   clear hu1 hu2 x3 x4 xl y0 y1 yl s0 s1 s2 s3 s4 s5 s6 s7 s8 s9 s10 s11 s12 s13 sl
   (try refine ⟨fun h => absurd h (by simp), ?_⟩); (repeat (unfold wpPlan; simp only [pickL, List.map_cons, List.map_nil, List.getD_cons_succ, List.getD_cons_zero]; (repeat go_big_quiet_step (fail)); refine wpQuiet_nil ?_)); unfold wpPlan; intro u3 hu3; (try simp only [pickL, List.map_cons, List.map_nil, List.getD_cons_succ, List.getD_cons_zero])
   go_wp2_with (first | (go_at_call 110; refine (HSm.out _ (by have := HLn.out.ext (RE.out.trans (E2.out.trans hu3)); rw [HN.out.2.2.1] at this; exact this)).mono ?_; rintro e u4 hEB; obtain ⟨la2, lc2, rfl, hL3, hu4⟩ := hEB.form))
   refine ⟨?_, ?_⟩
   ·(try intro _); exact hu3.trans hu4
   have E4 := Lib.hid (E2.out.trans (hu3.trans hu4))
   have L4 := Lib.hid hL3
   clear hu3 hu4 hL3 hEB
   (try refine ⟨fun h => absurd h (by simp), ?_⟩); (repeat (unfold wpPlan; simp only [pickL, List.map_cons, List.map_nil, List.getD_cons_succ, List.getD_cons_zero]; (repeat go_big_quiet_step (fail)); refine wpQuiet_nil ?_)); unfold wpPlan; intro u5 hu5; (try simp only [pickL, List.map_cons, List.map_nil, List.getD_cons_succ, List.getD_cons_zero])
   have E5 := Lib.hid (E4.out.trans hu5)
   have L5 := Lib.hid (L4.out.ext hu5)
   have B0 := Lib.hid ((E5.out.block _ (heap_lt R0.out)).trans R0.out)
   have B5 := Lib.hid ((E5.out.block _ (heap_lt R5.out)).trans R5.out)
   clear hu5
   have d3 := (heap_cell B0.out 3).trans rfl
   have d4 := (heap_cell B0.out 4).trans rfl
   have df := frozen_of B0.out
   have dl := heap_lt B0.out
   go_wp2
   (try refine ⟨fun h => absurd h (by simp), ?_⟩); (repeat (unfold wpPlan; simp only [pickL, List.map_cons, List.map_nil, List.getD_cons_succ, List.getD_cons_zero]; (repeat go_big_quiet_step (fail)); refine wpQuiet_nil ?_)); unfold wpPlan; intro Z hZ; (try simp only [pickL, List.map_cons, List.map_nil, List.getD_cons_succ, List.getD_cons_zero])
   obtain ⟨l2, hl2⟩ : ∃ l2, L2.length = l2 := ⟨_, rfl⟩
   have HL2l := Lib.hid hl2
   have Z0 : Hid (Z.heap[vb]? = some (.cells #[.int .i64 16, .slice sa n sc, .slice tb m td, .slice la2 l2 lc2, .int .i64 r, .slice (pa2 4) (D 4).length (pc2 4), .int .i64 q, .slice (pa2 3) (D 3).length (pc2 3), .int .i64 q, .slice (pa2 2) (D 2).length (pc2 2), .int .i64 q] 60 (0, 0))) := Lib.hid (by rw [← hl2]; exact (hZ.block vb (by simp only [World.size_setCell]; exact heap_lt B0.out)).trans (tlb2_heap B0.out))
   have Z5 : Hid (Z.heap[vb + 1 + 1 + 1 + 1 + 1]? = some (.cells #[.int .i64 0, .slice none 0 0, .slice none 0 0, .slice none 0 0, .int .i64 0, .slice none 0 0, .int .i64 0, .slice none 0 0, .int .i64 0, .slice none 0 0, .int .i64 0] 60 (0, 0))) := Lib.hid ((hZ.block _ (by simp only [World.size_setCell]; exact heap_lt B5.out)).trans ((tlb2_other (by omega)).trans B5.out))
   have ZE : Hid (Ext w Z) := Lib.hid ((tlb2_ext (RE.out.trans E5.out) hwv).trans hZ)
   have ZR : Hid (RpAt Z pa2 pc2 D) := Lib.hid (((RR.out.ext E5.out).other B0.out (by decide) fun g hg => tlb2_other hg).ext hZ)
   have ZL : Hid (RefAt Z (.slice la2 l2 lc2) L2) := Lib.hid (by rw [← hl2]; exact (L5.out.other B0.out (by decide) fun g hg => tlb2_other hg).ext hZ)
   have ZT : Hid (TrAt Z tb td T2) := Lib.hid (TrAt.ext (Owns.keep (TrAt.ext RT.out E5.out) fun g hg => tlb2_other (Owns.ne (TrAt.ext RT.out E5.out) B0.out (by decide) g hg)) hZ)
   (try rw [hl2])
   clear hZ hl2 d3 d4 df dl
   have x0 := (heap_cell Z0.out 0).trans rfl
   have x1 := (heap_cell Z0.out 1).trans rfl
   have x2 := (heap_cell Z0.out 2).trans rfl
   have x3 := (heap_cell Z0.out 3).trans rfl
   have x4 := (heap_cell Z0.out 4).trans rfl
   have x5 := (heap_cell Z0.out 5).trans rfl
   have x6 := (heap_cell Z0.out 6).trans rfl
   have x7 := (heap_cell Z0.out 7).trans rfl
   have x8 := (heap_cell Z0.out 8).trans rfl
   have x9 := (heap_cell Z0.out 9).trans rfl
   have x10 := (heap_cell Z0.out 10).trans rfl
   have xl := heap_lt Z0.out
   have y0 := (heap_cell Z5.out 0).trans rfl
   have y1 := (heap_cell Z5.out 1).trans rfl
   have y2 := (heap_cell Z5.out 2).trans rfl
   have y3 := (heap_cell Z5.out 3).trans rfl
   have y4 := (heap_cell Z5.out 4).trans rfl
   have y5 := (heap_cell Z5.out 5).trans rfl
   have y6 := (heap_cell Z5.out 6).trans rfl
   have y7 := (heap_cell Z5.out 7).trans rfl
   have y8 := (heap_cell Z5.out 8).trans rfl
   have y9 := (heap_cell Z5.out 9).trans rfl
   have y10 := (heap_cell Z5.out 10).trans rfl
   have yf := frozen_of Z5.out
   have yl := heap_lt Z5.out
   go_wp2
   refine post_gen (fun Q => Q.heap[vb + 1 + 1 + 1 + 1 + 1]? = some (.cells #[.int .i64 16, .slice sa n sc, .slice tb m td, .slice la2 l2 lc2, .int .i64 r, .slice (pa2 4) (D 4).length (pc2 4), .int .i64 q, .slice (pa2 3) (D 3).length (pc2 3), .int .i64 q, .slice (pa2 2) (D 2).length (pc2 2), .int .i64 q] 60 (0, 0)) ∧ TrAt Q tb td T2 ∧ RefAt Q (.slice la2 l2 lc2) L2 ∧ RpAt Q pa2 pc2 D ∧ Ext w Q) ⟨store11_heap Z5.out, Owns.keep ZT.out fun g hg => store11_other (Owns.ne ZT.out Z5.out (by decide) g hg), ZL.out.other Z5.out (by decide) fun g hg => store11_other hg, ZR.out.other Z5.out (by decide) fun g hg => store11_other hg, ext11 ZE.out (by omega)⟩ ?_
   clear x0 y0 x1 y1 x2 y2 x3 y3 x4 y4 x5 y5 x6 y6 x7 y7 x8 y8 x9 y9 x10 y10 yf yl
   rintro Q ⟨m5, q1, q2, q3, q4⟩
   have v0 := (heap_cell m5 0).trans rfl
   have v1 := (heap_cell m5 1).trans rfl
   have v2 := (heap_cell m5 2).trans rfl
   have v3 := (heap_cell m5 3).trans rfl
   have v4 := (heap_cell m5 4).trans rfl
   have v5 := (heap_cell m5 5).trans rfl
   have v6 := (heap_cell m5 6).trans rfl
   have v7 := (heap_cell m5 7).trans rfl
   have v8 := (heap_cell m5 8).trans rfl
   have v9 := (heap_cell m5 9).trans rfl
   have v10 := (heap_cell m5 10).trans rfl
   have Q1 := Lib.hid q1
   have Q2 := Lib.hid q2
   have Q3 := Lib.hid q3
   have Q4 := Lib.hid q4
   clear m5 q1 q2 q3 q4
   refine bodyPost_ret (by simp [results, Tryz.results74, go_sem, ↓IntWalk.iteOmega, *]; try rfl) rfl (by
    rw [← HE.out, HT2.out, HL2.out]
    refine ⟨⟨sa, sc, tb, td, la2, lc2, pa2, pc2⟩, ?_, ⟨SAt.ext HSl.out Q4.out, Q1.out, ?_, Q3.out, HOk.out, ⟨HL2r.out, HRm.out.2⟩, ⟨HDl.out, HQ64.out⟩⟩, Q4.out, RF.out⟩
    ·unfold stV stC; dsimp only; rw [HN.out.1]; rw [HT2l.out, HL2l.out]
    ·rw [HL2l.out]; exact Q2.out)
end Go.Proofs.YtkfonacokamfiaaGreat
