/- Joined texts, part 48 of what the law stands on: each as its own head says. -/
import Derived.Test.YtkfonacokamfiaaGreatGoz47
import Derived.Test.YtkfonacokamfiaaGreatGoz31
/- The document's quick translation: what it keeps of a walk to a great page. Printed by mkoptu.py. Own text. -/
namespace Go.Proofs.YtkfonacokamfiaaGreat
set_option linter.unusedVariables false
set_option linter.unusedSimpArgs false
open Go.RowKit
attribute [local go_sem] wext_cell wext_frozen wext_heap alloc_cell alloc_frozen alloc_heap setCell_cell objCell_cells objFrozen_cells
theorem psc6_heap {w : World} {b : Nat} {c0 c1 c2 c3 c4 c5 c6 c7 c8 c9 c10 v0 v1 v2 v3 v4 v5 : Value} {e : TypeId} {f : Nat × Nat} (h : w.heap[b]? = some (.cells #[c0, c1, c2, c3, c4, c5, c6, c7, c8, c9, c10] e f)) :
  ((((((w.setCell ⟨b, 5, none⟩ v0).setCell ⟨b, 6, none⟩ v1).setCell ⟨b, 7, none⟩ v2).setCell ⟨b, 8, none⟩ v3).setCell ⟨b, 9, none⟩ v4).setCell ⟨b, 10, none⟩ v5).heap[b]? = some (.cells #[c0, c1, c2, c3, c4, v0, v1, v2, v3, v4, v5] e f) := by
 have h0 : (w.setCell ⟨b, 5, none⟩ v0).heap[b]? = some (.cells #[c0, c1, c2, c3, c4, v0, c6, c7, c8, c9, c10] e f) := setCell_heap_same h
 have h1 : ((w.setCell ⟨b, 5, none⟩ v0).setCell ⟨b, 6, none⟩ v1).heap[b]? = some (.cells #[c0, c1, c2, c3, c4, v0, v1, c7, c8, c9, c10] e f) := setCell_heap_same h0
 have h2 : (((w.setCell ⟨b, 5, none⟩ v0).setCell ⟨b, 6, none⟩ v1).setCell ⟨b, 7, none⟩ v2).heap[b]? = some (.cells #[c0, c1, c2, c3, c4, v0, v1, v2, c8, c9, c10] e f) := setCell_heap_same h1
 have h3 : ((((w.setCell ⟨b, 5, none⟩ v0).setCell ⟨b, 6, none⟩ v1).setCell ⟨b, 7, none⟩ v2).setCell ⟨b, 8, none⟩ v3).heap[b]? = some (.cells #[c0, c1, c2, c3, c4, v0, v1, v2, v3, c9, c10] e f) := setCell_heap_same h2
 have h4 : (((((w.setCell ⟨b, 5, none⟩ v0).setCell ⟨b, 6, none⟩ v1).setCell ⟨b, 7, none⟩ v2).setCell ⟨b, 8, none⟩ v3).setCell ⟨b, 9, none⟩ v4).heap[b]? = some (.cells #[c0, c1, c2, c3, c4, v0, v1, v2, v3, v4, c10] e f) := setCell_heap_same h3
 have h5 : ((((((w.setCell ⟨b, 5, none⟩ v0).setCell ⟨b, 6, none⟩ v1).setCell ⟨b, 7, none⟩ v2).setCell ⟨b, 8, none⟩ v3).setCell ⟨b, 9, none⟩ v4).setCell ⟨b, 10, none⟩ v5).heap[b]? = some (.cells #[c0, c1, c2, c3, c4, v0, v1, v2, v3, v4, v5] e f) := setCell_heap_same h4
 exact h5
theorem psc6_other {w : World} {b b' : Nat} {v0 v1 v2 v3 v4 v5 : Value} (h : b ≠ b') : ((((((w.setCell ⟨b, 5, none⟩ v0).setCell ⟨b, 6, none⟩ v1).setCell ⟨b, 7, none⟩ v2).setCell ⟨b, 8, none⟩ v3).setCell ⟨b, 9, none⟩ v4).setCell ⟨b, 10, none⟩ v5).heap[b']? = w.heap[b']? := by
 rw [setCell_heap _ _ _ _ _ h, setCell_heap _ _ _ _ _ h, setCell_heap _ _ _ _ _ h, setCell_heap _ _ _ _ _ h, setCell_heap _ _ _ _ _ h, setCell_heap _ _ _ _ _ h]
theorem psc6_ext {a w : World} {b : Nat} {v0 v1 v2 v3 v4 v5 : Value} (h : Ext a w) (hb : a.heap.size ≤ b) : Ext a ((((((w.setCell ⟨b, 5, none⟩ v0).setCell ⟨b, 6, none⟩ v1).setCell ⟨b, 7, none⟩ v2).setCell ⟨b, 8, none⟩ v3).setCell ⟨b, 9, none⟩ v4).setCell ⟨b, 10, none⟩ v5) := by
 have h0 : Ext a (w.setCell ⟨b, 5, none⟩ v0) := Ext.setCell h hb _
 have h1 : Ext a ((w.setCell ⟨b, 5, none⟩ v0).setCell ⟨b, 6, none⟩ v1) := Ext.setCell h0 hb _
 have h2 : Ext a (((w.setCell ⟨b, 5, none⟩ v0).setCell ⟨b, 6, none⟩ v1).setCell ⟨b, 7, none⟩ v2) := Ext.setCell h1 hb _
 have h3 : Ext a ((((w.setCell ⟨b, 5, none⟩ v0).setCell ⟨b, 6, none⟩ v1).setCell ⟨b, 7, none⟩ v2).setCell ⟨b, 8, none⟩ v3) := Ext.setCell h2 hb _
 have h4 : Ext a (((((w.setCell ⟨b, 5, none⟩ v0).setCell ⟨b, 6, none⟩ v1).setCell ⟨b, 7, none⟩ v2).setCell ⟨b, 8, none⟩ v3).setCell ⟨b, 9, none⟩ v4) := Ext.setCell h3 hb _
 have h5 : Ext a ((((((w.setCell ⟨b, 5, none⟩ v0).setCell ⟨b, 6, none⟩ v1).setCell ⟨b, 7, none⟩ v2).setCell ⟨b, 8, none⟩ v3).setCell ⟨b, 9, none⟩ v4).setCell ⟨b, 10, none⟩ v5) := Ext.setCell h4 hb _
 exact h5
theorem tlb2_heap {w : World} {b : Nat} {c0 c1 c2 c3 c4 c5 c6 c7 c8 c9 c10 v0 v1 : Value} {e : TypeId} {f : Nat × Nat} (h : w.heap[b]? = some (.cells #[c0, c1, c2, c3, c4, c5, c6, c7, c8, c9, c10] e f)) :
  ((w.setCell ⟨b, 3, none⟩ v0).setCell ⟨b, 4, none⟩ v1).heap[b]? = some (.cells #[c0, c1, c2, v0, v1, c5, c6, c7, c8, c9, c10] e f) := by
 have h0 : (w.setCell ⟨b, 3, none⟩ v0).heap[b]? = some (.cells #[c0, c1, c2, v0, c4, c5, c6, c7, c8, c9, c10] e f) := setCell_heap_same h
 have h1 : ((w.setCell ⟨b, 3, none⟩ v0).setCell ⟨b, 4, none⟩ v1).heap[b]? = some (.cells #[c0, c1, c2, v0, v1, c5, c6, c7, c8, c9, c10] e f) := setCell_heap_same h0
 exact h1
theorem tlb2_other {w : World} {b b' : Nat} {v0 v1 : Value} (h : b ≠ b') : ((w.setCell ⟨b, 3, none⟩ v0).setCell ⟨b, 4, none⟩ v1).heap[b']? = w.heap[b']? := by
 rw [setCell_heap _ _ _ _ _ h, setCell_heap _ _ _ _ _ h]
theorem tlb2_ext {a w : World} {b : Nat} {v0 v1 : Value} (h : Ext a w) (hb : a.heap.size ≤ b) : Ext a ((w.setCell ⟨b, 3, none⟩ v0).setCell ⟨b, 4, none⟩ v1) := by
 have h0 : Ext a (w.setCell ⟨b, 3, none⟩ v0) := Ext.setCell h hb _
 have h1 : Ext a ((w.setCell ⟨b, 3, none⟩ v0).setCell ⟨b, 4, none⟩ v1) := Ext.setCell h0 hb _
 exact h1
def REndKept (h : SPh) (S : List (Int × Int)) (N : Int → Int) (T : List Int) (L : Lines) (r : Nat) (C : Int → Lines) (q : Nat) (w : World) (e : Ending) (w' : World) : Prop :=
 ∃ h', e = .returned (.agg (stV h' S T L r C q)) ∧ StAt w' h' S N T L r C q ∧ Ext w w' ∧ FreshT w h.ta h'.ta
theorem RefAt.other {w w' : World} {v : Value} {L : Lines} (h : RefAt w v L) {b : Nat} {cs : Array Value} {t : TypeId} (hb : w.heap[b]? = some (.cells cs t (0, 0))) (ht : t ≠ 227) (hk : ∀ g, b ≠ g → w'.heap[g]? = w.heap[g]?) : RefAt w' v L :=
 ⟨h.1.keep fun g hg => hk g (Owns.ne h.1 hb (fun e => ht e.symm) g hg), h.2⟩
theorem RpAt.other {w w' : World} {sa : Int → Option Addr} {sc : Int → Nat} {C : Int → Lines} (h : RpAt w sa sc C) {b : Nat} {cs : Array Value} {t : TypeId} (hb : w.heap[b]? = some (.cells cs t (0, 0))) (ht : t ≠ 227) (hk : ∀ g, b ≠ g → w'.heap[g]? = w.heap[g]?) : RpAt w' sa sc C := fun l l0 l1 => (h l l0 l1).other hb ht hk
theorem fillF_len {p a : Int} {pk : Int → Int} {q : Nat} : ∀ (L : List Stp) (rt : Rt) (C : Int → Lines), (∀ l, 2 ≤ l → l ≤ 4 → (C l).length ≤ q) → ∀ l, 2 ≤ l → l ≤ 4 → (fillF p a pk q L rt C l).length ≤ q
 | [], _, _, h => h
 | s :: t, rt, C, h => by
  unfold fillF
  split
  ·exact h
  ·split
   ·refine fillF_len t _ _ fun l l0 l1 => ?_
    by_cases hl : l = s.1
    ·subst hl; rw [upd_same]; exact putC_len (h _ l0 l1)
    ·rw [upd_other _ _ hl]; exact h l l0 l1
   ·exact h
set_option maxHeartbeats 4000000 in
set_option maxRecDepth 100000 in
theorem rkeptGreat_c (h : SPh) (S : List (Int × Int)) (N : Int → Int) (T : List Int) (L : Lines) (r : Nat) (C : Int → Lines) (q : Nat) (u : Who) (kd a : Int) (us ac wp sp sm : Bool) (P : List Stp) (za : Option Addr) (zc : Nat) (why : Int) (rr rt : Rt) (lv fr pn pt last : Int) (w : World)
  (H : StAt w h S N T L r C q) (hP : StepsAt w za P) (hK : KeepOk P last) (hu : u.ok) (hSl : S.length ≤ 1000000) (hTl : T.length ≤ 900000) (h0 : 0 ≤ a) (h1 : a ≤ 18446744073709551615) (hlv0 : 1 < lv) (hlv1 : lv ≤ 3) :
  Calls Tryz.prog 74 #[.agg (stV h S T L r C q), whoV u, useV u kd us ac wp sp sm, .int .u64 a, .agg #[.slice za P.length zc, .int .i64 why, .bool rr.1, .bool rr.2.1, .bool rr.2.2, .int .i64 lv, .int .u64 fr], .agg #[.int .i64 pn, .int .u64 pt, .bool rt.1, .bool rt.2.1, .bool rt.2.2]] w
   (REndKept h S N (T ++ keepT lv last) (keepL u.p a lv fr rr last N u.nxe u.k0 r L) r (fillF u.p a (pkF u.k1 u.k2 u.k3) q P rt C) q w) := by
 have HH := Lib.hid H
 have HP := Lib.hid hP
 have HU := Lib.hid hu
 have ⟨⟨pl0, pl1⟩, hst, hend, hl0, hl1, hl8⟩ := hK
 have HEnd := Lib.hid hend
 have HFl := Lib.hid (fun w1 (k : Ext w w1) => rFill_c h.pa h.pc C q u.p a P za zc why rr lv fr pn pt rt u.k1 u.k2 u.k3 w1 (H.psc.ext k) H.rooms.1 H.rooms.2 (hP.ext k) (by omega) (fun i hi => (hst i hi).2) h0 h1 hu.2.1)
 have her := err16 (s := last) hl1 hl8
 have hpk := fun w1 (k : SAt w1 h.sa h.sc S) => rPeek_c 16 (by omega) h.sa h.ta S h.sc T.length h.tc last w1 k hSl hl0 (by omega)
 rw [if_pos her, her, H.ok.agree last hl0 her] at hpk
 have HPk := Lib.hid hpk
 have ⟨xa, xb⟩ := H.ok.wide (last / 8)
 obtain ⟨D, hD⟩ : ∃ D, fillF u.p a (pkF u.k1 u.k2 u.k3) q P rt C = D := ⟨_, rfl⟩
 have hDl : ∀ l, 2 ≤ l → l ≤ 4 → (D l).length ≤ q := fun l l0 l1 => by rw [← hD]; exact fillF_len P rt C H.rooms.1 l l0 l1
 rw [hD] at HFl ⊢
 have HDl := Lib.hid hDl
 have HSl := Lib.hid H.slots
 have HTr := Lib.hid H.trace
 have HLn := Lib.hid H.lines
 have HOk := Lib.hid H.ok
 have HRm := Lib.hid H.room
 have HQ64 := Lib.hid H.rooms.2
 clear hK hst hend her hpk hD hDl H HH hP
 generalize hE : REndKept h S N (T ++ keepT lv last) (keepL u.p a lv fr rr last N u.nxe u.k0 r L) r D q w = E
 have HE := Lib.hid hE
 clear hE
 obtain ⟨sa, sc, ta, tc, la, lc, pa, pc⟩ := h
 obtain ⟨up, uk0, uk1, uk2, uk3, ur, un⟩ := u
 obtain ⟨g0, g1, g2⟩ := rr
 obtain ⟨t0, t1, t2⟩ := rt
 unfold EndRp at HFl
 unfold stV stC whoV useV
 dsimp only at HFl HSl HTr HLn HPk HE ⊢
 obtain ⟨n, hn⟩ : ∃ n, S.length = n := ⟨_, rfl⟩
 obtain ⟨k, hk⟩ : ∃ k, T.length = k := ⟨_, rfl⟩
 obtain ⟨l, hl⟩ : ∃ l, L.length = l := ⟨_, rfl⟩
 obtain ⟨zn, hzn⟩ : ∃ zn, P.length = zn := ⟨_, rfl⟩
 rw [hn, hk] at HPk
 rw [hzn] at HFl
 rw [hn, hk, hl, hzn]
 have HN := Lib.hid (And.intro hn (And.intro hk (And.intro hl hzn)))
 have hz0 : 1 ≤ zn := by omega
 have hz1 : zn ≤ 4 := by omega
 clear hn hk hl hzn
 obtain ⟨o4, ho4⟩ : ∃ o4, (C 4).length = o4 := ⟨_, rfl⟩
 obtain ⟨o3, ho3⟩ : ∃ o3, (C 3).length = o3 := ⟨_, rfl⟩
 obtain ⟨o2, ho2⟩ : ∃ o2, (C 2).length = o2 := ⟨_, rfl⟩
 rw [ho4, ho3, ho2] at HFl
 rw [ho4, ho3, ho2]
 clear ho4 ho3 ho2
 generalize pa 4 = a4 at HFl ⊢
 generalize pa 3 = a3 at HFl ⊢
 generalize pa 2 = a2 at HFl ⊢
 generalize pc 4 = c4 at HFl ⊢
 generalize pc 3 = c3 at HFl ⊢
 generalize pc 2 = c2 at HFl ⊢
 obtain ⟨x, hx⟩ : ∃ x, N (last / 8) = x := ⟨_, rfl⟩
 rw [hx] at HPk xa xb
 have HX := Lib.hid hx
 clear hx
 go_enter Tryz.func74, Tryz.ntmps74
 go_upto_region 1 with (fail)
 refine wp_gen ?_; intro V hV
 have hVE : Ext w V := by rw [hV]; exact (by repeat (first | exact Ext.refl _ | assumption | refine Ext.alloc ?_ _ | refine Ext.drew ?_ | refine Ext.setCell ?_ (by first | (simp; done) | (dsimp only; omega)) _ | refine Ext.trans ?_ (by assumption)))
 have hV0 : V.heap[w.heap.size]? = some (.cells #[.int .i64 16, .slice sa n sc, .slice ta k tc, .slice la l lc, .int .i64 r, .slice a4 o4 c4, .int .i64 q, .slice a3 o3 c3, .int .i64 q, .slice a2 o2 c2, .int .i64 q] 60 (0, 0)) := by rw [hV]; exact (alloc_other _ _ (by first | (simp; done) | (simp; omega))).trans ((alloc_other _ _ (by first | (simp; done) | (simp; omega))).trans ((alloc_other _ _ (by first | (simp; done) | (simp; omega))).trans ((alloc_other _ _ (by first | (simp; done) | (simp; omega))).trans ((alloc_other _ _ (by first | (simp; done) | (simp; omega))).trans (alloc_same ..)))))
 have hV1 : V.heap[w.heap.size + 1]? = some (.cells #[.int .i64 up, .int .i64 uk0, .int .i64 uk1, .int .i64 uk2, .int .i64 uk3] 69 (0, 0)) := by rw [hV]; exact (alloc_other _ _ (by first | (simp; done) | (simp; omega))).trans ((alloc_other _ _ (by first | (simp; done) | (simp; omega))).trans ((alloc_other _ _ (by first | (simp; done) | (simp; omega))).trans ((alloc_other _ _ (by first | (simp; done) | (simp; omega))).trans (alloc_same1 ..))))
 have hV2 : V.heap[w.heap.size + 1 + 1]? = some (.cells #[.int .u64 ur, .int .i64 kd, .bool us, .bool ac, .bool wp, .bool un, .bool sp, .bool sm] 47 (0, 0)) := by rw [hV]; exact (alloc_other _ _ (by first | (simp; done) | (simp; omega))).trans ((alloc_other _ _ (by first | (simp; done) | (simp; omega))).trans ((alloc_other _ _ (by first | (simp; done) | (simp; omega))).trans (alloc_same2 ..)))
 have hV3 : V.heap[w.heap.size + 1 + 1 + 1]? = some (.cells #[.slice za zn zc, .int .i64 why, .bool g0, .bool g1, .bool g2, .int .i64 lv, .int .u64 fr] 103 (0, 0)) := by rw [hV]; exact (alloc_other _ _ (by first | (simp; done) | (simp; omega))).trans ((alloc_other _ _ (by first | (simp; done) | (simp; omega))).trans (alloc_same3 ..))
 have hV4 : V.heap[w.heap.size + 1 + 1 + 1 + 1]? = some (.cells #[.int .i64 pn, .int .u64 pt, .bool t0, .bool t1, .bool t2] 107 (0, 0)) := by rw [hV]; exact (alloc_other _ _ (by first | (simp; done) | (simp; omega))).trans (alloc_same4 ..)
 have hV5 : V.heap[w.heap.size + 1 + 1 + 1 + 1 + 1]? = some (.cells #[.int .i64 0, .slice none 0 0, .slice none 0 0, .slice none 0 0, .int .i64 0, .slice none 0 0, .int .i64 0, .slice none 0 0, .int .i64 0, .slice none 0 0, .int .i64 0] 60 (0, 0)) := by rw [hV]; exact alloc_same5 ..
 obtain ⟨vb, hvb⟩ : ∃ vb, w.heap.size = vb := ⟨_, rfl⟩
 rw [hvb] at hV0 hV1 hV2 hV3 hV4 hV5 ⊢
 have hwv : w.heap.size ≤ vb := by omega
 have VE := Lib.hid hVE
 have V0 := Lib.hid hV0
 have V1 := Lib.hid hV1
 have V2 := Lib.hid hV2
 have V3 := Lib.hid hV3
 have V4 := Lib.hid hV4
 have V5 := Lib.hid hV5
 have x0 := (heap_cell hV0 0).trans rfl
 have x1 := (heap_cell hV0 1).trans rfl
 have x2 := (heap_cell hV0 2).trans rfl
 have x3 := (heap_cell hV0 3).trans rfl
 have x4 := (heap_cell hV0 4).trans rfl
 have x5 := (heap_cell hV0 5).trans rfl
 have x6 := (heap_cell hV0 6).trans rfl
 have x7 := (heap_cell hV0 7).trans rfl
 have x8 := (heap_cell hV0 8).trans rfl
 have x9 := (heap_cell hV0 9).trans rfl
 have x10 := (heap_cell hV0 10).trans rfl
 have xl := heap_lt hV0
 have xf := frozen_of hV0
 have y0 := (heap_cell hV1 0).trans rfl
 have y1 := (heap_cell hV1 1).trans rfl
 have y2 := (heap_cell hV1 2).trans rfl
 have y3 := (heap_cell hV1 3).trans rfl
 have y4 := (heap_cell hV1 4).trans rfl
 have yl := heap_lt hV1
 have z0 := (heap_cell hV3 0).trans rfl
 have z1 := (heap_cell hV3 1).trans rfl
 have z2 := (heap_cell hV3 2).trans rfl
 have z3 := (heap_cell hV3 3).trans rfl
 have z4 := (heap_cell hV3 4).trans rfl
 have z5 := (heap_cell hV3 5).trans rfl
 have z6 := (heap_cell hV3 6).trans rfl
 have zl := heap_lt hV3
 have p0 := (heap_cell hV4 0).trans rfl
 have p1 := (heap_cell hV4 1).trans rfl
 have p2 := (heap_cell hV4 2).trans rfl
 have p3 := (heap_cell hV4 3).trans rfl
 have p4 := (heap_cell hV4 4).trans rfl
 have pl := heap_lt hV4
 clear hV hVE hV0 hV1 hV2 hV3 hV4 hV5 hvb
 go_upto_region 2 with (first | (go_at_call 107; refine (HFl.out _ VE.out).mono ?_; rintro e w1 ⟨pa2, pc2, rfl, hR1, hb1⟩; have B1 := (hb1.block _ (heap_lt V0.out)).trans V0.out; have d5 := (heap_cell B1 5).trans rfl; have d6 := (heap_cell B1 6).trans rfl; have d7 := (heap_cell B1 7).trans rfl; have d8 := (heap_cell B1 8).trans rfl; have d9 := (heap_cell B1 9).trans rfl; have d10 := (heap_cell B1 10).trans rfl; have df := frozen_of B1; have dl := heap_lt B1))
 refine wp_gen ?_; intro W hW
 have W0 : Hid (W.heap[vb]? = some (.cells #[.int .i64 16, .slice sa n sc, .slice ta k tc, .slice la l lc, .int .i64 r, .slice (pa2 4) (D 4).length (pc2 4), .int .i64 q, .slice (pa2 3) (D 3).length (pc2 3), .int .i64 q, .slice (pa2 2) (D 2).length (pc2 2), .int .i64 q] 60 (0, 0))) := Lib.hid (by rw [hW]; exact psc6_heap B1)
 have hWo : ∀ b o, vb ≠ b → V.heap[b]? = some o → W.heap[b]? = some o := fun b o hne hb => by rw [hW]; exact (psc6_other hne).trans ((hb1.block _ (heap_lt hb)).trans hb)
 have W1 := Lib.hid (hWo _ _ (by omega) V1.out)
 have W2 := Lib.hid (hWo _ _ (by omega) V2.out)
 have W3 := Lib.hid (hWo _ _ (by omega) V3.out)
 have W5 := Lib.hid (hWo _ _ (by omega) V5.out)
 have WE : Hid (Ext w W) := Lib.hid (by rw [hW]; exact psc6_ext (VE.out.trans hb1) hwv)
 have WR : Hid (RpAt W pa2 pc2 D) := Lib.hid (by rw [hW]; exact hR1.other B1 (by decide) fun g hg => psc6_other hg)
 clear hW hWo B1 d5 d6 d7 d8 d9 d10 df dl hb1 hR1 x0 x1 x2 x3 x4 x5 x6 x7 x8 x9 x10 xl xf y0 y1 y2 y3 y4 yl z0 z1 z2 z3 z4 z5 z6 zl p0 p1 p2 p3 p4 pl
 obtain ⟨g, o, hza, hgl, i0, i1, i2⟩ := (HP.out.ext WE.out) (zn - 1) (by have := HN.out.2.2.2; omega)
 have hlast : (stpAt P (zn - 1)).2.1 = last := by have := HEnd.out; rw [HN.out.2.2.2] at this; exact this
 rw [hlast] at i1
 generalize (stpAt P (zn - 1)).1 = e0 at i0
 generalize (stpAt P (zn - 1)).2.2 = e2 at i2
 clear hlast
 subst hza
 have hzi : (zn : Int) - 1 = ((zn - 1 : Nat) : Int) := by omega
 obtain ⟨zi, hzi2⟩ : ∃ zi, zn - 1 = zi := ⟨_, rfl⟩
 rw [hzi2] at i0 i1 i2 hzi
 have hzlt : zi < zn := by omega
 clear hzi2
 have z0 := (heap_cell W3.out 0).trans rfl
 have zl := heap_lt W3.out
 go_upto_region 3 with (fail)
 refine wp_gen ?_; intro X hX
 have KX := Lib.hid (show Ext W X by rw [hX]; exact (by repeat (first | exact Ext.refl _ | assumption | refine Ext.alloc ?_ _ | refine Ext.drew ?_ | refine Ext.setCell ?_ (by first | (simp; done) | (dsimp only; omega)) _ | refine Ext.trans ?_ (by assumption))))
 have hXl : X.heap[W.heap.size]? = some (.cells #[.int .i64 e0, .int .u64 last, .int .u64 e2] 109 (0, 0)) := by rw [hX]; exact alloc_same ..
 obtain ⟨lb, hlb⟩ : ∃ lb, W.heap.size = lb := ⟨_, rfl⟩
 have hlv : vb + 1 + 1 + 1 + 1 + 1 < lb := by have := heap_lt W5.out; omega
 rw [hlb] at hXl ⊢
 have XL := Lib.hid hXl
 have X0 := Lib.hid ((KX.out.block _ (heap_lt W0.out)).trans W0.out)
 have X3 := Lib.hid ((KX.out.block _ (heap_lt W3.out)).trans W3.out)
 have XE := Lib.hid (WE.out.trans KX.out)
 clear hX hXl hlb i0 i1 i2 hgl z0 zl
 have l1' := (heap_cell XL.out 1).trans rfl
 have ll := heap_lt XL.out
 have x0 := (heap_cell X0.out 0).trans rfl
 have x1 := (heap_cell X0.out 1).trans rfl
 have x2 := (heap_cell X0.out 2).trans rfl
 have xl := heap_lt X0.out
 go_upto_region 4 with (first | (go_at_call 42; refine (HPk.out _ (SAt.ext HSl.out XE.out)).mono ?_; rintro e Y ⟨rfl, hY⟩))
 have KY := Lib.hid (KX.out.trans hY)
 have YE := Lib.hid (XE.out.trans hY)
 have YL := Lib.hid ((hY.block _ (heap_lt XL.out)).trans XL.out)
 have Y0 := Lib.hid ((hY.block _ (heap_lt X0.out)).trans X0.out)
 have Y1 := Lib.hid ((KY.out.block _ (heap_lt W1.out)).trans W1.out)
 have Y2 := Lib.hid ((KY.out.block _ (heap_lt W2.out)).trans W2.out)
 have Y3 := Lib.hid ((KY.out.block _ (heap_lt W3.out)).trans W3.out)
 have Y5 := Lib.hid ((KY.out.block _ (heap_lt W5.out)).trans W5.out)
 have YR := Lib.hid (WR.out.ext KY.out)
 have HUk := Lib.hid HU.out.1
 dsimp only at HUk
 clear hY KY KX W0 W1 W2 W3 W5 WE WR X0 X3 XE XL V0 V1 V2 V3 V4 V5 VE l1' ll x0 x1 x2 xl HFl HPk HU
 have hb6 : (x / 64 % 2 == 1) = bitB x 6 := rfl
 have hx1 : x.tdiv 64 = x / 64 := Int.tdiv_eq_ediv_of_nonneg xa
 have hx2 : (x / 64).tmod 2 = x / 64 % 2 := Int.tmod_eq_emod_of_nonneg (by omega)
 have hx3 : IntKind.u64.wrap (x / 64) = x / 64 := by rw [IntKind.wrap_u64]; omega
 have hGr := fun w1 h1' => refGreat_c L (.slice la l lc) r up a ⟨fr, lv, g0, g1, g2, bitB x 6⟩ uk0 w1 h1' HRm.out.1 HRm.out.2 h0 h1 HUk.out.1 HUk.out.2
 unfold Hit.val at hGr
 dsimp only at hGr
 have HGr := Lib.hid hGr
 clear hGr
 obtain ⟨L2, hL2⟩ : ∃ L2, greatL up a ⟨fr, lv, g0, g1, g2, bitB x 6⟩ uk0 r L = L2 := ⟨_, rfl⟩
 have HL2 : Hid (keepL up a lv fr (g0, g1, g2) last N un uk0 r L = L2) := Lib.hid (by unfold keepL; rw [if_pos hlv0, HX.out, hL2])
 have HL2r : Hid (L2.length ≤ r) := Lib.hid (by rw [← hL2]; unfold greatL; split; exact putC_len HRm.out.1; exact HRm.out.1)
 rw [hL2] at HGr
 clear hL2
 obtain ⟨T2, hT2⟩ : ∃ T2, T ++ keepT lv last = T2 := ⟨_, rfl⟩
 have HT2 := Lib.hid hT2
 have hT2' : T2 = T := by rw [← hT2]; unfold keepT; rw [if_pos hlv0]; simp
 clear hT2
 subst hT2'
 have HT2l : Hid (T2.length = k) := Lib.hid HN.out.2.1
 generalize bitB x 6 = b6 at hb6 HGr
 have z2 := (heap_cell Y3.out 2).trans rfl
 have z3 := (heap_cell Y3.out 3).trans rfl
 have z4 := (heap_cell Y3.out 4).trans rfl
 have z5 := (heap_cell Y3.out 5).trans rfl
 have z6 := (heap_cell Y3.out 6).trans rfl
 have zl := heap_lt Y3.out
 go_upto_region 6 with (fail)
 refine wp_gen ?_; intro A hA
 have KA := Lib.hid (show Ext Y A by rw [hA]; exact (by repeat (first | exact Ext.refl _ | assumption | refine Ext.alloc ?_ _ | refine Ext.drew ?_ | refine Ext.setCell ?_ (by first | (simp; done) | (dsimp only; omega)) _ | refine Ext.trans ?_ (by assumption))))
 have hAh : A.heap[Y.heap.size]? = some (.cells #[.int .u64 fr, .int .i64 lv, .bool g0, .bool g1, .bool g2, .bool b6] 161 (0, 0)) := by rw [hA]; exact alloc_same ..
 obtain ⟨hbk, hhb⟩ : ∃ hbk, Y.heap.size = hbk := ⟨_, rfl⟩
 rw [hhb] at hAh ⊢
 have A0 := Lib.hid ((KA.out.block _ (heap_lt Y0.out)).trans Y0.out)
 have A1 := Lib.hid ((KA.out.block _ (heap_lt Y1.out)).trans Y1.out)
 have A5 := Lib.hid ((KA.out.block _ (heap_lt Y5.out)).trans Y5.out)
 have AE := Lib.hid (YE.out.trans KA.out)
 have AR := Lib.hid (YR.out.ext KA.out)
 clear hA hhb z2 z3 z4 z5 z6 zl hb6 hx1 hx2 hx3
 have m0 := (heap_cell hAh 0).trans rfl
 have m1 := (heap_cell hAh 1).trans rfl
 have m2 := (heap_cell hAh 2).trans rfl
 have m3 := (heap_cell hAh 3).trans rfl
 have m4 := (heap_cell hAh 4).trans rfl
 have m5 := (heap_cell hAh 5).trans rfl
 have ml := heap_lt hAh
 have x3 := (heap_cell A0.out 3).trans rfl
 have x4 := (heap_cell A0.out 4).trans rfl
 have xl := heap_lt A0.out
 have y0 := (heap_cell A1.out 0).trans rfl
 have y1 := (heap_cell A1.out 1).trans rfl
 have yl := heap_lt A1.out
 clear hAh
 go_upto_region 7 with (first | (go_at_call 108; refine (HGr.out _ (by have := HLn.out.ext AE.out; rw [HN.out.2.2.1] at this; exact this)).mono ?_; rintro e B hEB; obtain ⟨la2, lc2, rfl, hL3, hB⟩ := hEB.form; have B0 := (hB.block _ (heap_lt A0.out)).trans A0.out; have d3 := (heap_cell B0 3).trans rfl; have d4 := (heap_cell B0 4).trans rfl; have df := frozen_of B0; have dl := heap_lt B0))
 refine wp_gen ?_; intro Z hZ
 obtain ⟨l2, hl2⟩ : ∃ l2, L2.length = l2 := ⟨_, rfl⟩
 have HL2l := Lib.hid hl2
 have Z0 : Hid (Z.heap[vb]? = some (.cells #[.int .i64 16, .slice sa n sc, .slice ta k tc, .slice la2 l2 lc2, .int .i64 r, .slice (pa2 4) (D 4).length (pc2 4), .int .i64 q, .slice (pa2 3) (D 3).length (pc2 3), .int .i64 q, .slice (pa2 2) (D 2).length (pc2 2), .int .i64 q] 60 (0, 0))) := Lib.hid (by rw [hZ, ← hl2]; exact tlb2_heap B0)
 have Z5 : Hid (Z.heap[vb + 1 + 1 + 1 + 1 + 1]? = some (.cells #[.int .i64 0, .slice none 0 0, .slice none 0 0, .slice none 0 0, .int .i64 0, .slice none 0 0, .int .i64 0, .slice none 0 0, .int .i64 0, .slice none 0 0, .int .i64 0] 60 (0, 0))) := Lib.hid (by rw [hZ]; exact (tlb2_other (by omega)).trans ((hB.block _ (heap_lt A5.out)).trans A5.out))
 have ZE : Hid (Ext w Z) := Lib.hid (by rw [hZ]; exact tlb2_ext (AE.out.trans hB) hwv)
 have ZR : Hid (RpAt Z pa2 pc2 D) := Lib.hid (by rw [hZ]; exact (AR.out.ext hB).other B0 (by decide) fun g hg => tlb2_other hg)
 have ZL : Hid (RefAt Z (.slice la2 l2 lc2) L2) := Lib.hid (by rw [hZ, ← hl2]; exact hL3.other B0 (by decide) fun g hg => tlb2_other hg)
 have ZT : Hid (TrAt Z ta tc T2) := Lib.hid (TrAt.ext HTr.out ZE.out)
 rw [hl2]
 clear hZ hl2 B0 d3 d4 df dl hB hL3 hEB x3 x4 xl y0 y1 yl m0 m1 m2 m3 m4 m5 ml
 have x0 := (heap_cell Z0.out 0).trans rfl
 have x1 := (heap_cell Z0.out 1).trans rfl
 have x2 := (heap_cell Z0.out 2).trans rfl
 have x3 := (heap_cell Z0.out 3).trans rfl
 have x4 := (heap_cell Z0.out 4).trans rfl
 have x5 := (heap_cell Z0.out 5).trans rfl
 have x6 := (heap_cell Z0.out 6).trans rfl
 have x7 := (heap_cell Z0.out 7).trans rfl
 have x8 := (heap_cell Z0.out 8).trans rfl
 have x9 := (heap_cell Z0.out 9).trans rfl
 have x10 := (heap_cell Z0.out 10).trans rfl
 have xl := heap_lt Z0.out
 have y0 := (heap_cell Z5.out 0).trans rfl
 have y1 := (heap_cell Z5.out 1).trans rfl
 have y2 := (heap_cell Z5.out 2).trans rfl
 have y3 := (heap_cell Z5.out 3).trans rfl
 have y4 := (heap_cell Z5.out 4).trans rfl
 have y5 := (heap_cell Z5.out 5).trans rfl
 have y6 := (heap_cell Z5.out 6).trans rfl
 have y7 := (heap_cell Z5.out 7).trans rfl
 have y8 := (heap_cell Z5.out 8).trans rfl
 have y9 := (heap_cell Z5.out 9).trans rfl
 have y10 := (heap_cell Z5.out 10).trans rfl
 have yf := frozen_of Z5.out
 have yl := heap_lt Z5.out
 go_wp2
 refine post_gen (fun Q => Q.heap[vb + 1 + 1 + 1 + 1 + 1]? = some (.cells #[.int .i64 16, .slice sa n sc, .slice ta k tc, .slice la2 l2 lc2, .int .i64 r, .slice (pa2 4) (D 4).length (pc2 4), .int .i64 q, .slice (pa2 3) (D 3).length (pc2 3), .int .i64 q, .slice (pa2 2) (D 2).length (pc2 2), .int .i64 q] 60 (0, 0)) ∧ TrAt Q ta tc T2 ∧ RefAt Q (.slice la2 l2 lc2) L2 ∧ RpAt Q pa2 pc2 D ∧ Ext w Q) ⟨store11_heap Z5.out, Owns.keep ZT.out fun g hg => store11_other (Owns.ne ZT.out Z5.out (by decide) g hg), ZL.out.other Z5.out (by decide) fun g hg => store11_other hg, ZR.out.other Z5.out (by decide) fun g hg => store11_other hg, ext11 ZE.out (by omega)⟩ ?_
 clear x0 y0 x1 y1 x2 y2 x3 y3 x4 y4 x5 y5 x6 y6 x7 y7 x8 y8 x9 y9 x10 y10 yf yl
 rintro Q ⟨m5, q1, q2, q3, q4⟩
 have v0 := (heap_cell m5 0).trans rfl
 have v1 := (heap_cell m5 1).trans rfl
 have v2 := (heap_cell m5 2).trans rfl
 have v3 := (heap_cell m5 3).trans rfl
 have v4 := (heap_cell m5 4).trans rfl
 have v5 := (heap_cell m5 5).trans rfl
 have v6 := (heap_cell m5 6).trans rfl
 have v7 := (heap_cell m5 7).trans rfl
 have v8 := (heap_cell m5 8).trans rfl
 have v9 := (heap_cell m5 9).trans rfl
 have v10 := (heap_cell m5 10).trans rfl
 have Q1 := Lib.hid q1
 have Q2 := Lib.hid q2
 have Q3 := Lib.hid q3
 have Q4 := Lib.hid q4
 clear m5 q1 q2 q3 q4
 refine bodyPost_ret (by simp [results, Tryz.results74, go_sem, ↓IntWalk.iteOmega, *]; try rfl) rfl (by
  rw [← HE.out, HT2.out, HL2.out]
  refine ⟨⟨sa, sc, ta, tc, la2, lc2, pa2, pc2⟩, ?_, ⟨SAt.ext HSl.out Q4.out, Q1.out, ?_, Q3.out, HOk.out, ⟨HL2r.out, HRm.out.2⟩, ⟨HDl.out, HQ64.out⟩⟩, Q4.out, FreshT.refl _ _⟩
  ·unfold stV stC; dsimp only; rw [HN.out.1]; rw [HT2l.out, HL2l.out]
  ·rw [HL2l.out]; exact Q2.out)
end Go.Proofs.YtkfonacokamfiaaGreat
