/- TlbDrops: dropped, a page isn't found; all other pages are, as they were, but for those of a great one over it; of another PCID all are: for all deeds, every deed and every address. -/
import Derived.Test.YtnacgmmkmedpdaaTlbL
import Derived.Test.YtnacgmmkmedpdaaTlbN
namespace Go.Proofs.Ytnacgmmkmedpdaa
set_option linter.unusedVariables false
set_option linter.unusedSimpArgs false
open Go.RowKit
attribute [local go_sem] wext_cell wext_frozen wext_heap alloc_cell alloc_frozen alloc_heap setCell_cell objCell_cells objFrozen_cells
open Go.Proofs
attribute [local go_sem high] hit_eql hit_neq

def pgI (x l : Int) : Int := x - x % sizeI l
theorem sizeI_cases {l : Int} (hl : l = 1 ∨ l = 2 ∨ l = 3) : sizeI l = 4096 ∨ sizeI l = 2097152 ∨ sizeI l = 1073741824 := by rcases hl with rfl | rfl | rfl <;> simp [sizeI]
theorem pgI_ne {a b l : Int} (hl : l = 1 ∨ l = 2 ∨ l = 3) : (pgI a l = pgI b l) ↔ (a / sizeI l = b / sizeI l) := by
  unfold pgI
  rcases sizeI_cases hl with h | h | h <;> rw [h] <;> omega
set_option maxHeartbeats 1000000 in
theorem refLow_c (x l : Int) (w : World) (hl : l = 1 ∨ l = 2 ∨ l = 3) (h0 : 0 ≤ x) (h1 : x ≤ 18446744073709551615) : Calls Try.prog 96 #[.int .u64 x, .int .i64 l] w fun e w' => e = .returned (.int .u64 (x % sizeI l)) ∧ Ext w w' := by
  have hsz := fun w => refSize_c l w
  have hc := sizeI_cases hl
  generalize sizeI l = sz at *
  rcases hc with rfl | rfl | rfl
  all_goals
    go_enter Try.func96, Try.ntmps96
    go_wp2_with (first | (go_at_call 48; refine (hsz _).mono ?_; rintro e w1 ⟨rfl, hb⟩; have ⟨hc, hf, hh, hs⟩ := hb.facts; try simp only [World.size_alloc, World.size_setCell, World.size_drew] at hs))
    go_ret
    exact ⟨rfl, (by repeat (first | exact Ext.refl _ | assumption | refine Ext.alloc ?_ _ | refine Ext.drew ?_ | refine Ext.setCell ?_ (by first | (simp; done) | (dsimp only; omega)) _ | refine Ext.trans ?_ (by assumption)))⟩
theorem refPage_c (x l : Int) (w : World) (hl : l = 1 ∨ l = 2 ∨ l = 3) (h0 : 0 ≤ x) (h1 : x ≤ 18446744073709551615) : Calls Try.prog 50 #[.int .u64 x, .int .i64 l] w fun e w' => e = .returned (.int .u64 (pgI x l)) ∧ Ext w w' := by
  have hlow := fun w => refLow_c x l w hl h0 h1
  have hc := sizeI_cases hl
  have hb : 0 ≤ x % sizeI l ∧ x % sizeI l ≤ x := by rcases hc with h | h | h <;> rw [h] <;> omega
  unfold pgI
  generalize x % sizeI l = lo at *
  go_enter Try.func50, Try.ntmps50
  go_wp2_with (first | (go_at_call 96; refine (hlow _).mono ?_; rintro e w1 ⟨rfl, hb1⟩))
  go_ret
  exact ⟨rfl, (by repeat (first | exact Ext.refl _ | assumption | refine Ext.alloc ?_ _ | refine Ext.drew ?_ | refine Ext.setCell ?_ (by first | (simp; done) | (dsimp only; omega)) _ | refine Ext.trans ?_ (by assumption)))⟩

set_option maxHeartbeats 4000000 in
set_option maxRecDepth 20000 in
theorem tlbDrops_c (v : Value) (ds : List TDeed) (d : TDeed) (b : Int) (hb0 : 0 ≤ b) (hb1 : b ≤ 18446744073709551615) (w : World) (hds : TDeedsAt w v ds) (hd : d.ok) (hp : -9223372036854775808 ≤ d.p ∧ d.p ≤ 9223372036854775807) :
    Calls Try.prog 12 #[v, d.val, .int .u64 b] w fun e w' => e = .returned (.bool true) ∧ Ext w w' := by
  have hrun := fun w' (hx : Ext w w') => run13_c v ds w' (hds.ext hx)
  obtain ⟨va, cap, rfl, hn, hm, hok, -⟩ := hds
  unfold EndRunT at hrun
  have hLok := foldT_ok100 5 ds hok
  obtain ⟨L, hLe⟩ : ∃ L, foldT 5 (ds.take 100) = L := ⟨_, rfl⟩
  rw [hLe] at hrun hLok
  clear hLe
  have HR := Lib.hid hrun
  clear hrun hok
  obtain ⟨kind, p, pick, a, ⟨xf, xa, xb, xc, xd, xm⟩, ⟨uf, ul, ua, ub, uc, ud⟩⟩ := d
  obtain ⟨⟨hp0, hp1⟩, ⟨ha0, ha1⟩, hxo⟩ := hd
  dsimp only at hp0 hp1 ha0 ha1 hxo hp
  obtain ⟨p', hpp, hpn⟩ := next_p hp.1 hp.2
  clear hp
  unfold TDeed.val
  dsimp only
  go_enter Try.func12, Try.ntmps12
  go_upto_region 3 with (first | (go_at_call 37; refine (awake13_c _).mono ?_; rintro e w0 ⟨rfl, hb0⟩) | (go_at_call 44; refine (HR.out _ (Ext.trans (by repeat (first | exact Ext.refl _ | assumption | refine Ext.alloc ?_ _ | refine Ext.drew ?_ | refine Ext.setCell ?_ (by first | (simp; done) | (dsimp only; omega)) _ | refine Ext.trans ?_ (by assumption))) hb0)).mono ?_; rintro e w1 ⟨tb, cb, F, rfl, hC, hE, hF⟩))
  have hbx := (hb0.block w.heap.size (by simp)).trans (alloc_same ..)
  have E0 : Ext w w0 := Ext.trans (by repeat (first | exact Ext.refl _ | assumption | refine Ext.alloc ?_ _ | refine Ext.drew ?_ | refine Ext.setCell ?_ (by first | (simp; done) | (dsimp only; omega)) _ | refine Ext.trans ?_ (by assumption))) hb0
  have hlt0 := heap_lt hbx
  have hFw : ∀ x ∈ F, w.heap.size < x := fun x hx => by have := hF x hx; omega
  have B1 := Lib.hid ((hE.block _ hlt0).trans hbx)
  have HC := Lib.hid hC
  have HF := Lib.hid hFw
  have HE := Lib.hid (E0.trans hE)
  have hnd := Lib.hid hC.2.nodup
  have ⟨hr1, hr2⟩ := hC.2.room
  have hl1 := heap_lt B1.out
  clear hC hE hF hFw hb0 E0 hbx
  have hLokD : LOk (dropPageL p a 5 L) := hLok.drop ha0
  have hl1' : ∀ w', TAt w' tb cb F L 5 → Calls Try.prog 40 #[.pointer (some ⟨tb, 0, none⟩), .int .i64 p, .int .u64 b] w' fun e w2 => e = .returned (lookV p b L) ∧ Ext w' w2 := fun w' h => look_c tb cb F L 5 p b w' h hLok hb0 hb1
  have hl2 : ∀ w', TAt w' tb cb F L 5 → Calls Try.prog 40 #[.pointer (some ⟨tb, 0, none⟩), .int .i64 p', .int .u64 b] w' fun e w2 => e = .returned (lookV p' b L) ∧ Ext w' w2 := fun w' h => look_c tb cb F L 5 p' b w' h hLok hb0 hb1
  have hl3 : ∀ F6 w', TAt w' tb cb F6 (dropPageL p a 5 L) 5 → Calls Try.prog 40 #[.pointer (some ⟨tb, 0, none⟩), .int .i64 p, .int .u64 a] w' fun e w2 => e = .returned (lookV p a (dropPageL p a 5 L)) ∧ Ext w' w2 := fun F6 w' h => look_c tb cb F6 (dropPageL p a 5 L) 5 p a w' h hLokD ha0 ha1
  have hl4 : ∀ F6 w', TAt w' tb cb F6 (dropPageL p a 5 L) 5 → Calls Try.prog 40 #[.pointer (some ⟨tb, 0, none⟩), .int .i64 p, .int .u64 b] w' fun e w2 => e = .returned (lookV p b (dropPageL p a 5 L)) ∧ Ext w' w2 := fun F6 w' h => look_c tb cb F6 (dropPageL p a 5 L) 5 p b w' h hLokD hb0 hb1
  have hl5 : ∀ F6 w', TAt w' tb cb F6 (dropPageL p a 5 L) 5 → Calls Try.prog 40 #[.pointer (some ⟨tb, 0, none⟩), .int .i64 p', .int .u64 b] w' fun e w2 => e = .returned (lookV p' b L) ∧ Ext w' w2 := fun F6 w' h => by
    have := look_c tb cb F6 (dropPageL p a 5 L) 5 p' b w' h hLokD hb0 hb1
    unfold lookV at this ⊢
    rw [drops_other hpn hnd.out (by omega) hr1] at this
    exact this
  have hnone := drops_none (p := p) (a := a) (r := 5) ha0 hLok hnd.out (by omega) hr1
  have hplain := drops_at (p := p) (a := a) (b := b) (r := 5) ha0 hb0 hLok hnd.out (by omega) hr1
  have hdrop := fun w' h => dropPage_c tb cb F L 5 p a w' h hLok ha0 ha1
  unfold lookV at hl1' hl2 hl3 hl4 hl5
  rw [hnone] at hl3
  generalize hD : dropPageL p a 5 L = D at *
  generalize lookR p' b L = R2 at hl2 hl5
  generalize (lookR p a D).1 = H0 at hl3
  generalize lookR p b L = R1 at hl1' hplain
  generalize lookR p b D = R3 at hl4 hplain
  obtain ⟨⟨qf, ql, qa, qb, qc, qd⟩, s⟩ := R1
  obtain ⟨⟨of, ol, oa, ob, oc, od⟩, so⟩ := R2
  obtain ⟨⟨nf, nl, na, nb, nc, nd⟩, sn⟩ := R3
  obtain ⟨zf, zl, za, zb, zc, zd⟩ := H0
  unfold Hit.val at hl1' hl2 hl3 hl4 hl5
  dsimp only at hl1' hl2 hl3 hl4 hl5 hplain
  have HPLAIN := Lib.hid hplain
  have HL1 := Lib.hid (fun w' (hx : Ext w1 w') => hl1' w' (HC.out.ext hx))
  have HL2 := Lib.hid hl2
  have HL3 := Lib.hid hl3
  have HL4 := Lib.hid hl4
  have HL5 := Lib.hid hl5
  have HDR := Lib.hid hdrop
  clear hl1' hl2 hl3 hl4 hl5 hdrop hplain hnone hD
  have x1 := (heap_cell B1.out 1).trans rfl
  go_upto_region 6 with (first | (go_at_call 40; refine (HL1.out _ (by repeat (first | exact Ext.refl _ | assumption | refine Ext.alloc ?_ _ | refine Ext.drew ?_ | refine Ext.setCell ?_ (by first | (simp; done) | (dsimp only; omega)) _ | refine Ext.trans ?_ (by assumption)))).mono ?_; rintro e wk ⟨rfl, hbk⟩))
  refine wp_gen ?_; intro V5 hV
  have EPV5 : Ext w1 V5 := by rw [hV]; exact (Ext.trans (by repeat (first | exact Ext.refl _ | assumption | refine Ext.alloc ?_ _ | refine Ext.drew ?_ | refine Ext.setCell ?_ (by first | (simp; done) | (dsimp only; omega)) _ | refine Ext.trans ?_ (by assumption))) hbk).alloc _
  have n8 : V5.heap[wk.heap.size]? = some (.cells #[.int .u64 qf, .int .i64 ql, .bool qa, .bool qb, .bool qc, .bool qd] 70 (0, 0)) := by rw [hV]; exact alloc_same ..
  have hzb5 : w1.heap.size ≤ wk.heap.size := (Ext.trans (by repeat (first | exact Ext.refl _ | assumption | refine Ext.alloc ?_ _ | refine Ext.drew ?_ | refine Ext.setCell ?_ (by first | (simp; done) | (dsimp only; omega)) _ | refine Ext.trans ?_ (by assumption))) hbk : Ext w1 wk).size
  generalize wk.heap.size = b5 at n8 hzb5 ⊢
  have Nb5 := Lib.hid n8
  have HPV5 := Lib.hid EPV5
  clear hV hbk n8 EPV5
  have BV5 := Lib.hid ((HPV5.out.block _ hl1).trans B1.out)
  have C5 := Lib.hid (HC.out.ext HPV5.out)
  have E5 := Lib.hid (HE.out.trans HPV5.out)
  have HL25 := Lib.hid (fun w' (hx : Ext V5 w') => HL2.out w' (C5.out.ext hx))
  clear x1
  have x1 := (heap_cell BV5.out 1).trans rfl
  go_upto_region 7 with (first | (go_at_call 40; refine (HL25.out _ (by repeat (first | exact Ext.refl _ | assumption | refine Ext.alloc ?_ _ | refine Ext.drew ?_ | refine Ext.setCell ?_ (by first | (simp; done) | (dsimp only; omega)) _ | refine Ext.trans ?_ (by assumption)))).mono ?_; rintro e wk ⟨rfl, hbk⟩))
  refine wp_gen ?_; intro V6 hV
  have EPV6 : Ext V5 V6 := by rw [hV]; exact (Ext.trans (by repeat (first | exact Ext.refl _ | assumption | refine Ext.alloc ?_ _ | refine Ext.drew ?_ | refine Ext.setCell ?_ (by first | (simp; done) | (dsimp only; omega)) _ | refine Ext.trans ?_ (by assumption))) hbk).alloc _
  have n8 : V6.heap[wk.heap.size]? = some (.cells #[.int .u64 of, .int .i64 ol, .bool oa, .bool ob, .bool oc, .bool od] 70 (0, 0)) := by rw [hV]; exact alloc_same ..
  have hzb6 : V5.heap.size ≤ wk.heap.size := (Ext.trans (by repeat (first | exact Ext.refl _ | assumption | refine Ext.alloc ?_ _ | refine Ext.drew ?_ | refine Ext.setCell ?_ (by first | (simp; done) | (dsimp only; omega)) _ | refine Ext.trans ?_ (by assumption))) hbk : Ext V5 wk).size
  generalize wk.heap.size = b6 at n8 hzb6 ⊢
  have Nb6 := Lib.hid n8
  have HPV6 := Lib.hid EPV6
  clear hV hbk n8 EPV6
  have BV6 := Lib.hid ((HPV6.out.block _ (heap_lt BV5.out)).trans BV5.out)
  have N5V6 := Lib.hid ((HPV6.out.block _ (heap_lt Nb5.out)).trans Nb5.out)
  have C6 := Lib.hid (C5.out.ext HPV6.out)
  have E6 := Lib.hid (E5.out.trans HPV6.out)
  clear x1
  have x1 := (heap_cell BV6.out 1).trans rfl
  have x3 := (heap_cell BV6.out 3).trans rfl
  go_upto_region 8 with (first | (go_at_call 49; refine (HDR.out _ (C6.out.ext (by repeat (first | exact Ext.refl _ | assumption | refine Ext.alloc ?_ _ | refine Ext.drew ?_ | refine Ext.setCell ?_ (by first | (simp; done) | (dsimp only; omega)) _ | refine Ext.trans ?_ (by assumption))))).mono ?_; rintro e w7 ⟨rfl, F7, q1, q2, q3⟩))
  have C7 := Lib.hid q1
  have B7 := Lib.hid ((q2.block _ (heap_lt BV6.out) (C6.out.2.apart BV6.out (by decide) (by decide))).trans BV6.out)
  have N57 := Lib.hid ((q2.block _ (heap_lt N5V6.out) (C6.out.2.apart N5V6.out (by decide) (by decide))).trans N5V6.out)
  have N67 := Lib.hid ((q2.block _ (heap_lt Nb6.out) (C6.out.2.apart Nb6.out (by decide) (by decide))).trans Nb6.out)
  have E7 := Lib.hid (Keeps.to_ext E6.out q2 fun x hx => Nat.le_of_lt (HF.out x hx))
  have HL37 := Lib.hid (fun w' (hx : Ext w7 w') => HL3.out F7 w' (C7.out.ext hx))
  have HL47 := Lib.hid (fun w' (hx : Ext w7 w') => HL4.out F7 w' (C7.out.ext hx))
  have HL57 := Lib.hid (fun w' (hx : Ext w7 w') => HL5.out F7 w' (C7.out.ext hx))
  clear q1 q2 q3 x1 x3
  have x1 := (heap_cell B7.out 1).trans rfl
  have x3 := (heap_cell B7.out 3).trans rfl
  go_upto_region 9 with (first | (go_at_call 40; refine (HL37.out _ (by repeat (first | exact Ext.refl _ | assumption | refine Ext.alloc ?_ _ | refine Ext.drew ?_ | refine Ext.setCell ?_ (by first | (simp; done) | (dsimp only; omega)) _ | refine Ext.trans ?_ (by assumption)))).mono ?_; rintro e wk ⟨rfl, hbk⟩))
  refine wp_gen ?_; intro V8 hV
  have EPV8 : Ext w7 V8 := by rw [hV]; exact (Ext.trans (by repeat (first | exact Ext.refl _ | assumption | refine Ext.alloc ?_ _ | refine Ext.drew ?_ | refine Ext.setCell ?_ (by first | (simp; done) | (dsimp only; omega)) _ | refine Ext.trans ?_ (by assumption))) hbk).alloc _
  have n8 : V8.heap[wk.heap.size]? = some (.cells #[.int .u64 zf, .int .i64 zl, .bool za, .bool zb, .bool zc, .bool zd] 70 (0, 0)) := by rw [hV]; exact alloc_same ..
  have hzb8 : w7.heap.size ≤ wk.heap.size := (Ext.trans (by repeat (first | exact Ext.refl _ | assumption | refine Ext.alloc ?_ _ | refine Ext.drew ?_ | refine Ext.setCell ?_ (by first | (simp; done) | (dsimp only; omega)) _ | refine Ext.trans ?_ (by assumption))) hbk : Ext w7 wk).size
  generalize wk.heap.size = b8 at n8 hzb8 ⊢
  have Nb8 := Lib.hid n8
  have HPV8 := Lib.hid EPV8
  clear hV hbk n8 EPV8
  have BV8 := Lib.hid ((HPV8.out.block _ (heap_lt B7.out)).trans B7.out)
  have HL48 := Lib.hid (fun w' (hx : Ext V8 w') => HL47.out w' (HPV8.out.trans hx))
  clear x1 x3
  have x1 := (heap_cell BV8.out 1).trans rfl
  go_upto_region 10 with (first | (go_at_call 40; refine (HL48.out _ (by repeat (first | exact Ext.refl _ | assumption | refine Ext.alloc ?_ _ | refine Ext.drew ?_ | refine Ext.setCell ?_ (by first | (simp; done) | (dsimp only; omega)) _ | refine Ext.trans ?_ (by assumption)))).mono ?_; rintro e wk ⟨rfl, hbk⟩))
  refine wp_gen ?_; intro V9 hV
  have EPV9 : Ext V8 V9 := by rw [hV]; exact (Ext.trans (by repeat (first | exact Ext.refl _ | assumption | refine Ext.alloc ?_ _ | refine Ext.drew ?_ | refine Ext.setCell ?_ (by first | (simp; done) | (dsimp only; omega)) _ | refine Ext.trans ?_ (by assumption))) hbk).alloc _
  have n8 : V9.heap[wk.heap.size]? = some (.cells #[.int .u64 nf, .int .i64 nl, .bool na, .bool nb, .bool nc, .bool nd] 70 (0, 0)) := by rw [hV]; exact alloc_same ..
  have hzb9 : V8.heap.size ≤ wk.heap.size := (Ext.trans (by repeat (first | exact Ext.refl _ | assumption | refine Ext.alloc ?_ _ | refine Ext.drew ?_ | refine Ext.setCell ?_ (by first | (simp; done) | (dsimp only; omega)) _ | refine Ext.trans ?_ (by assumption))) hbk : Ext V8 wk).size
  generalize wk.heap.size = b9 at n8 hzb9 ⊢
  have Nb9 := Lib.hid n8
  have HPV9 := Lib.hid EPV9
  clear hV hbk n8 EPV9
  have BV9 := Lib.hid ((HPV9.out.block _ (heap_lt BV8.out)).trans BV8.out)
  have HL59 := Lib.hid (fun w' (hx : Ext V9 w') => HL57.out w' (HPV8.out.trans (HPV9.out.trans hx)))
  clear x1
  have x1 := (heap_cell BV9.out 1).trans rfl
  go_upto_region 11 with (first | (go_at_call 40; refine (HL59.out _ (by repeat (first | exact Ext.refl _ | assumption | refine Ext.alloc ?_ _ | refine Ext.drew ?_ | refine Ext.setCell ?_ (by first | (simp; done) | (dsimp only; omega)) _ | refine Ext.trans ?_ (by assumption)))).mono ?_; rintro e wk ⟨rfl, hbk⟩))
  refine wp_gen ?_; intro VX hV
  have EPVX : Ext V9 VX := by rw [hV]; exact (Ext.trans (by repeat (first | exact Ext.refl _ | assumption | refine Ext.alloc ?_ _ | refine Ext.drew ?_ | refine Ext.setCell ?_ (by first | (simp; done) | (dsimp only; omega)) _ | refine Ext.trans ?_ (by assumption))) hbk).alloc _
  have n8 : VX.heap[wk.heap.size]? = some (.cells #[.int .u64 of, .int .i64 ol, .bool oa, .bool ob, .bool oc, .bool od] 70 (0, 0)) := by rw [hV]; exact alloc_same ..
  have hzbX : V9.heap.size ≤ wk.heap.size := (Ext.trans (by repeat (first | exact Ext.refl _ | assumption | refine Ext.alloc ?_ _ | refine Ext.drew ?_ | refine Ext.setCell ?_ (by first | (simp; done) | (dsimp only; omega)) _ | refine Ext.trans ?_ (by assumption))) hbk : Ext V9 wk).size
  generalize wk.heap.size = bX at n8 hzbX ⊢
  have NbX := Lib.hid n8
  have HPVX := Lib.hid EPVX
  clear hV hbk n8 EPVX
  have BVX := Lib.hid ((HPVX.out.block _ (heap_lt BV9.out)).trans BV9.out)
  have E7X := HPV8.out.trans (HPV9.out.trans HPVX.out)
  have N5X := Lib.hid ((E7X.block _ (heap_lt N57.out)).trans N57.out)
  have N6X := Lib.hid ((E7X.block _ (heap_lt N67.out)).trans N67.out)
  have N9X := Lib.hid ((HPVX.out.block _ (heap_lt Nb9.out)).trans Nb9.out)
  have EX := Lib.hid (E7.out.trans E7X)
  clear x1 E7X
  have x3 := (heap_cell BVX.out 3).trans rfl
  have hBo : hitB ⟨of, ol, oa, ob, oc, od⟩ ⟨of, ol, oa, ob, oc, od⟩ = true := by simp [hitB]
  -- what is to be shown of the two looks, case by case
  have cases5 : (s = false ∧ sn = false) ∨ (s = true ∧ ql = 1 ∧ pgI a 1 ≠ pgI b 1 ∧ sn = true ∧ (⟨nf, nl, na, nb, nc, nd⟩ : Hit) = ⟨qf, ql, qa, qb, qc, qd⟩) ∨ (s = true ∧ ql = 1 ∧ pgI a 1 = pgI b 1) ∨
      (s = true ∧ (ql = 2 ∨ ql = 3) ∧ pgI a ql ≠ pgI b ql ∧ sn = true ∧ (⟨nf, nl, na, nb, nc, nd⟩ : Hit) = ⟨qf, ql, qa, qb, qc, qd⟩) ∨ (s = true ∧ (ql = 2 ∨ ql = 3) ∧ pgI a ql = pgI b ql) := by
    obtain ⟨d1, d2, d3, d4⟩ := HPLAIN.out
    cases s
    · left
      cases sn
      · exact ⟨rfl, rfl⟩
      · exact absurd (d3 rfl) (by simp)
    · right
      rcases d4 rfl with h | h
      · by_cases hp1 : pgI a 1 = pgI b 1
        · exact .inr (.inl ⟨rfl, h, hp1⟩)
        · have hne : a / 4096 ≠ b / 4096 := fun q => hp1 ((pgI_ne (.inl rfl)).2 q)
          have := d1 rfl h hne
          simp only [Prod.mk.injEq] at this
          exact .inl ⟨rfl, h, hp1, this.2, this.1⟩
      · have hl3 : ql = 1 ∨ ql = 2 ∨ ql = 3 := .inr h
        by_cases hp1 : pgI a ql = pgI b ql
        · exact .inr (.inr (.inr ⟨rfl, h, hp1⟩))
        · have hne : a / sizeI ql ≠ b / sizeI ql := fun q => hp1 ((pgI_ne hl3).2 q)
          have := d2 rfl (by omega) hne
          simp only [Prod.mk.injEq] at this
          exact .inr (.inr (.inl ⟨rfl, h, hp1, this.2, this.1⟩))
  clear HPLAIN
  go_upto_region 12 with (first | (go_at_call 50; refine (refPage_c _ 1 _ (.inl rfl) (by omega) (by omega)).mono ?_; rintro e wp ⟨rfl, hbp⟩))
  have EXP : Hid (Ext VX wp) := Lib.hid (Ext.trans (by repeat (first | exact Ext.refl _ | assumption | refine Ext.alloc ?_ _ | refine Ext.drew ?_ | refine Ext.setCell ?_ (by first | (simp; done) | (dsimp only; omega)) _ | refine Ext.trans ?_ (by assumption))) hbp)
  clear hbp x3
  have BP := (EXP.out.block _ (heap_lt BVX.out)).trans BVX.out
  have n5 := (EXP.out.block _ (heap_lt N5X.out)).trans N5X.out
  have n9 := (EXP.out.block _ (heap_lt N9X.out)).trans N9X.out
  have N6P := Lib.hid ((EXP.out.block _ (heap_lt N6X.out)).trans N6X.out)
  have NXP := Lib.hid ((EXP.out.block _ (heap_lt NbX.out)).trans NbX.out)
  have EP := Lib.hid (EX.out.trans EXP.out)
  have x3 := (heap_cell BP 3).trans rfl
  have y0 := (heap_cell n5 0).trans rfl
  have y1 := (heap_cell n5 1).trans rfl
  have y2 := (heap_cell n5 2).trans rfl
  have y3 := (heap_cell n5 3).trans rfl
  have y4 := (heap_cell n5 4).trans rfl
  have y5 := (heap_cell n5 5).trans rfl
  have z0 := (heap_cell n9 0).trans rfl
  have z1 := (heap_cell n9 1).trans rfl
  have z2 := (heap_cell n9 2).trans rfl
  have z3 := (heap_cell n9 3).trans rfl
  have z4 := (heap_cell n9 4).trans rfl
  have z5 := (heap_cell n9 5).trans rfl
  have lB := heap_lt BP
  have l5 := heap_lt n5
  have l9 := heap_lt n9
  clear BP n5 n9
  generalize hpa : pgI a 1 = pa at *
  generalize hpb : pgI b 1 = pb at *
  have hcase : ∀ (b1 b2 b3 : Bool), True := fun _ _ _ => trivial
  rcases cases5 with ⟨rfl, rfl⟩ | ⟨rfl, rfl, hne, rfl, hh⟩ | ⟨rfl, rfl, hne⟩ | ⟨rfl, hl23, hne, rfl, hh⟩ | ⟨rfl, hl23, hne⟩
  · refine region_ext (by kernel_rfl) (by kernel_rfl) ?_; (repeat (go_big_quiet_step ((go_at_call 50; exact calls_wext (refPage_c _ _ _ (by omega) (by omega) (by omega)))))); refine wpQuiet_nil ?_; intro w1 hb; have ⟨hc, hf, hh, hs⟩ := hb.facts; try simp only [World.size_alloc, World.size_setCell, World.size_drew] at hs
    have n6 := (hb.block _ (heap_lt N6P.out)).trans N6P.out
    have nX := (hb.block _ (heap_lt NXP.out)).trans NXP.out
    have EQ := Lib.hid (EP.out.trans hb)
    clear hb hc hf hh hs
    have u0 := (heap_cell n6 0).trans rfl
    have u1 := (heap_cell n6 1).trans rfl
    have u2 := (heap_cell n6 2).trans rfl
    have u3 := (heap_cell n6 3).trans rfl
    have u4 := (heap_cell n6 4).trans rfl
    have u5 := (heap_cell n6 5).trans rfl
    have v0 := (heap_cell nX 0).trans rfl
    have v1 := (heap_cell nX 1).trans rfl
    have v2 := (heap_cell nX 2).trans rfl
    have v3 := (heap_cell nX 3).trans rfl
    have v4 := (heap_cell nX 4).trans rfl
    have v5 := (heap_cell nX 5).trans rfl
    clear n6 nX y0 y1 y2 y3 y4 y5 z0 z1 z2 z3 z4 z5 x3
    go_wp2
    go_ret
    exact ⟨rfl, EQ.out.trans (by repeat (first | exact Ext.refl _ | assumption | refine Ext.alloc ?_ _ | refine Ext.drew ?_ | refine Ext.setCell ?_ (by first | (simp; done) | (dsimp only; omega)) _ | refine Ext.trans ?_ (by assumption)))⟩
  · have hpq : (pa != pb) = true := by simpa using hne
    simp only [Hit.mk.injEq] at hh
    obtain ⟨rfl, rfl, rfl, rfl, rfl, rfl⟩ := hh
    have hBn : hitB ⟨nf, 1, na, nb, nc, nd⟩ ⟨nf, 1, na, nb, nc, nd⟩ = true := by simp [hitB]
    clear hne
    refine region_ext (by kernel_rfl) (by kernel_rfl) ?_; (repeat (go_big_quiet_step ((go_at_call 50; exact calls_wext (refPage_c _ _ _ (by omega) (by omega) (by omega)))))); refine wpQuiet_nil ?_; intro w1 hb; have ⟨hc, hf, hh, hs⟩ := hb.facts; try simp only [World.size_alloc, World.size_setCell, World.size_drew] at hs
    have n6 := (hb.block _ (heap_lt N6P.out)).trans N6P.out
    have nX := (hb.block _ (heap_lt NXP.out)).trans NXP.out
    have EQ := Lib.hid (EP.out.trans hb)
    clear hb hc hf hh hs
    have u0 := (heap_cell n6 0).trans rfl
    have u1 := (heap_cell n6 1).trans rfl
    have u2 := (heap_cell n6 2).trans rfl
    have u3 := (heap_cell n6 3).trans rfl
    have u4 := (heap_cell n6 4).trans rfl
    have u5 := (heap_cell n6 5).trans rfl
    have v0 := (heap_cell nX 0).trans rfl
    have v1 := (heap_cell nX 1).trans rfl
    have v2 := (heap_cell nX 2).trans rfl
    have v3 := (heap_cell nX 3).trans rfl
    have v4 := (heap_cell nX 4).trans rfl
    have v5 := (heap_cell nX 5).trans rfl
    clear n6 nX y0 y1 y2 y3 y4 y5 z0 z1 z2 z3 z4 z5 x3
    go_wp2
    go_ret
    exact ⟨rfl, EQ.out.trans (by repeat (first | exact Ext.refl _ | assumption | refine Ext.alloc ?_ _ | refine Ext.drew ?_ | refine Ext.setCell ?_ (by first | (simp; done) | (dsimp only; omega)) _ | refine Ext.trans ?_ (by assumption)))⟩
  · have hpq : (pa != pb) = false := by simpa using hne
    clear hne
    refine region_ext (by kernel_rfl) (by kernel_rfl) ?_; (repeat (go_big_quiet_step ((go_at_call 50; exact calls_wext (refPage_c _ _ _ (by omega) (by omega) (by omega)))))); refine wpQuiet_nil ?_; intro w1 hb; have ⟨hc, hf, hh, hs⟩ := hb.facts; try simp only [World.size_alloc, World.size_setCell, World.size_drew] at hs
    have n6 := (hb.block _ (heap_lt N6P.out)).trans N6P.out
    have nX := (hb.block _ (heap_lt NXP.out)).trans NXP.out
    have EQ := Lib.hid (EP.out.trans hb)
    clear hb hc hf hh hs
    have u0 := (heap_cell n6 0).trans rfl
    have u1 := (heap_cell n6 1).trans rfl
    have u2 := (heap_cell n6 2).trans rfl
    have u3 := (heap_cell n6 3).trans rfl
    have u4 := (heap_cell n6 4).trans rfl
    have u5 := (heap_cell n6 5).trans rfl
    have v0 := (heap_cell nX 0).trans rfl
    have v1 := (heap_cell nX 1).trans rfl
    have v2 := (heap_cell nX 2).trans rfl
    have v3 := (heap_cell nX 3).trans rfl
    have v4 := (heap_cell nX 4).trans rfl
    have v5 := (heap_cell nX 5).trans rfl
    clear n6 nX y0 y1 y2 y3 y4 y5 z0 z1 z2 z3 z4 z5 x3
    go_wp2
    go_ret
    exact ⟨rfl, EQ.out.trans (by repeat (first | exact Ext.refl _ | assumption | refine Ext.alloc ?_ _ | refine Ext.drew ?_ | refine Ext.setCell ?_ (by first | (simp; done) | (dsimp only; omega)) _ | refine Ext.trans ?_ (by assumption)))⟩
  · simp only [Hit.mk.injEq] at hh
    obtain ⟨rfl, rfl, rfl, rfl, rfl, rfl⟩ := hh
    have hBn : hitB ⟨nf, nl, na, nb, nc, nd⟩ ⟨nf, nl, na, nb, nc, nd⟩ = true := by simp [hitB]
    have hpq : (pgI a nl != pgI b nl) = true := by simpa using hne
    clear hne
    rcases hl23 with rfl | rfl
    · refine region_ext (by kernel_rfl) (by kernel_rfl) ?_; (repeat (go_big_quiet_step ((go_at_call 50; exact calls_wext (refPage_c _ _ _ (by omega) (by omega) (by omega)))))); refine wpQuiet_nil ?_; intro w1 hb; have ⟨hc, hf, hh, hs⟩ := hb.facts; try simp only [World.size_alloc, World.size_setCell, World.size_drew] at hs
      have n6 := (hb.block _ (heap_lt N6P.out)).trans N6P.out
      have nX := (hb.block _ (heap_lt NXP.out)).trans NXP.out
      have EQ := Lib.hid (EP.out.trans hb)
      clear hb hc hf hh hs
      have u0 := (heap_cell n6 0).trans rfl
      have u1 := (heap_cell n6 1).trans rfl
      have u2 := (heap_cell n6 2).trans rfl
      have u3 := (heap_cell n6 3).trans rfl
      have u4 := (heap_cell n6 4).trans rfl
      have u5 := (heap_cell n6 5).trans rfl
      have v0 := (heap_cell nX 0).trans rfl
      have v1 := (heap_cell nX 1).trans rfl
      have v2 := (heap_cell nX 2).trans rfl
      have v3 := (heap_cell nX 3).trans rfl
      have v4 := (heap_cell nX 4).trans rfl
      have v5 := (heap_cell nX 5).trans rfl
      clear n6 nX y0 y1 y2 y3 y4 y5 z0 z1 z2 z3 z4 z5 x3
      go_wp2
      go_ret
      exact ⟨rfl, EQ.out.trans (by repeat (first | exact Ext.refl _ | assumption | refine Ext.alloc ?_ _ | refine Ext.drew ?_ | refine Ext.setCell ?_ (by first | (simp; done) | (dsimp only; omega)) _ | refine Ext.trans ?_ (by assumption)))⟩
    · refine region_ext (by kernel_rfl) (by kernel_rfl) ?_; (repeat (go_big_quiet_step ((go_at_call 50; exact calls_wext (refPage_c _ _ _ (by omega) (by omega) (by omega)))))); refine wpQuiet_nil ?_; intro w1 hb; have ⟨hc, hf, hh, hs⟩ := hb.facts; try simp only [World.size_alloc, World.size_setCell, World.size_drew] at hs
      have n6 := (hb.block _ (heap_lt N6P.out)).trans N6P.out
      have nX := (hb.block _ (heap_lt NXP.out)).trans NXP.out
      have EQ := Lib.hid (EP.out.trans hb)
      clear hb hc hf hh hs
      have u0 := (heap_cell n6 0).trans rfl
      have u1 := (heap_cell n6 1).trans rfl
      have u2 := (heap_cell n6 2).trans rfl
      have u3 := (heap_cell n6 3).trans rfl
      have u4 := (heap_cell n6 4).trans rfl
      have u5 := (heap_cell n6 5).trans rfl
      have v0 := (heap_cell nX 0).trans rfl
      have v1 := (heap_cell nX 1).trans rfl
      have v2 := (heap_cell nX 2).trans rfl
      have v3 := (heap_cell nX 3).trans rfl
      have v4 := (heap_cell nX 4).trans rfl
      have v5 := (heap_cell nX 5).trans rfl
      clear n6 nX y0 y1 y2 y3 y4 y5 z0 z1 z2 z3 z4 z5 x3
      go_wp2
      go_ret
      exact ⟨rfl, EQ.out.trans (by repeat (first | exact Ext.refl _ | assumption | refine Ext.alloc ?_ _ | refine Ext.drew ?_ | refine Ext.setCell ?_ (by first | (simp; done) | (dsimp only; omega)) _ | refine Ext.trans ?_ (by assumption)))⟩
  · have hpq : (pgI a ql != pgI b ql) = false := by simpa using hne
    clear hne
    rcases hl23 with rfl | rfl
    · refine region_ext (by kernel_rfl) (by kernel_rfl) ?_; (repeat (go_big_quiet_step ((go_at_call 50; exact calls_wext (refPage_c _ _ _ (by omega) (by omega) (by omega)))))); refine wpQuiet_nil ?_; intro w1 hb; have ⟨hc, hf, hh, hs⟩ := hb.facts; try simp only [World.size_alloc, World.size_setCell, World.size_drew] at hs
      have n6 := (hb.block _ (heap_lt N6P.out)).trans N6P.out
      have nX := (hb.block _ (heap_lt NXP.out)).trans NXP.out
      have EQ := Lib.hid (EP.out.trans hb)
      clear hb hc hf hh hs
      have u0 := (heap_cell n6 0).trans rfl
      have u1 := (heap_cell n6 1).trans rfl
      have u2 := (heap_cell n6 2).trans rfl
      have u3 := (heap_cell n6 3).trans rfl
      have u4 := (heap_cell n6 4).trans rfl
      have u5 := (heap_cell n6 5).trans rfl
      have v0 := (heap_cell nX 0).trans rfl
      have v1 := (heap_cell nX 1).trans rfl
      have v2 := (heap_cell nX 2).trans rfl
      have v3 := (heap_cell nX 3).trans rfl
      have v4 := (heap_cell nX 4).trans rfl
      have v5 := (heap_cell nX 5).trans rfl
      clear n6 nX y0 y1 y2 y3 y4 y5 z0 z1 z2 z3 z4 z5 x3
      go_wp2
      go_ret
      exact ⟨rfl, EQ.out.trans (by repeat (first | exact Ext.refl _ | assumption | refine Ext.alloc ?_ _ | refine Ext.drew ?_ | refine Ext.setCell ?_ (by first | (simp; done) | (dsimp only; omega)) _ | refine Ext.trans ?_ (by assumption)))⟩
    · refine region_ext (by kernel_rfl) (by kernel_rfl) ?_; (repeat (go_big_quiet_step ((go_at_call 50; exact calls_wext (refPage_c _ _ _ (by omega) (by omega) (by omega)))))); refine wpQuiet_nil ?_; intro w1 hb; have ⟨hc, hf, hh, hs⟩ := hb.facts; try simp only [World.size_alloc, World.size_setCell, World.size_drew] at hs
      have n6 := (hb.block _ (heap_lt N6P.out)).trans N6P.out
      have nX := (hb.block _ (heap_lt NXP.out)).trans NXP.out
      have EQ := Lib.hid (EP.out.trans hb)
      clear hb hc hf hh hs
      have u0 := (heap_cell n6 0).trans rfl
      have u1 := (heap_cell n6 1).trans rfl
      have u2 := (heap_cell n6 2).trans rfl
      have u3 := (heap_cell n6 3).trans rfl
      have u4 := (heap_cell n6 4).trans rfl
      have u5 := (heap_cell n6 5).trans rfl
      have v0 := (heap_cell nX 0).trans rfl
      have v1 := (heap_cell nX 1).trans rfl
      have v2 := (heap_cell nX 2).trans rfl
      have v3 := (heap_cell nX 3).trans rfl
      have v4 := (heap_cell nX 4).trans rfl
      have v5 := (heap_cell nX 5).trans rfl
      clear n6 nX y0 y1 y2 y3 y4 y5 z0 z1 z2 z3 z4 z5 x3
      go_wp2
      go_ret
      exact ⟨rfl, EQ.out.trans (by repeat (first | exact Ext.refl _ | assumption | refine Ext.alloc ?_ _ | refine Ext.drew ?_ | refine Ext.setCell ?_ (by first | (simp; done) | (dsimp only; omega)) _ | refine Ext.trans ?_ (by assumption)))⟩
end Go.Proofs.Ytnacgmmkmedpdaa
