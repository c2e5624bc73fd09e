/- TlbOf: all of a PCID are gone by that, and no others; cleared, all are; a Tlb that is nil has nothing: for all deeds, every deed and every address. -/
import Derived.Test.YtnacgmmkmedpdaaTlbL
import Derived.Test.YtnacgmmkmedpdaaTlbN
namespace Go.Proofs.Ytnacgmmkmedpdaa
set_option linter.unusedVariables false
set_option linter.unusedSimpArgs false
open Go.RowKit
attribute [local go_sem] wext_cell wext_frozen wext_heap alloc_cell alloc_frozen alloc_heap setCell_cell objCell_cells objFrozen_cells
open Go.Proofs
attribute [local go_sem high] hit_eql

set_option maxHeartbeats 4000000 in
set_option maxRecDepth 20000 in
theorem tlbOf_c (v : Value) (ds : List TDeed) (d : TDeed) (b : Int) (hb0 : 0 ≤ b) (hb1 : b ≤ 18446744073709551615) (w : World) (hds : TDeedsAt w v ds) (hd : d.ok) (hp : -9223372036854775808 ≤ d.p ∧ d.p ≤ 9223372036854775807) :
    Calls Try.prog 13 #[v, d.val, .int .u64 b] w fun e w' => e = .returned (.bool true) ∧ Ext w w' := by
  have hrun := fun w' (hx : Ext w w') => run13_c v ds w' (hds.ext hx)
  obtain ⟨va, cap, rfl, hn, hm, hok, -⟩ := hds
  unfold EndRunT at hrun
  have hLok := foldT_ok100 5 ds hok
  obtain ⟨L, hLe⟩ : ∃ L, foldT 5 (ds.take 100) = L := ⟨_, rfl⟩
  rw [hLe] at hrun hLok
  clear hLe
  have HR := Lib.hid hrun
  clear hrun hok
  obtain ⟨kind, p, pick, a, ⟨xf, xa, xb, xc, xd, xm⟩, ⟨uf, ul, ua, ub, uc, ud⟩⟩ := d
  obtain ⟨⟨hp0, hp1⟩, ⟨ha0, ha1⟩, hxo⟩ := hd
  dsimp only at hp0 hp1 ha0 ha1 hxo hp
  obtain ⟨p', hpp, hpn⟩ := next_p hp.1 hp.2
  clear hp
  unfold TDeed.val
  dsimp only
  go_enter Try.func13, Try.ntmps13
  go_upto_region 3 with (first | (go_at_call 37; refine (awake13_c _).mono ?_; rintro e w0 ⟨rfl, hb0⟩) | (go_at_call 44; refine (HR.out _ (Ext.trans (by repeat (first | exact Ext.refl _ | assumption | refine Ext.alloc ?_ _ | refine Ext.drew ?_ | refine Ext.setCell ?_ (by first | (simp; done) | (dsimp only; omega)) _ | refine Ext.trans ?_ (by assumption))) hb0)).mono ?_; rintro e w1 ⟨tb, cb, F, rfl, hC, hE, hF⟩))
  have hbx := (hb0.block w.heap.size (by simp)).trans (alloc_same ..)
  have E0 : Ext w w0 := Ext.trans (by repeat (first | exact Ext.refl _ | assumption | refine Ext.alloc ?_ _ | refine Ext.drew ?_ | refine Ext.setCell ?_ (by first | (simp; done) | (dsimp only; omega)) _ | refine Ext.trans ?_ (by assumption))) hb0
  have hlt0 := heap_lt hbx
  have hFw : ∀ x ∈ F, w.heap.size < x := fun x hx => by have := hF x hx; omega
  have B1 := Lib.hid ((hE.block _ hlt0).trans hbx)
  have HC := Lib.hid hC
  have HF := Lib.hid hFw
  have HE := Lib.hid (E0.trans hE)
  have hnd := Lib.hid hC.2.nodup
  have ⟨hr1, hr2⟩ := hC.2.room
  have hl1 := heap_lt B1.out
  clear hC hE hF hFw hb0 E0 hbx
  have hLokF : LOk (filtL p L) := hLok.sub List.filter_sublist
  have hl1' : ∀ w', TAt w' tb cb F L 5 → Calls Try.prog 40 #[.pointer (some ⟨tb, 0, none⟩), .int .i64 p', .int .u64 b] w' fun e w2 => e = .returned (lookV p' b L) ∧ Ext w' w2 := fun w' h => look_c tb cb F L 5 p' b w' h hLok hb0 hb1
  have hl2 : ∀ F6 w', TAt w' tb cb F6 (filtL p L) 5 → Calls Try.prog 40 #[.pointer (some ⟨tb, 0, none⟩), .int .i64 p, .int .u64 b] w' fun e w2 => e = .returned (lookV p b (filtL p L)) ∧ Ext w' w2 := fun F6 w' h => look_c tb cb F6 (filtL p L) 5 p b w' h hLokF hb0 hb1
  have hl3 : ∀ F6 w', TAt w' tb cb F6 (filtL p L) 5 → Calls Try.prog 40 #[.pointer (some ⟨tb, 0, none⟩), .int .i64 p', .int .u64 b] w' fun e w2 => e = .returned (lookV p' b L) ∧ Ext w' w2 := fun F6 w' h => by
    have := look_c tb cb F6 (filtL p L) 5 p' b w' h hLokF hb0 hb1
    unfold lookV at this ⊢
    rw [of_other hpn] at this
    exact this
  unfold lookV at hl1' hl2 hl3
  rw [of_none] at hl2
  generalize lookR p' b L = R at hl1' hl3
  generalize (lookR p b (filtL p L)).1 = H0 at hl2
  obtain ⟨⟨qf, ql, qa, qb, qc, qd⟩, s⟩ := R
  obtain ⟨zf, zl, za, zb, zc, zd⟩ := H0
  unfold Hit.val at hl1' hl2 hl3
  dsimp only at hl1' hl2 hl3
  have HL1 := Lib.hid (fun w' (hx : Ext w1 w') => hl1' w' (HC.out.ext hx))
  have HL2 := Lib.hid hl2
  have HL3 := Lib.hid hl3
  clear hl1' hl2 hl3
  have x1 := (heap_cell B1.out 1).trans rfl
  go_upto_region 6 with (first | (go_at_call 40; refine (HL1.out _ (by repeat (first | exact Ext.refl _ | assumption | refine Ext.alloc ?_ _ | refine Ext.drew ?_ | refine Ext.setCell ?_ (by first | (simp; done) | (dsimp only; omega)) _ | refine Ext.trans ?_ (by assumption)))).mono ?_; rintro e wk ⟨rfl, hbk⟩))
  refine wp_gen ?_; intro V5 hV
  have EPV5 : Ext w1 V5 := by rw [hV]; exact (Ext.trans (by repeat (first | exact Ext.refl _ | assumption | refine Ext.alloc ?_ _ | refine Ext.drew ?_ | refine Ext.setCell ?_ (by first | (simp; done) | (dsimp only; omega)) _ | refine Ext.trans ?_ (by assumption))) hbk).alloc _
  have n8 : V5.heap[wk.heap.size]? = some (.cells #[.int .u64 qf, .int .i64 ql, .bool qa, .bool qb, .bool qc, .bool qd] 70 (0, 0)) := by rw [hV]; exact alloc_same ..
  have hzb5 : w1.heap.size ≤ wk.heap.size := (Ext.trans (by repeat (first | exact Ext.refl _ | assumption | refine Ext.alloc ?_ _ | refine Ext.drew ?_ | refine Ext.setCell ?_ (by first | (simp; done) | (dsimp only; omega)) _ | refine Ext.trans ?_ (by assumption))) hbk : Ext w1 wk).size
  generalize wk.heap.size = b5 at n8 hzb5 ⊢
  have Nb5 := Lib.hid n8
  have HPV5 := Lib.hid EPV5
  clear hV hbk n8 EPV5
  have B5 := Lib.hid ((HPV5.out.block _ hl1).trans B1.out)
  have C5 := Lib.hid (HC.out.ext HPV5.out)
  have E5 := Lib.hid (HE.out.trans HPV5.out)
  clear x1
  have x1 := (heap_cell B5.out 1).trans rfl
  go_upto_region 7 with (first | (go_at_call 51; refine (tDropOf_c tb cb F L 5 p _ (C5.out.ext (by repeat (first | exact Ext.refl _ | assumption | refine Ext.alloc ?_ _ | refine Ext.drew ?_ | refine Ext.setCell ?_ (by first | (simp; done) | (dsimp only; omega)) _ | refine Ext.trans ?_ (by assumption))))).mono ?_; rintro e w6 ⟨rfl, F6, q1, q2, q3⟩))
  have C6 := Lib.hid q1
  have B6 := Lib.hid ((q2.block _ (heap_lt B5.out) (C5.out.2.apart B5.out (by decide) (by decide))).trans B5.out)
  have N56 := Lib.hid ((q2.block _ (heap_lt Nb5.out) (C5.out.2.apart Nb5.out (by decide) (by decide))).trans Nb5.out)
  have E6 := Lib.hid (Keeps.to_ext E5.out q2 fun x hx => Nat.le_of_lt (HF.out x hx))
  have F6h : Hid (∀ x ∈ F6, w.heap.size ≤ x) := Lib.hid fun x hx => (q3 x hx).elim (fun h => Nat.le_of_lt (HF.out x h)) fun h => Nat.le_trans E5.out.size h
  generalize filtL p L = L6 at *
  have HL26 := Lib.hid (fun w' (hx : Ext w6 w') => HL2.out F6 w' (C6.out.ext hx))
  clear q1 q2 q3 x1
  have x1 := (heap_cell B6.out 1).trans rfl
  go_upto_region 8 with (first | (go_at_call 40; refine (HL26.out _ (by repeat (first | exact Ext.refl _ | assumption | refine Ext.alloc ?_ _ | refine Ext.drew ?_ | refine Ext.setCell ?_ (by first | (simp; done) | (dsimp only; omega)) _ | refine Ext.trans ?_ (by assumption)))).mono ?_; rintro e wk ⟨rfl, hbk⟩))
  refine wp_gen ?_; intro V7 hV
  have EPV7 : Ext w6 V7 := by rw [hV]; exact (Ext.trans (by repeat (first | exact Ext.refl _ | assumption | refine Ext.alloc ?_ _ | refine Ext.drew ?_ | refine Ext.setCell ?_ (by first | (simp; done) | (dsimp only; omega)) _ | refine Ext.trans ?_ (by assumption))) hbk).alloc _
  have n8 : V7.heap[wk.heap.size]? = some (.cells #[.int .u64 zf, .int .i64 zl, .bool za, .bool zb, .bool zc, .bool zd] 70 (0, 0)) := by rw [hV]; exact alloc_same ..
  have hzb7 : w6.heap.size ≤ wk.heap.size := (Ext.trans (by repeat (first | exact Ext.refl _ | assumption | refine Ext.alloc ?_ _ | refine Ext.drew ?_ | refine Ext.setCell ?_ (by first | (simp; done) | (dsimp only; omega)) _ | refine Ext.trans ?_ (by assumption))) hbk : Ext w6 wk).size
  generalize wk.heap.size = b7 at n8 hzb7 ⊢
  have Nb7 := Lib.hid n8
  have HPV7 := Lib.hid EPV7
  clear hV hbk n8 EPV7
  have B7 := Lib.hid ((HPV7.out.block _ (heap_lt B6.out)).trans B6.out)
  have C7 := Lib.hid (C6.out.ext HPV7.out)
  have E7 := Lib.hid (E6.out.trans HPV7.out)
  have N57 := Lib.hid ((HPV7.out.block _ (heap_lt N56.out)).trans N56.out)
  have HL37 := Lib.hid (fun w' (hx : Ext V7 w') => HL3.out F6 w' (C7.out.ext hx))
  clear x1
  have x1 := (heap_cell B7.out 1).trans rfl
  go_upto_region 9 with (first | (go_at_call 40; refine (HL37.out _ (by repeat (first | exact Ext.refl _ | assumption | refine Ext.alloc ?_ _ | refine Ext.drew ?_ | refine Ext.setCell ?_ (by first | (simp; done) | (dsimp only; omega)) _ | refine Ext.trans ?_ (by assumption)))).mono ?_; rintro e wk ⟨rfl, hbk⟩))
  refine wp_gen ?_; intro V8 hV
  have EPV8 : Ext V7 V8 := by rw [hV]; exact (Ext.trans (by repeat (first | exact Ext.refl _ | assumption | refine Ext.alloc ?_ _ | refine Ext.drew ?_ | refine Ext.setCell ?_ (by first | (simp; done) | (dsimp only; omega)) _ | refine Ext.trans ?_ (by assumption))) hbk).alloc _
  have n8 : V8.heap[wk.heap.size]? = some (.cells #[.int .u64 qf, .int .i64 ql, .bool qa, .bool qb, .bool qc, .bool qd] 70 (0, 0)) := by rw [hV]; exact alloc_same ..
  have hzb8 : V7.heap.size ≤ wk.heap.size := (Ext.trans (by repeat (first | exact Ext.refl _ | assumption | refine Ext.alloc ?_ _ | refine Ext.drew ?_ | refine Ext.setCell ?_ (by first | (simp; done) | (dsimp only; omega)) _ | refine Ext.trans ?_ (by assumption))) hbk : Ext V7 wk).size
  generalize wk.heap.size = b8 at n8 hzb8 ⊢
  have Nb8 := Lib.hid n8
  have HPV8 := Lib.hid EPV8
  clear hV hbk n8 EPV8
  have B8 := Lib.hid ((HPV8.out.block _ (heap_lt B7.out)).trans B7.out)
  have C8 := Lib.hid (C7.out.ext HPV8.out)
  have E8 := Lib.hid (E7.out.trans HPV8.out)
  have N58 := Lib.hid ((HPV8.out.block _ (heap_lt N57.out)).trans N57.out)
  clear x1
  go_upto_region 10 with (first | (go_at_call 52; refine (tClear_c tb cb F6 L6 5 _ (C8.out.ext (by repeat (first | exact Ext.refl _ | assumption | refine Ext.alloc ?_ _ | refine Ext.drew ?_ | refine Ext.setCell ?_ (by first | (simp; done) | (dsimp only; omega)) _ | refine Ext.trans ?_ (by assumption))))).mono ?_; rintro e w9 ⟨rfl, F9, q1, q2, q3⟩))
  have C9 := Lib.hid q1
  have B9 := Lib.hid ((q2.block _ (heap_lt B8.out) (C8.out.2.apart B8.out (by decide) (by decide))).trans B8.out)
  have N59 := Lib.hid ((q2.block _ (heap_lt N58.out) (C8.out.2.apart N58.out (by decide) (by decide))).trans N58.out)
  have N89 := Lib.hid ((q2.block _ (heap_lt Nb8.out) (C8.out.2.apart Nb8.out (by decide) (by decide))).trans Nb8.out)
  have E9 := Lib.hid (Keeps.to_ext E8.out q2 F6h.out)
  clear q1 q2 q3
  have x4 := (heap_cell B9.out 4).trans rfl
  have x5 := (heap_cell B9.out 5).trans rfl
  have x6 := (heap_cell B9.out 6).trans rfl
  have x7 := (heap_cell B9.out 7).trans rfl
  have x8 := (heap_cell B9.out 8).trans rfl
  have x9 := (heap_cell B9.out 9).trans rfl
  have x10 := (heap_cell B9.out 10).trans rfl
  have x11 := (heap_cell B9.out 11).trans rfl
  have x12 := (heap_cell B9.out 12).trans rfl
  have x13 := (heap_cell B9.out 13).trans rfl
  have x14 := (heap_cell B9.out 14).trans rfl
  have x15 := (heap_cell B9.out 15).trans rfl
  go_upto_region 12 with (first | (go_at_call 45; refine (nsmall_c ⟨xf, xa, xb, xc, xd, xm⟩ _).mono ?_; rintro e m1 ⟨rfl, hm1⟩))
  clear x4 x5 x6 x7 x8 x9 x10 x11 x12 x13 x14 x15
  have B10 := Lib.hid ((hm1.block _ (heap_lt B9.out)).trans B9.out)
  have x10 := (heap_cell B10.out 10).trans rfl
  have x11 := (heap_cell B10.out 11).trans rfl
  have x12 := (heap_cell B10.out 12).trans rfl
  have x13 := (heap_cell B10.out 13).trans rfl
  have x14 := (heap_cell B10.out 14).trans rfl
  have x15 := (heap_cell B10.out 15).trans rfl
  go_upto_region 13 with (first | (go_at_call 47; refine (ngreat_c ⟨uf, ul, ua, ub, uc, ud⟩ _).mono ?_; rintro e m2 ⟨rfl, hm2⟩))
  clear x10 x11 x12 x13 x14 x15
  go_upto_region 14 with (first | (go_at_call 49; refine (ndrop_c _).mono ?_; rintro e m3 ⟨rfl, hm3⟩))
  go_upto_region 15 with (first | (go_at_call 51; refine (ndropOf_c 1 _).mono ?_; rintro e m4 ⟨rfl, hm4⟩))
  go_upto_region 16 with (first | (go_at_call 52; refine (nclear_c _).mono ?_; rintro e m5 ⟨rfl, hm5⟩))
  go_upto_region 17 with (first | (go_at_call 53; refine (nevict_c 0 _).mono ?_; rintro e m6 ⟨rfl, hm6⟩))
  have EM : Ext w9 m6 := hm1.trans (hm2.trans (hm3.trans (hm4.trans (hm5.trans hm6))))
  have HEM := Lib.hid EM
  clear hm1 hm2 hm3 hm4 hm5 hm6
  have HNL := Lib.hid (fun w' (_ : Ext m6 w') => nlook_c w')
  go_upto_region 18 with (first | (go_at_call 40; refine (HNL.out _ (by repeat (first | exact Ext.refl _ | assumption | refine Ext.alloc ?_ _ | refine Ext.drew ?_ | refine Ext.setCell ?_ (by first | (simp; done) | (dsimp only; omega)) _ | refine Ext.trans ?_ (by assumption)))).mono ?_; rintro e wk ⟨rfl, hbk⟩))
  refine wp_gen ?_; intro V9 hV
  have EPV9 : Ext m6 V9 := by rw [hV]; exact (Ext.trans (by repeat (first | exact Ext.refl _ | assumption | refine Ext.alloc ?_ _ | refine Ext.drew ?_ | refine Ext.setCell ?_ (by first | (simp; done) | (dsimp only; omega)) _ | refine Ext.trans ?_ (by assumption))) hbk).alloc _
  have n8 : V9.heap[wk.heap.size]? = some (.cells #[.int .u64 0, .int .i64 0, .bool false, .bool false, .bool false, .bool false] 70 (0, 0)) := by rw [hV]; exact alloc_same ..
  have hzb9 : m6.heap.size ≤ wk.heap.size := (Ext.trans (by repeat (first | exact Ext.refl _ | assumption | refine Ext.alloc ?_ _ | refine Ext.drew ?_ | refine Ext.setCell ?_ (by first | (simp; done) | (dsimp only; omega)) _ | refine Ext.trans ?_ (by assumption))) hbk : Ext m6 wk).size
  generalize wk.heap.size = b9 at n8 hzb9 ⊢
  have Nb9 := Lib.hid n8
  have HPV9 := Lib.hid EPV9
  clear hV hbk n8 EPV9
  have EV9 := HEM.out.trans HPV9.out
  have n5 := (EV9.block _ (heap_lt N59.out)).trans N59.out
  have n8 := (EV9.block _ (heap_lt N89.out)).trans N89.out
  have C10 := Lib.hid (C9.out.ext EV9)
  have E10 := Lib.hid (E9.out.trans EV9)
  have y0 := (heap_cell n5 0).trans rfl
  have y1 := (heap_cell n5 1).trans rfl
  have y2 := (heap_cell n5 2).trans rfl
  have y3 := (heap_cell n5 3).trans rfl
  have y4 := (heap_cell n5 4).trans rfl
  have y5 := (heap_cell n5 5).trans rfl
  have z0 := (heap_cell n8 0).trans rfl
  have z1 := (heap_cell n8 1).trans rfl
  have z2 := (heap_cell n8 2).trans rfl
  have z3 := (heap_cell n8 3).trans rfl
  have z4 := (heap_cell n8 4).trans rfl
  have z5 := (heap_cell n8 5).trans rfl
  have hBB : hitB ⟨qf, ql, qa, qb, qc, qd⟩ ⟨qf, ql, qa, qb, qc, qd⟩ = true := by simp [hitB]
  have lq : ∀ v w3, Ext V9 w3 → (v = .pointer none ∨ v = .pointer (some ⟨tb, 0, none⟩)) → Calls Try.prog 43 #[v] w3 fun e w' => e = .returned (.int .i64 0) ∧ Ext w3 w' := by
    rintro v w3 hx (rfl | rfl)
    · exact nlen_c w3
    · exact len_c tb cb F9 [] 5 w3 (C10.out.ext hx)
  have LQ := Lib.hid lq
  clear lq n5 n8 EV9
  go_wp2_with (first | (go_at_call 43; refine (LQ.out _ _ (by repeat (first | exact Ext.refl _ | assumption | refine Ext.alloc ?_ _ | refine Ext.drew ?_ | refine Ext.setCell ?_ (by first | (simp; done) | (dsimp only; omega)) _ | refine Ext.trans ?_ (by assumption))) (by first | exact .inl rfl | exact .inr rfl)).mono ?_; rintro e wm ⟨rfl, hbm⟩) | (go_at_call 54; refine (near0_c _).mono ?_; rintro e wm ⟨rfl, hbm⟩))
  go_ret
  exact ⟨rfl, E10.out.trans (by repeat (first | exact Ext.refl _ | assumption | refine Ext.alloc ?_ _ | refine Ext.drew ?_ | refine Ext.setCell ?_ (by first | (simp; done) | (dsimp only; omega)) _ | refine Ext.trans ?_ (by assumption)))⟩
end Go.Proofs.Ytnacgmmkmedpdaa
