/- TlbGreat: a great page that is put is found all over it, where no small one is: for all deeds, every deed and every place. -/
import Derived.Test.YtnacgmmkmedpdaaTlbK
import Derived.Test.YtnacgmmkmedpdaaPuts
namespace Go.Proofs.Ytnacgmmkmedpdaa
set_option linter.unusedVariables false
set_option linter.unusedSimpArgs false
open Go.RowKit
attribute [local go_sem] wext_cell wext_frozen wext_heap alloc_cell alloc_frozen alloc_heap setCell_cell objCell_cells objFrozen_cells
attribute [local go_sem high] hit_eql

theorem i64_and1 (n : Int) : bits .and .i64 n 1 = n % 2 := by
  have h1 : (BitVec.ofInt 64 1).toNat = 2 ^ 1 - 1 := by decide
  have key : (BitVec.ofInt 64 n &&& BitVec.ofInt 64 1).toNat = (n % ((2 ^ 64 : Nat) : Int)).toNat % 2 ^ 1 := by
    rw [BitVec.toNat_and, BitVec.toNat_ofInt, h1, Nat.and_two_pow_sub_one_eq_mod]
  show IntKind.i64.wrap ((BitVec.ofInt 64 n &&& BitVec.ofInt 64 1).toNat : Nat) = n % 2
  rw [key, IntKind.wrap_i64]
  omega
theorem TAt.storeD {w : World} {tb cb b i : Nat} {F : List Nat} {L : List (Key × Line)} {r : Nat} {c : Array Value} {v0 : Value} (h : TAt w tb cb F L r) (hb : w.heap[b]? = some (.cells c 72 (0, 0))) :
    TAt (w.setCell ⟨b, i, none⟩ v0) tb cb F L r :=
  ⟨(setCell_heap _ _ _ _ _ (fun e => by rw [e, h.1] at hb; simp at hb)).trans h.1, h.2.keeps (G := [b]) ((Keeps.refl _ _).setCell (.inl (by simp)) _) fun x hx => by
    simp only [List.mem_singleton]
    rintro rfl
    exact h.2.apart hb (by decide) (by decide) hx⟩

theorem great_look {p a b lv : Int} {x : Hit} {pick : Int} {r : Nat} {L : List (Key × Line)} (hlv : lv = 2 ∨ lv = 3) (hx : x.l = lv) (hk : kT p lv b = kT p lv a) (hr : 0 < r) (hL : L.length ≤ r) (hn : (keysOf L).Nodup) :
    ∃ H, lookR p b (greatL p a x pick r L) = (H, true) ∧ (H = x ∨ H.l < lv) := by
  have hgr : greatL p a x pick r L = putC (kT p lv a) ⟨x.f, x.a, x.b, x.c, x.d, 0⟩ pick r L := by unfold greatL; rw [if_pos (by omega), hx]
  have ⟨g1, g2⟩ := put_got (kT p lv a) ⟨x.f, x.a, x.b, x.c, x.d, 0⟩ pick r L hr hL hn
  rw [← hgr, ← hk] at g1 g2
  generalize greatL p a x pick r L = L' at g1 g2
  unfold lookR resR
  rcases hlv with rfl | rfl
  · split
    · exact ⟨_, rfl, .inr (by simp)⟩
    · rw [g1]
      exact ⟨_, rfl, .inl (by cases x; dsimp only at *; subst hx; rfl)⟩
  · split
    · exact ⟨_, rfl, .inr (by simp)⟩
    · split
      · exact ⟨_, rfl, .inr (by simp)⟩
      · rw [g1]
        exact ⟨_, rfl, .inl (by cases x; dsimp only at *; subst hx; rfl)⟩

set_option maxHeartbeats 4000000 in
set_option maxRecDepth 20000 in
theorem tlbGreat_c (v : Value) (ds : List TDeed) (d : TDeed) (off : Int) (ho0 : 0 ≤ off) (ho1 : off ≤ 18446744073709551615) (w : World) (hds : TDeedsAt w v ds) (hd : d.ok) :
    Calls Try.prog 11 #[v, d.val, .int .u64 off] w fun e w' => e = .returned (.bool true) ∧ Ext w w' := by
  have hrun := fun w' (hx : Ext w w') => run13_c v ds w' (hds.ext hx)
  obtain ⟨va, cap, rfl, hn, hm, hok, -⟩ := hds
  unfold EndRunT at hrun
  have hLok := foldT_ok100 5 ds hok
  obtain ⟨L, hLe⟩ : ∃ L, foldT 5 (ds.take 100) = L := ⟨_, rfl⟩
  rw [hLe] at hrun hLok
  clear hLe
  have HR := Lib.hid hrun
  clear hrun hok
  obtain ⟨kind, p, pick, a, ⟨xf, xa, xb, xc, xd, xm⟩, ⟨uf, ul, ua, ub, uc, ud⟩⟩ := d
  obtain ⟨⟨hp0, hp1⟩, ⟨ha0, ha1⟩, hxo⟩ := hd
  dsimp only at hp0 hp1 ha0 ha1 hxo
  unfold TDeed.val
  dsimp only
  go_enter Try.func11, Try.ntmps11
  go_upto_region 3 with (first | (go_at_call 37; refine (awake13_c _).mono ?_; rintro e w0 ⟨rfl, hb0⟩) | (go_at_call 44; refine (HR.out _ (Ext.trans (by repeat (first | exact Ext.refl _ | assumption | refine Ext.alloc ?_ _ | refine Ext.drew ?_ | refine Ext.setCell ?_ (by first | (simp; done) | (dsimp only; omega)) _ | refine Ext.trans ?_ (by assumption))) hb0)).mono ?_; rintro e w1 ⟨tb, cb, F, rfl, hC, hE, hF⟩))
  have hbx := (hb0.block w.heap.size (by simp)).trans (alloc_same ..)
  have E0 : Ext w w0 := Ext.trans (by repeat (first | exact Ext.refl _ | assumption | refine Ext.alloc ?_ _ | refine Ext.drew ?_ | refine Ext.setCell ?_ (by first | (simp; done) | (dsimp only; omega)) _ | refine Ext.trans ?_ (by assumption))) hb0
  have hlt0 := heap_lt hbx
  have hFw : ∀ x ∈ F, w.heap.size < x := fun x hx => by have := hF x hx; omega
  have B1 := Lib.hid ((hE.block _ hlt0).trans hbx)
  have HC := Lib.hid hC
  have HF := Lib.hid hFw
  have HE := Lib.hid (E0.trans hE)
  have hnd := Lib.hid hC.2.nodup
  have ⟨hr1, hr2⟩ := hC.2.room
  have hl1 := heap_lt B1.out
  clear hC hE hF hFw hb0 E0 hbx
  have hand := i64_and1 ul
  have x11 := (heap_cell B1.out 11).trans rfl
  have bf := frozen_of B1.out
  go_upto_region 6 with (fail)
  refine wp_gen ?_; intro W hW
  obtain ⟨lv, hlv, hlv2⟩ : ∃ lv, 2 + ul % 2 = lv ∧ (lv = 2 ∨ lv = 3) := ⟨_, rfl, by omega⟩
  have BW : Hid (W.heap[w.heap.size]? = some (.cells #[.int .i64 kind, .int .i64 p, .int .i64 pick, .int .u64 a, .int .u64 xf, .bool xa, .bool xb, .bool xc, .bool xd, .int .u8 xm, .int .u64 uf, .int .i64 lv, .bool ua, .bool ub, .bool uc, .bool ud] 72 (0, 0))) := Lib.hid (by rw [hW, ← hlv]; exact (setCell_heap_same B1.out).trans rfl)
  have CW : Hid (TAt W tb cb F L 5) := Lib.hid (by rw [hW]; exact HC.out.storeD B1.out)
  have EW : Hid (Ext w W) := Lib.hid (by rw [hW]; exact HE.out.setCell (by simp) _)
  clear hW x11 bf hand hlv
  have x1 := (heap_cell BW.out 1).trans rfl
  have x2 := (heap_cell BW.out 2).trans rfl
  have x3 := (heap_cell BW.out 3).trans rfl
  have x10 := (heap_cell BW.out 10).trans rfl
  have x11 := (heap_cell BW.out 11).trans rfl
  have x12 := (heap_cell BW.out 12).trans rfl
  have x13 := (heap_cell BW.out 13).trans rfl
  have x14 := (heap_cell BW.out 14).trans rfl
  have x15 := (heap_cell BW.out 15).trans rfl
  have hlW := heap_lt BW.out
  obtain ⟨sz, hsz, hsz2⟩ : ∃ sz, sizeI lv = sz ∧ (sz = 2097152 ∨ sz = 1073741824) := ⟨_, rfl, by rcases hlv2 with rfl | rfl <;> simp [sizeI]⟩
  have hsize : ∀ w, Calls Try.prog 48 #[.int .i64 lv] w fun e w' => e = .returned (.int .u64 sz) ∧ Ext w w' := fun w => by rw [← hsz]; exact refSize_c lv w
  have hgl := fun b hk => great_look (p := p) (a := a) (b := b) (x := ⟨uf, lv, ua, ub, uc, ud⟩) (pick := pick) (r := 5) (L := L) hlv2 rfl hk (by omega) hr1 hnd.out
  have hkT : ∀ b, b / sz = a / sz → kT p lv b = kT p lv a := fun b hb => by
    unfold kT szT
    rcases hlv2 with rfl | rfl
    · have : sz = 2097152 := by rw [← hsz]; rfl
      subst this; simp [hb]
    · have : sz = 1073741824 := by rw [← hsz]; rfl
      subst this; simp [hb]
  have hLok' : LOk (greatL p a ⟨uf, lv, ua, ub, uc, ud⟩ pick 5 L) := by
    unfold greatL
    rw [if_pos hlv2]
    exact hLok.put ⟨by simp, by simp⟩
  have HGL := Lib.hid hgl
  have HKT := Lib.hid hkT
  clear hgl hkT hsz
  go_upto_region 7 with (first | (go_at_call 47; refine (great_c tb cb F L 5 p a ⟨uf, lv, ua, ub, uc, ud⟩ pick _ (CW.out.ext (by repeat (first | exact Ext.refl _ | assumption | refine Ext.alloc ?_ _ | refine Ext.drew ?_ | refine Ext.setCell ?_ (by first | (simp; done) | (dsimp only; omega)) _ | refine Ext.trans ?_ (by assumption)))) ha0 ha1 hp0 hp1).mono ?_; rintro e w3 ⟨rfl, F3, hC3, hK3, hF3⟩))
  generalize greatL p a ⟨uf, lv, ua, ub, uc, ud⟩ pick 5 L = L' at *
  have B3 := Lib.hid ((hK3.block _ hlW (fun h => by have := HF.out _ h; omega)).trans BW.out)
  have C3 := Lib.hid hC3
  have E3 := Lib.hid (Keeps.to_ext EW.out hK3 fun x hx => Nat.le_of_lt (HF.out x hx))
  clear hC3 hK3 hF3 x1 x2 x3 x10 x11 x12 x13 x14 x15
  have x11 := (heap_cell B3.out 11).trans rfl
  go_upto_region 8 with (first | (go_at_call 48; refine (hsize _).mono ?_; rintro e w4 ⟨rfl, hb4⟩))
  have B4 := Lib.hid ((hb4.block _ (heap_lt B3.out)).trans B3.out)
  have C4 := Lib.hid (C3.out.ext hb4)
  have E4 := Lib.hid (E3.out.trans hb4)
  have hl4 := heap_lt B4.out
  clear hb4 x11 hsize
  have x1 := (heap_cell B4.out 1).trans rfl
  have x3 := (heap_cell B4.out 3).trans rfl
  have hb1 : 0 ≤ a / sz * sz + off % sz ∧ a / sz * sz + off % sz ≤ 18446744073709551615 ∧ (a / sz * sz + off % sz) / sz = a / sz := by
    rcases hsz2 with rfl | rfl <;> (refine ⟨?_, ?_, ?_⟩ <;> omega)
  have hszp : 0 < sz := by omega
  have hsz0 : (sz == 0) = false := by rcases hsz2 with rfl | rfl <;> rfl
  have hw1 : a / sz * sz ≤ 18446744073709551615 ∧ 0 ≤ a / sz * sz := by rcases hsz2 with rfl | rfl <;> omega
  have hw2 : 0 ≤ off % sz ∧ off % sz < sz := ⟨Int.emod_nonneg _ (by omega), Int.emod_lt_of_pos _ hszp⟩
  obtain ⟨H, hH1, hH2⟩ := HGL.out _ (HKT.out _ hb1.2.2)
  have hlook := fun w1 (hx : Ext w4 w1) => look_c tb cb F3 L' 5 p (a / sz * sz + off % sz) w1 (C4.out.ext hx) hLok' hb1.1 hb1.2.1
  unfold lookV at hlook
  rw [hH1] at hlook
  obtain ⟨qf, ql, qa, qb, qc, qd⟩ := H
  unfold Hit.val at hlook
  dsimp only at hlook hH2
  have HLK := Lib.hid hlook
  clear hlook hH1
  rcases hsz2 with rfl | rfl
  all_goals
    go_upto_region 8 with (fail)
    refine region_mixA 17 (.cells #[.int .u64 0, .int .i64 0, .bool false, .bool false, .bool false, .bool false] 70 (0, 0)) [.q [0, 1, 2, 3, 4, 5, 6, 7, 8, 9, 10, 11, 12], .l 13 5, .b [14, 15, 16], .l 17 4, .l 18 2, .q [19]] (by kernel_rfl) (by kernel_rfl) (alloc_runA rfl (by kernel_rfl : _ = some (some (Value.agg (#[.int .u64 0, .int .i64 0, .bool false, .bool false, .bool false, .bool false])))) rfl) ?_
    (repeat (unfold wpPlanA; simp only [pickL, List.map_cons, List.map_nil, List.getD_cons_succ, List.getD_cons_zero]; (repeat go_big_quiet_step (fail)); refine wpQuiet_nil ?_)); unfold wpPlanA; intro p1 hp1; (try simp only [pickL, List.map_cons, List.map_nil, List.getD_cons_succ, List.getD_cons_zero])
    go_wp2_with (first | (go_at_call 40; refine (HLK.out _ hp1).mono ?_; rintro e p2 ⟨rfl, hp2⟩))
    have s1 := hp1.size
    have s2 := hp2.size
    refine ⟨⟨by omega, fun _ => hp2, fun h => absurd h (by omega)⟩, ?_⟩
    have HP2 := Lib.hid (hp1.trans hp2)
    clear hp1 hp2
    (repeat (unfold wpPlanA; simp only [pickL, List.map_cons, List.map_nil, List.getD_cons_succ, List.getD_cons_zero]; (repeat go_big_quiet_step (fail)); refine wpQuiet_nil ?_)); unfold wpPlanA; intro b p6 hp6 hp6B hp6O; simp only [List.getD_cons_succ, List.getD_cons_zero, ptrTo]; simp only [Act.put, Array.set!_eq_setIfInBounds, List.setIfInBounds_toArray, List.set_cons_succ, List.set_cons_zero]
    have HP6 := Lib.hid (HP2.out.trans hp6)
    have O6 := Lib.hid hp6O
    have hlb := heap_lt hp6O
    have s6 := hp6.size
    clear hp6 hp6O
    (repeat (unfold wpPlanA; simp only [pickL, List.map_cons, List.map_nil, List.getD_cons_succ, List.getD_cons_zero]; (repeat go_big_quiet_step (fail)); refine wpQuiet_nil ?_)); unfold wpPlanA; intro p7 hp7; (try simp only [pickL, List.map_cons, List.map_nil, List.getD_cons_succ, List.getD_cons_zero])
    have b7 := (hp7.block b hlb).trans O6.out
    have g0 := (heap_cell b7 0).trans rfl
    have g1 := (heap_cell b7 1).trans rfl
    have g2 := (heap_cell b7 2).trans rfl
    have g3 := (heap_cell b7 3).trans rfl
    have g4 := (heap_cell b7 4).trans rfl
    have g5 := (heap_cell b7 5).trans rfl
    have g6 := frozen_of b7
    have B7 := Lib.hid b7
    have HP7 := Lib.hid (HP6.out.trans hp7)
    have s7 := HP7.out.size
    have s67 := hp7.size
    clear b7 hp7
    go_wp2
    refine ⟨⟨by simp; omega, fun h => absurd h (by omega), fun h => absurd h (by omega)⟩, ?_⟩
    (repeat (unfold wpPlanA; simp only [pickL, List.map_cons, List.map_nil, List.getD_cons_succ, List.getD_cons_zero]; (repeat go_big_quiet_step (fail)); refine wpQuiet_nil ?_)); unfold wpPlanA; intro p9 hp9; (try simp only [pickL, List.map_cons, List.map_nil, List.getD_cons_succ, List.getD_cons_zero])
    have s9 := hp9.size
    simp only [World.size_setCell] at s9
    have E9 : Ext w4 p9 := (ext6 HP7.out hp6B).trans hp9
    have b9 := (hp9.block b (by simp; omega)).trans (store6_heap B7.out)
    have d9 := (E9.block _ hl4).trans B4.out
    have HE9 := Lib.hid (E4.out.trans E9)
    clear hp9 E9 g0 g1 g2 g3 g4 g5 g6 x1 x3
    have y0 := (heap_cell b9 0).trans rfl
    have y1 := (heap_cell b9 1).trans rfl
    have y2 := (heap_cell b9 2).trans rfl
    have y3 := (heap_cell b9 3).trans rfl
    have y4 := (heap_cell b9 4).trans rfl
    have y5 := (heap_cell b9 5).trans rfl
    have z0 := (heap_cell d9 10).trans rfl
    have z1 := (heap_cell d9 11).trans rfl
    have z2 := (heap_cell d9 12).trans rfl
    have z3 := (heap_cell d9 13).trans rfl
    have z4 := (heap_cell d9 14).trans rfl
    have z5 := (heap_cell d9 15).trans rfl
    clear b9 d9
    rcases hH2 with hH2 | hH2
    · have hBB : hitB ⟨qf, ql, qa, qb, qc, qd⟩ ⟨uf, lv, ua, ub, uc, ud⟩ = true := by simp [hitB, hH2]
      clear hH2
      go_wp2
      go_ret
      exact ⟨rfl, HE9.out.trans (by repeat (first | exact Ext.refl _ | assumption | refine Ext.alloc ?_ _ | refine Ext.drew ?_ | refine Ext.setCell ?_ (by first | (simp; done) | (dsimp only; omega)) _ | refine Ext.trans ?_ (by assumption)))⟩
    · have hH3 : decide (ql < lv) = true := by simpa using hH2
      cases hBB : hitB ⟨qf, ql, qa, qb, qc, qd⟩ ⟨uf, lv, ua, ub, uc, ud⟩
      · go_wp2
        go_ret
        exact ⟨rfl, HE9.out.trans (by repeat (first | exact Ext.refl _ | assumption | refine Ext.alloc ?_ _ | refine Ext.drew ?_ | refine Ext.setCell ?_ (by first | (simp; done) | (dsimp only; omega)) _ | refine Ext.trans ?_ (by assumption)))⟩
      · go_wp2
        go_ret
        exact ⟨rfl, HE9.out.trans (by repeat (first | exact Ext.refl _ | assumption | refine Ext.alloc ?_ _ | refine Ext.drew ?_ | refine Ext.setCell ?_ (by first | (simp; done) | (dsimp only; omega)) _ | refine Ext.trans ?_ (by assumption)))⟩
end Go.Proofs.Ytnacgmmkmedpdaa
