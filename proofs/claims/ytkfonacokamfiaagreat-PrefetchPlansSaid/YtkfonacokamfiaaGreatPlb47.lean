/- Joined texts, part 47 of what the law stands on: each as its own head says. -/
import Derived.Test.YtkfonacokamfiaaGreatPlb37
import Derived.Test.YtkfonacokamfiaaGreatPlb38
import Derived.Test.YtkfonacokamfiaaGreatPlb46
/- PrefetchPlans: which pages are planned of any address; which slots any page's path has, in any memory, which isn't changed. -/
namespace Go.Proofs.YtkfonacokamfiaaGreat
set_option linter.unusedVariables false
set_option linter.unusedSimpArgs false
open Go.RowKit
attribute [local go_sem] wext_cell wext_frozen wext_heap alloc_cell alloc_frozen alloc_heap setCell_cell objCell_cells objFrozen_cells

theorem plan_one {a : Int} {m k k' : Nat} (h1 : k ≤ m) (p1 : ∀ j, j < k → nextB (itB a j) = true) (d1 : k = m ∨ nextB (itB a k) = false) (h2 : k' ≤ m) (p2 : ∀ j, j < k' → nextB (itB a j) = true) (d2 : k' = m ∨ nextB (itB a k') = false) : k' = k := by
  rcases Nat.lt_trichotomy k k' with h | h | h
  · rcases d1 with d1 | d1
    · omega
    · rw [p2 k h] at d1; cases d1
  · exact h.symm
  · rcases d2 with d2 | d2
    · omega
    · rw [p1 k' h] at d2; cases d2
def planT (a : Int) (k : Nat) : List Int := (List.range k).map fun j => itB a (j + 1)
theorem planT_len (a : Int) (k : Nat) : (planT a k).length = k := by simp [planT]
theorem plan_tr {w : World} {a : Int} {k : Nat} {la : Option Addr} {lc : Nat} (h : Owns w 23 1 (.slice la k lc) k (rowB a k)) : TrAt w la lc (planT a k) := by
  unfold TrAt
  rw [planT_len]
  have e : (planT a k).map (Value.int .u64 ·) = rowB a k := by simp [planT, rowB]
  rw [e]; exact h
theorem path_len (M : Int → Int) (root : Int) (nxe : Bool) (a : Int) : (pathF M root nxe a).length ≤ 4 := by
  unfold pathF
  split
  · rw [List.length_map]; exact walk_len 4 _ allRt
  · simp

set_option maxHeartbeats 4000000 in
set_option maxRecDepth 100000 in
theorem prefetchPlans_c (v : Value) (ds : List PutD) (a : Int) (u : Who) (kd room many : Int) (us ac wp sp sm : Bool) (w : World) (h : ListAt w v 4 PutD.cells PutD.ok ds) (ha0 : 0 ≤ a) (ha1 : a ≤ 18446744073709551615) (hu : u.ok) (hm0 : -9223372036854775808 ≤ many) (hm1 : many ≤ 9223372036854775807) :
    Calls Tryz.prog 3 #[v, .int .u64 a, .agg #[.int .u64 u.root, .int .i64 kd, .bool us, .bool ac, .bool wp, .bool u.nxe, .bool sp, .bool sm, .int .i64 u.p, .int .i64 u.k0, .int .i64 u.k1, .int .i64 u.k2, .int .i64 u.k3, .int .u8 room, .int .i64 many]] w fun e w' => e = .returned (.bool true) ∧ Ext w w' := by
  have HAw := Lib.hid (fun w => awake15_c w)
  have HBu := Lib.hid (fun w1 (k : Ext w w1) => built15_c v ds w1 (h.ext k))
  have HRB := Lib.hid (fun w1 (k : Ext w w1) => rBuilt_c v ds w1 (h.ext k))
  have HPl := Lib.hid (fun w => plan_c a many w ha0 ha1 hm0 hm1)
  have HRP := Lib.hid (fun w => rPlan_c a many w ha0 ha1 hm0 hm1)
  have hm8 : (min many 8).toNat ≤ 1000000 := by omega
  generalize (min many 8).toNat = m at HPl HRP hm8
  have hr := hu.2.2
  clear h hu hm0 hm1
  obtain ⟨up, uk0, uk1, uk2, uk3, ur, un⟩ := u
  dsimp only at hr ⊢
  obtain ⟨hr0, hr1⟩ := hr
  go_enter Tryz.func3, Tryz.ntmps3
  go_upto_region 2 with (first | (go_at_call 5; refine (HAw.out _).mono ?_; rintro e w1 ⟨rfl, hb1⟩))
  have hE1 : Ext w w1 := ((Ext.refl w).alloc _).trans hb1
  have hB1 : w1.heap[w.heap.size]? = some (.cells #[.int .u64 ur, .int .i64 kd, .bool us, .bool ac, .bool wp, .bool un, .bool sp, .bool sm, .int .i64 up, .int .i64 uk0, .int .i64 uk1, .int .i64 uk2, .int .i64 uk3, .int .u8 room, .int .i64 many] 34 (0, 0)) := (hb1.block _ (by simp)).trans (alloc_same ..)
  obtain ⟨db, hdb⟩ : ∃ db, w.heap.size = db := ⟨_, rfl⟩
  rw [hdb] at hB1 ⊢
  have E1 := Lib.hid hE1
  have B1 := Lib.hid hB1
  clear hdb hE1 hB1 hb1
  go_upto_region 3 with (first | (go_at_call 6; refine (HBu.out _ E1.out).mono ?_; rintro e w2 ⟨mb, Fm, rfl, hC, hb2, hF, hmb⟩))
  have C2 := Lib.hid hC
  have E2 := Lib.hid (E1.out.trans hb2)
  have B2 := Lib.hid ((hb2.block _ (heap_lt B1.out)).trans B1.out)
  clear hC hb2 hF hmb
  go_upto_region 6 with (first | (go_at_call 7; refine (HRB.out _ (E2.out.trans (by repeat (first | exact Ext.refl _ | assumption | refine Ext.alloc ?_ _ | refine Ext.drew ?_ | refine Ext.setCell ?_ (by first | (simp; done) | (dsimp only; omega)) _ | refine Ext.trans ?_ (by assumption))))).mono ?_; rintro e w3 ⟨sa, sc, S, rfl, hS, hok, hSl, hE3⟩))
  refine wp_gen ?_; intro U hU
  have hUE : Ext w2 U := by rw [hU]; exact (Ext.trans (by repeat (first | exact Ext.refl _ | assumption | refine Ext.alloc ?_ _ | refine Ext.drew ?_ | refine Ext.setCell ?_ (by first | (simp; done) | (dsimp only; omega)) _ | refine Ext.trans ?_ (by assumption))) hE3).alloc _
  have hUb : U.heap[w3.heap.size]? = some (.cells #[.int .i64 16, .slice sa S.length sc, .slice none 0 0] 41 (0, 0)) := by rw [hU]; exact alloc_same ..
  have hUS : SAt U sa sc S := by rw [hU]; exact SAt.ext hS ((Ext.refl _).alloc _)
  obtain ⟨xb, hxb⟩ : ∃ xb, w3.heap.size = xb := ⟨_, rfl⟩
  rw [hxb] at hUb ⊢
  generalize builtM (ds.take 100) = M at C2 hok
  have UE := Lib.hid (E2.out.trans hUE)
  have UC := Lib.hid (C2.out.ext hUE)
  have UB := Lib.hid ((hUE.block _ (heap_lt B2.out)).trans B2.out)
  have UX := Lib.hid hUb
  have US := Lib.hid hUS
  have OK := Lib.hid hok
  clear hU hUE hUb hUS hxb hS hok hE3
  have HPa := Lib.hid (fun w1 h => path_c mb Fm M [] ur kd a us ac wp un sp sm w1 h hr0 hr1 ha0 ha1)
  have HRPa := Lib.hid (fun w1 h => rPath_c sa sc S M ur kd a us ac wp un sp sm w1 h OK.out (by omega) hr0 hr1 ha0 ha1)
  have hpl := path_len M ur un a
  generalize pathF M ur un a = E at HPa HRPa hpl
  have HSa := Lib.hid (fun w1 h1 h2 h3 => same15_c mb Fm M [] S sa none sc 0 w1 h1 h2 h3 OK.out (by omega) (by simp))
  have y0 := (heap_cell UB.out 0).trans rfl
  have y1 := (heap_cell UB.out 1).trans rfl
  have y2 := (heap_cell UB.out 2).trans rfl
  have y3 := (heap_cell UB.out 3).trans rfl
  have y4 := (heap_cell UB.out 4).trans rfl
  have y5 := (heap_cell UB.out 5).trans rfl
  have y6 := (heap_cell UB.out 6).trans rfl
  have y7 := (heap_cell UB.out 7).trans rfl
  have yl := heap_lt UB.out
  go_upto_region 7 with (first | (go_at_call 8; refine (HPa.out _ (UC.out.ext (by repeat (first | exact Ext.refl _ | assumption | refine Ext.alloc ?_ _ | refine Ext.drew ?_ | refine Ext.setCell ?_ (by first | (simp; done) | (dsimp only; omega)) _ | refine Ext.trans ?_ (by assumption))))).mono ?_; rintro e w4 ⟨v4, rfl, o4, -, hb4⟩; obtain ⟨a4, c4, rfl, -, -⟩ := o4.form))
  have C4 := Lib.hid (UC.out.ext hb4)
  have E4 := Lib.hid (UE.out.trans hb4)
  have B4 := Lib.hid ((hb4.block _ (heap_lt UB.out)).trans UB.out)
  have X4 := Lib.hid ((hb4.block _ (heap_lt UX.out)).trans UX.out)
  have S4 := Lib.hid (SAt.ext US.out hb4)
  have P4 : Hid (TrAt w4 a4 c4 E) := Lib.hid o4
  clear o4 hb4 y0 y1 y2 y3 y4 y5 y6 y7 yl UC UE UB UX US HPa HBu HRB C2 E2 B2 E1 B1
  have y0 := (heap_cell B4.out 0).trans rfl
  have y1 := (heap_cell B4.out 1).trans rfl
  have y2 := (heap_cell B4.out 2).trans rfl
  have y3 := (heap_cell B4.out 3).trans rfl
  have y4 := (heap_cell B4.out 4).trans rfl
  have y5 := (heap_cell B4.out 5).trans rfl
  have y6 := (heap_cell B4.out 6).trans rfl
  have y7 := (heap_cell B4.out 7).trans rfl
  have y14 := (heap_cell B4.out 14).trans rfl
  have yl := heap_lt B4.out
  have x0 := (heap_cell X4.out 0).trans rfl
  have x1 := (heap_cell X4.out 1).trans rfl
  have x2 := (heap_cell X4.out 2).trans rfl
  have xl := heap_lt X4.out
  refine region_mixG [.q [0, 1, 2, 3, 4, 6, 7, 8], .l 5 3, .l 9 3, .l 10 3, .q [11, 12, 13, 14, 15, 16, 17], .l 18 3, .l 19 3, .q [20, 21, 22, 23], .l 24 3, .q [25, 26]] (by kernel_rfl) (by kernel_rfl) ?_
  (try refine ⟨fun h => absurd h (by simp), ?_⟩); (repeat (unfold wpPlan; simp only [pickL, List.map_cons, List.map_nil, List.getD_cons_succ, List.getD_cons_zero]; (repeat go_big_quiet_step (fail)); refine wpQuiet_nil ?_)); unfold wpPlan; intro u1 hu1; (try simp only [pickL, List.map_cons, List.map_nil, List.getD_cons_succ, List.getD_cons_zero])
  go_wp2_with (first | (go_at_call 10; refine (HPl.out _).mono ?_; rintro e u2 ⟨pv, k, rfl, hO, hk, hp, hd, hE2⟩; obtain ⟨pa, pcap, rfl, -, -⟩ := hO.form))
  refine ⟨?_, ?_⟩
  · (try intro _); exact hu1.trans hE2
  have HU2 := Lib.hid (hu1.trans hE2)
  have HO2 := Lib.hid (plan_tr hO)
  have HK2 := Lib.hid (And.intro hk (And.intro hp hd))
  clear hu1 hE2 hO hk hp hd
  (try refine ⟨fun h => absurd h (by simp), ?_⟩); (repeat (unfold wpPlan; simp only [pickL, List.map_cons, List.map_nil, List.getD_cons_succ, List.getD_cons_zero]; (repeat go_big_quiet_step (fail)); refine wpQuiet_nil ?_)); unfold wpPlan; intro u3 hu3; (try simp only [pickL, List.map_cons, List.map_nil, List.getD_cons_succ, List.getD_cons_zero])
  go_wp2_with (first | (go_at_call 11; refine (HRP.out _).mono ?_; rintro e u4 ⟨pv2, k2, rfl, hO, hk, hp, hd, hE4⟩; obtain rfl := plan_one HK2.out.1 HK2.out.2.1 HK2.out.2.2 hk hp hd; obtain ⟨pa2, pcap2, rfl, -, -⟩ := hO.form))
  refine ⟨?_, ?_⟩
  · (try intro _); exact hu3.trans hE4
  have HU4 := Lib.hid (HU2.out.trans (hu3.trans hE4))
  have HO3 := Lib.hid (TrAt.ext HO2.out (hu3.trans hE4))
  have HO4 := Lib.hid (plan_tr hO)
  have hkl : k2 ≤ 1000000 := by have := hk; omega
  clear hu3 hE4 hO hk hp hd
  (try refine ⟨fun h => absurd h (by simp), ?_⟩); (repeat (unfold wpPlan; simp only [pickL, List.map_cons, List.map_nil, List.getD_cons_succ, List.getD_cons_zero]; (repeat go_big_quiet_step (fail)); refine wpQuiet_nil ?_)); unfold wpPlan; intro u5 hu5; (try simp only [pickL, List.map_cons, List.map_nil, List.getD_cons_succ, List.getD_cons_zero])
  have hsm := rSame_c pa pa2 (planT a k2) (planT a k2) pcap pcap2 u5 (TrAt.ws (TrAt.ext HO3.out hu5)) (TrAt.ws (TrAt.ext HO4.out hu5)) (by rw [planT_len]; exact hkl) (by rw [planT_len]; exact hkl)
  rw [decide_eq_true (rfl : planT a k2 = planT a k2), planT_len] at hsm
  have HSM := Lib.hid hsm
  clear hsm
  go_wp2_with (first | (go_at_call 9; refine HSM.out.mono ?_; rintro e u6 ⟨rfl, hE6⟩))
  refine ⟨?_, ?_⟩
  · (try intro _); exact hu5.trans hE6
  have HU6 := Lib.hid (HU4.out.trans (hu5.trans hE6))
  clear hu5 hE6 y0 y1 y2 y3 y4 y5 y6 y7 y14 yl x0 x1 x2 xl HSM
  have b6 := (HU6.out.block _ (heap_lt B4.out)).trans B4.out
  have c6 := (HU6.out.block _ (heap_lt X4.out)).trans X4.out
  have y0 := (heap_cell b6 0).trans rfl
  have y1 := (heap_cell b6 1).trans rfl
  have y2 := (heap_cell b6 2).trans rfl
  have y3 := (heap_cell b6 3).trans rfl
  have y4 := (heap_cell b6 4).trans rfl
  have y5 := (heap_cell b6 5).trans rfl
  have y6 := (heap_cell b6 6).trans rfl
  have y7 := (heap_cell b6 7).trans rfl
  have yl := heap_lt b6
  have x0 := (heap_cell c6 0).trans rfl
  have x1 := (heap_cell c6 1).trans rfl
  have x2 := (heap_cell c6 2).trans rfl
  have xl := heap_lt c6
  clear b6 c6
  (try refine ⟨fun h => absurd h (by simp), ?_⟩); (repeat (unfold wpPlan; simp only [pickL, List.map_cons, List.map_nil, List.getD_cons_succ, List.getD_cons_zero]; (repeat go_big_quiet_step (fail)); refine wpQuiet_nil ?_)); unfold wpPlan; intro u7 hu7; (try simp only [pickL, List.map_cons, List.map_nil, List.getD_cons_succ, List.getD_cons_zero])
  go_wp2_with (first | (go_at_call 12; refine (HRPa.out _ (SAt.ext S4.out (HU6.out.trans hu7))).mono ?_; rintro e u8 ⟨v8, rfl, o8, -, hE8⟩; obtain ⟨a8, c8, rfl, -, -⟩ := o8.form))
  refine ⟨?_, ?_⟩
  · (try intro _); exact hu7.trans hE8
  have HU8 := Lib.hid (HU6.out.trans (hu7.trans hE8))
  have P8 : Hid (TrAt u8 a8 c8 E) := Lib.hid o8
  clear hu7 hE8 o8
  (try refine ⟨fun h => absurd h (by simp), ?_⟩); (repeat (unfold wpPlan; simp only [pickL, List.map_cons, List.map_nil, List.getD_cons_succ, List.getD_cons_zero]; (repeat go_big_quiet_step (fail)); refine wpQuiet_nil ?_)); unfold wpPlan; intro u9 hu9; (try simp only [pickL, List.map_cons, List.map_nil, List.getD_cons_succ, List.getD_cons_zero])
  have hsm := rSame_c a4 a8 E E c4 c8 u9 (TrAt.ws (TrAt.ext P4.out (HU8.out.trans hu9))) (TrAt.ws (TrAt.ext P8.out hu9)) (by omega) (by omega)
  rw [decide_eq_true (rfl : E = E)] at hsm
  have HSM := Lib.hid hsm
  clear hsm
  go_wp2_with (first | (go_at_call 9; refine HSM.out.mono ?_; rintro e ua ⟨rfl, hEa⟩))
  refine ⟨?_, ?_⟩
  · (try intro _); exact hu9.trans hEa
  have HUa := Lib.hid (HU8.out.trans (hu9.trans hEa))
  clear hu9 hEa y0 y1 y2 y3 y4 y5 y6 y7 yl x0 x1 x2 xl
  have c6 := (HUa.out.block _ (heap_lt X4.out)).trans X4.out
  have x0 := (heap_cell c6 0).trans rfl
  have x1 := (heap_cell c6 1).trans rfl
  have x2 := (heap_cell c6 2).trans rfl
  have xl := heap_lt c6
  clear c6
  (try refine ⟨fun h => absurd h (by simp), ?_⟩); (repeat (unfold wpPlan; simp only [pickL, List.map_cons, List.map_nil, List.getD_cons_succ, List.getD_cons_zero]; (repeat go_big_quiet_step (fail)); refine wpQuiet_nil ?_)); unfold wpPlan; intro ub hub; (try simp only [pickL, List.map_cons, List.map_nil, List.getD_cons_succ, List.getD_cons_zero])
  go_wp2_with (first | (go_at_call 13; refine (HSa.out _ (C4.out.ext (HUa.out.trans hub)) (SAt.ext S4.out (HUa.out.trans hub)) (Owns.nil _ _ _)).mono ?_; rintro e uc ⟨rfl, hEc⟩))
  refine ⟨?_, ?_⟩
  · (try intro _); exact hub.trans hEc
  have HUc := Lib.hid (HUa.out.trans (hub.trans hEc))
  clear hub hEc
  (try refine ⟨fun h => absurd h (by simp), ?_⟩); (repeat (unfold wpPlan; simp only [pickL, List.map_cons, List.map_nil, List.getD_cons_succ, List.getD_cons_zero]; (repeat go_big_quiet_step (fail)); refine wpQuiet_nil ?_)); unfold wpPlan; intro ud hud; (try simp only [pickL, List.map_cons, List.map_nil, List.getD_cons_succ, List.getD_cons_zero])
  go_wp2
  (try go_ret)
  exact ⟨rfl, E4.out.trans (HUc.out.trans hud)⟩
end Go.Proofs.YtkfonacokamfiaaGreat
