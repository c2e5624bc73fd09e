/- PrefetchAgain: what was found, and is looked for at once again, isn't found again, and reads nothing. -/
import Derived.Test.YtakkjpdolkokfaaPln47
import Derived.Test.YtakkjpdolkokfaaHAgainP
namespace Go.Proofs.Ytakkjpdolkokfaa
set_option linter.unusedVariables false
set_option linter.unusedSimpArgs false
open Go.RowKit
attribute [local go_sem] wext_cell wext_frozen wext_heap alloc_cell alloc_frozen alloc_heap setCell_cell objCell_cells objFrozen_cells

theorem ahead_one (r q : Nat) (u : Who) (S : OSt) (a : Int) : (aheadF r q u S [a]).2 = [] ∨ (aheadF r q u S [a]).2 = [a] := by
  show (if (fireF r q canonB u a S).2 then [] ++ [a] else []) = [] ∨ _ = [a]
  cases h : (fireF r q canonB u a S).2
  · left; rfl
  · right
    show (if (fireF r q canonB u a S).2 then [] ++ [a] else []) = [a]
    rw [h]; rfl
theorem PlanAt.move {w w' : World} {G G' : List Nat} {v : Value} {xs : List Int} (h : PlanAt w G v xs) (k : Keeps G w w') (hG : ∀ x ∈ G', x ∈ G ∨ w.heap.size ≤ x) : PlanAt w' G' v xs := by
  obtain ⟨a, cap, h1, h2, h3, h4⟩ := h
  refine ⟨a, cap, h1, h2, h3, fun j hj => ?_⟩
  obtain ⟨g, o, e, q1, q2, q3⟩ := h4 j hj
  exact ⟨g, o, e, fun hm => (hG g hm).elim q1 fun h => by omega, Nat.lt_of_lt_of_le q2 k.size, (World.cell?_of_block (k.block g q2 q1)).trans q3⟩
theorem PlanAt.ext {w w' : World} {G : List Nat} {v : Value} {xs : List Int} (h : PlanAt w G v xs) (k : Ext w w') : PlanAt w' G v xs := by
  obtain ⟨a, cap, h1, h2, h3, h4⟩ := h
  refine ⟨a, cap, h1, h2, h3, fun j hj => ?_⟩
  obtain ⟨g, o, e, q1, q2, q3⟩ := h4 j hj
  exact ⟨g, o, e, q1, Nat.lt_of_lt_of_le q2 k.size, k.someCell q3⟩

set_option maxHeartbeats 4000000 in
set_option maxRecDepth 100000 in
theorem prefetchAgain_c (v : Value) (ds : List PutD) (n : Int) (u : Who) (kd room many : Int) (us ac wp sp sm : Bool) (w : World) (h : ListAt w v 4 PutD.cells PutD.ok ds) (hn0 : 0 ≤ n) (hn1 : n ≤ 4294967295) (hu : u.ok) (hr0 : 0 ≤ room) (hr1 : room ≤ 255) :
    Calls Try.prog 5 #[v, .int .u32 n, .agg #[.int .u64 u.root, .int .i64 kd, .bool us, .bool ac, .bool wp, .bool u.nxe, .bool sp, .bool sm, .int .i64 u.p, .int .i64 u.k0, .int .i64 u.k1, .int .i64 u.k2, .int .i64 u.k3, .int .u8 room, .int .i64 many]] w fun e w' => e = .returned (.bool true) ∧ Ext w w' := by
  have HD := Lib.hid h
  have HU := Lib.hid hu
  have HAw := Lib.hid (fun w => awake15_c w)
  have HBu := Lib.hid (fun w1 (k : Ext w w1) => built15_c v ds w1 (h.ext k))
  have HNe := Lib.hid (fun w => near_c n w hn0 hn1)
  have ⟨x0, x1⟩ := nearI_le hn0
  have XB : Hid (0 ≤ nearI n ∧ nearI n ≤ 18446744073709551615) := Lib.hid ⟨x0, by omega⟩
  generalize nearI n = x at HNe XB
  clear h hu x0 x1 hn0 hn1
  obtain ⟨up, uk0, uk1, uk2, uk3, ur, un⟩ := u
  dsimp only
  go_enter Try.func5, Try.ntmps5
  go_upto_region 2 with (first | (go_at_call 15; refine (HAw.out _).mono ?_; rintro e w1 ⟨rfl, hb1⟩))
  have hE1 : Ext w w1 := ((Ext.refl w).alloc _).trans hb1
  have hB1 : w1.heap[w.heap.size]? = some (.cells #[.int .u64 ur, .int .i64 kd, .bool us, .bool ac, .bool wp, .bool un, .bool sp, .bool sm, .int .i64 up, .int .i64 uk0, .int .i64 uk1, .int .i64 uk2, .int .i64 uk3, .int .u8 room, .int .i64 many] 73 (0, 0)) := (hb1.block _ (by simp)).trans (alloc_same ..)
  obtain ⟨db, hdb⟩ : ∃ db, w.heap.size = db := ⟨_, rfl⟩
  rw [hdb] at hB1 ⊢
  have DB := Lib.hid hdb
  have E1 := Lib.hid hE1
  have B1 := Lib.hid hB1
  have hdl := heap_lt hB1
  clear hdb hE1 hB1 hb1
  go_upto_region 3 with (first | (go_at_call 19; refine (HBu.out _ E1.out).mono ?_; rintro e w2 ⟨mb, Fm, rfl, hC, hb2, hF, hmb⟩))
  obtain ⟨M, hM⟩ : ∃ M, builtM (ds.take 100) = M := ⟨_, rfl⟩
  rw [hM] at hC
  have C2 := Lib.hid hC
  have E2 := Lib.hid (E1.out.trans hb2)
  have F2 : Hid (∀ x ∈ Fm, w.heap.size ≤ x) := Lib.hid fun x hx => by have := hF x hx; have := E1.out.size; omega
  have B2 := Lib.hid ((hb2.block _ (heap_lt B1.out)).trans B1.out)
  have hd2 := hb2.size
  clear hC hb2 hF hmb hM
  go_upto_region 5 with (fail)
  have y13 := (heap_cell B2.out 13).trans rfl
  have yl := heap_lt B2.out
  have t1 : room.tmod 3 = room % 3 := Int.tmod_eq_emod_of_nonneg hr0
  have t2 : room.tdiv 4 = room / 4 := Int.tdiv_eq_ediv_of_nonneg hr0
  have t3 : (room / 4).tmod 3 = room / 4 % 3 := Int.tmod_eq_emod_of_nonneg (by omega)
  have t4 : IntKind.u8.wrap (room % 3) = room % 3 := by rw [IntKind.wrap_u8]; omega
  have t5 : IntKind.u8.wrap (room / 4) = room / 4 := by rw [IntKind.wrap_u8]; omega
  have t6 : IntKind.u8.wrap (room / 4 % 3) = room / 4 % 3 := by rw [IntKind.wrap_u8]; omega
  have t7 : IntKind.i64.wrap (room % 3) = room % 3 := by rw [IntKind.wrap_i64]; omega
  have t8 : IntKind.i64.wrap (1 + room % 3) = 1 + room % 3 := by rw [IntKind.wrap_i64]; omega
  have t9 : IntKind.i64.wrap (room / 4 % 3) = room / 4 % 3 := by rw [IntKind.wrap_i64]; omega
  have HNw := Lib.hid (fun w1 h => optNew_c mb Fm M [] (1 + room % 3) (room / 4 % 3) w1 h (by omega) (by omega) (by omega) (by omega))
  have hcl : 0 < clampR (1 + room % 3) := by unfold clampR; split <;> (try split) <;> omega
  go_upto_region 6 with (first | (go_at_call 20; refine (HNw.out _ (C2.out.ext (by repeat (first | exact Ext.refl _ | assumption | refine Ext.alloc ?_ _ | refine Ext.drew ?_ | refine Ext.setCell ?_ (by first | (simp; done) | (dsimp only; omega)) _ | refine Ext.trans ?_ (by assumption))))).mono ?_; rintro e w3 ⟨tb, cb, Ft, pb, pc, Fp, rfl, hO3, hb3, hFt, hFp⟩))
  generalize clampR (1 + room % 3) = r at hO3 hcl
  generalize clampR (room / 4 % 3) = q at hO3
  clear HNw t1 t2 t3 t4 t5 t6 t7 t8 t9 y13
  refine wp_gen ?_; intro V hV
  have hVE : Ext w3 V := by rw [hV]; exact (by repeat (first | exact Ext.refl _ | assumption | refine Ext.alloc ?_ _ | refine Ext.drew ?_ | refine Ext.setCell ?_ (by first | (simp; done) | (dsimp only; omega)) _ | refine Ext.trans ?_ (by assumption)))
  have hVB : V.heap[w3.heap.size]? = some (.cells #[.pointer (some ⟨tb, 0, none⟩), .pointer (some ⟨pb, 0, none⟩)] 78 (0, 0)) := by rw [hV]; exact alloc_same ..
  obtain ⟨xb, hxb⟩ : ∃ xb, w3.heap.size = xb := ⟨_, rfl⟩
  rw [hxb] at hVB ⊢
  have VO := Lib.hid (hO3.ext hVE)
  have VB := Lib.hid hVB
  have VD := Lib.hid (((hb3.trans hVE).block _ (heap_lt B2.out)).trans B2.out)
  have VE := Lib.hid (E2.out.trans (hb3.trans hVE))
  have FR : Hid (∀ y ∈ allO Fm Ft Fp, w.heap.size ≤ y) := Lib.hid fun y hy => by
    have := E2.out.size
    rcases mem_allO.1 hy with hy | hy | hy
    · exact F2.out y hy
    · have := hFt y hy; omega
    · have := hFp y hy; omega
  clear hV hVE hVB hxb hO3 hb3 hFt hFp yl hd2 hdl
  go_upto_region 7 with (first | (go_at_call 21; refine (HNe.out _).mono ?_; rintro e w4 ⟨rfl, hb4⟩))
  refine wp_gen ?_; intro X hX
  have hXE : Ext V X := by rw [hX]; exact hb4.alloc _
  have hXP : PlanAt X (allO Fm Ft Fp) (.slice (some ⟨w4.heap.size, 0, none⟩) 1 1) [x] := by
    rw [hX]
    exact planAt_new (ks := [x]) (cap := 1) (VO.out.ext hb4).lt (by intro y hy; rw [List.mem_singleton.1 hy]; exact XB.out) (by simp [maxLen])
  obtain ⟨lb, hlb⟩ : ∃ lb, w4.heap.size = lb := ⟨_, rfl⟩
  rw [hlb] at hXP ⊢
  have XO := Lib.hid (VO.out.ext hXE)
  have XC := (hXE.block _ (heap_lt VB.out)).trans VB.out
  have XD := (hXE.block _ (heap_lt VD.out)).trans VD.out
  have XE := Lib.hid (VE.out.trans hXE)
  have XP := Lib.hid hXP
  have HA := Lib.hid (ahead_c mb Fm (opt0 M) tb cb Ft r pb pc Fp q ⟨up, uk0, uk1, uk2, uk3, ur, un⟩ kd us ac wp sp sm _ [x] X XO.out (by simp [opt0]) HU.out hXP)
  have hag := fun T => fire_again (q := q) (u := ⟨up, uk0, uk1, uk2, uk3, ur, un⟩) (a := x) (S := opt0 M) (T := T) (MemP.wide (P := fun _ => True) ⟨Fm, C2.out, fun _ _ => trivial⟩) hcl (by simp [opt0]) (by simp [opt0, keysOf]) XB.out.1 XO.out.cok HU.out.2.2.1 HU.out.2.2.2
  have hone := ahead_one r q ⟨up, uk0, uk1, uk2, uk3, ur, un⟩ (opt0 M) x
  have hag0 := hag []
  clear hag
  dsimp only at hag0
  generalize aheadF r q ⟨up, uk0, uk1, uk2, uk3, ur, un⟩ (opt0 M) [x] = z at HA hag0 hone
  obtain ⟨y, hy⟩ : ∃ y, aheadF r q ⟨up, uk0, uk1, uk2, uk3, ur, un⟩ ⟨z.1.M, [], z.1.L, z.1.C⟩ [x] = y := ⟨_, rfl⟩
  rw [hy] at hag0
  have HY := Lib.hid hy
  have AG := Lib.hid hag0
  have ONE := Lib.hid hone
  have XD2 := Lib.hid XD
  have XC2 := Lib.hid XC
  have d0 := (heap_cell XD 0).trans rfl
  have d1 := (heap_cell XD 1).trans rfl
  have d2 := (heap_cell XD 2).trans rfl
  have d3 := (heap_cell XD 3).trans rfl
  have d4 := (heap_cell XD 4).trans rfl
  have d5 := (heap_cell XD 5).trans rfl
  have d6 := (heap_cell XD 6).trans rfl
  have d7 := (heap_cell XD 7).trans rfl
  have d8 := (heap_cell XD 8).trans rfl
  have d9 := (heap_cell XD 9).trans rfl
  have d10 := (heap_cell XD 10).trans rfl
  have d11 := (heap_cell XD 11).trans rfl
  have d12 := (heap_cell XD 12).trans rfl
  have dl := heap_lt XD
  have c0 := (heap_cell XC 0).trans rfl
  have c1 := (heap_cell XC 1).trans rfl
  have cl := heap_lt XC
  clear hX hXE hXP hlb hb4 hy hag0 hone XD XC VO VB VD VE
  go_upto_region 8 with (first | (go_at_call 22; refine HA.out.mono ?_; rintro e w6 ⟨v6, F1, F2', F3, rfl, o6, n6, hO6, hk6, f6⟩; obtain ⟨a6, c6, rfl, -, -⟩ := o6.form))
  clear d0 d1 d2 d3 d4 d5 d6 d7 d8 d9 d10 d11 d12 dl c0 c1 cl HA
  have D6 := Lib.hid ((hk6.block _ (heap_lt XD2.out) (XO.out.out XD2.out (by decide) (by decide) (by decide) (by decide) (by decide))).trans XD2.out)
  have C6 := Lib.hid ((hk6.block _ (heap_lt XC2.out) (XO.out.out XC2.out (by decide) (by decide) (by decide) (by decide) (by decide))).trans XC2.out)
  have P6 := Lib.hid (XP.out.move hk6 f6)
  have E6 := Lib.hid (Keeps.to_ext XE.out hk6 FR.out)
  have FR6 : Hid (∀ y ∈ allO F1 F2' F3, w.heap.size ≤ y) := Lib.hid fun y hy => (f6 y hy).elim (FR.out y) fun h => Nat.le_trans XE.out.size h
  have O6 := Lib.hid hO6
  clear o6 n6 hO6 hk6 f6 XO XC2 XD2 XP XE
  go_upto_region 9 with (first | (go_at_call 23; refine (forget_c mb F1 16 z.1.M z.1.T _ O6.out.both.mem).mono ?_; rintro e w7 ⟨rfl, hEM⟩))
  obtain ⟨G1, G2, G3, hO7, hk7, f7⟩ := O6.out.after_mem hEM
  have D7 := (hk7.block _ (heap_lt D6.out) (O6.out.out D6.out (by decide) (by decide) (by decide) (by decide) (by decide))).trans D6.out
  have C7 := (hk7.block _ (heap_lt C6.out) (O6.out.out C6.out (by decide) (by decide) (by decide) (by decide) (by decide))).trans C6.out
  have P7 := P6.out.move hk7 f7
  have E7 := Lib.hid (Keeps.to_ext E6.out hk7 FR6.out)
  have FR7 : Hid (∀ y ∈ allO G1 G2 G3, w.heap.size ≤ y) := Lib.hid fun y hy => (f7 y hy).elim (FR6.out y) fun h => Nat.le_trans E6.out.size h
  have HA := Lib.hid (ahead_c mb G1 ⟨z.1.M, [], z.1.L, z.1.C⟩ tb cb G2 r pb pc G3 q ⟨up, uk0, uk1, uk2, uk3, ur, un⟩ kd us ac wp sp sm _ [x] w7 hO7 (by simp) HU.out P7)
  rw [HY.out] at HA
  clear HY
  have d0 := (heap_cell D7 0).trans rfl
  have d1 := (heap_cell D7 1).trans rfl
  have d2 := (heap_cell D7 2).trans rfl
  have d3 := (heap_cell D7 3).trans rfl
  have d4 := (heap_cell D7 4).trans rfl
  have d5 := (heap_cell D7 5).trans rfl
  have d6 := (heap_cell D7 6).trans rfl
  have d7 := (heap_cell D7 7).trans rfl
  have d8 := (heap_cell D7 8).trans rfl
  have d9 := (heap_cell D7 9).trans rfl
  have d10 := (heap_cell D7 10).trans rfl
  have d11 := (heap_cell D7 11).trans rfl
  have d12 := (heap_cell D7 12).trans rfl
  have dl := heap_lt D7
  have k0 := (heap_cell C7 0).trans rfl
  have k1 := (heap_cell C7 1).trans rfl
  have kl := heap_lt C7
  clear D7 C7 P7 hO7 hk7 f7 hEM
  go_upto_region 10 with (first | (go_at_call 22; refine HA.out.mono ?_; rintro e w8 ⟨v8, H1, H2, H3, rfl, o8, n8, hO8, hk8, f8⟩; rw [AG.out.1] at o8; obtain ⟨a8, c8, rfl, -, -⟩ := o8.form))
  have E8 := Lib.hid (Keeps.to_ext E7.out hk8 FR7.out)
  have O8 := Lib.hid hO8.both.mem
  clear d0 d1 d2 d3 d4 d5 d6 d7 d8 d9 d10 d11 d12 dl k0 k1 kl HA hO8 hk8 f8 o8 n8
  rcases ONE.out with h1 | h1
  · rw [h1]
    go_wp2
    go_ret
    exact ⟨rfl, E8.out⟩
  · have hT := AG.out.2
    rw [h1] at hT ⊢
    have hT2 : y.1.T = [] := hT.resolve_left (by simp)
    rw [hT2] at O8
    have HTr := Lib.hid (trace_c mb H1 16 y.1.M [] w8 O8.out (by simp))
    clear hT hT2 h1
    go_wp2_with (first | (go_at_call 24; refine HTr.out.mono ?_; rintro e w9 ⟨v9, rfl, o9, hb9, -⟩; replace o9 : Owns w9 34 1 v9 0 [] := o9; obtain ⟨a9, c9, rfl, -, -⟩ := o9.form))
    go_ret
    exact ⟨rfl, E8.out.trans hb9⟩
end Go.Proofs.Ytakkjpdolkokfaa
