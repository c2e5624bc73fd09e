/- PrefetchSpares: what is looked for ahead changes bits A of slots on the paths of what is found alone. -/
import Derived.Test.YtakkjpdolkokfaaPln47
import Derived.Test.YtakkjpdolkokfaaHSparesP
import Derived.Test.YtakkjpdolkokfaaPln31
import Derived.Test.YtakkjpdolkokfaaPln34
namespace Go.Proofs.Ytakkjpdolkokfaa
set_option linter.unusedVariables false
set_option linter.unusedSimpArgs false
open Go.RowKit
attribute [local go_sem] wext_cell wext_frozen wext_heap alloc_cell alloc_frozen alloc_heap setCell_cell objCell_cells objFrozen_cells

theorem ahead_sub (r q : Nat) (u : Who) : ∀ (xs : List Int) (z : OSt × List Int), ∀ a ∈ (xs.foldl (aheadStep r q u) z).2, a ∈ z.2 ∨ a ∈ xs
  | [], z, a, h => .inl h
  | x :: xs, z, a, h => by
    rcases ahead_sub r q u xs _ a h with h | h
    · unfold aheadStep at h
      dsimp only at h
      split at h
      · rcases List.mem_append.1 h with h | h
        · exact .inl h
        · exact .inr (by simp at h; simp [h])
      · exact .inl h
    · exact .inr (List.mem_cons_of_mem _ h)
theorem pathF_slot {M : Int → Int} {root : Int} {nxe : Bool} {a s : Int} (h : s ∈ pathF M root nxe a) : s % 8 = 0 := by
  unfold pathF at h
  split at h
  · obtain ⟨y, hy, rfl⟩ := List.mem_map.1 h
    exact (slot16 (walk_word 4 _ _ y hy).2).2
  · simp at h
/-- Of a slot that is not as it was. -/
theorem spares_at {M : Int → Int} {r q : Nat} {u : Who} (hM : ∀ s, 0 ≤ M s ∧ M s ≤ 18446744073709551615) (h0 : 0 ≤ u.root) (h1 : u.root ≤ 18446744073709551615) (xs : List Int) {s : Int} (hs : s ∈ dOut M (aheadF r q u (opt0 M) xs).1.M 16) :
    (0 ≤ s ∧ s < 65536 ∧ s % 8 = 0) ∧ (aheadF r q u (opt0 M) xs).1.M (s / 8) = orA (M (s / 8)) ∧ M (s / 8) ≠ orA (M (s / 8)) ∧ ((aheadF r q u (opt0 M) xs).2.any fun a => (pathF M u.root u.nxe a).any fun x => x == s) = true := by
  obtain ⟨s0, s1, s2, s3⟩ := mem_dOut hs
  rcases ahead_spares (T := []) (r := r) (q := q) hM h0 h1 xs (s / 8) with h | ⟨h, a, ha, y, hy, hys⟩
  · exact absurd h.symm s3
  · have h' : (aheadF r q u (opt0 M) xs).1.M (s / 8) = orA (M (s / 8)) := h
    refine ⟨⟨s0, by omega, s2⟩, h', fun e => s3 (e.trans h'.symm), ?_⟩
    rw [List.any_eq_true]
    refine ⟨a, ha, ?_⟩
    rw [List.any_eq_true]
    have := pathF_slot hy
    exact ⟨y, hy, by simp; omega⟩
theorem planAt_own {w : World} {G : List Nat} {v : Value} {xs : List Int} (ho : Owns w 34 1 v xs.length (rowI xs)) (hG : ∀ g, v.ownBlock = some g → g ∉ G) (hk : ∀ x ∈ xs, 0 ≤ x ∧ x ≤ 18446744073709551615) (hl : xs.length ≤ maxLen) : PlanAt w G v xs := by
  obtain ⟨a, cap, rfl, -, -⟩ := ho.form
  refine ⟨a, cap, rfl, hl, hk, fun j hj => ?_⟩
  rcases ho.2 with ⟨_, h0⟩ | ⟨g, cap', cur, he, _⟩
  · omega
  · have ha : a = some ⟨g, 0, none⟩ := by injection he
    subst ha
    exact ⟨g, 0, rfl, hG g rfl, ho.lt g rfl, by rw [Nat.zero_add]; exact ho.cells (g := g) rfl j _ (by simp [rowI, List.getD, hj])⟩
theorem err16s {s : Int} (h : 0 ≤ s ∧ s < 65536 ∧ s % 8 = 0) : errM 16 s = 0 := by
  unfold errM
  rw [if_pos (by simpa [limB] using h.2.1), if_pos h.2.2]
theorem pathF_len (M : Int → Int) (root : Int) (nxe : Bool) (a : Int) : (pathF M root nxe a).length ≤ 4 := by
  unfold pathF
  split
  · rw [List.length_map]; exact walk_len 4 _ allRt
  · simp
theorem any_take (f : Int → Bool) (xs : List Int) (j : Nat) (h : j < xs.length) : (xs.take (j + 1)).any f = ((xs.take j).any f || f (xs.getD j 0)) := by
  have e : xs.take (j + 1) = xs.take j ++ [xs.getD j 0] := by rw [List.take_add_one, List.getElem?_eq_getElem h]; simp [List.getD, h]
  rw [e]; simp
def nearL (ns : List Int) : List Int := ns.map nearI
theorem nearL_ok {ns : List Int} (h : ∀ i, i < ns.length → U32.ok (ns.getD i 0)) : ∀ x ∈ nearL ns, 0 ≤ x ∧ x ≤ 18446744073709551615 := by
  intro x hx
  obtain ⟨n, hn, rfl⟩ := List.mem_map.1 hx
  obtain ⟨i, hi, rfl⟩ := List.mem_iff_getElem.1 hn
  have := h i hi
  simp only [List.getD_eq_getElem?_getD, List.getElem?_eq_getElem hi, Option.getD_some] at this
  have := nearI_le this.1
  omega

set_option maxHeartbeats 1500000 in
set_option maxRecDepth 100000 in
theorem prefetchSpares_c (v : Value) (ds : List PutD) (v2 : Value) (ns : List Int) (u : Who) (kd room many : Int) (us ac wp sp sm : Bool) (w : World) (h : ListAt w v 4 PutD.cells PutD.ok ds) (h2 : ListAt w v2 1 U32.cells U32.ok ns) (hu : u.ok) (hr0 : 0 ≤ room) (hr1 : room ≤ 255) :
    Calls Try.prog 6 #[v, v2, .agg #[.int .u64 u.root, .int .i64 kd, .bool us, .bool ac, .bool wp, .bool u.nxe, .bool sp, .bool sm, .int .i64 u.p, .int .i64 u.k0, .int .i64 u.k1, .int .i64 u.k2, .int .i64 u.k3, .int .u8 room, .int .i64 many]] w fun e w' => e = .returned (.bool true) ∧ Ext w w' := by
  have HV := Lib.hid h2
  have HU := Lib.hid hu
  have HAw := Lib.hid (fun w => awake15_c w)
  have HBu := Lib.hid (fun w1 (k : Ext w w1) => built15_c v ds w1 (h.ext k))
  obtain ⟨va, vc, rfl, -, hmx, hok, -⟩ := h2
  unfold maxLen at hmx
  have HK := Lib.hid hok
  clear h hu hok
  obtain ⟨up, uk0, uk1, uk2, uk3, ur, un⟩ := u
  dsimp only
  go_enter Try.func6, Try.ntmps6
  go_upto_region 2 with (first | (go_at_call 15; refine (HAw.out _).mono ?_; rintro e w1 ⟨rfl, hb1⟩))
  have hE1 : Ext w w1 := ((Ext.refl w).alloc _).trans hb1
  have hB1 : w1.heap[w.heap.size]? = some (.cells #[.int .u64 ur, .int .i64 kd, .bool us, .bool ac, .bool wp, .bool un, .bool sp, .bool sm, .int .i64 up, .int .i64 uk0, .int .i64 uk1, .int .i64 uk2, .int .i64 uk3, .int .u8 room, .int .i64 many] 73 (0, 0)) := (hb1.block _ (by simp)).trans (alloc_same ..)
  obtain ⟨db, hdb⟩ : ∃ db, w.heap.size = db := ⟨_, rfl⟩
  rw [hdb] at hB1 ⊢
  have DB := Lib.hid hdb
  have E1 := Lib.hid hE1
  have B1 := Lib.hid hB1
  clear hdb hE1 hB1 hb1
  go_upto_region 3 with (first | (go_at_call 19; refine (HBu.out _ E1.out).mono ?_; rintro e w2 ⟨mb, Fm, rfl, hC, hb2, hF, hmb⟩))
  obtain ⟨M, hM⟩ : ∃ M, builtM (ds.take 100) = M := ⟨_, rfl⟩
  rw [hM] at hC
  have C2 := Lib.hid hC
  have E2 := Lib.hid (E1.out.trans hb2)
  have F2 : Hid (∀ x ∈ Fm, w.heap.size ≤ x) := Lib.hid fun x hx => by have := hF x hx; have := E1.out.size; omega
  have B2 := Lib.hid ((hb2.block _ (heap_lt B1.out)).trans B1.out)
  clear hC hb2 hF hmb hM
  by_cases h12 : 12 < ns.length
  · have hg : (12 : Int) < (ns.length : Int) := by omega
    go_wp2
    go_ret
    exact ⟨rfl, E2.out⟩
  have hg : ¬ (12 : Int) < (ns.length : Int) := by omega
  have HCp := Lib.hid (fun w1 h => copy_c mb Fm 16 M [] w1 h)
  go_upto_region 6 with (first | (go_at_call 25; refine (HCp.out _ (C2.out.ext (by repeat (first | exact Ext.refl _ | assumption | refine Ext.alloc ?_ _ | refine Ext.drew ?_ | refine Ext.setCell ?_ (by first | (simp; done) | (dsimp only; omega)) _ | refine Ext.trans ?_ (by assumption))))).mono ?_; rintro e w3 ⟨kb, rfl, ⟨Fk, hK, hFk⟩, hb3⟩))
  have K3 := Lib.hid hK
  have FK : Hid (∀ x ∈ Fk, w2.heap.size ≤ x) := Lib.hid hFk
  have C3 := Lib.hid (C2.out.ext hb3)
  have E3 := Lib.hid (E2.out.trans hb3)
  have B3 := Lib.hid ((hb3.block _ (heap_lt B2.out)).trans B2.out)
  have hz3 := hb3.size
  clear hK hFk hb3 HCp
  go_upto_region 8 with (fail)
  go_loopw [10, 11] (fun l i wr => ∃ (j : Nat) (la : Option Addr) (lc : Nat), j ≤ ns.length ∧ i = .int .i64 j ∧ l = .slice la j lc ∧ w3.heap.size ≤ wr.heap.size ∧ Hid (Owns wr 34 1 (.slice la j lc) j (rowI (nearL (ns.take j))) ∧ (∀ g, (Value.slice la j lc).ownBlock = some g → w3.heap.size ≤ g) ∧ Ext w3 wr)) (fun _ i _ => ns.length - (intOf i).toNat)
  case atStart => exact ⟨0, none, 0, by omega, rfl, rfl, by omega, Lib.hid ⟨Owns.nil .., fun g e => (by cases e), Ext.refl _⟩⟩
  case round =>
    obtain ⟨j, la, lc, hj, rfl, rfl, hwr, hR⟩ := hrel
    by_cases hlt : j < ns.length
    · obtain ⟨a', cap', he, -, -, -, hcl⟩ := HV.out
      obtain ⟨g, o, e1, e2, e3⟩ := hcl j hlt
      have he' : va = a' := by injection he
      subst he'
      subst e1
      have hEr : Ext w wr := E3.out.trans hR.out.2.2
      have d0 : wr.cell? ⟨g, o + j, none⟩ = some (.int .u32 (ns.getD j 0)) := by have := hEr.someCell (e3 0 _ rfl); rw [Nat.mul_one, Nat.add_zero] at this; exact this
      have hgl : g < wr.heap.size := Nat.lt_of_lt_of_le e2 hEr.size
      have hst : nearL (ns.take (j + 1)) = nearL (ns.take j) ++ [nearI (ns.getD j 0)] := by
        have e : ns.take (j + 1) = ns.take j ++ [ns.getD j 0] := by rw [List.take_add_one, List.getElem?_eq_getElem hlt]; simp [List.getD, hlt]
        unfold nearL; rw [e]; simp
      have HS := Lib.hid hst
      have hno := HK.out j hlt
      have HNx := Lib.hid (fun w => near_c (ns.getD j 0) w hno.1 hno.2)
      clear hst hcl he e3 hEr hno
      generalize nearI (ns.getD j 0) = x at HNx HS
      generalize ns.getD j 0 = n at d0 HNx
      have hsz : Hid (∀ w4 : World, Ext wr w4 → Owns (w4.alloc (.cells #[.int .u64 x] 34)) 34 1 (.slice la j lc) j (rowI (nearL (ns.take j)))) := Lib.hid fun w4 k => (hR.out.1.ext k).ext ((Ext.refl w4).alloc _)
      go_wp2_with (first | (go_at_call 21; refine (HNx.out _).mono ?_; rintro e w4 ⟨rfl, hb4⟩; have HB4 := Lib.hid hb4; have hz4 := hb4.size; have ⟨hc, hf, hh, hs⟩ := hb4.facts) | (at_builtin; refine wpList_append_owns rfl _ _ _ _ 1 8 wordRow rfl _ rfl j _ (hsz.out w4 HB4.out) _ 1 1 rfl [.int .u64 x] rfl (fun j u hu => by rw [add0, heap_cell (alloc_same w4 _) j]; simpa using hu) (by simp [Value.oneCell']) (by unfold maxLen; omega) (by omega) ?_; intro v9 w9 q1 q2 q3; replace q2 : (w4.alloc (.cells #[.int .u64 x] 34)).grownBy w9 (Value.slice la j lc).ownBlock := q2; replace q3 : v9.ownBlock = (Value.slice la j lc).ownBlock ∨ v9.ownBlock = some (w4.alloc (.cells #[.int .u64 x] 34)).heap.size := q3; obtain ⟨a9, c9, rfl, -, -⟩ := q1.form; simp only [Act.put, Array.set!_eq_setIfInBounds, List.setIfInBounds_toArray, List.set_cons_succ, List.set_cons_zero]))
      all_goals
        have ⟨g1, g2, g3, g4⟩ := grown_after (prev := Value.slice la j lc) (o := (.cells #[.int .u64 x] 34)) (base := w3.heap.size) (by omega) (Nat.le_refl _) (hR.out.2.2.trans HB4.out) hR.out.2.1 q2 q3
        refine ⟨⟨j + 1, a9, c9, hlt, by go_num, rfl, g4, Lib.hid ⟨?_, g3, g1⟩⟩, by simp [intOf]; omega⟩
        rw [HS.out]; simpa [rowI] using q1
    · have hjx : j = ns.length := by omega
      subst hjx
      have hO := hR.out.1
      rw [List.take_length] at hO
      have O4 := Lib.hid hO
      have N4 := Lib.hid hR.out.2.1
      have E4 := Lib.hid hR.out.2.2
      clear hO hR
      have XOK := Lib.hid (nearL_ok (ns := ns) HK.out)
      have hxl : (nearL ns).length = ns.length := by simp [nearL]
      generalize nearL ns = xs at O4 XOK hxl
      have HXL := Lib.hid hxl
      have hx12 : xs.length ≤ 12 := by omega
      clear hxl
      go_upto_region 11 with (fail)
      have hd := (E4.out.block _ (heap_lt B3.out)).trans B3.out
      have B4 := Lib.hid hd
      have C4 := Lib.hid (C3.out.ext E4.out)
      have d0 := (heap_cell hd 0).trans rfl
      have d1 := (heap_cell hd 1).trans rfl
      have d2 := (heap_cell hd 2).trans rfl
      have d3 := (heap_cell hd 3).trans rfl
      have d4 := (heap_cell hd 4).trans rfl
      have d5 := (heap_cell hd 5).trans rfl
      have d6 := (heap_cell hd 6).trans rfl
      have d7 := (heap_cell hd 7).trans rfl
      have d8 := (heap_cell hd 8).trans rfl
      have d9 := (heap_cell hd 9).trans rfl
      have d10 := (heap_cell hd 10).trans rfl
      have d11 := (heap_cell hd 11).trans rfl
      have d12 := (heap_cell hd 12).trans rfl
      have d13 := (heap_cell hd 13).trans rfl
      have dl := heap_lt hd
      have t1 : room.tmod 4 = room % 4 := Int.tmod_eq_emod_of_nonneg hr0
      have t4 : IntKind.u8.wrap (room % 4) = room % 4 := by rw [IntKind.wrap_u8]; omega
      have t7 : IntKind.i64.wrap (room % 4) = room % 4 := by rw [IntKind.wrap_i64]; omega
      have HNw := Lib.hid (fun w1 h => optNew_c mb Fm M [] (room % 4) 2 w1 h (by omega) (by omega) (by omega) (by omega))
      clear hd
      refine region_mix [.q [0, 1, 2, 3, 4, 6, 7, 8, 9, 10], .l 5 3, .l 11 2, .q [12]] (by kernel_rfl) (by kernel_rfl) ?_
      (try refine ⟨fun h => absurd h (by simp), ?_⟩); (repeat (unfold wpPlan; simp only [pickL, List.map_cons, List.map_nil, List.getD_cons_succ, List.getD_cons_zero]; (repeat go_big_quiet_step (fail)); refine wpQuiet_nil ?_)); unfold wpPlan; intro w5 hb5; (try simp only [pickL, List.map_cons, List.map_nil, List.getD_cons_succ, List.getD_cons_zero])
      go_wp2_with (first | (go_at_call 20; refine (HNw.out _ (C4.out.ext hb5)).mono ?_; rintro e w6 ⟨tb, cb, Ft, pb, pc, Fp, rfl, hO6, hb6, hFt, hFp⟩))
      refine ⟨fun _ => hb5.trans hb6, ?_⟩
      have O6 := Lib.hid hO6
      have E6 := Lib.hid (hb5.trans hb6)
      have HFt := Lib.hid hFt
      have HFp := Lib.hid hFp
      have hz5 := hb5.size
      have hz6 := hb6.size
      clear hb5 hb6 hO6 hFt hFp d0 d1 d2 d3 d4 d5 d6 d7 d8 d9 d10 d11 d12 d13 t1 t4 t7 HNw
      (try refine ⟨fun h => absurd h (by simp), ?_⟩); (repeat (unfold wpPlan; simp only [pickL, List.map_cons, List.map_nil, List.getD_cons_succ, List.getD_cons_zero]; (repeat go_big_quiet_step (fail)); refine wpQuiet_nil ?_)); unfold wpPlan; intro w7 hb7; (try simp only [pickL, List.map_cons, List.map_nil, List.getD_cons_succ, List.getD_cons_zero])
      have O7 := Lib.hid (O6.out.ext hb7)
      have E7 := Lib.hid (E6.out.trans hb7)
      have hz7 := hb7.size
      clear hb7
      have hPl : PlanAt w7 (allO Fm Ft Fp) (.slice la ns.length lc) xs := by
        have o4 := O4.out
        rw [← HXL.out] at o4 ⊢
        have hob : (Value.slice la xs.length lc).ownBlock = (Value.slice la ns.length lc).ownBlock := by cases la <;> rfl
        refine planAt_own (o4.ext E7.out) (fun g hg hm => ?_) XOK.out (by unfold maxLen; omega)
        rw [hob] at hg
        have g1 := N4.out g hg
        have g2 := O4.out.lt g hg
        rcases mem_allO.1 hm with hm | hm | hm
        · have := C2.out.lt g hm; omega
        · have := HFt.out g hm; omega
        · have := HFp.out g hm; omega
      have HA := Lib.hid (ahead_c mb Fm (opt0 M) tb cb Ft (clampR (room % 4)) pb pc Fp (clampR 2) ⟨up, uk0, uk1, uk2, uk3, ur, un⟩ kd us ac wp sp sm _ xs w7 O7.out (by simp only [opt0, List.length_nil]; omega) HU.out hPl)
      have hsp := fun s => spares_at (r := clampR (room % 4)) (q := clampR 2) (u := ⟨up, uk0, uk1, uk2, uk3, ur, un⟩) (s := s) (MemP.wide (P := fun _ => True) ⟨Fm, C2.out, fun _ _ => trivial⟩) HU.out.2.2.1 HU.out.2.2.2 xs
      have hsub := fun a => ahead_sub (clampR (room % 4)) (clampR 2) ⟨up, uk0, uk1, uk2, uk3, ur, un⟩ xs (opt0 M, []) a
      dsimp only at hsp
      obtain ⟨z, hz⟩ : ∃ z, aheadF (clampR (room % 4)) (clampR 2) ⟨up, uk0, uk1, uk2, uk3, ur, un⟩ (opt0 M) xs = z := ⟨_, rfl⟩
      have hz' : xs.foldl (aheadStep (clampR (room % 4)) (clampR 2) ⟨up, uk0, uk1, uk2, uk3, ur, un⟩) (opt0 M, []) = z := hz
      have hzlen := aheadF_len (clampR (room % 4)) (clampR 2) ⟨up, uk0, uk1, uk2, uk3, ur, un⟩ (opt0 M) xs
      rw [hz] at HA hzlen
      simp only [hz] at hsp
      rw [hz'] at hsub
      have zok : ∀ a ∈ z.2, 0 ≤ a ∧ a ≤ 18446744073709551615 := fun a ha => (hsub a ha).elim (fun h => by cases h) (XOK.out a)
      have SP := Lib.hid hsp
      have ZOK := Lib.hid zok
      clear hz hz' hsp hsub zok hPl
      obtain ⟨⟨M1, T1, L1, C1'⟩, zl⟩ := z
      dsimp only at SP ZOK hzlen
      go_wp2_with (first | (go_at_call 22; refine HA.out.mono ?_; rintro e w8 ⟨v8, F1, F2', F3, rfl, o8, n8, hO8, hk8, f8⟩; obtain ⟨a8, c8, rfl, -, -⟩ := o8.form))
      have kk := K3.out.ext (E4.out.trans E7.out)
      have hdis : ∀ x ∈ Fk, x ∉ allO Fm Ft Fp := fun x hx hm => by
        have g1 := FK.out x hx
        have g2 := K3.out.lt x hx
        rcases mem_allO.1 hm with hm | hm | hm
        · have := C2.out.lt x hm; omega
        · have := HFt.out x hm; omega
        · have := HFp.out x hm; omega
      have K8 := Lib.hid (kk.keeps hk8 hdis)
      have C8 := Lib.hid hO8.both.mem
      have b7 := (E7.out.block _ (heap_lt B4.out)).trans B4.out
      have B8 := Lib.hid ((hk8.block _ (heap_lt b7) (O7.out.out b7 (by decide) (by decide) (by decide) (by decide) (by decide))).trans b7)
      have E8 : Hid (Ext w w8) := Lib.hid (Keeps.to_ext (E3.out.trans (E4.out.trans E7.out)) hk8 (fun x hx => by
        have := E2.out.size
        rcases mem_allO.1 hx with hx | hx | hx
        · exact F2.out x hx
        · have := HFt.out x hx; omega
        · have := HFp.out x hx; omega))
      have Z8 := Lib.hid o8
      clear kk hdis b7 hk8 f8 hO8 n8 o8 HA O7 O6
      (try refine ⟨fun h => absurd h (by simp), ?_⟩); (repeat (unfold wpPlan; simp only [pickL, List.map_cons, List.map_nil, List.getD_cons_succ, List.getD_cons_zero]; (repeat go_big_quiet_step (fail)); refine wpQuiet_nil ?_)); unfold wpPlan; intro w9 hb9; (try simp only [pickL, List.map_cons, List.map_nil, List.getD_cons_succ, List.getD_cons_zero])
      have K9 := Lib.hid (K8.out.ext hb9)
      have C9 := Lib.hid (C8.out.ext hb9)
      have B9 := Lib.hid ((hb9.block _ (heap_lt B8.out)).trans B8.out)
      have E9 := Lib.hid (E8.out.trans hb9)
      have Z9 := Lib.hid (Z8.out.ext hb9)
      clear hb9
      have HDf := Lib.hid (fun w1 h1 h2 => diff_c kb mb Fk F1 M M1 [] T1 w1 h1 h2)
      have hdl := dOut_length M M1 16
      obtain ⟨D, hD⟩ : ∃ D, dOut M M1 16 = D := ⟨_, rfl⟩
      rw [hD] at HDf hdl SP
      clear hD
      go_upto_region 14 with (first | (go_at_call 26; refine (HDf.out _ K9.out C9.out).mono ?_; rintro e w10 ⟨ga, gc, rfl, oD, hb10, -⟩))
      have K10 := Lib.hid (K9.out.ext hb10)
      have C10 := Lib.hid (C9.out.ext hb10)
      have B10 := Lib.hid ((hb10.block _ (heap_lt B9.out)).trans B9.out)
      have E10 := Lib.hid (E9.out.trans hb10)
      have Z10 := Lib.hid (Z9.out.ext hb10)
      have OD := Lib.hid oD
      clear hb10 oD
      go_loopw [14] (fun i wr => ∃ j : Nat, j ≤ D.length ∧ i = .int .i64 j ∧ Hid (Ext w10 wr)) (fun i _ => D.length - (intOf i).toNat)
      case atStart => exact ⟨0, by omega, rfl, Lib.hid (Ext.refl _)⟩
      case round =>
        obtain ⟨j, hj, rfl, hW⟩ := hrel
        by_cases hlt : j < D.length
        · obtain ⟨⟨s0, s1, s8⟩, hs1, hs2, hany⟩ := SP.out (D.getD j 0) (by rw [List.getD_eq_getElem?_getD, List.getElem?_eq_getElem hlt]; exact List.getElem_mem hlt)
          obtain ⟨s, hs⟩ : ∃ s, D.getD j 0 = s := ⟨_, rfl⟩
          rw [hs] at s0 s1 s8 hs1 hs2 hany
          obtain ⟨dg, rfl⟩ : ∃ dg, ga = some ⟨dg, 0, none⟩ := by
            rcases OD.out.2 with ⟨_, h0⟩ | ⟨g, cap, cur, he, _⟩
            · omega
            · exact ⟨g, by injection he⟩
          have dD : w10.cell? ⟨dg, j, none⟩ = some (.int .u64 s) := by rw [← hs]; exact OD.out.cells (g := dg) rfl j _ (by simp [List.getD, hlt])
          have dDl := OD.out.lt dg rfl
          have HD := Lib.hid (⟨dD, dDl⟩ : _ ∧ _)
          have HAny := Lib.hid hany
          have HSS := Lib.hid (⟨⟨s0, s1, s8⟩, hs1, hs2⟩ : (_ ∧ _ ∧ _) ∧ _ ∧ _)
          clear dD dDl hany hs1 hs2 hs
          go_upto_region 18 with (fail)
          go_loopw [15, 16] (fun ob i wr2 => ∃ k : Nat, k ≤ zl.length ∧ i = .int .i64 k ∧ ob = .bool ((zl.take k).any fun a => (pathF M ur un a).any fun x => x == s) ∧ Hid (Ext w10 wr2)) (fun _ i _ => zl.length - (intOf i).toNat)
          case atStart => exact ⟨0, by omega, rfl, rfl, Lib.hid hW.out⟩
          case round =>
            obtain ⟨k, hk, rfl, rfl, hW2⟩ := hrel
            by_cases hkl : k < zl.length
            · have hza := ZOK.out (zl.getD k 0) (by rw [List.getD_eq_getElem?_getD, List.getElem?_eq_getElem hkl]; exact List.getElem_mem hkl)
              have hann := any_take (fun a => (pathF M ur un a).any fun x => x == s) zl k hkl
              obtain ⟨fg, rfl⟩ : ∃ fg, a8 = some ⟨fg, 0, none⟩ := by
                rcases Z10.out.2 with ⟨_, h0⟩ | ⟨g, cap, cur, he, _⟩
                · omega
                · exact ⟨g, by injection he⟩
              have dF := hW2.out.someCell (Z10.out.cells (g := fg) rfl k (.int .u64 (zl.getD k 0)) (by simp [rowI, List.getD, hkl]))
              have dFl := Nat.lt_of_lt_of_le (Z10.out.lt fg rfl) hW2.out.size
              generalize ((zl.take k).any fun a => (pathF M ur un a).any fun x => x == s) = own at hann
              generalize zl.getD k 0 = fa at dF hza hann
              have HPa := Lib.hid (fun w1 h => path_c kb Fk M [] ur kd fa us ac wp un sp sm w1 h HU.out.2.2.1 HU.out.2.2.2 hza.1 hza.2)
              obtain ⟨X, hX⟩ : ∃ X, pathF M ur un fa = X := ⟨_, rfl⟩
              have hX4 := pathF_len M ur un fa
              rw [hX] at HPa hann hX4
              have HANN := Lib.hid hann
              clear hX hann hza
              have hb := (hW2.out.block _ (heap_lt B10.out)).trans B10.out
              have d0 := (heap_cell hb 0).trans rfl
              have d1 := (heap_cell hb 1).trans rfl
              have d2 := (heap_cell hb 2).trans rfl
              have d3 := (heap_cell hb 3).trans rfl
              have d4 := (heap_cell hb 4).trans rfl
              have d5 := (heap_cell hb 5).trans rfl
              have d6 := (heap_cell hb 6).trans rfl
              have d7 := (heap_cell hb 7).trans rfl
              have dl := heap_lt hb
              clear hb
              go_upto_region 20 with (fail)
              refine region_mix [.q [0, 1, 2, 3, 4, 5, 6], .l 7 2, .q [8]] (by kernel_rfl) (by kernel_rfl) ?_
              (try refine ⟨fun h => absurd h (by simp), ?_⟩); (repeat (unfold wpPlan; simp only [pickL, List.map_cons, List.map_nil, List.getD_cons_succ, List.getD_cons_zero]; (repeat go_big_quiet_step (fail)); refine wpQuiet_nil ?_)); unfold wpPlan; intro y1 hy1; (try simp only [pickL, List.map_cons, List.map_nil, List.getD_cons_succ, List.getD_cons_zero])
              go_wp2_with (first | (go_at_call 27; refine (HPa.out _ (K10.out.ext (hW2.out.trans hy1))).mono ?_; rintro e y2 ⟨pv, rfl, oP, -, hy2⟩; obtain ⟨pa, pcp, rfl, -, -⟩ := oP.form))
              have W2 := Lib.hid (hW2.out.trans (hy1.trans hy2))
              have OP := Lib.hid oP
              clear hy1 hy2 oP dF dFl d0 d1 d2 d3 d4 d5 d6 d7 dl
              (try refine ⟨fun h => absurd h (by simp), ?_⟩); (repeat (unfold wpPlan; simp only [pickL, List.map_cons, List.map_nil, List.getD_cons_succ, List.getD_cons_zero]; (repeat go_big_quiet_step (fail)); refine wpQuiet_nil ?_)); unfold wpPlan; intro y3 hy3; (try simp only [pickL, List.map_cons, List.map_nil, List.getD_cons_succ, List.getD_cons_zero])
              have W3 := Lib.hid (W2.out.trans hy3)
              have OP3 := Lib.hid (OP.out.ext hy3)
              clear hy3
              go_upto_region 22 with (fail)
              go_loopw [15, 18] (fun ob i wr3 => ∃ l : Nat, l ≤ X.length ∧ i = .int .i64 l ∧ ob = .bool (own || (X.take l).any fun x => x == s) ∧ Hid (Ext y3 wr3)) (fun _ i _ => X.length - (intOf i).toNat)
              case atStart => exact ⟨0, by omega, rfl, by simp, Lib.hid (Ext.refl _)⟩
              case round =>
                obtain ⟨l, hl, rfl, rfl, hW3⟩ := hrel
                by_cases hll : l < X.length
                · obtain ⟨pg, rfl⟩ : ∃ pg, pa = some ⟨pg, 0, none⟩ := by
                    rcases OP3.out.2 with ⟨_, h0⟩ | ⟨g, cap, cur, he, _⟩
                    · omega
                    · exact ⟨g, by injection he⟩
                  have p0 := hW3.out.someCell (OP3.out.cells (g := pg) rfl l (.int .u64 (X.getD l 0)) (by simp [rowI, List.getD, hll]))
                  have pl := Nat.lt_of_lt_of_le (OP3.out.lt pg rfl) hW3.out.size
                  have e0 := (W3.out.trans hW3.out).someCell HD.out.1
                  have el := Nat.lt_of_lt_of_le HD.out.2 (W3.out.trans hW3.out).size
                  have hxx := any_take (fun x => x == s) X l hll
                  have HXX := Lib.hid hxx
                  clear hxx
                  generalize X.getD l 0 = x at p0 HXX
                  generalize ((X.take l).any fun x => x == s) = b1 at HXX ⊢
                  obtain ⟨b2, hb2⟩ : ∃ b2, (own || b1) = b2 := ⟨_, rfl⟩
                  rw [hb2]
                  have HB2 := Lib.hid hb2
                  clear hb2
                  cases b2
                  · go_upto_region 24 with (fail)
                    refine region_ext (by kernel_rfl) (by kernel_rfl) ?_; (repeat (go_big_quiet_step (fail))); refine wpQuiet_nil ?_; intro w1 hb; have ⟨hc, hf, hh, hs⟩ := hb.facts; try simp only [World.size_alloc, World.size_setCell, World.size_drew] at hs
                    go_wp2
                    exact ⟨⟨l + 1, hll, by go_num, by rw [HXX.out, ← Bool.or_assoc, HB2.out]; simp, Lib.hid (hW3.out.trans hb)⟩, by simp [intOf]; omega⟩
                  · go_upto_region 24 with (fail)
                    refine region_ext (by kernel_rfl) (by kernel_rfl) ?_; (repeat (go_big_quiet_step (fail))); refine wpQuiet_nil ?_; intro w1 hb; have ⟨hc, hf, hh, hs⟩ := hb.facts; try simp only [World.size_alloc, World.size_setCell, World.size_drew] at hs
                    go_wp2
                    exact ⟨⟨l + 1, hll, by go_num, by rw [HXX.out, ← Bool.or_assoc, HB2.out]; simp, Lib.hid (hW3.out.trans hb)⟩, by simp [intOf]; omega⟩
                · have hlx : l = X.length := by omega
                  subst hlx
                  have hval : (own || (X.take X.length).any fun x => x == s) = (zl.take (k + 1)).any fun a => (pathF M ur un a).any fun x => x == s := by
                    rw [List.take_length]; exact HANN.out.symm
                  rw [hval]
                  go_wp2
                  exact ⟨⟨k + 1, hkl, by go_num, rfl, Lib.hid (W3.out.trans hW3.out)⟩, by simp [intOf]; omega⟩
            · have hkx : k = zl.length := by omega
              subst hkx
              have hval : ((zl.take zl.length).any fun a => (pathF M ur un a).any fun x => x == s) = true := by rw [List.take_length]; exact HAny.out
              rw [hval]
              have he := err16s HSS.out.1
              have hM0 := MemP.wide (P := fun _ => True) ⟨Fm, C2.out, fun _ _ => trivial⟩ (s / 8)
              have HK1 := Lib.hid (fun w1 h => peek_c kb Fk 16 M [] s w1 h HSS.out.1.1 (by have := HSS.out.1.2.1; omega))
              have HK2 := Lib.hid (fun w1 h => peek_c mb F1 16 M1 T1 s w1 h HSS.out.1.1 (by have := HSS.out.1.2.1; omega))
              rw [he] at HK1 HK2
              simp only [if_true] at HK1 HK2
              rw [HSS.out.2.1] at HK2
              have hne := HSS.out.2.2
              generalize M (s / 8) = x at HK1 HK2 hM0 hne
              have hor := or32 hM0.1 hM0.2
              generalize orA x = y at HK2 hne hor
              have hne2 : (x == y) = false := by simpa using hne
              have e0 := hW2.out.someCell HD.out.1
              have el := Nat.lt_of_lt_of_le HD.out.2 hW2.out.size
              clear hval he
              go_upto_region 26 with (first | (go_at_call 28; refine (HK1.out _ (K10.out.ext (hW2.out.trans (by repeat (first | exact Ext.refl _ | assumption | refine Ext.alloc ?_ _ | refine Ext.drew ?_ | refine Ext.setCell ?_ (by first | (simp; done) | (dsimp only; omega)) _ | refine Ext.trans ?_ (by assumption)))))).mono ?_; rintro e y1 ⟨rfl, hy1⟩))
              have e1 := hy1.someCell e0
              have el1 := Nat.lt_of_lt_of_le el hy1.size
              have W4 := Lib.hid (hW2.out.trans hy1)
              clear hy1 e0 el HK1
              go_wp2_with (first | (go_at_call 28; refine (HK2.out _ (C10.out.ext (W4.out.trans (by repeat (first | exact Ext.refl _ | assumption | refine Ext.alloc ?_ _ | refine Ext.drew ?_ | refine Ext.setCell ?_ (by first | (simp; done) | (dsimp only; omega)) _ | refine Ext.trans ?_ (by assumption)))))).mono ?_; rintro e y2 ⟨rfl, hy2⟩))
              exact ⟨⟨j + 1, hlt, by go_num, Lib.hid (W4.out.trans hy2)⟩, by simp [intOf]; omega⟩
        · have hjx : j = D.length := by omega
          subst hjx
          go_wp2
          go_ret
          exact ⟨rfl, E10.out.trans hW.out⟩
end Go.Proofs.Ytakkjpdolkokfaa
