/- Joined texts, part 27 of what the law stands on: each as its own head says. -/
import Derived.Test.YtkfonacokamfiaaGreatGoz26
import Derived.Test.YtkfonacokamfiaaGreatGoz16
import Derived.Test.YtkfonacokamfiaaGreatGoz23
/- Package opt: New, a job's walk. -/
namespace Go.Proofs.YtkfonacokamfiaaGreat
set_option linter.unusedVariables false
set_option linter.unusedSimpArgs false
open Go.RowKit
attribute [local go_sem] wext_cell wext_frozen wext_heap alloc_cell alloc_frozen alloc_heap setCell_cell objCell_cells objFrozen_cells
def EndONew (mb : Nat) (Fm : List Nat) (M : Int → Int) (T : List Int) (small tables : Int) (w : World) (e : Ending) (w' : World) : Prop :=
 ∃ tb cb Ft pb pc Fp, e = .returned (.agg #[.pointer (some ⟨tb, 0, none⟩), .pointer (some ⟨pb, 0, none⟩)]) ∧ OptAt w' mb Fm M T tb cb Ft [] (clampR small) pb pc Fp (fun _ => []) (clampR tables) ∧ Ext w w' ∧ (∀ x ∈ Ft, w.heap.size ≤ x) ∧ ∀ x ∈ allF Fp, w.heap.size ≤ x
set_option maxHeartbeats 1000000 in
theorem optNew_c (mb : Nat) (Fm : List Nat) (M : Int → Int) (T : List Int) (small tables : Int) (w : World) (h : MemAt w mb Fm 16 M T) (h0 : -9223372036854775808 ≤ small) (h1 : small ≤ 9223372036854775807) (k0 : -9223372036854775808 ≤ tables) (k1 : tables ≤ 9223372036854775807) :
  Calls Tryz.prog 15 #[.int .i64 small, .int .i64 tables] w (EndONew mb Fm M T small tables w) := by
 have H := Lib.hid h
 have HT := Lib.hid (fun w => tnew_c small w h0 h1)
 have HP := Lib.hid (fun w => pscNew_c tables w k0 k1)
 generalize hE : EndONew mb Fm M T small tables w = E
 have HE := Lib.hid hE
 clear hE h
 go_enter Tryz.func15, Tryz.ntmps15
 go_upto_region 1 with (fail)
 go_wp2_with (first | (go_at_call 35; refine (HT.out _).mono ?_; rintro e w1 ⟨tb, cb, Ft, rfl, hA, hB, hC, hD⟩; have HA := Lib.hid hA; have HB := Lib.hid hB; have HD := Lib.hid hD; clear hA hD; have ⟨hc, hf, hh, hs⟩ := hB.facts; try simp only [World.size_alloc, World.size_setCell, World.size_drew] at hs) | (go_at_call 36; refine (HP.out _).mono ?_; rintro e w2 ⟨pb, pc, Fp, rfl, hA2, hB2, hC2, hD2⟩; have HA2 := Lib.hid hA2; have HB2 := Lib.hid hB2; have HD2 := Lib.hid hD2; clear hA2 hD2; have ⟨hc2, hf2, hh2, hs2⟩ := hB2.facts; try simp only [World.size_alloc, World.size_setCell, World.size_drew] at hs2))
 have e1 : Ext w w1 := ((Ext.refl w).alloc _).trans HB.out
 have hfm := H.out.lt
 have hft := HA.out.lt
 have hfp := HA2.out.lt
 have hsz := HB.out.size
 have hsz2 := HB2.out.size
 simp only [World.size_alloc] at hsz
 have hD' : ∀ x ∈ Ft, w.heap.size + 1 ≤ x := fun x hx => by have := HD.out x hx; simpa using this
 have hO : OptAt w2 mb Fm M T tb cb Ft [] (clampR small) pb pc Fp (fun _ => []) (clampR tables) :=
  ⟨⟨H.out.ext (e1.trans HB2.out), HA2.out, fun x hx hx2 => by have := hfm x hx; have := HD2.out x hx2; omega⟩, HA.out.ext HB2.out, fun x hx hx2 => by have := hfm x hx2; have := hD' x hx; omega,
   fun x hx hx2 => by have := hft x hx; have := HD2.out x hx2; omega, (fun y hy => by cases hy), (fun l _ _ y hy => by cases hy)⟩
 have hR := ((HB.out.trans HB2.out).block w.heap.size (by simp)).trans (alloc_same w _)
 have hne : ∀ x ∈ allO Fm Ft Fp, x ∉ [w.heap.size] := fun x hx hm => by
  rw [List.mem_singleton.1 hm] at hx
  exact hO.out hR (by decide) (by decide) (by decide) (by decide) (by decide) hx
 have htb : tb ∉ [w.heap.size] := fun hm => by
  have := hO.tlb.1; rw [List.mem_singleton.1 hm, hR] at this; simp only [Option.some.injEq, Obj.cells.injEq] at this; exact absurd this.2.1 (by decide)
 have hpb : pb ∉ [w.heap.size] := fun hm => by
  have := hO.both.psc.head; rw [List.mem_singleton.1 hm, hR] at this; simp only [Option.some.injEq, Obj.cells.injEq] at this; exact absurd this.2.1 (by decide)
 refine post_gen (fun U => U.heap[w.heap.size]? = some (.cells #[.pointer (some ⟨tb, 0, none⟩), .pointer (some ⟨pb, 0, none⟩)] 64 (0, 0)) ∧ OptAt U mb Fm M T tb cb Ft [] (clampR small) pb pc Fp (fun _ => []) (clampR tables) ∧ Ext w U) ⟨setCell_heap_same (setCell_heap_same hR), hO.keeps (Keeps.setCell (Keeps.setCell (Keeps.refl _ _) (.inl (by simp)) _) (.inl (by simp)) _) hne htb hpb, Ext.setCell (Ext.setCell (e1.trans HB2.out) (Nat.le_refl _) _) (Nat.le_refl _) _⟩ ?_
 rintro U ⟨m5, hO5, E5⟩
 have v0 := (heap_cell m5 0).trans rfl
 have v1 := (heap_cell m5 1).trans rfl
 clear m5
 rw [← HE.out]
 refine bodyPost_ret (by simp [results, Tryz.results15, go_sem, ↓IntWalk.iteOmega, *]; try rfl) rfl ⟨tb, cb, Ft, pb, pc, Fp, rfl, hO5, E5, fun x hx => by have := hD' x hx; omega, fun x hx => by have := HD2.out x hx; omega⟩
def startQ (root : Int) (d : Option (Int × Line)) : Int × Int × Rt := match d with | some y => (y.1 - 1, y.2.f, y.2.rt) | none => (4, tabI root, allRt)
def jobW (M : Int → Int) (nxe : Bool) (root p a : Int) (C : Int → Lines) : List Stp × WRes := walkF M 16 nxe a (startQ root (deepF C p a)).1.toNat (startQ root (deepF C p a)).2.1 (startQ root (deepF C p a)).2.2
theorem startQ_le {root p a : Int} {C : Int → Lines} (hC : COk C) (h0 : 0 ≤ root) (h1 : root ≤ 18446744073709551615) :
  (0 ≤ (startQ root (deepF C p a)).1 ∧ (startQ root (deepF C p a)).1 ≤ 4) ∧ 0 ≤ (startQ root (deepF C p a)).2.1 ∧ (startQ root (deepF C p a)).2.1 ≤ 18446744073709551615 := by
 cases hd : deepF C p a with
 | none =>
  have := tabI_le h0
  simp only [startQ]
  omega
 | some y =>
  obtain ⟨l, x⟩ := y
  have ⟨h2, h4, hm, _⟩ := deepF_some hd
  have := hC l h2 h4 _ hm
  simp only [startQ]
  simp only at this
  omega
def EndJob (mb : Nat) (Fm : List Nat) (M : Int → Int) (T : List Int) (tb cb : Nat) (Ft : List Nat) (TL : Lines) (r : Nat) (pb : Nat) (pc : Int → Nat) (Fp : Int → List Nat) (C : Int → Lines) (q : Nat) (s : Int × Int × Rt) (z : List Stp × WRes) (w : World) (e : Ending) (w' : World) : Prop :=
 ∃ sa sc, e = .returned (.tuple #[.agg #[.slice sa z.1.length sc, .int .i64 z.2.1, .bool z.2.2.1.1, .bool z.2.2.1.2.1, .bool z.2.2.1.2.2, .int .i64 z.2.2.2.1, .int .u64 z.2.2.2.2], .agg #[.int .i64 s.1, .int .u64 s.2.1, .bool s.2.2.1, .bool s.2.2.2.1, .bool s.2.2.2.2]]) ∧
  Owns w' 94 3 (.slice sa z.1.length sc) z.1.length (rowS z.1) ∧ OTo mb Fm M (T ++ z.1.map (·.2.1)) tb cb Ft TL r pb pc Fp C q w w'
set_option maxHeartbeats 4000000 in
set_option maxRecDepth 100000 in
theorem jobWalk_c (mb : Nat) (Fm : List Nat) (M : Int → Int) (T : List Int) (tb cb : Nat) (Ft : List Nat) (TL : Lines) (r : Nat) (pb : Nat) (pc : Int → Nat) (Fp : Int → List Nat) (C : Int → Lines) (q : Nat) (p k0 k1 k2 k3 root kd a : Int) (us ac wp nxe sp sm : Bool) (w : World)
  (h : OptAt w mb Fm M T tb cb Ft TL r pb pc Fp C q) (hT : T.length ≤ 900000) (hr0 : 0 ≤ root) (hr1 : root ≤ 18446744073709551615) (ha0 : 0 ≤ a) (ha1 : a ≤ 18446744073709551615) :
  Calls Tryz.prog 69 #[.agg #[.pointer (some ⟨mb, 0, none⟩), .pointer (some ⟨tb, 0, none⟩), .pointer (some ⟨pb, 0, none⟩), .int .i64 p, .int .i64 k0, .int .i64 k1, .int .i64 k2, .int .i64 k3, .int .u64 root, .int .i64 kd, .bool us, .bool ac, .bool wp, .bool nxe, .bool sp, .bool sm, .int .u64 a]] w
   (EndJob mb Fm M T tb cb Ft TL r pb pc Fp C q (startQ root (deepF C p a)) (jobW M nxe root p a C) w) := by
 have H := Lib.hid h
 have ⟨⟨s0, s1⟩, t0, t1⟩ := startQ_le (p := p) (a := a) h.cok hr0 hr1
 have HDp := Lib.hid (fun w h => deepest_c pb pc Fp C q p a w h ha0 ha1)
 have HTop := Lib.hid (fun w => wTop_c root w hr0 hr1)
 obtain ⟨d, hd⟩ : ∃ d, deepF C p a = d := ⟨_, rfl⟩
 unfold jobW
 rw [hd] at HDp s0 s1 t0 t1 ⊢
 have hfr : ∀ w1, MemAt w1 mb Fm 16 M T → Calls Tryz.prog 23 #[.pointer (some ⟨mb, 0, none⟩), .agg #[.int .i64 (startQ root d).1, .int .u64 (startQ root d).2.1, .bool (startQ root d).2.2.1, .bool (startQ root d).2.2.2.1, .bool (startQ root d).2.2.2.2], .int .u64 a, .bool nxe] w1 fun e V =>
   ∃ v, e = .returned (.agg #[v, .int .i64 (walkF M 16 nxe a (startQ root d).1.toNat (startQ root d).2.1 (startQ root d).2.2).2.1, .bool (walkF M 16 nxe a (startQ root d).1.toNat (startQ root d).2.1 (startQ root d).2.2).2.2.1.1, .bool (walkF M 16 nxe a (startQ root d).1.toNat (startQ root d).2.1 (startQ root d).2.2).2.2.1.2.1, .bool (walkF M 16 nxe a (startQ root d).1.toNat (startQ root d).2.1 (startQ root d).2.2).2.2.1.2.2, .int .i64 (walkF M 16 nxe a (startQ root d).1.toNat (startQ root d).2.1 (startQ root d).2.2).2.2.2.1, .int .u64 (walkF M 16 nxe a (startQ root d).1.toNat (startQ root d).2.1 (startQ root d).2.2).2.2.2.2]) ∧
    Owns V 94 3 v (walkF M 16 nxe a (startQ root d).1.toNat (startQ root d).2.1 (startQ root d).2.2).1.length (rowS (walkF M 16 nxe a (startQ root d).1.toNat (startQ root d).2.1 (startQ root d).2.2).1) ∧ EndMem mb Fm w1 16 M (T ++ (walkF M 16 nxe a (startQ root d).1.toNat (startQ root d).2.1 (startQ root d).2.2).1.map (·.2.1)) V := fun w1 hm => by
  have hn : ((startQ root d).1.toNat : Int) = (startQ root d).1 := by omega
  have := from_c mb Fm 16 M T (startQ root d).1.toNat (startQ root d).2.1 (startQ root d).2.2.1 (startQ root d).2.2.2.1 (startQ root d).2.2.2.2 a nxe w1 hm (by omega) t0 t1 ha0 ha1 hT
  rw [hn] at this
  exact this.mono fun e V he => by
   obtain ⟨v, q1, q2, q3, -⟩ := he
   exact ⟨v, q1, q2, q3⟩
 obtain ⟨z, hz⟩ : ∃ z, walkF M 16 nxe a (startQ root d).1.toNat (startQ root d).2.1 (startQ root d).2.2 = z := ⟨_, rfl⟩
 rw [hz] at hfr ⊢
 obtain ⟨L, why, ⟨g0, g1, g2⟩, lv, fr⟩ := z
 dsimp only at hfr
 generalize hE : EndJob mb Fm M T tb cb Ft TL r pb pc Fp C q (startQ root d) (L, why, (g0, g1, g2), lv, fr) w = E
 have HE := Lib.hid hE
 clear hE h hd hz
 go_enter Tryz.func69, Tryz.ntmps69
 go_upto_region 1 with (fail)
 refine wp_gen ?_; intro U hU
 have hUE : Ext w U := by rw [hU]; exact (by repeat (first | exact Ext.refl _ | assumption | refine Ext.alloc ?_ _ | refine Ext.drew ?_ | refine Ext.setCell ?_ (by first | (simp; done) | (dsimp only; omega)) _ | refine Ext.trans ?_ (by assumption)))
 have hU0 : U.heap[w.heap.size]? = some (.cells #[.pointer (some ⟨mb, 0, none⟩), .pointer (some ⟨tb, 0, none⟩), .pointer (some ⟨pb, 0, none⟩), .int .i64 p, .int .i64 k0, .int .i64 k1, .int .i64 k2, .int .i64 k3, .int .u64 root, .int .i64 kd, .bool us, .bool ac, .bool wp, .bool nxe, .bool sp, .bool sm, .int .u64 a] 156 (0, 0)) := by rw [hU]; exact (alloc_other _ _ (by simp; omega)).trans ((alloc_other _ _ (by simp)).trans (alloc_same ..))
 have hU1 : U.heap[w.heap.size + 1]? = some (.cells #[.slice none 0 0, .int .i64 0, .bool false, .bool false, .bool false, .int .i64 0, .int .u64 0] 86 (0, 0)) := by rw [hU]; exact (alloc_other _ _ (by simp)).trans (alloc_same1 ..)
 have hU2 : U.heap[w.heap.size + 1 + 1]? = some (.cells #[.int .i64 0, .int .u64 0, .bool false, .bool false, .bool false] 90 (0, 0)) := by rw [hU]; exact alloc_same2 ..
 obtain ⟨jb, hjb⟩ : ∃ jb, w.heap.size = jb := ⟨_, rfl⟩
 obtain ⟨ab, hab⟩ : ∃ ab, w.heap.size + 1 = ab := ⟨_, rfl⟩
 obtain ⟨bb, hbb⟩ : ∃ bb, w.heap.size + 1 + 1 = bb := ⟨_, rfl⟩
 have hbs : w.heap.size ≤ jb ∧ w.heap.size ≤ ab ∧ w.heap.size ≤ bb ∧ jb ≠ ab ∧ jb ≠ bb ∧ ab ≠ bb := by omega
 obtain ⟨b1, b2, b3, b4, b5, b6⟩ := hbs
 rw [hbb] at hU2 ⊢
 rw [hab] at hU1 ⊢
 rw [hjb] at hU0 ⊢
 have UE := Lib.hid hUE
 have U0 := Lib.hid hU0
 have U1 := Lib.hid hU1
 have U2 := Lib.hid hU2
 have y0 := (heap_cell hU0 0).trans rfl
 have y1 := (heap_cell hU0 1).trans rfl
 have y2 := (heap_cell hU0 2).trans rfl
 have y3 := (heap_cell hU0 3).trans rfl
 have y8 := (heap_cell hU0 8).trans rfl
 have y13 := (heap_cell hU0 13).trans rfl
 have y16 := (heap_cell hU0 16).trans rfl
 have yl := heap_lt hU0
 have HS := Lib.hid (⟨s0, s1, t0, t1⟩ : _ ∧ _ ∧ _ ∧ _)
 clear hU hUE hU0 hU1 hU2 hjb hab hbb s0 s1 t0 t1
 cases d with
 | none =>
  dsimp only [startQ, allRt] at hfr
  have HFr := Lib.hid hfr
  clear hfr
  go_upto_region 4 with (first | (go_at_call 94; refine (HDp.out _ (H.out.both.psc.ext UE.out)).mono ?_; rintro e w1 ⟨rfl, hb1⟩; have ⟨hc, hf, hh, hs⟩ := hb1.facts; try simp only [World.size_alloc, World.size_setCell, World.size_drew] at hs; simp only [Option.isSome]) | (go_at_call 25; refine (HTop.out _).mono ?_; rintro e w2 ⟨rfl, hb2⟩; have ⟨hc2, hf2, hh2, hs2⟩ := hb2.facts; try simp only [World.size_alloc, World.size_setCell, World.size_drew] at hs2))
  refine wp_gen ?_; intro V hV
  have hkb : w1.heap.size < w2.heap.size := by have := hb2.size; simp at this; omega
  have hV0 : V.heap[w1.heap.size]? = some (.cells #[.int .i64 4, .int .u64 (tabI root), .bool true, .bool true, .bool true] 90 (0, 0)) := by rw [hV]; exact store5_heap ((hb2.block _ (by simp)).trans (alloc_same ..))
  have hVE : Ext U V := by rw [hV]; exact ext5 (hb1.trans (Ext.trans (by repeat (first | exact Ext.refl _ | assumption | refine Ext.alloc ?_ _ | refine Ext.drew ?_ | refine Ext.setCell ?_ (by first | (simp; done) | (dsimp only; omega)) _ | refine Ext.trans ?_ (by assumption))) hb2)) hb1.size
  have hkU : U.heap.size ≤ w1.heap.size := hb1.size
  obtain ⟨kb, hkb2⟩ : ∃ kb, w1.heap.size = kb := ⟨_, rfl⟩
  rw [hkb2] at hV0 hkU ⊢
  clear hc hf hh hs hc2 hf2 hh2 hs2 hb1 hb2 hkb hV hkb2
  have VE := Lib.hid (UE.out.trans hVE)
  have VJ := (hVE.block _ (heap_lt U0.out)).trans U0.out
  have VA := (hVE.block _ (heap_lt U1.out)).trans U1.out
  have VB := (hVE.block _ (heap_lt U2.out)).trans U2.out
  have HVA := Lib.hid VA
  have HVB := Lib.hid VB
  have HV := H.out.ext VE.out
  have hal := heap_lt U1.out
  have hbl := heap_lt U2.out
  have hjF : jb ∉ ab :: Fm := fun hm => by
   rcases List.mem_cons.1 hm with hm | hm
   ·exact b4 hm
   ·exact HV.both.mem.apart VJ (by decide) (by decide) (by decide) hm
  have hkF : kb ∉ ab :: Fm := fun hm => by
   rcases List.mem_cons.1 hm with hm | hm
   ·omega
   ·exact HV.both.mem.apart hV0 (by decide) (by decide) (by decide) hm
  have haF : ab ∉ Fm := HV.both.mem.apart VA (by decide) (by decide) (by decide)
  have hbF : bb ∉ Fm := HV.both.mem.apart VB (by decide) (by decide) (by decide)
  have m0 := wk_cell (F := ab :: Fm) (heap_lt VJ) hjF ((heap_cell VJ 0).trans rfl)
  have m13 := wk_cell (F := ab :: Fm) (heap_lt VJ) hjF ((heap_cell VJ 13).trans rfl)
  have m16 := wk_cell (F := ab :: Fm) (heap_lt VJ) hjF ((heap_cell VJ 16).trans rfl)
  have e0 := wk_cell (F := ab :: Fm) (heap_lt hV0) hkF ((heap_cell hV0 0).trans rfl)
  have e1 := wk_cell (F := ab :: Fm) (heap_lt hV0) hkF ((heap_cell hV0 1).trans rfl)
  have e2 := wk_cell (F := ab :: Fm) (heap_lt hV0) hkF ((heap_cell hV0 2).trans rfl)
  have e3 := wk_cell (F := ab :: Fm) (heap_lt hV0) hkF ((heap_cell hV0 3).trans rfl)
  have e4 := wk_cell (F := ab :: Fm) (heap_lt hV0) hkF ((heap_cell hV0 4).trans rfl)
  clear y0 y1 y2 y3 y8 y13 y16 yl VJ VA VB HV hjF hkF hV0 hVE
  refine region_mixGR (Rw := fun a b => Keeps (ab :: Fm) a b) (fun k => Keeps.of_ext k) (fun h1 h2 => h1.trans h2 (fun y hy => .inl hy)) [.q [0, 1, 2, 3, 4, 5, 6, 7, 8, 10], .l 9 3, .l 11 3, .l 12 2] (by kernel_rfl) (by kernel_rfl) ?_
  (try refine ⟨fun h => absurd h (by simp), ?_⟩); (repeat (unfold wpPlanR; simp only [pickL, List.map_cons, List.map_nil, List.getD_cons_succ, List.getD_cons_zero]; (try refine quiet_wk ?_); (repeat go_big_quiet_step (fail)); refine wpQuiet_nil ?_)); unfold wpPlanR; intro w5 hb5; (try simp only [pickL, List.map_cons, List.map_nil, List.getD_cons_succ, List.getD_cons_zero])
  have HB5 := Lib.hid hb5
  clear hb5 m0 m13 m16 e0 e1 e2 e3 e4
  go_wp2_with (first | (go_at_call 23; refine (HFr.out _ (H.out.both.mem.ext (VE.out.trans HB5.out))).mono ?_; rintro e w6 ⟨v6, rfl, q2, q3⟩; obtain ⟨sa, sc, rfl, -, -⟩ := q2.form))
  have hk6 := q3.choose_spec.2.1
  refine ⟨fun _ => ((Keeps.of_ext HB5.out).same hk6).mono (fun x hx => .inl (List.mem_cons_of_mem _ hx)), ?_⟩
  have O6 : Hid (OTo mb Fm M (T ++ L.map (·.2.1)) tb cb Ft TL r pb pc Fp C q w w6) := Lib.hid (OTo.before (VE.out.trans HB5.out) ((H.out.ext (VE.out.trans HB5.out)).after_mem q3))
  have A6 := Lib.hid ((hk6.block ab (heap_lt ((HB5.out.block _ (heap_lt HVA.out)).trans HVA.out)) haF).trans ((HB5.out.block _ (heap_lt HVA.out)).trans HVA.out))
  have B6 := Lib.hid ((hk6.block bb (heap_lt ((HB5.out.block _ (heap_lt HVB.out)).trans HVB.out)) hbF).trans ((HB5.out.block _ (heap_lt HVB.out)).trans HVB.out))
  have Q6 := Lib.hid q2
  clear hk6 q2 q3
  (try refine ⟨fun h => absurd h (by simp), ?_⟩); (repeat (unfold wpPlanR; simp only [pickL, List.map_cons, List.map_nil, List.getD_cons_succ, List.getD_cons_zero]; (try refine quiet_wk ?_); (repeat go_big_quiet_step (fail)); refine wpQuiet_nil ?_)); unfold wpPlanR; intro w7 hb7; (try simp only [pickL, List.map_cons, List.map_nil, List.getD_cons_succ, List.getD_cons_zero])
  have HB7 := Lib.hid hb7
  clear hb7
  have A7 := Lib.hid ((HB7.out.block _ (heap_lt A6.out)).trans A6.out)
  have B7 := Lib.hid ((HB7.out.block _ (heap_lt B6.out)).trans B6.out)
  have a0 := (heap_cell A7.out 0).trans rfl
  have a1 := (heap_cell A7.out 1).trans rfl
  have a2 := (heap_cell A7.out 2).trans rfl
  have a3 := (heap_cell A7.out 3).trans rfl
  have a4 := (heap_cell A7.out 4).trans rfl
  have a5 := (heap_cell A7.out 5).trans rfl
  have a6 := (heap_cell A7.out 6).trans rfl
  have af := frozen_of A7.out
  have al := heap_lt A7.out
  go_wp2
  refine ⟨fun _ => Keeps.setCell (Keeps.setCell (Keeps.setCell (Keeps.setCell (Keeps.setCell (Keeps.setCell (Keeps.setCell (Keeps.of_ext HB7.out) (.inl (by simp)) _) (.inl (by simp)) _) (.inl (by simp)) _) (.inl (by simp)) _) (.inl (by simp)) _) (.inl (by simp)) _) (.inl (by simp)) _, ?_⟩
  clear a0 a1 a2 a3 a4 a5 a6 af al
  (try refine ⟨fun h => absurd h (by simp), ?_⟩); (repeat (unfold wpPlanR; simp only [pickL, List.map_cons, List.map_nil, List.getD_cons_succ, List.getD_cons_zero]; (try refine quiet_wk ?_); (repeat go_big_quiet_step (fail)); refine wpQuiet_nil ?_)); unfold wpPlanR; intro w8 hb8; (try simp only [pickL, List.map_cons, List.map_nil, List.getD_cons_succ, List.getD_cons_zero])
  have A8 := Lib.hid ((hb8.block ab (by simp; exact heap_lt A7.out)).trans (store7_heap A7.out (v0 := .slice sa L.length sc) (v1 := .int .i64 why) (v2 := .bool g0) (v3 := .bool g1) (v4 := .bool g2) (v5 := .int .i64 lv) (v6 := .int .u64 fr)))
  have hb7s : (((((((w7.setCell ⟨ab, 0, none⟩ (.slice sa L.length sc)).setCell ⟨ab, 1, none⟩ (.int .i64 why)).setCell ⟨ab, 2, none⟩ (.bool g0)).setCell ⟨ab, 3, none⟩ (.bool g1)).setCell ⟨ab, 4, none⟩ (.bool g2)).setCell ⟨ab, 5, none⟩ (.int .i64 lv)).setCell ⟨ab, 6, none⟩ (.int .u64 fr)).heap[bb]? = _ := (setCell_heap _ _ _ _ _ b6).trans ((setCell_heap _ _ _ _ _ b6).trans ((setCell_heap _ _ _ _ _ b6).trans ((setCell_heap _ _ _ _ _ b6).trans ((setCell_heap _ _ _ _ _ b6).trans ((setCell_heap _ _ _ _ _ b6).trans ((setCell_heap _ _ _ _ _ b6).trans B7.out))))))
  have B8 := Lib.hid ((hb8.block bb (by simp; exact heap_lt B7.out)).trans hb7s)
  have O8 : Hid (OTo mb Fm M (T ++ L.map (·.2.1)) tb cb Ft TL r pb pc Fp C q w w8) := Lib.hid ((OTo.aside (O6.out.ext HB7.out) (Keeps.setCell (Keeps.setCell (Keeps.setCell (Keeps.setCell (Keeps.setCell (Keeps.setCell (Keeps.setCell (Keeps.refl _ _) (.inl (by simp)) _) (.inl (by simp)) _) (.inl (by simp)) _) (.inl (by simp)) _) (.inl (by simp)) _) (.inl (by simp)) _) (.inl (by simp)) _) b2 A7.out (by decide) (by decide) (by decide) (by decide) (by decide) (by decide) (by decide)).ext hb8)
  have Q8 : Hid (Owns w8 94 3 (.slice sa L.length sc) L.length (rowS L)) := Lib.hid (((Q6.out.ext HB7.out).store7 A7.out (by decide)).ext hb8)
  clear hb7s hb8
  have z0 := (heap_cell B8.out 0).trans rfl
  have z1 := (heap_cell B8.out 1).trans rfl
  have z2 := (heap_cell B8.out 2).trans rfl
  have z3 := (heap_cell B8.out 3).trans rfl
  have z4 := (heap_cell B8.out 4).trans rfl
  have zf := frozen_of B8.out
  have zl := heap_lt B8.out
  go_wp2
  refine ⟨fun h => absurd h (by simp), ?_⟩
  clear z0 z1 z2 z3 z4 zf zl
  (try refine ⟨fun h => absurd h (by simp), ?_⟩); (repeat (unfold wpPlanR; simp only [pickL, List.map_cons, List.map_nil, List.getD_cons_succ, List.getD_cons_zero]; (try refine quiet_wk ?_); (repeat go_big_quiet_step (fail)); refine wpQuiet_nil ?_)); unfold wpPlanR; intro X hX; (try simp only [pickL, List.map_cons, List.map_nil, List.getD_cons_succ, List.getD_cons_zero])
  have ha8 := heap_lt A8.out
  have X1 : X.heap[ab]? = some (.cells #[.slice sa L.length sc, .int .i64 why, .bool g0, .bool g1, .bool g2, .int .i64 lv, .int .u64 fr] 86 (0, 0)) :=
   (hX.block ab (by simp; exact ha8)).trans ((setCell_heap _ _ _ _ _ (Ne.symm b6)).trans ((setCell_heap _ _ _ _ _ (Ne.symm b6)).trans ((setCell_heap _ _ _ _ _ (Ne.symm b6)).trans ((setCell_heap _ _ _ _ _ (Ne.symm b6)).trans ((setCell_heap _ _ _ _ _ (Ne.symm b6)).trans A8.out)))))
  have X2 : X.heap[bb]? = some (.cells #[.int .i64 4, .int .u64 (tabI root), .bool true, .bool true, .bool true] 90 (0, 0)) := (hX.block bb (by simp; exact heap_lt B8.out)).trans (store5_heap B8.out)
  have X3 : OTo mb Fm M (T ++ L.map (·.2.1)) tb cb Ft TL r pb pc Fp C q w X :=
   (OTo.aside O8.out (Keeps.setCell (Keeps.setCell (Keeps.setCell (Keeps.setCell (Keeps.setCell (Keeps.refl _ _) (.inl (by simp)) _) (.inl (by simp)) _) (.inl (by simp)) _) (.inl (by simp)) _) (.inl (by simp)) _) b3 B8.out (by decide) (by decide) (by decide) (by decide) (by decide) (by decide) (by decide)).ext hX
  have X4 : Owns X 94 3 (.slice sa L.length sc) L.length (rowS L) := Owns.ext (Q8.out.keep fun g hg => by
   have hgb : bb ≠ g := fun hgb => by
    obtain ⟨c, hc⟩ := Q8.out.heap g hg
    rw [← hgb, B8.out] at hc; simp only [Option.some.injEq, Obj.cells.injEq] at hc; exact absurd hc.2.1 (by decide)
   exact (setCell_heap _ _ _ _ _ hgb).trans ((setCell_heap _ _ _ _ _ hgb).trans ((setCell_heap _ _ _ _ _ hgb).trans ((setCell_heap _ _ _ _ _ hgb).trans (setCell_heap _ _ _ _ _ hgb))))) hX
  clear hX
  have v0 := (heap_cell X1 0).trans rfl
  have v1 := (heap_cell X1 1).trans rfl
  have v2 := (heap_cell X1 2).trans rfl
  have v3 := (heap_cell X1 3).trans rfl
  have v4 := (heap_cell X1 4).trans rfl
  have v5 := (heap_cell X1 5).trans rfl
  have v6 := (heap_cell X1 6).trans rfl
  have u0 := (heap_cell X2 0).trans rfl
  have u1 := (heap_cell X2 1).trans rfl
  have u2 := (heap_cell X2 2).trans rfl
  have u3 := (heap_cell X2 3).trans rfl
  have u4 := (heap_cell X2 4).trans rfl
  clear X1 X2
  go_wp2
  have HE2 : Hid (EndJob mb Fm M T tb cb Ft TL r pb pc Fp C q (4, (tabI root), (true, true, true)) (L, why, (g0, g1, g2), lv, fr) w = E) := HE
  rw [← HE2.out]
  refine bodyPost_ret (by simp [results, Tryz.results69, go_sem, ↓IntWalk.iteOmega, *]; try rfl) rfl ⟨sa, sc, rfl, X4, X3⟩
 | some y =>
  obtain ⟨l, x⟩ := y
  obtain ⟨xf, xa, xb, xc, xd, xm⟩ := x
  dsimp only [startQ, Line.rt] at hfr
  have HFr := Lib.hid hfr
  clear hfr
  go_upto_region 4 with (first | (go_at_call 94; refine (HDp.out _ (H.out.both.psc.ext UE.out)).mono ?_; rintro e w1 ⟨rfl, hb1⟩; have ⟨hc, hf, hh, hs⟩ := hb1.facts; try simp only [World.size_alloc, World.size_setCell, World.size_drew] at hs; simp only [Option.isSome, placeF, Line.rt]))
  refine wp_gen ?_; intro V hV
  have hV0 : V.heap[w1.heap.size]? = some (.cells #[.int .i64 (l - 1), .int .u64 xf, .bool xa, .bool xb, .bool xc] 90 (0, 0)) := by rw [hV]; exact alloc_same ..
  have hVE : Ext U V := by rw [hV]; exact hb1.trans (by repeat (first | exact Ext.refl _ | assumption | refine Ext.alloc ?_ _ | refine Ext.drew ?_ | refine Ext.setCell ?_ (by first | (simp; done) | (dsimp only; omega)) _ | refine Ext.trans ?_ (by assumption)))
  have hkU : U.heap.size ≤ w1.heap.size := hb1.size
  obtain ⟨kb, hkb2⟩ : ∃ kb, w1.heap.size = kb := ⟨_, rfl⟩
  rw [hkb2] at hV0 hkU ⊢
  clear hc hf hh hs hb1 hV hkb2
  have VE := Lib.hid (UE.out.trans hVE)
  have VJ := (hVE.block _ (heap_lt U0.out)).trans U0.out
  have VA := (hVE.block _ (heap_lt U1.out)).trans U1.out
  have VB := (hVE.block _ (heap_lt U2.out)).trans U2.out
  have HVA := Lib.hid VA
  have HVB := Lib.hid VB
  have HV := H.out.ext VE.out
  have hal := heap_lt U1.out
  have hbl := heap_lt U2.out
  have hjF : jb ∉ ab :: Fm := fun hm => by
   rcases List.mem_cons.1 hm with hm | hm
   ·exact b4 hm
   ·exact HV.both.mem.apart VJ (by decide) (by decide) (by decide) hm
  have hkF : kb ∉ ab :: Fm := fun hm => by
   rcases List.mem_cons.1 hm with hm | hm
   ·omega
   ·exact HV.both.mem.apart hV0 (by decide) (by decide) (by decide) hm
  have haF : ab ∉ Fm := HV.both.mem.apart VA (by decide) (by decide) (by decide)
  have hbF : bb ∉ Fm := HV.both.mem.apart VB (by decide) (by decide) (by decide)
  have m0 := wk_cell (F := ab :: Fm) (heap_lt VJ) hjF ((heap_cell VJ 0).trans rfl)
  have m13 := wk_cell (F := ab :: Fm) (heap_lt VJ) hjF ((heap_cell VJ 13).trans rfl)
  have m16 := wk_cell (F := ab :: Fm) (heap_lt VJ) hjF ((heap_cell VJ 16).trans rfl)
  have e0 := wk_cell (F := ab :: Fm) (heap_lt hV0) hkF ((heap_cell hV0 0).trans rfl)
  have e1 := wk_cell (F := ab :: Fm) (heap_lt hV0) hkF ((heap_cell hV0 1).trans rfl)
  have e2 := wk_cell (F := ab :: Fm) (heap_lt hV0) hkF ((heap_cell hV0 2).trans rfl)
  have e3 := wk_cell (F := ab :: Fm) (heap_lt hV0) hkF ((heap_cell hV0 3).trans rfl)
  have e4 := wk_cell (F := ab :: Fm) (heap_lt hV0) hkF ((heap_cell hV0 4).trans rfl)
  clear y0 y1 y2 y3 y8 y13 y16 yl VJ VA VB HV hjF hkF hV0 hVE
  refine region_mixGR (Rw := fun a b => Keeps (ab :: Fm) a b) (fun k => Keeps.of_ext k) (fun h1 h2 => h1.trans h2 (fun y hy => .inl hy)) [.q [0, 1, 2, 3, 4, 5, 6, 7, 8, 10], .l 9 3, .l 11 3, .l 12 2] (by kernel_rfl) (by kernel_rfl) ?_
  (try refine ⟨fun h => absurd h (by simp), ?_⟩); (repeat (unfold wpPlanR; simp only [pickL, List.map_cons, List.map_nil, List.getD_cons_succ, List.getD_cons_zero]; (try refine quiet_wk ?_); (repeat go_big_quiet_step (fail)); refine wpQuiet_nil ?_)); unfold wpPlanR; intro w5 hb5; (try simp only [pickL, List.map_cons, List.map_nil, List.getD_cons_succ, List.getD_cons_zero])
  have HB5 := Lib.hid hb5
  clear hb5 m0 m13 m16 e0 e1 e2 e3 e4
  go_wp2_with (first | (go_at_call 23; refine (HFr.out _ (H.out.both.mem.ext (VE.out.trans HB5.out))).mono ?_; rintro e w6 ⟨v6, rfl, q2, q3⟩; obtain ⟨sa, sc, rfl, -, -⟩ := q2.form))
  have hk6 := q3.choose_spec.2.1
  refine ⟨fun _ => ((Keeps.of_ext HB5.out).same hk6).mono (fun x hx => .inl (List.mem_cons_of_mem _ hx)), ?_⟩
  have O6 : Hid (OTo mb Fm M (T ++ L.map (·.2.1)) tb cb Ft TL r pb pc Fp C q w w6) := Lib.hid (OTo.before (VE.out.trans HB5.out) ((H.out.ext (VE.out.trans HB5.out)).after_mem q3))
  have A6 := Lib.hid ((hk6.block ab (heap_lt ((HB5.out.block _ (heap_lt HVA.out)).trans HVA.out)) haF).trans ((HB5.out.block _ (heap_lt HVA.out)).trans HVA.out))
  have B6 := Lib.hid ((hk6.block bb (heap_lt ((HB5.out.block _ (heap_lt HVB.out)).trans HVB.out)) hbF).trans ((HB5.out.block _ (heap_lt HVB.out)).trans HVB.out))
  have Q6 := Lib.hid q2
  clear hk6 q2 q3
  (try refine ⟨fun h => absurd h (by simp), ?_⟩); (repeat (unfold wpPlanR; simp only [pickL, List.map_cons, List.map_nil, List.getD_cons_succ, List.getD_cons_zero]; (try refine quiet_wk ?_); (repeat go_big_quiet_step (fail)); refine wpQuiet_nil ?_)); unfold wpPlanR; intro w7 hb7; (try simp only [pickL, List.map_cons, List.map_nil, List.getD_cons_succ, List.getD_cons_zero])
  have HB7 := Lib.hid hb7
  clear hb7
  have A7 := Lib.hid ((HB7.out.block _ (heap_lt A6.out)).trans A6.out)
  have B7 := Lib.hid ((HB7.out.block _ (heap_lt B6.out)).trans B6.out)
  have a0 := (heap_cell A7.out 0).trans rfl
  have a1 := (heap_cell A7.out 1).trans rfl
  have a2 := (heap_cell A7.out 2).trans rfl
  have a3 := (heap_cell A7.out 3).trans rfl
  have a4 := (heap_cell A7.out 4).trans rfl
  have a5 := (heap_cell A7.out 5).trans rfl
  have a6 := (heap_cell A7.out 6).trans rfl
  have af := frozen_of A7.out
  have al := heap_lt A7.out
  go_wp2
  refine ⟨fun _ => Keeps.setCell (Keeps.setCell (Keeps.setCell (Keeps.setCell (Keeps.setCell (Keeps.setCell (Keeps.setCell (Keeps.of_ext HB7.out) (.inl (by simp)) _) (.inl (by simp)) _) (.inl (by simp)) _) (.inl (by simp)) _) (.inl (by simp)) _) (.inl (by simp)) _) (.inl (by simp)) _, ?_⟩
  clear a0 a1 a2 a3 a4 a5 a6 af al
  (try refine ⟨fun h => absurd h (by simp), ?_⟩); (repeat (unfold wpPlanR; simp only [pickL, List.map_cons, List.map_nil, List.getD_cons_succ, List.getD_cons_zero]; (try refine quiet_wk ?_); (repeat go_big_quiet_step (fail)); refine wpQuiet_nil ?_)); unfold wpPlanR; intro w8 hb8; (try simp only [pickL, List.map_cons, List.map_nil, List.getD_cons_succ, List.getD_cons_zero])
  have A8 := Lib.hid ((hb8.block ab (by simp; exact heap_lt A7.out)).trans (store7_heap A7.out (v0 := .slice sa L.length sc) (v1 := .int .i64 why) (v2 := .bool g0) (v3 := .bool g1) (v4 := .bool g2) (v5 := .int .i64 lv) (v6 := .int .u64 fr)))
  have hb7s : (((((((w7.setCell ⟨ab, 0, none⟩ (.slice sa L.length sc)).setCell ⟨ab, 1, none⟩ (.int .i64 why)).setCell ⟨ab, 2, none⟩ (.bool g0)).setCell ⟨ab, 3, none⟩ (.bool g1)).setCell ⟨ab, 4, none⟩ (.bool g2)).setCell ⟨ab, 5, none⟩ (.int .i64 lv)).setCell ⟨ab, 6, none⟩ (.int .u64 fr)).heap[bb]? = _ := (setCell_heap _ _ _ _ _ b6).trans ((setCell_heap _ _ _ _ _ b6).trans ((setCell_heap _ _ _ _ _ b6).trans ((setCell_heap _ _ _ _ _ b6).trans ((setCell_heap _ _ _ _ _ b6).trans ((setCell_heap _ _ _ _ _ b6).trans ((setCell_heap _ _ _ _ _ b6).trans B7.out))))))
  have B8 := Lib.hid ((hb8.block bb (by simp; exact heap_lt B7.out)).trans hb7s)
  have O8 : Hid (OTo mb Fm M (T ++ L.map (·.2.1)) tb cb Ft TL r pb pc Fp C q w w8) := Lib.hid ((OTo.aside (O6.out.ext HB7.out) (Keeps.setCell (Keeps.setCell (Keeps.setCell (Keeps.setCell (Keeps.setCell (Keeps.setCell (Keeps.setCell (Keeps.refl _ _) (.inl (by simp)) _) (.inl (by simp)) _) (.inl (by simp)) _) (.inl (by simp)) _) (.inl (by simp)) _) (.inl (by simp)) _) (.inl (by simp)) _) b2 A7.out (by decide) (by decide) (by decide) (by decide) (by decide) (by decide) (by decide)).ext hb8)
  have Q8 : Hid (Owns w8 94 3 (.slice sa L.length sc) L.length (rowS L)) := Lib.hid (((Q6.out.ext HB7.out).store7 A7.out (by decide)).ext hb8)
  clear hb7s hb8
  have z0 := (heap_cell B8.out 0).trans rfl
  have z1 := (heap_cell B8.out 1).trans rfl
  have z2 := (heap_cell B8.out 2).trans rfl
  have z3 := (heap_cell B8.out 3).trans rfl
  have z4 := (heap_cell B8.out 4).trans rfl
  have zf := frozen_of B8.out
  have zl := heap_lt B8.out
  go_wp2
  refine ⟨fun h => absurd h (by simp), ?_⟩
  clear z0 z1 z2 z3 z4 zf zl
  (try refine ⟨fun h => absurd h (by simp), ?_⟩); (repeat (unfold wpPlanR; simp only [pickL, List.map_cons, List.map_nil, List.getD_cons_succ, List.getD_cons_zero]; (try refine quiet_wk ?_); (repeat go_big_quiet_step (fail)); refine wpQuiet_nil ?_)); unfold wpPlanR; intro X hX; (try simp only [pickL, List.map_cons, List.map_nil, List.getD_cons_succ, List.getD_cons_zero])
  have ha8 := heap_lt A8.out
  have X1 : X.heap[ab]? = some (.cells #[.slice sa L.length sc, .int .i64 why, .bool g0, .bool g1, .bool g2, .int .i64 lv, .int .u64 fr] 86 (0, 0)) :=
   (hX.block ab (by simp; exact ha8)).trans ((setCell_heap _ _ _ _ _ (Ne.symm b6)).trans ((setCell_heap _ _ _ _ _ (Ne.symm b6)).trans ((setCell_heap _ _ _ _ _ (Ne.symm b6)).trans ((setCell_heap _ _ _ _ _ (Ne.symm b6)).trans ((setCell_heap _ _ _ _ _ (Ne.symm b6)).trans A8.out)))))
  have X2 : X.heap[bb]? = some (.cells #[.int .i64 (l - 1), .int .u64 xf, .bool xa, .bool xb, .bool xc] 90 (0, 0)) := (hX.block bb (by simp; exact heap_lt B8.out)).trans (store5_heap B8.out)
  have X3 : OTo mb Fm M (T ++ L.map (·.2.1)) tb cb Ft TL r pb pc Fp C q w X :=
   (OTo.aside O8.out (Keeps.setCell (Keeps.setCell (Keeps.setCell (Keeps.setCell (Keeps.setCell (Keeps.refl _ _) (.inl (by simp)) _) (.inl (by simp)) _) (.inl (by simp)) _) (.inl (by simp)) _) (.inl (by simp)) _) b3 B8.out (by decide) (by decide) (by decide) (by decide) (by decide) (by decide) (by decide)).ext hX
  have X4 : Owns X 94 3 (.slice sa L.length sc) L.length (rowS L) := Owns.ext (Q8.out.keep fun g hg => by
   have hgb : bb ≠ g := fun hgb => by
    obtain ⟨c, hc⟩ := Q8.out.heap g hg
    rw [← hgb, B8.out] at hc; simp only [Option.some.injEq, Obj.cells.injEq] at hc; exact absurd hc.2.1 (by decide)
   exact (setCell_heap _ _ _ _ _ hgb).trans ((setCell_heap _ _ _ _ _ hgb).trans ((setCell_heap _ _ _ _ _ hgb).trans ((setCell_heap _ _ _ _ _ hgb).trans (setCell_heap _ _ _ _ _ hgb))))) hX
  clear hX
  have v0 := (heap_cell X1 0).trans rfl
  have v1 := (heap_cell X1 1).trans rfl
  have v2 := (heap_cell X1 2).trans rfl
  have v3 := (heap_cell X1 3).trans rfl
  have v4 := (heap_cell X1 4).trans rfl
  have v5 := (heap_cell X1 5).trans rfl
  have v6 := (heap_cell X1 6).trans rfl
  have u0 := (heap_cell X2 0).trans rfl
  have u1 := (heap_cell X2 1).trans rfl
  have u2 := (heap_cell X2 2).trans rfl
  have u3 := (heap_cell X2 3).trans rfl
  have u4 := (heap_cell X2 4).trans rfl
  clear X1 X2
  go_wp2
  have HE2 : Hid (EndJob mb Fm M T tb cb Ft TL r pb pc Fp C q ((l - 1), xf, (xa, xb, xc)) (L, why, (g0, g1, g2), lv, fr) w = E) := HE
  rw [← HE2.out]
  refine bodyPost_ret (by simp [results, Tryz.results69, go_sem, ↓IntWalk.iteOmega, *]; try rfl) rfl ⟨sa, sc, rfl, X4, X3⟩
end Go.Proofs.YtkfonacokamfiaaGreat
