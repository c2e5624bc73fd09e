/- Joined texts, part 52 of what the law stands on: each as its own head says. -/
import Derived.Test.YtkfonacokamfiaaGreatGoz34
import Derived.Test.YtkfonacokamfiaaGreatGoz51
/- PrefetchGoes: what is found of any plan, what was loaded, and the memory. Printed by mkpgoes.py. -/
namespace Go.Proofs.YtkfonacokamfiaaGreat
set_option linter.unusedVariables false
set_option linter.unusedSimpArgs false
open Go.RowKit
attribute [local go_sem] wext_cell wext_frozen wext_heap alloc_cell alloc_frozen alloc_heap setCell_cell objCell_cells objFrozen_cells
def U64.cells (n : Int) : List Value := [.int .u64 n]
def U64.ok (n : Int) : Prop := 0 ≤ n ∧ n ≤ 18446744073709551615
theorem plan_list {w W : World} {v : Value} {xs : List Int} (h : ListAt w v 1 U64.cells U64.ok xs) (k : Ext w W) {G : List Nat} (hG : ∀ x ∈ G, w.heap.size ≤ x) : PlanAt W G v xs := by
 obtain ⟨a, cap, h1, h2, h3, h4, h5⟩ := h
 refine ⟨a, cap, h1, Nat.le_trans h2 h3, fun x hx => ?_, fun j hj => ?_⟩
 ·obtain ⟨i, hi, rfl⟩ := List.mem_iff_getElem.1 hx
  have := h4 i hi
  simpa [List.getD, hi, U64.ok] using this
 ·obtain ⟨g, o, e1, e2, e3⟩ := h5 j hj
  refine ⟨g, o, e1, fun hm => by have := hG g hm; omega, Nat.lt_of_lt_of_le e2 k.size, k.someCell ?_⟩
  have := e3 0 _ rfl
  simpa using this
section
variable {w w' : World} {mb : Nat} {Fm : List Nat} {M : Int → Int} {T : List Int} {tb cb : Nat} {Ft : List Nat} {TL : Lines} {r : Nat} {pb : Nat} {pc : Int → Nat} {Fp : Int → List Nat} {C : Int → Lines} {q : Nat}
theorem OptAt.keepB (hO : OptAt w mb Fm M T tb cb Ft TL r pb pc Fp C q) (k : Keeps (allO Fm Ft Fp) w w') {b : Nat} {c : Array Value} {e : TypeId} (hb : w.heap[b]? = some (.cells c e (0, 0))) (h1 : e ≠ 124) (h2 : e ≠ 23) (h3 : e ≠ 139) (h4 : e ≠ 180) (h5 : e ≠ 187) :
  w'.heap[b]? = some (.cells c e (0, 0)) := (k.block _ (heap_lt hb) (hO.out hb h1 h2 h3 h4 h5)).trans hb
theorem StAt.keepO {h : SPh} {S : List (Int × Int)} {M' : Int → Int} {T' : List Int} {L' : Lines} {r' : Nat} {C' : Int → Lines} {q' : Nat} (H : StAt w h S M' T' L' r' C' q') (hO : OptAt w mb Fm M T tb cb Ft TL r pb pc Fp C q) (k : Keeps (allO Fm Ft Fp) w w')
  (hap : ∀ a, h.ta = some a → a.block ∉ allO Fm Ft Fp) : StAt w' h S M' T' L' r' C' q' := by
 have key : ∀ {e : TypeId} {n m : Nat} {u : Value} {ys : List Value}, Owns w e n u m ys → e ≠ 124 → e ≠ 23 → e ≠ 139 → e ≠ 180 → e ≠ 187 → Owns w' e n u m ys := fun hu a1 a2 a3 a4 a5 => hu.keep fun g hg => by
  obtain ⟨c, hc⟩ := hu.heap g hg
  exact k.block g (heap_lt hc) (hO.out hc a1 a2 a3 a4 a5)
 refine ⟨key H.slots (by decide) (by decide) (by decide) (by decide) (by decide), Owns.keep H.trace fun g hg => ?_, ⟨key H.lines.1 (by decide) (by decide) (by decide) (by decide) (by decide), H.lines.2⟩, fun l l0 l1 => ⟨key (H.psc l l0 l1).1 (by decide) (by decide) (by decide) (by decide) (by decide), (H.psc l l0 l1).2⟩, H.ok, H.room, H.rooms⟩
 have hlt := H.trace.lt g hg
 refine k.block g hlt ?_
 cases hta : h.ta with
 | none => rw [hta] at hg; cases hg
 | some a =>
  rw [hta] at hg
  have : a.block = g := by simpa [Value.ownBlock] using hg
  rw [← this]; exact hap a hta
end
structure GoSt (w : World) (mb tb cb pb : Nat) (pc : Int → Nat) (r : Nat) (db xb yb : Nat) (ask cac : Obj) (i : Nat) (z : OSt) (h' : SPh) (S' : List (Int × Int)) (F1 F2 : List Nat) (F3 : Int → List Nat) (wr : World) : Prop where
 opt : OptAt wr mb F1 z.M z.T tb cb F2 z.L r pb pc F3 z.C r
 fr : ∀ x ∈ allO F1 F2 F3, w.heap.size ≤ x
 st : wr.heap[xb]? = some (.cells (stV h' S' z.T z.L r z.C r) 60 (0, 0))
 sta : StAt wr h' S' z.M z.T z.L r z.C r
 sl : S'.length ≤ 100 + 48 * i
 tl : z.T.length ≤ 144 * i
 ap : ∀ a, h'.ta = some a → a.block ∉ allO F1 F2 F3
 ext : Ext w wr
 ask : wr.heap[db]? = some ask
 cac : wr.heap[yb]? = some cac
set_option maxHeartbeats 4000000 in
set_option maxRecDepth 100000 in
theorem prefetchGoes_c (v : Value) (ds : List PutD) (v2 : Value) (xs : List Int) (u : Who) (kd room many : Int) (us ac wp sp sm : Bool) (w : World) (h : ListAt w v 4 PutD.cells PutD.ok ds) (h2 : ListAt w v2 1 U64.cells U64.ok xs) (hu : u.ok) (hr0 : 0 ≤ room) (hr1 : room ≤ 255) :
  Calls Tryz.prog 4 #[v, v2, .agg #[.int .u64 u.root, .int .i64 kd, .bool us, .bool ac, .bool wp, .bool u.nxe, .bool sp, .bool sm, .int .i64 u.p, .int .i64 u.k0, .int .i64 u.k1, .int .i64 u.k2, .int .i64 u.k3, .int .u8 room, .int .i64 many]] w fun e w' => e = .returned (.bool true) ∧ Ext w w' := by
 have HV := Lib.hid h2
 have HU := Lib.hid hu
 have HAw := Lib.hid (fun w => awake15_c w)
 have HBu := Lib.hid (fun w1 (k : Ext w w1) => built15_c v ds w1 (h.ext k))
 have HRB := Lib.hid (fun w1 (k : Ext w w1) => rBuilt_c v ds w1 (h.ext k))
 obtain ⟨va, vc, rfl, -, hmx, -, -⟩ := h2
 unfold maxLen at hmx
 clear h hu
 obtain ⟨up, uk0, uk1, uk2, uk3, ur, un⟩ := u
 dsimp only
 go_enter Tryz.func4, Tryz.ntmps4
 go_upto_region 2 with (first | (go_at_call 5; refine (HAw.out _).mono ?_; rintro e w1 ⟨rfl, hb1⟩))
 have hE1 : Ext w w1 := ((Ext.refl w).alloc _).trans hb1
 have hB1 : w1.heap[w.heap.size]? = some (.cells #[.int .u64 ur, .int .i64 kd, .bool us, .bool ac, .bool wp, .bool un, .bool sp, .bool sm, .int .i64 up, .int .i64 uk0, .int .i64 uk1, .int .i64 uk2, .int .i64 uk3, .int .u8 room, .int .i64 many] 34 (0, 0)) := (hb1.block _ (by simp)).trans (alloc_same ..)
 obtain ⟨db, hdb⟩ : ∃ db, w.heap.size = db := ⟨_, rfl⟩
 rw [hdb] at hB1 ⊢
 have E1 := Lib.hid hE1
 have B1 := Lib.hid hB1
 clear hdb hE1 hB1 hb1
 go_upto_region 3 with (first | (go_at_call 6; refine (HBu.out _ E1.out).mono ?_; rintro e w2 ⟨mb, Fm, rfl, hC, hb2, hF, hmb⟩))
 obtain ⟨M, hM⟩ : ∃ M, builtM (ds.take 100) = M := ⟨_, rfl⟩
 unfold EndRBuilt at HRB
 rw [hM] at hC HRB
 have C2 := Lib.hid hC
 have E2 := Lib.hid (E1.out.trans hb2)
 have F2 : Hid (∀ x ∈ Fm, w.heap.size ≤ x) := Lib.hid fun x hx => by have := hF x hx; have := E1.out.size; omega
 have B2 := Lib.hid ((hb2.block _ (heap_lt B1.out)).trans B1.out)
 clear hC hb2 hF hmb hM
 by_cases hlong : 12 < xs.length
 ·have hd : decide ((12 : Int) < (xs.length : Int)) = true := by simp; omega
  have hd2 : decide (12 < xs.length) = true := by simpa using hlong
  clear hlong
  go_wp2
  go_ret
  exact ⟨rfl, E2.out⟩
 have hd : decide ((12 : Int) < (xs.length : Int)) = false := by simp; omega
 have hd2 : decide (12 < xs.length) = false := by simpa using hlong
 have hxl : xs.length ≤ 12 := by omega
 clear hlong
 have y13 := (heap_cell B2.out 13).trans rfl
 have yl := heap_lt B2.out
 have t1 : room.tmod 4 = room % 4 := Int.tmod_eq_emod_of_nonneg hr0
 have t2 : IntKind.u8.wrap (room % 4) = room % 4 := by rw [IntKind.wrap_u8]; omega
 have t3 : IntKind.i64.wrap (room % 4) = room % 4 := by rw [IntKind.wrap_i64]; omega
 have k0 : 0 ≤ room % 4 := by omega
 have k1 : room % 4 ≤ 3 := by omega
 go_upto_region 6 with (fail)
 have HON := Lib.hid (fun w1 => rOptNew_c (room % 4) (room % 4) w1 (by omega) (by omega) (by omega) (by omega))
 have HNw := Lib.hid (fun w1 h => optNew_c mb Fm M [] (room % 4) (room % 4) w1 h (by omega) (by omega) (by omega) (by omega))
 have hr64 : clampR (room % 4) ≤ 64 := by unfold clampR; split <;> (try split) <;> omega
 obtain ⟨r, hr⟩ : ∃ r, clampR (room % 4) = r := ⟨_, rfl⟩
 rw [hr] at HON hr64
 have HRr := Lib.hid hr
 clear hr
 go_upto_region 7 with (first | (go_at_call 7; refine (HRB.out _ E2.out).mono ?_; rintro e w3 ⟨sa, sc, S, rfl, hS, hok, hSl, hb3⟩) | (go_at_call 14; refine (HON.out _).mono ?_; rintro e w4 ⟨pa, pc0, rfl, hR4, hb4⟩))
 refine wp_gen ?_; intro U hU
 have KU := Lib.hid (show Ext w2 U by rw [hU]; exact (hb3.trans hb4).alloc _)
 have hUX : U.heap[w4.heap.size]? = some (.cells (stV ⟨sa, sc, none, 0, none, 0, pa, pc0⟩ S [] [] r (fun _ => []) r) 60 (0, 0)) := by rw [hU]; exact alloc_same ..
 have US : Hid (StAt U ⟨sa, sc, none, 0, none, 0, pa, pc0⟩ S M [] [] r (fun _ => []) r) := Lib.hid (by
  rw [hU]
  exact ⟨SAt.ext hS (hb4.alloc _), Owns.nil _ _ _, RefAt.nil _, hR4.ext ((Ext.refl _).alloc _), hok, ⟨by simp, hr64⟩, ⟨fun _ _ _ => by simp, hr64⟩⟩)
 obtain ⟨xb, hxb⟩ : ∃ xb, w4.heap.size = xb := ⟨_, rfl⟩
 have hxw : w.heap.size ≤ xb := by have := E2.out.size; have := hb3.size; have := hb4.size; omega
 rw [hxb] at hUX ⊢
 have UX := Lib.hid hUX
 have UC := Lib.hid (C2.out.ext KU.out)
 have UE := Lib.hid (E2.out.trans KU.out)
 have UB := Lib.hid ((KU.out.block _ (heap_lt B2.out)).trans B2.out)
 have hU2 := KU.out.size
 clear hU hUX hxb hb3 hb4 hS hR4 hok y13 yl t1 t2 t3 HON HRB HBu
 go_upto_region 8 with (first | (go_at_call 15; refine (HNw.out _ UC.out).mono ?_; rintro e w5 ⟨tb, cb, Ft, pb, pc, Fp, rfl, hO5, hb5, hFt, hFp⟩; rw [HRr.out] at hO5))
 refine wp_gen ?_; intro X hX
 have KX := Lib.hid (show Ext U X by rw [hX]; exact hb5.alloc _)
 have hXY : X.heap[w5.heap.size]? = some (.cells #[.pointer (some ⟨tb, 0, none⟩), .pointer (some ⟨pb, 0, none⟩)] 64 (0, 0)) := by rw [hX]; exact alloc_same ..
 have XO : Hid (OptAt X mb Fm M [] tb cb Ft [] r pb pc Fp (fun _ => []) r) := Lib.hid (by rw [hX]; exact hO5.ext ((Ext.refl _).alloc _))
 obtain ⟨yb, hyb⟩ : ∃ yb, w5.heap.size = yb := ⟨_, rfl⟩
 rw [hyb] at hXY ⊢
 have FR : Hid (∀ y ∈ allO Fm Ft Fp, w.heap.size ≤ y) := Lib.hid fun y hy => by
  have := UE.out.size
  rcases mem_allO.1 hy with hy | hy | hy
  ·exact F2.out y hy
  ·have := hFt y hy; omega
  ·have := hFp y hy; omega
 have XG : Hid (GoSt w mb tb cb pb pc r db xb yb (.cells #[.int .u64 ur, .int .i64 kd, .bool us, .bool ac, .bool wp, .bool un, .bool sp, .bool sm, .int .i64 up, .int .i64 uk0, .int .i64 uk1, .int .i64 uk2, .int .i64 uk3, .int .u8 room, .int .i64 many] 34 (0, 0)) (.cells #[.pointer (some ⟨tb, 0, none⟩), .pointer (some ⟨pb, 0, none⟩)] 64 (0, 0)) 0 (opt0 M) ⟨sa, sc, none, 0, none, 0, pa, pc0⟩ S Fm Ft Fp X) := Lib.hid
  ⟨XO.out, FR.out, (KX.out.block _ (heap_lt UX.out)).trans UX.out, US.out.ext KX.out, by omega, by simp [opt0], fun a ha => (by cases ha), UE.out.trans KX.out, (KX.out.block _ (heap_lt UB.out)).trans UB.out, hXY⟩
 clear hX hXY hyb hO5 hb5 hFt hFp KX KU UX UC UE UB US XO FR hU2 F2 C2 E2 B2 B1 E1 k0 k1
 go_wp2
 go_loopw [12] (fun iv wr => ∃ (i : Nat) (z : OSt) (h' : SPh) (S' : List (Int × Int)) (F1 F2 : List Nat) (F3 : Int → List Nat), i ≤ 2 ∧ iv = .int .i64 i ∧ Hid (GoSt w mb tb cb pb pc r db xb yb (.cells #[.int .u64 ur, .int .i64 kd, .bool us, .bool ac, .bool wp, .bool un, .bool sp, .bool sm, .int .i64 up, .int .i64 uk0, .int .i64 uk1, .int .i64 uk2, .int .i64 uk3, .int .u8 room, .int .i64 many] 34 (0, 0)) (.cells #[.pointer (some ⟨tb, 0, none⟩), .pointer (some ⟨pb, 0, none⟩)] 64 (0, 0)) i z h' S' F1 F2 F3 wr)) (fun iv _ => 2 - (intOf iv).toNat)
 case atStart => exact ⟨0, _, _, _, _, _, _, by omega, rfl, XG⟩
 case round =>
  obtain ⟨i, z, h', S1, F1, F2, F3, hi, rfl, hR⟩ := hrel
  by_cases hlt : i < 2
  ·have HA := Lib.hid (ahead_c mb F1 z tb cb F2 r pb pc F3 r ⟨up, uk0, uk1, uk2, uk3, ur, un⟩ kd us ac wp sp sm _ xs wr hR.out.opt (by have := hR.out.tl; omega) HU.out (plan_list HV.out hR.out.ext hR.out.fr))
   have hRA := fun w1 (k : StAt w1 h' S1 z.M z.T z.L r z.C r) (ke : Ext w w1) => rahead_c h' S1 z.M z.T z.L r z.C r ⟨up, uk0, uk1, uk2, uk3, ur, un⟩ kd us ac wp sp sm _ xs w1 k hR.out.opt.lok hR.out.opt.cok (by have := hR.out.sl; omega) (by have := hR.out.tl; omega) HU.out (plan_list HV.out ke (G := []) (by simp)) (by omega)
   rw [show (⟨z.M, z.T, z.L, z.C⟩ : OSt) = z from rfl] at hRA
   have hal := aheadF_len r r ⟨up, uk0, uk1, uk2, uk3, ur, un⟩ z xs
   generalize aheadF r r ⟨up, uk0, uk1, uk2, uk3, ur, un⟩ z xs = z2 at HA hRA hal
   obtain ⟨⟨M2, T2, L2, C2⟩, O2⟩ := z2
   dsimp only at hal
   unfold REndAhead whoV useV at hRA
   have RS := Lib.hid hR.out.sta
   have RX := Lib.hid hR.out.st
   have hst0 := hR.out.st
   obtain ⟨sa1, sc1, ta1, tc1, la1, lc1, pa1, pc1⟩ := h'
   obtain ⟨M1, T1, L1, C1⟩ := z
   dsimp only at hRA
   unfold stV stC at hRA hst0
   dsimp only at hRA hst0
   have HRA := Lib.hid hRA
   have X0 := Lib.hid hst0
   have RA := Lib.hid hR.out.ask
   have RC := Lib.hid hR.out.cac
   clear hRA hst0
   have d0 := (heap_cell RA.out 0).trans rfl
   have d1 := (heap_cell RA.out 1).trans rfl
   have d2 := (heap_cell RA.out 2).trans rfl
   have d3 := (heap_cell RA.out 3).trans rfl
   have d4 := (heap_cell RA.out 4).trans rfl
   have d5 := (heap_cell RA.out 5).trans rfl
   have d6 := (heap_cell RA.out 6).trans rfl
   have d7 := (heap_cell RA.out 7).trans rfl
   have d8 := (heap_cell RA.out 8).trans rfl
   have d9 := (heap_cell RA.out 9).trans rfl
   have d10 := (heap_cell RA.out 10).trans rfl
   have d11 := (heap_cell RA.out 11).trans rfl
   have d12 := (heap_cell RA.out 12).trans rfl
   have dl := heap_lt RA.out
   have c0 := (heap_cell RC.out 0).trans rfl
   have c1 := (heap_cell RC.out 1).trans rfl
   have cl := heap_lt RC.out
   go_upto_region 12 with (first | (go_at_call 16; refine HA.out.mono ?_; rintro e w6 ⟨v6, G1, G2, G3, rfl, o6, n6, hO6, hk6, f6⟩; obtain ⟨a6, c6, rfl, -, -⟩ := o6.form))
   clear d0 d1 d2 d3 d4 d5 d6 d7 d8 d9 d10 d11 d12 dl c0 c1 cl HA
   have X6 := Lib.hid (hR.out.opt.keepB hk6 X0.out (by decide) (by decide) (by decide) (by decide) (by decide))
   have A6 := Lib.hid (hR.out.opt.keepB hk6 RA.out (by decide) (by decide) (by decide) (by decide) (by decide))
   have Y6 := Lib.hid (hR.out.opt.keepB hk6 RC.out (by decide) (by decide) (by decide) (by decide) (by decide))
   have S6 := Lib.hid (RS.out.keepO hR.out.opt hk6 hR.out.ap)
   have E6 := Lib.hid (Keeps.to_ext hR.out.ext hk6 hR.out.fr)
   have FR6 : Hid (∀ y ∈ allO G1 G2 G3, w.heap.size ≤ y) := Lib.hid fun y hy => (f6 y hy).elim (hR.out.fr y) fun h => Nat.le_trans hR.out.ext.size h
   have AP6 : Hid (∀ a, ta1 = some a → a.block ∉ allO G1 G2 G3) := Lib.hid fun a ha hm => by
    rcases f6 _ hm with h | h
    ·exact hR.out.ap a ha h
    ·have := RS.out.trace.lt a.block (by have ha' : ta1 = some a := ha; dsimp only; rw [ha']; rfl)
     omega
   have O6 := Lib.hid hO6
   have Q6 : Hid (TrAt w6 a6 c6 O2) := Lib.hid o6
   have hO2l := hR.out.tl
   have hS1l := hR.out.sl
   dsimp only at hO2l
   clear o6 n6 hO6 hk6 f6 RS RX X0 RA RC hR
   have x0 := (heap_cell X6.out 0).trans rfl
   have x1 := (heap_cell X6.out 1).trans rfl
   have x2 := (heap_cell X6.out 2).trans rfl
   have x3 := (heap_cell X6.out 3).trans rfl
   have x4 := (heap_cell X6.out 4).trans rfl
   have x5 := (heap_cell X6.out 5).trans rfl
   have x6 := (heap_cell X6.out 6).trans rfl
   have x7 := (heap_cell X6.out 7).trans rfl
   have x8 := (heap_cell X6.out 8).trans rfl
   have x9 := (heap_cell X6.out 9).trans rfl
   have x10 := (heap_cell X6.out 10).trans rfl
   have xl := heap_lt X6.out
   have d0 := (heap_cell A6.out 0).trans rfl
   have d1 := (heap_cell A6.out 1).trans rfl
   have d2 := (heap_cell A6.out 2).trans rfl
   have d3 := (heap_cell A6.out 3).trans rfl
   have d4 := (heap_cell A6.out 4).trans rfl
   have d5 := (heap_cell A6.out 5).trans rfl
   have d6 := (heap_cell A6.out 6).trans rfl
   have d7 := (heap_cell A6.out 7).trans rfl
   have d8 := (heap_cell A6.out 8).trans rfl
   have d9 := (heap_cell A6.out 9).trans rfl
   have d10 := (heap_cell A6.out 10).trans rfl
   have d11 := (heap_cell A6.out 11).trans rfl
   have d12 := (heap_cell A6.out 12).trans rfl
   have dl := heap_lt A6.out
   go_upto_region 13 with (first | (go_at_call 17; refine (HRA.out _ S6.out E6.out).mono ?_; rintro e w7 ⟨⟨sa2, sc2, ta2, tc2, la2, lc2, pa2, pc2⟩, S2, la, lc, rfl, hS7, hO7, hl7, hb7, hf7, -, -, hT7, -⟩))
   refine wp_gen ?_; intro B hB
   have KB := Lib.hid (show Ext w6 B by rw [hB]; exact hb7.alloc _)
   have hBX : B.heap[w7.heap.size]? = some (.cells #[.int .i64 16, .slice sa2 S2.length sc2, .slice ta2 T2.length tc2, .slice la2 L2.length lc2, .int .i64 r, .slice (pa2 4) (C2 4).length (pc2 4), .int .i64 r, .slice (pa2 3) (C2 3).length (pc2 3), .int .i64 r, .slice (pa2 2) (C2 2).length (pc2 2), .int .i64 r] 60 (0, 0)) := by rw [hB]; exact alloc_same ..
   have BS : Hid (StAt B ⟨sa2, sc2, ta2, tc2, la2, lc2, pa2, pc2⟩ S2 M2 T2 L2 r C2 r) := Lib.hid (by rw [hB]; exact hS7.ext ((Ext.refl _).alloc _))
   have BO : Hid (TrAt B la lc O2) := Lib.hid (by rw [hB]; exact TrAt.ext hO7 ((Ext.refl _).alloc _))
   have BF : Hid (FreshT w6 ta1 ta2) := Lib.hid hf7
   obtain ⟨nb, hnb⟩ : ∃ nb, w7.heap.size = nb := ⟨_, rfl⟩
   have hnx : xb < nb := by have := hb7.size; have := heap_lt X6.out; omega
   rw [hnb] at hBX ⊢
   (try dsimp only at hl7 hT7)
   have BX := Lib.hid hBX
   have B0 := Lib.hid ((KB.out.block _ (heap_lt X6.out)).trans X6.out)
   have BA := Lib.hid ((KB.out.block _ (heap_lt A6.out)).trans A6.out)
   have BY := Lib.hid ((KB.out.block _ (heap_lt Y6.out)).trans Y6.out)
   have BP := Lib.hid (O6.out.ext KB.out)
   have BE := Lib.hid (E6.out.trans KB.out)
   have BQ := Lib.hid (TrAt.ext Q6.out KB.out)
   have OL := Lib.hid O6.out.lt
   clear hB hBX hnb hS7 hO7 hb7 hf7 x0 x1 x2 x3 x4 x5 x6 x7 x8 x9 x10 xl d0 d1 d2 d3 d4 d5 d6 d7 d8 d9 d10 d11 d12 dl X6 A6 Y6 S6 Q6 HRA KB
   have x0 := (heap_cell BX.out 0).trans rfl
   have x1 := (heap_cell BX.out 1).trans rfl
   have x2 := (heap_cell BX.out 2).trans rfl
   have x3 := (heap_cell BX.out 3).trans rfl
   have x4 := (heap_cell BX.out 4).trans rfl
   have x5 := (heap_cell BX.out 5).trans rfl
   have x6 := (heap_cell BX.out 6).trans rfl
   have x7 := (heap_cell BX.out 7).trans rfl
   have x8 := (heap_cell BX.out 8).trans rfl
   have x9 := (heap_cell BX.out 9).trans rfl
   have x10 := (heap_cell BX.out 10).trans rfl
   have xl := heap_lt BX.out
   have y0 := (heap_cell B0.out 0).trans rfl
   have y1 := (heap_cell B0.out 1).trans rfl
   have y2 := (heap_cell B0.out 2).trans rfl
   have y3 := (heap_cell B0.out 3).trans rfl
   have y4 := (heap_cell B0.out 4).trans rfl
   have y5 := (heap_cell B0.out 5).trans rfl
   have y6 := (heap_cell B0.out 6).trans rfl
   have y7 := (heap_cell B0.out 7).trans rfl
   have y8 := (heap_cell B0.out 8).trans rfl
   have y9 := (heap_cell B0.out 9).trans rfl
   have y10 := (heap_cell B0.out 10).trans rfl
   have yf := frozen_of B0.out
   have yl := heap_lt B0.out
   go_upto_region 14 with (fail)
   refine wp_gen ?_; intro D hD
   have DX : Hid (D.heap[xb]? = some (.cells #[.int .i64 16, .slice sa2 S2.length sc2, .slice ta2 T2.length tc2, .slice la2 L2.length lc2, .int .i64 r, .slice (pa2 4) (C2 4).length (pc2 4), .int .i64 r, .slice (pa2 3) (C2 3).length (pc2 3), .int .i64 r, .slice (pa2 2) (C2 2).length (pc2 2), .int .i64 r] 60 (0, 0))) := Lib.hid (by rw [hD]; exact store11_heap B0.out)
   have DS : Hid (StAt D ⟨sa2, sc2, ta2, tc2, la2, lc2, pa2, pc2⟩ S2 M2 T2 L2 r C2 r) := Lib.hid (by rw [hD]; exact BS.out.other B0.out (by decide) (by decide) (by decide) fun g hg => store11_other hg)
   have DO : Hid (TrAt D la lc O2) := Lib.hid (by rw [hD]; exact Owns.keep BO.out fun g hg => store11_other (Owns.ne BO.out B0.out (by decide) g hg))
   have DQ : Hid (TrAt D a6 c6 O2) := Lib.hid (by rw [hD]; exact Owns.keep BQ.out fun g hg => store11_other (Owns.ne BQ.out B0.out (by decide) g hg))
   have DE : Hid (Ext w D) := Lib.hid (by rw [hD]; exact ext11 BE.out hxw)
   have DA : Hid (D.heap[db]? = some (.cells #[.int .u64 ur, .int .i64 kd, .bool us, .bool ac, .bool wp, .bool un, .bool sp, .bool sm, .int .i64 up, .int .i64 uk0, .int .i64 uk1, .int .i64 uk2, .int .i64 uk3, .int .u8 room, .int .i64 many] 34 (0, 0))) := Lib.hid (by
    have hne : xb ≠ db := fun e => by have := B0.out; rw [e, BA.out] at this; simp at this
    rw [hD]; exact (store11_other hne).trans BA.out)
   have DY : Hid (D.heap[yb]? = some (.cells #[.pointer (some ⟨tb, 0, none⟩), .pointer (some ⟨pb, 0, none⟩)] 64 (0, 0))) := Lib.hid (by
    have hne : xb ≠ yb := fun e => by have := B0.out; rw [e, BY.out] at this; simp at this
    rw [hD]; exact (store11_other hne).trans BY.out)
   have DP : Hid (OptAt D mb G1 M2 T2 tb cb G2 L2 r pb pc G3 C2 r) := Lib.hid (by
    have hxo := BP.out.out B0.out (by decide) (by decide) (by decide) (by decide) (by decide)
    have hkD : Keeps [xb] B D := by rw [hD]; exact keeps11 (Keeps.refl _ _) (by simp)
    exact BP.out.keeps hkD (fun y hy hm => hxo (by rw [← List.mem_singleton.1 hm]; exact hy)) (fun hm => by
     have := BP.out.tlb.1; rw [List.mem_singleton.1 hm, B0.out] at this; simp only [Option.some.injEq, Obj.cells.injEq] at this; exact absurd this.2.1 (by decide)) (fun hm => by
     have := BP.out.both.psc.head; rw [List.mem_singleton.1 hm, B0.out] at this; simp only [Option.some.injEq, Obj.cells.injEq] at this; exact absurd this.2.1 (by decide)))
   have hB6 := BE.out.size
   clear hD x0 y0 x1 y1 x2 y2 x3 y3 x4 y4 x5 y5 x6 y6 x7 y7 x8 y8 x9 y9 x10 y10 xl yf yl BX B0 BA BY BS BO BQ BE BP
   have hsm := rSame_c a6 la O2 O2 c6 lc D (TrAt.ws DQ.out) (TrAt.ws DO.out) (by omega) (by omega)
   rw [decide_eq_true (rfl : O2 = O2)] at hsm
   have HSM := Lib.hid hsm
   have HSa := Lib.hid (fun w1 (k : Ext D w1) => same15_c mb G1 M2 T2 S2 sa2 ta2 sc2 tc2 w1 (DP.out.both.mem.ext k) (SAt.ext DS.out.slots k) (TrAt.ext DS.out.trace k) DS.out.ok (by omega) (by omega))
   clear hsm
   have x0 := (heap_cell DX.out 0).trans rfl
   have x1 := (heap_cell DX.out 1).trans rfl
   have x2 := (heap_cell DX.out 2).trans rfl
   have xl := heap_lt DX.out
   go_wp2_with (first | (go_at_call 9; refine HSM.out.mono ?_; rintro e w8 ⟨rfl, hb8⟩; have ⟨hc8, hf8, hh8, hs8⟩ := hb8.facts) | (go_at_call 13; refine (HSa.out _ hb8).mono ?_; rintro e w9 ⟨rfl, hb9⟩))
   have hE9 := hb8.trans hb9
   refine ⟨⟨i + 1, ⟨M2, T2, L2, C2⟩, ⟨sa2, sc2, ta2, tc2, la2, lc2, pa2, pc2⟩, S2, G1, G2, G3, by omega, by go_num, Lib.hid ⟨DP.out.ext hE9, FR6.out, (hE9.block _ (heap_lt DX.out)).trans DX.out, DS.out.ext hE9, by omega, by dsimp only; omega, fun a ha hm => ?_, DE.out.trans hE9, (hE9.block _ (heap_lt DA.out)).trans DA.out, (hE9.block _ (heap_lt DY.out)).trans DY.out⟩⟩, by simp [intOf]; omega⟩
   rcases BF.out a ha with h | h
   ·exact AP6.out a h hm
   ·have := OL.out _ hm
    omega
  ·obtain rfl : i = 2 := by omega
   go_wp2
   go_ret
   exact ⟨rfl, hR.out.ext⟩
end Go.Proofs.YtkfonacokamfiaaGreat
