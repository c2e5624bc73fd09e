/- Joined texts, part 51 of what the law stands on: each as its own head says. -/
import Derived.Test.YtkfonacokamfiaaGreatGoz50
import Derived.Test.YtkfonacokamfiaaGreatGoz32
import Derived.Test.YtkfonacokamfiaaGreatGoz43
import Derived.Test.YtkfonacokamfiaaGreatGoz21
import Derived.Test.YtkfonacokamfiaaGreatGoz8
/- The document's Ahead. Printed by mkaheadr.py. Own text. -/
namespace Go.Proofs.YtkfonacokamfiaaGreat
set_option linter.unusedVariables false
set_option linter.unusedSimpArgs false
open Go.RowKit
attribute [local go_sem] wext_cell wext_frozen wext_heap alloc_cell alloc_frozen alloc_heap setCell_cell objCell_cells objFrozen_cells
theorem PlanAt.extG {w w' : World} {G : List Nat} {v : Value} {xs : List Int} (h : PlanAt w G v xs) (k : Ext w w') : PlanAt w' G v xs := by
 obtain ⟨a, cap, h1, h2, h3, h4⟩ := h
 refine ⟨a, cap, h1, h2, h3, fun j hj => ?_⟩
 obtain ⟨g, o, e, q1, q2, q3⟩ := h4 j hj
 exact ⟨g, o, e, q1, Nat.lt_of_lt_of_le q2 k.size, k.someCell q3⟩
theorem fireF_ok {r q : Nat} {u : Who} {a : Int} {S : OSt} (hM : ∀ s, 0 ≤ S.M s ∧ S.M s ≤ 18446744073709551615) (hL : LOk S.L) (hC : COk S.C) : LOk (fireF r q canonB u a S).1.L ∧ COk (fireF r q canonB u a S).1.C := by
 unfold fireF
 split
 ·exact ⟨hL, hC⟩
 ·split
  ·refine ⟨LOk.keep hL, COk.fill _ _ _ (fun s hs => ?_) hC⟩
   unfold jobW at hs
   have := walk_word _ _ _ s hs
   rw [this.1]; exact hM _
  ·exact ⟨hL, hC⟩
def REndAhead (h : SPh) (n k0 m : Nat) (r q : Nat) (z : OSt × List Int) (w : World) (e : Ending) (w' : World) : Prop :=
 ∃ h' S' la lc, e = .returned (.tuple #[.agg (stV h' S' z.1.T z.1.L r z.1.C q), .slice la z.2.length lc]) ∧ StAt w' h' S' z.1.M z.1.T z.1.L r z.1.C q ∧ TrAt w' la lc z.2 ∧ S'.length ≤ n + 4 * m ∧ Ext w w' ∧ FreshT w h.ta h'.ta ∧
  LOk z.1.L ∧ COk z.1.C ∧ z.1.T.length ≤ k0 + 12 * m ∧ (∀ g, (Value.slice la z.2.length lc).ownBlock = some g → w.heap.size ≤ g)
def RAhTo (w U : World) (h : SPh) (n k0 : Nat) (r q : Nat) (z : OSt × List Int) (vb j : Nat) (h' : SPh) (S' : List (Int × Int)) (lx : Option Addr) (lc m : Nat) (wr : World) : Prop :=
 m = z.2.length ∧ wr.heap[vb]? = some (.cells (stV h' S' z.1.T z.1.L r z.1.C q) 60 (0, 0)) ∧ StAt wr h' S' z.1.M z.1.T z.1.L r z.1.C q ∧ TrAt wr lx lc z.2 ∧ (∀ g, (Value.slice lx m lc).ownBlock = some g → U.heap.size ≤ g) ∧
 S'.length ≤ n + 4 * j ∧ FreshT w h.ta h'.ta ∧ Keeps [vb] U wr ∧ LOk z.1.L ∧ COk z.1.C ∧ z.1.T.length ≤ k0 + 12 * j ∧ (∀ g, (Value.slice lx m lc).ownBlock = some g → ∀ a, h'.ta = some a → a.block ≠ g)
theorem StAt.grown {D w9 : World} {h : SPh} {S : List (Int × Int)} {M : Int → Int} {T : List Int} {L : Lines} {r : Nat} {C : Int → Lines} {q : Nat} (H : StAt D h S M T L r C q) {v : Value} {n : Nat} {xs : List Value} {o : Obj} (HA : Owns (D.alloc o) 23 1 v n xs)
  (q2 : (D.alloc o).grownBy w9 v.ownBlock) (hne : ∀ g, v.ownBlock = some g → ∀ a, h.ta = some a → a.block ≠ g) : StAt w9 h S M T L r C q := by
 have key : ∀ {e : TypeId} {k m : Nat} {u : Value} {ys : List Value}, Owns D e k u m ys → e ≠ 23 → Owns w9 e k u m ys := fun hu he => hu.keep fun g hg => by
  obtain ⟨c, hc⟩ := hu.heap g hg
  have hlt := heap_lt hc
  have ha : (D.alloc o).heap[g]? = D.heap[g]? := alloc_other _ _ hlt
  refine (q2.block g (by simp; omega) fun e' => ?_).trans ha
  obtain ⟨c', hc'⟩ := HA.heap g e'.symm
  rw [ha, hc] at hc'
  simp only [Option.some.injEq, Obj.cells.injEq] at hc'
  exact he hc'.2.1
 refine ⟨key H.slots (by decide), Owns.keep H.trace fun g hg => ?_, ⟨key H.lines.1 (by decide), H.lines.2⟩, fun l l0 l1 => ⟨key (H.psc l l0 l1).1 (by decide), (H.psc l l0 l1).2⟩, H.ok, H.room, H.rooms⟩
 have hlt := H.trace.lt g hg
 refine (q2.block g (by simp; omega) fun e' => ?_).trans (alloc_other _ _ hlt)
 cases hta : h.ta with
 | none => rw [hta] at hg; cases hg
 | some a =>
  rw [hta] at hg
  have : a.block = g := by simpa [Value.ownBlock] using hg
  exact hne g e'.symm a hta this
set_option maxHeartbeats 4000000 in
set_option maxRecDepth 100000 in
theorem rahead_c (h : SPh) (S : List (Int × Int)) (M : Int → Int) (T : List Int) (L : Lines) (r : Nat) (C : Int → Lines) (q : Nat) (u : Who) (kd : Int) (us ac wp sp sm : Bool) (v : Value) (xs : List Int) (w : World) (H : StAt w h S M T L r C q) (hL : LOk L) (hC : COk C) (hSl : S.length ≤ 800000) (hTl : T.length ≤ 800000) (hu : u.ok) (hP : PlanAt w [] v xs) (hx : xs.length ≤ 1000) :
  Calls Tryz.prog 17 #[.agg (stV h S T L r C q), whoV u, useV u kd us ac wp sp sm, v] w (REndAhead h S.length T.length xs.length r q (aheadF r q u ⟨M, T, L, C⟩ xs) w) := by
 have HP := Lib.hid hP
 have HH := Lib.hid H
 have HU := Lib.hid hu
 obtain ⟨va, cap, rfl, hm, hxs, -⟩ := hP
 have HXS := Lib.hid hxs
 have HLC := Lib.hid (And.intro hL hC)
 generalize hE : REndAhead h S.length T.length xs.length r q (aheadF r q u ⟨M, T, L, C⟩ xs) w = E
 have HE := Lib.hid hE
 obtain ⟨S0, hS0⟩ : ∃ S0 : OSt, ⟨M, T, L, C⟩ = S0 := ⟨_, rfl⟩
 have HS0 := Lib.hid hS0
 have HFr := Lib.hid (fun (h1 : SPh) (S1 : List (Int × Int)) (M1 : Int → Int) (T1 : List Int) (L1 : Lines) (C1 : Int → Lines) (a : Int) (w1 : World) (k1 : StAt w1 h1 S1 M1 T1 L1 r C1 q) (k2 : LOk L1) (k3 : COk C1) (k4 : S1.length ≤ 900000) (k5 : T1.length ≤ 890000) (k6 : 0 ≤ a) (k7 : a ≤ 18446744073709551615) => rfire_c h1 S1 M1 T1 L1 r C1 q u kd a us ac wp sp sm w1 k1 k2 k3 k4 k5 hu k6 k7)
 unfold REndFire whoV useV at HFr
 clear hE H hu hxs hL hC hS0
 unfold stV stC whoV useV
 unfold maxLen at hm
 go_enter Tryz.func17, Tryz.ntmps17
 go_upto_region 3 with (fail)
 refine wp_gen ?_; intro V hV
 have hVE : Ext w V := by rw [hV]; exact (by repeat (first | exact Ext.refl _ | assumption | refine Ext.alloc ?_ _ | refine Ext.drew ?_ | refine Ext.setCell ?_ (by first | (simp; done) | (dsimp only; omega)) _ | refine Ext.trans ?_ (by assumption)))
 have hV0 : V.heap[w.heap.size]? = some (.cells #[.int .i64 16, .slice h.sa S.length h.sc, .slice h.ta T.length h.tc, .slice h.la L.length h.lc, .int .i64 r, .slice (h.pa 4) (C 4).length (h.pc 4), .int .i64 q, .slice (h.pa 3) (C 3).length (h.pc 3), .int .i64 q, .slice (h.pa 2) (C 2).length (h.pc 2), .int .i64 q] 60 (0, 0)) := by rw [hV]; exact (alloc_other _ _ (by first | (simp; done) | (simp; omega))).trans ((alloc_other _ _ (by first | (simp; done) | (simp; omega))).trans ((alloc_other _ _ (by first | (simp; done) | (simp; omega))).trans (alloc_same ..)))
 have hV1 : V.heap[w.heap.size + 1]? = some (.cells #[.int .i64 u.p, .int .i64 u.k0, .int .i64 u.k1, .int .i64 u.k2, .int .i64 u.k3] 69 (0, 0)) := by rw [hV]; exact (alloc_other _ _ (by first | (simp; done) | (simp; omega))).trans ((alloc_other _ _ (by first | (simp; done) | (simp; omega))).trans (alloc_same1 ..))
 have hV2 : V.heap[w.heap.size + 1 + 1]? = some (.cells #[.int .u64 u.root, .int .i64 kd, .bool us, .bool ac, .bool wp, .bool u.nxe, .bool sp, .bool sm] 47 (0, 0)) := by rw [hV]; exact (alloc_other _ _ (by first | (simp; done) | (simp; omega))).trans (alloc_same2 ..)
 have hV3 : V.heap[w.heap.size + 1 + 1 + 1]? = some (.cells #[.int .i64 0, .slice none 0 0, .slice none 0 0, .slice none 0 0, .int .i64 0, .slice none 0 0, .int .i64 0, .slice none 0 0, .int .i64 0, .slice none 0 0, .int .i64 0] 60 (0, 0)) := by rw [hV]; exact alloc_same3 ..
 obtain ⟨vb, hvb⟩ : ∃ vb, w.heap.size = vb := ⟨_, rfl⟩
 rw [hvb] at hV0 hV1 hV2 hV3 ⊢
 have hwv : w.heap.size ≤ vb := by omega
 have VE := Lib.hid hVE
 have V0 := Lib.hid hV0
 have V1 := Lib.hid hV1
 have V2 := Lib.hid hV2
 have V3 := Lib.hid hV3
 clear hV hVE hV0 hV1 hV2 hV3 hvb
 go_loopw [10, 11] (fun lv iv wr => ∃ (j : Nat) (h' : SPh) (S' : List (Int × Int)) (lx : Option Addr) (lc m : Nat), j ≤ xs.length ∧ m ≤ xs.length ∧ iv = .int .i64 j ∧ lv = .slice lx m lc ∧ Hid (RAhTo w V h S.length T.length r q (aheadF r q u S0 (xs.take j)) vb j h' S' lx lc m wr)) (fun _ iv _ => xs.length - (intOf iv).toNat)
 case atStart => exact ⟨0, h, S, none, 0, 0, by omega, by omega, rfl, rfl, Lib.hid (by
  rw [← HS0.out]
  exact ⟨rfl, V0.out, HH.out.ext VE.out, Owns.nil _ _ _, fun g e => (by cases e), by omega, FreshT.refl _ _, Keeps.refl _ _, HLC.out.1, HLC.out.2, by simp [aheadF], fun g e => (by cases e)⟩)⟩
 case round =>
  obtain ⟨j, h', S1, lx, lc, m, hj, hmx, rfl, rfl, hR⟩ := hrel
  have RK := Lib.hid hR.out.2.2.2.2.2.2.2.1
  have hvz := heap_lt V0.out
  have WE : Hid (Ext w wr) := Lib.hid (Keeps.to_ext VE.out RK.out (by intro y hy; simp at hy; omega))
  have W1 := Lib.hid (RK.out.blk V1.out (by first | (simp; done) | (simp; omega)))
  have W2 := Lib.hid (RK.out.blk V2.out (by first | (simp; done) | (simp; omega)))
  have W3 := Lib.hid (RK.out.blk V3.out (by first | (simp; done) | (simp; omega)))
  by_cases hlt : j < xs.length
  ·have hst := aheadF_take r q u S0 xs j hlt
   have hal := aheadF_len r q u S0 (xs.take j)
   have hz := hR.out
   generalize aheadF r q u S0 (xs.take j) = z at hz hst hal
   obtain ⟨⟨M1, T1, L1, C1⟩, O1⟩ := z
   obtain ⟨sa1, sc1, ta1, tc1, la1, lc1, pa1, pc1⟩ := h'
   unfold RAhTo at hz
   dsimp only at hz hal
   obtain ⟨hmo, hb0, hS1, hO1, hg1, hl1, hf1, -, hLk, hCk, hTk, hap⟩ := hz
   obtain ⟨g, o, hva, -, hgl, hd⟩ := (HP.out.extG WE.out).choose_spec.choose_spec.2.2.2 j hlt
   have hvae : (HP.out.extG WE.out).choose = va := by
    have e := (HP.out.extG WE.out).choose_spec.choose_spec.1
    injection e with e; exact e.symm
   rw [hvae] at hva
   clear hvae
   subst hva
   have ⟨x0', x1'⟩ := HXS.out (xs.getD j 0) (by simp [List.getD, hlt])
   obtain ⟨x, hxx⟩ : ∃ x, xs.getD j 0 = x := ⟨_, rfl⟩
   rw [hxx] at hd hst x0' x1'
   have HXX := Lib.hid hxx
   obtain ⟨ff, hff⟩ : ∃ ff, fireF r q canonB u x ⟨M1, T1, L1, C1⟩ = ff := ⟨_, rfl⟩
   have hTn := fireF_T r q u x ⟨M1, T1, L1, C1⟩ hCk HU.out.2.2.1 HU.out.2.2.2
   have hok := fireF_ok (r := r) (q := q) (u := u) (a := x) (S := ⟨M1, T1, L1, C1⟩) hS1.ok.wide hLk hCk
   unfold aheadStep at hst
   dsimp only at hst hTn
   rw [hff] at hst hTn hok
   have HF1 := Lib.hid (fun w1 (k : Ext wr w1) => HFr.out ⟨sa1, sc1, ta1, tc1, la1, lc1, pa1, pc1⟩ S1 M1 T1 L1 C1 x w1 (hS1.ext k) hLk hCk (by omega) (by omega) x0' x1')
   rw [hff] at HF1
   obtain ⟨⟨M2, T2, L2, C2⟩, b⟩ := ff
   dsimp only at hst hTn hok HF1
   unfold stV stC at HF1 hb0
   dsimp only at HF1 hb0
   have HST := Lib.hid hst
   have HAL : Hid (m + 1 ≤ xs.length) := Lib.hid (by rw [hmo]; rw [List.length_take] at hal; omega)
   have HMO := Lib.hid hmo
   have HO1 := Lib.hid hO1
   have HG1 := Lib.hid hg1
   have HAP := Lib.hid hap
   have HF0 := Lib.hid hf1
   have HOk := Lib.hid hok
   have hT2l : T2.length ≤ T.length + 12 * (j + 1) := by omega
   have W0 := Lib.hid hb0
   clear hst hmo hO1 hg1 hap hf1 hS1 hLk hCk hff hok hTn hTk hxx hb0
   have ka0 := (heap_cell W0.out 0).trans rfl
   have ka1 := (heap_cell W0.out 1).trans rfl
   have ka2 := (heap_cell W0.out 2).trans rfl
   have ka3 := (heap_cell W0.out 3).trans rfl
   have ka4 := (heap_cell W0.out 4).trans rfl
   have ka5 := (heap_cell W0.out 5).trans rfl
   have ka6 := (heap_cell W0.out 6).trans rfl
   have ka7 := (heap_cell W0.out 7).trans rfl
   have ka8 := (heap_cell W0.out 8).trans rfl
   have ka9 := (heap_cell W0.out 9).trans rfl
   have ka10 := (heap_cell W0.out 10).trans rfl
   have kal := heap_lt W0.out
   have kb0 := (heap_cell W1.out 0).trans rfl
   have kb1 := (heap_cell W1.out 1).trans rfl
   have kb2 := (heap_cell W1.out 2).trans rfl
   have kb3 := (heap_cell W1.out 3).trans rfl
   have kb4 := (heap_cell W1.out 4).trans rfl
   have kbl := heap_lt W1.out
   have kc0 := (heap_cell W2.out 0).trans rfl
   have kc1 := (heap_cell W2.out 1).trans rfl
   have kc2 := (heap_cell W2.out 2).trans rfl
   have kc3 := (heap_cell W2.out 3).trans rfl
   have kc4 := (heap_cell W2.out 4).trans rfl
   have kc5 := (heap_cell W2.out 5).trans rfl
   have kc6 := (heap_cell W2.out 6).trans rfl
   have kc7 := (heap_cell W2.out 7).trans rfl
   have kcl := heap_lt W2.out
   go_upto_region 5 with (fail)
   refine region_mixA 11 (.cells #[.int .i64 0, .slice none 0 0, .slice none 0 0, .slice none 0 0, .int .i64 0, .slice none 0 0, .int .i64 0, .slice none 0 0, .int .i64 0, .slice none 0 0, .int .i64 0] 60 (0, 0)) [.q [0, 1, 2, 3, 4, 5, 6], .l 7 5, .q [8, 9], .b [10], .l 11 4, .l 12 2, .b [13]] (by kernel_rfl) (by kernel_rfl) (alloc_runA rfl (by kernel_rfl : _ = some (some (Value.agg (#[.int .i64 0, .slice none 0 0, .slice none 0 0, .slice none 0 0, .int .i64 0, .slice none 0 0, .int .i64 0, .slice none 0 0, .int .i64 0, .slice none 0 0, .int .i64 0])))) rfl) ?_
   (repeat (unfold wpPlanA; simp only [pickL, List.map_cons, List.map_nil, List.getD_cons_succ, List.getD_cons_zero]; (repeat go_big_quiet_step (fail)); refine wpQuiet_nil ?_)); unfold wpPlanA; intro w1 hb1; (try simp only [pickL, List.map_cons, List.map_nil, List.getD_cons_succ, List.getD_cons_zero])
   go_wp2_with (first | (go_at_call 38; refine (HF1.out _ hb1).mono ?_; rintro e w2 ⟨⟨sa2, sc2, ta2, tc2, la2, lc2, pa2, pc2⟩, S2, rfl, hS2, hl2, hb2, hf2⟩))
   have q1 := hb1.size
   have q2 := hb2.size
   refine ⟨⟨by omega, fun _ => hb2, fun h => absurd h (by omega)⟩, ?_⟩
   have K2 := Lib.hid (hb1.trans hb2)
   have N2 := Lib.hid hS2
   have F2' : Hid (FreshT wr ta1 ta2) := Lib.hid (FreshT.trans (FreshT.refl wr ta1) hb1.size hf2)
   have F2 : Hid (FreshT w h.ta ta2) := Lib.hid (FreshT.trans HF0.out (by have := WE.out.size; omega) hf2)
   (try dsimp only at hl2)
   clear hb1 hb2 hS2 hf2 ka0 ka1 ka2 ka3 ka4 ka5 ka6 ka7 ka8 ka9 ka10 kal kb0 kb1 kb2 kb3 kb4 kbl kc0 kc1 kc2 kc3 kc4 kc5 kc6 kc7 kcl
   (repeat (unfold wpPlanA; simp only [pickL, List.map_cons, List.map_nil, List.getD_cons_succ, List.getD_cons_zero]; (repeat go_big_quiet_step (fail)); refine wpQuiet_nil ?_)); unfold wpPlanA; intro xb w3 hb3 hb3B hb3O; simp only [List.getD_cons_succ, List.getD_cons_zero, ptrTo]; simp only [Act.put, Array.set!_eq_setIfInBounds, List.setIfInBounds_toArray, List.set_cons_succ, List.set_cons_zero]
   have K3 := Lib.hid (K2.out.trans hb3)
   have N3 := Lib.hid (N2.out.ext hb3)
   have X3 := Lib.hid hb3O
   have hxl := heap_lt hb3O
   have hxB := Lib.hid hb3B
   have q3 := hb3.size
   clear hb3 hb3O
   (repeat (unfold wpPlanA; simp only [pickL, List.map_cons, List.map_nil, List.getD_cons_succ, List.getD_cons_zero]; (repeat go_big_quiet_step (fail)); refine wpQuiet_nil ?_)); unfold wpPlanA; intro w4 hb4; (try simp only [pickL, List.map_cons, List.map_nil, List.getD_cons_succ, List.getD_cons_zero])
   have K4 := Lib.hid (K3.out.trans hb4)
   have N4 := Lib.hid (N3.out.ext hb4)
   have X4 := Lib.hid ((hb4.block xb hxl).trans X3.out)
   have q4 := hb4.size
   have m0 := (heap_cell X4.out 0).trans rfl
   have m1 := (heap_cell X4.out 1).trans rfl
   have m2 := (heap_cell X4.out 2).trans rfl
   have m3 := (heap_cell X4.out 3).trans rfl
   have m4 := (heap_cell X4.out 4).trans rfl
   have m5 := (heap_cell X4.out 5).trans rfl
   have m6 := (heap_cell X4.out 6).trans rfl
   have m7 := (heap_cell X4.out 7).trans rfl
   have m8 := (heap_cell X4.out 8).trans rfl
   have m9 := (heap_cell X4.out 9).trans rfl
   have m10 := (heap_cell X4.out 10).trans rfl
   have mf := frozen_of X4.out
   have ml := heap_lt X4.out
   clear hb4
   go_wp2
   refine ⟨⟨by simp; omega, fun h => absurd h (by omega), fun h => absurd h (by omega)⟩, ?_⟩
   clear m0 m1 m2 m3 m4 m5 m6 m7 m8 m9 m10 mf ml
   (repeat (unfold wpPlanA; simp only [pickL, List.map_cons, List.map_nil, List.getD_cons_succ, List.getD_cons_zero]; (repeat go_big_quiet_step (fail)); refine wpQuiet_nil ?_)); unfold wpPlanA; intro w5 hb5; (try simp only [pickL, List.map_cons, List.map_nil, List.getD_cons_succ, List.getD_cons_zero])
   have hvx : vb + 1 + 1 + 1 < xb := by have := hxB.out; have := heap_lt W3.out; omega
   have X5 := Lib.hid ((hb5.block xb (by simp; exact heap_lt X4.out)).trans (store11_heap X4.out))
   have Y0 := Lib.hid ((hb5.block vb (by simp; exact heap_lt ((K4.out.block _ (heap_lt W0.out)).trans W0.out))).trans ((store11_other (by omega)).trans ((K4.out.block _ (heap_lt W0.out)).trans W0.out)))
   have N5 := Lib.hid ((N4.out.other X4.out (by decide) (by decide) (by decide) fun g hg => store11_other hg).ext hb5)
   have K5 : Hid (Ext wr w5) := Lib.hid ((ext11 K4.out hxB.out).trans hb5)
   clear hb5 K2 K3 K4 N2 N3 N4 X3 X4
   have m0 := (heap_cell X5.out 0).trans rfl
   have m1 := (heap_cell X5.out 1).trans rfl
   have m2 := (heap_cell X5.out 2).trans rfl
   have m3 := (heap_cell X5.out 3).trans rfl
   have m4 := (heap_cell X5.out 4).trans rfl
   have m5 := (heap_cell X5.out 5).trans rfl
   have m6 := (heap_cell X5.out 6).trans rfl
   have m7 := (heap_cell X5.out 7).trans rfl
   have m8 := (heap_cell X5.out 8).trans rfl
   have m9 := (heap_cell X5.out 9).trans rfl
   have m10 := (heap_cell X5.out 10).trans rfl
   have ml := heap_lt X5.out
   have p0 := (heap_cell Y0.out 0).trans rfl
   have p1 := (heap_cell Y0.out 1).trans rfl
   have p2 := (heap_cell Y0.out 2).trans rfl
   have p3 := (heap_cell Y0.out 3).trans rfl
   have p4 := (heap_cell Y0.out 4).trans rfl
   have p5 := (heap_cell Y0.out 5).trans rfl
   have p6 := (heap_cell Y0.out 6).trans rfl
   have p7 := (heap_cell Y0.out 7).trans rfl
   have p8 := (heap_cell Y0.out 8).trans rfl
   have p9 := (heap_cell Y0.out 9).trans rfl
   have p10 := (heap_cell Y0.out 10).trans rfl
   have pf := frozen_of Y0.out
   have pl := heap_lt Y0.out
   go_upto_region 7 with (fail)
   refine wp_gen ?_; intro D hD
   have D0 : Hid (D.heap[vb]? = some (.cells #[.int .i64 16, .slice sa2 S2.length sc2, .slice ta2 T2.length tc2, .slice la2 L2.length lc2, .int .i64 r, .slice (pa2 4) (C2 4).length (pc2 4), .int .i64 q, .slice (pa2 3) (C2 3).length (pc2 3), .int .i64 q, .slice (pa2 2) (C2 2).length (pc2 2), .int .i64 q] 60 (0, 0))) := Lib.hid (by rw [hD]; exact store11_heap Y0.out)
   have DN : Hid (StAt D ⟨sa2, sc2, ta2, tc2, la2, lc2, pa2, pc2⟩ S2 M2 T2 L2 r C2 q) := Lib.hid (by rw [hD]; exact N5.out.other Y0.out (by decide) (by decide) (by decide) fun g hg => store11_other hg)
   have DK : Hid (Keeps [vb] V D) := Lib.hid (by rw [hD]; exact keeps11 (RK.out.ext K5.out) (by simp))
   have DA : Hid (∀ g, (Value.slice lx m lc).ownBlock = some g → ∀ a, ta2 = some a → a.block ≠ g) := Lib.hid fun g hg a ha => by
    rcases F2'.out a ha with h | h
    ·exact HAP.out g hg a h
    ·have := HO1.out.lt g (by rw [← HMO.out]; exact hg)
     omega
   have DO : Hid (TrAt D lx lc O1) := Lib.hid (by
    rw [hD]
    have hT := TrAt.ext HO1.out K5.out
    exact Owns.keep hT fun g hg => store11_other (Owns.ne hT Y0.out (by decide) g hg))
   have hDs := DK.out.size
   have hDE : Ext w D := Keeps.to_ext VE.out DK.out (by intro y hy; simp at hy; omega)
   have DE := Lib.hid hDE
   clear hD hDE m0 p0 m1 p1 m2 p2 m3 p3 m4 p4 m5 p5 m6 p6 m7 p7 m8 p8 m9 p9 m10 p10 ml pf pl X5 Y0 N5
   have wrs := RK.out.size
   cases b
   case false =>
    go_wp2
    refine ⟨⟨j + 1, ⟨sa2, sc2, ta2, tc2, la2, lc2, pa2, pc2⟩, S2, lx, lc, m, by omega, by omega, by go_num, rfl, Lib.hid ?_⟩, by simp [intOf]; omega⟩
    rw [HST.out]
    exact ⟨HMO.out, D0.out, DN.out, DO.out, HG1.out, by omega, F2.out, DK.out, HOk.out.1, HOk.out.2, hT2l, DA.out⟩
   case true =>
    obtain ⟨g', o', hva', -, hgl', hd'⟩ := (HP.out.extG DE.out).choose_spec.choose_spec.2.2.2 j hlt
    have hvae : (HP.out.extG DE.out).choose = some ⟨g, o, none⟩ := by
     have e := (HP.out.extG DE.out).choose_spec.choose_spec.1
     injection e with e; exact e.symm
    rw [hvae] at hva'
    simp only [Option.some.injEq, Addr.mk.injEq, and_true] at hva'
    obtain ⟨rfl, rfl⟩ := hva'
    rw [HXX.out] at hd'
    have HA : Hid (Owns (D.alloc (.cells #[.int .u64 x] 23)) 23 1 (.slice lx m lc) m (O1.map (Value.int .u64 ·))) := Lib.hid (by
     have := DO.out
     unfold TrAt at this
     rw [← HMO.out] at this
     exact this.ext ((Ext.refl D).alloc _))
    clear hvae hd hgl
    go_wp2_with (first | (at_builtin; refine wpList_append_owns rfl _ _ _ _ 1 8 wordRow rfl _ rfl m _ HA.out _ 1 1 rfl [.int .u64 x] rfl (fun j u hu => by rw [add0, heap_cell (alloc_same D _) j]; simpa using hu) (by simp [Value.oneCell']) (by unfold maxLen; omega) (by omega) ?_; intro v9 w9 q1 q2 q3; replace q2 : (D.alloc (.cells #[.int .u64 x] 23)).grownBy w9 (Value.slice lx m lc).ownBlock := q2; replace q3 : v9.ownBlock = (Value.slice lx m lc).ownBlock ∨ v9.ownBlock = some (D.alloc (.cells #[.int .u64 x] 23)).heap.size := q3; obtain ⟨a9, c9, rfl, -, -⟩ := q1.form; simp only [Act.put, Array.set!_eq_setIfInBounds, List.setIfInBounds_toArray, List.set_cons_succ, List.set_cons_zero]))
    all_goals
     have ⟨g1, g2, g3, g4⟩ := grown_after (U := w) (prev := Value.slice lx m lc) (o := (.cells #[.int .u64 x] 23)) (base := V.heap.size) hDs (by have := VE.out.size; omega) DE.out HG1.out q2 q3
     have hN9 : StAt w9 ⟨sa2, sc2, ta2, tc2, la2, lc2, pa2, pc2⟩ S2 M2 T2 L2 r C2 q := DN.out.grown HA.out q2 DA.out
     have hK9 : Keeps [vb] V w9 := (DK.out.ext ((Ext.refl D).alloc _)).grown q2 fun y hy => .inr (HG1.out y hy)
     refine ⟨⟨j + 1, ⟨sa2, sc2, ta2, tc2, la2, lc2, pa2, pc2⟩, S2, a9, c9, m + 1, by omega, by have := HAL.out; omega, by go_num, rfl, Lib.hid ?_⟩, by simp [intOf]; omega⟩
     rw [HST.out]
     refine ⟨by have := HMO.out; simp; omega, g2 vb _ hvz D0.out, hN9, ?_, g3, by omega, F2.out, hK9, HOk.out.1, HOk.out.2, hT2l, ?_⟩
     ·unfold TrAt
      have e : (if true = true then O1 ++ [x] else O1) = O1 ++ [x] := rfl
      dsimp only
      rw [e, List.length_append, ← HMO.out, List.map_append]
      exact q1
     ·intro g hg a ha
      rcases q3 with q3 | q3
      ·rw [q3] at hg; exact DA.out g hg a ha
      ·rw [q3] at hg
       simp only [Option.some.injEq, World.size_alloc] at hg
       have := DN.out.trace.lt a.block (by have ha' : ta2 = some a := ha; rw [ha']; rfl)
       omega
  ·have hjx : j = xs.length := by omega
   subst hjx
   have hz := hR.out
   rw [List.take_length] at hz
   have HZ : Hid (aheadF r q u ⟨M, T, L, C⟩ xs = aheadF r q u S0 xs) := Lib.hid (by rw [HS0.out])
   rw [HZ.out] at HE
   generalize aheadF r q u S0 xs = z at hz HE
   obtain ⟨⟨M1, T1, L1, C1⟩, O1⟩ := z
   obtain ⟨sa1, sc1, ta1, tc1, la1, lc1, pa1, pc1⟩ := h'
   unfold RAhTo at hz
   dsimp only at hz
   obtain ⟨hmo, hb0, hS1, hO1, hg1, hl1, hf1, -, hLk, hCk, hTk, -⟩ := hz
   unfold stV stC at hb0
   dsimp only at hb0
   have W0 := Lib.hid hb0
   have HS1 := Lib.hid hS1
   have HO1 := Lib.hid hO1
   have HF1 := Lib.hid hf1
   have HLK := Lib.hid (And.intro hLk hCk)
   have HG1 := Lib.hid hg1
   have HMO := Lib.hid hmo
   clear hb0 hS1 hO1 hf1 hLk hCk hg1 hmo
   have x0 := (heap_cell W0.out 0).trans rfl
   have x1 := (heap_cell W0.out 1).trans rfl
   have x2 := (heap_cell W0.out 2).trans rfl
   have x3 := (heap_cell W0.out 3).trans rfl
   have x4 := (heap_cell W0.out 4).trans rfl
   have x5 := (heap_cell W0.out 5).trans rfl
   have x6 := (heap_cell W0.out 6).trans rfl
   have x7 := (heap_cell W0.out 7).trans rfl
   have x8 := (heap_cell W0.out 8).trans rfl
   have x9 := (heap_cell W0.out 9).trans rfl
   have x10 := (heap_cell W0.out 10).trans rfl
   have xl := heap_lt W0.out
   have y0 := (heap_cell W3.out 0).trans rfl
   have y1 := (heap_cell W3.out 1).trans rfl
   have y2 := (heap_cell W3.out 2).trans rfl
   have y3 := (heap_cell W3.out 3).trans rfl
   have y4 := (heap_cell W3.out 4).trans rfl
   have y5 := (heap_cell W3.out 5).trans rfl
   have y6 := (heap_cell W3.out 6).trans rfl
   have y7 := (heap_cell W3.out 7).trans rfl
   have y8 := (heap_cell W3.out 8).trans rfl
   have y9 := (heap_cell W3.out 9).trans rfl
   have y10 := (heap_cell W3.out 10).trans rfl
   have yf := frozen_of W3.out
   have yl := heap_lt W3.out
   go_wp2
   refine post_gen (fun Q => Q.heap[vb + 1 + 1 + 1]? = some (.cells #[.int .i64 16, .slice sa1 S1.length sc1, .slice ta1 T1.length tc1, .slice la1 L1.length lc1, .int .i64 r, .slice (pa1 4) (C1 4).length (pc1 4), .int .i64 q, .slice (pa1 3) (C1 3).length (pc1 3), .int .i64 q, .slice (pa1 2) (C1 2).length (pc1 2), .int .i64 q] 60 (0, 0)) ∧ StAt Q ⟨sa1, sc1, ta1, tc1, la1, lc1, pa1, pc1⟩ S1 M1 T1 L1 r C1 q ∧ TrAt Q lx lc O1 ∧ Ext w Q) ⟨store11_heap W3.out, HS1.out.other W3.out (by decide) (by decide) (by decide) fun g hg => store11_other hg, Owns.keep HO1.out fun g hg => store11_other (Owns.ne HO1.out W3.out (by decide) g hg), ext11 WE.out (by omega)⟩ ?_
   clear x0 y0 x1 y1 x2 y2 x3 y3 x4 y4 x5 y5 x6 y6 x7 y7 x8 y8 x9 y9 x10 y10 xl yf yl
   rintro Q ⟨m5, q1, q2, q3⟩
   have v0 := (heap_cell m5 0).trans rfl
   have v1 := (heap_cell m5 1).trans rfl
   have v2 := (heap_cell m5 2).trans rfl
   have v3 := (heap_cell m5 3).trans rfl
   have v4 := (heap_cell m5 4).trans rfl
   have v5 := (heap_cell m5 5).trans rfl
   have v6 := (heap_cell m5 6).trans rfl
   have v7 := (heap_cell m5 7).trans rfl
   have v8 := (heap_cell m5 8).trans rfl
   have v9 := (heap_cell m5 9).trans rfl
   have v10 := (heap_cell m5 10).trans rfl
   have Q1 := Lib.hid q1
   have Q2 := Lib.hid q2
   have Q3 := Lib.hid q3
   clear m5 q1 q2 q3
   refine bodyPost_ret (by simp [results, Tryz.results17, go_sem, ↓IntWalk.iteOmega, *]; try rfl) rfl (by
    rw [← HE.out]
    refine ⟨⟨sa1, sc1, ta1, tc1, la1, lc1, pa1, pc1⟩, S1, lx, lc, ?_, Q1.out, Q2.out, hl1, Q3.out, HF1.out, HLK.out.1, HLK.out.2, hTk, ?_⟩
    ·rw [← HMO.out]; rfl
    ·rw [← HMO.out]; intro g hg; have := HG1.out g hg; have := VE.out.size; omega)
end Go.Proofs.YtkfonacokamfiaaGreat
/- The law's look whether a memory is the document's. (same15_c's twin.) Own text. -/
namespace Go.Proofs.YtkfonacokamfiaaGreat
set_option linter.unusedVariables false
set_option linter.unusedSimpArgs false
open Go.RowKit
attribute [local go_sem] wext_cell wext_frozen wext_heap alloc_cell alloc_frozen alloc_heap setCell_cell objCell_cells objFrozen_cells
theorem RefOk.get {B : Int} {S : List (Int × Int)} {M : Int → Int} (h : RefOk B S M) {i : Nat} (hi : i < S.length) : (0 ≤ (wAt S i).1 ∧ (wAt S i).1 ≤ 18446744073709551615) ∧ errM B (wAt S i).1 = 0 ∧ M ((wAt S i).1 / 8) = (wAt S i).2 ∧ 0 ≤ (wAt S i).2 ∧ (wAt S i).2 ≤ 18446744073709551615 := by
 have hm : wAt S i ∈ S := by
  have : wAt S i = S[i] := by simp [wAt, List.getD, hi]
  rw [this]; exact List.getElem_mem hi
 obtain ⟨h1, h2, h3⟩ := h.entry hm
 obtain ⟨⟨k1, k2⟩, k3⟩ := h.word_le hm
 exact ⟨⟨h1, by omega⟩, h2, h3, k3⟩
set_option maxHeartbeats 600000 in
set_option maxRecDepth 20000 in
theorem same15_c (mb : Nat) (F : List Nat) (M : Int → Int) (T : List Int) (S : List (Int × Int)) (sa ta : Option Addr) (sc tc : Nat) (w : World) (h : MemAt w mb F 16 M T) (hS : SAt w sa sc S) (hT : TrAt w ta tc T) (hok : RefOk 16 S M) (hl : S.length ≤ 1000000) (hTl : T.length ≤ 1000000) :
  Calls Tryz.prog 13 #[.pointer (some ⟨mb, 0, none⟩), .agg #[.int .i64 16, .slice sa S.length sc, .slice ta T.length tc]] w fun e w' => e = .returned (.bool true) ∧ Ext w w' := by
 have H := Lib.hid h
 have HS := Lib.hid hS
 have HT := Lib.hid hT
 have HO := Lib.hid hok
 have HTr := Lib.hid (fun w h => trace_c mb F 16 M T w h hTl)
 clear h hS hT hok
 go_enter Tryz.func13, Tryz.ntmps13
 go_wp2
 refine wp_gen ?_; intro V hV
 have hVE : Ext w V := by rw [hV]; exact (by repeat (first | exact Ext.refl _ | assumption | refine Ext.alloc ?_ _ | refine Ext.drew ?_ | refine Ext.setCell ?_ (by first | (simp; done) | (dsimp only; omega)) _ | refine Ext.trans ?_ (by assumption)))
 have hV0 : V.heap[w.heap.size]? = some (.cells #[.int .i64 16, .slice sa S.length sc, .slice ta T.length tc] 41 (0, 0)) := by rw [hV]; exact alloc_same ..
 obtain ⟨vb, hvb⟩ : ∃ vb, w.heap.size = vb := ⟨_, rfl⟩
 rw [hvb] at hV0 ⊢
 have VE := Lib.hid hVE
 have V0 := Lib.hid hV0
 clear hV hVE hV0 hvb
 go_loopw [5] (fun iv wr => ∃ i : Nat, i ≤ S.length ∧ iv = .int .i64 i ∧ Hid (Ext V wr)) (fun iv _ => S.length - (intOf iv).toNat)
 case atStart => exact ⟨0, by omega, rfl, Lib.hid (Ext.refl _)⟩
 case round =>
  obtain ⟨i, hi, rfl, hR⟩ := hrel
  have hc := (hR.out.block _ (heap_lt V0.out)).trans V0.out
  have c0 := (heap_cell hc 0).trans rfl
  have c1 := (heap_cell hc 1).trans rfl
  have c2 := (heap_cell hc 2).trans rfl
  have cl := heap_lt hc
  by_cases hlt : i < S.length
  ·obtain ⟨g, rfl, hgl, s0, s1⟩ := SAt.at (SAt.ext HS.out (VE.out.trans hR.out)) hlt
   obtain ⟨⟨k0, k1⟩, ke, km, k2, k3⟩ := HO.out.get hlt
   generalize wAt S i = z at s0 s1 k0 k1 ke km k2 k3
   obtain ⟨za, zx⟩ := z
   dsimp only at s0 s1 k0 k1 ke km k2 k3
   have hp := fun w h => peek_c mb F 16 M T za w h k0 k1
   rw [if_pos ke, ke, km] at hp
   have HP := Lib.hid hp
   have hzz : (zx != zx) = false := by simp
   clear hp ke km hc
   go_wp2_with (first | (go_at_call 32; refine (HP.out _ (H.out.ext ((VE.out.trans hR.out).trans (by repeat (first | exact Ext.refl _ | assumption | refine Ext.alloc ?_ _ | refine Ext.drew ?_ | refine Ext.setCell ?_ (by first | (simp; done) | (dsimp only; omega)) _ | refine Ext.trans ?_ (by assumption)))))).mono ?_; rintro e w1 ⟨rfl, hb1⟩; have ⟨hc, hf, hh, hs⟩ := hb1.facts; try simp only [World.size_alloc, World.size_setCell, World.size_drew] at hs))
   refine ⟨⟨i + 1, by omega, by go_num, Lib.hid (hR.out.trans (Ext.trans (by repeat (first | exact Ext.refl _ | assumption | refine Ext.alloc ?_ _ | refine Ext.drew ?_ | refine Ext.setCell ?_ (by first | (simp; done) | (dsimp only; omega)) _ | refine Ext.trans ?_ (by assumption))) hb1))⟩, by simp [intOf]; omega⟩
  ·obtain rfl : i = S.length := by omega
   have HX := Lib.hid (VE.out.trans hR.out)
   clear hc
   go_upto_region 7 with (fail)
   refine region_mixG [.q [0, 2, 3], .l 1 3, .l 4 3, .q [5]] (by kernel_rfl) (by kernel_rfl) ?_
   have HB5 := HX
   (try refine ⟨fun h => absurd h (by simp), ?_⟩); (repeat (unfold wpPlan; simp only [pickL, List.map_cons, List.map_nil, List.getD_cons_succ, List.getD_cons_zero]; (repeat go_big_quiet_step (fail)); refine wpQuiet_nil ?_)); unfold wpPlan; intro w6 hb6; (try simp only [pickL, List.map_cons, List.map_nil, List.getD_cons_succ, List.getD_cons_zero])
   go_wp2_with (first | (go_at_call 18; refine (HTr.out _ (H.out.ext (HB5.out.trans hb6))).mono ?_; rintro e w7 ⟨v7, rfl, hO7, hE7, -⟩; obtain ⟨a7, c7, rfl, -, -⟩ := hO7.form))
   refine ⟨?_, ?_⟩
   ·(try intro _); exact hb6.trans hE7
   have HB7 := Lib.hid (HB5.out.trans (hb6.trans hE7))
   have HO7 := Lib.hid hO7
   clear hb6 hE7 hO7
   (try refine ⟨fun h => absurd h (by simp), ?_⟩); (repeat (unfold wpPlan; simp only [pickL, List.map_cons, List.map_nil, List.getD_cons_succ, List.getD_cons_zero]; (repeat go_big_quiet_step (fail)); refine wpQuiet_nil ?_)); unfold wpPlan; intro w8 hb8; (try simp only [pickL, List.map_cons, List.map_nil, List.getD_cons_succ, List.getD_cons_zero])
   have hsm := rSame_c a7 ta T T c7 tc w8 (TrAt.ws (HO7.out.ext hb8)) (TrAt.ws (TrAt.ext HT.out (HB7.out.trans hb8))) hTl hTl
   rw [decide_eq_true (rfl : T = T)] at hsm
   have HSM := Lib.hid hsm
   clear hsm
   go_wp2_with (first | (go_at_call 9; refine HSM.out.mono ?_; rintro e w9 ⟨rfl, hE9⟩))
   refine ⟨?_, ?_⟩
   ·(try intro _); exact hb8.trans hE9
   have HB9 := Lib.hid (HB7.out.trans (hb8.trans hE9))
   clear hb8 hE9
   (try refine ⟨fun h => absurd h (by simp), ?_⟩); (repeat (unfold wpPlan; simp only [pickL, List.map_cons, List.map_nil, List.getD_cons_succ, List.getD_cons_zero]; (repeat go_big_quiet_step (fail)); refine wpQuiet_nil ?_)); unfold wpPlan; intro wa hba; (try simp only [pickL, List.map_cons, List.map_nil, List.getD_cons_succ, List.getD_cons_zero])
   go_wp2
   (try go_ret)
   exact ⟨rfl, HB9.out.trans hba⟩
end Go.Proofs.YtkfonacokamfiaaGreat
