/- Joined texts, part 40 of what the law stands on: each as its own head says. -/
import Derived.Test.YtkfonacokamfiaaGreatGoz37
import Derived.Test.YtkfonacokamfiaaGreatGoz38
import Derived.Test.YtkfonacokamfiaaGreatGoz7
import Derived.Test.YtkfonacokamfiaaGreatGoz39
import Derived.Test.YtkfonacokamfiaaGreatGoz21
/- The document's walk. -/
namespace Go.Proofs.YtkfonacokamfiaaGreat
set_option linter.unusedVariables false
set_option linter.unusedSimpArgs false
open Go.RowKit
attribute [local go_sem] wext_cell wext_frozen wext_heap alloc_cell alloc_frozen alloc_heap setCell_cell objCell_cells objFrozen_cells
theorem Owns.ne {w : World} {e e' : TypeId} {k n : Nat} {v : Value} {xs : List Value} (h : Owns w e k v n xs) {b : Nat} {c : Array Value} (hb : w.heap[b]? = some (.cells c e' (0, 0))) (he : e ≠ e') : ∀ g, v.ownBlock = some g → b ≠ g := fun g hg hbg => by
 obtain ⟨c', hc⟩ := h.heap g hg
 rw [← hbg, hb] at hc
 simp only [Option.some.injEq, Obj.cells.injEq] at hc
 exact he hc.2.1.symm
theorem store3_heap {w : World} {b : Nat} {c0 c1 c2 v0 v1 v2 : Value} {e : TypeId} {f : Nat × Nat} (h : w.heap[b]? = some (.cells #[c0, c1, c2] e f)) :
  (((w.setCell ⟨b, 0, none⟩ v0).setCell ⟨b, 1, none⟩ v1).setCell ⟨b, 2, none⟩ v2).heap[b]? = some (.cells #[v0, v1, v2] e f) := setCell_heap_same (setCell_heap_same (setCell_heap_same h))
theorem store3_other {w : World} {b b' : Nat} {v0 v1 v2 : Value} (h : b ≠ b') : (((w.setCell ⟨b, 0, none⟩ v0).setCell ⟨b, 1, none⟩ v1).setCell ⟨b, 2, none⟩ v2).heap[b']? = w.heap[b']? :=
 (setCell_heap _ _ _ _ _ h).trans ((setCell_heap _ _ _ _ _ h).trans (setCell_heap _ _ _ _ _ h))
theorem ext3 {a w : World} {b : Nat} {v0 v1 v2 : Value} (h : Ext a w) (hb : a.heap.size ≤ b) : Ext a (((w.setCell ⟨b, 0, none⟩ v0).setCell ⟨b, 1, none⟩ v1).setCell ⟨b, 2, none⟩ v2) :=
 Ext.setCell (Ext.setCell (Ext.setCell h hb _) hb _) hb _
def RFr (w : World) (pb : Nat) (B : Int) (sa : Option Addr) (n sc : Nat) (ta : Option Addr) (k tc : Nat) (r : Rt) : Prop :=
 w.heap[pb]? = some (.cells #[.int .i64 B, .slice sa n sc, .slice ta k tc] 41 (0, 0)) ∧
 w.heap[pb + 2]? = some (.cells #[.int .i64 0, .slice none 0 0, .slice none 0 0] 41 (0, 0)) ∧
 w.heap[pb + 3]? = some (.cells #[.slice none 0 0, .int .i64 0, .bool false, .bool false, .bool false, .int .i64 0, .int .u64 0] 103 (0, 0)) ∧
 w.heap[pb + 4]? = some (.cells #[.bool r.1, .bool r.2.1, .bool r.2.2] 101 (0, 0))
theorem RFr.keep {w w' : World} {pb : Nat} {B : Int} {sa ta : Option Addr} {n sc k tc : Nat} {r : Rt} (h : RFr w pb B sa n sc ta k tc r) (hk : ∀ b o, b < pb + 5 → w.heap[b]? = some o → w'.heap[b]? = some o) : RFr w' pb B sa n sc ta k tc r :=
 ⟨hk _ _ (by omega) h.1, hk _ _ (by omega) h.2.1, hk _ _ (by omega) h.2.2.1, hk _ _ (by omega) h.2.2.2⟩
theorem RFr.ext {w w' : World} {pb : Nat} {B : Int} {sa ta : Option Addr} {n sc k1 tc : Nat} {r : Rt} (h : RFr w pb B sa n sc ta k1 tc r) (k : Ext w w') : RFr w' pb B sa n sc ta k1 tc r :=
 h.keep fun b o _ hb => (k.block b (heap_lt hb)).trans hb
theorem RFr.lt {w : World} {pb : Nat} {B : Int} {sa ta : Option Addr} {n sc k tc : Nat} {r : Rt} (h : RFr w pb B sa n sc ta k tc r) : pb < w.heap.size ∧ pb + 2 < w.heap.size ∧ pb + 3 < w.heap.size ∧ pb + 4 < w.heap.size :=
 ⟨heap_lt h.1, heap_lt h.2.1, heap_lt h.2.2.1, heap_lt h.2.2.2⟩
theorem finC {w U : World} {pb : Nat} {c0 c1 c2 d0 d1 d2 d3 d4 d5 d6 m0 m1 m2 v0 v1 v2 v3 v4 v5 v6 : Value} (hw : w.heap.size ≤ pb) (h2 : U.heap[pb + 2]? = some (.cells #[c0, c1, c2] 41 (0, 0)))
  (h3 : U.heap[pb + 3]? = some (.cells #[d0, d1, d2, d3, d4, d5, d6] 103 (0, 0))) (hE : Ext w U) {ta : Option Addr} {tc n : Nat} {T : List Int} {pv : Value} {xs : List Value} (tr : TrAt U ta tc T) (st : Owns U 109 3 pv n xs) :
  ((((((((((U.setCell ⟨pb + 2, 0, none⟩ m0).setCell ⟨pb + 2, 1, none⟩ m1).setCell ⟨pb + 2, 2, none⟩ m2).setCell ⟨pb + 3, 0, none⟩ v0).setCell ⟨pb + 3, 1, none⟩ v1).setCell ⟨pb + 3, 2, none⟩ v2).setCell ⟨pb + 3, 3, none⟩ v3).setCell ⟨pb + 3, 4, none⟩ v4).setCell ⟨pb + 3, 5, none⟩ v5).setCell ⟨pb + 3, 6, none⟩ v6).heap[pb + 2]? = some (.cells #[m0, m1, m2] 41 (0, 0)) ∧ ((((((((((U.setCell ⟨pb + 2, 0, none⟩ m0).setCell ⟨pb + 2, 1, none⟩ m1).setCell ⟨pb + 2, 2, none⟩ m2).setCell ⟨pb + 3, 0, none⟩ v0).setCell ⟨pb + 3, 1, none⟩ v1).setCell ⟨pb + 3, 2, none⟩ v2).setCell ⟨pb + 3, 3, none⟩ v3).setCell ⟨pb + 3, 4, none⟩ v4).setCell ⟨pb + 3, 5, none⟩ v5).setCell ⟨pb + 3, 6, none⟩ v6).heap[pb + 3]? = some (.cells #[v0, v1, v2, v3, v4, v5, v6] 103 (0, 0)) ∧
   TrAt ((((((((((U.setCell ⟨pb + 2, 0, none⟩ m0).setCell ⟨pb + 2, 1, none⟩ m1).setCell ⟨pb + 2, 2, none⟩ m2).setCell ⟨pb + 3, 0, none⟩ v0).setCell ⟨pb + 3, 1, none⟩ v1).setCell ⟨pb + 3, 2, none⟩ v2).setCell ⟨pb + 3, 3, none⟩ v3).setCell ⟨pb + 3, 4, none⟩ v4).setCell ⟨pb + 3, 5, none⟩ v5).setCell ⟨pb + 3, 6, none⟩ v6) ta tc T ∧ Owns ((((((((((U.setCell ⟨pb + 2, 0, none⟩ m0).setCell ⟨pb + 2, 1, none⟩ m1).setCell ⟨pb + 2, 2, none⟩ m2).setCell ⟨pb + 3, 0, none⟩ v0).setCell ⟨pb + 3, 1, none⟩ v1).setCell ⟨pb + 3, 2, none⟩ v2).setCell ⟨pb + 3, 3, none⟩ v3).setCell ⟨pb + 3, 4, none⟩ v4).setCell ⟨pb + 3, 5, none⟩ v5).setCell ⟨pb + 3, 6, none⟩ v6) 109 3 pv n xs ∧ Ext w ((((((((((U.setCell ⟨pb + 2, 0, none⟩ m0).setCell ⟨pb + 2, 1, none⟩ m1).setCell ⟨pb + 2, 2, none⟩ m2).setCell ⟨pb + 3, 0, none⟩ v0).setCell ⟨pb + 3, 1, none⟩ v1).setCell ⟨pb + 3, 2, none⟩ v2).setCell ⟨pb + 3, 3, none⟩ v3).setCell ⟨pb + 3, 4, none⟩ v4).setCell ⟨pb + 3, 5, none⟩ v5).setCell ⟨pb + 3, 6, none⟩ v6) := by
 have e3 := store3_other (w := U) (b := pb + 2) (b' := pb + 3) (v0 := m0) (v1 := m1) (v2 := m2) (by omega)
 have key : ∀ g, pb + 2 ≠ g → pb + 3 ≠ g → ((((((((((U.setCell ⟨pb + 2, 0, none⟩ m0).setCell ⟨pb + 2, 1, none⟩ m1).setCell ⟨pb + 2, 2, none⟩ m2).setCell ⟨pb + 3, 0, none⟩ v0).setCell ⟨pb + 3, 1, none⟩ v1).setCell ⟨pb + 3, 2, none⟩ v2).setCell ⟨pb + 3, 3, none⟩ v3).setCell ⟨pb + 3, 4, none⟩ v4).setCell ⟨pb + 3, 5, none⟩ v5).setCell ⟨pb + 3, 6, none⟩ v6).heap[g]? = U.heap[g]? := fun g g2 g3 => (store7_other g3).trans (store3_other g2)
 exact ⟨(store7_other (by omega)).trans (store3_heap h2), store7_heap (e3.trans h3), Owns.keep tr fun g hg => key g (Owns.ne tr h2 (by decide) g hg) (Owns.ne tr h3 (by decide) g hg), Owns.keep st fun g hg => key g (Owns.ne st h2 (by decide) g hg) (Owns.ne st h3 (by decide) g hg), ext7 (ext3 hE (by omega)) (by omega)⟩
def EndFrom (ta0 : Option Addr) (B : Int) (sa : Option Addr) (n sc : Nat) (T : List Int) (q : List Stp × WRes) (w : World) (e : Ending) (w' : World) : Prop :=
 ∃ ta tc pa pc, e = .returned (.tuple #[.agg #[.int .i64 B, .slice sa n sc, .slice ta (T ++ q.1.map (·.2.1)).length tc], .agg #[.slice pa q.1.length pc, .int .i64 q.2.1, .bool q.2.2.1.1, .bool q.2.2.1.2.1, .bool q.2.2.1.2.2, .int .i64 q.2.2.2.1, .int .u64 q.2.2.2.2]]) ∧
  TrAt w' ta tc (T ++ q.1.map (·.2.1)) ∧ Owns w' 109 3 (.slice pa q.1.length pc) q.1.length (rowS q.1) ∧ Ext w w' ∧ FreshT w ta0 ta
theorem EndFrom.mk {B : Int} {ta0 sa ta pa : Option Addr} {n sc tc pc : Nat} {T T' : List Int} {q : List Stp × WRes} {L : List Stp} {why lv fr : Int} {r0 r1 r2 : Bool} {w X : World} (h : q = (L, why, (r0, r1, r2), lv, fr)) (hT : T' = T ++ L.map (·.2.1)) (tr : TrAt X ta tc T')
  (o : Owns X 109 3 (.slice pa L.length pc) L.length (rowS L)) (ex : Ext w X) (fr9 : FreshT w ta0 ta) :
  EndFrom ta0 B sa n sc T q w (.returned (.tuple #[.agg #[.int .i64 B, .slice sa n sc, .slice ta T'.length tc], .agg #[.slice pa L.length pc, .int .i64 why, .bool r0, .bool r1, .bool r2, .int .i64 lv, .int .u64 fr]])) X := by
 subst h hT
 exact ⟨ta, tc, pa, pc, rfl, tr, o, ex, fr9⟩
theorem alloc_same4 (w : World) (o o1 o2 o3 o4 : Obj) : (((((w.alloc o1).alloc o2).alloc o3).alloc o4).alloc o).heap[w.heap.size + 1 + 1 + 1 + 1]? = some o := by
 have := alloc_same3 (w.alloc o1) o o2 o3 o4
 rwa [World.size_alloc] at this
set_option maxHeartbeats 2000000 in
set_option maxRecDepth 20000 in
theorem rFrom_c (B : Int) (hB : 14 ≤ B ∧ B ≤ 22) (sa ta : Option Addr) (S : List (Int × Int)) (M : Int → Int) (T : List Int) (sc tc n : Nat) (t a : Int) (ra rb rc nxe : Bool) (w : World) (hS : SAt w sa sc S) (hT : TrAt w ta tc T) (hok : RefOk B S M) (hSl : S.length ≤ 1000000) (hTl : T.length ≤ 900000)
  (hn : n ≤ 4) (ht0 : 0 ≤ t) (ht1 : t ≤ 18446744073709551615) (ha0 : 0 ≤ a) (ha1 : a ≤ 18446744073709551615) :
  Calls Tryz.prog 29 #[.agg #[.int .i64 B, .slice sa S.length sc, .slice ta T.length tc], .agg #[.int .i64 n, .int .u64 t, .bool ra, .bool rb, .bool rc], .int .u64 a, .bool nxe] w (EndFrom ta B sa S.length sc T (walkF M B nxe a n t (ra, rb, rc)) w) := by
 have HS := Lib.hid hS
 have HT := Lib.hid hT
 have HR := Lib.hid hok.wide
 have HAg := Lib.hid hok.agree
 have HBB := Lib.hid hB
 generalize hE : EndFrom ta B sa S.length sc T _ w = E
 have HE := Lib.hid hE
 clear hE hS hT hok hB
 go_enter Tryz.func29, Tryz.ntmps29
 go_wp2
 refine wp_gen ?_; intro V hV
 obtain ⟨pb, hpb⟩ : ∃ pb, w.heap.size = pb := ⟨_, rfl⟩
 have vx : Ext w V := by rw [hV]; exact (by repeat (first | exact Ext.refl _ | assumption | refine Ext.alloc ?_ _ | refine Ext.drew ?_ | refine Ext.setCell ?_ (by first | (simp; done) | (dsimp only; omega)) _ | refine Ext.trans ?_ (by assumption)))
 have vs : w.heap.size + 5 ≤ V.heap.size := by rw [hV]; simp
 have vF : RFr V w.heap.size B sa S.length sc ta T.length tc (ra, rb, rc) := by
  rw [hV]
  exact ⟨(alloc_other _ _ (by first | (simp; done) | (simp; omega))).trans ((alloc_other _ _ (by first | (simp; done) | (simp; omega))).trans ((alloc_other _ _ (by first | (simp; done) | (simp; omega))).trans ((alloc_other _ _ (by simp)).trans (alloc_same ..)))),
   (alloc_other _ _ (by first | (simp; done) | (simp; omega))).trans ((alloc_other _ _ (by first | (simp; done) | (simp; omega))).trans (alloc_same2 ..)), (alloc_other _ _ (by first | (simp; done) | (simp; omega))).trans (alloc_same3 ..), alloc_same4 ..⟩
 have hwp : w.heap.size ≤ pb := by omega
 rw [hpb] at vs vF ⊢
 have VF := Lib.hid vF
 have VX := Lib.hid vx
 clear hV vF vx hpb
 go_loopw [10, 12, 13] (fun l tb lv wr => ∃ (j : Nat) (t' : Int) (r' : Rt) (L : List Stp) (pa : Option Addr) (pc : Nat) (T' : List Int) (ta' : Option Addr) (tc' : Nat), j ≤ 4 ∧ lv = .int .i64 j ∧ tb = .int .u64 t' ∧ 0 ≤ t' ∧ t' ≤ 18446744073709551615 ∧ l = .slice pa L.length pc ∧ L.length + j ≤ 4 ∧ T'.length ≤ T.length + L.length ∧ pb + 5 ≤ wr.heap.size ∧
  Hid (RFr wr pb B sa S.length sc ta' T'.length tc' r' ∧ walkF M B nxe a n t (ra, rb, rc) = (L ++ (walkF M B nxe a j t' r').1, (walkF M B nxe a j t' r').2) ∧ Owns wr 109 3 (.slice pa L.length pc) L.length (rowS L) ∧ (∀ g, (Value.slice pa L.length pc).ownBlock = some g → pb + 5 ≤ g) ∧ TrAt wr ta' tc' T' ∧ T' = T ++ L.map (·.2.1) ∧ Ext w wr ∧ FreshT w ta ta')) (fun _ _ lv _ => (intOf lv).toNat)
 case atStart => exact ⟨n, t, (ra, rb, rc), [], none, 0, T, ta, tc, hn, rfl, rfl, ht0, ht1, rfl, by simpa using hn, by simp, vs, Lib.hid ⟨VF.out, by simp, by simpa [rowS] using Owns.nil _ _ _, fun g hg => by simp [Value.ownBlock] at hg, HT.out.ext VX.out, by simp, VX.out, fun a h => .inl h⟩⟩
 case round =>
  obtain ⟨j, t', r', L, pa, pc, T', ta', tc', hj, rfl, rfl, ht0', ht1', rfl, hLj, hTL, hwr, hR⟩ := hrel
  by_cases hj0 : j = 0
  ·subst hj0
   have RF := Lib.hid hR.out.1
   have ST := Lib.hid hR.out.2.2.1
   have TR := Lib.hid hR.out.2.2.2.2.1
   have EX := Lib.hid hR.out.2.2.2.2.2.2.1
   have TQ := Lib.hid hR.out.2.2.2.2.2.1
   have FRQ := Lib.hid hR.out.2.2.2.2.2.2.2
   have W1 : Hid (walkF M B nxe a n t (ra, rb, rc) = (L, 2, (false, false, false), 0, 0)) := Lib.hid (by rw [hR.out.2.1]; simp [walkF, noRt])
   have y0 := (heap_cell RF.out.1 0).trans rfl
   have y1 := (heap_cell RF.out.1 1).trans rfl
   have y2 := (heap_cell RF.out.1 2).trans rfl
   have z0 := (heap_cell RF.out.2.1 0).trans rfl
   have z1 := (heap_cell RF.out.2.1 1).trans rfl
   have z2 := (heap_cell RF.out.2.1 2).trans rfl
   have u0 := (heap_cell RF.out.2.2.1 0).trans rfl
   have u1 := (heap_cell RF.out.2.2.1 1).trans rfl
   have u2 := (heap_cell RF.out.2.2.1 2).trans rfl
   have u3 := (heap_cell RF.out.2.2.1 3).trans rfl
   have u4 := (heap_cell RF.out.2.2.1 4).trans rfl
   have u5 := (heap_cell RF.out.2.2.1 5).trans rfl
   have u6 := (heap_cell RF.out.2.2.1 6).trans rfl
   have zf := frozen_of RF.out.2.1
   have uf := frozen_of RF.out.2.2.1
   obtain ⟨l0, l2, l3, l4⟩ := RF.out.lt
   go_wp2
   (try rw [Exit.noGoto_ret])
   refine post_gen (fun X => X.heap[pb + 2]? = some (.cells #[.int .i64 B, .slice sa S.length sc, .slice ta' T'.length tc'] 41 (0, 0)) ∧ X.heap[pb + 3]? = some (.cells #[.slice pa L.length pc, .int .i64 2, .bool false, .bool false, .bool false, .int .i64 0, .int .u64 0] 103 (0, 0)) ∧
    TrAt X ta' tc' T' ∧ Owns X 109 3 (.slice pa L.length pc) L.length (rowS L) ∧ Ext w X) ?_ ?_
   ·exact finC hwp RF.out.2.1 RF.out.2.2.1 EX.out TR.out ST.out
   clear y0 y1 y2 z0 z1 z2 u0 u1 u2 u3 u4 u5 u6 zf uf
   rintro X ⟨m2, m3, tr, st, ex⟩
   have y0 := (heap_cell m2 0).trans rfl
   have y1 := (heap_cell m2 1).trans rfl
   have y2 := (heap_cell m2 2).trans rfl
   have u0 := (heap_cell m3 0).trans rfl
   have u1 := (heap_cell m3 1).trans rfl
   have u2 := (heap_cell m3 2).trans rfl
   have u3 := (heap_cell m3 3).trans rfl
   have u4 := (heap_cell m3 4).trans rfl
   have u5 := (heap_cell m3 5).trans rfl
   have u6 := (heap_cell m3 6).trans rfl
   have TR5 := Lib.hid tr
   have ST5 := Lib.hid st
   have EX5 := Lib.hid ex
   clear m2 m3 tr st ex
   refine bodyPost_ret (by simp [results, Tryz.results29, go_sem, ↓IntWalk.iteOmega, *]; try rfl) rfl (by rw [← HE.out]; exact EndFrom.mk W1.out TQ.out TR5.out ST5.out EX5.out FRQ.out)
  have hj1 : 1 ≤ j := by omega
  have hSl' := fun w => rSlot_c t' a j w ht0' ht1' ha0 ha1 (by omega) (by omega)
  have hs3 := slotI_le (t := t') (a := a) (l := (j : Int)) ht0'
  obtain ⟨s, hs⟩ : ∃ s, slotI t' a j = s := ⟨_, rfl⟩
  rw [hs] at hSl' hs3
  have HSt := Aside.mk hs
  have HSl := Lib.hid hSl'
  obtain ⟨hs0, hs1, -⟩ := hs3
  have ⟨x0, x1⟩ := HR.out (s / 8)
  obtain ⟨x, hx⟩ : ∃ x, M (s / 8) = x := ⟨_, rfl⟩
  rw [hx] at x0 x1
  have HX := Aside.mk hx
  clear hs hx hSl'
  by_cases he : errM B s ≠ 0
  ·have HLe := Lib.hid (fun w h k => rLoad_bad B HBB.out sa ta' S T' sc tc' s w h k hSl hs0 (by omega) he)
   have W1 : Hid (walkF M B nxe a n t (ra, rb, rc) = (L, 2, (false, false, false), 0, 0)) := Lib.hid (by rw [hR.out.2.1, walkJ_bad hj1 HSt.out he]; simp [noRt])
   have heb : (errM B s != 0) = true := by simpa using he
   generalize errM B s = er at HLe heb
   clear he
   have RW := hR.out.1
   have y0 := (heap_cell RW.1 0).trans rfl
   have y1 := (heap_cell RW.1 1).trans rfl
   have y2 := (heap_cell RW.1 2).trans rfl
   have hlr := RW.lt.1
   go_upto_region 11 with (first | (go_at_call 57; refine (HSl.out _).mono ?_; rintro e w1 ⟨rfl, hb1⟩; have RW1 := (hR.out.1.ext hb1).1; have d0 := (heap_cell RW1 0).trans rfl; have d1 := (heap_cell RW1 1).trans rfl; have d2 := (heap_cell RW1 2).trans rfl; have dl := heap_lt RW1) | (go_at_call 58; refine (HLe.out _ (HS.out.ext (hR.out.2.2.2.2.2.2.1.trans hb1)) (hR.out.2.2.2.2.1.ext hb1)).mono ?_; rintro e w2 ⟨ta2, tc2, rfl, hT2, hb2, hfr2⟩; have RW2 := (hR.out.1.ext (hb1.trans hb2)).1; have g0 := (heap_cell RW2 0).trans rfl; have g1 := (heap_cell RW2 1).trans rfl; have g2 := (heap_cell RW2 2).trans rfl; have gf := frozen_of RW2; have gl := heap_lt RW2))
   refine wp_gen ?_; intro U hU
   have hE2 := hb1.trans hb2
   have FRQ : Hid (FreshT w ta ta2) := Lib.hid (fun a9 h9 => (hfr2 a9 h9).elim (fun h => hR.out.2.2.2.2.2.2.2 a9 h) fun h => .inr (Nat.le_trans (hR.out.2.2.2.2.2.2.1.trans hb1).size h))
   clear hfr2
   have RF : Hid (RFr U pb B sa S.length sc ta2 T'.length tc2 r') := Lib.hid (by
    have h := hR.out.1.ext hE2
    rw [hU]
    exact RFr.ext ⟨store3_heap h.1, (store3_other (by omega)).trans h.2.1, (store3_other (by omega)).trans h.2.2.1, (store3_other (by omega)).trans h.2.2.2⟩ ((Ext.refl _).alloc _))
   have ST : Hid (Owns U 109 3 (.slice pa L.length pc) L.length (rowS L)) := Lib.hid (by
    rw [hU]
    exact Owns.ext ((hR.out.2.2.1.ext hE2).keep fun g hg => store3_other (by have := hR.out.2.2.2.1 g hg; omega)) ((Ext.refl _).alloc _))
   have TR : Hid (TrAt U ta2 tc2 T') := Lib.hid (by
    rw [hU]
    exact Owns.ext (Owns.keep hT2 fun g hg => store3_other (Owns.ne hT2 (hR.out.1.ext hE2).1 (by decide) g hg)) ((Ext.refl _).alloc _))
   have EX : Hid (Ext w U) := Lib.hid (by rw [hU]; exact (ext3 (hR.out.2.2.2.2.2.2.1.trans hE2) hwp).alloc _)
   have TQ := Lib.hid hR.out.2.2.2.2.2.1
   clear hU hE2 hb1 hb2 hT2 RW RW1 RW2 d0 d1 d2 dl g0 g1 g2 gf gl y0 y1 y2 hlr
   have y0 := (heap_cell RF.out.1 0).trans rfl
   have y1 := (heap_cell RF.out.1 1).trans rfl
   have y2 := (heap_cell RF.out.1 2).trans rfl
   have z0 := (heap_cell RF.out.2.1 0).trans rfl
   have z1 := (heap_cell RF.out.2.1 1).trans rfl
   have z2 := (heap_cell RF.out.2.1 2).trans rfl
   have u0 := (heap_cell RF.out.2.2.1 0).trans rfl
   have u1 := (heap_cell RF.out.2.2.1 1).trans rfl
   have u2 := (heap_cell RF.out.2.2.1 2).trans rfl
   have u3 := (heap_cell RF.out.2.2.1 3).trans rfl
   have u4 := (heap_cell RF.out.2.2.1 4).trans rfl
   have u5 := (heap_cell RF.out.2.2.1 5).trans rfl
   have u6 := (heap_cell RF.out.2.2.1 6).trans rfl
   have zf := frozen_of RF.out.2.1
   have uf := frozen_of RF.out.2.2.1
   obtain ⟨l0, l2, l3, l4⟩ := RF.out.lt
   go_wp2
   (try rw [Exit.noGoto_ret])
   refine post_gen (fun X => X.heap[pb + 2]? = some (.cells #[.int .i64 B, .slice sa S.length sc, .slice ta2 T'.length tc2] 41 (0, 0)) ∧ X.heap[pb + 3]? = some (.cells #[.slice pa L.length pc, .int .i64 2, .bool false, .bool false, .bool false, .int .i64 0, .int .u64 0] 103 (0, 0)) ∧
    TrAt X ta2 tc2 T' ∧ Owns X 109 3 (.slice pa L.length pc) L.length (rowS L) ∧ Ext w X) ?_ ?_
   ·exact finC hwp RF.out.2.1 RF.out.2.2.1 EX.out TR.out ST.out
   clear y0 y1 y2 z0 z1 z2 u0 u1 u2 u3 u4 u5 u6 zf uf
   rintro X ⟨m2, m3, tr, st, ex⟩
   have y0 := (heap_cell m2 0).trans rfl
   have y1 := (heap_cell m2 1).trans rfl
   have y2 := (heap_cell m2 2).trans rfl
   have u0 := (heap_cell m3 0).trans rfl
   have u1 := (heap_cell m3 1).trans rfl
   have u2 := (heap_cell m3 2).trans rfl
   have u3 := (heap_cell m3 3).trans rfl
   have u4 := (heap_cell m3 4).trans rfl
   have u5 := (heap_cell m3 5).trans rfl
   have u6 := (heap_cell m3 6).trans rfl
   have TR5 := Lib.hid tr
   have ST5 := Lib.hid st
   have EX5 := Lib.hid ex
   clear m2 m3 tr st ex
   refine bodyPost_ret (by simp [results, Tryz.results29, go_sem, ↓IntWalk.iteOmega, *]; try rfl) rfl (by rw [← HE.out]; exact EndFrom.mk W1.out TQ.out TR5.out ST5.out EX5.out FRQ.out)
  have he0 : errM B s = 0 := by omega
  clear he
  have HL0 := Lib.hid (fun w h k => by have := rLoad_ok B HBB.out sa ta' S T' sc tc' s w h k hSl (by omega) hs0 (by omega) he0; rw [HAg.out s hs0 he0, HX.out] at this; exact this)
  have HE0 := Lib.hid he0
  clear he0
  obtain ⟨T2, hT2e⟩ : ∃ T2, T' ++ [s] = T2 := ⟨_, rfl⟩
  have hT2l : T2.length ≤ T.length + L.length + 1 := by rw [← hT2e]; simp; omega
  rw [hT2e] at HL0
  have HT2 := Lib.hid hT2e
  clear hT2e
  have RW := hR.out.1
  have y0 := (heap_cell RW.1 0).trans rfl
  have y1 := (heap_cell RW.1 1).trans rfl
  have y2 := (heap_cell RW.1 2).trans rfl
  have hlr := RW.lt.1
  go_upto_region 12 with (first | (go_at_call 57; refine (HSl.out _).mono ?_; rintro e w1 ⟨rfl, hb1⟩; have RW1 := (hR.out.1.ext hb1).1; have d0 := (heap_cell RW1 0).trans rfl; have d1 := (heap_cell RW1 1).trans rfl; have d2 := (heap_cell RW1 2).trans rfl; have dl := heap_lt RW1) | (go_at_call 58; refine (HL0.out _ (HS.out.ext (hR.out.2.2.2.2.2.2.1.trans hb1)) (hR.out.2.2.2.2.1.ext hb1)).mono ?_; rintro e w2 ⟨ta2, tc2, rfl, hT2, hb2, hfr2⟩; have RW2 := (hR.out.1.ext (hb1.trans hb2)).1; have g0 := (heap_cell RW2 0).trans rfl; have g1 := (heap_cell RW2 1).trans rfl; have g2 := (heap_cell RW2 2).trans rfl; have gf := frozen_of RW2; have gl := heap_lt RW2))
  refine wp_gen ?_; intro U hU
  have hE2 := hb1.trans hb2
  have FRQ : Hid (FreshT w ta ta2) := Lib.hid (fun a9 h9 => (hfr2 a9 h9).elim (fun h => hR.out.2.2.2.2.2.2.2 a9 h) fun h => .inr (Nat.le_trans (hR.out.2.2.2.2.2.2.1.trans hb1).size h))
  clear hfr2
  have RFU : Hid (RFr U pb B sa S.length sc ta2 T2.length tc2 r') := Lib.hid (by
   have h := hR.out.1.ext hE2
   rw [hU]
   exact RFr.ext ⟨store3_heap h.1, (store3_other (by omega)).trans h.2.1, (store3_other (by omega)).trans h.2.2.1, (store3_other (by omega)).trans h.2.2.2⟩ ((Ext.refl _).alloc _))
  have STU : Hid (Owns U 109 3 (.slice pa L.length pc) L.length (rowS L)) := Lib.hid (by
   rw [hU]
   exact Owns.ext ((hR.out.2.2.1.ext hE2).keep fun g hg => store3_other (by have := hR.out.2.2.2.1 g hg; omega)) ((Ext.refl _).alloc _))
  have TRU : Hid (TrAt U ta2 tc2 T2) := Lib.hid (by
   rw [hU]
   exact Owns.ext (Owns.keep hT2 fun g hg => store3_other (Owns.ne hT2 (hR.out.1.ext hE2).1 (by decide) g hg)) ((Ext.refl _).alloc _))
  have EXU : Hid (Ext w U) := Lib.hid (by rw [hU]; exact (ext3 (hR.out.2.2.2.2.2.2.1.trans hE2) hwp).alloc _)
  have TQ0 := Lib.hid hR.out.2.2.2.2.2.1
  have hUs : pb + 5 ≤ U.heap.size := by have := RFU.out.lt; omega
  have GU := Lib.hid hR.out.2.2.2.1
  clear hU hE2 hb1 hb2 hT2 RW RW1 RW2 d0 d1 d2 dl g0 g1 g2 gf gl y0 y1 y2 hlr hwr
  have HA := Lib.hid (STU.out.ext ((Ext.refl U).alloc (.cells #[.int .i64 j, .int .u64 s, .int .u64 x] 109)))
  have hb5 : w.heap.size ≤ pb + 5 := by omega
  go_upto_region 13 with (first | (at_builtin; refine wpList_append_owns rfl _ _ _ _ 3 24 refStepRow rfl _ rfl L.length _ HA.out _ 1 1 rfl [.int .i64 j, .int .u64 s, .int .u64 x] rfl (fun j u hu => by rw [add0, heap_cell (alloc_same U _) j]; simpa using hu) (by simp [Value.oneCell']) (by unfold maxLen; omega) (by omega) ?_; intro v9 w9 q1 q2 q3; replace q2 : (U.alloc (.cells #[.int .i64 j, .int .u64 s, .int .u64 x] 109)).grownBy w9 (Value.slice pa L.length pc).ownBlock := q2; replace q3 : v9.ownBlock = (Value.slice pa L.length pc).ownBlock ∨ v9.ownBlock = some (U.alloc (.cells #[.int .i64 j, .int .u64 s, .int .u64 x] 109)).heap.size := q3; obtain ⟨a9, c9, rfl, -, -⟩ := q1.form; simp only [Act.put, Array.set!_eq_setIfInBounds, List.setIfInBounds_toArray, List.set_cons_succ, List.set_cons_zero]))
  have ⟨k1, k2, k3, k4⟩ := grown_after (prev := Value.slice pa L.length pc) (o := .cells #[.int .i64 j, .int .u64 s, .int .u64 x] 109) (base := pb + 5) hUs hb5 EXU.out GU.out q2 q3
  have RF9 : Hid (RFr w9 pb B sa S.length sc ta2 T2.length tc2 r') := Lib.hid (RFU.out.keep k2)
  have EX9 := Lib.hid k1
  have G9 := Lib.hid k3
  obtain ⟨L1, hL1⟩ : ∃ L1, L ++ [((j : Int), s, x)] = L1 := ⟨_, rfl⟩
  have hLn : L.length + 1 = L1.length := by rw [← hL1]; simp
  have HL1 := Lib.hid hL1
  have hLm : L1.length ≤ L.length + 1 ∧ L.length + 1 ≤ L1.length := by omega
  obtain ⟨hLm1, hLm2⟩ := hLm
  have ST9 : Hid (Owns w9 109 3 (.slice a9 L1.length c9) L1.length (rowS L1)) := Lib.hid (by
   rw [← hLn, ← hL1, rowS_append, rowS_one]; exact q1)
  rw [hLn] at G9 ⊢
  have TR9 : Hid (TrAt w9 ta2 tc2 T2) := Lib.hid (Owns.keep (TRU.out.ext ((Ext.refl U).alloc (.cells #[.int .i64 j, .int .u64 s, .int .u64 x] 109))) fun g hg => by
   obtain ⟨c, hc⟩ := Owns.heap (TRU.out.ext ((Ext.refl U).alloc (.cells #[.int .i64 j, .int .u64 s, .int .u64 x] 109))) g hg
   exact q2.block g (heap_lt hc) (fun e => Owns.ne HA.out hc (by decide) g e.symm rfl))
  have TQ : Hid (T2 = T ++ L1.map (·.2.1)) := Lib.hid (by rw [← HT2.out, ← HL1.out, TQ0.out]; simp)
  clear q1 q2 q3 k1 k2 k3 hL1 hLn HA RFU STU TRU EXU GU TQ0
  have HBi := Lib.hid (fun w => bit_c x 0 w x0 x1 (by omega) (by omega))
  cases hp : bitB x 0
  ·rw [hp] at HBi
   have W1 : Hid (walkF M B nxe a n t (ra, rb, rc) = (L1, 1, (false, false, false), 0, 0)) := Lib.hid (by rw [hR.out.2.1, walkJ_absent hj1 HSt.out HX.out HE0.out hp, ← HL1.out]; rfl)
   clear hp
   go_upto_region 14 with (first | (go_at_call 59; refine (HBi.out _).mono ?_; rintro e w3 ⟨rfl, hb3⟩))
   have RF := Lib.hid (RF9.out.ext hb3)
   have ST := Lib.hid (ST9.out.ext hb3)
   have TR := Lib.hid (TR9.out.ext hb3)
   have EX := Lib.hid (EX9.out.trans hb3)
   clear hb3
   have y0 := (heap_cell RF.out.1 0).trans rfl
   have y1 := (heap_cell RF.out.1 1).trans rfl
   have y2 := (heap_cell RF.out.1 2).trans rfl
   have z0 := (heap_cell RF.out.2.1 0).trans rfl
   have z1 := (heap_cell RF.out.2.1 1).trans rfl
   have z2 := (heap_cell RF.out.2.1 2).trans rfl
   have u0 := (heap_cell RF.out.2.2.1 0).trans rfl
   have u1 := (heap_cell RF.out.2.2.1 1).trans rfl
   have u2 := (heap_cell RF.out.2.2.1 2).trans rfl
   have u3 := (heap_cell RF.out.2.2.1 3).trans rfl
   have u4 := (heap_cell RF.out.2.2.1 4).trans rfl
   have u5 := (heap_cell RF.out.2.2.1 5).trans rfl
   have u6 := (heap_cell RF.out.2.2.1 6).trans rfl
   have zf := frozen_of RF.out.2.1
   have uf := frozen_of RF.out.2.2.1
   obtain ⟨l0, l2, l3, l4⟩ := RF.out.lt
   go_wp2
   (try rw [Exit.noGoto_ret])
   refine post_gen (fun X => X.heap[pb + 2]? = some (.cells #[.int .i64 B, .slice sa S.length sc, .slice ta2 T2.length tc2] 41 (0, 0)) ∧ X.heap[pb + 3]? = some (.cells #[.slice a9 L1.length c9, .int .i64 1, .bool false, .bool false, .bool false, .int .i64 0, .int .u64 0] 103 (0, 0)) ∧
    TrAt X ta2 tc2 T2 ∧ Owns X 109 3 (.slice a9 L1.length c9) L1.length (rowS L1) ∧ Ext w X) ?_ ?_
   ·exact finC hwp RF.out.2.1 RF.out.2.2.1 EX.out TR.out ST.out
   clear y0 y1 y2 z0 z1 z2 u0 u1 u2 u3 u4 u5 u6 zf uf
   rintro X ⟨m2, m3, tr, st, ex⟩
   have y0 := (heap_cell m2 0).trans rfl
   have y1 := (heap_cell m2 1).trans rfl
   have y2 := (heap_cell m2 2).trans rfl
   have u0 := (heap_cell m3 0).trans rfl
   have u1 := (heap_cell m3 1).trans rfl
   have u2 := (heap_cell m3 2).trans rfl
   have u3 := (heap_cell m3 3).trans rfl
   have u4 := (heap_cell m3 4).trans rfl
   have u5 := (heap_cell m3 5).trans rfl
   have u6 := (heap_cell m3 6).trans rfl
   have TR5 := Lib.hid tr
   have ST5 := Lib.hid st
   have EX5 := Lib.hid ex
   clear m2 m3 tr st ex
   refine bodyPost_ret (by simp [results, Tryz.results29, go_sem, ↓IntWalk.iteOmega, *]; try rfl) rfl (by rw [← HE.out]; exact EndFrom.mk W1.out TQ.out TR5.out ST5.out EX5.out FRQ.out)
  rw [hp] at HBi
  have HRs := Lib.hid (fun w => rReserved_c x j B nxe w (by omega) (by omega) x0 x1 HBB.out.1 HBB.out.2)
  cases hr : resI x j B nxe
  case true =>
   rw [hr] at HRs
   have W1 : Hid (walkF M B nxe a n t (ra, rb, rc) = (L1, 2, (false, false, false), 0, 0)) := Lib.hid (by rw [hR.out.2.1, walkJ_res hj1 HSt.out HX.out HE0.out hp hr, ← HL1.out]; rfl)
   clear hp hr
   go_upto_region 16 with (first | (go_at_call 59; refine (HBi.out _).mono ?_; rintro e w3 ⟨rfl, hb3⟩; have RW3 := (RF9.out.ext hb3).1; have d0 := (heap_cell RW3 0).trans rfl; have dl := heap_lt RW3) | (go_at_call 60; refine (HRs.out _).mono ?_; rintro e w4 ⟨rfl, hb4⟩))
   have hE4 := hb3.trans hb4
   have RF := Lib.hid (RF9.out.ext hE4)
   have ST := Lib.hid (ST9.out.ext hE4)
   have TR := Lib.hid (TR9.out.ext hE4)
   have EX := Lib.hid (EX9.out.trans hE4)
   clear hb3 hb4 hE4 RW3 d0 dl
   have y0 := (heap_cell RF.out.1 0).trans rfl
   have y1 := (heap_cell RF.out.1 1).trans rfl
   have y2 := (heap_cell RF.out.1 2).trans rfl
   have z0 := (heap_cell RF.out.2.1 0).trans rfl
   have z1 := (heap_cell RF.out.2.1 1).trans rfl
   have z2 := (heap_cell RF.out.2.1 2).trans rfl
   have u0 := (heap_cell RF.out.2.2.1 0).trans rfl
   have u1 := (heap_cell RF.out.2.2.1 1).trans rfl
   have u2 := (heap_cell RF.out.2.2.1 2).trans rfl
   have u3 := (heap_cell RF.out.2.2.1 3).trans rfl
   have u4 := (heap_cell RF.out.2.2.1 4).trans rfl
   have u5 := (heap_cell RF.out.2.2.1 5).trans rfl
   have u6 := (heap_cell RF.out.2.2.1 6).trans rfl
   have zf := frozen_of RF.out.2.1
   have uf := frozen_of RF.out.2.2.1
   obtain ⟨l0, l2, l3, l4⟩ := RF.out.lt
   go_wp2
   (try rw [Exit.noGoto_ret])
   refine post_gen (fun X => X.heap[pb + 2]? = some (.cells #[.int .i64 B, .slice sa S.length sc, .slice ta2 T2.length tc2] 41 (0, 0)) ∧ X.heap[pb + 3]? = some (.cells #[.slice a9 L1.length c9, .int .i64 2, .bool false, .bool false, .bool false, .int .i64 0, .int .u64 0] 103 (0, 0)) ∧
    TrAt X ta2 tc2 T2 ∧ Owns X 109 3 (.slice a9 L1.length c9) L1.length (rowS L1) ∧ Ext w X) ?_ ?_
   ·exact finC hwp RF.out.2.1 RF.out.2.2.1 EX.out TR.out ST.out
   clear y0 y1 y2 z0 z1 z2 u0 u1 u2 u3 u4 u5 u6 zf uf
   rintro X ⟨m2, m3, tr, st, ex⟩
   have y0 := (heap_cell m2 0).trans rfl
   have y1 := (heap_cell m2 1).trans rfl
   have y2 := (heap_cell m2 2).trans rfl
   have u0 := (heap_cell m3 0).trans rfl
   have u1 := (heap_cell m3 1).trans rfl
   have u2 := (heap_cell m3 2).trans rfl
   have u3 := (heap_cell m3 3).trans rfl
   have u4 := (heap_cell m3 4).trans rfl
   have u5 := (heap_cell m3 5).trans rfl
   have u6 := (heap_cell m3 6).trans rfl
   have TR5 := Lib.hid tr
   have ST5 := Lib.hid st
   have EX5 := Lib.hid ex
   clear m2 m3 tr st ex
   refine bodyPost_ret (by simp [results, Tryz.results29, go_sem, ↓IntWalk.iteOmega, *]; try rfl) rfl (by rw [← HE.out]; exact EndFrom.mk W1.out TQ.out TR5.out ST5.out EX5.out FRQ.out)
  rw [hr] at HRs
  have HLf := Lib.hid (fun w => rLeaf_c x j w x0 x1 (by omega) (by omega))
  have HTb := Lib.hid (fun w => refTable_c x w x0 x1)
  have HFm := Lib.hid (fun w => rFrame_c x j w x0 x1 (by omega) (by omega))
  obtain ⟨r0, r1, r2⟩ := r'
  have HAn := Lib.hid (fun w => rAnd_c r0 r1 r2 x w x0 x1)
  have HR0 := Lib.hid hr
  have HP0 := Lib.hid hp
  clear hp hr
  have htl := tabI_le x0
  have HAR : Hid (andR (r0, r1, r2) x = (r0 && bitB x 1, r1 && bitB x 2, r2 && !bitB x 63)) := Lib.hid rfl
  generalize (r0 && bitB x 1) = s0 at HAn HAR
  generalize (r1 && bitB x 2) = s1 at HAn HAR
  generalize (r2 && !bitB x 63) = s2 at HAn HAR
  go_upto_region 17 with (first | (go_at_call 59; refine (HBi.out _).mono ?_; rintro e w3 ⟨rfl, hb3⟩; have RW3 := (RF9.out.ext hb3).1; have d0 := (heap_cell RW3 0).trans rfl; have dl := heap_lt RW3) | (go_at_call 60; refine (HRs.out _).mono ?_; rintro e w4 ⟨rfl, hb4⟩))
  have hE4 := hb3.trans hb4
  have RF4 := Lib.hid (RF9.out.ext hE4)
  have ST4 := Lib.hid (ST9.out.ext hE4)
  have TR4 := Lib.hid (TR9.out.ext hE4)
  have EX4 := Lib.hid (EX9.out.trans hE4)
  clear hb3 hb4 hE4 RW3 d0 dl RF9 ST9 TR9 EX9
  have y0 := (heap_cell RF4.out.2.2.2 0).trans rfl
  have y1 := (heap_cell RF4.out.2.2.2 1).trans rfl
  have y2 := (heap_cell RF4.out.2.2.2 2).trans rfl
  have yl := heap_lt RF4.out.2.2.2
  go_upto_region 18 with (first | (go_at_call 61; refine (HAn.out _).mono ?_; rintro e w5 ⟨rfl, hb5'⟩; have RW5 := (RF4.out.ext hb5').2.2.2; have d0 := (heap_cell RW5 0).trans rfl; have d1 := (heap_cell RW5 1).trans rfl; have d2 := (heap_cell RW5 2).trans rfl; have df := frozen_of RW5; have dl := heap_lt RW5))
  refine wp_gen ?_; intro U5 hU5
  have RF5 : Hid (RFr U5 pb B sa S.length sc ta2 T2.length tc2 (s0, s1, s2)) := Lib.hid (by
   have h := RF4.out.ext hb5'
   rw [hU5]
   exact ⟨(store3_other (by omega)).trans h.1, (store3_other (by omega)).trans h.2.1, (store3_other (by omega)).trans h.2.2.1, store3_heap h.2.2.2⟩)
  have ST5 : Hid (Owns U5 109 3 (.slice a9 L1.length c9) L1.length (rowS L1)) := Lib.hid (by
   rw [hU5]
   exact (ST4.out.ext hb5').keep fun g hg => store3_other (by have := G9.out g hg; omega))
  have TR5 : Hid (TrAt U5 ta2 tc2 T2) := Lib.hid (by
   rw [hU5]
   exact Owns.keep (TR4.out.ext hb5') fun g hg => store3_other (Owns.ne (TR4.out.ext hb5') (RF4.out.ext hb5').2.2.2 (by decide) g hg))
  have EX5 : Hid (Ext w U5) := Lib.hid (by rw [hU5]; exact ext3 (EX4.out.trans hb5') (by omega))
  clear hU5 hb5' RW5 d0 d1 d2 df dl y0 y1 y2 yl RF4 ST4 TR4 EX4
  cases hl : leafI x j
  case false =>
   have WO : Hid (walkF M B nxe a n t (ra, rb, rc) = (L1 ++ (walkF M B nxe a (j - 1) (tabI x) (andR (r0, r1, r2) x)).1, (walkF M B nxe a (j - 1) (tabI x) (andR (r0, r1, r2) x)).2)) := Lib.hid (by rw [hR.out.2.1, walkJ_on hj1 HSt.out HX.out HE0.out HP0.out HR0.out hl, ← HL1.out]; simp)
   rw [hl] at HLf
   generalize andR (r0, r1, r2) x = rr at WO HAR
   generalize tabI x = tb at WO HTb htl
   obtain ⟨tb0, tb1, -, -⟩ := htl
   clear hl
   go_wp2_with (first | (go_at_call 62; refine (HLf.out _).mono ?_; rintro e w6 ⟨rfl, hb6⟩) | (go_at_call 64; refine (HTb.out _).mono ?_; rintro e w7 ⟨rfl, hb7⟩))
   have hE7 := hb6.trans hb7
   refine ⟨⟨j - 1, tb, (s0, s1, s2), L1, a9, c9, T2, ta2, tc2, by omega, by rw [show ((j - 1 : Nat) : Int) = (j : Int) - 1 by omega], rfl, tb0, by omega, rfl, by omega, by omega, by have := (RF5.out.ext hE7).lt; omega, Lib.hid ⟨RF5.out.ext hE7, by rw [WO.out, HAR.out], ST5.out.ext hE7, G9.out, TR5.out.ext hE7, TQ.out, EX5.out.trans hE7, FRQ.out⟩⟩, by simp [intOf]; omega⟩
  case true =>
   have W1 : Hid (walkF M B nxe a n t (ra, rb, rc) = (L1, 0, (s0, s1, s2), (j : Int), frameI x j)) := Lib.hid (by rw [hR.out.2.1, walkJ_leaf hj1 HSt.out HX.out HE0.out HP0.out HR0.out hl, ← HL1.out, HAR.out])
   rw [hl] at HLf
   generalize frameI x j = fr at HFm W1
   clear hl
   go_upto_region 19 with (first | (go_at_call 62; refine (HLf.out _).mono ?_; rintro e w6 ⟨rfl, hb6⟩))
   have RF6 := Lib.hid (RF5.out.ext hb6)
   have ST6 := Lib.hid (ST5.out.ext hb6)
   have TR6 := Lib.hid (TR5.out.ext hb6)
   have EX6 := Lib.hid (EX5.out.trans hb6)
   clear hb6 RF5 ST5 TR5 EX5
   obtain ⟨l0, l2, l3, l4⟩ := RF6.out.lt
   have m0 := wk_cell (F := (pb + 2) :: []) l0 (by simp) ((heap_cell RF6.out.1 0).trans rfl)
   have m1 := wk_cell (F := (pb + 2) :: []) l0 (by simp) ((heap_cell RF6.out.1 1).trans rfl)
   have m2 := wk_cell (F := (pb + 2) :: []) l0 (by simp) ((heap_cell RF6.out.1 2).trans rfl)
   have n0 := wk_cell (F := (pb + 2) :: []) l4 (by simp) ((heap_cell RF6.out.2.2.2 0).trans rfl)
   have n1 := wk_cell (F := (pb + 2) :: []) l4 (by simp) ((heap_cell RF6.out.2.2.2 1).trans rfl)
   have n2 := wk_cell (F := (pb + 2) :: []) l4 (by simp) ((heap_cell RF6.out.2.2.2 2).trans rfl)
   clear l0 l2 l3 l4
   refine region_mixGR (Rw := fun a b => Keeps ((pb + 2) :: []) a b) (fun k => Keeps.of_ext k) (fun h1 h2 => h1.trans h2 (fun y hy => .inl hy)) [.q [0, 2], .b [1, 3, 4, 5], .l 6 3, .b [7], .l 8 3, .l 9 2] (by kernel_rfl) (by kernel_rfl) ?_
   (try refine ⟨fun h => absurd h (by simp), ?_⟩); (repeat (unfold wpPlanR; simp only [pickL, List.map_cons, List.map_nil, List.getD_cons_succ, List.getD_cons_zero]; (try refine quiet_wk ?_); (repeat go_big_quiet_step (fail)); refine wpQuiet_nil ?_)); unfold wpPlanR; intro w7 hb7; (try simp only [pickL, List.map_cons, List.map_nil, List.getD_cons_succ, List.getD_cons_zero])
   clear m0 m1 m2 n0 n1 n2
   go_wp2_with (first | (go_at_call 63; refine (HFm.out _).mono ?_; rintro e w8 ⟨rfl, hb8⟩))
   refine ⟨fun _ => Keeps.of_ext (hb7.trans (Ext.trans (by repeat (first | exact Ext.refl _ | assumption | refine Ext.alloc ?_ _ | refine Ext.drew ?_ | refine Ext.setCell ?_ (by first | (simp; done) | (dsimp only; omega)) _ | refine Ext.trans ?_ (by assumption))) hb8)), ?_⟩
   (try refine ⟨fun h => absurd h (by simp), ?_⟩); (repeat (unfold wpPlanR; simp only [pickL, List.map_cons, List.map_nil, List.getD_cons_succ, List.getD_cons_zero]; (try refine quiet_wk ?_); (repeat go_big_quiet_step (fail)); refine wpQuiet_nil ?_)); unfold wpPlanR; intro wa hba; (try simp only [pickL, List.map_cons, List.map_nil, List.getD_cons_succ, List.getD_cons_zero])
   have E9 := (hb7.trans (Ext.trans (by repeat (first | exact Ext.refl _ | assumption | refine Ext.alloc ?_ _ | refine Ext.drew ?_ | refine Ext.setCell ?_ (by first | (simp; done) | (dsimp only; omega)) _ | refine Ext.trans ?_ (by assumption))) hb8)).trans hba
   have hk8 : ∀ v0 v1 v2, Keeps ((pb + 2) :: []) w8 (((wa.setCell ⟨pb + 2, 0, none⟩ v0).setCell ⟨pb + 2, 1, none⟩ v1).setCell ⟨pb + 2, 2, none⟩ v2) := fun v0 v1 v2 => Keeps.setCell (Keeps.setCell (Keeps.setCell (Keeps.of_ext hba) (.inl (by simp)) _) (.inl (by simp)) _) (.inl (by simp)) _
   have HK8 := Lib.hid hk8
   have RG := Lib.hid (RF6.out.ext E9)
   have STG := Lib.hid (ST6.out.ext E9)
   have TRG := Lib.hid (TR6.out.ext E9)
   have EXG := Lib.hid (EX6.out.trans E9)
   clear hb7 hb8 hba E9 hk8
   have z0 := (heap_cell RG.out.2.1 0).trans rfl
   have z1 := (heap_cell RG.out.2.1 1).trans rfl
   have z2 := (heap_cell RG.out.2.1 2).trans rfl
   have zf := frozen_of RG.out.2.1
   obtain ⟨l0, l2, l3, l4⟩ := RG.out.lt
   go_wp2
   refine ⟨fun _ => HK8.out _ _ _, ?_⟩
   (try refine ⟨fun h => absurd h (by simp), ?_⟩); (repeat (unfold wpPlanR; simp only [pickL, List.map_cons, List.map_nil, List.getD_cons_succ, List.getD_cons_zero]; (try refine quiet_wk ?_); (repeat go_big_quiet_step (fail)); refine wpQuiet_nil ?_)); unfold wpPlanR; intro wb hbb; (try simp only [pickL, List.map_cons, List.map_nil, List.getD_cons_succ, List.getD_cons_zero])
   have b3 := (hbb.block (pb + 3) (by simp only [World.size_setCell]; omega)).trans ((store3_other (by omega)).trans RG.out.2.2.1)
   have b2 := (hbb.block (pb + 2) (by simp only [World.size_setCell]; omega)).trans (store3_heap RG.out.2.1)
   have s3 := ((STG.out.keep (w' := ((wa.setCell ⟨pb + 2, 0, none⟩ (.int .i64 B)).setCell ⟨pb + 2, 1, none⟩ (.slice sa S.length sc)).setCell ⟨pb + 2, 2, none⟩ (.slice ta2 T2.length tc2)) fun g hg => store3_other (Owns.ne STG.out RG.out.2.1 (by decide) g hg))).ext hbb
   have t3 := (Owns.keep (w' := ((wa.setCell ⟨pb + 2, 0, none⟩ (.int .i64 B)).setCell ⟨pb + 2, 1, none⟩ (.slice sa S.length sc)).setCell ⟨pb + 2, 2, none⟩ (.slice ta2 T2.length tc2)) TRG.out fun g hg => store3_other (Owns.ne TRG.out RG.out.2.1 (by decide) g hg)).ext hbb
   have e3 := (ext3 (v0 := .int .i64 B) (v1 := .slice sa S.length sc) (v2 := .slice ta2 T2.length tc2) (b := pb + 2) EXG.out (by omega)).trans hbb
   have B3 := Lib.hid b3
   have B2 := Lib.hid b2
   have S3 := Lib.hid s3
   have T3 := Lib.hid t3
   have X3 := Lib.hid e3
   clear hbb b3 b2 s3 t3 e3 z0 z1 z2 zf l0 l2 l3 l4
   have u0 := (heap_cell B3.out 0).trans rfl
   have u1 := (heap_cell B3.out 1).trans rfl
   have u2 := (heap_cell B3.out 2).trans rfl
   have u3 := (heap_cell B3.out 3).trans rfl
   have u4 := (heap_cell B3.out 4).trans rfl
   have u5 := (heap_cell B3.out 5).trans rfl
   have u6 := (heap_cell B3.out 6).trans rfl
   have uf := frozen_of B3.out
   have ul := heap_lt B3.out
   go_wp2
   (try refine ⟨fun h => absurd h (by simp), ?_⟩); (repeat (unfold wpPlanR; simp only [pickL, List.map_cons, List.map_nil, List.getD_cons_succ, List.getD_cons_zero]; (try refine quiet_wk ?_); (repeat go_big_quiet_step (fail)); refine wpQuiet_nil ?_)); unfold wpPlanR; intro X hbX; (try simp only [pickL, List.map_cons, List.map_nil, List.getD_cons_succ, List.getD_cons_zero])
   have m3 : X.heap[pb + 3]? = some (.cells #[.slice a9 L1.length c9, .int .i64 0, .bool s0, .bool s1, .bool s2, .int .i64 j, .int .u64 fr] 103 (0, 0)) := (hbX.block (pb + 3) (by simp only [World.size_setCell]; omega)).trans (store7_heap B3.out)
   have m2 : X.heap[pb + 2]? = some (.cells #[.int .i64 B, .slice sa S.length sc, .slice ta2 T2.length tc2] 41 (0, 0)) := (hbX.block (pb + 2) (by simp only [World.size_setCell]; have := heap_lt B2.out; omega)).trans ((store7_other (by omega)).trans B2.out)
   have ST5 : Hid (Owns X 109 3 (.slice a9 L1.length c9) L1.length (rowS L1)) := Lib.hid ((S3.out.keep fun g hg => store7_other (Owns.ne S3.out B3.out (by decide) g hg)).ext hbX)
   have TR5 : Hid (TrAt X ta2 tc2 T2) := Lib.hid (Owns.ext (Owns.keep T3.out fun g hg => store7_other (Owns.ne T3.out B3.out (by decide) g hg)) hbX)
   have EX5 : Hid (Ext w X) := Lib.hid ((ext7 X3.out (by omega)).trans hbX)
   clear hbX u0 u1 u2 u3 u4 u5 u6 uf ul
   have y0 := (heap_cell m2 0).trans rfl
   have y1 := (heap_cell m2 1).trans rfl
   have y2 := (heap_cell m2 2).trans rfl
   have u0 := (heap_cell m3 0).trans rfl
   have u1 := (heap_cell m3 1).trans rfl
   have u2 := (heap_cell m3 2).trans rfl
   have u3 := (heap_cell m3 3).trans rfl
   have u4 := (heap_cell m3 4).trans rfl
   have u5 := (heap_cell m3 5).trans rfl
   have u6 := (heap_cell m3 6).trans rfl
   have yl := heap_lt m2
   have ul := heap_lt m3
   clear m2 m3
   go_wp2
   (try rw [Exit.noGoto_ret])
   refine bodyPost_ret (by simp [results, Tryz.results29, go_sem, ↓IntWalk.iteOmega, *]; try rfl) rfl (by rw [← HE.out]; exact EndFrom.mk W1.out TQ.out TR5.out ST5.out EX5.out FRQ.out)
end Go.Proofs.YtkfonacokamfiaaGreat
