/- Joined texts, part 3 of what the law stands on: each as its own head says. -/
import Derived.Test.YtfaekfdngkpkdaaRows
import Derived.ProofKit
import Derived.SizedLaws
import Derived.OpenShut
import Derived.Test.YtfaekfdngkpkdaaGok2
/- The document's walk. -/
namespace Go.Proofs.Ytfaekfdngkpkdaa
set_option linter.unusedVariables false
set_option linter.unusedSimpArgs false
open Go.RowKit
attribute [local go_sem] wext_cell wext_frozen wext_heap alloc_cell alloc_frozen alloc_heap setCell_cell objCell_cells objFrozen_cells

theorem Owns.ne {w : World} {e e' : TypeId} {k n : Nat} {v : Value} {xs : List Value} (h : Owns w e k v n xs) {b : Nat} {c : Array Value} (hb : w.heap[b]? = some (.cells c e' (0, 0))) (he : e ≠ e') : ∀ g, v.ownBlock = some g → b ≠ g := fun g hg hbg => by
  obtain ⟨c', hc⟩ := h.heap g hg
  rw [← hbg, hb] at hc
  simp only [Option.some.injEq, Obj.cells.injEq] at hc
  exact he hc.2.1.symm
theorem store3_heap {w : World} {b : Nat} {c0 c1 c2 v0 v1 v2 : Value} {e : TypeId} {f : Nat × Nat} (h : w.heap[b]? = some (.cells #[c0, c1, c2] e f)) :
    (((w.setCell ⟨b, 0, none⟩ v0).setCell ⟨b, 1, none⟩ v1).setCell ⟨b, 2, none⟩ v2).heap[b]? = some (.cells #[v0, v1, v2] e f) := setCell_heap_same (setCell_heap_same (setCell_heap_same h))
theorem store3_other {w : World} {b b' : Nat} {v0 v1 v2 : Value} (h : b ≠ b') : (((w.setCell ⟨b, 0, none⟩ v0).setCell ⟨b, 1, none⟩ v1).setCell ⟨b, 2, none⟩ v2).heap[b']? = w.heap[b']? :=
  (setCell_heap _ _ _ _ _ h).trans ((setCell_heap _ _ _ _ _ h).trans (setCell_heap _ _ _ _ _ h))
theorem ext3 {a w : World} {b : Nat} {v0 v1 v2 : Value} (h : Ext a w) (hb : a.heap.size ≤ b) : Ext a (((w.setCell ⟨b, 0, none⟩ v0).setCell ⟨b, 1, none⟩ v1).setCell ⟨b, 2, none⟩ v2) :=
  Ext.setCell (Ext.setCell (Ext.setCell h hb _) hb _) hb _
/-- A walk's blocks: the memory, what it hands back, rights. -/
def RFr (w : World) (pb : Nat) (B : Int) (sa : Option Addr) (n sc : Nat) (ta : Option Addr) (k tc : Nat) (r : Rt) : Prop :=
  w.heap[pb]? = some (.cells #[.int .i64 B, .slice sa n sc, .slice ta k tc] 34 (0, 0)) ∧
  w.heap[pb + 2]? = some (.cells #[.int .i64 0, .slice none 0 0, .slice none 0 0] 34 (0, 0)) ∧
  w.heap[pb + 3]? = some (.cells #[.slice none 0 0, .int .i64 0, .bool false, .bool false, .bool false, .int .i64 0, .int .u64 0] 45 (0, 0)) ∧
  w.heap[pb + 4]? = some (.cells #[.bool r.1, .bool r.2.1, .bool r.2.2] 43 (0, 0))
theorem RFr.keep {w w' : World} {pb : Nat} {B : Int} {sa ta : Option Addr} {n sc k tc : Nat} {r : Rt} (h : RFr w pb B sa n sc ta k tc r) (hk : ∀ b o, b < pb + 5 → w.heap[b]? = some o → w'.heap[b]? = some o) : RFr w' pb B sa n sc ta k tc r :=
  ⟨hk _ _ (by omega) h.1, hk _ _ (by omega) h.2.1, hk _ _ (by omega) h.2.2.1, hk _ _ (by omega) h.2.2.2⟩
theorem RFr.ext {w w' : World} {pb : Nat} {B : Int} {sa ta : Option Addr} {n sc k1 tc : Nat} {r : Rt} (h : RFr w pb B sa n sc ta k1 tc r) (k : Ext w w') : RFr w' pb B sa n sc ta k1 tc r :=
  h.keep fun b o _ hb => (k.block b (heap_lt hb)).trans hb
theorem RFr.lt {w : World} {pb : Nat} {B : Int} {sa ta : Option Addr} {n sc k tc : Nat} {r : Rt} (h : RFr w pb B sa n sc ta k tc r) : pb < w.heap.size ∧ pb + 2 < w.heap.size ∧ pb + 3 < w.heap.size ∧ pb + 4 < w.heap.size :=
  ⟨heap_lt h.1, heap_lt h.2.1, heap_lt h.2.2.1, heap_lt h.2.2.2⟩
theorem finC {w U : World} {pb : Nat} {c0 c1 c2 d0 d1 d2 d3 d4 d5 d6 m0 m1 m2 v0 v1 v2 v3 v4 v5 v6 : Value} (hw : w.heap.size ≤ pb) (h2 : U.heap[pb + 2]? = some (.cells #[c0, c1, c2] 34 (0, 0)))
    (h3 : U.heap[pb + 3]? = some (.cells #[d0, d1, d2, d3, d4, d5, d6] 45 (0, 0))) (hE : Ext w U) {ta : Option Addr} {tc n : Nat} {T : List Int} {pv : Value} {xs : List Value} (tr : TrAt U ta tc T) (st : Owns U 146 3 pv n xs) :
    ((((((((((U.setCell ⟨pb + 2, 0, none⟩ m0).setCell ⟨pb + 2, 1, none⟩ m1).setCell ⟨pb + 2, 2, none⟩ m2).setCell ⟨pb + 3, 0, none⟩ v0).setCell ⟨pb + 3, 1, none⟩ v1).setCell ⟨pb + 3, 2, none⟩ v2).setCell ⟨pb + 3, 3, none⟩ v3).setCell ⟨pb + 3, 4, none⟩ v4).setCell ⟨pb + 3, 5, none⟩ v5).setCell ⟨pb + 3, 6, none⟩ v6).heap[pb + 2]? = some (.cells #[m0, m1, m2] 34 (0, 0)) ∧ ((((((((((U.setCell ⟨pb + 2, 0, none⟩ m0).setCell ⟨pb + 2, 1, none⟩ m1).setCell ⟨pb + 2, 2, none⟩ m2).setCell ⟨pb + 3, 0, none⟩ v0).setCell ⟨pb + 3, 1, none⟩ v1).setCell ⟨pb + 3, 2, none⟩ v2).setCell ⟨pb + 3, 3, none⟩ v3).setCell ⟨pb + 3, 4, none⟩ v4).setCell ⟨pb + 3, 5, none⟩ v5).setCell ⟨pb + 3, 6, none⟩ v6).heap[pb + 3]? = some (.cells #[v0, v1, v2, v3, v4, v5, v6] 45 (0, 0)) ∧
      TrAt ((((((((((U.setCell ⟨pb + 2, 0, none⟩ m0).setCell ⟨pb + 2, 1, none⟩ m1).setCell ⟨pb + 2, 2, none⟩ m2).setCell ⟨pb + 3, 0, none⟩ v0).setCell ⟨pb + 3, 1, none⟩ v1).setCell ⟨pb + 3, 2, none⟩ v2).setCell ⟨pb + 3, 3, none⟩ v3).setCell ⟨pb + 3, 4, none⟩ v4).setCell ⟨pb + 3, 5, none⟩ v5).setCell ⟨pb + 3, 6, none⟩ v6) ta tc T ∧ Owns ((((((((((U.setCell ⟨pb + 2, 0, none⟩ m0).setCell ⟨pb + 2, 1, none⟩ m1).setCell ⟨pb + 2, 2, none⟩ m2).setCell ⟨pb + 3, 0, none⟩ v0).setCell ⟨pb + 3, 1, none⟩ v1).setCell ⟨pb + 3, 2, none⟩ v2).setCell ⟨pb + 3, 3, none⟩ v3).setCell ⟨pb + 3, 4, none⟩ v4).setCell ⟨pb + 3, 5, none⟩ v5).setCell ⟨pb + 3, 6, none⟩ v6) 146 3 pv n xs ∧ Ext w ((((((((((U.setCell ⟨pb + 2, 0, none⟩ m0).setCell ⟨pb + 2, 1, none⟩ m1).setCell ⟨pb + 2, 2, none⟩ m2).setCell ⟨pb + 3, 0, none⟩ v0).setCell ⟨pb + 3, 1, none⟩ v1).setCell ⟨pb + 3, 2, none⟩ v2).setCell ⟨pb + 3, 3, none⟩ v3).setCell ⟨pb + 3, 4, none⟩ v4).setCell ⟨pb + 3, 5, none⟩ v5).setCell ⟨pb + 3, 6, none⟩ v6) := by
  have e3 := store3_other (w := U) (b := pb + 2) (b' := pb + 3) (v0 := m0) (v1 := m1) (v2 := m2) (by omega)
  have key : ∀ g, pb + 2 ≠ g → pb + 3 ≠ g → ((((((((((U.setCell ⟨pb + 2, 0, none⟩ m0).setCell ⟨pb + 2, 1, none⟩ m1).setCell ⟨pb + 2, 2, none⟩ m2).setCell ⟨pb + 3, 0, none⟩ v0).setCell ⟨pb + 3, 1, none⟩ v1).setCell ⟨pb + 3, 2, none⟩ v2).setCell ⟨pb + 3, 3, none⟩ v3).setCell ⟨pb + 3, 4, none⟩ v4).setCell ⟨pb + 3, 5, none⟩ v5).setCell ⟨pb + 3, 6, none⟩ v6).heap[g]? = U.heap[g]? := fun g g2 g3 => (store7_other g3).trans (store3_other g2)
  exact ⟨(store7_other (by omega)).trans (store3_heap h2), store7_heap (e3.trans h3), Owns.keep tr fun g hg => key g (Owns.ne tr h2 (by decide) g hg) (Owns.ne tr h3 (by decide) g hg), Owns.keep st fun g hg => key g (Owns.ne st h2 (by decide) g hg) (Owns.ne st h3 (by decide) g hg), ext7 (ext3 hE (by omega)) (by omega)⟩
def EndFrom (ta0 : Option Addr) (B : Int) (sa : Option Addr) (n sc : Nat) (T : List Int) (q : List Stp × WRes) (w : World) (e : Ending) (w' : World) : Prop :=
  ∃ ta tc pa pc, e = .returned (.tuple #[.agg #[.int .i64 B, .slice sa n sc, .slice ta (T ++ q.1.map (·.2.1)).length tc], .agg #[.slice pa q.1.length pc, .int .i64 q.2.1, .bool q.2.2.1.1, .bool q.2.2.1.2.1, .bool q.2.2.1.2.2, .int .i64 q.2.2.2.1, .int .u64 q.2.2.2.2]]) ∧
    TrAt w' ta tc (T ++ q.1.map (·.2.1)) ∧ Owns w' 146 3 (.slice pa q.1.length pc) q.1.length (rowS q.1) ∧ Ext w w' ∧ FreshT w ta0 ta
theorem EndFrom.mk {B : Int} {ta0 sa ta pa : Option Addr} {n sc tc pc : Nat} {T T' : List Int} {q : List Stp × WRes} {L : List Stp} {why lv fr : Int} {r0 r1 r2 : Bool} {w X : World} (h : q = (L, why, (r0, r1, r2), lv, fr)) (hT : T' = T ++ L.map (·.2.1)) (tr : TrAt X ta tc T')
    (o : Owns X 146 3 (.slice pa L.length pc) L.length (rowS L)) (ex : Ext w X) (fr9 : FreshT w ta0 ta) :
    EndFrom ta0 B sa n sc T q w (.returned (.tuple #[.agg #[.int .i64 B, .slice sa n sc, .slice ta T'.length tc], .agg #[.slice pa L.length pc, .int .i64 why, .bool r0, .bool r1, .bool r2, .int .i64 lv, .int .u64 fr]])) X := by
  subst h hT
  exact ⟨ta, tc, pa, pc, rfl, tr, o, ex, fr9⟩
theorem alloc_same4 (w : World) (o o1 o2 o3 o4 : Obj) : (((((w.alloc o1).alloc o2).alloc o3).alloc o4).alloc o).heap[w.heap.size + 1 + 1 + 1 + 1]? = some o := by
  have := alloc_same3 (w.alloc o1) o o2 o3 o4
  rwa [World.size_alloc] at this
set_option maxHeartbeats 2000000 in
set_option maxRecDepth 20000 in
theorem rFrom_c (B : Int) (hB : 14 ≤ B ∧ B ≤ 22) (sa ta : Option Addr) (S : List (Int × Int)) (M : Int → Int) (T : List Int) (sc tc n : Nat) (t a : Int) (ra rb rc nxe : Bool) (w : World) (hS : SAt w sa sc S) (hT : TrAt w ta tc T) (hok : RefOk B S M) (hSl : S.length ≤ 1000000) (hTl : T.length ≤ 900000)
    (hn : n ≤ 4) (ht0 : 0 ≤ t) (ht1 : t ≤ 18446744073709551615) (ha0 : 0 ≤ a) (ha1 : a ≤ 18446744073709551615) :
    Calls Try.prog 17 #[.agg #[.int .i64 B, .slice sa S.length sc, .slice ta T.length tc], .agg #[.int .i64 n, .int .u64 t, .bool ra, .bool rb, .bool rc], .int .u64 a, .bool nxe] w (EndFrom ta B sa S.length sc T (walkF M B nxe a n t (ra, rb, rc)) w) := by
  have HS := Lib.hid hS
  have HT := Lib.hid hT
  have HR := Lib.hid hok.wide
  have HAg := Lib.hid hok.agree
  have HBB := Lib.hid hB
  generalize hE : EndFrom ta B sa S.length sc T _ w = E
  have HE := Lib.hid hE
  clear hE hS hT hok hB
  go_enter Try.func17, Try.ntmps17
  go_wp2
  refine wp_gen ?_; intro V hV
  obtain ⟨pb, hpb⟩ : ∃ pb, w.heap.size = pb := ⟨_, rfl⟩
  have vx : Ext w V := by rw [hV]; exact (by repeat (first | exact Ext.refl _ | assumption | refine Ext.alloc ?_ _ | refine Ext.drew ?_ | refine Ext.setCell ?_ (by first | (simp; done) | (dsimp only; omega)) _ | refine Ext.trans ?_ (by assumption)))
  have vs : w.heap.size + 5 ≤ V.heap.size := by rw [hV]; simp
  have vF : RFr V w.heap.size B sa S.length sc ta T.length tc (ra, rb, rc) := by
    rw [hV]
    exact ⟨(alloc_other _ _ (by first | (simp; done) | (simp; omega))).trans ((alloc_other _ _ (by first | (simp; done) | (simp; omega))).trans ((alloc_other _ _ (by first | (simp; done) | (simp; omega))).trans ((alloc_other _ _ (by simp)).trans (alloc_same ..)))),
      (alloc_other _ _ (by first | (simp; done) | (simp; omega))).trans ((alloc_other _ _ (by first | (simp; done) | (simp; omega))).trans (alloc_same2 ..)), (alloc_other _ _ (by first | (simp; done) | (simp; omega))).trans (alloc_same3 ..), alloc_same4 ..⟩
  have hwp : w.heap.size ≤ pb := by omega
  rw [hpb] at vs vF ⊢
  have VF := Lib.hid vF
  have VX := Lib.hid vx
  clear hV vF vx hpb
  go_loopw [10, 12, 13] (fun l tb lv wr => ∃ (j : Nat) (t' : Int) (r' : Rt) (L : List Stp) (pa : Option Addr) (pc : Nat) (T' : List Int) (ta' : Option Addr) (tc' : Nat), j ≤ 4 ∧ lv = .int .i64 j ∧ tb = .int .u64 t' ∧ 0 ≤ t' ∧ t' ≤ 18446744073709551615 ∧ l = .slice pa L.length pc ∧ L.length + j ≤ 4 ∧ T'.length ≤ T.length + L.length ∧ pb + 5 ≤ wr.heap.size ∧
    Hid (RFr wr pb B sa S.length sc ta' T'.length tc' r' ∧ walkF M B nxe a n t (ra, rb, rc) = (L ++ (walkF M B nxe a j t' r').1, (walkF M B nxe a j t' r').2) ∧ Owns wr 146 3 (.slice pa L.length pc) L.length (rowS L) ∧ (∀ g, (Value.slice pa L.length pc).ownBlock = some g → pb + 5 ≤ g) ∧ TrAt wr ta' tc' T' ∧ T' = T ++ L.map (·.2.1) ∧ Ext w wr ∧ FreshT w ta ta')) (fun _ _ lv _ => (intOf lv).toNat)
  case atStart => exact ⟨n, t, (ra, rb, rc), [], none, 0, T, ta, tc, hn, rfl, rfl, ht0, ht1, rfl, by simpa using hn, by simp, vs, Lib.hid ⟨VF.out, by simp, by simpa [rowS] using Owns.nil _ _ _, fun g hg => by simp [Value.ownBlock] at hg, HT.out.ext VX.out, by simp, VX.out, fun a h => .inl h⟩⟩
  case round =>
    obtain ⟨j, t', r', L, pa, pc, T', ta', tc', hj, rfl, rfl, ht0', ht1', rfl, hLj, hTL, hwr, hR⟩ := hrel
    by_cases hj0 : j = 0
    · subst hj0
      have RF := Lib.hid hR.out.1
      have ST := Lib.hid hR.out.2.2.1
      have TR := Lib.hid hR.out.2.2.2.2.1
      have EX := Lib.hid hR.out.2.2.2.2.2.2.1
      have TQ := Lib.hid hR.out.2.2.2.2.2.1
      have FRQ := Lib.hid hR.out.2.2.2.2.2.2.2
      have W1 : Hid (walkF M B nxe a n t (ra, rb, rc) = (L, 2, (false, false, false), 0, 0)) := Lib.hid (by rw [hR.out.2.1]; simp [walkF, noRt])
      have y0 := (heap_cell RF.out.1 0).trans rfl
      have y1 := (heap_cell RF.out.1 1).trans rfl
      have y2 := (heap_cell RF.out.1 2).trans rfl
      have z0 := (heap_cell RF.out.2.1 0).trans rfl
      have z1 := (heap_cell RF.out.2.1 1).trans rfl
      have z2 := (heap_cell RF.out.2.1 2).trans rfl
      have u0 := (heap_cell RF.out.2.2.1 0).trans rfl
      have u1 := (heap_cell RF.out.2.2.1 1).trans rfl
      have u2 := (heap_cell RF.out.2.2.1 2).trans rfl
      have u3 := (heap_cell RF.out.2.2.1 3).trans rfl
      have u4 := (heap_cell RF.out.2.2.1 4).trans rfl
      have u5 := (heap_cell RF.out.2.2.1 5).trans rfl
      have u6 := (heap_cell RF.out.2.2.1 6).trans rfl
      have zf := frozen_of RF.out.2.1
      have uf := frozen_of RF.out.2.2.1
      obtain ⟨l0, l2, l3, l4⟩ := RF.out.lt
      go_wp2
      (try rw [Exit.noGoto_ret])
      refine post_gen (fun X => X.heap[pb + 2]? = some (.cells #[.int .i64 B, .slice sa S.length sc, .slice ta' T'.length tc'] 34 (0, 0)) ∧ X.heap[pb + 3]? = some (.cells #[.slice pa L.length pc, .int .i64 2, .bool false, .bool false, .bool false, .int .i64 0, .int .u64 0] 45 (0, 0)) ∧
        TrAt X ta' tc' T' ∧ Owns X 146 3 (.slice pa L.length pc) L.length (rowS L) ∧ Ext w X) ?_ ?_
      · exact finC hwp RF.out.2.1 RF.out.2.2.1 EX.out TR.out ST.out
      clear y0 y1 y2 z0 z1 z2 u0 u1 u2 u3 u4 u5 u6 zf uf
      rintro X ⟨m2, m3, tr, st, ex⟩
      have y0 := (heap_cell m2 0).trans rfl
      have y1 := (heap_cell m2 1).trans rfl
      have y2 := (heap_cell m2 2).trans rfl
      have u0 := (heap_cell m3 0).trans rfl
      have u1 := (heap_cell m3 1).trans rfl
      have u2 := (heap_cell m3 2).trans rfl
      have u3 := (heap_cell m3 3).trans rfl
      have u4 := (heap_cell m3 4).trans rfl
      have u5 := (heap_cell m3 5).trans rfl
      have u6 := (heap_cell m3 6).trans rfl
      have TR5 := Lib.hid tr
      have ST5 := Lib.hid st
      have EX5 := Lib.hid ex
      clear m2 m3 tr st ex
      refine bodyPost_ret (by simp [results, Try.results17, go_sem, ↓IntWalk.iteOmega, *]; try rfl) rfl (by rw [← HE.out]; exact EndFrom.mk W1.out TQ.out TR5.out ST5.out EX5.out FRQ.out)
    have hj1 : 1 ≤ j := by omega
    have hSl' := fun w => rSlot_c t' a j w ht0' ht1' ha0 ha1 (by omega) (by omega)
    have hs3 := slotI_le (t := t') (a := a) (l := (j : Int)) ht0'
    obtain ⟨s, hs⟩ : ∃ s, slotI t' a j = s := ⟨_, rfl⟩
    rw [hs] at hSl' hs3
    have HSt := Aside.mk hs
    have HSl := Lib.hid hSl'
    obtain ⟨hs0, hs1, -⟩ := hs3
    have ⟨x0, x1⟩ := HR.out (s / 8)
    obtain ⟨x, hx⟩ : ∃ x, M (s / 8) = x := ⟨_, rfl⟩
    rw [hx] at x0 x1
    have HX := Aside.mk hx
    clear hs hx hSl'
    by_cases he : errM B s ≠ 0
    · have HLe := Lib.hid (fun w h k => rLoad_bad B HBB.out sa ta' S T' sc tc' s w h k hSl hs0 (by omega) he)
      have W1 : Hid (walkF M B nxe a n t (ra, rb, rc) = (L, 2, (false, false, false), 0, 0)) := Lib.hid (by rw [hR.out.2.1, walkJ_bad hj1 HSt.out he]; simp [noRt])
      have heb : (errM B s != 0) = true := by simpa using he
      generalize errM B s = er at HLe heb
      clear he
      have RW := hR.out.1
      have y0 := (heap_cell RW.1 0).trans rfl
      have y1 := (heap_cell RW.1 1).trans rfl
      have y2 := (heap_cell RW.1 2).trans rfl
      have hlr := RW.lt.1
      go_upto_region 11 with (first | (go_at_call 69; refine (HSl.out _).mono ?_; rintro e w1 ⟨rfl, hb1⟩; have RW1 := (hR.out.1.ext hb1).1; have d0 := (heap_cell RW1 0).trans rfl; have d1 := (heap_cell RW1 1).trans rfl; have d2 := (heap_cell RW1 2).trans rfl; have dl := heap_lt RW1) | (go_at_call 70; refine (HLe.out _ (HS.out.ext (hR.out.2.2.2.2.2.2.1.trans hb1)) (hR.out.2.2.2.2.1.ext hb1)).mono ?_; rintro e w2 ⟨ta2, tc2, rfl, hT2, hb2, hfr2⟩; have RW2 := (hR.out.1.ext (hb1.trans hb2)).1; have g0 := (heap_cell RW2 0).trans rfl; have g1 := (heap_cell RW2 1).trans rfl; have g2 := (heap_cell RW2 2).trans rfl; have gf := frozen_of RW2; have gl := heap_lt RW2))
      refine wp_gen ?_; intro U hU
      have hE2 := hb1.trans hb2
      have FRQ : Hid (FreshT w ta ta2) := Lib.hid (fun a9 h9 => (hfr2 a9 h9).elim (fun h => hR.out.2.2.2.2.2.2.2 a9 h) fun h => .inr (Nat.le_trans (hR.out.2.2.2.2.2.2.1.trans hb1).size h))
      clear hfr2
      have RF : Hid (RFr U pb B sa S.length sc ta2 T'.length tc2 r') := Lib.hid (by
        have h := hR.out.1.ext hE2
        rw [hU]
        exact RFr.ext ⟨store3_heap h.1, (store3_other (by omega)).trans h.2.1, (store3_other (by omega)).trans h.2.2.1, (store3_other (by omega)).trans h.2.2.2⟩ ((Ext.refl _).alloc _))
      have ST : Hid (Owns U 146 3 (.slice pa L.length pc) L.length (rowS L)) := Lib.hid (by
        rw [hU]
        exact Owns.ext ((hR.out.2.2.1.ext hE2).keep fun g hg => store3_other (by have := hR.out.2.2.2.1 g hg; omega)) ((Ext.refl _).alloc _))
      have TR : Hid (TrAt U ta2 tc2 T') := Lib.hid (by
        rw [hU]
        exact Owns.ext (Owns.keep hT2 fun g hg => store3_other (Owns.ne hT2 (hR.out.1.ext hE2).1 (by decide) g hg)) ((Ext.refl _).alloc _))
      have EX : Hid (Ext w U) := Lib.hid (by rw [hU]; exact (ext3 (hR.out.2.2.2.2.2.2.1.trans hE2) hwp).alloc _)
      have TQ := Lib.hid hR.out.2.2.2.2.2.1
      clear hU hE2 hb1 hb2 hT2 RW RW1 RW2 d0 d1 d2 dl g0 g1 g2 gf gl y0 y1 y2 hlr
      have y0 := (heap_cell RF.out.1 0).trans rfl
      have y1 := (heap_cell RF.out.1 1).trans rfl
      have y2 := (heap_cell RF.out.1 2).trans rfl
      have z0 := (heap_cell RF.out.2.1 0).trans rfl
      have z1 := (heap_cell RF.out.2.1 1).trans rfl
      have z2 := (heap_cell RF.out.2.1 2).trans rfl
      have u0 := (heap_cell RF.out.2.2.1 0).trans rfl
      have u1 := (heap_cell RF.out.2.2.1 1).trans rfl
      have u2 := (heap_cell RF.out.2.2.1 2).trans rfl
      have u3 := (heap_cell RF.out.2.2.1 3).trans rfl
      have u4 := (heap_cell RF.out.2.2.1 4).trans rfl
      have u5 := (heap_cell RF.out.2.2.1 5).trans rfl
      have u6 := (heap_cell RF.out.2.2.1 6).trans rfl
      have zf := frozen_of RF.out.2.1
      have uf := frozen_of RF.out.2.2.1
      obtain ⟨l0, l2, l3, l4⟩ := RF.out.lt
      go_wp2
      (try rw [Exit.noGoto_ret])
      refine post_gen (fun X => X.heap[pb + 2]? = some (.cells #[.int .i64 B, .slice sa S.length sc, .slice ta2 T'.length tc2] 34 (0, 0)) ∧ X.heap[pb + 3]? = some (.cells #[.slice pa L.length pc, .int .i64 2, .bool false, .bool false, .bool false, .int .i64 0, .int .u64 0] 45 (0, 0)) ∧
        TrAt X ta2 tc2 T' ∧ Owns X 146 3 (.slice pa L.length pc) L.length (rowS L) ∧ Ext w X) ?_ ?_
      · exact finC hwp RF.out.2.1 RF.out.2.2.1 EX.out TR.out ST.out
      clear y0 y1 y2 z0 z1 z2 u0 u1 u2 u3 u4 u5 u6 zf uf
      rintro X ⟨m2, m3, tr, st, ex⟩
      have y0 := (heap_cell m2 0).trans rfl
      have y1 := (heap_cell m2 1).trans rfl
      have y2 := (heap_cell m2 2).trans rfl
      have u0 := (heap_cell m3 0).trans rfl
      have u1 := (heap_cell m3 1).trans rfl
      have u2 := (heap_cell m3 2).trans rfl
      have u3 := (heap_cell m3 3).trans rfl
      have u4 := (heap_cell m3 4).trans rfl
      have u5 := (heap_cell m3 5).trans rfl
      have u6 := (heap_cell m3 6).trans rfl
      have TR5 := Lib.hid tr
      have ST5 := Lib.hid st
      have EX5 := Lib.hid ex
      clear m2 m3 tr st ex
      refine bodyPost_ret (by simp [results, Try.results17, go_sem, ↓IntWalk.iteOmega, *]; try rfl) rfl (by rw [← HE.out]; exact EndFrom.mk W1.out TQ.out TR5.out ST5.out EX5.out FRQ.out)
    have he0 : errM B s = 0 := by omega
    clear he
    have HL0 := Lib.hid (fun w h k => by have := rLoad_ok B HBB.out sa ta' S T' sc tc' s w h k hSl (by omega) hs0 (by omega) he0; rw [HAg.out s hs0 he0, HX.out] at this; exact this)
    have HE0 := Lib.hid he0
    clear he0
    obtain ⟨T2, hT2e⟩ : ∃ T2, T' ++ [s] = T2 := ⟨_, rfl⟩
    have hT2l : T2.length ≤ T.length + L.length + 1 := by rw [← hT2e]; simp; omega
    rw [hT2e] at HL0
    have HT2 := Lib.hid hT2e
    clear hT2e
    have RW := hR.out.1
    have y0 := (heap_cell RW.1 0).trans rfl
    have y1 := (heap_cell RW.1 1).trans rfl
    have y2 := (heap_cell RW.1 2).trans rfl
    have hlr := RW.lt.1
    go_upto_region 12 with (first | (go_at_call 69; refine (HSl.out _).mono ?_; rintro e w1 ⟨rfl, hb1⟩; have RW1 := (hR.out.1.ext hb1).1; have d0 := (heap_cell RW1 0).trans rfl; have d1 := (heap_cell RW1 1).trans rfl; have d2 := (heap_cell RW1 2).trans rfl; have dl := heap_lt RW1) | (go_at_call 70; refine (HL0.out _ (HS.out.ext (hR.out.2.2.2.2.2.2.1.trans hb1)) (hR.out.2.2.2.2.1.ext hb1)).mono ?_; rintro e w2 ⟨ta2, tc2, rfl, hT2, hb2, hfr2⟩; have RW2 := (hR.out.1.ext (hb1.trans hb2)).1; have g0 := (heap_cell RW2 0).trans rfl; have g1 := (heap_cell RW2 1).trans rfl; have g2 := (heap_cell RW2 2).trans rfl; have gf := frozen_of RW2; have gl := heap_lt RW2))
    refine wp_gen ?_; intro U hU
    have hE2 := hb1.trans hb2
    have FRQ : Hid (FreshT w ta ta2) := Lib.hid (fun a9 h9 => (hfr2 a9 h9).elim (fun h => hR.out.2.2.2.2.2.2.2 a9 h) fun h => .inr (Nat.le_trans (hR.out.2.2.2.2.2.2.1.trans hb1).size h))
    clear hfr2
    have RFU : Hid (RFr U pb B sa S.length sc ta2 T2.length tc2 r') := Lib.hid (by
      have h := hR.out.1.ext hE2
      rw [hU]
      exact RFr.ext ⟨store3_heap h.1, (store3_other (by omega)).trans h.2.1, (store3_other (by omega)).trans h.2.2.1, (store3_other (by omega)).trans h.2.2.2⟩ ((Ext.refl _).alloc _))
    have STU : Hid (Owns U 146 3 (.slice pa L.length pc) L.length (rowS L)) := Lib.hid (by
      rw [hU]
      exact Owns.ext ((hR.out.2.2.1.ext hE2).keep fun g hg => store3_other (by have := hR.out.2.2.2.1 g hg; omega)) ((Ext.refl _).alloc _))
    have TRU : Hid (TrAt U ta2 tc2 T2) := Lib.hid (by
      rw [hU]
      exact Owns.ext (Owns.keep hT2 fun g hg => store3_other (Owns.ne hT2 (hR.out.1.ext hE2).1 (by decide) g hg)) ((Ext.refl _).alloc _))
    have EXU : Hid (Ext w U) := Lib.hid (by rw [hU]; exact (ext3 (hR.out.2.2.2.2.2.2.1.trans hE2) hwp).alloc _)
    have TQ0 := Lib.hid hR.out.2.2.2.2.2.1
    have hUs : pb + 5 ≤ U.heap.size := by have := RFU.out.lt; omega
    have GU := Lib.hid hR.out.2.2.2.1
    clear hU hE2 hb1 hb2 hT2 RW RW1 RW2 d0 d1 d2 dl g0 g1 g2 gf gl y0 y1 y2 hlr hwr
    have HA := Lib.hid (STU.out.ext ((Ext.refl U).alloc (.cells #[.int .i64 j, .int .u64 s, .int .u64 x] 146)))
    have hb5 : w.heap.size ≤ pb + 5 := by omega
    go_upto_region 13 with (first | (at_builtin; refine wpList_append_owns rfl _ _ _ _ 3 24 refStepRow rfl _ rfl L.length _ HA.out _ 1 1 rfl [.int .i64 j, .int .u64 s, .int .u64 x] rfl (fun j u hu => by rw [add0, heap_cell (alloc_same U _) j]; simpa using hu) (by simp [Value.oneCell']) (by unfold maxLen; omega) (by omega) ?_; intro v9 w9 q1 q2 q3; replace q2 : (U.alloc (.cells #[.int .i64 j, .int .u64 s, .int .u64 x] 146)).grownBy w9 (Value.slice pa L.length pc).ownBlock := q2; replace q3 : v9.ownBlock = (Value.slice pa L.length pc).ownBlock ∨ v9.ownBlock = some (U.alloc (.cells #[.int .i64 j, .int .u64 s, .int .u64 x] 146)).heap.size := q3; obtain ⟨a9, c9, rfl, -, -⟩ := q1.form; simp only [Act.put, Array.set!_eq_setIfInBounds, List.setIfInBounds_toArray, List.set_cons_succ, List.set_cons_zero]))
    have ⟨k1, k2, k3, k4⟩ := grown_after (prev := Value.slice pa L.length pc) (o := .cells #[.int .i64 j, .int .u64 s, .int .u64 x] 146) (base := pb + 5) hUs hb5 EXU.out GU.out q2 q3
    have RF9 : Hid (RFr w9 pb B sa S.length sc ta2 T2.length tc2 r') := Lib.hid (RFU.out.keep k2)
    have EX9 := Lib.hid k1
    have G9 := Lib.hid k3
    obtain ⟨L1, hL1⟩ : ∃ L1, L ++ [((j : Int), s, x)] = L1 := ⟨_, rfl⟩
    have hLn : L.length + 1 = L1.length := by rw [← hL1]; simp
    have HL1 := Lib.hid hL1
    have hLm : L1.length ≤ L.length + 1 ∧ L.length + 1 ≤ L1.length := by omega
    obtain ⟨hLm1, hLm2⟩ := hLm
    have ST9 : Hid (Owns w9 146 3 (.slice a9 L1.length c9) L1.length (rowS L1)) := Lib.hid (by
      rw [← hLn, ← hL1, rowS_append, rowS_one]; exact q1)
    rw [hLn] at G9 ⊢
    have TR9 : Hid (TrAt w9 ta2 tc2 T2) := Lib.hid (Owns.keep (TRU.out.ext ((Ext.refl U).alloc (.cells #[.int .i64 j, .int .u64 s, .int .u64 x] 146))) fun g hg => by
      obtain ⟨c, hc⟩ := Owns.heap (TRU.out.ext ((Ext.refl U).alloc (.cells #[.int .i64 j, .int .u64 s, .int .u64 x] 146))) g hg
      exact q2.block g (heap_lt hc) (fun e => Owns.ne HA.out hc (by decide) g e.symm rfl))
    have TQ : Hid (T2 = T ++ L1.map (·.2.1)) := Lib.hid (by rw [← HT2.out, ← HL1.out, TQ0.out]; simp)
    clear q1 q2 q3 k1 k2 k3 hL1 hLn HA RFU STU TRU EXU GU TQ0
    have HBi := Lib.hid (fun w => bit_c x 0 w x0 x1 (by omega) (by omega))
    cases hp : bitB x 0
    · rw [hp] at HBi
      have W1 : Hid (walkF M B nxe a n t (ra, rb, rc) = (L1, 1, (false, false, false), 0, 0)) := Lib.hid (by rw [hR.out.2.1, walkJ_absent hj1 HSt.out HX.out HE0.out hp, ← HL1.out]; rfl)
      clear hp
      go_upto_region 14 with (first | (go_at_call 71; refine (HBi.out _).mono ?_; rintro e w3 ⟨rfl, hb3⟩))
      have RF := Lib.hid (RF9.out.ext hb3)
      have ST := Lib.hid (ST9.out.ext hb3)
      have TR := Lib.hid (TR9.out.ext hb3)
      have EX := Lib.hid (EX9.out.trans hb3)
      clear hb3
      have y0 := (heap_cell RF.out.1 0).trans rfl
      have y1 := (heap_cell RF.out.1 1).trans rfl
      have y2 := (heap_cell RF.out.1 2).trans rfl
      have z0 := (heap_cell RF.out.2.1 0).trans rfl
      have z1 := (heap_cell RF.out.2.1 1).trans rfl
      have z2 := (heap_cell RF.out.2.1 2).trans rfl
      have u0 := (heap_cell RF.out.2.2.1 0).trans rfl
      have u1 := (heap_cell RF.out.2.2.1 1).trans rfl
      have u2 := (heap_cell RF.out.2.2.1 2).trans rfl
      have u3 := (heap_cell RF.out.2.2.1 3).trans rfl
      have u4 := (heap_cell RF.out.2.2.1 4).trans rfl
      have u5 := (heap_cell RF.out.2.2.1 5).trans rfl
      have u6 := (heap_cell RF.out.2.2.1 6).trans rfl
      have zf := frozen_of RF.out.2.1
      have uf := frozen_of RF.out.2.2.1
      obtain ⟨l0, l2, l3, l4⟩ := RF.out.lt
      go_wp2
      (try rw [Exit.noGoto_ret])
      refine post_gen (fun X => X.heap[pb + 2]? = some (.cells #[.int .i64 B, .slice sa S.length sc, .slice ta2 T2.length tc2] 34 (0, 0)) ∧ X.heap[pb + 3]? = some (.cells #[.slice a9 L1.length c9, .int .i64 1, .bool false, .bool false, .bool false, .int .i64 0, .int .u64 0] 45 (0, 0)) ∧
        TrAt X ta2 tc2 T2 ∧ Owns X 146 3 (.slice a9 L1.length c9) L1.length (rowS L1) ∧ Ext w X) ?_ ?_
      · exact finC hwp RF.out.2.1 RF.out.2.2.1 EX.out TR.out ST.out
      clear y0 y1 y2 z0 z1 z2 u0 u1 u2 u3 u4 u5 u6 zf uf
      rintro X ⟨m2, m3, tr, st, ex⟩
      have y0 := (heap_cell m2 0).trans rfl
      have y1 := (heap_cell m2 1).trans rfl
      have y2 := (heap_cell m2 2).trans rfl
      have u0 := (heap_cell m3 0).trans rfl
      have u1 := (heap_cell m3 1).trans rfl
      have u2 := (heap_cell m3 2).trans rfl
      have u3 := (heap_cell m3 3).trans rfl
      have u4 := (heap_cell m3 4).trans rfl
      have u5 := (heap_cell m3 5).trans rfl
      have u6 := (heap_cell m3 6).trans rfl
      have TR5 := Lib.hid tr
      have ST5 := Lib.hid st
      have EX5 := Lib.hid ex
      clear m2 m3 tr st ex
      refine bodyPost_ret (by simp [results, Try.results17, go_sem, ↓IntWalk.iteOmega, *]; try rfl) rfl (by rw [← HE.out]; exact EndFrom.mk W1.out TQ.out TR5.out ST5.out EX5.out FRQ.out)
    rw [hp] at HBi
    have HRs := Lib.hid (fun w => rReserved_c x j B nxe w (by omega) (by omega) x0 x1 HBB.out.1 HBB.out.2)
    cases hr : resI x j B nxe
    case true =>
      rw [hr] at HRs
      have W1 : Hid (walkF M B nxe a n t (ra, rb, rc) = (L1, 2, (false, false, false), 0, 0)) := Lib.hid (by rw [hR.out.2.1, walkJ_res hj1 HSt.out HX.out HE0.out hp hr, ← HL1.out]; rfl)
      clear hp hr
      go_upto_region 16 with (first | (go_at_call 71; refine (HBi.out _).mono ?_; rintro e w3 ⟨rfl, hb3⟩; have RW3 := (RF9.out.ext hb3).1; have d0 := (heap_cell RW3 0).trans rfl; have dl := heap_lt RW3) | (go_at_call 72; refine (HRs.out _).mono ?_; rintro e w4 ⟨rfl, hb4⟩))
      have hE4 := hb3.trans hb4
      have RF := Lib.hid (RF9.out.ext hE4)
      have ST := Lib.hid (ST9.out.ext hE4)
      have TR := Lib.hid (TR9.out.ext hE4)
      have EX := Lib.hid (EX9.out.trans hE4)
      clear hb3 hb4 hE4 RW3 d0 dl
      have y0 := (heap_cell RF.out.1 0).trans rfl
      have y1 := (heap_cell RF.out.1 1).trans rfl
      have y2 := (heap_cell RF.out.1 2).trans rfl
      have z0 := (heap_cell RF.out.2.1 0).trans rfl
      have z1 := (heap_cell RF.out.2.1 1).trans rfl
      have z2 := (heap_cell RF.out.2.1 2).trans rfl
      have u0 := (heap_cell RF.out.2.2.1 0).trans rfl
      have u1 := (heap_cell RF.out.2.2.1 1).trans rfl
      have u2 := (heap_cell RF.out.2.2.1 2).trans rfl
      have u3 := (heap_cell RF.out.2.2.1 3).trans rfl
      have u4 := (heap_cell RF.out.2.2.1 4).trans rfl
      have u5 := (heap_cell RF.out.2.2.1 5).trans rfl
      have u6 := (heap_cell RF.out.2.2.1 6).trans rfl
      have zf := frozen_of RF.out.2.1
      have uf := frozen_of RF.out.2.2.1
      obtain ⟨l0, l2, l3, l4⟩ := RF.out.lt
      go_wp2
      (try rw [Exit.noGoto_ret])
      refine post_gen (fun X => X.heap[pb + 2]? = some (.cells #[.int .i64 B, .slice sa S.length sc, .slice ta2 T2.length tc2] 34 (0, 0)) ∧ X.heap[pb + 3]? = some (.cells #[.slice a9 L1.length c9, .int .i64 2, .bool false, .bool false, .bool false, .int .i64 0, .int .u64 0] 45 (0, 0)) ∧
        TrAt X ta2 tc2 T2 ∧ Owns X 146 3 (.slice a9 L1.length c9) L1.length (rowS L1) ∧ Ext w X) ?_ ?_
      · exact finC hwp RF.out.2.1 RF.out.2.2.1 EX.out TR.out ST.out
      clear y0 y1 y2 z0 z1 z2 u0 u1 u2 u3 u4 u5 u6 zf uf
      rintro X ⟨m2, m3, tr, st, ex⟩
      have y0 := (heap_cell m2 0).trans rfl
      have y1 := (heap_cell m2 1).trans rfl
      have y2 := (heap_cell m2 2).trans rfl
      have u0 := (heap_cell m3 0).trans rfl
      have u1 := (heap_cell m3 1).trans rfl
      have u2 := (heap_cell m3 2).trans rfl
      have u3 := (heap_cell m3 3).trans rfl
      have u4 := (heap_cell m3 4).trans rfl
      have u5 := (heap_cell m3 5).trans rfl
      have u6 := (heap_cell m3 6).trans rfl
      have TR5 := Lib.hid tr
      have ST5 := Lib.hid st
      have EX5 := Lib.hid ex
      clear m2 m3 tr st ex
      refine bodyPost_ret (by simp [results, Try.results17, go_sem, ↓IntWalk.iteOmega, *]; try rfl) rfl (by rw [← HE.out]; exact EndFrom.mk W1.out TQ.out TR5.out ST5.out EX5.out FRQ.out)
    rw [hr] at HRs
    have HLf := Lib.hid (fun w => rLeaf_c x j w x0 x1 (by omega) (by omega))
    have HTb := Lib.hid (fun w => refTable_c x w x0 x1)
    have HFm := Lib.hid (fun w => rFrame_c x j w x0 x1 (by omega) (by omega))
    obtain ⟨r0, r1, r2⟩ := r'
    have HAn := Lib.hid (fun w => rAnd_c r0 r1 r2 x w x0 x1)
    have HR0 := Lib.hid hr
    have HP0 := Lib.hid hp
    clear hp hr
    have htl := tabI_le x0
    have HAR : Hid (andR (r0, r1, r2) x = (r0 && bitB x 1, r1 && bitB x 2, r2 && !bitB x 63)) := Lib.hid rfl
    generalize (r0 && bitB x 1) = s0 at HAn HAR
    generalize (r1 && bitB x 2) = s1 at HAn HAR
    generalize (r2 && !bitB x 63) = s2 at HAn HAR
    go_upto_region 17 with (first | (go_at_call 71; refine (HBi.out _).mono ?_; rintro e w3 ⟨rfl, hb3⟩; have RW3 := (RF9.out.ext hb3).1; have d0 := (heap_cell RW3 0).trans rfl; have dl := heap_lt RW3) | (go_at_call 72; refine (HRs.out _).mono ?_; rintro e w4 ⟨rfl, hb4⟩))
    have hE4 := hb3.trans hb4
    have RF4 := Lib.hid (RF9.out.ext hE4)
    have ST4 := Lib.hid (ST9.out.ext hE4)
    have TR4 := Lib.hid (TR9.out.ext hE4)
    have EX4 := Lib.hid (EX9.out.trans hE4)
    clear hb3 hb4 hE4 RW3 d0 dl RF9 ST9 TR9 EX9
    have y0 := (heap_cell RF4.out.2.2.2 0).trans rfl
    have y1 := (heap_cell RF4.out.2.2.2 1).trans rfl
    have y2 := (heap_cell RF4.out.2.2.2 2).trans rfl
    have yl := heap_lt RF4.out.2.2.2
    go_upto_region 18 with (first | (go_at_call 73; refine (HAn.out _).mono ?_; rintro e w5 ⟨rfl, hb5'⟩; have RW5 := (RF4.out.ext hb5').2.2.2; have d0 := (heap_cell RW5 0).trans rfl; have d1 := (heap_cell RW5 1).trans rfl; have d2 := (heap_cell RW5 2).trans rfl; have df := frozen_of RW5; have dl := heap_lt RW5))
    refine wp_gen ?_; intro U5 hU5
    have RF5 : Hid (RFr U5 pb B sa S.length sc ta2 T2.length tc2 (s0, s1, s2)) := Lib.hid (by
      have h := RF4.out.ext hb5'
      rw [hU5]
      exact ⟨(store3_other (by omega)).trans h.1, (store3_other (by omega)).trans h.2.1, (store3_other (by omega)).trans h.2.2.1, store3_heap h.2.2.2⟩)
    have ST5 : Hid (Owns U5 146 3 (.slice a9 L1.length c9) L1.length (rowS L1)) := Lib.hid (by
      rw [hU5]
      exact (ST4.out.ext hb5').keep fun g hg => store3_other (by have := G9.out g hg; omega))
    have TR5 : Hid (TrAt U5 ta2 tc2 T2) := Lib.hid (by
      rw [hU5]
      exact Owns.keep (TR4.out.ext hb5') fun g hg => store3_other (Owns.ne (TR4.out.ext hb5') (RF4.out.ext hb5').2.2.2 (by decide) g hg))
    have EX5 : Hid (Ext w U5) := Lib.hid (by rw [hU5]; exact ext3 (EX4.out.trans hb5') (by omega))
    clear hU5 hb5' RW5 d0 d1 d2 df dl y0 y1 y2 yl RF4 ST4 TR4 EX4
    cases hl : leafI x j
    case false =>
      have WO : Hid (walkF M B nxe a n t (ra, rb, rc) = (L1 ++ (walkF M B nxe a (j - 1) (tabI x) (andR (r0, r1, r2) x)).1, (walkF M B nxe a (j - 1) (tabI x) (andR (r0, r1, r2) x)).2)) := Lib.hid (by rw [hR.out.2.1, walkJ_on hj1 HSt.out HX.out HE0.out HP0.out HR0.out hl, ← HL1.out]; simp)
      rw [hl] at HLf
      generalize andR (r0, r1, r2) x = rr at WO HAR
      generalize tabI x = tb at WO HTb htl
      obtain ⟨tb0, tb1, -, -⟩ := htl
      clear hl
      go_wp2_with (first | (go_at_call 74; refine (HLf.out _).mono ?_; rintro e w6 ⟨rfl, hb6⟩) | (go_at_call 76; refine (HTb.out _).mono ?_; rintro e w7 ⟨rfl, hb7⟩))
      have hE7 := hb6.trans hb7
      refine ⟨⟨j - 1, tb, (s0, s1, s2), L1, a9, c9, T2, ta2, tc2, by omega, by rw [show ((j - 1 : Nat) : Int) = (j : Int) - 1 by omega], rfl, tb0, by omega, rfl, by omega, by omega, by have := (RF5.out.ext hE7).lt; omega, Lib.hid ⟨RF5.out.ext hE7, by rw [WO.out, HAR.out], ST5.out.ext hE7, G9.out, TR5.out.ext hE7, TQ.out, EX5.out.trans hE7, FRQ.out⟩⟩, by simp [intOf]; omega⟩
    case true =>
      have W1 : Hid (walkF M B nxe a n t (ra, rb, rc) = (L1, 0, (s0, s1, s2), (j : Int), frameI x j)) := Lib.hid (by rw [hR.out.2.1, walkJ_leaf hj1 HSt.out HX.out HE0.out HP0.out HR0.out hl, ← HL1.out, HAR.out])
      rw [hl] at HLf
      generalize frameI x j = fr at HFm W1
      clear hl
      go_upto_region 19 with (first | (go_at_call 74; refine (HLf.out _).mono ?_; rintro e w6 ⟨rfl, hb6⟩))
      have RF6 := Lib.hid (RF5.out.ext hb6)
      have ST6 := Lib.hid (ST5.out.ext hb6)
      have TR6 := Lib.hid (TR5.out.ext hb6)
      have EX6 := Lib.hid (EX5.out.trans hb6)
      clear hb6 RF5 ST5 TR5 EX5
      obtain ⟨l0, l2, l3, l4⟩ := RF6.out.lt
      have m0 := wk_cell (F := (pb + 2) :: []) l0 (by simp) ((heap_cell RF6.out.1 0).trans rfl)
      have m1 := wk_cell (F := (pb + 2) :: []) l0 (by simp) ((heap_cell RF6.out.1 1).trans rfl)
      have m2 := wk_cell (F := (pb + 2) :: []) l0 (by simp) ((heap_cell RF6.out.1 2).trans rfl)
      have n0 := wk_cell (F := (pb + 2) :: []) l4 (by simp) ((heap_cell RF6.out.2.2.2 0).trans rfl)
      have n1 := wk_cell (F := (pb + 2) :: []) l4 (by simp) ((heap_cell RF6.out.2.2.2 1).trans rfl)
      have n2 := wk_cell (F := (pb + 2) :: []) l4 (by simp) ((heap_cell RF6.out.2.2.2 2).trans rfl)
      clear l0 l2 l3 l4
      refine region_mixGR (Rw := fun a b => Keeps ((pb + 2) :: []) a b) (fun k => Keeps.of_ext k) (fun h1 h2 => h1.trans h2 (fun y hy => .inl hy)) [.q [0, 2], .b [1, 3, 4, 5], .l 6 3, .b [7], .l 8 3, .l 9 2] (by kernel_rfl) (by kernel_rfl) ?_
      (try refine ⟨fun h => absurd h (by simp), ?_⟩); (repeat (unfold wpPlanR; simp only [pickL, List.map_cons, List.map_nil, List.getD_cons_succ, List.getD_cons_zero]; (try refine quiet_wk ?_); (repeat go_big_quiet_step (fail)); refine wpQuiet_nil ?_)); unfold wpPlanR; intro w7 hb7; (try simp only [pickL, List.map_cons, List.map_nil, List.getD_cons_succ, List.getD_cons_zero])
      clear m0 m1 m2 n0 n1 n2
      go_wp2_with (first | (go_at_call 75; refine (HFm.out _).mono ?_; rintro e w8 ⟨rfl, hb8⟩))
      refine ⟨fun _ => Keeps.of_ext (hb7.trans (Ext.trans (by repeat (first | exact Ext.refl _ | assumption | refine Ext.alloc ?_ _ | refine Ext.drew ?_ | refine Ext.setCell ?_ (by first | (simp; done) | (dsimp only; omega)) _ | refine Ext.trans ?_ (by assumption))) hb8)), ?_⟩
      (try refine ⟨fun h => absurd h (by simp), ?_⟩); (repeat (unfold wpPlanR; simp only [pickL, List.map_cons, List.map_nil, List.getD_cons_succ, List.getD_cons_zero]; (try refine quiet_wk ?_); (repeat go_big_quiet_step (fail)); refine wpQuiet_nil ?_)); unfold wpPlanR; intro wa hba; (try simp only [pickL, List.map_cons, List.map_nil, List.getD_cons_succ, List.getD_cons_zero])
      have E9 := (hb7.trans (Ext.trans (by repeat (first | exact Ext.refl _ | assumption | refine Ext.alloc ?_ _ | refine Ext.drew ?_ | refine Ext.setCell ?_ (by first | (simp; done) | (dsimp only; omega)) _ | refine Ext.trans ?_ (by assumption))) hb8)).trans hba
      have hk8 : ∀ v0 v1 v2, Keeps ((pb + 2) :: []) w8 (((wa.setCell ⟨pb + 2, 0, none⟩ v0).setCell ⟨pb + 2, 1, none⟩ v1).setCell ⟨pb + 2, 2, none⟩ v2) := fun v0 v1 v2 => Keeps.setCell (Keeps.setCell (Keeps.setCell (Keeps.of_ext hba) (.inl (by simp)) _) (.inl (by simp)) _) (.inl (by simp)) _
      have HK8 := Lib.hid hk8
      have RG := Lib.hid (RF6.out.ext E9)
      have STG := Lib.hid (ST6.out.ext E9)
      have TRG := Lib.hid (TR6.out.ext E9)
      have EXG := Lib.hid (EX6.out.trans E9)
      clear hb7 hb8 hba E9 hk8
      have z0 := (heap_cell RG.out.2.1 0).trans rfl
      have z1 := (heap_cell RG.out.2.1 1).trans rfl
      have z2 := (heap_cell RG.out.2.1 2).trans rfl
      have zf := frozen_of RG.out.2.1
      obtain ⟨l0, l2, l3, l4⟩ := RG.out.lt
      go_wp2
      refine ⟨fun _ => HK8.out _ _ _, ?_⟩
      (try refine ⟨fun h => absurd h (by simp), ?_⟩); (repeat (unfold wpPlanR; simp only [pickL, List.map_cons, List.map_nil, List.getD_cons_succ, List.getD_cons_zero]; (try refine quiet_wk ?_); (repeat go_big_quiet_step (fail)); refine wpQuiet_nil ?_)); unfold wpPlanR; intro wb hbb; (try simp only [pickL, List.map_cons, List.map_nil, List.getD_cons_succ, List.getD_cons_zero])
      have b3 := (hbb.block (pb + 3) (by simp only [World.size_setCell]; omega)).trans ((store3_other (by omega)).trans RG.out.2.2.1)
      have b2 := (hbb.block (pb + 2) (by simp only [World.size_setCell]; omega)).trans (store3_heap RG.out.2.1)
      have s3 := ((STG.out.keep (w' := ((wa.setCell ⟨pb + 2, 0, none⟩ (.int .i64 B)).setCell ⟨pb + 2, 1, none⟩ (.slice sa S.length sc)).setCell ⟨pb + 2, 2, none⟩ (.slice ta2 T2.length tc2)) fun g hg => store3_other (Owns.ne STG.out RG.out.2.1 (by decide) g hg))).ext hbb
      have t3 := (Owns.keep (w' := ((wa.setCell ⟨pb + 2, 0, none⟩ (.int .i64 B)).setCell ⟨pb + 2, 1, none⟩ (.slice sa S.length sc)).setCell ⟨pb + 2, 2, none⟩ (.slice ta2 T2.length tc2)) TRG.out fun g hg => store3_other (Owns.ne TRG.out RG.out.2.1 (by decide) g hg)).ext hbb
      have e3 := (ext3 (v0 := .int .i64 B) (v1 := .slice sa S.length sc) (v2 := .slice ta2 T2.length tc2) (b := pb + 2) EXG.out (by omega)).trans hbb
      have B3 := Lib.hid b3
      have B2 := Lib.hid b2
      have S3 := Lib.hid s3
      have T3 := Lib.hid t3
      have X3 := Lib.hid e3
      clear hbb b3 b2 s3 t3 e3 z0 z1 z2 zf l0 l2 l3 l4
      have u0 := (heap_cell B3.out 0).trans rfl
      have u1 := (heap_cell B3.out 1).trans rfl
      have u2 := (heap_cell B3.out 2).trans rfl
      have u3 := (heap_cell B3.out 3).trans rfl
      have u4 := (heap_cell B3.out 4).trans rfl
      have u5 := (heap_cell B3.out 5).trans rfl
      have u6 := (heap_cell B3.out 6).trans rfl
      have uf := frozen_of B3.out
      have ul := heap_lt B3.out
      go_wp2
      (try refine ⟨fun h => absurd h (by simp), ?_⟩); (repeat (unfold wpPlanR; simp only [pickL, List.map_cons, List.map_nil, List.getD_cons_succ, List.getD_cons_zero]; (try refine quiet_wk ?_); (repeat go_big_quiet_step (fail)); refine wpQuiet_nil ?_)); unfold wpPlanR; intro X hbX; (try simp only [pickL, List.map_cons, List.map_nil, List.getD_cons_succ, List.getD_cons_zero])
      have m3 : X.heap[pb + 3]? = some (.cells #[.slice a9 L1.length c9, .int .i64 0, .bool s0, .bool s1, .bool s2, .int .i64 j, .int .u64 fr] 45 (0, 0)) := (hbX.block (pb + 3) (by simp only [World.size_setCell]; omega)).trans (store7_heap B3.out)
      have m2 : X.heap[pb + 2]? = some (.cells #[.int .i64 B, .slice sa S.length sc, .slice ta2 T2.length tc2] 34 (0, 0)) := (hbX.block (pb + 2) (by simp only [World.size_setCell]; have := heap_lt B2.out; omega)).trans ((store7_other (by omega)).trans B2.out)
      have ST5 : Hid (Owns X 146 3 (.slice a9 L1.length c9) L1.length (rowS L1)) := Lib.hid ((S3.out.keep fun g hg => store7_other (Owns.ne S3.out B3.out (by decide) g hg)).ext hbX)
      have TR5 : Hid (TrAt X ta2 tc2 T2) := Lib.hid (Owns.ext (Owns.keep T3.out fun g hg => store7_other (Owns.ne T3.out B3.out (by decide) g hg)) hbX)
      have EX5 : Hid (Ext w X) := Lib.hid ((ext7 X3.out (by omega)).trans hbX)
      clear hbX u0 u1 u2 u3 u4 u5 u6 uf ul
      have y0 := (heap_cell m2 0).trans rfl
      have y1 := (heap_cell m2 1).trans rfl
      have y2 := (heap_cell m2 2).trans rfl
      have u0 := (heap_cell m3 0).trans rfl
      have u1 := (heap_cell m3 1).trans rfl
      have u2 := (heap_cell m3 2).trans rfl
      have u3 := (heap_cell m3 3).trans rfl
      have u4 := (heap_cell m3 4).trans rfl
      have u5 := (heap_cell m3 5).trans rfl
      have u6 := (heap_cell m3 6).trans rfl
      have yl := heap_lt m2
      have ul := heap_lt m3
      clear m2 m3
      go_wp2
      (try rw [Exit.noGoto_ret])
      refine bodyPost_ret (by simp [results, Try.results17, go_sem, ↓IntWalk.iteOmega, *]; try rfl) rfl (by rw [← HE.out]; exact EndFrom.mk W1.out TQ.out TR5.out ST5.out EX5.out FRQ.out)
end Go.Proofs.Ytfaekfdngkpkdaa
/- The document's marks. -/
namespace Go.Proofs.Ytfaekfdngkpkdaa
set_option linter.unusedVariables false
set_option linter.unusedSimpArgs false
open Go.RowKit
attribute [local go_sem] wext_cell wext_frozen wext_heap alloc_cell alloc_frozen alloc_heap setCell_cell objCell_cells objFrozen_cells

def bitsD (df : Bool) : Int := if df then 96 else 32
/-- A memory of the document's as a value, its slots new. -/
def EndSet8 (B : Int) (M' : Int → Int) (n : Nat) (ta : Option Addr) (k tc : Nat) (w : World) (e : Ending) (w' : World) : Prop :=
  ∃ sa sc S', e = .returned (.agg #[.int .i64 B, .slice sa S'.length sc, .slice ta k tc]) ∧ SAt w' sa sc S' ∧ RefOk B S' M' ∧ S'.length ≤ n ∧ Ext w w'
theorem EndSet8.mk {B : Int} {M' : Int → Int} {n : Nat} {ta : Option Addr} {k tc : Nat} {w w' : World} {sa : Option Addr} {sc : Nat} {S' : List (Int × Int)} (h1 : SAt w' sa sc S') (h2 : RefOk B S' M') (h3 : S'.length ≤ n) (h4 : Ext w w') :
    EndSet8 B M' n ta k tc w (.returned (.agg #[.int .i64 B, .slice sa S'.length sc, .slice ta k tc])) w' := ⟨sa, sc, S', rfl, h1, h2, h3, h4⟩
theorem markS_keep {B : Int} {M : Int → Int} {a : Int} {df : Bool} (he : errM B a = 0) (h : (if df then orD (M (a / 8)) else orA (M (a / 8))) = M (a / 8)) : markS B M a df = M := by
  unfold markS; rw [if_pos he, h]; exact setM_self M (a / 8)

set_option maxHeartbeats 1000000 in
set_option maxRecDepth 20000 in
theorem rMset_c (B : Int) (hB : 14 ≤ B ∧ B ≤ 22) (sa ta : Option Addr) (S : List (Int × Int)) (M : Int → Int) (k sc tc : Nat) (a : Int) (df : Bool) (w : World) (hS : SAt w sa sc S) (hok : RefOk B S M) (hl : S.length ≤ 999999) (h0 : 0 ≤ a) (h1 : a ≤ 18446744073709551615) (he : errM B a = 0) :
    Calls Try.prog 79 #[.agg #[.int .i64 B, .slice sa S.length sc, .slice ta k tc], .int .u64 a, .int .u64 (bitsD df)] w (EndSet8 B (markS B M a df) (S.length + 1) ta k tc w) := by
  have HS := Lib.hid hS
  have hp := fun w h => rPeek_c B hB sa ta S sc k tc a w h (by omega) h0 h1
  rw [if_pos he, he, hok.agree a h0 he] at hp
  have ⟨x0, x1⟩ := hok.wide (a / 8)
  obtain ⟨x, hx⟩ : ∃ x, M (a / 8) = x := ⟨_, rfl⟩
  rw [hx] at hp x0 x1
  have HP := Lib.hid hp
  generalize hE : EndSet8 B (markS B M a df) (S.length + 1) ta k tc w = E
  have HE := Lib.hid hE
  clear hE hp hS
  cases df
  · have hand := and32 x0 x1
    have hor := or32 x0 x1
    have hle := orA_le x0 x1
    by_cases hx9 : x / 32 % 2 = 1
    · have hxe : (x / 32 % 2 * 32 == 32) = true := by rw [hx9]; rfl
      have HOK : Hid (RefOk B S (markS B M a false)) := Lib.hid (by rw [markS_keep he (by simp only [reduceIte, Bool.false_eq_true]; rw [hx]; unfold orA; omega)]; exact hok)
      clear hx9 hor hle hx he hok
      simp only [bitsD, if_true, if_false, reduceIte, Bool.false_eq_true]
      go_enter Try.func79, Try.ntmps79
      go_wp2_with (first | (go_at_call 109; refine (HP.out _ (HS.out.ext (by repeat (first | exact Ext.refl _ | assumption | refine Ext.alloc ?_ _ | refine Ext.drew ?_ | refine Ext.setCell ?_ (by first | (simp; done) | (dsimp only; omega)) _ | refine Ext.trans ?_ (by assumption))))).mono ?_; rintro e w1 ⟨rfl, hb1⟩; have B0 := (hb1.block w.heap.size (by simp; omega)).trans ((alloc_other _ _ (by simp)).trans (alloc_same ..)); have B1 := (hb1.block (w.heap.size + 1) (by simp)).trans (alloc_same1 ..); have p0 := (heap_cell B0 0).trans rfl; have p1 := (heap_cell B0 1).trans rfl; have p2 := (heap_cell B0 2).trans rfl; have r0 := (heap_cell B1 0).trans rfl; have r1 := (heap_cell B1 1).trans rfl; have r2 := (heap_cell B1 2).trans rfl; have rf := frozen_of B1; have rl := heap_lt B1; have bl := heap_lt B0; have E1 : Ext w w1 := Ext.trans (by repeat (first | exact Ext.refl _ | assumption | refine Ext.alloc ?_ _ | refine Ext.drew ?_ | refine Ext.setCell ?_ (by first | (simp; done) | (dsimp only; omega)) _ | refine Ext.trans ?_ (by assumption))) hb1; have BB := Lib.hid B1; have EE := Lib.hid E1; clear B0 B1 E1 hb1))
      refine post_gen (fun U => U.heap[w.heap.size + 1]? = some (.cells #[.int .i64 B, .slice sa S.length sc, .slice ta k tc] 34 (0, 0)) ∧ SAt U sa sc S ∧ Ext w U) ⟨store3_heap BB.out, Owns.keep (HS.out.ext EE.out) fun g hg => store3_other (Owns.ne (HS.out.ext EE.out) BB.out (by decide) g hg), ext3 EE.out (by omega)⟩ ?_
      clear p0 p1 p2 r0 r1 r2 rf rl bl
      rintro U ⟨m3, s3, e3⟩
      have v0 := (heap_cell m3 0).trans rfl
      have v1 := (heap_cell m3 1).trans rfl
      have v2 := (heap_cell m3 2).trans rfl
      have HE3 := Lib.hid e3
      have HS3 := Lib.hid s3
      clear m3 e3 s3
      refine bodyPost_ret (by simp [results, Try.results79, go_sem, ↓IntWalk.iteOmega, *]; try rfl) rfl (by rw [← HE.out]; exact EndSet8.mk HS3.out HOK.out (by omega) HE3.out)
    · have hxe : (x / 32 % 2 * 32 == 32) = false := by rw [beq_eq_false_iff_ne]; omega
      obtain ⟨S', hS'⟩ : ∃ S', setL a (orA x) false S = S' := ⟨_, rfl⟩
      have HOK : Hid (RefOk B S' (markS B M a false)) := Lib.hid (by
        have := hok.set h0 he hle.1 hle.2
        rw [hS'] at this
        unfold markS
        rw [if_pos he]
        simp only [reduceIte, Bool.false_eq_true]
        rw [hx]; exact this)
      have HLE : Hid (S'.length ≤ S.length + 1) := Lib.hid (by rw [← hS']; exact set_length a (orA x) S false)
      have hst := fun w h => rStore_c B hB sa ta S k sc tc a (orA x) w h (by omega) h0 h1 he
      rw [hS'] at hst
      have HST := Lib.hid hst
      clear hx9 hx he hok hS' hst
      generalize orA x = y at HST hor hle
      simp only [bitsD, if_true, if_false, reduceIte, Bool.false_eq_true]
      go_enter Try.func79, Try.ntmps79
      go_wp2_with (first | (go_at_call 109; refine (HP.out _ (HS.out.ext (by repeat (first | exact Ext.refl _ | assumption | refine Ext.alloc ?_ _ | refine Ext.drew ?_ | refine Ext.setCell ?_ (by first | (simp; done) | (dsimp only; omega)) _ | refine Ext.trans ?_ (by assumption))))).mono ?_; rintro e w1 ⟨rfl, hb1⟩; have B0 := (hb1.block w.heap.size (by simp; omega)).trans ((alloc_other _ _ (by simp)).trans (alloc_same ..)); have B1 := (hb1.block (w.heap.size + 1) (by simp)).trans (alloc_same1 ..); have p0 := (heap_cell B0 0).trans rfl; have p1 := (heap_cell B0 1).trans rfl; have p2 := (heap_cell B0 2).trans rfl; have bl := heap_lt B0; have E1 : Ext w w1 := Ext.trans (by repeat (first | exact Ext.refl _ | assumption | refine Ext.alloc ?_ _ | refine Ext.drew ?_ | refine Ext.setCell ?_ (by first | (simp; done) | (dsimp only; omega)) _ | refine Ext.trans ?_ (by assumption))) hb1; have BB := Lib.hid B1; have EE := Lib.hid E1; clear B0 B1 E1 hb1) | (go_at_call 60; refine (HST.out _ (HS.out.ext (EE.out.trans (by repeat (first | exact Ext.refl _ | assumption | refine Ext.alloc ?_ _ | refine Ext.drew ?_ | refine Ext.setCell ?_ (by first | (simp; done) | (dsimp only; omega)) _ | refine Ext.trans ?_ (by assumption)))))).mono ?_; rintro e w2 ⟨sa2, sc2, rfl, hs2, hb2⟩; have B1 := (hb2.block (w.heap.size + 1) (heap_lt BB.out)).trans BB.out; have r0 := (heap_cell B1 0).trans rfl; have r1 := (heap_cell B1 1).trans rfl; have r2 := (heap_cell B1 2).trans rfl; have rf := frozen_of B1; have rl := heap_lt B1; have BB2 := Lib.hid B1; have EE2 := Lib.hid (EE.out.trans hb2); have SS2 := Lib.hid hs2; clear B1 hb2 hs2))
      refine post_gen (fun U => U.heap[w.heap.size + 1]? = some (.cells #[.int .i64 B, .slice sa2 S'.length sc2, .slice ta k tc] 34 (0, 0)) ∧ SAt U sa2 sc2 S' ∧ Ext w U) ⟨?_, ?_, ?_⟩ ?_
      · exact (alloc_other _ _ (by simp only [World.size_setCell]; exact heap_lt BB2.out)).trans (store3_heap BB2.out)
      · exact SAt.ext (Owns.keep SS2.out fun g hg => store3_other (Owns.ne SS2.out BB2.out (by decide) g hg)) ((Ext.refl _).alloc _)
      · exact (ext3 EE2.out (by omega)).alloc _
      clear p0 p1 p2 r0 r1 r2 rf rl bl
      rintro U ⟨m3, s3, e3⟩
      have v0 := (heap_cell m3 0).trans rfl
      have v1 := (heap_cell m3 1).trans rfl
      have v2 := (heap_cell m3 2).trans rfl
      have HE3 := Lib.hid e3
      have HS3 := Lib.hid s3
      clear m3 e3 s3
      refine bodyPost_ret (by simp [results, Try.results79, go_sem, ↓IntWalk.iteOmega, *]; try rfl) rfl (by rw [← HE.out]; exact EndSet8.mk HS3.out HOK.out HLE.out HE3.out)
  · have hand := and96 x0 x1
    have hor := or96 x0 x1
    have hle := orD_le x0 x1
    by_cases hx9 : x / 32 % 4 = 3
    · have hxe : (x / 32 % 4 * 32 == 96) = true := by rw [hx9]; rfl
      have HOK : Hid (RefOk B S (markS B M a true)) := Lib.hid (by rw [markS_keep he (by simp only [reduceIte, Bool.false_eq_true]; rw [hx]; unfold orD; omega)]; exact hok)
      clear hx9 hor hle hx he hok
      simp only [bitsD, if_true, if_false, reduceIte, Bool.false_eq_true]
      go_enter Try.func79, Try.ntmps79
      go_wp2_with (first | (go_at_call 109; refine (HP.out _ (HS.out.ext (by repeat (first | exact Ext.refl _ | assumption | refine Ext.alloc ?_ _ | refine Ext.drew ?_ | refine Ext.setCell ?_ (by first | (simp; done) | (dsimp only; omega)) _ | refine Ext.trans ?_ (by assumption))))).mono ?_; rintro e w1 ⟨rfl, hb1⟩; have B0 := (hb1.block w.heap.size (by simp; omega)).trans ((alloc_other _ _ (by simp)).trans (alloc_same ..)); have B1 := (hb1.block (w.heap.size + 1) (by simp)).trans (alloc_same1 ..); have p0 := (heap_cell B0 0).trans rfl; have p1 := (heap_cell B0 1).trans rfl; have p2 := (heap_cell B0 2).trans rfl; have r0 := (heap_cell B1 0).trans rfl; have r1 := (heap_cell B1 1).trans rfl; have r2 := (heap_cell B1 2).trans rfl; have rf := frozen_of B1; have rl := heap_lt B1; have bl := heap_lt B0; have E1 : Ext w w1 := Ext.trans (by repeat (first | exact Ext.refl _ | assumption | refine Ext.alloc ?_ _ | refine Ext.drew ?_ | refine Ext.setCell ?_ (by first | (simp; done) | (dsimp only; omega)) _ | refine Ext.trans ?_ (by assumption))) hb1; have BB := Lib.hid B1; have EE := Lib.hid E1; clear B0 B1 E1 hb1))
      refine post_gen (fun U => U.heap[w.heap.size + 1]? = some (.cells #[.int .i64 B, .slice sa S.length sc, .slice ta k tc] 34 (0, 0)) ∧ SAt U sa sc S ∧ Ext w U) ⟨store3_heap BB.out, Owns.keep (HS.out.ext EE.out) fun g hg => store3_other (Owns.ne (HS.out.ext EE.out) BB.out (by decide) g hg), ext3 EE.out (by omega)⟩ ?_
      clear p0 p1 p2 r0 r1 r2 rf rl bl
      rintro U ⟨m3, s3, e3⟩
      have v0 := (heap_cell m3 0).trans rfl
      have v1 := (heap_cell m3 1).trans rfl
      have v2 := (heap_cell m3 2).trans rfl
      have HE3 := Lib.hid e3
      have HS3 := Lib.hid s3
      clear m3 e3 s3
      refine bodyPost_ret (by simp [results, Try.results79, go_sem, ↓IntWalk.iteOmega, *]; try rfl) rfl (by rw [← HE.out]; exact EndSet8.mk HS3.out HOK.out (by omega) HE3.out)
    · have hxe : (x / 32 % 4 * 32 == 96) = false := by rw [beq_eq_false_iff_ne]; omega
      obtain ⟨S', hS'⟩ : ∃ S', setL a (orD x) false S = S' := ⟨_, rfl⟩
      have HOK : Hid (RefOk B S' (markS B M a true)) := Lib.hid (by
        have := hok.set h0 he hle.1 hle.2
        rw [hS'] at this
        unfold markS
        rw [if_pos he]
        simp only [reduceIte, Bool.false_eq_true]
        rw [hx]; exact this)
      have HLE : Hid (S'.length ≤ S.length + 1) := Lib.hid (by rw [← hS']; exact set_length a (orD x) S false)
      have hst := fun w h => rStore_c B hB sa ta S k sc tc a (orD x) w h (by omega) h0 h1 he
      rw [hS'] at hst
      have HST := Lib.hid hst
      clear hx9 hx he hok hS' hst
      generalize orD x = y at HST hor hle
      simp only [bitsD, if_true, if_false, reduceIte, Bool.false_eq_true]
      go_enter Try.func79, Try.ntmps79
      go_wp2_with (first | (go_at_call 109; refine (HP.out _ (HS.out.ext (by repeat (first | exact Ext.refl _ | assumption | refine Ext.alloc ?_ _ | refine Ext.drew ?_ | refine Ext.setCell ?_ (by first | (simp; done) | (dsimp only; omega)) _ | refine Ext.trans ?_ (by assumption))))).mono ?_; rintro e w1 ⟨rfl, hb1⟩; have B0 := (hb1.block w.heap.size (by simp; omega)).trans ((alloc_other _ _ (by simp)).trans (alloc_same ..)); have B1 := (hb1.block (w.heap.size + 1) (by simp)).trans (alloc_same1 ..); have p0 := (heap_cell B0 0).trans rfl; have p1 := (heap_cell B0 1).trans rfl; have p2 := (heap_cell B0 2).trans rfl; have bl := heap_lt B0; have E1 : Ext w w1 := Ext.trans (by repeat (first | exact Ext.refl _ | assumption | refine Ext.alloc ?_ _ | refine Ext.drew ?_ | refine Ext.setCell ?_ (by first | (simp; done) | (dsimp only; omega)) _ | refine Ext.trans ?_ (by assumption))) hb1; have BB := Lib.hid B1; have EE := Lib.hid E1; clear B0 B1 E1 hb1) | (go_at_call 60; refine (HST.out _ (HS.out.ext (EE.out.trans (by repeat (first | exact Ext.refl _ | assumption | refine Ext.alloc ?_ _ | refine Ext.drew ?_ | refine Ext.setCell ?_ (by first | (simp; done) | (dsimp only; omega)) _ | refine Ext.trans ?_ (by assumption)))))).mono ?_; rintro e w2 ⟨sa2, sc2, rfl, hs2, hb2⟩; have B1 := (hb2.block (w.heap.size + 1) (heap_lt BB.out)).trans BB.out; have r0 := (heap_cell B1 0).trans rfl; have r1 := (heap_cell B1 1).trans rfl; have r2 := (heap_cell B1 2).trans rfl; have rf := frozen_of B1; have rl := heap_lt B1; have BB2 := Lib.hid B1; have EE2 := Lib.hid (EE.out.trans hb2); have SS2 := Lib.hid hs2; clear B1 hb2 hs2))
      refine post_gen (fun U => U.heap[w.heap.size + 1]? = some (.cells #[.int .i64 B, .slice sa2 S'.length sc2, .slice ta k tc] 34 (0, 0)) ∧ SAt U sa2 sc2 S' ∧ Ext w U) ⟨?_, ?_, ?_⟩ ?_
      · exact (alloc_other _ _ (by simp only [World.size_setCell]; exact heap_lt BB2.out)).trans (store3_heap BB2.out)
      · exact SAt.ext (Owns.keep SS2.out fun g hg => store3_other (Owns.ne SS2.out BB2.out (by decide) g hg)) ((Ext.refl _).alloc _)
      · exact (ext3 EE2.out (by omega)).alloc _
      clear p0 p1 p2 r0 r1 r2 rf rl bl
      rintro U ⟨m3, s3, e3⟩
      have v0 := (heap_cell m3 0).trans rfl
      have v1 := (heap_cell m3 1).trans rfl
      have v2 := (heap_cell m3 2).trans rfl
      have HE3 := Lib.hid e3
      have HS3 := Lib.hid s3
      clear m3 e3 s3
      refine bodyPost_ret (by simp [results, Try.results79, go_sem, ↓IntWalk.iteOmega, *]; try rfl) rfl (by rw [← HE.out]; exact EndSet8.mk HS3.out HOK.out HLE.out HE3.out)

set_option maxHeartbeats 4000000 in
set_option maxRecDepth 20000 in
theorem rMark_c (B : Int) (hB : 14 ≤ B ∧ B ≤ 22) (sa ta pa : Option Addr) (S : List (Int × Int)) (M : Int → Int) (k sc tc pc : Nat) (L : List Stp) (why : Int) (rr : Rt) (lv fr : Int) (dirty : Bool) (w : World) (hS : SAt w sa sc S) (hok : RefOk B S M) (hP : StepsAt w pa L) (hl : S.length + L.length ≤ 999999) (hL : L.length ≤ 1000)
    (hs : ∀ i, i < L.length → 0 ≤ (stpAt L i).2.1 ∧ (stpAt L i).2.1 ≤ 18446744073709551615 ∧ errM B (stpAt L i).2.1 = 0) :
    Calls Try.prog 22 #[.agg #[.int .i64 B, .slice sa S.length sc, .slice ta k tc], .agg #[.slice pa L.length pc, .int .i64 why, .bool rr.1, .bool rr.2.1, .bool rr.2.2, .int .i64 lv, .int .u64 fr], .bool dirty] w
      (EndSet8 B (markL B (dirty && why == 0) L M) (S.length + L.length) ta k tc w) := by
  have HS := Lib.hid hS
  have HP := Lib.hid hP
  have HSt := Lib.hid hs
  have HOk := Lib.hid hok
  have HB := Lib.hid hB
  generalize hE : EndSet8 B (markL B (dirty && why == 0) L M) (S.length + L.length) ta k tc w = E
  have HE := Lib.hid hE
  obtain ⟨b0, b1, b2⟩ := rr
  clear hE hS hP hs hok hB
  go_enter Try.func22, Try.ntmps22
  go_wp2
  refine wp_gen ?_; intro V hV
  have hVE : Ext w V := by rw [hV]; exact (by repeat (first | exact Ext.refl _ | assumption | refine Ext.alloc ?_ _ | refine Ext.drew ?_ | refine Ext.setCell ?_ (by first | (simp; done) | (dsimp only; omega)) _ | refine Ext.trans ?_ (by assumption)))
  have hV0 : V.heap[w.heap.size]? = some (.cells #[.int .i64 B, .slice sa S.length sc, .slice ta k tc] 34 (0, 0)) := by
    rw [hV]; exact (alloc_other _ _ (by first | (simp; done) | (simp; omega))).trans ((alloc_other _ _ (by simp)).trans (alloc_same ..))
  have hV1 : V.heap[w.heap.size + 1]? = some (.cells #[.slice pa L.length pc, .int .i64 why, .bool b0, .bool b1, .bool b2, .int .i64 lv, .int .u64 fr] 45 (0, 0)) := by
    rw [hV]; exact (alloc_other _ _ (by simp)).trans (alloc_same1 ..)
  have hV2 : V.heap[w.heap.size + 1 + 1]? = some (.cells #[.int .i64 0, .slice none 0 0, .slice none 0 0] 34 (0, 0)) := by
    rw [hV]; exact alloc_same2 ..
  obtain ⟨vb, hvb⟩ : ∃ vb, w.heap.size = vb := ⟨_, rfl⟩
  rw [hvb] at hV0 hV1 hV2 ⊢
  have hwv : w.heap.size ≤ vb := by omega
  have VE := Lib.hid hVE
  have V0 := Lib.hid hV0
  have V1 := Lib.hid hV1
  have V2 := Lib.hid hV2
  clear hV hVE hV0 hV1 hV2 hvb
  go_loopw [7] (fun iv wr => ∃ (i : Nat) (S' : List (Int × Int)) (M' : Int → Int) (sa' : Option Addr) (sc' : Nat), i ≤ L.length ∧ iv = .int .i64 i ∧ S'.length ≤ S.length + i ∧ Hid (wr.heap[vb]? = some (.cells #[.int .i64 B, .slice sa' S'.length sc', .slice ta k tc] 34 (0, 0)) ∧
    wr.heap[vb + 1]? = some (.cells #[.slice pa L.length pc, .int .i64 why, .bool b0, .bool b1, .bool b2, .int .i64 lv, .int .u64 fr] 45 (0, 0)) ∧ wr.heap[vb + 1 + 1]? = some (.cells #[.int .i64 0, .slice none 0 0, .slice none 0 0] 34 (0, 0)) ∧
    SAt wr sa' sc' S' ∧ RefOk B S' M' ∧ markL B (dirty && why == 0) (L.drop i) M' = markL B (dirty && why == 0) L M ∧ Ext w wr)) (fun iv _ => L.length - (intOf iv).toNat)
  case atStart => exact ⟨0, S, M, sa, sc, by omega, rfl, by omega, Lib.hid ⟨V0.out, V1.out, V2.out, HS.out.ext VE.out, HOk.out, by simp, VE.out⟩⟩
  case round =>
    obtain ⟨i, S', M', sa', sc', hi, rfl, hSl, hR⟩ := hrel
    have c0 := (heap_cell hR.out.2.1 0).trans rfl
    have c1 := (heap_cell hR.out.2.1 1).trans rfl
    have cl := heap_lt hR.out.2.1
    by_cases hlt : i < L.length
    · obtain ⟨g, o, hpa, hgl, s0, s1, s2⟩ := (HP.out.ext hR.out.2.2.2.2.2.2) i hlt
      subst hpa
      obtain ⟨t0, t1, te⟩ := HSt.out i hlt
      have hst := markL_drop B (dirty && why == 0) L i hlt M'
      generalize stpAt L i = sj at s0 s1 s2 t0 t1 te hst
      obtain ⟨lj, aj, xj⟩ := sj
      dsimp only at s0 s1 s2 t0 t1 te hst
      have hdf : ((dirty && why == 0) && decide (i + 1 = L.length)) = ((((i : Int) == (L.length : Int) - 1) && dirty) && why == 0) := by
        have : decide (i + 1 = L.length) = ((i : Int) == (L.length : Int) - 1) := by rw [Bool.eq_iff_iff]; simp; omega
        rw [this]; cases dirty <;> cases (why == 0) <;> cases ((i : Int) == (L.length : Int) - 1) <;> rfl
      rw [hdf] at hst
      have HMs := Lib.hid (fun (df : Bool) w (h : SAt w sa' sc' S') => rMset_c B HB.out sa' ta S' M' k sc' tc aj df w h hR.out.2.2.2.2.1 (by omega) t0 t1 te)
      have d0 := (heap_cell hR.out.1 0).trans rfl
      have d1 := (heap_cell hR.out.1 1).trans rfl
      have d2 := (heap_cell hR.out.1 2).trans rfl
      have dl := heap_lt hR.out.1
      have hpath : ∀ df : Bool, ((((i : Int) == (L.length : Int) - 1) && dirty) && why == 0) = df → ∃ hq : True, True := fun _ _ => ⟨trivial, trivial⟩
      clear hpath hdf te
      have HST := Lib.hid hst
      clear hst
      by_cases hlast : i + 1 = L.length
      · have hlb : ((i : Int) == (L.length : Int) - 1) = true := by rw [beq_iff_eq]; omega
        clear hlast
        cases dirty
        · have HDf : Hid (((((i : Int) == (L.length : Int) - 1) && false) && why == 0) = false) := Lib.hid (by simp)
          have HMf := Lib.hid (HMs.out false)
          rw [show bitsD false = 32 from rfl] at HMf
          go_upto_region 7 with (fail)
          refine region_mix [.q [0, 1, 2, 3, 4, 5, 6, 7], .l 8 3, .l 9 2] (by kernel_rfl) (by kernel_rfl) ?_
          (try refine ⟨fun h => absurd h (by simp), ?_⟩); (repeat (unfold wpPlan; simp only [pickL, List.map_cons, List.map_nil, List.getD_cons_succ, List.getD_cons_zero]; (repeat go_big_quiet_step (fail)); refine wpQuiet_nil ?_)); unfold wpPlan; intro w1 hb1; (try simp only [pickL, List.map_cons, List.map_nil, List.getD_cons_succ, List.getD_cons_zero])
          have HB1 := Lib.hid hb1
          clear hb1
          go_wp2_with (first | (go_at_call 79; refine (HMf.out _ (hR.out.2.2.2.1.ext (HB1.out.trans (by repeat (first | exact Ext.refl _ | assumption | refine Ext.alloc ?_ _ | refine Ext.drew ?_ | refine Ext.setCell ?_ (by first | (simp; done) | (dsimp only; omega)) _ | refine Ext.trans ?_ (by assumption)))))).mono ?_; rintro e w2 ⟨sa2, sc2, S2, rfl, hs2, hok2, hle2, hb2⟩))
          refine ⟨fun _ => HB1.out.trans (Ext.trans (by repeat (first | exact Ext.refl _ | assumption | refine Ext.alloc ?_ _ | refine Ext.drew ?_ | refine Ext.setCell ?_ (by first | (simp; done) | (dsimp only; omega)) _ | refine Ext.trans ?_ (by assumption))) hb2), ?_⟩
          (try refine ⟨fun h => absurd h (by simp), ?_⟩); (repeat (unfold wpPlan; simp only [pickL, List.map_cons, List.map_nil, List.getD_cons_succ, List.getD_cons_zero]; (repeat go_big_quiet_step (fail)); refine wpQuiet_nil ?_)); unfold wpPlan; intro w3 hb3; (try simp only [pickL, List.map_cons, List.map_nil, List.getD_cons_succ, List.getD_cons_zero])
          have hE3 : Ext wr w3 := (HB1.out.trans (Ext.trans (by repeat (first | exact Ext.refl _ | assumption | refine Ext.alloc ?_ _ | refine Ext.drew ?_ | refine Ext.setCell ?_ (by first | (simp; done) | (dsimp only; omega)) _ | refine Ext.trans ?_ (by assumption))) hb2)).trans hb3
          have z0 := (hE3.block _ (heap_lt hR.out.1)).trans hR.out.1
          have z1 := (hE3.block _ (heap_lt hR.out.2.1)).trans hR.out.2.1
          have z2 := (hE3.block _ (heap_lt hR.out.2.2.1)).trans hR.out.2.2.1
          have zs := SAt.ext hs2 hb3
          have Z0 := Lib.hid z0
          have Z1 := Lib.hid z1
          have Z2 := Lib.hid z2
          have ZS := Lib.hid zs
          have ZE := Lib.hid (hR.out.2.2.2.2.2.2.trans hE3)
          have ZO := Lib.hid hok2
          clear hb2 hb3 hE3 z1 z2 zs hs2 hok2 c0 c1 d0 d1 d2 s0 s1 s2
          have d0 := (heap_cell z0 0).trans rfl
          have d1 := (heap_cell z0 1).trans rfl
          have d2 := (heap_cell z0 2).trans rfl
          have df := frozen_of z0
          have dl := heap_lt z0
          clear z0
          go_wp2
          (try refine ⟨fun h => absurd h (by simp), ?_⟩); (repeat (unfold wpPlan; simp only [pickL, List.map_cons, List.map_nil, List.getD_cons_succ, List.getD_cons_zero]; (repeat go_big_quiet_step (fail)); refine wpQuiet_nil ?_)); unfold wpPlan; intro w4 hb4; (try simp only [pickL, List.map_cons, List.map_nil, List.getD_cons_succ, List.getD_cons_zero])
          have HB4 := Lib.hid hb4
          clear hb4 d0 d1 d2 df
          go_wp2
          refine ⟨⟨i + 1, S2, markS B M' aj false, sa2, sc2, by omega, by go_num, by omega, Lib.hid ⟨?_, ?_, ?_, ?_, ZO.out, ?_, ?_⟩⟩, by simp [intOf]; omega⟩
          · exact (HB4.out.block _ (by simp only [World.size_setCell]; exact heap_lt Z0.out)).trans (store3_heap Z0.out)
          · exact (HB4.out.block _ (by simp only [World.size_setCell]; exact heap_lt Z1.out)).trans ((store3_other (by omega)).trans Z1.out)
          · exact (HB4.out.block _ (by simp only [World.size_setCell]; exact heap_lt Z2.out)).trans ((store3_other (by omega)).trans Z2.out)
          · exact SAt.ext (Owns.keep ZS.out fun g hg => store3_other (Owns.ne ZS.out Z0.out (by decide) g hg)) HB4.out
          · have := HST.out
            rw [HDf.out] at this
            rw [← hR.out.2.2.2.2.2.1, this]
          · exact (ext3 ZE.out (by omega)).trans HB4.out
        · by_cases hw : why = 0
          · have hwb : (why == 0) = true := by simpa using hw
            have HDf : Hid (((((i : Int) == (L.length : Int) - 1) && true) && why == 0) = true) := Lib.hid (by rw [hlb, hwb]; rfl)
            have HMf := Lib.hid (HMs.out true)
            rw [show bitsD true = 96 from rfl] at HMf
            clear hw
            go_upto_region 7 with (fail)
            refine region_mix [.q [0, 1, 2, 3, 4, 5, 6, 7], .l 8 3, .l 9 2] (by kernel_rfl) (by kernel_rfl) ?_
            (try refine ⟨fun h => absurd h (by simp), ?_⟩); (repeat (unfold wpPlan; simp only [pickL, List.map_cons, List.map_nil, List.getD_cons_succ, List.getD_cons_zero]; (repeat go_big_quiet_step (fail)); refine wpQuiet_nil ?_)); unfold wpPlan; intro w1 hb1; (try simp only [pickL, List.map_cons, List.map_nil, List.getD_cons_succ, List.getD_cons_zero])
            have HB1 := Lib.hid hb1
            clear hb1
            go_wp2_with (first | (go_at_call 79; refine (HMf.out _ (hR.out.2.2.2.1.ext (HB1.out.trans (by repeat (first | exact Ext.refl _ | assumption | refine Ext.alloc ?_ _ | refine Ext.drew ?_ | refine Ext.setCell ?_ (by first | (simp; done) | (dsimp only; omega)) _ | refine Ext.trans ?_ (by assumption)))))).mono ?_; rintro e w2 ⟨sa2, sc2, S2, rfl, hs2, hok2, hle2, hb2⟩))
            refine ⟨fun _ => HB1.out.trans (Ext.trans (by repeat (first | exact Ext.refl _ | assumption | refine Ext.alloc ?_ _ | refine Ext.drew ?_ | refine Ext.setCell ?_ (by first | (simp; done) | (dsimp only; omega)) _ | refine Ext.trans ?_ (by assumption))) hb2), ?_⟩
            (try refine ⟨fun h => absurd h (by simp), ?_⟩); (repeat (unfold wpPlan; simp only [pickL, List.map_cons, List.map_nil, List.getD_cons_succ, List.getD_cons_zero]; (repeat go_big_quiet_step (fail)); refine wpQuiet_nil ?_)); unfold wpPlan; intro w3 hb3; (try simp only [pickL, List.map_cons, List.map_nil, List.getD_cons_succ, List.getD_cons_zero])
            have hE3 : Ext wr w3 := (HB1.out.trans (Ext.trans (by repeat (first | exact Ext.refl _ | assumption | refine Ext.alloc ?_ _ | refine Ext.drew ?_ | refine Ext.setCell ?_ (by first | (simp; done) | (dsimp only; omega)) _ | refine Ext.trans ?_ (by assumption))) hb2)).trans hb3
            have z0 := (hE3.block _ (heap_lt hR.out.1)).trans hR.out.1
            have z1 := (hE3.block _ (heap_lt hR.out.2.1)).trans hR.out.2.1
            have z2 := (hE3.block _ (heap_lt hR.out.2.2.1)).trans hR.out.2.2.1
            have zs := SAt.ext hs2 hb3
            have Z0 := Lib.hid z0
            have Z1 := Lib.hid z1
            have Z2 := Lib.hid z2
            have ZS := Lib.hid zs
            have ZE := Lib.hid (hR.out.2.2.2.2.2.2.trans hE3)
            have ZO := Lib.hid hok2
            clear hb2 hb3 hE3 z1 z2 zs hs2 hok2 c0 c1 d0 d1 d2 s0 s1 s2
            have d0 := (heap_cell z0 0).trans rfl
            have d1 := (heap_cell z0 1).trans rfl
            have d2 := (heap_cell z0 2).trans rfl
            have df := frozen_of z0
            have dl := heap_lt z0
            clear z0
            go_wp2
            (try refine ⟨fun h => absurd h (by simp), ?_⟩); (repeat (unfold wpPlan; simp only [pickL, List.map_cons, List.map_nil, List.getD_cons_succ, List.getD_cons_zero]; (repeat go_big_quiet_step (fail)); refine wpQuiet_nil ?_)); unfold wpPlan; intro w4 hb4; (try simp only [pickL, List.map_cons, List.map_nil, List.getD_cons_succ, List.getD_cons_zero])
            have HB4 := Lib.hid hb4
            clear hb4 d0 d1 d2 df
            go_wp2
            refine ⟨⟨i + 1, S2, markS B M' aj true, sa2, sc2, by omega, by go_num, by omega, Lib.hid ⟨?_, ?_, ?_, ?_, ZO.out, ?_, ?_⟩⟩, by simp [intOf]; omega⟩
            · exact (HB4.out.block _ (by simp only [World.size_setCell]; exact heap_lt Z0.out)).trans (store3_heap Z0.out)
            · exact (HB4.out.block _ (by simp only [World.size_setCell]; exact heap_lt Z1.out)).trans ((store3_other (by omega)).trans Z1.out)
            · exact (HB4.out.block _ (by simp only [World.size_setCell]; exact heap_lt Z2.out)).trans ((store3_other (by omega)).trans Z2.out)
            · exact SAt.ext (Owns.keep ZS.out fun g hg => store3_other (Owns.ne ZS.out Z0.out (by decide) g hg)) HB4.out
            · have := HST.out
              rw [HDf.out] at this
              rw [← hR.out.2.2.2.2.2.1, this]
            · exact (ext3 ZE.out (by omega)).trans HB4.out
          · have hwb : (why == 0) = false := by simpa using hw
            have HDf : Hid (((((i : Int) == (L.length : Int) - 1) && true) && why == 0) = false) := Lib.hid (by rw [hwb]; simp)
            have HMf := Lib.hid (HMs.out false)
            rw [show bitsD false = 32 from rfl] at HMf
            clear hw
            go_upto_region 7 with (fail)
            refine region_mix [.q [0, 1, 2, 3, 4, 5, 6, 7], .l 8 3, .l 9 2] (by kernel_rfl) (by kernel_rfl) ?_
            (try refine ⟨fun h => absurd h (by simp), ?_⟩); (repeat (unfold wpPlan; simp only [pickL, List.map_cons, List.map_nil, List.getD_cons_succ, List.getD_cons_zero]; (repeat go_big_quiet_step (fail)); refine wpQuiet_nil ?_)); unfold wpPlan; intro w1 hb1; (try simp only [pickL, List.map_cons, List.map_nil, List.getD_cons_succ, List.getD_cons_zero])
            have HB1 := Lib.hid hb1
            clear hb1
            go_wp2_with (first | (go_at_call 79; refine (HMf.out _ (hR.out.2.2.2.1.ext (HB1.out.trans (by repeat (first | exact Ext.refl _ | assumption | refine Ext.alloc ?_ _ | refine Ext.drew ?_ | refine Ext.setCell ?_ (by first | (simp; done) | (dsimp only; omega)) _ | refine Ext.trans ?_ (by assumption)))))).mono ?_; rintro e w2 ⟨sa2, sc2, S2, rfl, hs2, hok2, hle2, hb2⟩))
            refine ⟨fun _ => HB1.out.trans (Ext.trans (by repeat (first | exact Ext.refl _ | assumption | refine Ext.alloc ?_ _ | refine Ext.drew ?_ | refine Ext.setCell ?_ (by first | (simp; done) | (dsimp only; omega)) _ | refine Ext.trans ?_ (by assumption))) hb2), ?_⟩
            (try refine ⟨fun h => absurd h (by simp), ?_⟩); (repeat (unfold wpPlan; simp only [pickL, List.map_cons, List.map_nil, List.getD_cons_succ, List.getD_cons_zero]; (repeat go_big_quiet_step (fail)); refine wpQuiet_nil ?_)); unfold wpPlan; intro w3 hb3; (try simp only [pickL, List.map_cons, List.map_nil, List.getD_cons_succ, List.getD_cons_zero])
            have hE3 : Ext wr w3 := (HB1.out.trans (Ext.trans (by repeat (first | exact Ext.refl _ | assumption | refine Ext.alloc ?_ _ | refine Ext.drew ?_ | refine Ext.setCell ?_ (by first | (simp; done) | (dsimp only; omega)) _ | refine Ext.trans ?_ (by assumption))) hb2)).trans hb3
            have z0 := (hE3.block _ (heap_lt hR.out.1)).trans hR.out.1
            have z1 := (hE3.block _ (heap_lt hR.out.2.1)).trans hR.out.2.1
            have z2 := (hE3.block _ (heap_lt hR.out.2.2.1)).trans hR.out.2.2.1
            have zs := SAt.ext hs2 hb3
            have Z0 := Lib.hid z0
            have Z1 := Lib.hid z1
            have Z2 := Lib.hid z2
            have ZS := Lib.hid zs
            have ZE := Lib.hid (hR.out.2.2.2.2.2.2.trans hE3)
            have ZO := Lib.hid hok2
            clear hb2 hb3 hE3 z1 z2 zs hs2 hok2 c0 c1 d0 d1 d2 s0 s1 s2
            have d0 := (heap_cell z0 0).trans rfl
            have d1 := (heap_cell z0 1).trans rfl
            have d2 := (heap_cell z0 2).trans rfl
            have df := frozen_of z0
            have dl := heap_lt z0
            clear z0
            go_wp2
            (try refine ⟨fun h => absurd h (by simp), ?_⟩); (repeat (unfold wpPlan; simp only [pickL, List.map_cons, List.map_nil, List.getD_cons_succ, List.getD_cons_zero]; (repeat go_big_quiet_step (fail)); refine wpQuiet_nil ?_)); unfold wpPlan; intro w4 hb4; (try simp only [pickL, List.map_cons, List.map_nil, List.getD_cons_succ, List.getD_cons_zero])
            have HB4 := Lib.hid hb4
            clear hb4 d0 d1 d2 df
            go_wp2
            refine ⟨⟨i + 1, S2, markS B M' aj false, sa2, sc2, by omega, by go_num, by omega, Lib.hid ⟨?_, ?_, ?_, ?_, ZO.out, ?_, ?_⟩⟩, by simp [intOf]; omega⟩
            · exact (HB4.out.block _ (by simp only [World.size_setCell]; exact heap_lt Z0.out)).trans (store3_heap Z0.out)
            · exact (HB4.out.block _ (by simp only [World.size_setCell]; exact heap_lt Z1.out)).trans ((store3_other (by omega)).trans Z1.out)
            · exact (HB4.out.block _ (by simp only [World.size_setCell]; exact heap_lt Z2.out)).trans ((store3_other (by omega)).trans Z2.out)
            · exact SAt.ext (Owns.keep ZS.out fun g hg => store3_other (Owns.ne ZS.out Z0.out (by decide) g hg)) HB4.out
            · have := HST.out
              rw [HDf.out] at this
              rw [← hR.out.2.2.2.2.2.1, this]
            · exact (ext3 ZE.out (by omega)).trans HB4.out
      · have hlb : ((i : Int) == (L.length : Int) - 1) = false := by rw [beq_eq_false_iff_ne]; omega
        clear hlast
        have HDf : Hid (((((i : Int) == (L.length : Int) - 1) && dirty) && why == 0) = false) := Lib.hid (by rw [hlb]; rfl)
        have HMf := Lib.hid (HMs.out false)
        rw [show bitsD false = 32 from rfl] at HMf
        go_upto_region 7 with (fail)
        refine region_mix [.q [0, 1, 2, 3, 4, 5, 6, 7], .l 8 3, .l 9 2] (by kernel_rfl) (by kernel_rfl) ?_
        (try refine ⟨fun h => absurd h (by simp), ?_⟩); (repeat (unfold wpPlan; simp only [pickL, List.map_cons, List.map_nil, List.getD_cons_succ, List.getD_cons_zero]; (repeat go_big_quiet_step (fail)); refine wpQuiet_nil ?_)); unfold wpPlan; intro w1 hb1; (try simp only [pickL, List.map_cons, List.map_nil, List.getD_cons_succ, List.getD_cons_zero])
        have HB1 := Lib.hid hb1
        clear hb1
        go_wp2_with (first | (go_at_call 79; refine (HMf.out _ (hR.out.2.2.2.1.ext (HB1.out.trans (by repeat (first | exact Ext.refl _ | assumption | refine Ext.alloc ?_ _ | refine Ext.drew ?_ | refine Ext.setCell ?_ (by first | (simp; done) | (dsimp only; omega)) _ | refine Ext.trans ?_ (by assumption)))))).mono ?_; rintro e w2 ⟨sa2, sc2, S2, rfl, hs2, hok2, hle2, hb2⟩))
        refine ⟨fun _ => HB1.out.trans (Ext.trans (by repeat (first | exact Ext.refl _ | assumption | refine Ext.alloc ?_ _ | refine Ext.drew ?_ | refine Ext.setCell ?_ (by first | (simp; done) | (dsimp only; omega)) _ | refine Ext.trans ?_ (by assumption))) hb2), ?_⟩
        (try refine ⟨fun h => absurd h (by simp), ?_⟩); (repeat (unfold wpPlan; simp only [pickL, List.map_cons, List.map_nil, List.getD_cons_succ, List.getD_cons_zero]; (repeat go_big_quiet_step (fail)); refine wpQuiet_nil ?_)); unfold wpPlan; intro w3 hb3; (try simp only [pickL, List.map_cons, List.map_nil, List.getD_cons_succ, List.getD_cons_zero])
        have hE3 : Ext wr w3 := (HB1.out.trans (Ext.trans (by repeat (first | exact Ext.refl _ | assumption | refine Ext.alloc ?_ _ | refine Ext.drew ?_ | refine Ext.setCell ?_ (by first | (simp; done) | (dsimp only; omega)) _ | refine Ext.trans ?_ (by assumption))) hb2)).trans hb3
        have z0 := (hE3.block _ (heap_lt hR.out.1)).trans hR.out.1
        have z1 := (hE3.block _ (heap_lt hR.out.2.1)).trans hR.out.2.1
        have z2 := (hE3.block _ (heap_lt hR.out.2.2.1)).trans hR.out.2.2.1
        have zs := SAt.ext hs2 hb3
        have Z0 := Lib.hid z0
        have Z1 := Lib.hid z1
        have Z2 := Lib.hid z2
        have ZS := Lib.hid zs
        have ZE := Lib.hid (hR.out.2.2.2.2.2.2.trans hE3)
        have ZO := Lib.hid hok2
        clear hb2 hb3 hE3 z1 z2 zs hs2 hok2 c0 c1 d0 d1 d2 s0 s1 s2
        have d0 := (heap_cell z0 0).trans rfl
        have d1 := (heap_cell z0 1).trans rfl
        have d2 := (heap_cell z0 2).trans rfl
        have df := frozen_of z0
        have dl := heap_lt z0
        clear z0
        go_wp2
        (try refine ⟨fun h => absurd h (by simp), ?_⟩); (repeat (unfold wpPlan; simp only [pickL, List.map_cons, List.map_nil, List.getD_cons_succ, List.getD_cons_zero]; (repeat go_big_quiet_step (fail)); refine wpQuiet_nil ?_)); unfold wpPlan; intro w4 hb4; (try simp only [pickL, List.map_cons, List.map_nil, List.getD_cons_succ, List.getD_cons_zero])
        have HB4 := Lib.hid hb4
        clear hb4 d0 d1 d2 df
        go_wp2
        refine ⟨⟨i + 1, S2, markS B M' aj false, sa2, sc2, by omega, by go_num, by omega, Lib.hid ⟨?_, ?_, ?_, ?_, ZO.out, ?_, ?_⟩⟩, by simp [intOf]; omega⟩
        · exact (HB4.out.block _ (by simp only [World.size_setCell]; exact heap_lt Z0.out)).trans (store3_heap Z0.out)
        · exact (HB4.out.block _ (by simp only [World.size_setCell]; exact heap_lt Z1.out)).trans ((store3_other (by omega)).trans Z1.out)
        · exact (HB4.out.block _ (by simp only [World.size_setCell]; exact heap_lt Z2.out)).trans ((store3_other (by omega)).trans Z2.out)
        · exact SAt.ext (Owns.keep ZS.out fun g hg => store3_other (Owns.ne ZS.out Z0.out (by decide) g hg)) HB4.out
        · have := HST.out
          rw [HDf.out] at this
          rw [← hR.out.2.2.2.2.2.1, this]
        · exact (ext3 ZE.out (by omega)).trans HB4.out
    · obtain rfl : i = L.length := by omega
      have heq := hR.out.2.2.2.2.2.1
      rw [List.drop_length] at heq
      have HQ : Hid (M' = markL B (dirty && why == 0) L M) := Lib.hid heq
      have d0 := (heap_cell hR.out.1 0).trans rfl
      have d1 := (heap_cell hR.out.1 1).trans rfl
      have d2 := (heap_cell hR.out.1 2).trans rfl
      have dl := heap_lt hR.out.1
      have r0 := (heap_cell hR.out.2.2.1 0).trans rfl
      have r1 := (heap_cell hR.out.2.2.1 1).trans rfl
      have r2 := (heap_cell hR.out.2.2.1 2).trans rfl
      have rf := frozen_of hR.out.2.2.1
      have rl := heap_lt hR.out.2.2.1
      clear heq
      go_wp2
      refine post_gen (fun U => U.heap[vb + 1 + 1]? = some (.cells #[.int .i64 B, .slice sa' S'.length sc', .slice ta k tc] 34 (0, 0)) ∧ SAt U sa' sc' S' ∧ Ext w U) ⟨store3_heap hR.out.2.2.1, Owns.keep hR.out.2.2.2.1 fun g hg => store3_other (Owns.ne hR.out.2.2.2.1 hR.out.2.2.1 (by decide) g hg), ext3 hR.out.2.2.2.2.2.2 (by omega)⟩ ?_
      clear d0 d1 d2 r0 r1 r2 rf c0 c1
      rintro U ⟨m3, s3, e3⟩
      have v0 := (heap_cell m3 0).trans rfl
      have v1 := (heap_cell m3 1).trans rfl
      have v2 := (heap_cell m3 2).trans rfl
      have HE3 := Lib.hid e3
      have HS3 := Lib.hid s3
      clear m3 e3 s3
      refine bodyPost_ret (by simp [results, Try.results22, go_sem, ↓IntWalk.iteOmega, *]; try rfl) rfl (by rw [← HE.out, ← HQ.out]; exact EndSet8.mk HS3.out hR.out.2.2.2.2.1 hSl HE3.out)
end Go.Proofs.Ytfaekfdngkpkdaa
/- From a law's statement to its walk: what arguments that read as data are, by the shape of their types; and what a call that returns true and only lays new memory leaves. Own text. -/
namespace Go.Proofs.Ytfaekfdngkpkdaa
open Go.RowKit Go.ChangeShapes Go.WideShapes Go.ChangeAt

/-- The shape of a type of plain data. -/
inductive Dsc where
  | bool
  | int (k : IntKind)
  | slice (e : Dsc)
  | row (ds : List Dsc)

mutual
def Dsc.size : Dsc → Nat
  | .row ds => Dsc.sizes ds
  | .bool => 1
  | .int _ => 1
  | .slice _ => 1
def Dsc.sizes : List Dsc → Nat
  | [] => 0
  | d :: ds => d.size + Dsc.sizes ds
end

mutual
def Dsc.ok (P : Program) : Dsc → TypeId → Bool
  | .bool, t => match P.underlying t with | some .bool => true | _ => false
  | .int k, t => match P.underlying t with | some (.int q) => decide (q = k) | _ => false
  | .slice d, t => match P.underlying t with | some (.slice e) => d.ok P e && decide (P.cellsOf e = d.size) | _ => false
  | .row ds, t => match P.underlying t with
    | some (.struct fs) => Dsc.okFields P ds fs.toList 0
    | some (.array n e) => decide (ds.length = n) && Dsc.okElems P ds e
    | _ => false
def Dsc.okFields (P : Program) : List Dsc → List Field → Nat → Bool
  | [], [], _ => true
  | d :: ds, f :: fs, off => decide (f.offset = off) && decide (P.cellsOf f.type = d.size) && d.ok P f.type && Dsc.okFields P ds fs (off + d.size)
  | _, _, _ => false
def Dsc.okElems (P : Program) : List Dsc → TypeId → Bool
  | [], _ => true
  | d :: ds, e => decide (P.cellsOf e = d.size) && d.ok P e && Dsc.okElems P ds e
end

mutual
/-- What cells that read as such data are. -/
def Dsc.Is (w : World) : Dsc → List Value → Prop
  | .bool, cs => ∃ b, cs = [.bool b]
  | .int k, cs => ∃ n, cs = [.int k n] ∧ (Lit.int k n).wf = true
  | .slice d, cs => cs = [.slice none 0 0] ∨ ∃ a len cap, cs = [.slice (some a) len cap] ∧ len ≤ cap ∧ cap ≤ maxLen ∧
      ∀ i, i < cap → ∃ vs, w.cells? 0 (a.add (i * d.size)) d.size = some vs ∧ Dsc.Is w d vs
  | .row ds, cs => Dsc.IsAll w ds cs
def Dsc.IsAll (w : World) : List Dsc → List Value → Prop
  | [], _ => True
  | d :: ds, cs => Dsc.Is w d (cs.take d.size) ∧ Dsc.IsAll w ds (cs.drop d.size)
end

theorem mapM_some_mem {α β : Type} {f : α → Option β} : ∀ {l : List α} {r : List β}, l.mapM f = some r → ∀ x ∈ l, ∃ y, f x = some y
  | [], _, _, x, hx => by cases hx
  | a :: l, r, h, x, hx => by
    simp only [List.mapM_cons] at h
    cases ha : f a with
    | none => simp [ha] at h
    | some b =>
      simp only [ha] at h
      cases hl : l.mapM f with
      | none => simp [hl] at h
      | some s =>
        rcases List.mem_cons.1 hx with rfl | hx
        · exact ⟨b, ha⟩
        · exact mapM_some_mem hl x hx

section
variable {H : Type} {enc : TypeId × Value → H} {P : Program} {w : World}

theorem Dsc.fields_is {n : Nat} (ih : ∀ (d : Dsc) (t : TypeId) (cs : List Value) (x : DataW H × List MemPlace), d.ok P t = true → DataW.trod enc P w 0 (fun _ => true) true n t cs = some x → d.Is w cs) (all : List Value) :
    ∀ (ds : List Dsc) (fs : List Field) (off : Nat), Dsc.okFields P ds fs off = true →
      (∀ f ∈ fs, ∃ x, DataW.trod enc P w 0 (fun _ => true) true n f.type ((all.drop f.offset).take (P.cellsOf f.type)) = some x) → Dsc.IsAll w ds (all.drop off)
  | [], _, _, _, _ => trivial
  | d :: ds, [], _, hok, _ => by simp [Dsc.okFields] at hok
  | d :: ds, f :: fs, off, hok, h => by
    simp only [Dsc.okFields, Bool.and_eq_true, decide_eq_true_eq] at hok
    obtain ⟨⟨⟨h1, h2⟩, h3⟩, h4⟩ := hok
    obtain ⟨x, hx⟩ := h f (List.mem_cons_self ..)
    refine ⟨?_, ?_⟩
    · rw [h1, h2] at hx
      exact ih d f.type _ x h3 hx
    · rw [List.drop_drop]
      exact Dsc.fields_is ih all ds fs (off + d.size) h4 (fun g hg => h g (List.mem_cons_of_mem _ hg))

theorem Dsc.elems_is {n : Nat} (ih : ∀ (d : Dsc) (t : TypeId) (cs : List Value) (x : DataW H × List MemPlace), d.ok P t = true → DataW.trod enc P w 0 (fun _ => true) true n t cs = some x → d.Is w cs) (all : List Value) (e : TypeId) :
    ∀ (ds : List Dsc) (k : Nat), Dsc.okElems P ds e = true →
      (∀ i, k ≤ i → i < k + ds.length → ∃ x, DataW.trod enc P w 0 (fun _ => true) true n e ((all.drop (i * P.cellsOf e)).take (P.cellsOf e)) = some x) → Dsc.IsAll w ds (all.drop (k * P.cellsOf e))
  | [], _, _, _ => trivial
  | d :: ds, k, hok, h => by
    simp only [Dsc.okElems, Bool.and_eq_true, decide_eq_true_eq] at hok
    obtain ⟨⟨h2, h3⟩, h4⟩ := hok
    obtain ⟨x, hx⟩ := h k (Nat.le_refl _) (by simp)
    refine ⟨?_, ?_⟩
    · have := ih d e _ x h3 hx
      rw [← h2]; exact this
    · rw [List.drop_drop, ← h2, show k * P.cellsOf e + P.cellsOf e = (k + 1) * P.cellsOf e by rw [Nat.add_mul, Nat.one_mul]]
      exact Dsc.elems_is ih all e ds (k + 1) h4 (fun i h1 h2 => h i (by omega) (by simp only [List.length_cons]; omega))

/-- Cells that read as data of a type are of its shape. -/
theorem Dsc.is_of_trod : ∀ (n : Nat) (d : Dsc) (t : TypeId) (cs : List Value) (x : DataW H × List MemPlace), d.ok P t = true → DataW.trod enc P w 0 (fun _ => true) true n t cs = some x → d.Is w cs
  | 0, _, _, _, _, _, h => by simp [DataW.trod] at h
  | n + 1, .bool, t, cs, x, hok, h => by
    simp only [Dsc.ok] at hok
    unfold DataW.trod at h
    split at hok
    · rename_i hu
      rw [hu] at h
      split at h <;> simp_all [Dsc.Is]
    · cases hok
  | n + 1, .int k, t, cs, x, hok, h => by
    simp only [Dsc.ok] at hok
    unfold DataW.trod at h
    split at hok
    · rename_i q hu
      simp only [decide_eq_true_eq] at hok
      subst hok
      rw [hu] at h
      split at h <;> try simp_all [Dsc.Is]
    · cases hok
  | n + 1, .slice d, t, cs, x, hok, h => by
    simp only [Dsc.ok] at hok
    unfold DataW.trod at h
    split at hok
    · rename_i e hu
      simp only [Bool.and_eq_true, decide_eq_true_eq] at hok
      obtain ⟨h1, h2⟩ := hok
      rw [hu] at h
      split at h <;> try (first | (rename_i hh _; cases hh; done) | (rename_i hh; cases hh; done))
      all_goals first
        | (left; rfl)
        | skip
      all_goals try (simp at *; done)
      rename_i e' a len cap he
      obtain rfl : e = e' := by injection he with he; injection he
      split at h
      · rename_i hc
        obtain ⟨h3, h4, h5⟩ := hc
        right
        refine ⟨a, len, cap, rfl, h4, h5, fun i hi => ?_⟩
        cases h6 : (List.range len).mapM fun i => (w.cells? 0 (a.add (i * P.cellsOf e)) (P.cellsOf e)).bind (DataW.trod enc P w 0 (fun _ => true) true n e) with
        | none => simp [h6] at h
        | some els =>
          simp only [h6, Option.bind_some, if_true] at h
          cases h7 : (List.range (cap - len)).mapM fun j => (w.cells? 0 (a.add ((len + j) * P.cellsOf e)) (P.cellsOf e)).bind (DataW.trod enc P w 0 (fun _ => true) true n e) with
          | none => simp [h7] at h
          | some sps =>
            have key : ∃ y, (w.cells? 0 (a.add (i * P.cellsOf e)) (P.cellsOf e)).bind (DataW.trod enc P w 0 (fun _ => true) true n e) = some y := by
              by_cases hil : i < len
              · exact mapM_some_mem h6 i (List.mem_range.2 hil)
              · have := mapM_some_mem h7 (i - len) (List.mem_range.2 (by omega))
                rw [show len + (i - len) = i by omega] at this
                exact this
            obtain ⟨y, hy⟩ := key
            rw [h2] at hy
            cases h8 : w.cells? 0 (a.add (i * d.size)) d.size with
            | none => simp [h8] at hy
            | some vs =>
              simp only [h8, Option.bind_some] at hy
              exact ⟨vs, rfl, Dsc.is_of_trod n d e vs y h1 hy⟩
      · cases h
    · cases hok
  | n + 1, .row ds, t, cs, x, hok, h => by
    simp only [Dsc.ok] at hok
    unfold DataW.trod at h
    split at hok
    · rename_i fs hu
      rw [hu] at h
      simp only at h
      split at h
      · cases h6 : fs.toList.mapM fun f => DataW.trod enc P w 0 (fun _ => true) true n f.type ((cs.drop f.offset).take (P.cellsOf f.type)) with
        | none => simp [h6] at h
        | some r =>
          have := Dsc.fields_is (Dsc.is_of_trod n) cs ds fs.toList 0 hok (fun f hf => mapM_some_mem h6 f hf)
          simpa [Dsc.Is] using this
      · cases h
    · rename_i m e hu
      rw [hu] at h
      simp only at h
      simp only [Bool.and_eq_true, decide_eq_true_eq] at hok
      split at h
      · cases h6 : (List.range m).mapM fun i => DataW.trod enc P w 0 (fun _ => true) true n e ((cs.drop (i * P.cellsOf e)).take (P.cellsOf e)) with
        | none => simp [h6] at h
        | some r =>
          have := Dsc.elems_is (Dsc.is_of_trod n) cs e ds 0 hok.2 (fun i _ hi => mapM_some_mem h6 i (List.mem_range.2 (by omega)))
          simpa [Dsc.Is] using this
      · cases h
    · cases hok

theorem len1 {α : Type} {l : List α} (h : l.length = 1) : ∃ a, l = [a] := by
  match l, h with | [a], _ => exact ⟨a, rfl⟩
theorem len2 {α : Type} {l : List α} (h : l.length = 2) : ∃ a b, l = [a, b] := by
  match l, h with | [a, b], _ => exact ⟨a, b, rfl⟩
theorem len3 {α : Type} {l : List α} (h : l.length = 3) : ∃ a b c, l = [a, b, c] := by
  match l, h with | [a, b, c], _ => exact ⟨a, b, c, rfl⟩
theorem len4 {α : Type} {l : List α} (h : l.length = 4) : ∃ a b c d, l = [a, b, c, d] := by
  match l, h with | [a, b, c, d], _ => exact ⟨a, b, c, d, rfl⟩
theorem len6 {α : Type} {l : List α} (h : l.length = 6) : ∃ a b c d e f, l = [a, b, c, d, e, f] := by
  match l, h with | [a, b, c, d, e, f], _ => exact ⟨a, b, c, d, e, f, rfl⟩

/-- An argument of such a shape. -/
def ArgIs (w : World) : Dsc → Value → Prop
  | .row ds, v => ∃ cs : List Value, v = .agg cs.toArray ∧ cs.length = Dsc.sizes ds ∧ Dsc.IsAll w ds cs
  | d, v => d.Is w [v]
def ArgsAre (w : World) : List Dsc → List Value → Prop
  | [], vs => vs = []
  | d :: ds, vs => ∃ v r, vs = v :: r ∧ ArgIs w d v ∧ ArgsAre w ds r

theorem arg_is {base : Nat} {d : Dsc} {t : TypeId} {v : Value} {x : DataW H} {ps : List MemPlace} (hok : d.ok P t = true) (hc : P.cellsOf t = d.size) (hv : Value.okWide P w .any base t v)
    (h : DataW.Trod enc P w 0 (fun _ => true) true t v x ps) : ArgIs w d v := by
  obtain ⟨n, hn⟩ := h
  have his := Dsc.is_of_trod n d t _ _ hok hn
  cases d with
  | row ds =>
    have hu : ∃ cs, v = .agg cs ∧ cs.size = P.cellsOf t := by
      unfold Value.okWide at hv
      simp only [Dsc.ok] at hok
      split at hok
      · rename_i fs hu; rw [hu] at hv; obtain ⟨cs, h1, h2, _⟩ := hv; exact ⟨cs, h1, h2⟩
      · rename_i m e hu; rw [hu] at hv; obtain ⟨cs, h1, h2, _⟩ := hv; exact ⟨cs, h1, h2⟩
      · cases hok
    obtain ⟨cs, rfl, hsz⟩ := hu
    exact ⟨cs.toList, by simp, by simp [hsz, hc, Dsc.size], by simpa [Dsc.Is, Value.cells] using his⟩
  | bool =>
    simp only [Dsc.ok] at hok
    split at hok
    · rename_i hu
      obtain ⟨b, rfl, _⟩ := open_bool hu hv ⟨n, hn⟩
      exact ⟨b, rfl⟩
    · cases hok
  | int k =>
    simp only [Dsc.ok] at hok
    split at hok
    · rename_i q hu
      obtain rfl : q = k := by simpa using hok
      obtain ⟨b, rfl, _, _, hb⟩ := open_int hu hv ⟨n, hn⟩
      exact ⟨b, rfl, hb⟩
    · cases hok
  | slice e =>
    simp only [Dsc.ok] at hok
    split at hok
    · rename_i q hu
      obtain ⟨a, len, cap, rfl⟩ := okWide_slice hu hv
      exact his
    · cases hok

def okParams (P : Program) : List Dsc → List TypeId → Bool
  | [], [] => true
  | d :: ds, t :: ts => d.ok P t && decide (P.cellsOf t = d.size) && P.readableRec t && decide (t < P.types.size) && okParams P ds ts
  | _, _ => false

theorem args_are {base : Nat} : ∀ (dscs : List Dsc) (ts : List TypeId) (vs : List Value) (xs : List (DataW H)) (ps : List MemPlace), okParams P dscs ts = true →
    (∀ (j : Nat) t v, ts[j]? = some t → vs[j]? = some v → Value.okWide P w .any base t v) → DataW.TrodAll enc P w 0 (fun _ => true) true ts vs xs ps → ArgsAre w dscs vs ∧ xs.length = dscs.length
  | [], ts, vs, xs, ps, hok, hv, h => by
    cases ts with
    | nil => obtain ⟨h1, h2, _⟩ := trodAll_nil h; exact ⟨h1, by rw [h2]; rfl⟩
    | cons t ts => simp [okParams] at hok
  | d :: ds, ts, vs, xs, ps, hok, hv, h => by
    cases ts with
    | nil => simp [okParams] at hok
    | cons t ts =>
      simp only [okParams, Bool.and_eq_true, decide_eq_true_eq] at hok
      obtain ⟨⟨⟨⟨h1, h2⟩, h3⟩, h4⟩, h5⟩ := hok
      obtain ⟨v, vs1, x, xs1, a, b, rfl, rfl, rfl, hx, hr⟩ := trodAll_cons h
      have ⟨r1, r2⟩ := args_are ds ts vs1 xs1 b h5 (fun j t' v' hj hv' => hv (j + 1) t' v' (by simpa using hj) (by simpa using hv')) hr
      exact ⟨⟨v, vs1, rfl, arg_is h1 h2 (hv 0 t v rfl rfl) hx, r1⟩, by simp [r2]⟩

theorem trodAll_kept (hl : laidOutB P = true) {W W' : World} (hb : Below W.heap.size W W') : ∀ (dscs : List Dsc) (ts : List TypeId) (vs : List Value) (xs : List (DataW H)) (ps : List MemPlace), okParams P dscs ts = true →
    DataW.TrodAll enc P W 0 (fun _ => true) true ts vs xs ps → (∀ p ∈ ps, p.block < W.heap.size) → DataW.TrodAll enc P W' 0 (fun b => decide (b < W.heap.size)) true ts vs xs ps
  | [], ts, vs, xs, ps, hok, h, hlt => by
    cases ts with
    | nil => obtain ⟨rfl, rfl, rfl⟩ := trodAll_nil h; rfl
    | cons t ts => simp [okParams] at hok
  | d :: ds, ts, vs, xs, ps, hok, h, hlt => by
    cases ts with
    | nil => simp [okParams] at hok
    | cons t ts =>
      simp only [okParams, Bool.and_eq_true, decide_eq_true_eq] at hok
      obtain ⟨⟨⟨⟨h1, h2⟩, h3⟩, h4⟩, h5⟩ := hok
      obtain ⟨v, vs1, x, xs1, a, b, rfl, rfl, rfl, hx, hr⟩ := trodAll_cons h
      exact ⟨a, b, Below.trod hl h3 h4 hx hb (fun p hp => hlt p (List.mem_append.2 (.inl hp))), trodAll_kept hl hb ds ts vs1 xs1 b h5 hr (fun p hp => hlt p (List.mem_append.2 (.inr hp))), rfl⟩

theorem mapM_range {α : Type} {f : Nat → Option α} : ∀ (n : Nat) {r : List α}, (List.range n).mapM f = some r → r.length = n ∧ ∀ j, j < n → f j = r[j]?
  | 0, r, h => by simp at h; subst h; simp
  | n + 1, r, h => by
    rw [List.range_succ, List.mapM_append] at h
    cases h1 : (List.range n).mapM f with
    | none => simp [h1] at h
    | some a =>
      simp only [h1] at h
      cases h2 : f n with
      | none => simp [h2] at h
      | some b =>
        simp [h2] at h
        subst h
        have ⟨e1, e2⟩ := mapM_range n h1
        refine ⟨by simp [e1], fun j hj => ?_⟩
        by_cases hjn : j < n
        · rw [e2 j hjn, List.getElem?_append_left (by omega)]
        · obtain rfl : j = n := by omega
          rw [h2, List.getElem?_append_right (by omega)]
          simp [e1]

/-- A slice that is not empty, cell by cell. -/
theorem slice_open {w : World} {e : Dsc} {a : Addr} {cap : Nat} (hs : 0 < e.size) (hcap : 0 < cap) (h : ∀ i, i < cap → ∃ vs, w.cells? 0 (a.add (i * e.size)) e.size = some vs ∧ e.Is w vs) :
    ∃ b off, a = ⟨b, off, none⟩ ∧ b < w.heap.size ∧ ∀ i, i < cap → ∃ vs, vs.length = e.size ∧ (∀ j, j < e.size → w.cell? ⟨b, off + i * e.size + j, none⟩ = vs[j]?) ∧ e.Is w vs := by
  obtain ⟨b, off, spot⟩ := a
  have key : ∀ i, i < cap → ∃ vs, vs.length = e.size ∧ (∀ j, j < e.size → w.cell? ((Addr.add ⟨b, off, spot⟩ (i * e.size)).add j) = vs[j]?) ∧ e.Is w vs := fun i hi => by
    obtain ⟨vs, h1, h2⟩ := h i hi
    unfold World.cells? at h1
    rw [if_pos (Nat.zero_le _)] at h1
    have ⟨e1, e2⟩ := mapM_range _ h1
    exact ⟨vs, e1, e2, h2⟩
  obtain ⟨vs0, l0, c0, _⟩ := key 0 hcap
  have c00 := c0 0 hs
  have hv : ∃ v, vs0[0]? = some v := ⟨vs0[0]'(by omega), by simp⟩
  obtain ⟨v, hv⟩ := hv
  rw [hv] at c00
  simp only [Nat.zero_mul, Addr.add, if_true] at c00
  cases spot with
  | some s =>
    simp only [World.cell?] at c00
    split at c00
    · simp at c00
    · cases c00
  | none =>
    refine ⟨b, off, rfl, World.block_lt_of_cell? _ _ c00, fun i hi => ?_⟩
    obtain ⟨vs, l, c, hI⟩ := key i hi
    refine ⟨vs, l, fun j hj => ?_, hI⟩
    rw [← c j hj]
    congr 1
    unfold Addr.add
    split <;> split <;> simp_all <;> omega

/-- What the row asks of a law that returns true and only lays new memory. -/
theorem law_post {f : Func} {s : ChangeSpec} {W W' : World} {args : Array Value} {xs gs : List (DataW H)} {before : List MemPlace} {tb : TypeId} (dscs : List Dsc)
    (hl : laidOutB P = true) (hpar : okParams P dscs f.params.toList = true) (hres : f.resultTypes = #[tb]) (htb : P.underlying tb = some .bool) (hvars : s.vars = [])
    (hspec : ∀ ds : List (DataW H), ds.length = dscs.length → s.fn H ds = { results := [.lit (.bool true)], args := ds })
    (hlen : xs.length = dscs.length) (hW : DataW.Whole enc P f.params.toList s.vars false W args.toList xs gs before) (hb : Ext W W') :
    s.post enc P f false true false false W args (.bool true) W' := by
  have hlt := hW.lt
  have hW0 := hW
  obtain ⟨p, q, hA, hV, rfl, _, _⟩ := hW
  rw [hvars] at hV
  obtain ⟨rfl, rfl⟩ := trodVars_none hV
  simp only [List.append_nil] at hW0 hlt
  have e1 : s.fn H (xs ++ []) = { results := [.lit (.bool true)], args := xs } := by rw [List.append_nil]; exact hspec xs hlen
  refine ⟨xs, [], p, [], p, [], hW0, ?_, ?_, ?_, Below.frame hb _, fun h => by cases h⟩
  · rw [e1, hres]; exact trodAll_mk1 (shut_bool htb true)
  · rw [e1]; exact trodAll_kept hl hb dscs _ _ _ _ hpar hA hlt
  · rw [e1, hvars]; rfl

/-- A law's row, from its walk. -/
theorem law_lift {C : Checked} {os : Os} {n : FuncId} {f : Func} {s : ChangeSpec} {tb : TypeId} (dscs : List Dsc)
    (own : ownKnob C.prog.godebug = none) (started : os.Started) (noInit : C.prog.inits.idxOf? n = none) (hfn : C.prog.funcs[n]? = some f)
    (witness : ∃ (w : World) (tape : Tape) (i : Input), w.os = os ∧ (w.forCall tape i).Shaped C.prog ∧ i.vars = [] ∧ Input.okWide C.prog (w.forCall tape i) .any w.heap.size n i ∧
      s.pre6 enc C.prog f [] false (w.forCall tape i).memory i.args ∧ Assume.holds ({} : Assume) C.prog (lone (Frame.enter C.prog n i.args .normal) [] (w.forCall tape i)))
    (hl : laidOutB C.prog = true) (hpar : okParams C.prog dscs f.params.toList = true) (hres : f.resultTypes = #[tb]) (htb : C.prog.underlying tb = some .bool) (hvars : s.vars = [])
    (hspec : ∀ ds : List (DataW H), ds.length = dscs.length → s.fn H ds = { results := [.lit (.bool true)], args := ds })
    (walk : ∀ (W : World) (args : List Value), ArgsAre W dscs args → Calls C.prog n args.toArray W fun e w' => e = .returned (.bool true) ∧ Ext W w') :
    ReturnsInHanded {} C os n .any (s.pre6 enc C.prog f [] false) (s.post enc C.prog f false true false false) := by
  refine returnsInHanded_of_change own started noInit hfn witness ?_
  intro W base args ds gs before hval hW _ _
  have hW0 := hW
  obtain ⟨p, q, hA, hV, _⟩ := hW
  have ⟨h1, h2⟩ := args_are dscs _ _ _ _ hpar (fun j t v hj hv => hval j t v (by simpa using hj) (by simpa using hv)) hA
  have := walk W args.toList h1
  simp only [Array.toArray_toList] at this
  exact this.mono fun e w' ⟨he, hb⟩ => ⟨_, he, law_post dscs hl hpar hres htb hvars hspec h2 hW0 hb⟩
end

end Go.Proofs.Ytfaekfdngkpkdaa
/- Lists that a slice of plain data holds. -/
namespace Go.Proofs.Ytfaekfdngkpkdaa
set_option linter.unusedVariables false
set_option linter.unusedSimpArgs false
open Go.RowKit
attribute [local go_sem] wext_cell wext_frozen wext_heap alloc_cell alloc_frozen alloc_heap setCell_cell objCell_cells objFrozen_cells
open Go.Proofs

/-- v holds these, each of so many cells. -/
def ListAt {α : Type} [Inhabited α] (w : World) (v : Value) (size : Nat) (cells : α → List Value) (ok : α → Prop) (ds : List α) : Prop :=
  ∃ a cap, v = .slice a ds.length cap ∧ ds.length ≤ cap ∧ cap ≤ maxLen ∧ (∀ i, i < ds.length → ok (ds.getD i default)) ∧
    ∀ i, i < ds.length → ∃ g o, a = some ⟨g, o, none⟩ ∧ g < w.heap.size ∧ ∀ j u, (cells (ds.getD i default))[j]? = some u → w.cell? ⟨g, o + i * size + j, none⟩ = some u
theorem ListAt.ext {α : Type} [Inhabited α] {w w' : World} {v : Value} {size : Nat} {cells : α → List Value} {ok : α → Prop} {ds : List α} (h : ListAt w v size cells ok ds) (k : Ext w w') : ListAt w' v size cells ok ds := by
  obtain ⟨a, cap, h1, h2, h3, h4, h5⟩ := h
  refine ⟨a, cap, h1, h2, h3, h4, fun i hi => ?_⟩
  obtain ⟨g, o, e1, e2, e3⟩ := h5 i hi
  exact ⟨g, o, e1, Nat.lt_of_lt_of_le e2 k.size, fun j u hu => k.someCell (e3 j u hu)⟩
theorem list_of {α : Type} [Inhabited α] {W : World} {v : Value} {size : Nat} {cells : α → List Value} {ok : α → Prop} {d : Dsc} (hs : d.size = size) (h0 : 0 < d.size) (hc : ∀ x, (cells x).length = size)
    (his : ∀ cs : List Value, cs.length = size → d.Is W cs → ∃ x, ok x ∧ cs = cells x) (h : (Dsc.slice d).Is W [v]) : ∃ ds, ListAt W v size cells ok ds := by
  simp only [Dsc.Is, List.cons.injEq, and_true] at h
  rcases h with rfl | ⟨a, n, cap, rfl, hn, hm, hall⟩
  · exact ⟨[], none, 0, rfl, by simp, by simp, fun i hi => by simp at hi, fun i hi => by simp at hi⟩
  · by_cases hcp : 0 < cap
    · obtain ⟨b, off, rfl, hb, hcell⟩ := slice_open (e := d) h0 hcp hall
      have hall2 : ∀ i, i < cap → ∃ x : α, ok x ∧ ∀ j u, (cells x)[j]? = some u → W.cell? ⟨b, off + i * size + j, none⟩ = some u := fun i hi => by
        obtain ⟨vs, hl, hcc, hI⟩ := hcell i hi
        obtain ⟨x, hx, rfl⟩ := his vs (by rw [← hs]; exact hl) hI
        refine ⟨x, hx, fun j u hu => ?_⟩
        have hj := (List.getElem?_eq_some_iff.1 hu).1
        rw [hc] at hj
        have := hcc j (by omega)
        rw [hs] at this
        exact this.trans hu
      have : ∃ f : Nat → α, ∀ i, i < cap → ok (f i) ∧ ∀ j u, (cells (f i))[j]? = some u → W.cell? ⟨b, off + i * size + j, none⟩ = some u :=
        ⟨fun i => if h : i < cap then Classical.choose (hall2 i h) else default, fun i hi => by
          simp only [hi, dite_true]
          exact Classical.choose_spec (hall2 i hi)⟩
      obtain ⟨f, hf⟩ := this
      have hd : ∀ i, i < n → ((List.range n).map f).getD i default = f i := fun i hi => by simp [List.getD, hi]
      refine ⟨(List.range n).map f, some ⟨b, off, none⟩, cap, by simp, by simpa using hn, hm, fun i hi => ?_, fun i hi => ⟨b, off, rfl, hb, fun j u hu => ?_⟩⟩
      · have hi : i < n := by simpa using hi
        rw [hd i hi]; exact (hf i (by omega)).1
      · have hi : i < n := by simpa using hi
        rw [hd i hi] at hu; exact (hf i (by omega)).2 j u hu
    · obtain rfl : cap = 0 := by omega
      obtain rfl : n = 0 := by omega
      exact ⟨[], some a, 0, rfl, by simp, by simp, fun i hi => by simp at hi, fun i hi => by simp at hi⟩
end Go.Proofs.Ytfaekfdngkpkdaa
/- Words that are written: their slots, the memory with them; addresses of few places. -/
namespace Go.Proofs.Ytfaekfdngkpkdaa
set_option linter.unusedVariables false
set_option linter.unusedSimpArgs false
open Go.RowKit
attribute [local go_sem] wext_cell wext_frozen wext_heap alloc_cell alloc_frozen alloc_heap setCell_cell objCell_cells objFrozen_cells

structure PutD where
  s : Int
  f : Int
  g : Int
  m : Int
deriving Inhabited
def PutD.cells (d : PutD) : List Value := [.int .u16 d.s, .int .u16 d.f, .int .u8 d.g, .int .u64 d.m]
def PutD.ok (d : PutD) : Prop := (0 ≤ d.s ∧ d.s ≤ 65535) ∧ (0 ≤ d.f ∧ d.f ≤ 65535) ∧ (0 ≤ d.g ∧ d.g ≤ 255) ∧ (0 ≤ d.m ∧ d.m ≤ 18446744073709551615)
def atS (d : PutD) : Int := d.s / 8 % 16 * 4096 + 8 * (d.s % 8)
def atB (d : PutD) : Int := d.f % 16 * 4096 + d.g % 8 + (if 24 ≤ d.g % 32 then 128 else 0)
def atX (d : PutD) : Int := bits BinOp.xor IntKind.u64 (atB d) d.m
theorem atS_le {d : PutD} (h : d.ok) : 0 ≤ atS d ∧ atS d ≤ 61496 ∧ atS d % 8 = 0 := by
  obtain ⟨⟨a, b⟩, -⟩ := h; unfold atS; omega
theorem atB_le {d : PutD} (h : d.ok) : 0 ≤ atB d ∧ atB d ≤ 65535 := by
  obtain ⟨-, ⟨a, b⟩, ⟨c, e⟩, -⟩ := h; unfold atB; split <;> omega
theorem atX_le {d : PutD} (h : d.ok) : 0 ≤ atX d ∧ atX d ≤ 18446744073709551615 := by
  have hb := atB_le h
  obtain ⟨-, -, -, hm0, hm1⟩ := h
  unfold atX
  rw [u64_xor _ _ hb.1 (by omega) hm0 (by omega)]
  have : (atB d).toNat ^^^ d.m.toNat < 2 ^ 64 := Nat.xor_lt_two_pow (by omega) (by omega)
  omega
def builtM (ds : List PutD) : Int → Int := ds.foldl (fun M d => setIf 16 M (atS d) (atX d)) (fun _ => 0)
theorem builtM_take (ds : List PutD) (j : Nat) (h : j < ds.length) : builtM (ds.take (j + 1)) = setIf 16 (builtM (ds.take j)) (atS (ds.getD j default)) (atX (ds.getD j default)) := by
  have e : ds.take (j + 1) = ds.take j ++ [ds.getD j default] := by rw [List.take_add_one, List.getElem?_eq_getElem h]; simp [List.getD, h]
  rw [e, builtM, List.foldl_append]; rfl

theorem at8_c (d : PutD) (w : World) (h : d.ok) :
    Calls Try.prog 58 #[.agg #[.int .u16 d.s, .int .u16 d.f, .int .u8 d.g, .int .u64 d.m]] w fun e w' => e = .returned (.tuple #[.int .u64 (atS d), .int .u64 (atX d)]) ∧ Ext w w' := by
  obtain ⟨s, f, g, m⟩ := d
  have hB := atB_le h
  obtain ⟨⟨s0, s1⟩, ⟨f0, f1⟩, ⟨g0, g1⟩, m0, m1⟩ := h
  dsimp only at s0 s1
  have eq1 : IntKind.u64.wrap (IntKind.u16.wrap (s.tdiv 8)) = s / 8 := by rw [Int.tdiv_eq_ediv_of_nonneg s0, IntKind.wrap_u16, IntKind.wrap_u64]; omega
  have eq2 : (s / 8).tmod 16 = s / 8 % 16 := Int.tmod_eq_emod_of_nonneg (by omega)
  have eq3 : IntKind.u64.wrap (s / 8 % 16 * 4096) = s / 8 % 16 * 4096 := by rw [IntKind.wrap_u64]; omega
  have eq4 : IntKind.u64.wrap (s / 8 % 16 * 4096 + 8 * (s % 8)) = s / 8 % 16 * 4096 + 8 * (s % 8) := by rw [IntKind.wrap_u64]; omega
  unfold atX atS
  unfold atB at *
  dsimp only at *
  by_cases h24 : 24 ≤ g % 32
  · rw [if_pos h24] at *
    obtain ⟨hB0, hB1⟩ := hB
    go_enter Try.func58, Try.ntmps58
    go_upto_region 6 with (fail)
    refine region_ext (by kernel_rfl) (by kernel_rfl) ?_; (repeat (go_big_quiet_step (fail))); refine wpQuiet_nil ?_; intro w1 hb; have ⟨hc, hf, hh, hs⟩ := hb.facts; try simp only [World.size_alloc, World.size_setCell, World.size_drew] at hs
    go_wp2
    go_ret2
    exact ⟨rfl, (by repeat (first | exact Ext.refl _ | assumption | refine Ext.alloc ?_ _ | refine Ext.drew ?_ | refine Ext.setCell ?_ (by first | (simp; done) | (dsimp only; omega)) _ | refine Ext.trans ?_ (by assumption)))⟩
  · rw [if_neg h24] at *
    obtain ⟨hB0, hB1⟩ := hB
    go_enter Try.func58, Try.ntmps58
    go_upto_region 6 with (fail)
    refine region_ext (by kernel_rfl) (by kernel_rfl) ?_; (repeat (go_big_quiet_step (fail))); refine wpQuiet_nil ?_; intro w1 hb; have ⟨hc, hf, hh, hs⟩ := hb.facts; try simp only [World.size_alloc, World.size_setCell, World.size_drew] at hs
    go_wp2
    go_ret2
    exact ⟨by simp, (by repeat (first | exact Ext.refl _ | assumption | refine Ext.alloc ?_ _ | refine Ext.drew ?_ | refine Ext.setCell ?_ (by first | (simp; done) | (dsimp only; omega)) _ | refine Ext.trans ?_ (by assumption)))⟩
def nearI (n : Int) : Int := n % 8 * 549755813888 + n / 8 % 8 * 1073741824 + n / 64 % 8 * 2097152 + n / 512 % 8 * 4096 + n / 4096 % 4096
theorem nearI_le {n : Int} (h : 0 ≤ n) : 0 ≤ nearI n ∧ nearI n ≤ 4398046511103 := by unfold nearI; omega
theorem near_c (n : Int) (w : World) (h0 : 0 ≤ n) (h1 : n ≤ 4294967295) : Calls Try.prog 26 #[.int .u32 n] w fun e w' => e = .returned (.int .u64 (nearI n)) ∧ Ext w w' := by
  go_enter Try.func26, Try.ntmps26
  go_wp2
  go_ret
  exact ⟨rfl, (by repeat (first | exact Ext.refl _ | assumption | refine Ext.alloc ?_ _ | refine Ext.drew ?_ | refine Ext.setCell ?_ (by first | (simp; done) | (dsimp only; omega)) _ | refine Ext.trans ?_ (by assumption)))⟩
def putD : Dsc := .row [.int .u16, .int .u16, .int .u8, .int .u64]
theorem puts_of {W : World} {v : Value} (h : (Dsc.slice putD).Is W [v]) : ∃ ds, ListAt W v 4 PutD.cells PutD.ok ds :=
  list_of (d := putD) rfl (by decide) (fun _ => rfl) (fun cs hl hI => by
    match cs, hl with
    | [a, b, c, d], _ =>
      simp only [putD, Dsc.Is, Dsc.IsAll, Dsc.size, Dsc.sizes, List.take_succ_cons, List.take_zero, List.drop_succ_cons, List.drop_zero, List.cons.injEq, and_true] at hI
      obtain ⟨⟨n0, rfl, w0⟩, ⟨n1, rfl, w1⟩, ⟨n2, rfl, w2⟩, ⟨n3, rfl, w3⟩⟩ := hI
      exact ⟨⟨n0, n1, n2, n3⟩, ⟨bounds_u16 w0, bounds_u16 w1, bounds_u8 w2, bounds_u64 w3⟩, rfl⟩) h
end Go.Proofs.Ytfaekfdngkpkdaa
/- The document's memory with some words written. -/
namespace Go.Proofs.Ytfaekfdngkpkdaa
set_option linter.unusedVariables false
set_option linter.unusedSimpArgs false
open Go.RowKit
attribute [local go_sem] wext_cell wext_frozen wext_heap alloc_cell alloc_frozen alloc_heap setCell_cell objCell_cells objFrozen_cells

def EndRBuilt (ds : List PutD) (w : World) (e : Ending) (w' : World) : Prop :=
  ∃ sa sc S, e = .returned (.agg #[.int .i64 16, .slice sa S.length sc, .slice none 0 0]) ∧ SAt w' sa sc S ∧ RefOk 16 S (builtM (ds.take 100)) ∧ S.length ≤ 100 ∧ Ext w w'
set_option maxHeartbeats 2000000 in
set_option maxRecDepth 20000 in
theorem rBuilt_c (v : Value) (ds : List PutD) (w : World) (h : ListAt w v 4 PutD.cells PutD.ok ds) :
    Calls Try.prog 15 #[v] w (EndRBuilt ds w) := by
  have HD := Lib.hid h
  obtain ⟨a, cap, rfl, hn, hm, hok, -⟩ := h
  unfold maxLen at hm
  have HK := Lib.hid hok
  generalize hE : EndRBuilt ds w = E
  have HE := Lib.hid hE
  clear hE hok
  go_enter Try.func15, Try.ntmps15
  go_wp2
  refine wp_gen ?_; intro V hV
  have hVE : Ext w V := by rw [hV]; exact (by repeat (first | exact Ext.refl _ | assumption | refine Ext.alloc ?_ _ | refine Ext.drew ?_ | refine Ext.setCell ?_ (by first | (simp; done) | (dsimp only; omega)) _ | refine Ext.trans ?_ (by assumption)))
  have hV0 : V.heap[w.heap.size]? = some (.cells #[.int .i64 0, .slice none 0 0, .slice none 0 0] 34 (0, 0)) := by rw [hV]; exact (alloc_other _ _ (by simp)).trans (alloc_same ..)
  have hV1 : V.heap[w.heap.size + 1]? = some (.cells #[.int .i64 16, .slice none 0 0, .slice none 0 0] 34 (0, 0)) := by rw [hV]; exact alloc_same1 ..
  obtain ⟨vb, hvb⟩ : ∃ vb, w.heap.size = vb := ⟨_, rfl⟩
  rw [hvb] at hV0 hV1 ⊢
  have hwv : w.heap.size ≤ vb := by omega
  have VE := Lib.hid hVE
  have V0 := Lib.hid hV0
  have V1 := Lib.hid hV1
  clear hV hVE hV0 hV1 hvb
  go_loopw [4] (fun iv wr => ∃ (i : Nat) (S : List (Int × Int)) (sa : Option Addr) (sc : Nat), i ≤ ds.length ∧ i ≤ 100 ∧ iv = .int .i64 i ∧ S.length ≤ i ∧ Hid (wr.heap[vb]? = some (.cells #[.int .i64 0, .slice none 0 0, .slice none 0 0] 34 (0, 0)) ∧
    wr.heap[vb + 1]? = some (.cells #[.int .i64 16, .slice sa S.length sc, .slice none 0 0] 34 (0, 0)) ∧ SAt wr sa sc S ∧ RefOk 16 S (builtM (ds.take i)) ∧ Ext w wr)) (fun iv _ => ds.length - (intOf iv).toNat)
  case atStart => exact ⟨0, [], none, 0, by omega, by omega, rfl, by simp, Lib.hid ⟨V0.out, V1.out, Owns.nil _ _ _, RefOk.nil 16, VE.out⟩⟩
  case round =>
    obtain ⟨i, S, sa, sc, hi, hi2, rfl, hSl, hR⟩ := hrel
    have c0 := (heap_cell hR.out.2.1 0).trans rfl
    have c1 := (heap_cell hR.out.2.1 1).trans rfl
    have c2 := (heap_cell hR.out.2.1 2).trans rfl
    have cl := heap_lt hR.out.2.1
    by_cases hrun : i < ds.length ∧ i < 100
    · obtain ⟨hlt, h120⟩ := hrun
      obtain ⟨a', cap', he, -, -, -, hcl⟩ := HD.out
      obtain ⟨g, o, e1, e2, e3⟩ := hcl i hlt
      have he' : a = a' := by injection he
      have hstep := builtM_take ds i hlt
      have hdok := HK.out i hlt
      generalize ds.getD i default = d at e3 hstep hdok
      subst he'
      subst e1
      have hwr := hR.out.2.2.2.2
      have e3w : ∀ j u, d.cells[j]? = some u → wr.cell? ⟨g, o + i * 4 + j, none⟩ = some u := fun j u hu => hwr.someCell (e3 j u hu)
      have d0 : wr.cell? ⟨g, o + i * 4, none⟩ = some (.int .u16 d.s) := e3w 0 _ rfl
      have d1 := e3w 1 _ rfl
      have d2 := e3w 2 _ rfl
      have d3 := e3w 3 _ rfl
      have hgr : g < wr.heap.size := Nat.lt_of_lt_of_le e2 hwr.size
      have HAT := Lib.hid (fun w => at8_c d w hdok)
      have hs := atS_le hdok
      have hx := atX_le hdok
      have he16 := err16 (s := atS d) (by omega) hs.2.2
      have hok2 := hR.out.2.2.2.1.set hs.1 he16 hx.1 hx.2
      have hb2 : builtM (ds.take (i + 1)) = setM (builtM (ds.take i)) (atS d / 8) (atX d) := by rw [hstep]; unfold setIf; rw [if_pos he16]
      rw [← hb2] at hok2
      obtain ⟨S2, hS2⟩ : ∃ S2, setL (atS d) (atX d) false S = S2 := ⟨_, rfl⟩
      have hl2 : S2.length ≤ i + 1 := by rw [← hS2]; have := set_length (atS d) (atX d) S false; omega
      rw [hS2] at hok2
      have hst := fun w' (k : SAt w' sa sc S) => rStore_c 16 (by omega) sa none S 0 sc 0 (atS d) (atX d) w' k (by omega) hs.1 (by omega) he16
      rw [hS2] at hst
      have HST := Lib.hid hst
      have HO2 := Lib.hid hok2
      clear he hcl e3 e3w hstep hs hx hst hok2 hb2 hS2 he16 hwr
      generalize atS d = s at *
      generalize atX d = x at *
      go_upto_region 6 with (first | (go_at_call 58; refine (HAT.out _).mono ?_; rintro e w2 ⟨rfl, hb2⟩))
      have E2 : Hid (Ext wr w2) := Lib.hid (Ext.trans (by repeat (first | exact Ext.refl _ | assumption | refine Ext.alloc ?_ _ | refine Ext.drew ?_ | refine Ext.setCell ?_ (by first | (simp; done) | (dsimp only; omega)) _ | refine Ext.trans ?_ (by assumption))) hb2)
      have b1 := (E2.out.block _ (heap_lt hR.out.2.1)).trans hR.out.2.1
      clear hb2 c0 c1 c2 d0 d1 d2 d3
      have c0 := (heap_cell b1 0).trans rfl
      have c1 := (heap_cell b1 1).trans rfl
      have c2 := (heap_cell b1 2).trans rfl
      have bl := heap_lt b1
      clear b1
      go_upto_region 7 with (first | (go_at_call 60; refine (HST.out _ (SAt.ext hR.out.2.2.1 (E2.out.trans (by repeat (first | exact Ext.refl _ | assumption | refine Ext.alloc ?_ _ | refine Ext.drew ?_ | refine Ext.setCell ?_ (by first | (simp; done) | (dsimp only; omega)) _ | refine Ext.trans ?_ (by assumption)))))).mono ?_; rintro e w3 ⟨sa2, sc2, rfl, hs2, hb3⟩))
      refine wp_gen ?_; intro U hU
      have E3 : Ext wr w3 := E2.out.trans (Ext.trans (by repeat (first | exact Ext.refl _ | assumption | refine Ext.alloc ?_ _ | refine Ext.drew ?_ | refine Ext.setCell ?_ (by first | (simp; done) | (dsimp only; omega)) _ | refine Ext.trans ?_ (by assumption))) hb3)
      have hUE : Ext wr U := by rw [hU]; exact E3.alloc _
      have hUn : U.heap[w3.heap.size]? = some (.cells #[.int .i64 16, .slice sa2 S2.length sc2, .slice none 0 0] 34 (0, 0)) := by rw [hU]; exact alloc_same ..
      have hUs : SAt U sa2 sc2 S2 := by rw [hU]; exact SAt.ext hs2 ((Ext.refl _).alloc _)
      obtain ⟨nb, hnb⟩ : ∃ nb, w3.heap.size = nb := ⟨_, rfl⟩
      rw [hnb] at hUn ⊢
      have hb0 := (hUE.block _ (heap_lt hR.out.1)).trans hR.out.1
      have hb1 := (hUE.block _ (heap_lt hR.out.2.1)).trans hR.out.2.1
      have B0 := Lib.hid hb0
      have B1 := Lib.hid hb1
      have US := Lib.hid hUs
      have UE := Lib.hid (hR.out.2.2.2.2.trans hUE)
      clear hU hUE hUs hnb hb0 E3 hb3 hs2 c0 c1 c2 bl cl
      have c0 := (heap_cell hb1 0).trans rfl
      have c1 := (heap_cell hb1 1).trans rfl
      have c2 := (heap_cell hb1 2).trans rfl
      have cf := frozen_of hb1
      have cl := heap_lt hb1
      have n0 := (heap_cell hUn 0).trans rfl
      have n1 := (heap_cell hUn 1).trans rfl
      have n2 := (heap_cell hUn 2).trans rfl
      have nl := heap_lt hUn
      clear hb1 hUn
      go_wp2
      refine ⟨⟨i + 1, S2, sa2, sc2, by omega, by omega, by go_num, hl2, Lib.hid ⟨(store3_other (by omega)).trans B0.out, store3_heap B1.out, Owns.keep US.out fun g hg => store3_other (Owns.ne US.out B1.out (by decide) g hg), HO2.out, ext3 UE.out (by omega)⟩⟩, by simp [intOf]; omega⟩
    · have hstop : (i = 100 ∧ 100 < ds.length) ∨ i = ds.length := by omega
      have hbt : builtM (ds.take i) = builtM (ds.take 100) := by
        rcases hstop with ⟨rfl, -⟩ | rfl
        · rfl
        · rw [List.take_of_length_le (Nat.le_refl _), List.take_of_length_le hi2]
      have HBT := Lib.hid hbt
      have r0 := (heap_cell hR.out.1 0).trans rfl
      have r1 := (heap_cell hR.out.1 1).trans rfl
      have r2 := (heap_cell hR.out.1 2).trans rfl
      have rf := frozen_of hR.out.1
      have rl := heap_lt hR.out.1
      clear hbt hrun
      rcases hstop with ⟨rfl, h100⟩ | rfl
      all_goals
        go_wp2
        refine post_gen (fun U => U.heap[vb]? = some (.cells #[.int .i64 16, .slice sa S.length sc, .slice none 0 0] 34 (0, 0)) ∧ SAt U sa sc S ∧ Ext w U) ⟨store3_heap hR.out.1, Owns.keep hR.out.2.2.1 fun g hg => store3_other (Owns.ne hR.out.2.2.1 hR.out.1 (by decide) g hg), ext3 hR.out.2.2.2.2 hwv⟩ ?_
        clear c0 c1 c2 r0 r1 r2 rf
        rintro U ⟨m3, s3, e3⟩
        have v0 := (heap_cell m3 0).trans rfl
        have v1 := (heap_cell m3 1).trans rfl
        have v2 := (heap_cell m3 2).trans rfl
        have HE3 := Lib.hid e3
        have HS3 := Lib.hid s3
        clear m3 e3 s3
        refine bodyPost_ret (by simp [results, Try.results15, go_sem, ↓IntWalk.iteOmega, *]; try rfl) rfl (by rw [← HE.out]; exact ⟨sa, sc, S, rfl, HS3.out, by first | exact hR.out.2.2.2.1 | (rw [← HBT.out]; exact hR.out.2.2.2.1), by omega, HE3.out⟩)
end Go.Proofs.Ytfaekfdngkpkdaa
/- The document's Same. -/
namespace Go.Proofs.Ytfaekfdngkpkdaa
set_option linter.unusedVariables false
set_option linter.unusedSimpArgs false
open Go.RowKit
attribute [local go_sem] wext_cell wext_frozen wext_heap alloc_cell alloc_frozen alloc_heap setCell_cell objCell_cells objFrozen_cells
theorem rrt_equal (x y : Rt) (w : World) : (Op.equal 43 (.agg #[.bool x.1, .bool x.2.1, .bool x.2.2]) (.agg #[.bool y.1, .bool y.2.1, .bool y.2.2])).run Try.prog w = .ok (decide (x = y)) w := by
  show (Op.equalIn 10000 _ _ _).run _ _ = _
  obtain ⟨p, l, t⟩ := x
  obtain ⟨p', l', t'⟩ := y
  simp [go_sem]
  by_cases h1 : p = p' <;> by_cases h2 : l = l' <;> by_cases h3 : t = t' <;> simp [*]
theorem rrt_eql (p l t p' l' t' : Bool) (w : World) : (binOp .eql 43 (.agg #[.bool p, .bool l, .bool t]) (.agg #[.bool p', .bool l', .bool t'])).run Try.prog w = .ok (.bool (rtB (p, l, t) (p', l', t'))) w := by
  have := rrt_equal (p, l, t) (p', l', t') w
  rw [run_eql_struct]
  show ((Op.equal _ _ _).run _ _).andThen _ = _
  rw [this]; rfl
theorem rrt_neq (p l t p' l' t' : Bool) (w : World) : (binOp .neq 43 (.agg #[.bool p, .bool l, .bool t]) (.agg #[.bool p', .bool l', .bool t'])).run Try.prog w = .ok (.bool (!rtB (p, l, t) (p', l', t'))) w := by
  have := rrt_equal (p, l, t) (p', l', t') w
  rw [run_neq_struct]
  show ((Op.equal _ _ _).run _ _).andThen _ = _
  rw [this]; rfl
attribute [local go_sem high] rrt_eql rrt_neq
set_option maxHeartbeats 4000000 in
set_option maxRecDepth 100000 in
theorem refSame_c (L1 L2 : List Stp) (w1 w2 : Int) (a1 b1 c1 a2 b2 c2 : Bool) (l1 l2 f1 f2 : Int) (sa1 sa2 : Option Addr) (sc1 sc2 : Nat) (U : World) (hS1 : StepsAt U sa1 L1) (hS2 : StepsAt U sa2 L2) (hL1 : L1.length ≤ 5864062014634) (hL2 : L2.length ≤ 5864062014634)
    (hw1 : ∀ i, i < L1.length → 0 ≤ (stpAt L1 i).2.2 ∧ (stpAt L1 i).2.2 ≤ 18446744073709551615) (hw2 : ∀ i, i < L2.length → 0 ≤ (stpAt L2 i).2.2 ∧ (stpAt L2 i).2.2 ≤ 18446744073709551615) :
    Calls Try.prog 77 #[.agg #[.slice sa1 L1.length sc1, .int .i64 w1, .bool a1, .bool b1, .bool c1, .int .i64 l1, .int .u64 f1], .agg #[.slice sa2 L2.length sc2, .int .i64 w2, .bool a2, .bool b2, .bool c2, .int .i64 l2, .int .u64 f2]] U
      fun e V => e = .returned (.bool (sameP (L1, w1, (a1, b1, c1), l1, f1) (L2, w2, (a2, b2, c2), l2, f2))) ∧ Ext U V := by
  have S1 := Lib.hid hS1
  have S2 := Lib.hid hS2
  have W1 := Lib.hid hw1
  have W2 := Lib.hid hw2
  obtain ⟨b, hb⟩ : ∃ b, sameP (L1, w1, (a1, b1, c1), l1, f1) (L2, w2, (a2, b2, c2), l2, f2) = b := ⟨_, rfl⟩
  rw [hb]
  have HB := Lib.hid hb
  clear hS1 hS2 hw1 hw2 hb
  by_cases q1 : w1 = w2
  case neg =>
    have e1 : (w1 != w2) = true := by simpa using q1
    have : b = false := by rw [← HB.out]; simp [sameP, q1]
    subst this
    clear q1
    go_enter Try.func77, Try.ntmps77
    go_wp2
    go_ret
    exact ⟨rfl, (by repeat (first | exact Ext.refl _ | assumption | refine Ext.alloc ?_ _ | refine Ext.drew ?_ | refine Ext.setCell ?_ (by first | (simp; done) | (dsimp only; omega)) _ | refine Ext.trans ?_ (by assumption)))⟩
  have e1 : (w1 != w2) = false := by simpa using q1
  cases q2 : rtB (a1, b1, c1) (a2, b2, c2)
  case false =>
    have : b = false := by rw [← HB.out]; simp [sameP, q2]
    subst this
    clear q1
    go_enter Try.func77, Try.ntmps77
    go_wp2
    go_ret
    exact ⟨rfl, (by repeat (first | exact Ext.refl _ | assumption | refine Ext.alloc ?_ _ | refine Ext.drew ?_ | refine Ext.setCell ?_ (by first | (simp; done) | (dsimp only; omega)) _ | refine Ext.trans ?_ (by assumption)))⟩
  by_cases q3 : l1 = l2
  case neg =>
    have e3 : (l1 != l2) = true := by simpa using q3
    have : b = false := by rw [← HB.out]; simp [sameP, q3]
    subst this
    clear q1 q3
    go_enter Try.func77, Try.ntmps77
    go_wp2
    go_ret
    exact ⟨rfl, (by repeat (first | exact Ext.refl _ | assumption | refine Ext.alloc ?_ _ | refine Ext.drew ?_ | refine Ext.setCell ?_ (by first | (simp; done) | (dsimp only; omega)) _ | refine Ext.trans ?_ (by assumption)))⟩
  have e3 : (l1 != l2) = false := by simpa using q3
  by_cases q4 : f1 = f2
  case neg =>
    have e4 : (f1 != f2) = true := by simpa using q4
    have : b = false := by rw [← HB.out]; simp [sameP, q4]
    subst this
    clear q1 q3 q4
    go_enter Try.func77, Try.ntmps77
    go_wp2
    go_ret
    exact ⟨rfl, (by repeat (first | exact Ext.refl _ | assumption | refine Ext.alloc ?_ _ | refine Ext.drew ?_ | refine Ext.setCell ?_ (by first | (simp; done) | (dsimp only; omega)) _ | refine Ext.trans ?_ (by assumption)))⟩
  have e4 : (f1 != f2) = false := by simpa using q4
  by_cases q5 : L1.length = L2.length
  case neg =>
    have e5 : ((L1.length : Int) != (L2.length : Int)) = true := by rw [bne_iff_ne]; omega
    have : b = false := by rw [← HB.out]; simp [sameP, q5]
    subst this
    clear q1 q3 q4 q5
    go_enter Try.func77, Try.ntmps77
    go_wp2
    go_ret
    exact ⟨rfl, (by repeat (first | exact Ext.refl _ | assumption | refine Ext.alloc ?_ _ | refine Ext.drew ?_ | refine Ext.setCell ?_ (by first | (simp; done) | (dsimp only; omega)) _ | refine Ext.trans ?_ (by assumption)))⟩
  have e5 : ((L1.length : Int) != (L2.length : Int)) = false := by rw [q5]; simp
  have HL : Hid (b = eqvSB L1 L2) := Lib.hid (by rw [← HB.out]; simp [sameP, q1, q2, q3, q4, q5])
  have HQ5 := Lib.hid q5
  clear q1 q3 q4 q5
  generalize hE : (fun (e : Ending) (V : World) => e = .returned (.bool b) ∧ Ext U V) = E
  have HE := Lib.hid hE
  clear hE
  go_enter Try.func77, Try.ntmps77
  go_upto_region 3 with (fail)
  refine wp_gen ?_; intro V hV
  have hVE : Ext U V := by rw [hV]; exact (by repeat (first | exact Ext.refl _ | assumption | refine Ext.alloc ?_ _ | refine Ext.drew ?_ | refine Ext.setCell ?_ (by first | (simp; done) | (dsimp only; omega)) _ | refine Ext.trans ?_ (by assumption)))
  have hV1 : V.heap[U.heap.size]? = some (.cells #[.slice sa1 L1.length sc1, .int .i64 w1, .bool a1, .bool b1, .bool c1, .int .i64 l1, .int .u64 f1] 45 (0, 0)) := by rw [hV]; exact (alloc_other _ _ (by simp)).trans (alloc_same ..)
  have hV2 : V.heap[U.heap.size + 1]? = some (.cells #[.slice sa2 L2.length sc2, .int .i64 w2, .bool a2, .bool b2, .bool c2, .int .i64 l2, .int .u64 f2] 45 (0, 0)) := by rw [hV]; exact alloc_same1 ..
  have VE := Lib.hid hVE
  have V1 := Lib.hid hV1
  have V2 := Lib.hid hV2
  have y0 := (heap_cell hV1 0).trans rfl
  have hvl := heap_lt hV2
  have hvl1 := heap_lt hV1
  clear hV hVE hV1 hV2 e1 e3 e4 e5 q2
  go_wp2
  clear y0
  go_loopw [5] (fun i wr => ∃ (j : Nat), j ≤ L1.length ∧ i = .int .i64 j ∧ Hid (Ext V wr ∧ b = eqvSB (L1.drop j) (L2.drop j))) (fun i _ => L1.length - (intOf i).toNat)
  case atStart => exact ⟨0, by omega, rfl, Lib.hid ⟨Ext.refl _, by simpa using HL.out⟩⟩
  case round =>
    obtain ⟨j, hj, rfl, hR⟩ := hrel
    have d1 := (heap_cell ((hR.out.1.block _ hvl1).trans V1.out) 0).trans rfl
    have d2 := (heap_cell ((hR.out.1.block _ hvl).trans V2.out) 0).trans rfl
    have hvr := Nat.lt_of_lt_of_le hvl hR.out.1.size
    have hvr1 := Nat.lt_of_lt_of_le hvl1 hR.out.1.size
    by_cases hlt : j < L1.length
    · have hlt2 : j < L2.length := by rw [← HQ5.out]; exact hlt
      obtain ⟨g1, o1, rfl, hg1, s0, s1, s2⟩ := ((S1.out.ext VE.out).ext hR.out.1) j hlt
      obtain ⟨g2, o2, rfl, hg2, t0, t1, t2⟩ := ((S2.out.ext VE.out).ext hR.out.1) j hlt2
      obtain ⟨m0, m1⟩ := W1.out j hlt
      obtain ⟨n0, n1⟩ := W2.out j hlt2
      have hst := eqvSB_drop L1 L2 j hlt hlt2
      generalize stpAt L1 j = x at s0 s1 s2 m0 m1 hst
      generalize stpAt L2 j = y at t0 t1 t2 n0 n1 hst
      obtain ⟨xl, xa, xw⟩ := x
      obtain ⟨yl, ya, yw⟩ := y
      dsimp only at s0 s1 s2 t0 t1 t2 m0 m1 n0 n1 hst
      have ho1 := or96 m0 m1
      have ho2 := or96 n0 n1
      have HST := Lib.hid hst
      have HO := Lib.hid (bareI_ne m0 m1 n0 n1)
      clear hst ho1 ho2
      by_cases z1 : xl = yl
      case neg =>
        have e1 : (xl != yl) = true := by simpa using z1
        have HBF : Hid (b = false) := Lib.hid (by rw [hR.out.2, HST.out]; simp [eqvB, stB, z1])
        clear z1
        go_upto_region 8 with (fail)
        refine region_ext (by kernel_rfl) (by kernel_rfl) ?_; (repeat (go_big_quiet_step (fail))); refine wpQuiet_nil ?_; intro w1 hb; have ⟨hc, hf, hh, hs⟩ := hb.facts; try simp only [World.size_alloc, World.size_setCell, World.size_drew] at hs
        go_wp2
        all_goals
          (try go_ret)
          rw [← HE.out]
          exact ⟨by rw [HBF.out]; rfl, (VE.out.trans hR.out.1).trans (by repeat (first | exact Ext.refl _ | assumption | refine Ext.alloc ?_ _ | refine Ext.drew ?_ | refine Ext.setCell ?_ (by first | (simp; done) | (dsimp only; omega)) _ | refine Ext.trans ?_ (by assumption)))⟩
      have e1 : (xl != yl) = false := by simpa using z1
      by_cases z2 : xa = ya
      case neg =>
        have e2 : (xa != ya) = true := by simpa using z2
        have HBF : Hid (b = false) := Lib.hid (by rw [hR.out.2, HST.out]; simp [eqvB, stB, z2])
        clear z1 z2
        go_upto_region 8 with (fail)
        refine region_ext (by kernel_rfl) (by kernel_rfl) ?_; (repeat (go_big_quiet_step (fail))); refine wpQuiet_nil ?_; intro w1 hb; have ⟨hc, hf, hh, hs⟩ := hb.facts; try simp only [World.size_alloc, World.size_setCell, World.size_drew] at hs
        go_wp2
        all_goals
          (try go_ret)
          rw [← HE.out]
          exact ⟨by rw [HBF.out]; rfl, (VE.out.trans hR.out.1).trans (by repeat (first | exact Ext.refl _ | assumption | refine Ext.alloc ?_ _ | refine Ext.drew ?_ | refine Ext.setCell ?_ (by first | (simp; done) | (dsimp only; omega)) _ | refine Ext.trans ?_ (by assumption)))⟩
      have e2 : (xa != ya) = false := by simpa using z2
      cases z3 : bareI xw != bareI yw
      · have HBT : Hid (b = eqvSB (L1.drop (j + 1)) (L2.drop (j + 1))) := Lib.hid (by
          rw [hR.out.2, HST.out]
          have h9 := HO.out
          rw [z3] at h9
          have h8 : orD xw = orD yw := by simpa using h9
          simp [eqvB, stB, z1, z2, h8])
        clear z1 z2
        go_upto_region 8 with (fail)
        refine region_ext (by kernel_rfl) (by kernel_rfl) ?_; (repeat (go_big_quiet_step ((go_at_call 119; exact calls_wext (refBare_c _ _ (by assumption) (by assumption)))))); refine wpQuiet_nil ?_; intro w1 hb; have ⟨hc, hf, hh, hs⟩ := hb.facts; try simp only [World.size_alloc, World.size_setCell, World.size_drew] at hs
        go_wp2
        refine ⟨⟨j + 1, by omega, by go_num, Lib.hid ⟨hR.out.1.trans (by repeat (first | exact Ext.refl _ | assumption | refine Ext.alloc ?_ _ | refine Ext.drew ?_ | refine Ext.setCell ?_ (by first | (simp; done) | (dsimp only; omega)) _ | refine Ext.trans ?_ (by assumption))), HBT.out⟩⟩, by simp [intOf]; omega⟩
      · have HBF : Hid (b = false) := Lib.hid (by
          rw [hR.out.2, HST.out]
          have h9 := HO.out
          rw [z3] at h9
          have h8 : (orD xw == orD yw) = false := by simpa using h9
          have h7 : orD xw ≠ orD yw := by simpa using h8
          simp [eqvB, stB, h7])
        clear z1 z2
        go_upto_region 8 with (fail)
        refine region_ext (by kernel_rfl) (by kernel_rfl) ?_; (repeat (go_big_quiet_step ((go_at_call 119; exact calls_wext (refBare_c _ _ (by assumption) (by assumption)))))); refine wpQuiet_nil ?_; intro w1 hb; have ⟨hc, hf, hh, hs⟩ := hb.facts; try simp only [World.size_alloc, World.size_setCell, World.size_drew] at hs
        go_wp2
        all_goals
          (try go_ret)
          rw [← HE.out]
          exact ⟨by rw [HBF.out]; rfl, (VE.out.trans hR.out.1).trans (by repeat (first | exact Ext.refl _ | assumption | refine Ext.alloc ?_ _ | refine Ext.drew ?_ | refine Ext.setCell ?_ (by first | (simp; done) | (dsimp only; omega)) _ | refine Ext.trans ?_ (by assumption)))⟩
    · obtain rfl : j = L1.length := by omega
      have HBT : Hid (b = true) := Lib.hid (by rw [hR.out.2, List.drop_of_length_le (Nat.le_refl _)]; rfl)
      go_wp2
      all_goals
        (try go_ret)
        rw [← HE.out]
        exact ⟨by rw [HBT.out]; rfl, (VE.out.trans hR.out.1).trans (by repeat (first | exact Ext.refl _ | assumption | refine Ext.alloc ?_ _ | refine Ext.drew ?_ | refine Ext.setCell ?_ (by first | (simp; done) | (dsimp only; omega)) _ | refine Ext.trans ?_ (by assumption)))⟩
end Go.Proofs.Ytfaekfdngkpkdaa
/- WalkGoes' helpers: exact, same. -/
namespace Go.Proofs.Ytfaekfdngkpkdaa
set_option linter.unusedVariables false
set_option linter.unusedSimpArgs false
open Go.RowKit
attribute [local go_sem] wext_cell wext_frozen wext_heap alloc_cell alloc_frozen alloc_heap setCell_cell objCell_cells objFrozen_cells

theorem rst_equal (x y : Stp) (w : World) : (Op.equal 146 (.agg #[.int .i64 x.1, .int .u64 x.2.1, .int .u64 x.2.2]) (.agg #[.int .i64 y.1, .int .u64 y.2.1, .int .u64 y.2.2])).run Try.prog w = .ok (decide (x = y)) w := by
  show (Op.equalIn 10000 _ _ _).run _ _ = _
  obtain ⟨p, l, t⟩ := x
  obtain ⟨p', l', t'⟩ := y
  simp [go_sem]
  by_cases h1 : p = p' <;> by_cases h2 : l = l' <;> by_cases h3 : t = t' <;> simp [*]
theorem rst_neq (p l t p' l' t' : Int) (w : World) : (binOp .neq 146 (.agg #[.int .i64 p, .int .u64 l, .int .u64 t]) (.agg #[.int .i64 p', .int .u64 l', .int .u64 t'])).run Try.prog w = .ok (.bool (!stB (p, l, t) (p', l', t'))) w := by
  have := rst_equal (p, l, t) (p', l', t') w
  rw [run_neq_struct]
  show ((Op.equal _ _ _).run _ _).andThen _ = _
  rw [this]; rfl
attribute [local go_sem high] rst_neq
set_option maxHeartbeats 2000000 in
set_option maxRecDepth 20000 in
theorem exact_c (L : List Stp) (why : Int) (rr : Rt) (lv fr : Int) (sa1 sa2 : Option Addr) (sc1 sc2 : Nat) (w : World) (h1 : StepsAt w sa1 L) (h2 : StepsAt w sa2 L) (hL : L.length ≤ 1000)
    (hw : ∀ i, i < L.length → 0 ≤ (stpAt L i).2.2 ∧ (stpAt L i).2.2 ≤ 18446744073709551615) :
    Calls Try.prog 18 #[.agg #[.slice sa1 L.length sc1, .int .i64 why, .bool rr.1, .bool rr.2.1, .bool rr.2.2, .int .i64 lv, .int .u64 fr], .agg #[.slice sa2 L.length sc2, .int .i64 why, .bool rr.1, .bool rr.2.1, .bool rr.2.2, .int .i64 lv, .int .u64 fr]] w fun e w' => e = .returned (.bool true) ∧ Ext w w' := by
  have H1 := Lib.hid h1
  have H2 := Lib.hid h2
  obtain ⟨r0, r1, r2⟩ := rr
  have hs := fun w a b => refSame_c L L why why r0 r1 r2 r0 r1 r2 lv lv fr fr sa1 sa2 sc1 sc2 w a b (by omega) (by omega) hw hw
  rw [show sameP (L, why, (r0, r1, r2), lv, fr) (L, why, (r0, r1, r2), lv, fr) = true from same_of (eqvS_refl L)] at hs
  have HS := Lib.hid hs
  clear h1 h2 hs hw
  go_enter Try.func18, Try.ntmps18
  go_upto_region 1 with (fail)
  refine wp_gen ?_; intro V hV
  have hVE : Ext w V := by rw [hV]; exact (by repeat (first | exact Ext.refl _ | assumption | refine Ext.alloc ?_ _ | refine Ext.drew ?_ | refine Ext.setCell ?_ (by first | (simp; done) | (dsimp only; omega)) _ | refine Ext.trans ?_ (by assumption)))
  have hV0 : V.heap[w.heap.size]? = some (.cells #[.slice sa1 L.length sc1, .int .i64 why, .bool r0, .bool r1, .bool r2, .int .i64 lv, .int .u64 fr] 45 (0, 0)) := by rw [hV]; exact (alloc_other _ _ (by simp)).trans (alloc_same ..)
  have hV1 : V.heap[w.heap.size + 1]? = some (.cells #[.slice sa2 L.length sc2, .int .i64 why, .bool r0, .bool r1, .bool r2, .int .i64 lv, .int .u64 fr] 45 (0, 0)) := by rw [hV]; exact alloc_same1 ..
  obtain ⟨vb, hvb⟩ : ∃ vb, w.heap.size = vb := ⟨_, rfl⟩
  rw [hvb] at hV0 hV1 ⊢
  have VE := Lib.hid hVE
  have V0 := Lib.hid hV0
  have V1 := Lib.hid hV1
  clear hV hVE hV0 hV1 hvb
  have c0 := (heap_cell V0.out 0).trans rfl
  have c1 := (heap_cell V0.out 1).trans rfl
  have c2 := (heap_cell V0.out 2).trans rfl
  have c3 := (heap_cell V0.out 3).trans rfl
  have c4 := (heap_cell V0.out 4).trans rfl
  have c5 := (heap_cell V0.out 5).trans rfl
  have c6 := (heap_cell V0.out 6).trans rfl
  have d0 := (heap_cell V1.out 0).trans rfl
  have d1 := (heap_cell V1.out 1).trans rfl
  have d2 := (heap_cell V1.out 2).trans rfl
  have d3 := (heap_cell V1.out 3).trans rfl
  have d4 := (heap_cell V1.out 4).trans rfl
  have d5 := (heap_cell V1.out 5).trans rfl
  have d6 := (heap_cell V1.out 6).trans rfl
  have cl := heap_lt V0.out
  have dl := heap_lt V1.out
  go_upto_region 2 with (first | (go_at_call 77; refine (HS.out _ (H1.out.ext (VE.out.trans (by repeat (first | exact Ext.refl _ | assumption | refine Ext.alloc ?_ _ | refine Ext.drew ?_ | refine Ext.setCell ?_ (by first | (simp; done) | (dsimp only; omega)) _ | refine Ext.trans ?_ (by assumption))))) (H2.out.ext (VE.out.trans (by repeat (first | exact Ext.refl _ | assumption | refine Ext.alloc ?_ _ | refine Ext.drew ?_ | refine Ext.setCell ?_ (by first | (simp; done) | (dsimp only; omega)) _ | refine Ext.trans ?_ (by assumption)))))).mono ?_; rintro e w1 ⟨rfl, hb1⟩))
  have e1 : Ext V w1 := Ext.trans (by repeat (first | exact Ext.refl _ | assumption | refine Ext.alloc ?_ _ | refine Ext.drew ?_ | refine Ext.setCell ?_ (by first | (simp; done) | (dsimp only; omega)) _ | refine Ext.trans ?_ (by assumption))) hb1
  have E1 := Lib.hid e1
  clear hb1 e1 c0 c1 c2 c3 c4 c5 c6 d0 d1 d2 d3 d4 d5 d6 cl dl
  go_wp2
  go_loopw [5] (fun iv wr => ∃ i : Nat, i ≤ L.length ∧ iv = .int .i64 i ∧ Hid (Ext V wr)) (fun iv _ => L.length - (intOf iv).toNat)
  case atStart => exact ⟨0, by omega, rfl, E1⟩
  case round =>
    obtain ⟨i, hi, rfl, hR⟩ := hrel
    have hc := (hR.out.block _ (heap_lt V0.out)).trans V0.out
    have hd := (hR.out.block _ (heap_lt V1.out)).trans V1.out
    have c0 := (heap_cell hc 0).trans rfl
    have d0 := (heap_cell hd 0).trans rfl
    have cl := heap_lt hc
    have dl := heap_lt hd
    by_cases hlt : i < L.length
    · obtain ⟨g, o, hsa, hgl, s0, s1, s2⟩ := (H1.out.ext (VE.out.trans hR.out)) i hlt
      obtain ⟨g2, o2, hsa2, hgl2, z0, z1, z2⟩ := (H2.out.ext (VE.out.trans hR.out)) i hlt
      subst hsa hsa2
      generalize stpAt L i = sj at s0 s1 s2 z0 z1 z2
      obtain ⟨lj, aj, xj⟩ := sj
      dsimp only at s0 s1 s2 z0 z1 z2
      have hz := stB_self (lj, aj, xj)
      clear hc hd
      go_upto_region 6 with (fail)
      refine region_ext (by kernel_rfl) (by kernel_rfl) ?_; (repeat (go_big_quiet_step (fail))); refine wpQuiet_nil ?_; intro w1 hb; have ⟨hc, hf, hh, hs⟩ := hb.facts; try simp only [World.size_alloc, World.size_setCell, World.size_drew] at hs
      go_wp2
      refine ⟨⟨i + 1, by omega, by go_num, Lib.hid (hR.out.trans hb)⟩, by simp [intOf]; omega⟩
    · obtain rfl : i = L.length := by omega
      clear hc hd
      go_wp2
      (try go_ret)
      exact ⟨rfl, VE.out.trans hR.out⟩

/-- The document's memory is the program's. -/
theorem RefOk.get {B : Int} {S : List (Int × Int)} {M : Int → Int} (h : RefOk B S M) {i : Nat} (hi : i < S.length) : (0 ≤ (wAt S i).1 ∧ (wAt S i).1 ≤ 18446744073709551615) ∧ errM B (wAt S i).1 = 0 ∧ M ((wAt S i).1 / 8) = (wAt S i).2 ∧ 0 ≤ (wAt S i).2 ∧ (wAt S i).2 ≤ 18446744073709551615 := by
  have hm : wAt S i ∈ S := by
    have : wAt S i = S[i] := by simp [wAt, List.getD, hi]
    rw [this]; exact List.getElem_mem hi
  obtain ⟨h1, h2, h3⟩ := h.entry hm
  obtain ⟨⟨k1, k2⟩, k3⟩ := h.word_le hm
  exact ⟨⟨h1, by omega⟩, h2, h3, k3⟩
set_option maxHeartbeats 600000 in
set_option maxRecDepth 20000 in
theorem same8_c (mb : Nat) (F : List Nat) (M : Int → Int) (T : List Int) (S : List (Int × Int)) (sa ta : Option Addr) (sc tc : Nat) (w : World) (h : MemAt w mb F 16 M T) (hS : SAt w sa sc S) (hT : TrAt w ta tc T) (hok : RefOk 16 S M) (hl : S.length ≤ 1000000) (hTl : T.length ≤ 1000000) :
    Calls Try.prog 20 #[.pointer (some ⟨mb, 0, none⟩), .agg #[.int .i64 16, .slice sa S.length sc, .slice ta T.length tc]] w fun e w' => e = .returned (.bool true) ∧ Ext w w' := by
  have H := Lib.hid h
  have HS := Lib.hid hS
  have HT := Lib.hid hT
  have HO := Lib.hid hok
  have HBi := Lib.hid (fun w h => bits_c mb F 16 M T w h)
  have HTr := Lib.hid (fun w h => trace_c mb F 16 M T w h hTl)
  clear h hS hT hok
  go_enter Try.func20, Try.ntmps20
  go_wp2
  refine wp_gen ?_; intro V hV
  have hVE : Ext w V := by rw [hV]; exact (by repeat (first | exact Ext.refl _ | assumption | refine Ext.alloc ?_ _ | refine Ext.drew ?_ | refine Ext.setCell ?_ (by first | (simp; done) | (dsimp only; omega)) _ | refine Ext.trans ?_ (by assumption)))
  have hV0 : V.heap[w.heap.size]? = some (.cells #[.int .i64 16, .slice sa S.length sc, .slice ta T.length tc] 34 (0, 0)) := by rw [hV]; exact alloc_same ..
  obtain ⟨vb, hvb⟩ : ∃ vb, w.heap.size = vb := ⟨_, rfl⟩
  rw [hvb] at hV0 ⊢
  have VE := Lib.hid hVE
  have V0 := Lib.hid hV0
  clear hV hVE hV0 hvb
  go_loopw [5] (fun iv wr => ∃ i : Nat, i ≤ S.length ∧ iv = .int .i64 i ∧ Hid (Ext V wr)) (fun iv _ => S.length - (intOf iv).toNat)
  case atStart => exact ⟨0, by omega, rfl, Lib.hid (Ext.refl _)⟩
  case round =>
    obtain ⟨i, hi, rfl, hR⟩ := hrel
    have hc := (hR.out.block _ (heap_lt V0.out)).trans V0.out
    have c0 := (heap_cell hc 0).trans rfl
    have c1 := (heap_cell hc 1).trans rfl
    have c2 := (heap_cell hc 2).trans rfl
    have cl := heap_lt hc
    by_cases hlt : i < S.length
    · obtain ⟨g, rfl, hgl, s0, s1⟩ := SAt.at (SAt.ext HS.out (VE.out.trans hR.out)) hlt
      obtain ⟨⟨k0, k1⟩, ke, km, k2, k3⟩ := HO.out.get hlt
      generalize wAt S i = z at s0 s1 k0 k1 ke km k2 k3
      obtain ⟨za, zx⟩ := z
      dsimp only at s0 s1 k0 k1 ke km k2 k3
      have hp := fun w h => peek_c mb F 16 M T za w h k0 k1
      rw [if_pos ke, ke, km] at hp
      have HP := Lib.hid hp
      have hzz : (zx != zx) = false := by simp
      clear hp ke km hc
      go_wp2_with (first | (go_at_call 55; refine (HP.out _ (H.out.ext ((VE.out.trans hR.out).trans (by repeat (first | exact Ext.refl _ | assumption | refine Ext.alloc ?_ _ | refine Ext.drew ?_ | refine Ext.setCell ?_ (by first | (simp; done) | (dsimp only; omega)) _ | refine Ext.trans ?_ (by assumption)))))).mono ?_; rintro e w1 ⟨rfl, hb1⟩; have ⟨hc, hf, hh, hs⟩ := hb1.facts; try simp only [World.size_alloc, World.size_setCell, World.size_drew] at hs))
      refine ⟨⟨i + 1, by omega, by go_num, Lib.hid (hR.out.trans (Ext.trans (by repeat (first | exact Ext.refl _ | assumption | refine Ext.alloc ?_ _ | refine Ext.drew ?_ | refine Ext.setCell ?_ (by first | (simp; done) | (dsimp only; omega)) _ | refine Ext.trans ?_ (by assumption))) hb1))⟩, by simp [intOf]; omega⟩
    · obtain rfl : i = S.length := by omega
      have HX := Lib.hid (VE.out.trans hR.out)
      clear hc
      go_upto_region 7 with (fail)
      refine region_mixG [.q [0, 2, 3], .l 1 3, .q [4, 5, 6, 8, 9], .l 7 3, .l 10 3, .q [11, 12]] (by kernel_rfl) (by kernel_rfl) ?_
      (try refine ⟨fun h => absurd h (by simp), ?_⟩); (repeat (unfold wpPlan; simp only [pickL, List.map_cons, List.map_nil, List.getD_cons_succ, List.getD_cons_zero]; (repeat go_big_quiet_step (fail)); refine wpQuiet_nil ?_)); unfold wpPlan; intro w4 hb4; (try simp only [pickL, List.map_cons, List.map_nil, List.getD_cons_succ, List.getD_cons_zero])
      go_wp2_with (first | (go_at_call 64; refine (HBi.out _ (H.out.ext (HX.out.trans hb4))).mono ?_; rintro e w5 ⟨rfl, hE5⟩))
      refine ⟨?_, ?_⟩
      · (try intro _); exact hb4.trans hE5
      have HB5 := Lib.hid (HX.out.trans (hb4.trans hE5))
      have hc5 := ((hb4.trans hE5).block _ (Nat.lt_of_lt_of_le (heap_lt V0.out) hR.out.size)).trans ((hR.out.block _ (heap_lt V0.out)).trans V0.out)
      clear hb4 hE5 c0 c1 c2 cl
      have c0 := (heap_cell hc5 0).trans rfl
      have c1 := (heap_cell hc5 1).trans rfl
      have c2 := (heap_cell hc5 2).trans rfl
      have cl := heap_lt hc5
      clear hc5
      (try refine ⟨fun h => absurd h (by simp), ?_⟩); (repeat (unfold wpPlan; simp only [pickL, List.map_cons, List.map_nil, List.getD_cons_succ, List.getD_cons_zero]; (repeat go_big_quiet_step (fail)); refine wpQuiet_nil ?_)); unfold wpPlan; intro w6 hb6; (try simp only [pickL, List.map_cons, List.map_nil, List.getD_cons_succ, List.getD_cons_zero])
      go_wp2_with (first | (go_at_call 51; refine (HTr.out _ (H.out.ext (HB5.out.trans hb6))).mono ?_; rintro e w7 ⟨v7, rfl, hO7, hE7, -⟩; obtain ⟨a7, c7, rfl, -, -⟩ := hO7.form))
      refine ⟨?_, ?_⟩
      · (try intro _); exact hb6.trans hE7
      have HB7 := Lib.hid (HB5.out.trans (hb6.trans hE7))
      have HO7 := Lib.hid hO7
      clear hb6 hE7 hO7
      (try refine ⟨fun h => absurd h (by simp), ?_⟩); (repeat (unfold wpPlan; simp only [pickL, List.map_cons, List.map_nil, List.getD_cons_succ, List.getD_cons_zero]; (repeat go_big_quiet_step (fail)); refine wpQuiet_nil ?_)); unfold wpPlan; intro w8 hb8; (try simp only [pickL, List.map_cons, List.map_nil, List.getD_cons_succ, List.getD_cons_zero])
      have hsm := rSame_c a7 ta T T c7 tc w8 (TrAt.ws (HO7.out.ext hb8)) (TrAt.ws (TrAt.ext HT.out (HB7.out.trans hb8))) hTl hTl
      rw [decide_eq_true (rfl : T = T)] at hsm
      have HSM := Lib.hid hsm
      clear hsm
      go_wp2_with (first | (go_at_call 78; refine HSM.out.mono ?_; rintro e w9 ⟨rfl, hE9⟩))
      refine ⟨?_, ?_⟩
      · (try intro _); exact hb8.trans hE9
      have HB9 := Lib.hid (HB7.out.trans (hb8.trans hE9))
      clear hb8 hE9
      (try refine ⟨fun h => absurd h (by simp), ?_⟩); (repeat (unfold wpPlan; simp only [pickL, List.map_cons, List.map_nil, List.getD_cons_succ, List.getD_cons_zero]; (repeat go_big_quiet_step (fail)); refine wpQuiet_nil ?_)); unfold wpPlan; intro wa hba; (try simp only [pickL, List.map_cons, List.map_nil, List.getD_cons_succ, List.getD_cons_zero])
      go_wp2
      (try go_ret)
      exact ⟨rfl, HB9.out.trans hba⟩
end Go.Proofs.Ytfaekfdngkpkdaa
/- Walks from levels that are none. -/
namespace Go.Proofs.Ytfaekfdngkpkdaa
set_option linter.unusedVariables false
set_option linter.unusedSimpArgs false
open Go.RowKit
attribute [local go_sem] wext_cell wext_frozen wext_heap alloc_cell alloc_frozen alloc_heap setCell_cell objCell_cells objFrozen_cells

set_option maxHeartbeats 1000000 in
set_option maxRecDepth 20000 in
theorem fromNo_c (mv : Option Addr) (lv t a : Int) (ra rb rc nxe : Bool) (w : World) (h : lv < 1 ∨ 4 < lv) :
    Calls Try.prog 16 #[.pointer mv, .agg #[.int .i64 lv, .int .u64 t, .bool ra, .bool rb, .bool rc], .int .u64 a, .bool nxe] w fun e w' => e = .returned (.agg #[.slice none 0 0, .int .i64 2, .bool false, .bool false, .bool false, .int .i64 0, .int .u64 0]) ∧ Ext w w' := by
  rcases h with h | h
  · go_enter Try.func16, Try.ntmps16
    go_wp2
    go_step3
    go_wp2
    go_step3
    go_wp2
    refine wp_gen ?_; intro V hV
    have hVE : Ext w V := by rw [hV]; exact (by repeat (first | exact Ext.refl _ | assumption | refine Ext.alloc ?_ _ | refine Ext.drew ?_ | refine Ext.setCell ?_ (by first | (simp; done) | (dsimp only; omega)) _ | refine Ext.trans ?_ (by assumption)))
    have hV1 : V.heap[w.heap.size + 1]? = some (.cells #[.slice none 0 0, .int .i64 0, .bool false, .bool false, .bool false, .int .i64 0, .int .u64 0] 38 (0, 0)) := by rw [hV]; exact (alloc_other _ _ (by simp)).trans (alloc_same1 ..)
    have hV2 : V.heap[w.heap.size + 1 + 1]? = some (.cells #[.slice none 0 0, .int .i64 2, .bool false, .bool false, .bool false, .int .i64 0, .int .u64 0] 38 (0, 0)) := by rw [hV]; exact alloc_same2 ..
    obtain ⟨vb, hvb⟩ : ∃ vb, w.heap.size = vb := ⟨_, rfl⟩
    rw [hvb] at hV1 hV2 ⊢
    have hwv : w.heap.size ≤ vb := by omega
    have VE := Lib.hid hVE
    have V1 := Lib.hid hV1
    have V2 := Lib.hid hV2
    clear hV hVE hV1 hV2 hvb
    go_loopw [10] (fun iv wr => iv = .int .i64 lv ∧ Hid (Ext V wr)) (fun _ _ => 0)
    case atStart => exact ⟨rfl, Lib.hid (Ext.refl _)⟩
    case round =>
      obtain ⟨rfl, hR⟩ := hrel
      have b1 := (hR.out.block _ (heap_lt V1.out)).trans V1.out
      have b2 := (hR.out.block _ (heap_lt V2.out)).trans V2.out
      have k0 := (heap_cell b1 0).trans rfl
      have k1 := (heap_cell b1 1).trans rfl
      have k2 := (heap_cell b1 2).trans rfl
      have k3 := (heap_cell b1 3).trans rfl
      have k4 := (heap_cell b1 4).trans rfl
      have k5 := (heap_cell b1 5).trans rfl
      have k6 := (heap_cell b1 6).trans rfl
      have y0 := (heap_cell b2 0).trans rfl
      have y1 := (heap_cell b2 1).trans rfl
      have y2 := (heap_cell b2 2).trans rfl
      have y3 := (heap_cell b2 3).trans rfl
      have y4 := (heap_cell b2 4).trans rfl
      have y5 := (heap_cell b2 5).trans rfl
      have y6 := (heap_cell b2 6).trans rfl
      have kf := frozen_of b1
      have kl := heap_lt b1
      have yl := heap_lt b2
      have B1 := Lib.hid b1
      clear b1 b2
      go_wp2
      (try rw [Exit.noGoto_ret])
      refine post_gen (fun X => X.heap[vb + 1]? = some (.cells #[.slice none 0 0, .int .i64 2, .bool false, .bool false, .bool false, .int .i64 0, .int .u64 0] 38 (0, 0)) ∧ Ext w X) ⟨store7_heap B1.out, ext7 (VE.out.trans hR.out) (by omega)⟩ ?_
      clear k0 k1 k2 k3 k4 k5 k6 y0 y1 y2 y3 y4 y5 y6 kf kl yl
      rintro X ⟨m5, e5⟩
      have v0 := (heap_cell m5 0).trans rfl
      have v1 := (heap_cell m5 1).trans rfl
      have v2 := (heap_cell m5 2).trans rfl
      have v3 := (heap_cell m5 3).trans rfl
      have v4 := (heap_cell m5 4).trans rfl
      have v5 := (heap_cell m5 5).trans rfl
      have v6 := (heap_cell m5 6).trans rfl
      clear m5
      refine bodyPost_ret (by simp [results, Try.results16, go_sem, ↓IntWalk.iteOmega, *]; try rfl) rfl ⟨rfl, e5⟩
  · go_enter Try.func16, Try.ntmps16
    go_wp2
    go_step3
    go_wp2
    (try rw [Exit.noGoto_ret])
    refine post_gen (fun X => X.heap[w.heap.size + 1]? = some (.cells #[.slice none 0 0, .int .i64 2, .bool false, .bool false, .bool false, .int .i64 0, .int .u64 0] 38 (0, 0)) ∧ Ext w X) ⟨?_, ?_⟩ ?_
    · exact (alloc_other _ _ (by simp)).trans (alloc_same1 ..)
    · exact (by repeat (first | exact Ext.refl _ | assumption | refine Ext.alloc ?_ _ | refine Ext.drew ?_ | refine Ext.setCell ?_ (by first | (simp; done) | (dsimp only; omega)) _ | refine Ext.trans ?_ (by assumption)))
    rintro X ⟨m5, e5⟩
    have v0 := (heap_cell m5 0).trans rfl
    have v1 := (heap_cell m5 1).trans rfl
    have v2 := (heap_cell m5 2).trans rfl
    have v3 := (heap_cell m5 3).trans rfl
    have v4 := (heap_cell m5 4).trans rfl
    have v5 := (heap_cell m5 5).trans rfl
    have v6 := (heap_cell m5 6).trans rfl
    clear m5
    refine bodyPost_ret (by simp [results, Try.results16, go_sem, ↓IntWalk.iteOmega, *]; try rfl) rfl ⟨rfl, e5⟩
theorem alloc_same4' (w : World) (o o1 o2 o3 o4 : Obj) : (((((w.alloc o1).alloc o2).alloc o3).alloc o4).alloc o).heap[w.heap.size + 1 + 1 + 1 + 1]? = some o := alloc_same4 ..
set_option maxHeartbeats 1000000 in
set_option maxRecDepth 20000 in
theorem rFromNo_c (B : Int) (sa ta : Option Addr) (n sc k tc : Nat) (lv t a : Int) (ra rb rc nxe : Bool) (w : World) (h : lv < 1 ∨ 4 < lv) :
    Calls Try.prog 17 #[.agg #[.int .i64 B, .slice sa n sc, .slice ta k tc], .agg #[.int .i64 lv, .int .u64 t, .bool ra, .bool rb, .bool rc], .int .u64 a, .bool nxe] w fun e w' => e = .returned (.tuple #[.agg #[.int .i64 B, .slice sa n sc, .slice ta k tc], .agg #[.slice none 0 0, .int .i64 2, .bool false, .bool false, .bool false, .int .i64 0, .int .u64 0]]) ∧ Ext w w' := by
  go_enter Try.func17, Try.ntmps17
  go_wp2
  refine wp_gen ?_; intro V hV
  have hVE : Ext w V := by rw [hV]; exact (by repeat (first | exact Ext.refl _ | assumption | refine Ext.alloc ?_ _ | refine Ext.drew ?_ | refine Ext.setCell ?_ (by first | (simp; done) | (dsimp only; omega)) _ | refine Ext.trans ?_ (by assumption)))
  have hV0 : V.heap[w.heap.size]? = some (.cells #[.int .i64 B, .slice sa n sc, .slice ta k tc] 34 (0, 0)) := by
    rw [hV]; exact (alloc_other _ _ (by first | (simp; done) | (simp; omega))).trans ((alloc_other _ _ (by first | (simp; done) | (simp; omega))).trans ((alloc_other _ _ (by first | (simp; done) | (simp; omega))).trans ((alloc_other _ _ (by simp)).trans (alloc_same ..))))
  have hV2 : V.heap[w.heap.size + 1 + 1]? = some (.cells #[.int .i64 0, .slice none 0 0, .slice none 0 0] 34 (0, 0)) := by
    rw [hV]; exact (alloc_other _ _ (by first | (simp; done) | (simp; omega))).trans ((alloc_other _ _ (by first | (simp; done) | (simp; omega))).trans (alloc_same2 ..))
  have hV3 : V.heap[w.heap.size + 1 + 1 + 1]? = some (.cells #[.slice none 0 0, .int .i64 0, .bool false, .bool false, .bool false, .int .i64 0, .int .u64 0] 45 (0, 0)) := by
    rw [hV]; exact (alloc_other _ _ (by first | (simp; done) | (simp; omega))).trans (alloc_same3 ..)
  obtain ⟨vb, hvb⟩ : ∃ vb, w.heap.size = vb := ⟨_, rfl⟩
  rw [hvb] at hV0 hV2 hV3 ⊢
  have hwv : w.heap.size ≤ vb := by omega
  have VE := Lib.hid hVE
  have V0 := Lib.hid hV0
  have V2 := Lib.hid hV2
  have V3 := Lib.hid hV3
  clear hV hVE hV0 hV2 hV3 hvb
  go_loopw [10, 13] (fun l iv wr => l = .slice none 0 0 ∧ iv = .int .i64 lv ∧ Hid (Ext V wr)) (fun _ _ _ => 0)
  case atStart => exact ⟨rfl, rfl, Lib.hid (Ext.refl _)⟩
  case round =>
    obtain ⟨rfl, rfl, hR⟩ := hrel
    have b0 := (hR.out.block _ (heap_lt V0.out)).trans V0.out
    have b2 := (hR.out.block _ (heap_lt V2.out)).trans V2.out
    have b3 := (hR.out.block _ (heap_lt V3.out)).trans V3.out
    have k0 := (heap_cell b0 0).trans rfl
    have k1 := (heap_cell b0 1).trans rfl
    have k2 := (heap_cell b0 2).trans rfl
    have y0 := (heap_cell b2 0).trans rfl
    have y1 := (heap_cell b2 1).trans rfl
    have y2 := (heap_cell b2 2).trans rfl
    have z0 := (heap_cell b3 0).trans rfl
    have z1 := (heap_cell b3 1).trans rfl
    have z2 := (heap_cell b3 2).trans rfl
    have z3 := (heap_cell b3 3).trans rfl
    have z4 := (heap_cell b3 4).trans rfl
    have z5 := (heap_cell b3 5).trans rfl
    have z6 := (heap_cell b3 6).trans rfl
    have yf := frozen_of b2
    have zf := frozen_of b3
    have kl := heap_lt b0
    have yl := heap_lt b2
    have zl := heap_lt b3
    have B2 := Lib.hid b2
    have B3 := Lib.hid b3
    clear b0 b2 b3
    have h2 : (lv < 1) ∨ (¬ lv < 1 ∧ decide (lv ≤ 4) = false) := by rcases h with h | h; exact .inl h; exact .inr ⟨by omega, by simpa using h⟩
    rcases h2 with h | ⟨h, h4⟩
    all_goals
      go_wp2
      refine post_gen (fun X => X.heap[vb + 1 + 1]? = some (.cells #[.int .i64 B, .slice sa n sc, .slice ta k tc] 34 (0, 0)) ∧ X.heap[vb + 1 + 1 + 1]? = some (.cells #[.slice none 0 0, .int .i64 2, .bool false, .bool false, .bool false, .int .i64 0, .int .u64 0] 45 (0, 0)) ∧ Ext w X) ⟨(store7_other (by omega)).trans (store3_heap B2.out), store7_heap ((store3_other (by omega)).trans B3.out), ext7 (ext3 (VE.out.trans hR.out) (by omega)) (by omega)⟩ ?_
      clear k0 k1 k2 y0 y1 y2 z0 z1 z2 z3 z4 z5 z6 yf zf kl yl zl
      rintro X ⟨m2, m3, e5⟩
      have v0 := (heap_cell m2 0).trans rfl
      have v1 := (heap_cell m2 1).trans rfl
      have v2 := (heap_cell m2 2).trans rfl
      have u0 := (heap_cell m3 0).trans rfl
      have u1 := (heap_cell m3 1).trans rfl
      have u2 := (heap_cell m3 2).trans rfl
      have u3 := (heap_cell m3 3).trans rfl
      have u4 := (heap_cell m3 4).trans rfl
      have u5 := (heap_cell m3 5).trans rfl
      have u6 := (heap_cell m3 6).trans rfl
      clear m2 m3
      refine bodyPost_ret (by simp [results, Try.results17, go_sem, ↓IntWalk.iteOmega, *]; try rfl) rfl ⟨rfl, e5⟩
end Go.Proofs.Ytfaekfdngkpkdaa
/- The laws' helper: a memory with some words written. -/
namespace Go.Proofs.Ytfaekfdngkpkdaa
set_option linter.unusedVariables false
set_option linter.unusedSimpArgs false
open Go.RowKit
attribute [local go_sem] wext_cell wext_frozen wext_heap alloc_cell alloc_frozen alloc_heap setCell_cell objCell_cells objFrozen_cells

def EndBuilt (ds : List PutD) (w : World) (e : Ending) (w' : World) : Prop :=
  ∃ mb F, e = .returned (.pointer (some ⟨mb, 0, none⟩)) ∧ MemAt w' mb F 16 (builtM (ds.take 100)) [] ∧ Ext w w' ∧ (∀ x ∈ F, w.heap.size ≤ x) ∧ w.heap.size ≤ mb
theorem MemAt.mem {w : World} {mb : Nat} {F : List Nat} {B : Int} {M : Int → Int} {T : List Int} (h : MemAt w mb F B M T) : mb ∈ F := by
  obtain ⟨pb, tv, es, clock, PL, p1, p2, p3, p4, p5, p6, p7, p8, p9, rfl, p10⟩ := h
  simp
set_option maxHeartbeats 2000000 in
set_option maxRecDepth 20000 in
theorem built_c (v : Value) (ds : List PutD) (w : World) (h : ListAt w v 4 PutD.cells PutD.ok ds) :
    Calls Try.prog 14 #[v] w (EndBuilt ds w) := by
  have HD := Lib.hid h
  obtain ⟨a, cap, rfl, hn, hm, hok, -⟩ := h
  unfold maxLen at hm
  have HK := Lib.hid hok
  have HN := Lib.hid (fun w => memNew_c 16 w ⟨by omega, by omega⟩)
  generalize hEnd : EndBuilt ds w = E
  have HEND := Aside.mk hEnd
  clear hEnd hok
  go_enter Try.func14, Try.ntmps14
  go_upto_region 2 with (first | (go_at_call 56; refine (HN.out _).mono ?_; rintro e w1 ⟨mb, F, rfl, hC, hE, hF⟩))
  have HC := Lib.hid hC
  have HE := Lib.hid hE
  have HF := Lib.hid hF
  clear hC hE hF
  go_wp2
  go_loopw [4] (fun i wr => ∃ (j : Nat) (F' : List Nat), j ≤ ds.length ∧ j ≤ 100 ∧ i = .int .i64 j ∧ Hid (MemAt wr mb F' 16 (builtM (ds.take j)) [] ∧ (∀ x ∈ F', w.heap.size ≤ x) ∧ Ext w wr)) (fun i _ => ds.length - (intOf i).toNat)
  case atStart => exact ⟨0, F, by omega, by omega, rfl, Lib.hid ⟨HC.out, HF.out, HE.out⟩⟩
  case round =>
    obtain ⟨j, F', hj, hj2, rfl, hR⟩ := hrel
    by_cases hlt : j < ds.length
    · by_cases h120 : j < 100
      · obtain ⟨a', cap', he, -, -, -, hcl⟩ := HD.out
        obtain ⟨g, o, e1, e2, e3⟩ := hcl j hlt
        have he' : a = a' := by injection he
        have hstep := builtM_take ds j hlt
        have hdok := HK.out j hlt
        generalize ds.getD j default = d at e3 hstep hdok
        subst he'
        subst e1
        have hsw := hR.out.2.2.size
        have e3w : ∀ i u, d.cells[i]? = some u → wr.cell? ⟨g, o + j * 4 + i, none⟩ = some u := fun i u hu => hR.out.2.2.someCell (e3 i u hu)
        have d0 : wr.cell? ⟨g, o + j * 4, none⟩ = some (.int .u16 d.s) := e3w 0 _ rfl
        have d1 := e3w 1 _ rfl
        have d2 := e3w 2 _ rfl
        have d3 := e3w 3 _ rfl
        have hgr : g < wr.heap.size := by omega
        have HS := Aside.mk hstep
        have HAT := Lib.hid (fun w => at8_c d w hdok)
        have hs := atS_le hdok
        have hx := atX_le hdok
        have HST := Lib.hid (fun w' (k : Ext wr w') => store_c mb F' 16 (builtM (ds.take j)) [] (atS d) (atX d) w' (hR.out.1.ext k) (by omega) (by omega) hx.1 hx.2)
        clear he hcl e3 e3w hstep hs hx
        generalize atS d = s at *
        generalize atX d = x at *
        go_wp2_with (first | (go_at_call 58; refine (HAT.out _).mono ?_; rintro e w2 ⟨rfl, hb2⟩) | (go_at_call 59; refine (HST.out _ (by repeat (first | exact Ext.refl _ | assumption | refine Ext.alloc ?_ _ | refine Ext.drew ?_ | refine Ext.setCell ?_ (by first | (simp; done) | (dsimp only; omega)) _ | refine Ext.trans ?_ (by assumption)))).mono ?_; rintro e w3 ⟨rfl, F3, q1, q2, q3⟩))
        have hFw := hR.out.2.1
        refine ⟨⟨j + 1, F3, by omega, by omega, by go_num, Lib.hid ⟨?_, ?_, ?_⟩⟩, by simp [intOf]; omega⟩
        · rw [HS.out]; exact q1
        · intro y hy
          rcases q3 y hy with k | k
          · exact hFw y k
          · have := hb2.size; omega
        · exact Keeps.to_ext (hR.out.2.2.trans (by repeat (first | exact Ext.refl _ | assumption | refine Ext.alloc ?_ _ | refine Ext.drew ?_ | refine Ext.setCell ?_ (by first | (simp; done) | (dsimp only; omega)) _ | refine Ext.trans ?_ (by assumption)))) q2 hFw
      · obtain rfl : j = 100 := by omega
        go_wp2
        (try go_ret)
        rw [← HEND.out]
        exact ⟨mb, F', rfl, hR.out.1, hR.out.2.2, hR.out.2.1, hR.out.2.1 _ hR.out.1.mem⟩
    · obtain rfl : j = ds.length := by omega
      go_wp2
      (try go_ret)
      rw [← HEND.out]
      refine ⟨mb, F', rfl, ?_, hR.out.2.2, hR.out.2.1, hR.out.2.1 _ hR.out.1.mem⟩
      have := hR.out.1
      rw [List.take_of_length_le (Nat.le_refl _)] at this
      rw [List.take_of_length_le hj2]
      exact this
end Go.Proofs.Ytfaekfdngkpkdaa
/- The walk laws' helpers: the example's memory; awake. -/
namespace Go.Proofs.Ytfaekfdngkpkdaa
set_option linter.unusedVariables false
set_option linter.unusedSimpArgs false
open Go.RowKit
attribute [local go_sem] wext_cell wext_frozen wext_heap alloc_cell alloc_frozen alloc_heap setCell_cell objCell_cells objFrozen_cells

theorem built_m (v : Value) (ds : List PutD) (w : World) (h : ListAt w v 4 PutD.cells PutD.ok ds) :
    Calls Try.prog 14 #[v] w fun e w' => ∃ mb, e = .returned (.pointer (some ⟨mb, 0, none⟩)) ∧ MemIn w.heap.size w' mb 16 (builtM (ds.take 100)) [] ∧ Ext w w' :=
  (built_c v ds w h).mono fun e w' h => by
    obtain ⟨mb, F, q1, q2, q3, q4, q5⟩ := h
    exact ⟨mb, q1, ⟨F, q2, q4⟩, q3⟩
def tinyL : List PutD := [⟨0, 1, 7, 0⟩, ⟨8, 2, 7, 0⟩, ⟨16, 3, 7, 0⟩, ⟨24, 4, 7, 0⟩]
theorem tiny_at {W : World} {g : Nat} {e : TypeId} (h : W.heap[g]? = some (.cells #[.int .u16 0, .int .u16 1, .int .u8 7, .int .u64 0, .int .u16 8, .int .u16 2, .int .u8 7, .int .u64 0, .int .u16 16, .int .u16 3, .int .u8 7, .int .u64 0, .int .u16 24, .int .u16 4, .int .u8 7, .int .u64 0] e (0, 0))) :
    ListAt W (.slice (some ⟨g, 0, none⟩) 4 4) 4 PutD.cells PutD.ok tinyL := by
  refine ⟨some ⟨g, 0, none⟩, 4, rfl, by simp [tinyL], by simp [maxLen], fun i hi => ?_, fun i hi => ⟨g, 0, rfl, heap_lt h, fun j u hu => ?_⟩⟩
  · have : i = 0 ∨ i = 1 ∨ i = 2 ∨ i = 3 := by simp [tinyL] at hi; omega
    rcases this with rfl | rfl | rfl | rfl <;> (simp only [tinyL, List.getD_cons_zero, List.getD_cons_succ, PutD.ok]; omega)
  · have hj : j < 4 := by have := (List.getElem?_eq_some_iff.1 hu).1; simpa [PutD.cells] using this
    have hi' : i = 0 ∨ i = 1 ∨ i = 2 ∨ i = 3 := by simp [tinyL] at hi; omega
    have hj' : j = 0 ∨ j = 1 ∨ j = 2 ∨ j = 3 := by omega
    rw [heap_cell h]
    rcases hi' with rfl | rfl | rfl | rfl <;> rcases hj' with rfl | rfl | rfl | rfl <;> exact hu
theorem tiny_c (w : World) : Calls Try.prog 57 #[] w fun e w' => ∃ v, e = .returned v ∧ ListAt w' v 4 PutD.cells PutD.ok tinyL ∧ Ext w w' := by
  generalize hE : (fun (e : Ending) (w' : World) => ∃ v, e = .returned v ∧ ListAt w' v 4 PutD.cells PutD.ok tinyL ∧ Ext w w') = E
  have HE := Lib.hid hE
  clear hE
  go_enter Try.func57, Try.ntmps57
  go_wp2
  all_goals
    (try go_ret)
    rw [← HE.out]
    exact ⟨_, rfl, tiny_at (alloc_same ..), (by repeat (first | exact Ext.refl _ | assumption | refine Ext.alloc ?_ _ | refine Ext.drew ?_ | refine Ext.setCell ?_ (by first | (simp; done) | (dsimp only; omega)) _ | refine Ext.trans ?_ (by assumption)))⟩
theorem ex8_1 : walkF (fun _ => 0) 16 true 0 4 4096 allRt = ([((4 : Int), (4096 : Int), (0 : Int))], 1, noRt, 0, 0) := by decide +kernel
theorem ex8_2 : (walkF (builtM (tinyL.take 100)) 16 true 0 4 0 allRt).1.length = 4 ∧ (walkF (builtM (tinyL.take 100)) 16 true 0 4 0 allRt).2 = (0, allRt, 1, 16384) := by decide +kernel
set_option maxHeartbeats 1000000 in
set_option maxRecDepth 20000 in
theorem awake08_c (w : World) : Calls Try.prog 13 #[] w fun e w' => e = .returned (.bool true) ∧ Ext w w' := by
  have HN := Lib.hid (fun w => new_m 16 w ⟨by omega, by omega⟩)
  have t1 : ∀ w, Calls Try.prog 28 #[.int .u64 4096] w fun e w' => e = .returned (.agg #[.int .i64 4, .int .u64 4096, .bool true, .bool true, .bool true]) ∧ Ext w w' := fun w => wTop_c 4096 w (by omega) (by omega)
  have t2 : ∀ w, Calls Try.prog 28 #[.int .u64 0] w fun e w' => e = .returned (.agg #[.int .i64 4, .int .u64 0, .bool true, .bool true, .bool true]) ∧ Ext w w' := fun w => wTop_c 0 w (by omega) (by omega)
  have T1 := Lib.hid t1
  have T2 := Lib.hid t2
  clear t1 t2
  go_enter Try.func13, Try.ntmps13
  go_upto_region 4 with (first | (go_at_call 56; refine (HN.out _).mono ?_; rintro e w1 ⟨mb, rfl, hM, hE⟩))
  have M1 := Lib.hid hM
  have E1 := Lib.hid hE
  clear hM hE
  go_upto_region 5 with (first | (go_at_call 28; refine (T1.out _).mono ?_; rintro e w2 ⟨rfl, hb2⟩) | (go_at_call 16; refine (from_m w.heap.size mb 16 (fun _ => 0) [] 4 4096 allRt 0 true _ (M1.out.ext (by repeat (first | exact Ext.refl _ | assumption | refine Ext.alloc ?_ _ | refine Ext.drew ?_ | refine Ext.setCell ?_ (by first | (simp; done) | (dsimp only; omega)) _ | refine Ext.trans ?_ (by assumption)))) (E1.out.trans (by repeat (first | exact Ext.refl _ | assumption | refine Ext.alloc ?_ _ | refine Ext.drew ?_ | refine Ext.setCell ?_ (by first | (simp; done) | (dsimp only; omega)) _ | refine Ext.trans ?_ (by assumption)))).size (by omega) (by omega) (by omega) (by omega) (by omega) (by simp)).mono ?_; rw [ex8_1]; rintro e w3 ⟨sa, sc, rfl, hS, hM3, hP3⟩))
  refine wp_gen ?_; intro U hU
  have hP := Ext.trans (E1.out.trans (Ext.trans (by repeat (first | exact Ext.refl _ | assumption | refine Ext.alloc ?_ _ | refine Ext.drew ?_ | refine Ext.setCell ?_ (by first | (simp; done) | (dsimp only; omega)) _ | refine Ext.trans ?_ (by assumption))) hb2)) (Ext.refl _)
  have hEW : Ext w U := by rw [hU]; exact (Sep.to_ext ((Sep.of_ext (hP) (Nat.le_refl _)).trans hP3)).alloc _
  have hMU : MemIn w.heap.size U mb 16 (fun _ => 0) [4096] := by rw [hU]; exact hM3.ext ((Ext.refl _).alloc _)
  have hPU : PathAt U w3.heap.size sa sc ([((4 : Int), (4096 : Int), (0 : Int))], 1, noRt, 0, 0) := by rw [hU]; exact ⟨alloc_same .., hS.ext ((Ext.refl _).alloc _)⟩
  obtain ⟨pb, hpb⟩ : ∃ pb, w3.heap.size = pb := ⟨_, rfl⟩
  rw [hpb] at hPU ⊢
  have EU := Lib.hid hEW
  have MU := Lib.hid hMU
  have PU := Lib.hid hPU
  clear hU hP hEW hMU hPU hpb hS hM3 hP3 hb2
  go_upto_region 6 with (first | (go_at_call 57; refine (tiny_c _).mono ?_; rintro e w4 ⟨tv, rfl, hTl, hb4⟩) | (go_at_call 14; refine (built_m tv tinyL _ hTl).mono ?_; rintro e w5 ⟨kb, rfl, hK, hb5⟩))
  have K5 := Lib.hid hK
  have E5 : Hid (Ext U w5) := Lib.hid (Ext.trans (by repeat (first | exact Ext.refl _ | assumption | refine Ext.alloc ?_ _ | refine Ext.drew ?_ | refine Ext.setCell ?_ (by first | (simp; done) | (dsimp only; omega)) _ | refine Ext.trans ?_ (by assumption))) hb5)
  have hz4 : Hid (U.heap.size ≤ w4.heap.size) := Lib.hid (Ext.size (Ext.trans (by repeat (first | exact Ext.refl _ | assumption | refine Ext.alloc ?_ _ | refine Ext.drew ?_ | refine Ext.setCell ?_ (by first | (simp; done) | (dsimp only; omega)) _ | refine Ext.trans ?_ (by assumption))) hb4))
  clear hK hb5 hb4 hTl
  go_upto_region 7 with (first | (go_at_call 28; refine (T2.out _).mono ?_; rintro e w6 ⟨rfl, hb6⟩) | (go_at_call 16; refine (from_m U.heap.size kb 16 (builtM (tinyL.take 100)) [] 4 0 allRt 0 true _ ((K5.out.mono hz4.out).ext (by repeat (first | exact Ext.refl _ | assumption | refine Ext.alloc ?_ _ | refine Ext.drew ?_ | refine Ext.setCell ?_ (by first | (simp; done) | (dsimp only; omega)) _ | refine Ext.trans ?_ (by assumption)))) (Nat.le_trans E5.out.size (Ext.size (Ext.trans (by repeat (first | exact Ext.refl _ | assumption | refine Ext.alloc ?_ _ | refine Ext.drew ?_ | refine Ext.setCell ?_ (by first | (simp; done) | (dsimp only; omega)) _ | refine Ext.trans ?_ (by assumption))) hb6))) (by omega) (by omega) (by omega) (by omega) (by omega) (by simp)).mono ?_; rintro e w7 ⟨sa7, sc7, rfl, hS7, hM7, hP7⟩))
  refine wp_gen ?_; intro U2 hU2
  have hs6 : Ext w5 w6 := Ext.trans (by repeat (first | exact Ext.refl _ | assumption | refine Ext.alloc ?_ _ | refine Ext.drew ?_ | refine Ext.setCell ?_ (by first | (simp; done) | (dsimp only; omega)) _ | refine Ext.trans ?_ (by assumption))) hb6
  have hSep : Sep U.heap.size U U2 := by rw [hU2]; exact ((Sep.of_ext (E5.out.trans hs6) (Nat.le_refl _)).trans hP7).ext ((Ext.refl _).alloc _) (Nat.le_refl _)
  obtain ⟨q7, hq7⟩ : ∃ q7, walkF (builtM (tinyL.take 100)) 16 true 0 4 0 allRt = q7 := ⟨_, rfl⟩
  rw [hq7] at hS7
  have hQ : PathAt U2 w7.heap.size sa7 sc7 q7 := by rw [hU2, hq7]; exact ⟨alloc_same .., hS7.ext ((Ext.refl _).alloc _)⟩
  have hP := PU.out.sep hSep
  have hM2 := MU.out.sep hSep (Nat.le_refl _)
  have hE2 : Ext w U2 := EU.out.trans hSep.to_ext
  have ⟨hl4, hr4⟩ := ex8_2
  rw [hq7] at hl4 hr4
  obtain ⟨ql, qr⟩ := q7
  dsimp only at hl4 hr4
  subst hr4
  obtain ⟨⟨c0, c1, -⟩, hpl⟩ := hP.facts
  obtain ⟨⟨k0, k1, -, -, -, k5, k6⟩, hql⟩ := hQ.facts
  obtain ⟨g, rfl, hg, -, s1, -⟩ := hP.2.step (i := 0) (by simp) rfl
  have HM2 := Lib.hid hM2
  have HE2 := Lib.hid hE2
  rw [hl4] at k0
  dsimp only at c1 k1 k5 k6
  clear hU2 hs6 hSep hQ hP hM2 hE2 hS7 hM7 hP7 hb6 hq7
  go_wp2_with (first | (go_at_call 51; refine (trace_m w.heap.size mb 16 _ [4096] _ (HM2.out.ext (by repeat (first | exact Ext.refl _ | assumption | refine Ext.alloc ?_ _ | refine Ext.drew ?_ | refine Ext.setCell ?_ (by first | (simp; done) | (dsimp only; omega)) _ | refine Ext.trans ?_ (by assumption)))) (by simp)).mono ?_; rintro e w8 ⟨v8, rfl, hS8, hE8, -⟩; obtain ⟨a8, c8, rfl, -, -⟩ := hS8.form; have ⟨hc, hf, hh, hs⟩ := hE8.facts))
  go_ret
  exact ⟨rfl, HE2.out.trans (by repeat (first | exact Ext.refl _ | assumption | refine Ext.alloc ?_ _ | refine Ext.drew ?_ | refine Ext.setCell ?_ (by first | (simp; done) | (dsimp only; omega)) _ | refine Ext.trans ?_ (by assumption)))⟩
end Go.Proofs.Ytfaekfdngkpkdaa
/- A walk's words are the memory's; its slots are slots. -/
namespace Go.Proofs.Ytfaekfdngkpkdaa
set_option linter.unusedVariables false
set_option linter.unusedSimpArgs false
open Go.RowKit
attribute [local go_sem] wext_cell wext_frozen wext_heap alloc_cell alloc_frozen alloc_heap setCell_cell objCell_cells objFrozen_cells

theorem walk_word {M : Int → Int} {B : Int} {nxe : Bool} {a : Int} : ∀ (n : Nat) (t : Int) (r : Rt), ∀ s ∈ (walkF M B nxe a n t r).1, s.2.2 = M (s.2.1 / 8) ∧ errM B s.2.1 = 0
  | 0, t, r, s, h => by simp [walkF] at h
  | n + 1, t, r, y, h => by
    obtain ⟨s, hs⟩ : ∃ s, slotI t a ((n : Int) + 1) = s := ⟨_, rfl⟩
    obtain ⟨x, hx⟩ : ∃ x, M (s / 8) = x := ⟨_, rfl⟩
    by_cases hne : errM B s ≠ 0
    · rw [walkF_bad (by rw [hs]; exact hne)] at h; simp at h
    have he : errM B s = 0 := by omega
    have one : y = ((n : Int) + 1, s, x) → y.2.2 = M (y.2.1 / 8) ∧ errM B y.2.1 = 0 := fun e => by subst e; exact ⟨hx.symm, he⟩
    cases hp : bitB x 0 with
    | false => rw [walkF_absent hs hx he hp] at h; exact one (by simpa using h)
    | true =>
      cases hr : resI x ((n : Int) + 1) B nxe with
      | true => rw [walkF_res hs hx he hp hr] at h; exact one (by simpa using h)
      | false =>
        cases hl : leafI x ((n : Int) + 1) with
        | true => rw [walkF_leaf hs hx he hp hr hl] at h; exact one (by simpa using h)
        | false =>
          rw [walkF_on hs hx he hp hr hl] at h
          rcases List.mem_cons.1 h with h | h
          · exact one h
          · exact walk_word n _ _ y h
theorem walk_at {M : Int → Int} {B : Int} {nxe : Bool} {a : Int} {n : Nat} {t : Int} {r : Rt} (hM : ∀ s, 0 ≤ M s ∧ M s ≤ 18446744073709551615) {i : Nat} {s : Stp} (h : (walkF M B nxe a n t r).1[i]? = some s) :
    s.2.2 = M (s.2.1 / 8) ∧ errM B s.2.1 = 0 ∧ 0 ≤ s.2.2 ∧ s.2.2 ≤ 18446744073709551615 := by
  have := walk_word n t r s (List.mem_of_getElem? h)
  exact ⟨this.1, this.2, by rw [this.1]; exact (hM _).1, by rw [this.1]; exact (hM _).2⟩
end Go.Proofs.Ytfaekfdngkpkdaa
