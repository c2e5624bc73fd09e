/- Joined texts, part 36 of what the law stands on: each as its own head says. -/
import Derived.Test.YtkfonacokamfiaaGreatPlb9
import Derived.Test.YtkfonacokamfiaaGreatPlb35
import Derived.Test.YtkfonacokamfiaaGreatPlb33
import Derived.Test.YtkfonacokamfiaaGreatPlb25
import Derived.RangeFuncNested
import Derived.RangeFuncBound
import Derived.RangeFuncCalls
import Derived.RangeFuncLeaves
import Derived.RangeFuncBox
import Derived.Shelf.Abstract
import Derived.Shelf.RegionOpen
import Derived.WalkKit
import Derived.OwnWalkIn
import Derived.TacticsInMore
import Derived.LoopNIn
import Derived.LoopIn
import Derived.Maps.AppendAt
/- prefetch.Path: which slots looking for a page would mark. -/
namespace Go.Proofs.YtkfonacokamfiaaGreat
set_option linter.unusedVariables false
set_option linter.unusedSimpArgs false
open Go.RowKit
attribute [local go_sem] wext_cell wext_frozen wext_heap alloc_cell alloc_frozen alloc_heap setCell_cell objCell_cells objFrozen_cells

theorem store3h {w : World} {b : Nat} {c0 c1 c2 v0 v1 v2 : Value} {e : TypeId} {f : Nat × Nat} (h : w.heap[b]? = some (.cells #[c0, c1, c2] e f)) :
    (((w.setCell ⟨b, 0, none⟩ v0).setCell ⟨b, 1, none⟩ v1).setCell ⟨b, 2, none⟩ v2).heap[b]? = some (.cells #[v0, v1, v2] e f) := setCell_heap_same (setCell_heap_same (setCell_heap_same h))
def pathF (M : Int → Int) (root : Int) (nxe : Bool) (a : Int) : List Int :=
  if canonB a && decide ((walkF M 16 nxe a 4 (tabI root) allRt).2.1 = 0) then (walkF M 16 nxe a 4 (tabI root) allRt).1.map (·.2.1) else []
def EndPath (xs : List Int) (w : World) (e : Ending) (w' : World) : Prop :=
  ∃ v, e = .returned v ∧ Owns w' 23 1 v xs.length (rowI xs) ∧ (∀ g, v.ownBlock = some g → w.heap.size ≤ g) ∧ Ext w w'

set_option maxHeartbeats 4000000 in
set_option maxRecDepth 100000 in
theorem path_c (mb : Nat) (Fm : List Nat) (M : Int → Int) (T : List Int) (root kd a : Int) (us ac wp nxe sp sm : Bool) (w : World) (h : MemAt w mb Fm 16 M T) (hr0 : 0 ≤ root) (hr1 : root ≤ 18446744073709551615) (ha0 : 0 ≤ a) (ha1 : a ≤ 18446744073709551615) :
    Calls Tryz.prog 8 #[.pointer (some ⟨mb, 0, none⟩), .agg #[.int .u64 root, .int .i64 kd, .bool us, .bool ac, .bool wp, .bool nxe, .bool sp, .bool sm], .int .u64 a] w (EndPath (pathF M root nxe a) w) := by
  have H := Lib.hid h
  have HT := Lib.hid (fun w => wTop_c root w hr0 hr1)
  have HCn := Lib.hid (fun w1 => vaCanon_c a w1 ha0 ha1)
  have ht := tabI_le hr0
  have ht1 : tabI root ≤ 18446744073709551615 := by have := (tabI_le hr0).2; omega
  have hFr : ∀ (cb : Nat) (F : List Nat) (w1 : World), MemAt w1 cb F 16 M [] → Calls Tryz.prog 23 #[.pointer (some ⟨cb, 0, none⟩), .agg #[.int .i64 (4 : Nat), .int .u64 (tabI root), .bool true, .bool true, .bool true], .int .u64 a, .bool nxe] w1 (EndWalk cb F 16 M [] (walkF M 16 nxe a 4 (tabI root) allRt) w1) :=
    fun cb F w1 h1 => from_c cb F 16 M [] 4 (tabI root) true true true a nxe w1 h1 (by omega) ht.1 ht1 ha0 ha1 (by simp)
  generalize hE : pathF M root nxe a = E
  unfold pathF at hE
  have hql : (walkF M 16 nxe a 4 (tabI root) allRt).1.length ≤ 4 := walk_len 4 _ allRt
  generalize walkF M 16 nxe a 4 (tabI root) allRt = q at hFr hE hql
  generalize tabI root = tr at hFr HT ht ht1
  generalize canonB a = cn at hE HCn
  obtain ⟨L, why, ⟨b0, b1, b2⟩, lv, fr⟩ := q
  dsimp only at hE hql
  have HE := Lib.hid hE
  have HFr := Lib.hid hFr
  unfold EndWalk at HFr
  dsimp only at HFr
  clear hE hFr h
  go_enter Tryz.func8, Tryz.ntmps8
  go_upto_region 1 with (fail)
  refine wp_gen ?_; intro V hV
  have hVE : Ext w V := by rw [hV]; exact (by repeat (first | exact Ext.refl _ | assumption | refine Ext.alloc ?_ _ | refine Ext.drew ?_ | refine Ext.setCell ?_ (by first | (simp; done) | (dsimp only; omega)) _ | refine Ext.trans ?_ (by assumption)))
  have hVB : V.heap[w.heap.size]? = some (.cells #[.int .u64 root, .int .i64 kd, .bool us, .bool ac, .bool wp, .bool nxe, .bool sp, .bool sm] 29 (0, 0)) := by rw [hV]; exact alloc_same ..
  obtain ⟨ub, hub⟩ : ∃ ub, w.heap.size = ub := ⟨_, rfl⟩
  rw [hub] at hVB ⊢
  have y0 := (heap_cell hVB 0).trans rfl
  have y5 := (heap_cell hVB 5).trans rfl
  have yl := heap_lt hVB
  have VE := Lib.hid hVE
  have HV0 := Lib.hid (H.out.ext hVE)
  have hsV := hVE.size
  clear hV hVE hVB hub
  refine region_mixA 10 (.cells #[.slice none 0 0, .int .i64 0, .bool false, .bool false, .bool false, .int .i64 0, .int .u64 0] 86 (0, 0)) [.q [0, 2, 3, 5, 6, 7, 8], .l 1 5, .l 4 5, .l 9 6, .l 10 4, .l 11 2] (by kernel_rfl) (by kernel_rfl) (alloc_runA rfl (by kernel_rfl : _ = some (some (Value.agg (#[.slice none 0 0, .int .i64 0, .bool false, .bool false, .bool false, .int .i64 0, .int .u64 0])))) rfl) ?_
  (repeat (unfold wpPlanA; simp only [pickL, List.map_cons, List.map_nil, List.getD_cons_succ, List.getD_cons_zero]; (repeat go_big_quiet_step (fail)); refine wpQuiet_nil ?_)); unfold wpPlanA; intro w2 hb2; (try simp only [pickL, List.map_cons, List.map_nil, List.getD_cons_succ, List.getD_cons_zero])
  go_wp2_with (first | (go_at_call 24; refine (copy_c mb Fm 16 M T _ (HV0.out.ext hb2)).mono ?_; rintro e w3 ⟨cb, rfl, ⟨F, hC, hFf⟩, hb3⟩))
  have z2 := hb2.size
  have z3 := hb3.size
  refine ⟨⟨by omega, fun _ => hb3, fun h => absurd h (by omega)⟩, ?_⟩
  have C3 := Lib.hid hC
  have F3 : Hid (∀ x ∈ F, w.heap.size ≤ x) := Lib.hid fun x hx => by have := hFf x hx; omega
  have E3 := Lib.hid (VE.out.trans (hb2.trans hb3))
  have V3 := Lib.hid (hb2.trans hb3)
  clear hb2 hb3 hC hFf y0 y5
  (repeat (unfold wpPlanA; simp only [pickL, List.map_cons, List.map_nil, List.getD_cons_succ, List.getD_cons_zero]; (repeat go_big_quiet_step (fail)); refine wpQuiet_nil ?_)); unfold wpPlanA; intro w4 hb4; (try simp only [pickL, List.map_cons, List.map_nil, List.getD_cons_succ, List.getD_cons_zero])
  go_wp2_with (first | (go_at_call 25; refine (HT.out _).mono ?_; rintro e w5 ⟨rfl, hb5⟩))
  have z4 := hb4.size
  have z5 := hb5.size
  refine ⟨⟨by omega, fun _ => hb5, fun h => absurd h (by omega)⟩, ?_⟩
  have C5 := Lib.hid (C3.out.ext (hb4.trans hb5))
  have E5 := Lib.hid (E3.out.trans (hb4.trans hb5))
  clear hb4 hb5
  (repeat (unfold wpPlanA; simp only [pickL, List.map_cons, List.map_nil, List.getD_cons_succ, List.getD_cons_zero]; (repeat go_big_quiet_step (fail)); refine wpQuiet_nil ?_)); unfold wpPlanA; intro w6 hb6; (try simp only [pickL, List.map_cons, List.map_nil, List.getD_cons_succ, List.getD_cons_zero])
  have C6 := Lib.hid (C5.out.ext hb6)
  have E6 := Lib.hid (E5.out.trans hb6)
  have z6 := hb6.size
  clear hb6
  go_wp2_with (first | (go_at_call 23; refine (HFr.out _ F _ C6.out).mono ?_; rintro e w7 ⟨v7, rfl, q2, q3, q4⟩; obtain ⟨sa, sc, rfl, -, -⟩ := q2.form))
  obtain ⟨F7, m7, k7, f7⟩ := q3
  have z7 := k7.size
  refine ⟨⟨by omega, fun h => absurd h (by omega), fun _ b hb hbo => (k7.block b (heap_lt hbo) (C6.out.apart hbo (by decide) (by decide) (by decide))).trans hbo⟩, ?_⟩
  have E7 : Hid (Ext w w7) := Lib.hid (Keeps.to_ext E6.out k7 F3.out)
  have Q7 := Lib.hid q2
  have N7 : Hid (∀ g, (Value.slice sa L.length sc).ownBlock = some g → w.heap.size ≤ g) := Lib.hid fun g hg => by have := q4 g hg; omega
  clear q2 q4 m7 k7 f7
  (repeat (unfold wpPlanA; simp only [pickL, List.map_cons, List.map_nil, List.getD_cons_succ, List.getD_cons_zero]; (repeat go_big_quiet_step (fail)); refine wpQuiet_nil ?_)); unfold wpPlanA; intro pb w8 hb8 hb8B hb8O; simp only [List.getD_cons_succ, List.getD_cons_zero, ptrTo]; simp only [Act.put, Array.set!_eq_setIfInBounds, List.setIfInBounds_toArray, List.set_cons_succ, List.set_cons_zero]
  have E8 := Lib.hid (E7.out.trans hb8)
  have Q8 := Lib.hid (Q7.out.ext hb8)
  have O8 := Lib.hid hb8O
  have hpb := heap_lt hb8O
  have hpbB := Lib.hid hb8B
  have z8 := hb8.size
  clear hb8 hb8O
  (repeat (unfold wpPlanA; simp only [pickL, List.map_cons, List.map_nil, List.getD_cons_succ, List.getD_cons_zero]; (repeat go_big_quiet_step (fail)); refine wpQuiet_nil ?_)); unfold wpPlanA; intro w9 hb9; (try simp only [pickL, List.map_cons, List.map_nil, List.getD_cons_succ, List.getD_cons_zero])
  have b9 := (hb9.block pb hpb).trans O8.out
  have g0 := (heap_cell b9 0).trans rfl
  have g1 := (heap_cell b9 1).trans rfl
  have g2 := (heap_cell b9 2).trans rfl
  have g3 := (heap_cell b9 3).trans rfl
  have g4 := (heap_cell b9 4).trans rfl
  have g5 := (heap_cell b9 5).trans rfl
  have g6 := (heap_cell b9 6).trans rfl
  have gf := frozen_of b9
  have gl := heap_lt b9
  have B9 := Lib.hid b9
  have E9 := Lib.hid (E8.out.trans hb9)
  have Q9 := Lib.hid (Q8.out.ext hb9)
  have z9 := hb9.size
  clear b9 hb9
  go_wp2
  refine ⟨⟨by simp; omega, fun h => absurd h (by omega), fun h => absurd h (by omega)⟩, ?_⟩
  clear g0 g1 g2 g3 g4 g5 g6 gf gl
  (repeat (unfold wpPlanA; simp only [pickL, List.map_cons, List.map_nil, List.getD_cons_succ, List.getD_cons_zero]; (repeat go_big_quiet_step (fail)); refine wpQuiet_nil ?_)); unfold wpPlanA; intro X hX; (try simp only [pickL, List.map_cons, List.map_nil, List.getD_cons_succ, List.getD_cons_zero])
  have hwp : w.heap.size ≤ pb := by have := hpbB.out; omega
  have BX := Lib.hid ((hX.block pb (by simp; exact heap_lt B9.out)).trans (store7_heap B9.out))
  have EX : Hid (Ext w X) := Lib.hid ((ext7 E9.out hwp).trans hX)
  have QX : Hid (Owns X 94 3 (.slice sa L.length sc) L.length (rowS L)) := Lib.hid ((Q9.out.store7 B9.out (by decide)).ext hX)
  clear hX
  have x0 := (heap_cell BX.out 0).trans rfl
  have x1 := (heap_cell BX.out 1).trans rfl
  have xl := heap_lt BX.out
  cases cn
  case false =>
    as_aux_lemma =>
      go_wp2_with (first | (go_at_call 26; refine (HCn.out _).mono ?_; rintro e y1 ⟨rfl, hy1⟩))
      go_ret
      rw [← HE.out]
      exact ⟨_, rfl, Owns.nil .., fun g e => (by cases e), EX.out.trans hy1⟩
  case true =>
    by_cases hw : why = 0
    case neg =>
      have hwb : (why != 0) = true := by simpa using hw
      have HE2 : Hid ([] = E) := Lib.hid (by rw [← HE.out]; simp [hw])
      clear hw
      go_wp2_with (first | (go_at_call 26; refine (HCn.out _).mono ?_; rintro e y1 ⟨rfl, hy1⟩; have ⟨hc, hf, hh, hs⟩ := hy1.facts))
      go_ret
      rw [← HE2.out]
      exact ⟨_, rfl, Owns.nil .., fun g e => (by cases e), EX.out.trans hy1⟩
    case pos =>
      subst hw
      have HE2 : Hid (L.map (·.2.1) = E) := Lib.hid (by rw [← HE.out]; simp)
      clear HE
      go_upto_region 6 with (first | (go_at_call 26; refine (HCn.out _).mono ?_; rintro e y1 ⟨rfl, hy1⟩; have ⟨hc, hf, hh, hs⟩ := hy1.facts))
      have EY := Lib.hid (EX.out.trans hy1)
      have SY := Lib.hid (StepsAt.of (QX.out.ext hy1))
      have zy := EY.out.size
      clear hc hf hh hs hy1 x0 x1 xl
      go_loopw [8, 32] (fun l i wr => ∃ (j : Nat) (la : Option Addr) (lc : Nat), j ≤ L.length ∧ i = .int .i64 j ∧ l = .slice la j lc ∧ y1.heap.size ≤ wr.heap.size ∧ Hid (Owns wr 23 1 (.slice la j lc) j (rowI ((L.take j).map (·.2.1))) ∧ (∀ g, (Value.slice la j lc).ownBlock = some g → y1.heap.size ≤ g) ∧ Ext y1 wr)) (fun _ i _ => L.length - (intOf i).toNat)
      case atStart => exact ⟨0, none, 0, by omega, rfl, rfl, by omega, Lib.hid ⟨Owns.nil .., fun g e => (by cases e), Ext.refl _⟩⟩
      case round =>
        obtain ⟨j, la, lc, hj, rfl, rfl, hwr, hR⟩ := hrel
        by_cases hlt : j < L.length
        · obtain ⟨g, o, rfl, hgl, d0, d1, d2⟩ := (SY.out.ext hR.out.2.2) j hlt
          have hst : (L.take (j + 1)).map (·.2.1) = (L.take j).map (·.2.1) ++ [(stpAt L j).2.1] := by
            have e : L.take (j + 1) = L.take j ++ [stpAt L j] := by rw [List.take_add_one, List.getElem?_eq_getElem hlt]; simp [stpAt, List.getD, hlt]
            rw [e]; simp
          have HS := Lib.hid hst
          clear hst
          generalize stpAt L j = s at d0 d1 d2 HS
          obtain ⟨s0, s1, s2⟩ := s
          dsimp only at d0 d1 d2 HS
          go_upto_region 8 with (fail)
          refine wp_gen ?_; intro U hU
          have hUE : Ext wr U := by rw [hU]; exact (by repeat (first | exact Ext.refl _ | assumption | refine Ext.alloc ?_ _ | refine Ext.drew ?_ | refine Ext.setCell ?_ (by first | (simp; done) | (dsimp only; omega)) _ | refine Ext.trans ?_ (by assumption)))
          have hUB : U.heap[wr.heap.size]? = some (.cells #[.int .i64 s0, .int .u64 s1, .int .u64 s2] 94 (0, 0)) := by rw [hU]; exact alloc_same ..
          obtain ⟨tb, htb⟩ : ∃ tb, wr.heap.size = tb := ⟨_, rfl⟩
          rw [htb] at hUB ⊢
          have u1 := (heap_cell hUB 1).trans rfl
          have ul := heap_lt hUB
          have UE := Lib.hid hUE
          have HA := Lib.hid ((hR.out.1.ext hUE).ext ((Ext.refl U).alloc (.cells #[.int .u64 s1] 23)))
          have hzU := hUE.size
          clear hU hUE hUB htb d0 d1 d2
          go_wp2_with (first | (at_builtin; refine wpList_append_owns rfl _ _ _ _ 1 8 wordRow rfl _ rfl j _ HA.out _ 1 1 rfl [.int .u64 s1] rfl (fun j u hu => by rw [add0, heap_cell (alloc_same U _) j]; simpa using hu) (by simp [Value.oneCell']) (by unfold maxLen; omega) (by omega) ?_; intro v9 w9 q1 q2 q3; replace q2 : (U.alloc (.cells #[.int .u64 s1] 23)).grownBy w9 (Value.slice la j lc).ownBlock := q2; replace q3 : v9.ownBlock = (Value.slice la j lc).ownBlock ∨ v9.ownBlock = some (U.alloc (.cells #[.int .u64 s1] 23)).heap.size := q3; obtain ⟨a9, c9, rfl, -, -⟩ := q1.form; simp only [Act.put, Array.set!_eq_setIfInBounds, List.setIfInBounds_toArray, List.set_cons_succ, List.set_cons_zero]))
          all_goals
            have ⟨g1, g2, g3, g4⟩ := grown_after (prev := Value.slice la j lc) (o := (.cells #[.int .u64 s1] 23)) (base := y1.heap.size) (by omega) (Nat.le_refl _) (hR.out.2.2.trans UE.out) hR.out.2.1 q2 q3
            refine ⟨⟨j + 1, a9, c9, hlt, by go_num, rfl, g4, Lib.hid ⟨?_, g3, g1⟩⟩, by simp [intOf]; omega⟩
            rw [HS.out]; simpa [rowI] using q1
        · have hjx : j = L.length := by omega
          subst hjx
          go_wp2
          go_ret
          have ho := hR.out.1
          rw [List.take_length, HE2.out] at ho
          have hle : L.length = E.length := by rw [← HE2.out]; simp
          refine ⟨_, rfl, ?_, fun g hg => ?_, EY.out.trans hR.out.2.2⟩
          · rw [← hle]; exact ho
          · have := hR.out.2.1 g hg; omega
end Go.Proofs.YtkfonacokamfiaaGreat
/- Pages, and the page behind. (Parts of XVa, for a seat that has the translations' texts too.) -/
namespace Go.Proofs.YtkfonacokamfiaaGreat
set_option linter.unusedVariables false
set_option linter.unusedSimpArgs false
open Go.RowKit
attribute [local go_sem] wext_cell wext_frozen wext_heap alloc_cell alloc_frozen alloc_heap setCell_cell objCell_cells objFrozen_cells

def lowI (a l : Int) : Int := if sizeI l = 0 then 0 else a % sizeI l
theorem lowI_le {a l : Int} (h0 : 0 ≤ a) : 0 ≤ lowI a l ∧ lowI a l ≤ a := by
  unfold lowI sizeI
  repeat' split
  all_goals omega
theorem vaLow_c (a l : Int) (w : World) (h0 : 0 ≤ a) (h1 : a ≤ 18446744073709551615) :
    Calls Tryz.prog 115 #[.int .u64 a, .int .i64 l] w fun e w' => e = .returned (.int .u64 (lowI a l)) ∧ Ext w w' := by
  have : l = 1 ∨ l = 2 ∨ l = 3 ∨ sizeI l = 0 := by unfold sizeI; split <;> (try split) <;> (try split) <;> omega
  rcases this with rfl | rfl | rfl | h
  case inr.inr.inr =>
    go_enter Tryz.func115, Tryz.ntmps115
    go_wp2_with (first | (go_at_call 118; refine (vaSize_c _ _).mono ?_; rintro e w1 ⟨rfl, hb⟩))
    go_ret
    exact ⟨by unfold lowI; rw [if_pos h]; rfl, hb⟩
  case inl =>
    have e1 : sizeI 1 = 4096 := rfl
    have e2 := Lib.hid (low_mask 12 (by omega) h0 h1)
    go_enter Tryz.func115, Tryz.ntmps115
    go_wp2_with (first | (go_at_call 118; refine (vaSize_c _ _).mono ?_; rintro e w1 ⟨rfl, hb⟩))
    go_ret
    exact ⟨congrArg (fun x => Ending.returned (Value.int .u64 x)) (e2 : Hid _).out, hb⟩
  case inr.inl =>
    have e1 : sizeI 2 = 2097152 := rfl
    have e2 := Lib.hid (low_mask 21 (by omega) h0 h1)
    go_enter Tryz.func115, Tryz.ntmps115
    go_wp2_with (first | (go_at_call 118; refine (vaSize_c _ _).mono ?_; rintro e w1 ⟨rfl, hb⟩))
    go_ret
    exact ⟨congrArg (fun x => Ending.returned (Value.int .u64 x)) (e2 : Hid _).out, hb⟩
  case inr.inr.inl =>
    have e1 : sizeI 3 = 1073741824 := rfl
    have e2 := Lib.hid (low_mask 30 (by omega) h0 h1)
    go_enter Tryz.func115, Tryz.ntmps115
    go_wp2_with (first | (go_at_call 118; refine (vaSize_c _ _).mono ?_; rintro e w1 ⟨rfl, hb⟩))
    go_ret
    exact ⟨congrArg (fun x => Ending.returned (Value.int .u64 x)) (e2 : Hid _).out, hb⟩

theorem vaPage_c (a l : Int) (w : World) (h0 : 0 ≤ a) (h1 : a ≤ 18446744073709551615) :
    Calls Tryz.prog 80 #[.int .u64 a, .int .i64 l] w fun e w' => e = .returned (.int .u64 (a - lowI a l)) ∧ Ext w w' := by
  have ⟨g0, g1⟩ := lowI_le (l := l) h0
  go_enter Tryz.func80, Tryz.ntmps80
  go_wp2_with (first | (go_at_call 115; refine (vaLow_c _ _ _ h0 h1).mono ?_; rintro e w1 ⟨rfl, hb⟩; have ⟨hc, hf, hh, hs⟩ := hb.facts; try simp only [World.size_alloc, World.size_setCell, World.size_drew] at hs))
  go_ret
  exact ⟨rfl, hb⟩
theorem vaPage1_c (a : Int) (w : World) (h0 : 0 ≤ a) (h1 : a ≤ 18446744073709551615) :
    Calls Tryz.prog 80 #[.int .u64 a, .int .i64 1] w fun e w' => e = .returned (.int .u64 (a - a % 4096)) ∧ Ext w w' := vaPage_c a 1 w h0 h1


/-- Where the page behind an address's begins. -/
def behindI (a : Int) : Int := IntKind.u64.wrap (a - a % 4096 + 4096)
def nextB (a : Int) : Bool := canonB a && canonB (behindI a) && decide (4096 ≤ behindI a)
theorem behindI_le {a : Int} (h0 : 0 ≤ a) (h1 : a ≤ 18446744073709551615) : 0 ≤ behindI a ∧ behindI a ≤ 18446744073709551615 ∧ behindI a % 4096 = 0 := by
  unfold behindI
  rw [IntKind.wrap_u64]
  omega
set_option maxHeartbeats 1000000 in
theorem vaNext_c (a : Int) (w : World) (h0 : 0 ≤ a) (h1 : a ≤ 18446744073709551615) :
    Calls Tryz.prog 55 #[.int .u64 a] w fun e w' => e = .returned (.tuple #[.int .u64 (if nextB a then behindI a else 0), .bool (nextB a)]) ∧ Ext w w' := by
  have ⟨b0, b1, _⟩ := behindI_le h0 h1
  have HP := Lib.hid (fun w => vaPage1_c a w h0 h1)
  have HA := Lib.hid (fun w => vaCanon_c a w h0 h1)
  have HB := Lib.hid (fun w => vaCanon_c (behindI a) w b0 b1)
  have hbi : IntKind.u64.wrap (a - a % 4096 + 4096) = behindI a := rfl
  have hn : nextB a = (canonB a && canonB (behindI a) && decide (4096 ≤ behindI a)) := rfl
  have hp0 : 0 ≤ a - a % 4096 := by omega
  generalize nextB a = nb at *
  generalize behindI a = b at *
  generalize a - a % 4096 = pg at *
  generalize canonB a = ca at *
  generalize canonB b = cb at *
  have HN := Lib.hid hn
  clear hn
  have tok : True := trivial
  cases ca
  · have hN := HN.out
    simp only [Bool.false_and] at hN
    subst hN
    clear HB
    go_enter Tryz.func55, Tryz.ntmps55
    go_wp2_with (first | (go_at_call 80; refine (HP.out _).mono ?_; rintro e w1 ⟨rfl, hb1⟩) | (go_at_call 26; refine (HA.out _).mono ?_; rintro e w2 ⟨rfl, hb2⟩))
    go_ret2
    exact ⟨rfl, (by repeat (first | exact Ext.refl _ | assumption | refine Ext.alloc ?_ _ | refine Ext.drew ?_ | refine Ext.setCell ?_ (by first | (simp; done) | (dsimp only; omega)) _ | refine Ext.trans ?_ (by assumption)))⟩
  · cases cb
    · have hN := HN.out
      simp only [Bool.true_and, Bool.false_and] at hN
      subst hN
      go_enter Tryz.func55, Tryz.ntmps55
      go_wp2_with (first | (go_at_call 80; refine (HP.out _).mono ?_; rintro e w1 ⟨rfl, hb1⟩) | (go_at_call 26; (with_reducible refine (HA.out _).mono ?_); clear HA; rintro e w2 ⟨rfl, hb2⟩) | (go_at_call 26; (with_reducible refine (HB.out _).mono ?_); rintro e w3 ⟨rfl, hb3⟩))
      go_ret2
      exact ⟨rfl, (by repeat (first | exact Ext.refl _ | assumption | refine Ext.alloc ?_ _ | refine Ext.drew ?_ | refine Ext.setCell ?_ (by first | (simp; done) | (dsimp only; omega)) _ | refine Ext.trans ?_ (by assumption)))⟩
    · by_cases hlt : 4096 ≤ b
      · have hN := HN.out
        rw [decide_eq_true hlt] at hN
        simp only [Bool.true_and] at hN
        subst hN
        have hd : decide (b < 4096) = false := by rw [decide_eq_false_iff_not]; omega
        go_enter Tryz.func55, Tryz.ntmps55
        go_wp2_with (first | (go_at_call 80; refine (HP.out _).mono ?_; rintro e w1 ⟨rfl, hb1⟩) | (go_at_call 26; (with_reducible refine (HA.out _).mono ?_); clear HA; rintro e w2 ⟨rfl, hb2⟩) | (go_at_call 26; (with_reducible refine (HB.out _).mono ?_); rintro e w3 ⟨rfl, hb3⟩))
        go_ret2
        exact ⟨rfl, (by repeat (first | exact Ext.refl _ | assumption | refine Ext.alloc ?_ _ | refine Ext.drew ?_ | refine Ext.setCell ?_ (by first | (simp; done) | (dsimp only; omega)) _ | refine Ext.trans ?_ (by assumption)))⟩
      · have hN := HN.out
        rw [decide_eq_false hlt] at hN
        simp only [Bool.and_false] at hN
        subst hN
        have hd : decide (b < 4096) = true := by rw [decide_eq_true_iff]; omega
        go_enter Tryz.func55, Tryz.ntmps55
        go_wp2_with (first | (go_at_call 80; refine (HP.out _).mono ?_; rintro e w1 ⟨rfl, hb1⟩) | (go_at_call 26; (with_reducible refine (HA.out _).mono ?_); clear HA; rintro e w2 ⟨rfl, hb2⟩) | (go_at_call 26; (with_reducible refine (HB.out _).mono ?_); rintro e w3 ⟨rfl, hb3⟩))
        go_ret2
        exact ⟨rfl, (by repeat (first | exact Ext.refl _ | assumption | refine Ext.alloc ?_ _ | refine Ext.drew ?_ | refine Ext.setCell ?_ (by first | (simp; done) | (dsimp only; omega)) _ | refine Ext.trans ?_ (by assumption)))⟩
end Go.Proofs.YtkfonacokamfiaaGreat
/- prefetch.Plan: the pages ahead (a range over a function whose iterator writes a cell that it captured). Own text. -/
namespace Go.Proofs.YtkfonacokamfiaaGreat
set_option linter.unusedVariables false
set_option linter.unusedSimpArgs false
open Go.RowKit
attribute [local go_sem] wext_cell wext_frozen wext_heap alloc_cell alloc_frozen alloc_heap setCell_cell objCell_cells objFrozen_cells
open Go.Shelf
attribute [local go_sem] Oper.semAt_some

/-- The page that lies k pages behind. -/
def itB (a : Int) : Nat → Int
  | 0 => a
  | k + 1 => behindI (itB a k)
theorem itB_le {a : Int} (h0 : 0 ≤ a) (h1 : a ≤ 18446744073709551615) : ∀ k, 0 ≤ itB a k ∧ itB a k ≤ 18446744073709551615
  | 0 => ⟨h0, h1⟩
  | k + 1 => by have ⟨g0, g1⟩ := itB_le h0 h1 k; have ⟨b0, b1, _⟩ := behindI_le g0 g1; exact ⟨b0, b1⟩
theorem nextB_lt {a : Int} (h0 : 0 ≤ a) (h1 : a ≤ 18446744073709551615) (h : nextB a = true) : a < behindI a := by
  simp only [nextB, Bool.and_eq_true, decide_eq_true_eq] at h
  have h2 := h.2
  unfold behindI at h2 ⊢
  rw [IntKind.wrap_u64] at h2 ⊢
  omega

set_option maxRecDepth 100000 in
set_option maxHeartbeats 2000000 in
theorem behind1_c (n l Bn : Nat) (a : Int) (ha0 : 0 ≤ a) (ha1 : a ≤ 18446744073709551615) (J : Nat → Int → World → Prop) (Jx : Nat → World → Prop) (hn : 1 ≤ n)
    (hext : ∀ k c W W', J k c W → Ext W W' → J k c W')
    (hset : ∀ k c c' W, J k c W → J k c' (W.setCell ⟨Bn, 0, none⟩ (.int .u64 c')))
    (hcell : ∀ k c W, J k c W → Boxed W Bn 23 (.int .u64 c))
    (hY : ∀ k W, J k (itB a k) W → YieldAt Fence.wide (n - 1) Tryz.prog l #[.int .u64 (behindI (itB a k))] W fun e W' => (e = .returned (.bool true) ∧ J (k + 1) (itB a k) W') ∨ (e = .returned (.bool false) ∧ Jx k W'))
    (W : World) (hW0 : J 0 a W) :
    CallsIn Fence.wide n Tryz.prog 54 #[.func (.yield l) #[] #[], .pointer (some ⟨Bn, 0, none⟩)] W fun e W' => (∃ v, e = .returned v) ∧
      ∃ k, (∀ j, j < k → nextB (itB a j) = true) ∧ ((nextB (itB a k) = false ∧ J k (itB a k) W') ∨ Jx k W') := by
  refine callsIn_of_wp Tryz.func54 rfl trivial ?_ rfl
  simp only [Tryz.ntmps54, List.size_toArray, List.length_cons, List.length_nil, Nat.reduceAdd, Nat.reduceSub, Array.replicate_succ, Array.replicate_zero, List.push_toArray, List.append_toArray, List.nil_append, List.cons_append]
  gi_wp2
  gi_loopw [] (fun wr => ∃ k, J k (itB a k) wr ∧ ∀ j, j < k → nextB (itB a j) = true)
    (fun wr => (18446744073709551616 - intOf ((wr.cell? ⟨Bn, 0, none⟩).getD undef)).toNat)
  case atStart =>
    exact ⟨0, hW0, fun j hj => by omega⟩
  case round =>
    obtain ⟨k, hJ, hp⟩ := hrel
    have hbx := hcell _ _ _ hJ
    have hbc := hbx.cell
    have hbf := hbx.frozen
    have ⟨c0, c1⟩ := itB_le ha0 ha1 k
    have HN := Lib.hid (fun w => vaNext_c (itB a k) w c0 c1)
    cases hnb : nextB (itB a k)
    · rw [hnb] at HN
      gi_wp2_with (refine ⟨trivial, ?_⟩; gi_at_call 55; refine (callsIn_wide.2 (HN.out _)).mono ?_; rintro e w1 ⟨rfl, hb⟩)
      refine ⟨fun _ h => (by cases h), ?_⟩
      gi_wp2
      refine bodyPost_ret (results_none rfl _ _ _) rfl ?_
      exact ⟨⟨_, rfl⟩, k, hp, .inl ⟨hnb, hext _ _ _ _ hJ hb⟩⟩
    · rw [hnb] at HN
      have hlt := nextB_lt c0 c1 hnb
      simp only [if_true] at HN
      gi_wp2_with (refine ⟨trivial, ?_⟩; gi_at_call 55; refine (callsIn_wide.2 (HN.out _)).mono ?_; rintro e w1 ⟨rfl, hb⟩; obtain ⟨fn, tmps, assign, body, hy, hR⟩ := hY k w1 (hext _ _ _ _ hJ hb))
      refine hR.mono ?_
      rintro e W3 (⟨rfl, hJ3⟩ | ⟨rfl, hJx3⟩)
      · have hbx3 := hcell _ _ _ hJ3
        have hbc3 := hbx3.cell
        have hbf3 := hbx3.frozen
        gi_wp2
        go_roundw
        case rel => exact ⟨k + 1, hset _ _ _ _ hJ3, fun j hj => by
          by_cases e : j = k
          · rw [e]; exact hnb
          · exact hp j (by omega)⟩
        case measure =>
          have hn := (hcell _ _ _ (hset _ _ (behindI (itB a k)) _ hJ3)).cell
          rw [hn, hbc]
          simp only [Option.getD_some, intOf]
          omega
      · gi_wp2
        refine bodyPost_ret (results_none rfl _ _ _) rfl ?_
        exact ⟨⟨_, rfl⟩, k, hp, .inr hJx3⟩

theorem behind_c (a : Int) (w : World) : Calls Tryz.prog 27 #[.int .u64 a] w fun e w' => e = .returned (.func (.func 54) #[] #[.pointer (some ⟨w.heap.size, 0, none⟩)]) ∧ w' = w.alloc (.cells #[.int .u64 a] 23) := by
  go_enter Tryz.func27, Tryz.ntmps27
  go_wp2
  go_ret
  exact ⟨rfl, rfl⟩
end Go.Proofs.YtkfonacokamfiaaGreat
