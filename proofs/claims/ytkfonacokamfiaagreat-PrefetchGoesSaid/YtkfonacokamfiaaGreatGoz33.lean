/- Joined texts, part 33 of what the law stands on: each as its own head says. -/
import Derived.Test.YtkfonacokamfiaaGreatGoz30
import Derived.Test.YtkfonacokamfiaaGreatGoz22
import Derived.RangeFuncNested
import Derived.RangeFuncBound
import Derived.RangeFuncCalls
import Derived.RangeFuncLeaves
import Derived.RangeFuncBox
import Derived.Shelf.Abstract
import Derived.Shelf.RegionOpen
import Derived.WalkKit
import Derived.OwnWalkIn
import Derived.TacticsInMore
import Derived.LoopNIn
import Derived.LoopIn
import Derived.Maps.AppendAt
import Derived.Test.YtkfonacokamfiaaGreatGoz2
import Derived.Test.YtkfonacokamfiaaGreatGoz20
/- Pages, and the page behind. (Parts of XVa, for a seat that has the translations' texts too.) -/
namespace Go.Proofs.YtkfonacokamfiaaGreat
set_option linter.unusedVariables false
set_option linter.unusedSimpArgs false
open Go.RowKit
attribute [local go_sem] wext_cell wext_frozen wext_heap alloc_cell alloc_frozen alloc_heap setCell_cell objCell_cells objFrozen_cells
def lowI (a l : Int) : Int := if sizeI l = 0 then 0 else a % sizeI l
theorem lowI_le {a l : Int} (h0 : 0 ≤ a) : 0 ≤ lowI a l ∧ lowI a l ≤ a := by
 unfold lowI sizeI
 repeat' split
 all_goals omega
theorem vaLow_c (a l : Int) (w : World) (h0 : 0 ≤ a) (h1 : a ≤ 18446744073709551615) :
  Calls Tryz.prog 115 #[.int .u64 a, .int .i64 l] w fun e w' => e = .returned (.int .u64 (lowI a l)) ∧ Ext w w' := by
 have : l = 1 ∨ l = 2 ∨ l = 3 ∨ sizeI l = 0 := by unfold sizeI; split <;> (try split) <;> (try split) <;> omega
 rcases this with rfl | rfl | rfl | h
 case inr.inr.inr =>
  go_enter Tryz.func115, Tryz.ntmps115
  go_wp2_with (first | (go_at_call 118; refine (vaSize_c _ _).mono ?_; rintro e w1 ⟨rfl, hb⟩))
  go_ret
  exact ⟨by unfold lowI; rw [if_pos h]; rfl, hb⟩
 case inl =>
  have e1 : sizeI 1 = 4096 := rfl
  have e2 := Lib.hid (low_mask 12 (by omega) h0 h1)
  go_enter Tryz.func115, Tryz.ntmps115
  go_wp2_with (first | (go_at_call 118; refine (vaSize_c _ _).mono ?_; rintro e w1 ⟨rfl, hb⟩))
  go_ret
  exact ⟨congrArg (fun x => Ending.returned (Value.int .u64 x)) (e2 : Hid _).out, hb⟩
 case inr.inl =>
  have e1 : sizeI 2 = 2097152 := rfl
  have e2 := Lib.hid (low_mask 21 (by omega) h0 h1)
  go_enter Tryz.func115, Tryz.ntmps115
  go_wp2_with (first | (go_at_call 118; refine (vaSize_c _ _).mono ?_; rintro e w1 ⟨rfl, hb⟩))
  go_ret
  exact ⟨congrArg (fun x => Ending.returned (Value.int .u64 x)) (e2 : Hid _).out, hb⟩
 case inr.inr.inl =>
  have e1 : sizeI 3 = 1073741824 := rfl
  have e2 := Lib.hid (low_mask 30 (by omega) h0 h1)
  go_enter Tryz.func115, Tryz.ntmps115
  go_wp2_with (first | (go_at_call 118; refine (vaSize_c _ _).mono ?_; rintro e w1 ⟨rfl, hb⟩))
  go_ret
  exact ⟨congrArg (fun x => Ending.returned (Value.int .u64 x)) (e2 : Hid _).out, hb⟩
theorem vaPage_c (a l : Int) (w : World) (h0 : 0 ≤ a) (h1 : a ≤ 18446744073709551615) :
  Calls Tryz.prog 80 #[.int .u64 a, .int .i64 l] w fun e w' => e = .returned (.int .u64 (a - lowI a l)) ∧ Ext w w' := by
 have ⟨g0, g1⟩ := lowI_le (l := l) h0
 go_enter Tryz.func80, Tryz.ntmps80
 go_wp2_with (first | (go_at_call 115; refine (vaLow_c _ _ _ h0 h1).mono ?_; rintro e w1 ⟨rfl, hb⟩; have ⟨hc, hf, hh, hs⟩ := hb.facts; try simp only [World.size_alloc, World.size_setCell, World.size_drew] at hs))
 go_ret
 exact ⟨rfl, hb⟩
theorem vaPage1_c (a : Int) (w : World) (h0 : 0 ≤ a) (h1 : a ≤ 18446744073709551615) :
  Calls Tryz.prog 80 #[.int .u64 a, .int .i64 1] w fun e w' => e = .returned (.int .u64 (a - a % 4096)) ∧ Ext w w' := vaPage_c a 1 w h0 h1
def behindI (a : Int) : Int := IntKind.u64.wrap (a - a % 4096 + 4096)
def nextB (a : Int) : Bool := canonB a && canonB (behindI a) && decide (4096 ≤ behindI a)
theorem behindI_le {a : Int} (h0 : 0 ≤ a) (h1 : a ≤ 18446744073709551615) : 0 ≤ behindI a ∧ behindI a ≤ 18446744073709551615 ∧ behindI a % 4096 = 0 := by
 unfold behindI
 rw [IntKind.wrap_u64]
 omega
set_option maxHeartbeats 1000000 in
theorem vaNext_c (a : Int) (w : World) (h0 : 0 ≤ a) (h1 : a ≤ 18446744073709551615) :
  Calls Tryz.prog 55 #[.int .u64 a] w fun e w' => e = .returned (.tuple #[.int .u64 (if nextB a then behindI a else 0), .bool (nextB a)]) ∧ Ext w w' := by
 have ⟨b0, b1, _⟩ := behindI_le h0 h1
 have HP := Lib.hid (fun w => vaPage1_c a w h0 h1)
 have HA := Lib.hid (fun w => vaCanon_c a w h0 h1)
 have HB := Lib.hid (fun w => vaCanon_c (behindI a) w b0 b1)
 have hbi : IntKind.u64.wrap (a - a % 4096 + 4096) = behindI a := rfl
 have hn : nextB a = (canonB a && canonB (behindI a) && decide (4096 ≤ behindI a)) := rfl
 have hp0 : 0 ≤ a - a % 4096 := by omega
 generalize nextB a = nb at *
 generalize behindI a = b at *
 generalize a - a % 4096 = pg at *
 generalize canonB a = ca at *
 generalize canonB b = cb at *
 have HN := Lib.hid hn
 clear hn
 have tok : True := trivial
 cases ca
 ·have hN := HN.out
  simp only [Bool.false_and] at hN
  subst hN
  clear HB
  go_enter Tryz.func55, Tryz.ntmps55
  go_wp2_with (first | (go_at_call 80; refine (HP.out _).mono ?_; rintro e w1 ⟨rfl, hb1⟩) | (go_at_call 26; refine (HA.out _).mono ?_; rintro e w2 ⟨rfl, hb2⟩))
  go_ret2
  exact ⟨rfl, (by repeat (first | exact Ext.refl _ | assumption | refine Ext.alloc ?_ _ | refine Ext.drew ?_ | refine Ext.setCell ?_ (by first | (simp; done) | (dsimp only; omega)) _ | refine Ext.trans ?_ (by assumption)))⟩
 ·cases cb
  ·have hN := HN.out
   simp only [Bool.true_and, Bool.false_and] at hN
   subst hN
   go_enter Tryz.func55, Tryz.ntmps55
   go_wp2_with (first | (go_at_call 80; refine (HP.out _).mono ?_; rintro e w1 ⟨rfl, hb1⟩) | (go_at_call 26; (with_reducible refine (HA.out _).mono ?_); clear HA; rintro e w2 ⟨rfl, hb2⟩) | (go_at_call 26; (with_reducible refine (HB.out _).mono ?_); rintro e w3 ⟨rfl, hb3⟩))
   go_ret2
   exact ⟨rfl, (by repeat (first | exact Ext.refl _ | assumption | refine Ext.alloc ?_ _ | refine Ext.drew ?_ | refine Ext.setCell ?_ (by first | (simp; done) | (dsimp only; omega)) _ | refine Ext.trans ?_ (by assumption)))⟩
  ·by_cases hlt : 4096 ≤ b
   ·have hN := HN.out
    rw [decide_eq_true hlt] at hN
    simp only [Bool.true_and] at hN
    subst hN
    have hd : decide (b < 4096) = false := by rw [decide_eq_false_iff_not]; omega
    go_enter Tryz.func55, Tryz.ntmps55
    go_wp2_with (first | (go_at_call 80; refine (HP.out _).mono ?_; rintro e w1 ⟨rfl, hb1⟩) | (go_at_call 26; (with_reducible refine (HA.out _).mono ?_); clear HA; rintro e w2 ⟨rfl, hb2⟩) | (go_at_call 26; (with_reducible refine (HB.out _).mono ?_); rintro e w3 ⟨rfl, hb3⟩))
    go_ret2
    exact ⟨rfl, (by repeat (first | exact Ext.refl _ | assumption | refine Ext.alloc ?_ _ | refine Ext.drew ?_ | refine Ext.setCell ?_ (by first | (simp; done) | (dsimp only; omega)) _ | refine Ext.trans ?_ (by assumption)))⟩
   ·have hN := HN.out
    rw [decide_eq_false hlt] at hN
    simp only [Bool.and_false] at hN
    subst hN
    have hd : decide (b < 4096) = true := by rw [decide_eq_true_iff]; omega
    go_enter Tryz.func55, Tryz.ntmps55
    go_wp2_with (first | (go_at_call 80; refine (HP.out _).mono ?_; rintro e w1 ⟨rfl, hb1⟩) | (go_at_call 26; (with_reducible refine (HA.out _).mono ?_); clear HA; rintro e w2 ⟨rfl, hb2⟩) | (go_at_call 26; (with_reducible refine (HB.out _).mono ?_); rintro e w3 ⟨rfl, hb3⟩))
    go_ret2
    exact ⟨rfl, (by repeat (first | exact Ext.refl _ | assumption | refine Ext.alloc ?_ _ | refine Ext.drew ?_ | refine Ext.setCell ?_ (by first | (simp; done) | (dsimp only; omega)) _ | refine Ext.trans ?_ (by assumption)))⟩
end Go.Proofs.YtkfonacokamfiaaGreat
/- prefetch.Plan: the pages ahead (a range over a function whose iterator writes a cell that it captured). Own text. -/
namespace Go.Proofs.YtkfonacokamfiaaGreat
set_option linter.unusedVariables false
set_option linter.unusedSimpArgs false
open Go.RowKit
attribute [local go_sem] wext_cell wext_frozen wext_heap alloc_cell alloc_frozen alloc_heap setCell_cell objCell_cells objFrozen_cells
open Go.Shelf
attribute [local go_sem] Oper.semAt_some
def itB (a : Int) : Nat → Int
 | 0 => a
 | k + 1 => behindI (itB a k)
theorem itB_le {a : Int} (h0 : 0 ≤ a) (h1 : a ≤ 18446744073709551615) : ∀ k, 0 ≤ itB a k ∧ itB a k ≤ 18446744073709551615
 | 0 => ⟨h0, h1⟩
 | k + 1 => by have ⟨g0, g1⟩ := itB_le h0 h1 k; have ⟨b0, b1, _⟩ := behindI_le g0 g1; exact ⟨b0, b1⟩
theorem nextB_lt {a : Int} (h0 : 0 ≤ a) (h1 : a ≤ 18446744073709551615) (h : nextB a = true) : a < behindI a := by
 simp only [nextB, Bool.and_eq_true, decide_eq_true_eq] at h
 have h2 := h.2
 unfold behindI at h2 ⊢
 rw [IntKind.wrap_u64] at h2 ⊢
 omega
set_option maxRecDepth 100000 in
set_option maxHeartbeats 2000000 in
theorem behind1_c (n l Bn : Nat) (a : Int) (ha0 : 0 ≤ a) (ha1 : a ≤ 18446744073709551615) (J : Nat → Int → World → Prop) (Jx : Nat → World → Prop) (hn : 1 ≤ n)
  (hext : ∀ k c W W', J k c W → Ext W W' → J k c W')
  (hset : ∀ k c c' W, J k c W → J k c' (W.setCell ⟨Bn, 0, none⟩ (.int .u64 c')))
  (hcell : ∀ k c W, J k c W → Boxed W Bn 23 (.int .u64 c))
  (hY : ∀ k W, J k (itB a k) W → YieldAt Fence.wide (n - 1) Tryz.prog l #[.int .u64 (behindI (itB a k))] W fun e W' => (e = .returned (.bool true) ∧ J (k + 1) (itB a k) W') ∨ (e = .returned (.bool false) ∧ Jx k W'))
  (W : World) (hW0 : J 0 a W) :
  CallsIn Fence.wide n Tryz.prog 54 #[.func (.yield l) #[] #[], .pointer (some ⟨Bn, 0, none⟩)] W fun e W' => (∃ v, e = .returned v) ∧
   ∃ k, (∀ j, j < k → nextB (itB a j) = true) ∧ ((nextB (itB a k) = false ∧ J k (itB a k) W') ∨ Jx k W') := by
 refine callsIn_of_wp Tryz.func54 rfl trivial ?_ rfl
 simp only [Tryz.ntmps54, List.size_toArray, List.length_cons, List.length_nil, Nat.reduceAdd, Nat.reduceSub, Array.replicate_succ, Array.replicate_zero, List.push_toArray, List.append_toArray, List.nil_append, List.cons_append]
 gi_wp2
 gi_loopw [] (fun wr => ∃ k, J k (itB a k) wr ∧ ∀ j, j < k → nextB (itB a j) = true)
  (fun wr => (18446744073709551616 - intOf ((wr.cell? ⟨Bn, 0, none⟩).getD undef)).toNat)
 case atStart =>
  exact ⟨0, hW0, fun j hj => by omega⟩
 case round =>
  obtain ⟨k, hJ, hp⟩ := hrel
  have hbx := hcell _ _ _ hJ
  have hbc := hbx.cell
  have hbf := hbx.frozen
  have ⟨c0, c1⟩ := itB_le ha0 ha1 k
  have HN := Lib.hid (fun w => vaNext_c (itB a k) w c0 c1)
  cases hnb : nextB (itB a k)
  ·rw [hnb] at HN
   gi_wp2_with (refine ⟨trivial, ?_⟩; gi_at_call 55; refine (callsIn_wide.2 (HN.out _)).mono ?_; rintro e w1 ⟨rfl, hb⟩)
   refine ⟨fun _ h => (by cases h), ?_⟩
   gi_wp2
   refine bodyPost_ret (results_none rfl _ _ _) rfl ?_
   exact ⟨⟨_, rfl⟩, k, hp, .inl ⟨hnb, hext _ _ _ _ hJ hb⟩⟩
  ·rw [hnb] at HN
   have hlt := nextB_lt c0 c1 hnb
   simp only [if_true] at HN
   gi_wp2_with (refine ⟨trivial, ?_⟩; gi_at_call 55; refine (callsIn_wide.2 (HN.out _)).mono ?_; rintro e w1 ⟨rfl, hb⟩; obtain ⟨fn, tmps, assign, body, hy, hR⟩ := hY k w1 (hext _ _ _ _ hJ hb))
   refine hR.mono ?_
   rintro e W3 (⟨rfl, hJ3⟩ | ⟨rfl, hJx3⟩)
   ·have hbx3 := hcell _ _ _ hJ3
    have hbc3 := hbx3.cell
    have hbf3 := hbx3.frozen
    gi_wp2
    go_roundw
    case rel => exact ⟨k + 1, hset _ _ _ _ hJ3, fun j hj => by
     by_cases e : j = k
     ·rw [e]; exact hnb
     ·exact hp j (by omega)⟩
    case measure =>
     have hn := (hcell _ _ _ (hset _ _ (behindI (itB a k)) _ hJ3)).cell
     rw [hn, hbc]
     simp only [Option.getD_some, intOf]
     omega
   ·gi_wp2
    refine bodyPost_ret (results_none rfl _ _ _) rfl ?_
    exact ⟨⟨_, rfl⟩, k, hp, .inr hJx3⟩
theorem behind_c (a : Int) (w : World) : Calls Tryz.prog 27 #[.int .u64 a] w fun e w' => e = .returned (.func (.func 54) #[] #[.pointer (some ⟨w.heap.size, 0, none⟩)]) ∧ w' = w.alloc (.cells #[.int .u64 a] 23) := by
 go_enter Tryz.func27, Tryz.ntmps27
 go_wp2
 go_ret
 exact ⟨rfl, rfl⟩
end Go.Proofs.YtkfonacokamfiaaGreat
/- prefetch.Plan itself. Own text. -/
namespace Go.Proofs.YtkfonacokamfiaaGreat
set_option linter.unusedVariables false
set_option linter.unusedSimpArgs false
open Go.RowKit
attribute [local go_sem] wext_cell wext_frozen wext_heap alloc_cell alloc_frozen alloc_heap setCell_cell objCell_cells objFrozen_cells
open Go.Shelf
attribute [local go_sem] Oper.semAt_some
def rowB (a : Int) (k : Nat) : List Value := (List.range k).map fun j => .int .u64 (itB a (j + 1))
theorem rowB_succ (a : Int) (k : Nat) : rowB a (k + 1) = rowB a k ++ [.int .u64 (behindI (itB a k))] := by simp [rowB, List.range_succ, itB]
theorem rowB_len (a : Int) (k : Nat) : (rowB a k).length = k := by simp [rowB]
theorem ownsRow_ne {W : World} {base : Nat} {e : TypeId} {size : Nat} {v : Value} {k : Nat} {xs : List Value} (h : W.ownsRow base e size v k xs) {B : Nat} (hB : B < base) : some B ≠ v.ownBlock := by
 rcases h.2 with ⟨rfl, _⟩ | ⟨g, cap, cur, rfl, hg, _⟩
 ·simp [Value.ownBlock]
 ·intro e'
  obtain rfl : B = g := by simpa [Value.ownBlock] using e'
  omega
theorem Ext.grown {W W' : World} (h : Ext W W') : W.grownBy W' none := ⟨h.os, h.tape, h.output, h.size, fun k hk _ => h.block k hk⟩
def PlSt (w : World) (n : Nat) (many a : Int) (k : Nat) (lo : Loop) (W : World) : Prop :=
 Boxed W n 3 (.int .i64 many) ∧ (∃ v, Boxed W (n + 1) 39 v ∧ W.ownsRow (n + 5) 23 1 v k (rowB a k)) ∧
 W.heap[n + 4]? = some (.loop lo) ∧ W.heap[n + 3]? = some (.deferred (some [])) ∧ Below n w W
theorem PlSt.grown {w : World} {n : Nat} {many a : Int} {k : Nat} {lo : Loop} {W W' : World} (h : PlSt w n many a k lo W) {r : Option Nat} (hg : W.grownBy W' r) (hr : ∀ b, r = some b → b = n + 2 ∨ W.heap.size ≤ b) : PlSt w n many a k lo W' := by
 obtain ⟨h1, ⟨v, h2, h3⟩, h4, h5, h6⟩ := h
 have l1 := h1.lt
 have l2 := h2.lt
 have l4 := (Array.getElem?_eq_some_iff.1 h4).1
 have ne : ∀ b, b < W.heap.size → b ≠ n + 2 → some b ≠ r := fun b hb h2 e => by have := hr b e.symm; omega
 refine ⟨h1.kept hg (ne _ l1 (by omega)), ⟨v, h2.kept hg (ne _ l2 (by omega)), h3.kept hg ?_⟩, (hg.block _ l4 (ne _ l4 (by omega))).trans h4, (hg.block _ (by omega) (ne _ (by omega) (by omega))).trans h5, h6.grown hg (by omega) fun b hb => by have := hr b hb; omega⟩
 rcases h3.2 with ⟨rfl, _⟩ | ⟨g, cap, cur, rfl, hg', hgb, _⟩
 ·exact .inl rfl
 ·exact .inr fun e => ne g (Array.getElem?_eq_some_iff.1 hgb).1 (by omega) (by rw [← e]; rfl)
theorem PlSt.put {w : World} {n : Nat} {many a : Int} {k : Nat} {lo : Loop} {W : World} (h : PlSt w n many a k lo W) (lo' : Loop) : PlSt w n many a k lo' (W.putObj (n + 4) (.loop lo')) := by
 obtain ⟨h1, ⟨v, h2, h3⟩, h4, h5, h6⟩ := h
 have l4 := (Array.getElem?_eq_some_iff.1 h4).1
 exact ⟨(World.putObj_heap_other (by omega)).trans h1, ⟨v, (World.putObj_heap_other (by omega)).trans h2, ownsRow_putObj h3 _ h4 rfl⟩, World.putObj_heap_same l4, (World.putObj_heap_other (by omega)).trans h5,
  h6.grown (grownBy_putObj' W (n + 4) _) (by omega) fun b e => by cases e; omega⟩
theorem info8 : (Tryz.prog.info? 23).map (fun i => (i.zero, i.size, i.bytes)) = some (some (.int .u64 0), 1, 8) := by kernel_rfl
theorem wpIn_gen {F : Fence} {n : Nat} {P : Program} {c : Code} {Q : Exit → Act → World → Prop} {a : Act} {w : World} (h : ∀ W, W = w → Code.wpIn F n P c Q a W) : Code.wpIn F n P c Q a w := h w rfl
theorem Owns.of_row {W : World} {base : Nat} {e : TypeId} {size : Nat} {v : Value} {n : Nat} {xs : List Value} (h : W.ownsRow base e size v n xs) : Owns W e size v n xs := by
 refine ⟨h.1, ?_⟩
 rcases h.2 with h | ⟨g, cap, cur, h1, h2, h3, h4, h5, h6, h7⟩
 ·exact .inl h
 ·exact .inr ⟨g, cap, cur, h1, h3, h4, h5, Nat.le_of_eq h6.symm, h7⟩
def busyL (lo : Loop) : Loop := { lo with state := .busy }
def doneL (lo : Loop) : Loop := { lo with state := .done, pending := some (.exit 0) }
def overL (lo : Loop) : Loop := { lo with state := .exhausted }
theorem rangeFunc_outer {F : Fence} {n : Nat} {P : Program} {g : Operand} {ps : Array Tmp} {assign body : Code} {Q : Exit → Act → World → Prop} {a : Act} {w : World} {gf : Nat} {lb : Array Value}
  (hro : F.round = none) (h1 : 1 ≤ n) (hFg : F.fn gf)
  (hg : a.eval g = .func (.func gf) #[] lb) (eg : ∀ args w, (callFunc gf args).run P w = .ok (.enter gf args) w)
  (h : ∀ fn (lo : Loop), lo = { state := .ready, pending := none, fn, tmps := a.tmps, params := ps, assign, body, defers := w.heap.size } → F.fn fn →
   CallsIn F (n - 1) P gf (#[.func (.yield (w.heap.size + 1)) #[] #[]] ++ lb) ((w.alloc (.deferred (some []))).alloc (.loop lo))
    (rangePost F n P (w.heap.size + 1) Q { a with defers := [{ target := .collected w.heap.size, args := #[] }] ++ a.defers })) :
  (Code.rangeFunc g ps assign body).wpIn F n P Q a w := by
 refine wpIn_rangeFunc ?_
 intro fn hfn
 rw [hro]
 obtain ⟨lo, hlo⟩ : ∃ lo : Loop, lo = { state := .ready, pending := none, fn, tmps := a.tmps, params := ps, assign, body, defers := w.heap.size } := ⟨_, rfl⟩
 have hh := h fn lo hlo hfn
 obtain ⟨W1, hW1⟩ : ∃ W1, (w.alloc (.deferred (some []))).alloc (.loop lo) = W1 := ⟨_, rfl⟩
 rw [hW1] at hh
 refine ⟨w.heap.size + 1, [{ target := .collected w.heap.size, args := #[] }], W1, { target := .fn (.func gf) lb, args := #[.func (.yield (w.heap.size + 1)) #[] #[]] }, W1, gf,
  #[.func (.yield (w.heap.size + 1)) #[] #[]] ++ lb, W1, ?_, ?_, ?_, ?_, fun _ => h1, ?_⟩
 ·rw [← hW1, hlo]; exact run_enterLoop_outer _ _ _ _ _
 ·simp only [resolve, hg]
  simp [go_sem]
 ·intro f' hf'; simp [Target.leads] at hf'; subst hf'; exact hFg
 ·simp [invoke, go_sem, eg]
 ·exact hh
theorem yieldAt_of {F : Fence} {n : Nat} {P : Program} {l : Nat} {fn : FuncId} {tmps args : Array Value} {ps : Array Tmp} {assign body : Code} {D : Nat} {lo : Loop} {W : World} {R : Ending → World → Prop}
  {a₁ : Act} (hlo : lo = { state := .ready, pending := none, fn, tmps, params := ps, assign, body, defers := D }) (hl : W.heap[l]? = some (.loop lo)) (hs : args.size = ps.size)
  (hfn : F.fn fn)
  (hassign : ∀ K : Act → World → Prop, K a₁ W → assign.wpIn (F.inRound l) n P (Exit.then K (fun _ _ _ => False))
   { tmps := (ps.zip args).foldl (fun t (p, v) => t.setIfInBounds p v) tmps, defers := [] } W)
  (hbody : body.wpIn (F.inRound l) n P (roundPost P l R) a₁ (W.putObj l (.loop (busyL lo)))) :
  YieldAt F n P l args W R := by
 have hy := run_yield (P := P) (args := args) hl (by rw [hlo]; exact hs)
 have hb := run_beginRound (P := P) hl (by rw [hlo])
 rw [hlo] at hy
 exact ⟨fn, _, assign, body, hy, roundIn_of_wpIn hfn (hassign _ ⟨_, hb, hbody⟩)⟩
def EndPlan (a : Int) (m : Nat) (w : World) (e : Ending) (w' : World) : Prop :=
 ∃ v k, e = .returned v ∧ Owns w' 23 1 v k (rowB a k) ∧ k ≤ m ∧ (∀ j, j < k → nextB (itB a j) = true) ∧ (k = m ∨ nextB (itB a k) = false) ∧ Ext w w'
set_option maxRecDepth 100000 in
set_option maxHeartbeats 4000000 in
theorem plan_c (a many : Int) (w : World) (ha0 : 0 ≤ a) (ha1 : a ≤ 18446744073709551615) (hm0 : -9223372036854775808 ≤ many) (hm1 : many ≤ 9223372036854775807) :
  Calls Tryz.prog 10 #[.int .u64 a, .int .i64 many] w (EndPlan a (min many 8).toNat w) := by
 refine (callsIn_wide (n := 3)).1 ?_
 obtain ⟨m, hm⟩ : ∃ m, m = (min many 8).toNat := ⟨_, rfl⟩
 rw [← hm]
 have hm8 : m ≤ 8 := by omega
 refine callsIn_of_wp_marks Tryz.func10 rfl trivial ?_ rfl
 simp only [Tryz.ntmps10, List.size_toArray, List.length_cons, List.length_nil, Nat.reduceAdd, Nat.reduceSub, Array.replicate_succ, Array.replicate_zero, List.push_toArray, List.append_toArray, List.nil_append, List.cons_append]
 gi_wp2_with (refine ⟨trivial, ?_⟩; gi_at_call 27; refine (callsIn_wide.2 (behind_c a _)).mono ?_; rintro e w' ⟨rfl, rfl⟩)
 refine wpIn_gen ?_
 intro W0 hW0
 obtain ⟨n, hn⟩ : ∃ n, n = w.heap.size := ⟨_, rfl⟩
 rw [← hn]
 have hs : W0.heap.size = n + 3 := by rw [hW0, hn]; simp
 have b1 : Boxed W0 n 3 (.int .i64 many) := by rw [hW0, hn]; exact ((Boxed.new _ _ _).alloc _).alloc _
 have b2 : Boxed W0 (n + 1) 39 (.slice none 0 0) := by
  rw [hW0, hn]
  have := (Boxed.new (w.alloc (.cells #[.int .i64 many] 3)) 39 (.slice none 0 0)).alloc (.cells #[.int .u64 a] 23)
  rwa [World.size_alloc] at this
 have b3 : Boxed W0 (n + 2) 23 (.int .u64 a) := by
  rw [hW0, hn]
  have := Boxed.new ((w.alloc (.cells #[.int .i64 many] 3)).alloc (.cells #[.slice none 0 0] 39)) 23 (.int .u64 a)
  rwa [World.size_alloc, World.size_alloc] at this
 have hbel : Below n w W0 := by rw [hW0, hn]; exact (((Below.refl _ w).alloc (by omega) _).alloc (by simp) _).alloc (by simp; omega) _
 clear hW0
 have HNN := Lib.hid hn
 have HM := Lib.hid hm
 clear hn hm
 refine rangeFunc_outer rfl (by omega) (gf := 54) (lb := #[.pointer (some ⟨n + 2, 0, none⟩)]) trivial rfl (enters_of Tryz.func54 (by kernel_rfl) rfl) ?_
 intro fn lo hlo _
 rw [hs] at hlo ⊢
 have HL := Lib.hid hlo
 clear hlo
 have hP0 : PlSt w n many a 0 lo ((W0.alloc (.deferred (some []))).alloc (.loop lo)) := by
  have hs1 : (W0.alloc (.deferred (some []))).heap.size = n + 4 := by simp [hs]
  refine ⟨(b1.alloc _).alloc _, ⟨_, (b2.alloc _).alloc _, World.ownsRow_nil ..⟩, ?_, ?_, (hbel.alloc (by omega) _).alloc (by omega) _⟩
  ·have := World.alloc_heap_new (W0.alloc (.deferred (some []))) (.loop lo)
   rwa [hs1] at this
  ·have := World.alloc_heap_new W0 (.deferred (some []))
   rw [hs] at this
   exact (Below.heap_alloc _ _ _ (by omega)).trans this
 refine (behind1_c _ (n + 4) (n + 2) a ha0 ha1 (fun k c W => PlSt w n many a k lo W ∧ Boxed W (n + 2) 23 (.int .u64 c) ∧ k ≤ m)
  (fun k W => PlSt w n many a k (doneL lo) W ∧ k = m) (by omega) ?_ ?_ ?_ ?_ _ ⟨hP0, (b3.alloc _).alloc _, by omega⟩).mono ?_
 ·rintro k c W W' ⟨h1, h2, h3⟩ hE
  exact ⟨h1.grown hE.grown (fun b e => by cases e), h2.kept hE.grown (by simp), h3⟩
 ·rintro k c c' W ⟨h1, h2, h3⟩
  exact ⟨h1.grown (grownBy_setCell' W (n + 2) _) (fun b e => by cases e; exact .inl rfl), h2.set _, h3⟩
 ·rintro k c W ⟨h1, h2, h3⟩
  exact h2
 ·rintro k W ⟨hP, hB, hk⟩
  apply yieldAt_of HL.out hP.2.2.1 rfl trivial
  case hassign =>
   intro K hK
   gi_wp2
   exact hK
  have hB2 : Boxed (W.putObj (n + 4) (.loop (busyL lo))) (n + 2) 23 (.int .u64 (itB a k)) := (World.putObj_heap_other (by omega)).trans hB
  have hP2 := hP.put (busyL lo)
  clear hP hB
  generalize W.putObj (n + 4) (.loop (busyL lo)) = W2 at *
  have hPK := Lib.hid hP2
  obtain ⟨h1, ⟨v, h2, h3⟩, h4, h5, h6⟩ := hP2
  obtain ⟨p, cap, rfl⟩ : ∃ p cap, v = .slice p k cap := by rcases h3.2 with ⟨rfl, rfl⟩ | ⟨g, cap, _, rfl, _⟩ <;> exact ⟨_, _, rfl⟩
  have c1 := h1.cell
  have f1 := h1.frozen
  have c2 := h2.cell
  have f2 := h2.frozen
  have l4 := (Array.getElem?_eq_some_iff.1 h4).1
  by_cases hkm : k = m
  ·have ht : (k : Int) ≥ min many 8 := by have := HM.out; omega
   have HKM := Lib.hid hkm
   clear hkm
   gi_wp2
   all_goals exact ⟨_, _, run_endRound (some (.exit 0)) h4, .inr ⟨rfl, hPK.out.put _, HKM.out⟩⟩
  ·have ht : ¬ (k : Int) ≥ min many 8 := by have := HM.out; omega
   obtain ⟨i0, hi, hz0, hz1, hz2⟩ := info_parts info8
   have HKM := Lib.hid hkm
   clear hkm
   gi_wp2_with (gi_at_builtin; refine wpListIn_append_own _ rfl _ _ 39 rfl (n + 5) 23 i0 (.int .u64 0) 1 8 Tryz.underlying39 hi hz0 hz1 hz2 rfl (by decide) _ _ _ rfl (h3.alloc _) ⟨W2.heap.size, 0, none⟩ 1 1 [.int .u64 (behindI (itB a k))] rfl rfl (cell_one_new _ _ _) (by simp [Value.oneCell']) (by simp [maxLen]; omega) (by omega) (by simp; omega) ?_; intro v' w1 hown' hgrow _; obtain ⟨g', cap', rfl⟩ := ownsRow_succ hown'; have hv1 := (h2.alloc _).kept hgrow (ownsRow_ne h3 (by omega)); have hc1 := hv1.cell; have hf1 := hv1.frozen)
   all_goals
    have hPS : PlSt w n many a (k + 1) (busyL lo) (w1.setCell ⟨n + 1, 0, none⟩ (.slice (some ⟨g', 0, none⟩) (k + 1) cap')) := by
     have hgs := hgrow.size
     simp only [World.size_alloc] at hgs
     have hset := grownBy_setCell' w1 (n + 1) (.slice (some ⟨g', 0, none⟩) (k + 1) cap')
     have hb : ∀ b, b < n + 5 → b ≠ n + 1 → b < W2.heap.size → (w1.setCell ⟨n + 1, 0, none⟩ (.slice (some ⟨g', 0, none⟩) (k + 1) cap')).heap[b]? = W2.heap[b]? := fun b hb hb1 hb2 =>
      (hset.block b (by omega) (fun e => hb1 (by cases e; rfl))).trans ((hgrow.block b (by simp; omega) (ownsRow_ne h3 hb)).trans (Below.heap_alloc _ _ _ hb2))
     refine ⟨(hb n (by omega) (by omega) (by omega)).trans h1, ⟨_, hv1.set _, ?_⟩, (hb _ (by omega) (by omega) (by omega)).trans h4, (hb _ (by omega) (by omega) (by omega)).trans h5, ?_⟩
     ·rw [rowB_succ]
      exact hown'.kept hset (.inr (ownsRow_ne hown' (by omega)).symm)
     ·refine ((h6.alloc (by omega) _).grown hgrow (by simp; omega) fun j ej => ?_).setCell (p := ⟨n + 1, 0, none⟩) (by simp) _
      by_cases hj : j < n + 5
      ·exact absurd ej.symm (ownsRow_ne h3 hj)
      ·omega
    have hBS : Boxed (w1.setCell ⟨n + 1, 0, none⟩ (.slice (some ⟨g', 0, none⟩) (k + 1) cap')) (n + 2) 23 (.int .u64 (itB a k)) := by
     exact ((hB2.alloc _).kept hgrow (ownsRow_ne h3 (by omega))).kept (grownBy_setCell' _ _ _) (by simp)
    have hER : (Instr.endRound (n + 4) none).run Tryz.prog (w1.setCell ⟨n + 1, 0, none⟩ (.slice (some ⟨g', 0, none⟩) (k + 1) cap')) = .ok (.bool true) ((w1.setCell ⟨n + 1, 0, none⟩ (.slice (some ⟨g', 0, none⟩) (k + 1) cap')).putObj (n + 4) (.loop lo)) := by
     have := run_endRound (P := Tryz.prog) none hPS.2.2.1
     rw [HL.out] at this ⊢
     exact this
    exact ⟨_, _, hER, .inl ⟨rfl, hPS.put lo, (World.putObj_heap_other (by omega)).trans hBS, by have := HKM.out; omega⟩⟩
 ·rintro e W2 ⟨⟨v, rfl⟩, k, hp, (⟨hnb, hP, hB, hk⟩ | ⟨hP, hk⟩)⟩
  ·have hpe : lo.pending = none := by rw [HL.out]
   have hE : (Instr.endLoop (n + 4)).run Tryz.prog W2 = .ok none (W2.putObj (n + 4) (.loop (overL lo))) :=
    (run_endLoop (P := Tryz.prog) hP.2.2.1 (by rw [HL.out]; exact fun h => by cases h)).trans (show Result.ok lo.pending (W2.putObj (n + 4) (.loop (overL lo))) = _ by rw [hpe])
   refine ⟨none, _, hE, ?_⟩
   have hP3 := hP.put (overL lo)
   clear hP hB hE
   generalize hW3 : W2.putObj _ _ = W3 at *
   obtain ⟨h1, ⟨v, h2, h3⟩, h4, h5, h6⟩ := hP3
   have c2 := h2.cell
   have f2 := h2.frozen
   gi_wp2
   refine ⟨by simp, .inl ⟨_, _, rfl, run_takeDeferred h5, ?_⟩⟩
   exact ⟨_, results_tmp rfl _ _ _, _, k, rfl, Owns.of_row (ownsRow_putObj h3 _ h5 rfl), hk, hp, .inr hnb, by
    unfold Ext; rw [← HNN.out]; exact h6.grown (grownBy_putObj' _ _ _) (by have := h2.lt; omega) fun b e => by cases e; omega⟩
  ·have hE : (Instr.endLoop (n + 4)).run Tryz.prog W2 = .ok (some (.exit 0)) (W2.putObj (n + 4) (.loop (overL (doneL lo)))) :=
    run_endLoop (P := Tryz.prog) hP.2.2.1 (by exact fun h => by cases h)
   refine ⟨some (.exit 0), _, hE, ?_⟩
   have hP3 := hP.put (overL (doneL lo))
   dsimp only at hP3 ⊢
   clear hP hE
   generalize hW3 : W2.putObj _ _ = W3 at *
   obtain ⟨h1, ⟨v, h2, h3⟩, h4, h5, h6⟩ := hP3
   have c2 := h2.cell
   have f2 := h2.frozen
   gi_wp2
   refine ⟨by simp, .inl ⟨_, _, rfl, run_takeDeferred h5, ?_⟩⟩
   exact ⟨_, results_tmp rfl _ _ _, _, k, rfl, Owns.of_row (ownsRow_putObj h3 _ h5 rfl), by omega, hp, .inl hk, by
    unfold Ext; rw [← HNN.out]; exact h6.grown (grownBy_putObj' _ _ _) (by have := h2.lt; omega) fun b e => by cases e; omega⟩
end Go.Proofs.YtkfonacokamfiaaGreat
/- The laws' helper: a memory with some words written. -/
namespace Go.Proofs.YtkfonacokamfiaaGreat
set_option linter.unusedVariables false
set_option linter.unusedSimpArgs false
open Go.RowKit
attribute [local go_sem] wext_cell wext_frozen wext_heap alloc_cell alloc_frozen alloc_heap setCell_cell objCell_cells objFrozen_cells
set_option maxHeartbeats 2000000 in
set_option maxRecDepth 20000 in
theorem built15_c (v : Value) (ds : List PutD) (w : World) (h : ListAt w v 4 PutD.cells PutD.ok ds) :
  Calls Tryz.prog 6 #[v] w (EndBuilt ds w) := by
 have HD := Lib.hid h
 obtain ⟨a, cap, rfl, hn, hm, hok, -⟩ := h
 unfold maxLen at hm
 have HK := Lib.hid hok
 have HN := Lib.hid (fun w => memNew_c 16 w ⟨by omega, by omega⟩)
 generalize hEnd : EndBuilt ds w = E
 have HEND := Aside.mk hEnd
 clear hEnd hok
 go_enter Tryz.func6, Tryz.ntmps6
 go_upto_region 2 with (first | (go_at_call 19; refine (HN.out _).mono ?_; rintro e w1 ⟨mb, F, rfl, hC, hE, hF⟩))
 have HC := Lib.hid hC
 have HE := Lib.hid hE
 have HF := Lib.hid hF
 clear hC hE hF
 go_wp2
 go_loopw [4] (fun i wr => ∃ (j : Nat) (F' : List Nat), j ≤ ds.length ∧ j ≤ 100 ∧ i = .int .i64 j ∧ Hid (MemAt wr mb F' 16 (builtM (ds.take j)) [] ∧ (∀ x ∈ F', w.heap.size ≤ x) ∧ Ext w wr)) (fun i _ => ds.length - (intOf i).toNat)
 case atStart => exact ⟨0, F, by omega, by omega, rfl, Lib.hid ⟨HC.out, HF.out, HE.out⟩⟩
 case round =>
  obtain ⟨j, F', hj, hj2, rfl, hR⟩ := hrel
  by_cases hlt : j < ds.length
  ·by_cases h120 : j < 100
   ·obtain ⟨a', cap', he, -, -, -, hcl⟩ := HD.out
    obtain ⟨g, o, e1, e2, e3⟩ := hcl j hlt
    have he' : a = a' := by injection he
    have hstep := builtM_take ds j hlt
    have hdok := HK.out j hlt
    generalize ds.getD j default = d at e3 hstep hdok
    subst he'
    subst e1
    have hsw := hR.out.2.2.size
    have e3w : ∀ i u, d.cells[i]? = some u → wr.cell? ⟨g, o + j * 4 + i, none⟩ = some u := fun i u hu => hR.out.2.2.someCell (e3 i u hu)
    have d0 : wr.cell? ⟨g, o + j * 4, none⟩ = some (.int .u16 d.s) := e3w 0 _ rfl
    have d1 := e3w 1 _ rfl
    have d2 := e3w 2 _ rfl
    have d3 := e3w 3 _ rfl
    have hgr : g < wr.heap.size := by omega
    have HS := Aside.mk hstep
    have HAT := Lib.hid (fun w => at8_c d w hdok)
    have hs := atS_le hdok
    have hx := atX_le hdok
    have HST := Lib.hid (fun w' (k : Ext wr w') => store_c mb F' 16 (builtM (ds.take j)) [] (atS d) (atX d) w' (hR.out.1.ext k) (by omega) (by omega) hx.1 hx.2)
    clear he hcl e3 e3w hstep hs hx
    generalize atS d = s at *
    generalize atX d = x at *
    go_wp2_with (first | (go_at_call 20; refine (HAT.out _).mono ?_; rintro e w2 ⟨rfl, hb2⟩) | (go_at_call 21; refine (HST.out _ (by repeat (first | exact Ext.refl _ | assumption | refine Ext.alloc ?_ _ | refine Ext.drew ?_ | refine Ext.setCell ?_ (by first | (simp; done) | (dsimp only; omega)) _ | refine Ext.trans ?_ (by assumption)))).mono ?_; rintro e w3 ⟨rfl, F3, q1, q2, q3⟩))
    have hFw := hR.out.2.1
    refine ⟨⟨j + 1, F3, by omega, by omega, by go_num, Lib.hid ⟨?_, ?_, ?_⟩⟩, by simp [intOf]; omega⟩
    ·rw [HS.out]; exact q1
    ·intro y hy
     rcases q3 y hy with k | k
     ·exact hFw y k
     ·have := hb2.size; omega
    ·exact Keeps.to_ext (hR.out.2.2.trans (by repeat (first | exact Ext.refl _ | assumption | refine Ext.alloc ?_ _ | refine Ext.drew ?_ | refine Ext.setCell ?_ (by first | (simp; done) | (dsimp only; omega)) _ | refine Ext.trans ?_ (by assumption)))) q2 hFw
   ·obtain rfl : j = 100 := by omega
    go_wp2
    (try go_ret)
    rw [← HEND.out]
    exact ⟨mb, F', rfl, hR.out.1, hR.out.2.2, hR.out.2.1, hR.out.2.1 _ hR.out.1.mem⟩
  ·obtain rfl : j = ds.length := by omega
   go_wp2
   (try go_ret)
   rw [← HEND.out]
   refine ⟨mb, F', rfl, ?_, hR.out.2.2, hR.out.2.1, hR.out.2.1 _ hR.out.1.mem⟩
   have := hR.out.1
   rw [List.take_of_length_le (Nat.le_refl _)] at this
   rw [List.take_of_length_le hj2]
   exact this
end Go.Proofs.YtkfonacokamfiaaGreat
