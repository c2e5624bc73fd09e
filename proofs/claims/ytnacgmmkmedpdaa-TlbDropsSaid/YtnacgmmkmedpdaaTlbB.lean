/- Lines of groups, of both sides: has a page, without a page. -/
import Derived.Test.YtnacgmmkmedpdaaTlbA
namespace Go.Proofs.Ytnacgmmkmedpdaa
set_option linter.unusedVariables false
set_option linter.unusedSimpArgs false
open Go.RowKit
attribute [local go_sem] wext_cell wext_frozen wext_heap alloc_cell alloc_frozen alloc_heap setCell_cell objCell_cells objFrozen_cells

def clrB (m i : Int) : Int := if bitB m i = true then m - pow2 i else m
theorem fin_and8 : ∀ (i : Fin 8) (m : Fin 256), (bits BinOp.and IntKind.u8 ((m : Nat) : Int) (pow2 ((i : Nat) : Int)) == 0) = !bitB ((m : Nat) : Int) ((i : Nat) : Int) := by decide +kernel
theorem fin_not8 : ∀ (i : Fin 8) (m : Fin 256), bits BinOp.andNot IntKind.u8 ((m : Nat) : Int) (pow2 ((i : Nat) : Int)) = clrB ((m : Nat) : Int) ((i : Nat) : Int) := by decide +kernel
theorem fin_with8 : ∀ (i : Fin 8) (m : Fin 256), ((withN (m : Nat) (i : Nat) false : Nat) : Int) = clrB ((m : Nat) : Int) ((i : Nat) : Int) := by decide +kernel
theorem fin_clr8 : ∀ (i : Fin 8) (m : Fin 256), 0 ≤ clrB ((m : Nat) : Int) ((i : Nat) : Int) ∧ clrB ((m : Nat) : Int) ((i : Nat) : Int) ≤ 255 := by decide +kernel
theorem toFin {m : Int} {n : Nat} (h0 : 0 ≤ m) (h1 : m < n) : ∃ k : Fin n, ((k : Nat) : Int) = m := ⟨⟨m.toNat, by omega⟩, by simp; omega⟩
theorem and8 {m i : Int} (hm0 : 0 ≤ m) (hm1 : m ≤ 255) (hi0 : 0 ≤ i) (hi1 : i ≤ 7) : (bits BinOp.and IntKind.u8 m (pow2 i) == 0) = !bitB m i := by
  obtain ⟨a, rfl⟩ := toFin (n := 256) hm0 (by omega)
  obtain ⟨b, rfl⟩ := toFin (n := 8) hi0 (by omega)
  exact fin_and8 b a
theorem not8 {m i : Int} (hm0 : 0 ≤ m) (hm1 : m ≤ 255) (hi0 : 0 ≤ i) (hi1 : i ≤ 7) : bits BinOp.andNot IntKind.u8 m (pow2 i) = clrB m i := by
  obtain ⟨a, rfl⟩ := toFin (n := 256) hm0 (by omega)
  obtain ⟨b, rfl⟩ := toFin (n := 8) hi0 (by omega)
  exact fin_not8 b a
theorem with8 {m i : Int} (hm0 : 0 ≤ m) (hm1 : m ≤ 255) (hi0 : 0 ≤ i) (hi1 : i ≤ 7) : ((withN m.toNat i.toNat false : Nat) : Int) = clrB m i := by
  obtain ⟨a, rfl⟩ := toFin (n := 256) hm0 (by omega)
  obtain ⟨b, rfl⟩ := toFin (n := 8) hi0 (by omega)
  exact fin_with8 b a
theorem clr8 {m i : Int} (hm0 : 0 ≤ m) (hm1 : m ≤ 255) (hi0 : 0 ≤ i) (hi1 : i ≤ 7) : 0 ≤ clrB m i ∧ clrB m i ≤ 255 := by
  obtain ⟨a, rfl⟩ := toFin (n := 256) hm0 (by omega)
  obtain ⟨b, rfl⟩ := toFin (n := 8) hi0 (by omega)
  exact fin_clr8 b a

def hasF (x : Line) (i : Int) : Int := if bitB x.m i = true then IntKind.u64.wrap (x.f + 4096 * i) else 0
def Line.ok (x : Line) : Prop := 0 ≤ x.m ∧ x.m ≤ 255
def outL (x : Line) (i : Int) : Line := if clrB x.m i = 0 then noLine else ⟨x.f, x.a, x.b, x.c, x.d, clrB x.m i⟩
theorem outL_ok {x : Line} {i : Int} (h : x.ok) (hi0 : 0 ≤ i) (hi1 : i ≤ 7) : (outL x i).ok := by
  unfold outL
  split
  · exact ⟨by simp [noLine], by simp [noLine]⟩
  · exact clr8 h.1 h.2 hi0 hi1

theorem gbit_c (i : Int) (w : World) (hi0 : 0 ≤ i) (hi1 : i ≤ 7) : Calls Try.prog 94 #[.int .i64 i] w fun e w' => e = .returned (.int .u8 (pow2 i)) ∧ Ext w w' := by
  rcases (show i = 0 ∨ i = 1 ∨ i = 2 ∨ i = 3 ∨ i = 4 ∨ i = 5 ∨ i = 6 ∨ i = 7 by omega) with rfl | rfl | rfl | rfl | rfl | rfl | rfl | rfl
  all_goals
    go_enter Try.func94, Try.ntmps94
    go_wp2
    all_goals
      go_ret
      exact ⟨rfl, (by repeat (first | exact Ext.refl _ | assumption | refine Ext.alloc ?_ _ | refine Ext.drew ?_ | refine Ext.setCell ?_ (by first | (simp; done) | (dsimp only; omega)) _ | refine Ext.trans ?_ (by assumption)))⟩

set_option maxHeartbeats 1000000 in
theorem has_c (x : Line) (i : Int) (w : World) (hx : x.ok) (hi0 : 0 ≤ i) (hi1 : i ≤ 7) :
    Calls Try.prog 46 #[x.val, .int .i64 i] w fun e w' => e = .returned (.tuple #[.int .u64 (hasF x i), .bool (bitB x.m i)]) ∧ Ext w w' := by
  have h8 := and8 hx.1 hx.2 hi0 hi1
  unfold hasF
  obtain ⟨xf, xa, xb, xc, xd, xm⟩ := x
  unfold Line.val
  dsimp only at h8 ⊢
  have hg := fun w => gbit_c i w hi0 hi1
  generalize pow2 i = pi at h8 hg
  cases hq : bitB xm i
  all_goals
    rw [hq] at h8
    go_enter Try.func46, Try.ntmps46
    go_upto_region 1 with (fail)
    refine region_ext (by kernel_rfl) (by kernel_rfl) ?_; (repeat (go_big_quiet_step ((go_at_call 94; exact calls_wext (hg _))))); refine wpQuiet_nil ?_; intro w1 hb; have ⟨hc, hf, hh, hs⟩ := hb.facts; try simp only [World.size_alloc, World.size_setCell, World.size_drew] at hs
    go_wp2
    all_goals
      go_ret2
      exact ⟨rfl, (by repeat (first | exact Ext.refl _ | assumption | refine Ext.alloc ?_ _ | refine Ext.drew ?_ | refine Ext.setCell ?_ (by first | (simp; done) | (dsimp only; omega)) _ | refine Ext.trans ?_ (by assumption)))⟩

set_option maxHeartbeats 1000000 in
theorem gout_c (x : Line) (i : Int) (w : World) (hx : x.ok) (hi0 : 0 ≤ i) (hi1 : i ≤ 7) :
    Calls Try.prog 95 #[x.val, .int .i64 i] w fun e w' => e = .returned (outL x i).val ∧ Ext w w' := by
  have h8 := not8 hx.1 hx.2 hi0 hi1
  unfold outL
  obtain ⟨xf, xa, xb, xc, xd, xm⟩ := x
  unfold Line.val
  dsimp only at h8 ⊢
  have hg := fun w => gbit_c i w hi0 hi1
  generalize pow2 i = pi at h8 hg
  generalize clrB xm i = cm at *
  by_cases hz : cm = 0
  · have hzb : (cm == 0) = true := by simpa using hz
    rw [if_pos hz]
    unfold noLine
    dsimp only
    go_enter Try.func95, Try.ntmps95
    go_upto_region 1 with (fail)
    refine region_ext_tail 6 (by kernel_rfl) (by kernel_rfl) ?_; simp only [List.take_succ_cons, List.take_zero, List.drop_succ_cons, List.drop_zero]; (repeat (go_big_quiet_step ((go_at_call 94; exact calls_wext (hg _))))); refine wpQuiet_nil ?_; intro w1 hb; have ⟨hc, hf, hh, hs⟩ := hb.facts; try simp only [World.size_alloc, World.size_setCell, World.size_drew] at hs
    have B0 := (hb.block w.heap.size (by simp; omega)).trans ((alloc_other _ _ (by simp)).trans (alloc_same ..))
    have B1 := (hb.block (w.heap.size + 1) (by simp)).trans (alloc_same1 ..)
    have EB : Ext w w1 := Ext.trans (by repeat (first | exact Ext.refl _ | assumption | refine Ext.alloc ?_ _ | refine Ext.drew ?_ | refine Ext.setCell ?_ (by first | (simp; done) | (dsimp only; omega)) _ | refine Ext.trans ?_ (by assumption))) hb
    have x0 := (heap_cell B0 0).trans rfl
    have x1 := (heap_cell B0 1).trans rfl
    have x2 := (heap_cell B0 2).trans rfl
    have x3 := (heap_cell B0 3).trans rfl
    have x4 := (heap_cell B0 4).trans rfl
    have x5 := (heap_cell B0 5).trans rfl
    have f0 := frozen_of B0
    have r0 := (heap_cell B1 0).trans rfl
    have r1 := (heap_cell B1 1).trans rfl
    have r2 := (heap_cell B1 2).trans rfl
    have r3 := (heap_cell B1 3).trans rfl
    have r4 := (heap_cell B1 4).trans rfl
    have r5 := (heap_cell B1 5).trans rfl
    have f1 := frozen_of B1
    have hs1 := heap_lt B1
    have H1 := Lib.hid B1
    have HE := Lib.hid EB
    clear hb hc hf hh hs B0 B1 EB
    go_wp2
    refine post_gen (fun U => U.heap[w.heap.size + 1]? = some (.cells #[.int .u64 0, .bool false, .bool false, .bool false, .bool false, .int .u8 0] 38 (0, 0)) ∧ Ext w U) ⟨?_, ?_⟩ ?_
    · exact store6_heap ((setCell_heap _ _ _ _ _ (by omega)).trans H1.out)
    · exact ext6 (Ext.setCell HE.out (by simp) _) (by omega)
    rintro U ⟨m5, E5⟩
    have v0 := (heap_cell m5 0).trans rfl
    have v1 := (heap_cell m5 1).trans rfl
    have v2 := (heap_cell m5 2).trans rfl
    have v3 := (heap_cell m5 3).trans rfl
    have v4 := (heap_cell m5 4).trans rfl
    have v5 := (heap_cell m5 5).trans rfl
    clear m5 x0 x1 x2 x3 x4 x5 f0 r0 r1 r2 r3 r4 r5 f1
    refine bodyPost_ret (by simp [results, Try.results95, go_sem, ↓IntWalk.iteOmega, *]; try rfl) rfl ⟨rfl, E5⟩
  · have hzb : (cm == 0) = false := by simpa using hz
    rw [if_neg hz]
    dsimp only
    go_enter Try.func95, Try.ntmps95
    go_upto_region 1 with (fail)
    refine region_ext_tail 6 (by kernel_rfl) (by kernel_rfl) ?_; simp only [List.take_succ_cons, List.take_zero, List.drop_succ_cons, List.drop_zero]; (repeat (go_big_quiet_step ((go_at_call 94; exact calls_wext (hg _))))); refine wpQuiet_nil ?_; intro w1 hb; have ⟨hc, hf, hh, hs⟩ := hb.facts; try simp only [World.size_alloc, World.size_setCell, World.size_drew] at hs
    have B0 := (hb.block w.heap.size (by simp; omega)).trans ((alloc_other _ _ (by simp)).trans (alloc_same ..))
    have B1 := (hb.block (w.heap.size + 1) (by simp)).trans (alloc_same1 ..)
    have EB : Ext w w1 := Ext.trans (by repeat (first | exact Ext.refl _ | assumption | refine Ext.alloc ?_ _ | refine Ext.drew ?_ | refine Ext.setCell ?_ (by first | (simp; done) | (dsimp only; omega)) _ | refine Ext.trans ?_ (by assumption))) hb
    have x0 := (heap_cell B0 0).trans rfl
    have x1 := (heap_cell B0 1).trans rfl
    have x2 := (heap_cell B0 2).trans rfl
    have x3 := (heap_cell B0 3).trans rfl
    have x4 := (heap_cell B0 4).trans rfl
    have x5 := (heap_cell B0 5).trans rfl
    have f0 := frozen_of B0
    have r0 := (heap_cell B1 0).trans rfl
    have r1 := (heap_cell B1 1).trans rfl
    have r2 := (heap_cell B1 2).trans rfl
    have r3 := (heap_cell B1 3).trans rfl
    have r4 := (heap_cell B1 4).trans rfl
    have r5 := (heap_cell B1 5).trans rfl
    have f1 := frozen_of B1
    have hs1 := heap_lt B1
    have H1 := Lib.hid B1
    have HE := Lib.hid EB
    clear hb hc hf hh hs B0 B1 EB
    go_wp2
    refine post_gen (fun U => U.heap[w.heap.size + 1]? = some (.cells #[.int .u64 xf, .bool xa, .bool xb, .bool xc, .bool xd, .int .u8 cm] 38 (0, 0)) ∧ Ext w U) ⟨?_, ?_⟩ ?_
    · exact store6_heap ((setCell_heap _ _ _ _ _ (by omega)).trans H1.out)
    · exact ext6 (Ext.setCell HE.out (by simp) _) (by omega)
    rintro U ⟨m5, E5⟩
    have v0 := (heap_cell m5 0).trans rfl
    have v1 := (heap_cell m5 1).trans rfl
    have v2 := (heap_cell m5 2).trans rfl
    have v3 := (heap_cell m5 3).trans rfl
    have v4 := (heap_cell m5 4).trans rfl
    have v5 := (heap_cell m5 5).trans rfl
    clear m5 x0 x1 x2 x3 x4 x5 f0 r0 r1 r2 r3 r4 r5 f1
    refine bodyPost_ret (by simp [results, Try.results95, go_sem, ↓IntWalk.iteOmega, *]; try rfl) rfl ⟨rfl, E5⟩

theorem refIndex1_c (a : Int) (w : World) (h0 : 0 ≤ a) (h1 : a ≤ 18446744073709551615) : Calls Try.prog 123 #[.int .u64 a, .int .i64 1] w fun e w' => e = .returned (.int .i64 (a / 4096 % 512)) ∧ Ext w w' := by
  have hp : ∀ w, Calls Try.prog 136 #[.int .i64 12] w fun e w' => e = .returned (.int .u64 4096) ∧ Ext w w' := fun w => power_c 12 w (by omega) (by omega)
  go_enter Try.func123, Try.ntmps123
  go_wp2_with (first | (go_at_call 136; refine (hp _).mono ?_; rintro e w1 ⟨rfl, hb⟩; have ⟨hc, hf, hh, hs⟩ := hb.facts; try simp only [World.size_alloc, World.size_setCell, World.size_drew] at hs))
  go_ret
  exact ⟨rfl, (by repeat (first | exact Ext.refl _ | assumption | refine Ext.alloc ?_ _ | refine Ext.drew ?_ | refine Ext.setCell ?_ (by first | (simp; done) | (dsimp only; omega)) _ | refine Ext.trans ?_ (by assumption)))⟩
theorem refPlace_c (a : Int) (w : World) (h0 : 0 ≤ a) (h1 : a ≤ 18446744073709551615) : Calls Try.prog 93 #[.int .u64 a] w fun e w' => e = .returned (.int .i64 (placeI a)) ∧ Ext w w' := by
  have hp : (a / 4096 % 512) % 8 = placeI a := by unfold placeI; omega
  go_enter Try.func93, Try.ntmps93
  go_wp2_with (first | (go_at_call 123; refine (refIndex1_c a _ h0 h1).mono ?_; rintro e w1 ⟨rfl, hb⟩; have ⟨hc, hf, hh, hs⟩ := hb.facts; try simp only [World.size_alloc, World.size_setCell, World.size_drew] at hs))
  go_ret
  exact ⟨by rw [← hp]; rfl, (by repeat (first | exact Ext.refl _ | assumption | refine Ext.alloc ?_ _ | refine Ext.drew ?_ | refine Ext.setCell ?_ (by first | (simp; done) | (dsimp only; omega)) _ | refine Ext.trans ?_ (by assumption)))⟩
set_option maxHeartbeats 1000000 in
theorem refHas_c (x : Line) (i : Int) (w : World) (hx : x.ok) (hi0 : 0 ≤ i) (hi1 : i ≤ 7) :
    Calls Try.prog 92 #[x.val, .int .i64 i] w fun e w' => e = .returned (.tuple #[.int .u64 (hasF x i), .bool (bitB x.m i)]) ∧ Ext w w' := by
  unfold hasF
  obtain ⟨xf, xa, xb, xc, xd, xm⟩ := x
  obtain ⟨hx0, hx1⟩ := hx
  dsimp only at hx0 hx1 ⊢
  unfold Line.val
  have hg := fun w => bit_c xm i w (by omega) (by omega) (by omega) (by omega)
  cases hq : bitB xm i
  all_goals
    rw [hq] at hg
    go_enter Try.func92, Try.ntmps92
    go_wp2_with (first | (go_at_call 122; refine (hg _).mono ?_; rintro e w1 ⟨rfl, hb⟩; have ⟨hc, hf, hh, hs⟩ := hb.facts; try simp only [World.size_alloc, World.size_setCell, World.size_drew] at hs))
    all_goals
      go_ret2
      exact ⟨rfl, (by repeat (first | exact Ext.refl _ | assumption | refine Ext.alloc ?_ _ | refine Ext.drew ?_ | refine Ext.setCell ?_ (by first | (simp; done) | (dsimp only; omega)) _ | refine Ext.trans ?_ (by assumption)))⟩
end Go.Proofs.Ytnacgmmkmedpdaa
