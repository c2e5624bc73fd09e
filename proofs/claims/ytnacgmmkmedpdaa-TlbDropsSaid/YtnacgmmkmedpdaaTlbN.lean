/- Translations that are nil. -/
import Derived.Test.YtnacgmmkmedpdaaTlbK
namespace Go.Proofs.Ytnacgmmkmedpdaa
set_option linter.unusedVariables false
set_option linter.unusedSimpArgs false
open Go.RowKit
attribute [local go_sem] wext_cell wext_frozen wext_heap alloc_cell alloc_frozen alloc_heap setCell_cell objCell_cells objFrozen_cells
open Go.Proofs

theorem ncached_c (w : World) : Calls Try.prog 88 #[.pointer none] w fun e w' => e = .returned (.pointer none) ∧ Ext w w' := by
  go_enter Try.func88, Try.ntmps88
  go_wp2
  all_goals
    go_ret
    exact ⟨rfl, (by repeat (first | exact Ext.refl _ | assumption | refine Ext.alloc ?_ _ | refine Ext.drew ?_ | refine Ext.setCell ?_ (by first | (simp; done) | (dsimp only; omega)) _ | refine Ext.trans ?_ (by assumption)))⟩
theorem nlen_c (w : World) : Calls Try.prog 43 #[.pointer none] w fun e w' => e = .returned (.int .i64 0) ∧ Ext w w' := by
  go_enter Try.func43, Try.ntmps43
  go_wp2_with (first | (go_at_call 88; refine (ncached_c _).mono ?_; rintro e w1 ⟨rfl, hb1⟩) | (go_at_call 25; refine (nil_keys _).mono ?_; rintro e w2 ⟨rfl, hb2⟩))
  go_ret
  exact ⟨rfl, (by repeat (first | exact Ext.refl _ | assumption | refine Ext.alloc ?_ _ | refine Ext.drew ?_ | refine Ext.setCell ?_ (by first | (simp; done) | (dsimp only; omega)) _ | refine Ext.trans ?_ (by assumption)))⟩
theorem nil_dropOf2 (pcid : Int) (w : World) : Calls Try.prog 28 #[.pointer none, .int .i64 pcid] w fun e w' => e = .returned (.tuple #[]) ∧ Ext w w' := by
  go_enter Try.func28, Try.ntmps28
  go_wp2_with (first | (go_at_call 25; refine (nil_keys _).mono ?_; rintro e w1 ⟨rfl, hb⟩))
  go_loopw [9] (fun i wr => i = .int .i64 0 ∧ Ext w wr) (fun i _ => 0)
  case atStart => exact ⟨rfl, Ext.trans (by repeat (first | exact Ext.refl _ | assumption | refine Ext.alloc ?_ _ | refine Ext.drew ?_ | refine Ext.setCell ?_ (by first | (simp; done) | (dsimp only; omega)) _ | refine Ext.trans ?_ (by assumption))) hb⟩
  case round =>
    obtain ⟨rfl, hR⟩ := hrel
    go_wp2
    all_goals
      refine ⟨rfl, .tuple #[], (by simp [results, Try.results28, go_sem]), ?_⟩
      exact ⟨rfl, hR.trans (by repeat (first | exact Ext.refl _ | assumption | refine Ext.alloc ?_ _ | refine Ext.drew ?_ | refine Ext.setCell ?_ (by first | (simp; done) | (dsimp only; omega)) _ | refine Ext.trans ?_ (by assumption)))⟩
theorem ndropOf_c (p : Int) (w : World) : Calls Try.prog 51 #[.pointer none, .int .i64 p] w fun e w' => e = .returned (.tuple #[]) ∧ Ext w w' := by
  go_enter Try.func51, Try.ntmps51
  go_wp2_with (first | (go_at_call 88; refine (ncached_c _).mono ?_; rintro e w1 ⟨rfl, hb1⟩) | (go_at_call 28; refine (nil_dropOf2 p _).mono ?_; rintro e w2 ⟨rfl, hb2⟩))
  refine ⟨rfl, .tuple #[], (by simp [results, Try.results51, go_sem]), ?_⟩
  exact ⟨rfl, (by repeat (first | exact Ext.refl _ | assumption | refine Ext.alloc ?_ _ | refine Ext.drew ?_ | refine Ext.setCell ?_ (by first | (simp; done) | (dsimp only; omega)) _ | refine Ext.trans ?_ (by assumption)))⟩
theorem nclear_c (w : World) : Calls Try.prog 52 #[.pointer none] w fun e w' => e = .returned (.tuple #[]) ∧ Ext w w' := by
  go_enter Try.func52, Try.ntmps52
  go_wp2_with (first | (go_at_call 88; refine (ncached_c _).mono ?_; rintro e w1 ⟨rfl, hb1⟩) | (go_at_call 32; refine (nil_clear _).mono ?_; rintro e w2 ⟨rfl, hb2⟩))
  refine ⟨rfl, .tuple #[], (by simp [results, Try.results52, go_sem]), ?_⟩
  exact ⟨rfl, (by repeat (first | exact Ext.refl _ | assumption | refine Ext.alloc ?_ _ | refine Ext.drew ?_ | refine Ext.setCell ?_ (by first | (simp; done) | (dsimp only; omega)) _ | refine Ext.trans ?_ (by assumption)))⟩
theorem nevict_c (pick : Int) (w : World) : Calls Try.prog 53 #[.pointer none, .int .i64 pick] w fun e w' => e = .returned (.tuple #[]) ∧ Ext w w' := by
  go_enter Try.func53, Try.ntmps53
  go_wp2_with (first | (go_at_call 88; refine (ncached_c _).mono ?_; rintro e w1 ⟨rfl, hb1⟩) | (go_at_call 30; refine (nil_evict pick _).mono ?_; rintro e w2 ⟨rfl, hb2⟩))
  refine ⟨rfl, .tuple #[], (by simp [results, Try.results53, go_sem]), ?_⟩
  exact ⟨rfl, (by repeat (first | exact Ext.refl _ | assumption | refine Ext.alloc ?_ _ | refine Ext.drew ?_ | refine Ext.setCell ?_ (by first | (simp; done) | (dsimp only; omega)) _ | refine Ext.trans ?_ (by assumption)))⟩
set_option maxHeartbeats 1000000 in
theorem nsmall_c (x : Line) (w : World) : Calls Try.prog 45 #[.pointer none, .int .i64 1, .int .u64 0, x.val, .int .i64 0] w fun e w' => e = .returned (.tuple #[]) ∧ Ext w w' := by
  have hkey := fun w => tlbKey_c 1 1 0 w (.inl rfl) (by omega) (by omega)
  have hput := fun w => nil_put (kT 1 1 0) x 0 w
  generalize kT 1 1 0 = k at hkey hput
  obtain ⟨xf, xa, xb, xc, xd, xm⟩ := x
  unfold Line.val at *
  dsimp only at *
  have HK := Lib.hid hkey
  have HP := Lib.hid hput
  clear hkey hput
  by_cases hz : xm = 0
  · have hzb : (xm != 0) = false := by simpa using hz
    go_enter Try.func45, Try.ntmps45
    go_wp2
    all_goals
      refine ⟨rfl, .tuple #[], (by simp [results, Try.results45, go_sem]), ?_⟩
      exact ⟨rfl, (by repeat (first | exact Ext.refl _ | assumption | refine Ext.alloc ?_ _ | refine Ext.drew ?_ | refine Ext.setCell ?_ (by first | (simp; done) | (dsimp only; omega)) _ | refine Ext.trans ?_ (by assumption)))⟩
  · have hzb : (xm != 0) = true := by simpa using hz
    go_enter Try.func45, Try.ntmps45
    go_upto_region 2 with (fail)
    refine region_ext_tail 7 (by kernel_rfl) (by kernel_rfl) ?_; simp only [List.take_succ_cons, List.take_zero, List.drop_succ_cons, List.drop_zero]; (repeat (go_big_quiet_step (first | (go_at_call 88; exact calls_wext (ncached_c _)) | (go_at_call 89; exact calls_wext (HK.out _))))); refine wpQuiet_nil ?_; intro w1 hb; have ⟨hc, hf, hh, hs⟩ := hb.facts; try simp only [World.size_alloc, World.size_setCell, World.size_drew] at hs
    clear hc hf hh hs
    go_wp2_with (first | (go_at_call 36; refine (HP.out _).mono ?_; rintro e w2 ⟨rfl, hb2⟩))
    refine ⟨rfl, .tuple #[], (by simp [results, Try.results45, go_sem]), ?_⟩
    exact ⟨rfl, (Ext.trans (by repeat (first | exact Ext.refl _ | assumption | refine Ext.alloc ?_ _ | refine Ext.drew ?_ | refine Ext.setCell ?_ (by first | (simp; done) | (dsimp only; omega)) _ | refine Ext.trans ?_ (by assumption))) hb).trans hb2⟩
set_option maxHeartbeats 1000000 in
theorem ngreat_c (x : Hit) (w : World) : Calls Try.prog 47 #[.pointer none, .int .i64 1, .int .u64 0, x.val, .int .i64 0] w fun e w' => e = .returned (.tuple #[]) ∧ Ext w w' := by
  have hkey := fun w hl => tlbKey_c 1 x.l 0 w hl (by omega) (by omega)
  have hput := fun w => nil_put (kT 1 x.l 0) ⟨x.f, x.a, x.b, x.c, x.d, 0⟩ 0 w
  obtain ⟨xf, xl, xa, xb, xc, xd⟩ := x
  unfold Hit.val
  dsimp only at *
  generalize kT 1 xl 0 = k at hkey hput
  unfold Line.val at hput
  dsimp only at hput
  have HK := Lib.hid hkey
  have HP := Lib.hid hput
  clear hkey hput
  have hcase : (xl ≠ 2 ∧ xl ≠ 3) ∨ xl = 2 ∨ xl = 3 := by omega
  rcases hcase with ⟨n2, n3⟩ | hl
  · have e2 : (xl == 2) = false := by simpa using n2
    have e3 : (xl == 3) = false := by simpa using n3
    go_enter Try.func47, Try.ntmps47
    go_wp2
    all_goals
      refine ⟨rfl, .tuple #[], (by simp [results, Try.results47, go_sem]), ?_⟩
      exact ⟨rfl, (by repeat (first | exact Ext.refl _ | assumption | refine Ext.alloc ?_ _ | refine Ext.drew ?_ | refine Ext.setCell ?_ (by first | (simp; done) | (dsimp only; omega)) _ | refine Ext.trans ?_ (by assumption)))⟩
  · have HK2 := Lib.hid (fun w => HK.out w (by omega))
    rcases hl with rfl | rfl
    all_goals
      go_enter Try.func47, Try.ntmps47
      go_upto_region 4 with (fail)
      refine region_ext_tail 15 (by kernel_rfl) (by kernel_rfl) ?_; simp only [List.take_succ_cons, List.take_zero, List.drop_succ_cons, List.drop_zero]; (repeat (go_big_quiet_step (first | (go_at_call 88; exact calls_wext (ncached_c _)) | (go_at_call 89; exact calls_wext (HK2.out _))))); refine wpQuiet_nil ?_; intro w1 hb; have ⟨hc, hf, hh, hs⟩ := hb.facts; try simp only [World.size_alloc, World.size_setCell, World.size_drew] at hs
      clear hc hf hh hs
      go_wp2_with (first | (go_at_call 36; refine (HP.out _).mono ?_; rintro e w2 ⟨rfl, hb2⟩))
      refine ⟨rfl, .tuple #[], (by simp [results, Try.results47, go_sem]), ?_⟩
      exact ⟨rfl, (Ext.trans (by repeat (first | exact Ext.refl _ | assumption | refine Ext.alloc ?_ _ | refine Ext.drew ?_ | refine Ext.setCell ?_ (by first | (simp; done) | (dsimp only; omega)) _ | refine Ext.trans ?_ (by assumption))) hb).trans hb2⟩
theorem nget (k : Key) (w : World) : Calls Try.prog 29 #[.pointer none, k.val] w fun e w' => e = .returned (.tuple #[.agg #[.int .u64 0, .bool false, .bool false, .bool false, .bool false, .int .u8 0], .bool false]) ∧ Ext w w' := nil_get k w
set_option maxHeartbeats 1000000 in
theorem ndrop_c (w : World) : Calls Try.prog 49 #[.pointer none, .int .i64 1, .int .u64 0] w fun e w' => e = .returned (.tuple #[]) ∧ Ext w w' := by
  have hk1 : ∀ w, Calls Try.prog 89 #[.int .i64 1, .int .i64 1, .int .u64 0] w fun e w' => e = .returned (.agg #[.int .i64 1, .int .i64 1, .int .u64 0]) ∧ Ext w w' := fun w => tlbKey_c 1 1 0 w (.inl rfl) (by omega) (by omega)
  have hk2 := fun w => tlbKey_c 1 2 0 w (.inr (.inl rfl)) (by omega) (by omega)
  have hk3 := fun w => tlbKey_c 1 3 0 w (.inr (.inr rfl)) (by omega) (by omega)
  have hg1 : ∀ w, Calls Try.prog 29 #[.pointer none, .agg #[.int .i64 1, .int .i64 1, .int .u64 0]] w fun e w' => e = .returned (.tuple #[.agg #[.int .u64 0, .bool false, .bool false, .bool false, .bool false, .int .u8 0], .bool false]) ∧ Ext w w' := fun w => nget ⟨1, 1, 0⟩ w
  generalize kT 1 2 0 = k2 at hk2
  generalize kT 1 3 0 = k3 at hk3
  go_enter Try.func49, Try.ntmps49
  go_upto_region 2 with (first | (go_at_call 88; refine (ncached_c _).mono ?_; rintro e w1 ⟨rfl, hb1⟩) | (go_at_call 89; refine (hk2 _).mono ?_; rintro e w2 ⟨rfl, hb2⟩) | (go_at_call 27; refine (nil_drop k2 _).mono ?_; rintro e w3 ⟨rfl, hb3⟩))
  go_upto_region 3 with (first | (go_at_call 89; refine (hk3 _).mono ?_; rintro e w4 ⟨rfl, hb4⟩) | (go_at_call 27; refine (nil_drop k3 _).mono ?_; rintro e w5 ⟨rfl, hb5⟩))
  go_upto_region 4 with (first | (go_at_call 89; refine (hk1 _).mono ?_; rintro e w6 ⟨rfl, hb6⟩))
  have E6 : Ext w w6 := Ext.trans (by repeat (first | exact Ext.refl _ | assumption | refine Ext.alloc ?_ _ | refine Ext.drew ?_ | refine Ext.setCell ?_ (by first | (simp; done) | (dsimp only; omega)) _ | refine Ext.trans ?_ (by assumption))) hb6
  go_wp2_with (first | (go_at_call 29; refine (hg1 _).mono ?_; rintro e w7 ⟨rfl, hb7⟩))
  all_goals
    refine ⟨rfl, .tuple #[], (by simp [results, Try.results49, go_sem]), ?_⟩
    exact ⟨rfl, ((E6.alloc _).trans hb7).alloc _⟩
set_option maxHeartbeats 1000000 in
theorem nlook_c (w : World) : Calls Try.prog 40 #[.pointer none, .int .i64 1, .int .u64 0] w fun e w' => e = .returned (.tuple #[.agg #[.int .u64 0, .int .i64 0, .bool false, .bool false, .bool false, .bool false], .bool false]) ∧ Ext w w' := by
  have hk1 := fun w => tlbKey_c 1 1 0 w (.inl rfl) (by omega) (by omega)
  have hk2 := fun w => tlbKey_c 1 2 0 w (.inr (.inl rfl)) (by omega) (by omega)
  have hk3 := fun w => tlbKey_c 1 3 0 w (.inr (.inr rfl)) (by omega) (by omega)
  generalize kT 1 1 0 = k1 at hk1
  generalize kT 1 2 0 = k2 at hk2
  generalize kT 1 3 0 = k3 at hk3
  go_enter Try.func40, Try.ntmps40
  go_upto_region 7 with (first | (go_at_call 88; refine (ncached_c _).mono ?_; rintro e w1 ⟨rfl, hb1⟩) | (go_at_call 89; refine (hk1 _).mono ?_; rintro e w2 ⟨rfl, hb2⟩) | (go_at_call 29; refine (nget k1 _).mono ?_; rintro e w3 ⟨rfl, hb3⟩))
  go_wp2
  refine wp_gen ?_; intro W hW
  have EW : Ext w W := by rw [hW]; exact (((Ext.trans (by repeat (first | exact Ext.refl _ | assumption | refine Ext.alloc ?_ _ | refine Ext.drew ?_ | refine Ext.setCell ?_ (by first | (simp; done) | (dsimp only; omega)) _ | refine Ext.trans ?_ (by assumption))) hb1).trans hb2).trans hb3).alloc _
  have r0 : W.heap[w.heap.size]? = some (.cells #[.int .u64 0, .int .i64 0, .bool false, .bool false, .bool false, .bool false] 70 (0, 0)) := by
    rw [hW]; exact (alloc_other _ _ (by have := ((hb1.trans hb2).trans hb3).size; simp at this; omega)).trans ((((hb1.trans hb2).trans hb3).block _ (by simp)).trans (alloc_same ..))
  have R0 := Lib.hid r0
  have HE := Lib.hid EW
  clear hW hb1 hb2 hb3 EW r0
  go_loopw [13] (fun lv wr => ∃ j : Nat, j ≤ 2 ∧ lv = .int .i64 ((j : Int) + 2) ∧ Hid (Ext w wr ∧ wr.heap[w.heap.size]? = some (.cells #[.int .u64 0, .int .i64 0, .bool false, .bool false, .bool false, .bool false] 70 (0, 0)))) (fun lv _ => 4 - (intOf lv).toNat)
  case atStart => exact ⟨0, by omega, rfl, Lib.hid ⟨HE.out, R0.out⟩⟩
  case round =>
    obtain ⟨j, hj, rfl, hR⟩ := hrel
    have hlr := heap_lt hR.out.2
    rcases (show j = 0 ∨ j = 1 ∨ j = 2 by omega) with rfl | rfl | rfl
    · go_wp2_with (first | (go_at_call 89; refine (hk2 _).mono ?_; rintro e w4 ⟨rfl, hb4⟩) | (go_at_call 29; refine (nget k2 _).mono ?_; rintro e w5 ⟨rfl, hb5⟩))
      exact ⟨⟨1, by omega, by go_num, Lib.hid ⟨((hR.out.1.trans hb4).trans hb5).alloc _, (alloc_other _ _ (by have := (hb4.trans hb5).size; omega)).trans (((hb4.trans hb5).block _ hlr).trans hR.out.2)⟩⟩, by simp [intOf]⟩
    · go_wp2_with (first | (go_at_call 89; refine (hk3 _).mono ?_; rintro e w4 ⟨rfl, hb4⟩) | (go_at_call 29; refine (nget k3 _).mono ?_; rintro e w5 ⟨rfl, hb5⟩))
      exact ⟨⟨2, by omega, by go_num, Lib.hid ⟨((hR.out.1.trans hb4).trans hb5).alloc _, (alloc_other _ _ (by have := (hb4.trans hb5).size; omega)).trans (((hb4.trans hb5).block _ hlr).trans hR.out.2)⟩⟩, by simp [intOf]⟩
    · have q0 := (heap_cell hR.out.2 0).trans rfl
      have q1 := (heap_cell hR.out.2 1).trans rfl
      have q2 := (heap_cell hR.out.2 2).trans rfl
      have q3 := (heap_cell hR.out.2 3).trans rfl
      have q4 := (heap_cell hR.out.2 4).trans rfl
      have q5 := (heap_cell hR.out.2 5).trans rfl
      have qf := frozen_of hR.out.2
      go_wp2
      refine post_gen (fun U => U.heap[w.heap.size]? = some (.cells #[.int .u64 0, .int .i64 0, .bool false, .bool false, .bool false, .bool false] 70 (0, 0)) ∧ Ext w U) ⟨?_, ?_⟩ ?_
      · exact store6_heap hR.out.2
      · exact ext6 hR.out.1 (Nat.le_refl _)
      rintro U ⟨m5, E5⟩
      have v0 := (heap_cell m5 0).trans rfl
      have v1 := (heap_cell m5 1).trans rfl
      have v2 := (heap_cell m5 2).trans rfl
      have v3 := (heap_cell m5 3).trans rfl
      have v4 := (heap_cell m5 4).trans rfl
      have v5 := (heap_cell m5 5).trans rfl
      clear m5 q0 q1 q2 q3 q4 q5 qf
      refine bodyPost_ret (by simp [results, Try.results40, go_sem, ↓IntWalk.iteOmega, *]; try rfl) rfl ⟨rfl, E5⟩
theorem near0_c (w : World) : Calls Try.prog 54 #[.int .u32 0] w fun e w' => e = .returned (.int .u64 0) ∧ Ext w w' := by
  go_enter Try.func54, Try.ntmps54
  go_wp2
  go_ret
  exact ⟨rfl, (by repeat (first | exact Ext.refl _ | assumption | refine Ext.alloc ?_ _ | refine Ext.drew ?_ | refine Ext.setCell ?_ (by first | (simp; done) | (dsimp only; omega)) _ | refine Ext.trans ?_ (by assumption)))⟩

theorem tdeed_is2 {W : World} {cs : List Value} (hl : cs.length = 16) (h : tdeedD.Is W cs) : ∃ d : TDeed, d.ok ∧ (-9223372036854775808 ≤ d.p ∧ d.p ≤ 9223372036854775807) ∧ cs = d.cells := by
  obtain ⟨a, b, c, d, e, f, g, i, j, k, m, n, o, p, q, r, rfl⟩ := len16 hl
  simp only [tdeedD, line13D, hitD, Dsc.Is, Dsc.IsAll, Dsc.size, Dsc.sizes, List.take_succ_cons, List.take_zero, List.drop_succ_cons, List.drop_zero, List.cons.injEq, and_true] at h
  obtain ⟨⟨n0, rfl, w0⟩, ⟨n1, rfl, w1⟩, ⟨n2, rfl, w2⟩, ⟨n3, rfl, w3⟩, ⟨⟨n5, rfl, _⟩, ⟨⟨b1, rfl⟩, ⟨b2, rfl⟩, ⟨b3, rfl⟩⟩, ⟨b4, rfl⟩, ⟨n6, rfl, w6⟩⟩, ⟨m1, rfl, _⟩, ⟨m2, rfl, _⟩, ⟨⟨c1, rfl⟩, ⟨c2, rfl⟩, ⟨c3, rfl⟩⟩, ⟨c4, rfl⟩⟩ := h
  exact ⟨⟨n0, n1, n2, n3, ⟨n5, b1, b2, b3, b4, n6⟩, ⟨m1, m2, c1, c2, c3, c4⟩⟩, ⟨bounds_i64 w2, bounds_u64 w3, bounds_u8 w6⟩, bounds_i64 w1, rfl⟩
theorem next_p {p : Int} (h0 : -9223372036854775808 ≤ p) (h1 : p ≤ 9223372036854775807) : ∃ q, wrap64 (p + 1) = q ∧ q ≠ p := ⟨_, rfl, by unfold wrap64; omega⟩
end Go.Proofs.Ytnacgmmkmedpdaa
