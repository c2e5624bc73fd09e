/- PscRoom: there are never more of a level than there is room for; without room there are none; a Psc that is nil has nothing: for all words and addresses. -/
import Derived.Test.YtfaekfdngkpkdaaPsk4
namespace Go.Proofs.Ytfaekfdngkpkdaa
set_option linter.unusedVariables false
set_option linter.unusedSimpArgs false
open Go.RowKit
attribute [local go_sem] wext_cell wext_frozen wext_heap alloc_cell alloc_frozen alloc_heap setCell_cell objCell_cells objFrozen_cells

theorem nilFill_c (p a : Int) (w : World) :
    Calls Try.prog 30 #[.pointer none, .int .i64 p, .int .u64 a, .agg #[.slice none 0 0, .int .i64 0, .bool false, .bool false, .bool false, .int .i64 0, .int .u64 0], .agg #[.int .i64 0, .int .u64 0, .bool false, .bool false, .bool false], .agg #[.int .i64 0, .int .i64 0, .int .i64 0]] w fun e w' => e = .returned (.tuple #[]) ∧ Ext w w' := by
  go_enter Try.func30, Try.ntmps30
  go_wp2
  refine wp_gen ?_; intro V hV
  have hVE : Ext w V := by rw [hV]; exact (by repeat (first | exact Ext.refl _ | assumption | refine Ext.alloc ?_ _ | refine Ext.drew ?_ | refine Ext.setCell ?_ (by first | (simp; done) | (dsimp only; omega)) _ | refine Ext.trans ?_ (by assumption)))
  have hV0 : V.heap[w.heap.size]? = some (.cells #[.slice none 0 0, .int .i64 0, .bool false, .bool false, .bool false, .int .i64 0, .int .u64 0] 38 (0, 0)) := by
    rw [hV]; exact (alloc_other _ _ (by first | (simp; done) | (simp; omega))).trans ((alloc_other _ _ (by first | (simp; done) | (simp; omega))).trans ((alloc_other _ _ (by simp)).trans (alloc_same ..)))
  have VE := Lib.hid hVE
  have p0 := (heap_cell hV0 0).trans rfl
  have pl := heap_lt hV0
  clear hV hVE hV0
  go_upto_region 3 with (fail)
  clear p0 pl
  go_loopw [21] (fun iv wr => iv = .int .i64 0 ∧ Hid (Ext w wr)) (fun iv _ => 0)
  case atStart => exact ⟨rfl, VE⟩
  case round =>
    obtain ⟨rfl, hR⟩ := hrel
    go_wp2
    refine ⟨rfl, .tuple #[], (by simp [results, Try.results30, go_sem]), ?_⟩
    exact ⟨rfl, hR.out⟩
theorem right_least_c (w : World) : Calls Try.prog 41 #[.agg #[.bool false, .bool false, .bool false], .agg #[.bool true, .bool true, .bool true]] w fun e w' => e = .returned (.bool true) ∧ Ext w w' := by
  go_enter Try.func41, Try.ntmps41
  go_wp2
  all_goals
    go_ret
    exact ⟨rfl, (by repeat (first | exact Ext.refl _ | assumption | refine Ext.alloc ?_ _ | refine Ext.drew ?_ | refine Ext.setCell ?_ (by first | (simp; done) | (dsimp only; omega)) _ | refine Ext.trans ?_ (by assumption)))⟩

set_option maxHeartbeats 4000000 in
set_option maxRecDepth 100000 in
theorem pscRoom_c (v : Value) (ds : List PutD) (v2 : Value) (ns : List Int) (rm : Int) (w : World) (h : ListAt w v 4 PutD.cells PutD.ok ds) (hv : ListAt w v2 1 U32.cells U32.ok ns) (hn0 : 0 ≤ rm) (hn1 : rm ≤ 255) :
    Calls Try.prog 9 #[v, v2, .int .u8 rm] w fun e w' => e = .returned (.bool true) ∧ Ext w w' := by
  have HL := Lib.hid h
  have HV := Lib.hid hv
  obtain ⟨a1, c1, rfl, -, -, -, -⟩ := h
  obtain ⟨va, vc, rfl, -, hmx, -, -⟩ := hv
  unfold maxLen at hmx
  have hcl : clampR (rm % 4) = (rm % 4).toNat := by unfold clampR; rw [if_neg (by omega), if_neg (by omega)]
  obtain ⟨r, hr⟩ : ∃ r : Nat, rm % 4 = (r : Int) := ⟨(rm % 4).toNat, by omega⟩
  have hr4 : r ≤ 3 := by omega
  rw [hr, Int.toNat_natCast] at hcl
  have HCL := Lib.hid hcl
  have HRr := Lib.hid hr
  clear hcl
  go_enter Try.func9, Try.ntmps9
  go_upto_region 5 with (first | (go_at_call 23; refine (awake11_c _).mono ?_; rintro e w0 ⟨rfl, hb0⟩) | (go_at_call 24; refine (built11_c _ ds _ (HL.out.ext (by repeat (first | exact Ext.refl _ | assumption | refine Ext.alloc ?_ _ | refine Ext.drew ?_ | refine Ext.setCell ?_ (by first | (simp; done) | (dsimp only; omega)) _ | refine Ext.trans ?_ (by assumption))))).mono ?_; rintro e w1 ⟨mb, Fm, rfl, hC, hE, hF, hmb⟩))
  have C1 := Lib.hid hC
  have E1 : Hid (Ext w w1) := Lib.hid ((Ext.trans (by repeat (first | exact Ext.refl _ | assumption | refine Ext.alloc ?_ _ | refine Ext.drew ?_ | refine Ext.setCell ?_ (by first | (simp; done) | (dsimp only; omega)) _ | refine Ext.trans ?_ (by assumption))) hb0).trans hE)
  have hF1 : ∀ x ∈ Fm, w.heap.size ≤ x := fun x hx => Nat.le_trans (Ext.size (Ext.trans (by repeat (first | exact Ext.refl _ | assumption | refine Ext.alloc ?_ _ | refine Ext.drew ?_ | refine Ext.setCell ?_ (by first | (simp; done) | (dsimp only; omega)) _ | refine Ext.trans ?_ (by assumption))) hb0)) (hF x hx)
  have F1 := Lib.hid hF1
  clear hC hE hF hF1 hmb hb0
  go_upto_region 6 with (first | (go_at_call 25; refine (warm_c mb Fm (builtM (ds.take 100)) [] r _ ns w _ E1.out C1.out F1.out HV.out (by simp) (by omega) (by omega)).mono ?_; rintro e w2 ⟨pb, cb, F, Fm2, T2, rfl, hB, hK, hf1, hf2, hp, hT⟩))
  obtain ⟨C, hCd⟩ : ∃ C, warmP (builtM (ds.take 100)) (clampR r) ns (min ns.length 20) = C := ⟨_, rfl⟩
  rw [hCd, HCL.out] at hB
  have E2 : Hid (Ext w w2) := Lib.hid (Keeps.to_ext E1.out hK F1.out)
  have P2 := Lib.hid hB.psc
  have N2 : Hid (∀ x ∈ allF F, w.heap.size ≤ x) := Lib.hid fun x hx => Nat.le_trans E1.out.size (hf2 x hx)
  clear hCd hB hK hf1 hf2 hp hT
  go_upto_region 7 with (fail)
  go_loopw [10] (fun iv wr => ∃ j : Nat, j ≤ 6 ∧ iv = .int .i64 j ∧ Hid (Ext w2 wr)) (fun iv _ => 6 - (intOf iv).toNat)
  case atStart => exact ⟨0, by omega, rfl, Lib.hid (by repeat (first | exact Ext.refl _ | assumption | refine Ext.alloc ?_ _ | refine Ext.drew ?_ | refine Ext.setCell ?_ (by first | (simp; done) | (dsimp only; omega)) _ | refine Ext.trans ?_ (by assumption)))⟩
  case round =>
    obtain ⟨j, hj, rfl, hR⟩ := hrel
    by_cases hlt : j < 6
    · have HP := Lib.hid (P2.out.ext hR.out)
      by_cases hl : 2 ≤ j ∧ j ≤ 4
      · have hlen := (HP.out.room (l := (j : Int)) (by omega) (by omega)).1
        have HLn := Lib.hid (fun w h => pscLen_c pb cb F C r (j : Int) w h (by omega))
        generalize (C (j : Int)).length = m at HLn hlen
        have hmb : decide (((r : Nat) : Int) < ((m : Nat) : Int)) = false := by simpa using hlen
        clear hl
        go_wp2_with (first | (go_at_call 31; refine (HLn.out _ (HP.out.ext (by repeat (first | exact Ext.refl _ | assumption | refine Ext.alloc ?_ _ | refine Ext.drew ?_ | refine Ext.setCell ?_ (by first | (simp; done) | (dsimp only; omega)) _ | refine Ext.trans ?_ (by assumption))))).mono ?_; rintro e w3 ⟨rfl, hb3⟩))
        exact ⟨⟨j + 1, by omega, by go_num, Lib.hid (hR.out.trans (Ext.trans (by repeat (first | exact Ext.refl _ | assumption | refine Ext.alloc ?_ _ | refine Ext.drew ?_ | refine Ext.setCell ?_ (by first | (simp; done) | (dsimp only; omega)) _ | refine Ext.trans ?_ (by assumption))) hb3))⟩, by simp [intOf]; omega⟩
      · have HLn := Lib.hid (fun w => pscLenNo_c (some ⟨pb, 0, none⟩) (j : Int) w (by omega))
        clear hl
        go_wp2_with (first | (go_at_call 31; refine (HLn.out _).mono ?_; rintro e w3 ⟨rfl, hb3⟩))
        exact ⟨⟨j + 1, by omega, by go_num, Lib.hid (hR.out.trans (Ext.trans (by repeat (first | exact Ext.refl _ | assumption | refine Ext.alloc ?_ _ | refine Ext.drew ?_ | refine Ext.setCell ?_ (by first | (simp; done) | (dsimp only; omega)) _ | refine Ext.trans ?_ (by assumption))) hb3))⟩, by simp [intOf]; omega⟩
    · obtain rfl : j = 6 := by omega
      have HP := Lib.hid (P2.out.ext hR.out)
      have HW := Lib.hid (E2.out.trans hR.out)
      have HEv := Lib.hid (fun w h => pscEvict_c pb cb F C r 4 rm w h (by omega) (by omega) (by omega))
      have hev : (evictL rm (C 4)).length ≤ r - 1 := by
        have := (HP.out.room (l := 4) (by omega) (by omega)).1
        by_cases h0 : (C 4).length = 0
        · have : evictL rm (C 4) = C 4 := by unfold evictL; rw [if_pos h0]
          rw [this]; omega
        · rw [evictL_length (by omega)]; omega
      generalize hC2 : upd C 4 (evictL rm (C 4)) = C2 at HEv
      have hc24 : C2 4 = evictL rm (C 4) := by rw [← hC2]; exact upd_same _ _ _
      rw [← hc24] at hev
      clear hC2 hc24 hlt hj
      go_upto_region 12 with (first | (go_at_call 39; refine (HEv.out _ (HP.out.ext (by repeat (first | exact Ext.refl _ | assumption | refine Ext.alloc ?_ _ | refine Ext.drew ?_ | refine Ext.setCell ?_ (by first | (simp; done) | (dsimp only; omega)) _ | refine Ext.trans ?_ (by assumption))))).mono ?_; rintro e w4 ⟨rfl, F4, hP4, hK4, hf4⟩))
      have HW4 : Hid (Ext w w4) := Lib.hid (Keeps.to_ext (HW.out.trans (by repeat (first | exact Ext.refl _ | assumption | refine Ext.alloc ?_ _ | refine Ext.drew ?_ | refine Ext.setCell ?_ (by first | (simp; done) | (dsimp only; omega)) _ | refine Ext.trans ?_ (by assumption)))) hK4 N2.out)
      have N4 : Hid (∀ x ∈ allF F4, w.heap.size ≤ x) := Lib.hid fun x hx => by
        rcases hf4 x hx with z | z
        · exact N2.out x z
        · have := HW.out.size; omega
      have P4 := Lib.hid hP4
      clear hP4 hK4 hf4
      have HLn := Lib.hid (fun w h => pscLen_c pb cb F4 C2 r 4 w h (by omega))
      generalize (C2 4).length = m at HLn hev
      have hev0 : (r = 0 ∧ m = 0) ∨ (1 ≤ r ∧ (m : Int) ≤ (r : Int) - 1) := by omega
      have HCl := Lib.hid (fun w h => pscClear_c pb cb F4 C2 r w h)
      have HNF := Lib.hid (nilFill_c 1 0)
      have HND := Lib.hid (fun w => pscDropPageNil_c 1 0 w (by omega) (by omega))
      have HNO := Lib.hid (fun w => pscDropOfNil_c 1 w)
      have HNC := Lib.hid (fun w => pscClearNil_c w)
      have HNE := Lib.hid (fun w => pscEvictNo_c none 4 0 w (.inl rfl))
      have HNDe := Lib.hid (fun w => deepestNil_c 1 0 w (by omega) (by omega))
      have HNL := Lib.hid (fun w => pscLenNo_c none 4 w (.inl rfl))
      have HRA := Lib.hid rightAllE_c
      have HRL := Lib.hid right_least_c
      rcases hev0 with ⟨rfl, rfl⟩ | ⟨hr1, hmr⟩
      all_goals
        go_upto_region 13 with (first | (go_at_call 31; refine (HLn.out _ (P4.out.ext (by repeat (first | exact Ext.refl _ | assumption | refine Ext.alloc ?_ _ | refine Ext.drew ?_ | refine Ext.setCell ?_ (by first | (simp; done) | (dsimp only; omega)) _ | refine Ext.trans ?_ (by assumption))))).mono ?_; rintro e w5 ⟨rfl, hb5⟩))
        go_upto_region 14 with (first | (go_at_call 40; refine (HCl.out _ (P4.out.ext (Ext.trans (by repeat (first | exact Ext.refl _ | assumption | refine Ext.alloc ?_ _ | refine Ext.drew ?_ | refine Ext.setCell ?_ (by first | (simp; done) | (dsimp only; omega)) _ | refine Ext.trans ?_ (by assumption))) hb5))).mono ?_; rintro e w6 ⟨rfl, F6, hP6, hK6, hf6⟩))
        have P6 := Lib.hid hP6
        have E6 : Hid (Ext w w6) := Lib.hid (Keeps.to_ext (HW4.out.trans (Ext.trans (by repeat (first | exact Ext.refl _ | assumption | refine Ext.alloc ?_ _ | refine Ext.drew ?_ | refine Ext.setCell ?_ (by first | (simp; done) | (dsimp only; omega)) _ | refine Ext.trans ?_ (by assumption))) hb5)) hK6 N4.out)
        clear hP6 hK6 hf6 hb5
        have HL0 := Lib.hid (fun (l : Int) (hl : l = 2 ∨ l = 3 ∨ l = 4) w9 (k : Ext w6 w9) => by have := pscLen_c pb cb F6 (eachP (fun _ _ => []) C2) _ l w9 (P6.out.ext k) hl; rw [show eachP (fun _ _ => []) C2 l = [] by unfold eachP; rw [if_pos (by omega)]] at this; exact this)
        go_upto_region 16 with (first | (go_at_call 30; refine (HNF.out _).mono ?_; rintro e z1 ⟨rfl, hz1⟩))
        go_upto_region 17 with (first | (go_at_call 33; refine (HND.out _).mono ?_; rintro e z2 ⟨rfl, hz2⟩))
        go_upto_region 18 with (first | (go_at_call 34; refine (HNO.out _).mono ?_; rintro e z3 ⟨rfl, hz3⟩))
        go_upto_region 19 with (first | (go_at_call 40; refine (HNC.out _).mono ?_; rintro e z4 ⟨rfl, hz4⟩))
        go_upto_region 20 with (first | (go_at_call 39; refine (HNE.out _).mono ?_; rintro e z5 ⟨rfl, hz5⟩))
        go_upto_region 21 with (first | (go_at_call 27; refine (HNDe.out _).mono ?_; rintro e z6 ⟨rfl, hz6⟩))
        refine wp_gen ?_; intro Z hZ
        have hZE : Ext w6 Z := by rw [hZ]; exact (by repeat (first | exact Ext.refl _ | assumption | refine Ext.alloc ?_ _ | refine Ext.drew ?_ | refine Ext.setCell ?_ (by first | (simp; done) | (dsimp only; omega)) _ | refine Ext.trans ?_ (by assumption)))
        have PZ := Lib.hid hZE
        have EZ := Lib.hid (E6.out.trans hZE)
        clear hZ hZE hz1 hz2 hz3 hz4 hz5 hz6
        go_wp2_with (first | (go_at_call 31; (with_reducible refine (HNL.out _).mono ?_); rintro e y1 ⟨rfl, hy1⟩) | (go_at_call 31; refine (HL0.out _ (by omega) _ (PZ.out.trans (by repeat (first | exact Ext.refl _ | assumption | refine Ext.alloc ?_ _ | refine Ext.drew ?_ | refine Ext.setCell ?_ (by first | (simp; done) | (dsimp only; omega)) _ | refine Ext.trans ?_ (by assumption))))).mono ?_; rintro e y2 ⟨rfl, hy2⟩) | (go_at_call 42; refine (HRA.out _).mono ?_; rintro e y3 ⟨rfl, hy3⟩) | (go_at_call 41; refine (HRL.out _).mono ?_; rintro e y4 ⟨rfl, hy4⟩))
        go_ret
        exact ⟨rfl, EZ.out.trans (by repeat (first | exact Ext.refl _ | assumption | refine Ext.alloc ?_ _ | refine Ext.drew ?_ | refine Ext.setCell ?_ (by first | (simp; done) | (dsimp only; omega)) _ | refine Ext.trans ?_ (by assumption)))⟩
end Go.Proofs.Ytfaekfdngkpkdaa
