/- Joined texts, part 16 of what the law stands on: each as its own head says. -/
import Derived.Test.YtkfonacokamfiaaPly12
/- Caches of tables: DropPage, DropOf, Clear. -/
namespace Go.Proofs.Ytkfonacokamfiaa
set_option linter.unusedVariables false
set_option linter.unusedSimpArgs false
open Go.RowKit
attribute [local go_sem] wext_cell wext_frozen wext_heap alloc_cell alloc_frozen alloc_heap setCell_cell objCell_cells objFrozen_cells

/-- On each level something is done. -/
def eachP (f : Int → Lines → Lines) (C : Int → Lines) : Int → Lines := fun l => if 2 ≤ l ∧ l ≤ 4 then f l (C l) else C l
def partP (f : Int → Lines → Lines) (C : Int → Lines) (j : Nat) : Int → Lines := fun l => if 2 ≤ l ∧ l < 2 + j then f l (C l) else C l
theorem part_zero (f : Int → Lines → Lines) (C : Int → Lines) : partP f C 0 = C := by
  funext l; unfold partP; rw [if_neg (by omega)]
theorem part_three (f : Int → Lines → Lines) (C : Int → Lines) : partP f C 3 = eachP f C := by
  funext l; unfold partP eachP
  by_cases h : 2 ≤ l ∧ l ≤ 4
  · rw [if_pos h, if_pos (by omega)]
  · rw [if_neg h, if_neg (by omega)]
theorem part_at (f : Int → Lines → Lines) (C : Int → Lines) (j : Nat) : partP f C j (2 + (j : Int)) = C (2 + (j : Int)) := by unfold partP; rw [if_neg (by omega)]
theorem part_step (f : Int → Lines → Lines) (C : Int → Lines) (j : Nat) (hj : j < 3) : upd (partP f C j) (2 + (j : Int)) (f (2 + (j : Int)) (C (2 + (j : Int)))) = partP f C (j + 1) := by
  funext l
  unfold upd partP
  by_cases h : l = 2 + (j : Int)
  · subst h; rw [if_pos rfl, if_pos (by omega)]
  · rw [if_neg h]
    by_cases h2 : 2 ≤ l ∧ l < 2 + (j : Int)
    · rw [if_pos h2, if_pos (by omega)]
    · rw [if_neg h2, if_neg (by omega)]
set_option maxHeartbeats 1000000 in
theorem nil_dropOfP (pcid : Int) (w : World) : Calls Try.prog 54 #[.pointer none, .int .i64 pcid] w fun e w' => e = .returned (.tuple #[]) ∧ Ext w w' := by
  go_enter Try.func54, Try.ntmps54
  go_wp2_with (first | (go_at_call 33; refine (nil_keys _).mono ?_; rintro e w1 ⟨rfl, hb⟩))
  go_loopw [9] (fun i wr => i = .int .i64 0 ∧ Ext w wr) (fun i _ => 0)
  case atStart => exact ⟨rfl, Ext.trans (by repeat (first | exact Ext.refl _ | assumption | refine Ext.alloc ?_ _ | refine Ext.drew ?_ | refine Ext.setCell ?_ (by first | (simp; done) | (dsimp only; omega)) _ | refine Ext.trans ?_ (by assumption))) hb⟩
  case round =>
    obtain ⟨rfl, hR⟩ := hrel
    go_wp2
    all_goals
      refine ⟨rfl, .tuple #[], (by simp [results, Try.results54, go_sem]), ?_⟩
      exact ⟨rfl, hR.trans (by repeat (first | exact Ext.refl _ | assumption | refine Ext.alloc ?_ _ | refine Ext.drew ?_ | refine Ext.setCell ?_ (by first | (simp; done) | (dsimp only; omega)) _ | refine Ext.trans ?_ (by assumption)))⟩

set_option maxHeartbeats 1000000 in
theorem pscDropPage_c (pb : Nat) (cb : Int → Nat) (F : Int → List Nat) (C : Int → Lines) (r : Nat) (p a : Int) (w : World) (h : PscAt w pb cb F C r) (h0 : 0 ≤ a) (h1 : a ≤ 18446744073709551615) :
    Calls Try.prog 20 #[.pointer (some ⟨pb, 0, none⟩), .int .i64 p, .int .u64 a] w (EndP pb cb F (eachP (fun l L => delL (kP p l a) L) C) r w) := by
  have H := Lib.hid h
  generalize hf : ((fun l L => delL (kP p l a) L) : Int → Lines → Lines) = f
  have HF := Lib.hid hf
  generalize hE : EndP pb cb F (eachP f C) r w = E
  have HE := Lib.hid hE
  clear hE hf h
  go_enter Try.func20, Try.ntmps20
  go_wp2
  go_loopw [7] (fun i wr => ∃ j : Nat, j ≤ 3 ∧ i = .int .i64 j ∧ Hid (PscTo pb cb F (partP f C j) r w wr)) (fun i _ => 3 - (intOf i).toNat)
  case atStart => exact ⟨0, by omega, rfl, Lib.hid (by rw [part_zero]; exact PscTo.refl H.out)⟩
  case round =>
    obtain ⟨j, hj, rfl, hR⟩ := hrel
    by_cases hlt : j < 3
    · obtain ⟨F2, hP, hK, hf⟩ := hR.out
      have hl : 2 + (j : Int) = 2 ∨ 2 + (j : Int) = 3 ∨ 2 + (j : Int) = 4 := by omega
      have HP := Lib.hid hP
      have HS := Lib.hid (show _ ∧ _ ∧ _ from ⟨hP, hK, hf⟩)
      have HO := Lib.hid (fun w h => of_c pb cb F2 (partP f C j) r (2 + (j : Int)) w h hl)
      have hc0 := fun w (h : PscAt w pb cb F2 (partP f C j) r) => h.cache (2 + (j : Int)) (by omega) (by omega)
      rw [part_at] at hc0
      have HC0 := Lib.hid hc0
      have HD := Lib.hid (fun w h => drop_c (cb (2 + (j : Int))) (F2 (2 + (j : Int))) (C (2 + (j : Int))) r (kP p (2 + (j : Int)) a) w h)
      have HKy := Lib.hid (fun w => pscKey_c p (2 + (j : Int)) a w hl h0 h1)
      generalize hkk : kP p (2 + (j : Int)) a = kk at HKy HD
      have HKK := Lib.hid hkk
      clear hkk
      unfold Key.val at HKy HD
      clear hP hK hf hl hc0
      go_wp2_with (first | (go_at_call 28; refine (HO.out _ (HP.out.ext (by repeat (first | exact Ext.refl _ | assumption | refine Ext.alloc ?_ _ | refine Ext.drew ?_ | refine Ext.setCell ?_ (by first | (simp; done) | (dsimp only; omega)) _ | refine Ext.trans ?_ (by assumption))))).mono ?_; rintro e w1 ⟨rfl, hb1⟩) | (go_at_call 30; refine (HKy.out _).mono ?_; rintro e w2 ⟨rfl, hb2⟩) | (go_at_call 52; refine (HD.out _ (HC0.out _ (HP.out.ext (hb1.trans (Ext.trans (by repeat (first | exact Ext.refl _ | assumption | refine Ext.alloc ?_ _ | refine Ext.drew ?_ | refine Ext.setCell ?_ (by first | (simp; done) | (dsimp only; omega)) _ | refine Ext.trans ?_ (by assumption))) hb2))))).mono ?_; rintro e w3 ⟨rfl, F3, q1, q2, q3⟩))
      refine ⟨⟨j + 1, by omega, by go_num, Lib.hid ?_⟩, by simp [intOf]; omega⟩
      rw [← part_step f C j hlt]
      have he := (hb1.trans (Ext.trans (by repeat (first | exact Ext.refl _ | assumption | refine Ext.alloc ?_ _ | refine Ext.drew ?_ | refine Ext.setCell ?_ (by first | (simp; done) | (dsimp only; omega)) _ | refine Ext.trans ?_ (by assumption))) hb2))
      refine PscTo.trans ⟨HP.out.ext he, HS.out.2.1.ext he, HS.out.2.2⟩ ⟨_, PscAt.op (HP.out.ext he) (by omega) (by omega) (by rw [← HF.out]; dsimp only; rw [HKK.out]; exact q1) q2 q3⟩
    · obtain rfl : j = 3 := by omega
      rw [part_three] at hR
      go_wp2
      refine ⟨rfl, .tuple #[], (by simp [results, Try.results20, go_sem]), ?_⟩
      rw [← HE.out]
      exact ⟨rfl, hR.out⟩
theorem pscDropPageNil_c (p a : Int) (w : World) (h0 : 0 ≤ a) (h1 : a ≤ 18446744073709551615) : Calls Try.prog 20 #[.pointer none, .int .i64 p, .int .u64 a] w fun e w' => e = .returned (.tuple #[]) ∧ Ext w w' := by
  go_enter Try.func20, Try.ntmps20
  go_wp2
  go_loopw [7] (fun i wr => ∃ j : Nat, j ≤ 3 ∧ i = .int .i64 j ∧ Hid (Ext w wr)) (fun i _ => 3 - (intOf i).toNat)
  case atStart => exact ⟨0, by omega, rfl, Lib.hid (Ext.refl _)⟩
  case round =>
    obtain ⟨j, hj, rfl, hR⟩ := hrel
    by_cases hlt : j < 3
    · have hl : 2 + (j : Int) = 2 ∨ 2 + (j : Int) = 3 ∨ 2 + (j : Int) = 4 := by omega
      have HO := Lib.hid (fun w => ofNo_c none (2 + (j : Int)) w (.inl rfl))
      have HKy := Lib.hid (fun w => pscKey_c p (2 + (j : Int)) a w hl h0 h1)
      generalize kP p (2 + (j : Int)) a = kk at HKy
      have HD := Lib.hid (fun w => nil_drop kk w)
      unfold Key.val at HKy HD
      clear hl
      go_wp2_with (first | (go_at_call 28; refine (HO.out _).mono ?_; rintro e w1 ⟨rfl, hb1⟩) | (go_at_call 30; refine (HKy.out _).mono ?_; rintro e w2 ⟨rfl, hb2⟩) | (go_at_call 52; refine (HD.out _).mono ?_; rintro e w3 ⟨rfl, hb3⟩))
      exact ⟨⟨j + 1, by omega, by go_num, Lib.hid (hR.out.trans ((hb1.trans (Ext.trans (by repeat (first | exact Ext.refl _ | assumption | refine Ext.alloc ?_ _ | refine Ext.drew ?_ | refine Ext.setCell ?_ (by first | (simp; done) | (dsimp only; omega)) _ | refine Ext.trans ?_ (by assumption))) hb2)).trans hb3))⟩, by simp [intOf]; omega⟩
    · obtain rfl : j = 3 := by omega
      go_wp2
      refine ⟨rfl, .tuple #[], (by simp [results, Try.results20, go_sem]), ?_⟩
      exact ⟨rfl, hR.out⟩

set_option maxHeartbeats 1000000 in
theorem pscDropOf_c (pb : Nat) (cb : Int → Nat) (F : Int → List Nat) (C : Int → Lines) (r : Nat) (p : Int) (w : World) (h : PscAt w pb cb F C r) :
    Calls Try.prog 22 #[.pointer (some ⟨pb, 0, none⟩), .int .i64 p] w (EndP pb cb F (eachP (fun _ L => dropN p (keysOf L) L) C) r w) := by
  have H := Lib.hid h
  generalize hf : ((fun _ L => dropN p (keysOf L) L) : Int → Lines → Lines) = f
  have HF := Lib.hid hf
  generalize hE : EndP pb cb F (eachP f C) r w = E
  have HE := Lib.hid hE
  clear hE hf h
  go_enter Try.func22, Try.ntmps22
  go_wp2
  go_loopw [5] (fun i wr => ∃ j : Nat, j ≤ 3 ∧ i = .int .i64 j ∧ Hid (PscTo pb cb F (partP f C j) r w wr)) (fun i _ => 3 - (intOf i).toNat)
  case atStart => exact ⟨0, by omega, rfl, Lib.hid (by rw [part_zero]; exact PscTo.refl H.out)⟩
  case round =>
    obtain ⟨j, hj, rfl, hR⟩ := hrel
    by_cases hlt : j < 3
    · obtain ⟨F2, hP, hK, hf⟩ := hR.out
      have hl : 2 + (j : Int) = 2 ∨ 2 + (j : Int) = 3 ∨ 2 + (j : Int) = 4 := by omega
      have HP := Lib.hid hP
      have HS := Lib.hid (show _ ∧ _ ∧ _ from ⟨hP, hK, hf⟩)
      have HO := Lib.hid (fun w h => of_c pb cb F2 (partP f C j) r (2 + (j : Int)) w h hl)
      have hc0 := fun w (h : PscAt w pb cb F2 (partP f C j) r) => h.cache (2 + (j : Int)) (by omega) (by omega)
      rw [part_at] at hc0
      have HC0 := Lib.hid hc0
      have HD := Lib.hid (fun w h => dropOf_c (cb (2 + (j : Int))) (F2 (2 + (j : Int))) (C (2 + (j : Int))) r p w h)
      clear hP hK hf hl hc0
      go_wp2_with (first | (go_at_call 28; refine (HO.out _ (HP.out.ext (by repeat (first | exact Ext.refl _ | assumption | refine Ext.alloc ?_ _ | refine Ext.drew ?_ | refine Ext.setCell ?_ (by first | (simp; done) | (dsimp only; omega)) _ | refine Ext.trans ?_ (by assumption))))).mono ?_; rintro e w1 ⟨rfl, hb1⟩) | (go_at_call 54; refine (HD.out _ (HC0.out _ (HP.out.ext (hb1.trans (by repeat (first | exact Ext.refl _ | assumption | refine Ext.alloc ?_ _ | refine Ext.drew ?_ | refine Ext.setCell ?_ (by first | (simp; done) | (dsimp only; omega)) _ | refine Ext.trans ?_ (by assumption))))))).mono ?_; rintro e w3 ⟨rfl, F3, q1, q2, q3⟩))
      refine ⟨⟨j + 1, by omega, by go_num, Lib.hid ?_⟩, by simp [intOf]; omega⟩
      rw [← part_step f C j hlt]
      have he := (hb1.trans (by repeat (first | exact Ext.refl _ | assumption | refine Ext.alloc ?_ _ | refine Ext.drew ?_ | refine Ext.setCell ?_ (by first | (simp; done) | (dsimp only; omega)) _ | refine Ext.trans ?_ (by assumption))))
      refine PscTo.trans ⟨HP.out.ext he, HS.out.2.1.ext he, HS.out.2.2⟩ ⟨_, PscAt.op (HP.out.ext he) (by omega) (by omega) (by rw [← HF.out]; exact q1) q2 q3⟩
    · obtain rfl : j = 3 := by omega
      rw [part_three] at hR
      go_wp2
      refine ⟨rfl, .tuple #[], (by simp [results, Try.results22, go_sem]), ?_⟩
      rw [← HE.out]
      exact ⟨rfl, hR.out⟩
theorem pscDropOfNil_c (p : Int) (w : World) : Calls Try.prog 22 #[.pointer none, .int .i64 p] w fun e w' => e = .returned (.tuple #[]) ∧ Ext w w' := by
  go_enter Try.func22, Try.ntmps22
  go_wp2
  go_loopw [5] (fun i wr => ∃ j : Nat, j ≤ 3 ∧ i = .int .i64 j ∧ Hid (Ext w wr)) (fun i _ => 3 - (intOf i).toNat)
  case atStart => exact ⟨0, by omega, rfl, Lib.hid (Ext.refl _)⟩
  case round =>
    obtain ⟨j, hj, rfl, hR⟩ := hrel
    by_cases hlt : j < 3
    · have hl : 2 + (j : Int) = 2 ∨ 2 + (j : Int) = 3 ∨ 2 + (j : Int) = 4 := by omega
      have HO := Lib.hid (fun w => ofNo_c none (2 + (j : Int)) w (.inl rfl))
      have HD := Lib.hid (fun w => nil_dropOfP p w)
      clear hl
      go_wp2_with (first | (go_at_call 28; refine (HO.out _).mono ?_; rintro e w1 ⟨rfl, hb1⟩) | (go_at_call 54; refine (HD.out _).mono ?_; rintro e w3 ⟨rfl, hb3⟩))
      exact ⟨⟨j + 1, by omega, by go_num, Lib.hid (hR.out.trans ((hb1.trans (by repeat (first | exact Ext.refl _ | assumption | refine Ext.alloc ?_ _ | refine Ext.drew ?_ | refine Ext.setCell ?_ (by first | (simp; done) | (dsimp only; omega)) _ | refine Ext.trans ?_ (by assumption)))).trans hb3))⟩, by simp [intOf]; omega⟩
    · obtain rfl : j = 3 := by omega
      go_wp2
      refine ⟨rfl, .tuple #[], (by simp [results, Try.results22, go_sem]), ?_⟩
      exact ⟨rfl, hR.out⟩

set_option maxHeartbeats 1000000 in
theorem pscClear_c (pb : Nat) (cb : Int → Nat) (F : Int → List Nat) (C : Int → Lines) (r : Nat) (w : World) (h : PscAt w pb cb F C r) :
    Calls Try.prog 24 #[.pointer (some ⟨pb, 0, none⟩)] w (EndP pb cb F (eachP (fun _ _ => []) C) r w) := by
  have H := Lib.hid h
  generalize hf : ((fun _ _ => []) : Int → Lines → Lines) = f
  have HF := Lib.hid hf
  generalize hE : EndP pb cb F (eachP f C) r w = E
  have HE := Lib.hid hE
  clear hE hf h
  go_enter Try.func24, Try.ntmps24
  go_wp2
  go_loopw [3] (fun i wr => ∃ j : Nat, j ≤ 3 ∧ i = .int .i64 j ∧ Hid (PscTo pb cb F (partP f C j) r w wr)) (fun i _ => 3 - (intOf i).toNat)
  case atStart => exact ⟨0, by omega, rfl, Lib.hid (by rw [part_zero]; exact PscTo.refl H.out)⟩
  case round =>
    obtain ⟨j, hj, rfl, hR⟩ := hrel
    by_cases hlt : j < 3
    · obtain ⟨F2, hP, hK, hf⟩ := hR.out
      have hl : 2 + (j : Int) = 2 ∨ 2 + (j : Int) = 3 ∨ 2 + (j : Int) = 4 := by omega
      have HP := Lib.hid hP
      have HS := Lib.hid (show _ ∧ _ ∧ _ from ⟨hP, hK, hf⟩)
      have HO := Lib.hid (fun w h => of_c pb cb F2 (partP f C j) r (2 + (j : Int)) w h hl)
      have hc0 := fun w (h : PscAt w pb cb F2 (partP f C j) r) => h.cache (2 + (j : Int)) (by omega) (by omega)
      rw [part_at] at hc0
      have HC0 := Lib.hid hc0
      have HD := Lib.hid (fun w h => clear_c (cb (2 + (j : Int))) (F2 (2 + (j : Int))) (C (2 + (j : Int))) r w h)
      clear hP hK hf hl hc0
      go_wp2_with (first | (go_at_call 28; refine (HO.out _ (HP.out.ext (by repeat (first | exact Ext.refl _ | assumption | refine Ext.alloc ?_ _ | refine Ext.drew ?_ | refine Ext.setCell ?_ (by first | (simp; done) | (dsimp only; omega)) _ | refine Ext.trans ?_ (by assumption))))).mono ?_; rintro e w1 ⟨rfl, hb1⟩) | (go_at_call 56; refine (HD.out _ (HC0.out _ (HP.out.ext (hb1.trans (by repeat (first | exact Ext.refl _ | assumption | refine Ext.alloc ?_ _ | refine Ext.drew ?_ | refine Ext.setCell ?_ (by first | (simp; done) | (dsimp only; omega)) _ | refine Ext.trans ?_ (by assumption))))))).mono ?_; rintro e w3 ⟨rfl, F3, q1, q2, q3⟩))
      refine ⟨⟨j + 1, by omega, by go_num, Lib.hid ?_⟩, by simp [intOf]; omega⟩
      rw [← part_step f C j hlt]
      have he := (hb1.trans (by repeat (first | exact Ext.refl _ | assumption | refine Ext.alloc ?_ _ | refine Ext.drew ?_ | refine Ext.setCell ?_ (by first | (simp; done) | (dsimp only; omega)) _ | refine Ext.trans ?_ (by assumption))))
      refine PscTo.trans ⟨HP.out.ext he, HS.out.2.1.ext he, HS.out.2.2⟩ ⟨_, PscAt.op (HP.out.ext he) (by omega) (by omega) (by rw [← HF.out]; exact q1) q2 q3⟩
    · obtain rfl : j = 3 := by omega
      rw [part_three] at hR
      go_wp2
      refine ⟨rfl, .tuple #[], (by simp [results, Try.results24, go_sem]), ?_⟩
      rw [← HE.out]
      exact ⟨rfl, hR.out⟩
theorem pscClearNil_c (w : World) : Calls Try.prog 24 #[.pointer none] w fun e w' => e = .returned (.tuple #[]) ∧ Ext w w' := by
  go_enter Try.func24, Try.ntmps24
  go_wp2
  go_loopw [3] (fun i wr => ∃ j : Nat, j ≤ 3 ∧ i = .int .i64 j ∧ Hid (Ext w wr)) (fun i _ => 3 - (intOf i).toNat)
  case atStart => exact ⟨0, by omega, rfl, Lib.hid (Ext.refl _)⟩
  case round =>
    obtain ⟨j, hj, rfl, hR⟩ := hrel
    by_cases hlt : j < 3
    · have hl : 2 + (j : Int) = 2 ∨ 2 + (j : Int) = 3 ∨ 2 + (j : Int) = 4 := by omega
      have HO := Lib.hid (fun w => ofNo_c none (2 + (j : Int)) w (.inl rfl))
      have HD := Lib.hid (fun w => nil_clear w)
      clear hl
      go_wp2_with (first | (go_at_call 28; refine (HO.out _).mono ?_; rintro e w1 ⟨rfl, hb1⟩) | (go_at_call 56; refine (HD.out _).mono ?_; rintro e w3 ⟨rfl, hb3⟩))
      exact ⟨⟨j + 1, by omega, by go_num, Lib.hid (hR.out.trans ((hb1.trans (by repeat (first | exact Ext.refl _ | assumption | refine Ext.alloc ?_ _ | refine Ext.drew ?_ | refine Ext.setCell ?_ (by first | (simp; done) | (dsimp only; omega)) _ | refine Ext.trans ?_ (by assumption)))).trans hb3))⟩, by simp [intOf]; omega⟩
    · obtain rfl : j = 3 := by omega
      go_wp2
      refine ⟨rfl, .tuple #[], (by simp [results, Try.results24, go_sem]), ?_⟩
      exact ⟨rfl, hR.out⟩
end Go.Proofs.Ytkfonacokamfiaa
