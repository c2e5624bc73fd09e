/- The reference's words of numbers. -/
import Derived.Test.YtaobmiphnpkoiaaDoorBase
import Derived.Laws.BytesArg
import Derived.Deep.RegionWith
namespace Go.Proofs.YtaobmiphnpkoiaaDoor
set_option linter.unusedVariables false
set_option linter.unusedSimpArgs false
open Go.RowKit
attribute [local go_sem] wext_cell wext_frozen wext_heap alloc_cell alloc_frozen alloc_heap setCell_cell objCell_cells objFrozen_cells

def figS (n : Nat) : ByteArray := ⟨#[UInt8.ofNat (if 9 < n then 87 + n else 48 + n)]⟩
def hexS : Nat → Nat → ByteArray
  | 0, _ => ⟨#[]⟩
  | k + 1, n => if n < 16 then figS n else hexS k (n / 16) ++ figS (n % 16)
def decS : Nat → Nat → ByteArray
  | 0, _ => ⟨#[]⟩
  | k + 1, n => if n < 10 then ⟨#[UInt8.ofNat (48 + n)]⟩ else decS k (n / 10) ++ ⟨#[UInt8.ofNat (48 + n % 10)]⟩

theorem figS_size (n : Nat) : (figS n).size = 1 := rfl
theorem hexS_size (k : Nat) : ∀ n, (hexS k n).size ≤ k := by
  induction k with
  | zero => intro n; exact Nat.le_refl _
  | succ k ih =>
    intro n
    unfold hexS
    split
    · rw [figS_size]; omega
    · rw [ByteArray.size_append, figS_size]; have := ih (n / 16); omega
theorem decS_size (k : Nat) : ∀ n, (decS k n).size ≤ k := by
  induction k with
  | zero => intro n; exact Nat.le_refl _
  | succ k ih =>
    intro n
    unfold decS
    split
    · show 1 ≤ _; omega
    · rw [ByteArray.size_append]; have := ih (n / 10); show _ + 1 ≤ _; omega

theorem conv1w (c : Int) (W : World) (b : Nat) (h : W.cell? ⟨b, 0, none⟩ = some (.int .u8 c)) : Sem.run Tryd.prog (convert 73 9 (.slice (some ⟨b, 0, none⟩) 1 1)) W = .ok (.string ⟨#[UInt8.ofNat c.toNat]⟩) W :=
  run_convert_bytes_arg W 73 5 Tryd.underlying73 Tryd.underlying5 b 0 1 1 [c] rfl (fun i hi => by (have : i = 0 := by omega); subst this; exact h) 9 Tryd.underlying9
theorem conv1 (c : Int) (W : World) : Sem.run Tryd.prog (convert 73 9 (.slice (some ⟨W.heap.size, 0, none⟩) 1 1)) (W.alloc (.cells #[.int .u8 c] 5)) = .ok (.string ⟨#[UInt8.ofNat c.toNat]⟩) (W.alloc (.cells #[.int .u8 c] 5)) :=
  conv1w c _ _ (by simp [go_sem])
theorem conv1d (c : Int) (W : World) : Sem.run Tryd.prog (convert 73 9 (.slice (some ⟨W.heap.size, 0, none⟩) 1 1)) (W.alloc (.cells #[.int .u8 c] 5)).drew = .ok (.string ⟨#[UInt8.ofNat c.toNat]⟩) (W.alloc (.cells #[.int .u8 c] 5)).drew :=
  conv1w c _ _ (by simp [go_sem])
theorem conv1x {c : Int} {W w1 : World} (h : Ext (W.alloc (.cells #[.int .u8 c] 5)).drew w1) : Sem.run Tryd.prog (convert 73 9 (.slice (some ⟨W.heap.size, 0, none⟩) 1 1)) w1 = .ok (.string ⟨#[UInt8.ofNat c.toNat]⟩) w1 :=
  conv1w c _ _ (h.someCell (by simp [go_sem]))
attribute [local go_sem] conv1 conv1d

set_option maxRecDepth 100000 in
theorem figure_c (n : Nat) (m : Int) (w : World) (hm : m = n) (h1 : n < 16) : Calls Tryd.prog 27 #[.int .u64 m] w fun e w' => e = .returned (.string (figS n)) ∧ Ext w w' := by
  go_enter Tryd.func27, Tryd.ntmps27
  go_wp2
  all_goals
    (try go_ret)
    refine ⟨?_, (by repeat (first | exact Ext.refl _ | assumption | refine Ext.alloc ?_ _ | refine Ext.drew ?_ | refine Ext.setCell ?_ (by first | (simp; done) | (dsimp only; omega)) _ | refine Ext.trans ?_ (by assumption)))⟩
    unfold figS
    subst hm
    first | (rw [if_pos (by omega)]; rfl) | (rw [if_neg (by omega)]; rfl)
set_option maxRecDepth 100000 in
theorem hex_c (k : Nat) : ∀ (n : Nat) (m : Int) (w : World), m = n → n < 16 ^ k → n < 18446744073709551616 → 0 < k → k ≤ 16 → Calls Tryd.prog 19 #[.int .u64 m] w fun e w' => e = .returned (.string (hexS k n)) ∧ Ext w w' := by
  induction k with
  | zero => intro n m w _ _ _ h _; omega
  | succ k ih =>
    intro n m w hm hk hn _ hk16
    by_cases hlt : n < 16
    · unfold hexS
      rw [if_pos hlt]
      clear hk ih
      go_enter Tryd.func19, Tryd.ntmps19
      go_wp2_with (first | (go_at_call 27; refine (figure_c n _ _ (by omega) hlt).mono ?_; rintro e w1 ⟨rfl, hb1⟩))
      (try go_ret)
      exact ⟨rfl, (by repeat (first | exact Ext.refl _ | assumption | refine Ext.alloc ?_ _ | refine Ext.drew ?_ | refine Ext.setCell ?_ (by first | (simp; done) | (dsimp only; omega)) _ | refine Ext.trans ?_ (by assumption)))⟩
    · have hd : n / 16 < 16 ^ k := by rw [Nat.div_lt_iff_lt_mul (by omega)]; rw [Nat.pow_succ] at hk; exact hk
      have hk0 : 0 < k := by
        rcases Nat.eq_zero_or_pos k with h | h
        · subst h; simp at hd; omega
        · exact h
      have IH := Lib.hid (fun (m' : Int) (w' : World) (h : m' = ((n / 16 : Nat) : Int)) => ih (n / 16) m' w' h hd (by omega) hk0 (by omega))
      have HF := Lib.hid (fun (m' : Int) (w' : World) (h : m' = ((n % 16 : Nat) : Int)) => figure_c (n % 16) m' w' h (by omega))
      unfold hexS
      rw [if_neg hlt]
      clear hk ih hd hk0
      have hX := hexS_size k (n / 16)
      have hY := figS_size (n % 16)
      generalize hexS k (n / 16) = X at IH hX ⊢
      generalize figS (n % 16) = Y at HF hY ⊢
      go_enter Tryd.func19, Tryd.ntmps19
      go_wp2_with (first | (go_at_call 19; refine (IH.out _ _ (by omega)).mono ?_; rintro e w1 ⟨rfl, hb1⟩) | (go_at_call 27; refine (HF.out _ _ (by omega)).mono ?_; rintro e w2 ⟨rfl, hb2⟩))
      (try go_ret)
      exact ⟨rfl, (by repeat (first | exact Ext.refl _ | assumption | refine Ext.alloc ?_ _ | refine Ext.drew ?_ | refine Ext.setCell ?_ (by first | (simp; done) | (dsimp only; omega)) _ | refine Ext.trans ?_ (by assumption)))⟩
set_option maxRecDepth 100000 in
set_option maxHeartbeats 1000000 in
theorem figures_c (k : Nat) : ∀ (n : Nat) (m : Int) (w : World), m = n → n < 10 ^ k → n < 1000 → 0 < k → k ≤ 16 → Calls Tryd.prog 20 #[.int .i64 m] w fun e w' => e = .returned (.string (decS k n)) ∧ Ext w w' := by
  induction k with
  | zero => intro n m w _ _ _ h _; omega
  | succ k ih =>
    intro n m w hm hk hn _ hk16
    by_cases hlt : n < 10
    · unfold decS
      rw [if_pos hlt]
      clear hk ih
      go_enter Tryd.func20, Tryd.ntmps20
      go_wp2
      all_goals
        (try go_ret)
        refine ⟨?_, (by repeat (first | exact Ext.refl _ | assumption | refine Ext.alloc ?_ _ | refine Ext.drew ?_ | refine Ext.setCell ?_ (by first | (simp; done) | (dsimp only; omega)) _ | refine Ext.trans ?_ (by assumption)))⟩
        subst hm
        rfl
    · have hd : n / 10 < 10 ^ k := by rw [Nat.div_lt_iff_lt_mul (by omega)]; rw [Nat.pow_succ] at hk; exact hk
      have hk0 : 0 < k := by
        rcases Nat.eq_zero_or_pos k with h | h
        · subst h; simp at hd; omega
        · exact h
      have IH := Lib.hid (fun (m' : Int) (w' : World) (h : m' = ((n / 10 : Nat) : Int)) => ih (n / 10) m' w' h hd (by omega) hk0 (by omega))
      unfold decS
      rw [if_neg hlt]
      clear hk ih hd hk0
      have hX := decS_size k (n / 10)
      generalize decS k (n / 10) = X at IH hX ⊢
      subst hm
      have e1 : IntKind.i64.wrap ((n : Int) / 10) = ((n / 10 : Nat) : Int) := by rw [wrap_small _ (by omega) (by omega)]; omega
      have e0 : (n : Int).tmod 10 = ((n % 10 : Nat) : Int) := by rw [Int.tmod_eq_emod_of_nonneg (by omega)]; omega
      have e2 : IntKind.u8.wrap (IntKind.i64.wrap (48 + (n : Int).tmod 10)) = ((48 + n % 10 : Nat) : Int) := by
        rw [e0, wrap_small _ (by omega) (by omega)]
        unfold IntKind.wrap
        simp [IntKind.signed, IntKind.bits]
        omega
      clear e0
      obtain ⟨c, hc⟩ : ∃ c, 48 + n % 10 = c := ⟨_, rfl⟩
      rw [hc] at e2 ⊢
      obtain ⟨q, hq⟩ : ∃ q, ((n / 10 : Nat) : Int) = q := ⟨_, rfl⟩
      rw [hq] at e1
      clear hc
      go_enter Tryd.func20, Tryd.ntmps20
      go_upto_region 7 with (fail)
      go_region_with (go_at_call 20; refine (IH.out _ _ hq.symm).mono ?_; rintro e w1 ⟨rfl, hb1⟩; (try have cx := conv1x hb1))
      all_goals
        go_wp2
        (try go_ret)
        exact ⟨rfl, (by repeat (first | exact Ext.refl _ | assumption | refine Ext.alloc ?_ _ | refine Ext.drew ?_ | refine Ext.setCell ?_ (by first | (simp; done) | (dsimp only; omega)) _ | refine Ext.trans ?_ (by assumption)))⟩

/-- A page fault's words. -/
def pageS (a c : Nat) : ByteArray := ⟨#[112, 97, 103, 101, 32, 102, 97, 117, 108, 116, 32, 97, 116, 32]⟩ ++ hexS 16 a ++ ⟨#[44, 32, 99, 111, 100, 101, 32]⟩ ++ decS 3 c
set_option maxRecDepth 100000 in
set_option maxHeartbeats 1000000 in
theorem page_c (a c : Nat) (w : World) (ha : a < 18446744073709551616) (hc : c < 256) : Calls Tryd.prog 10 #[.int .u64 a, .int .i64 c] w fun e w' => e = .returned (.string (pageS a c)) ∧ Ext w w' := by
  have H1 := Lib.hid (fun w1 => hex_c 16 a a w1 rfl (by omega) ha (by omega) (by omega))
  have H2 := Lib.hid (fun w1 => figures_c 3 c c w1 rfl (by omega) (by omega) (by omega) (by omega))
  unfold pageS
  have hX := hexS_size 16 a
  have hY := decS_size 3 c
  generalize hexS 16 a = X at H1 hX ⊢
  generalize decS 3 c = Y at H2 hY ⊢
  clear ha hc
  have s1 : (⟨#[112, 97, 103, 101, 32, 102, 97, 117, 108, 116, 32, 97, 116, 32]⟩ : ByteArray).size = 14 := rfl
  have s2 : (⟨#[44, 32, 99, 111, 100, 101, 32]⟩ : ByteArray).size = 7 := rfl
  go_enter Tryd.func10, Tryd.ntmps10
  go_wp2_with (first | (go_at_call 19; refine (H1.out _).mono ?_; rintro e w1 ⟨rfl, hb1⟩) | (go_at_call 20; refine (H2.out _).mono ?_; rintro e w2 ⟨rfl, hb2⟩))
  (try go_ret)
  exact ⟨rfl, (by repeat (first | exact Ext.refl _ | assumption | refine Ext.alloc ?_ _ | refine Ext.drew ?_ | refine Ext.setCell ?_ (by first | (simp; done) | (dsimp only; omega)) _ | refine Ext.trans ?_ (by assumption)))⟩
end Go.Proofs.YtaobmiphnpkoiaaDoor
