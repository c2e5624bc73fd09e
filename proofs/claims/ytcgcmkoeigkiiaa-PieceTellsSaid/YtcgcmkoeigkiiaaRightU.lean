/- Contracts of the right functions, the codes. -/
import Derived.Test.YtcgcmkoeigkiiaaRightT
namespace Go.Proofs.Ytcgcmkoeigkiiaa
set_option linter.unusedVariables false
set_option linter.unusedSimpArgs false
open Go.RowKit

def flag5 (p s u r f : Bool) : Nat → Bool
  | 0 => p | 1 => s | 2 => u | 3 => r | 4 => f | _ => false
def codeUp (p s u r f : Bool) : Nat → Int
  | 0 => 0
  | k + 1 => codeUp p s u r f k + (if flag5 p s u r f k then 2 ^ k else 0)
theorem codeUp_or (p s u r f : Bool) (j : Nat) (hj : j < 5) (h : flag5 p s u r f j = true) : bits BinOp.or IntKind.i64 (codeUp p s u r f j) (wrap64 (2 ^ j)) = codeUp p s u r f (j + 1) := by
  match j, hj, h with
  | 0, _, h => simp [flag5] at h; subst h; cases s <;> cases u <;> cases r <;> cases f <;> (show _ = _; kernel_rfl)
  | 1, _, h => simp [flag5] at h; subst h; cases p <;> cases u <;> cases r <;> cases f <;> (show _ = _; kernel_rfl)
  | 2, _, h => simp [flag5] at h; subst h; cases p <;> cases s <;> cases r <;> cases f <;> (show _ = _; kernel_rfl)
  | 3, _, h => simp [flag5] at h; subst h; cases p <;> cases s <;> cases u <;> cases f <;> (show _ = _; kernel_rfl)
  | 4, _, h => simp [flag5] at h; subst h; cases p <;> cases s <;> cases u <;> cases r <;> (show _ = _; kernel_rfl)
theorem codeUp_not (p s u r f : Bool) (j : Nat) (h : flag5 p s u r f j = false) : codeUp p s u r f j = codeUp p s u r f (j + 1) := by
  simp [codeUp, h]

theorem idx5 (p s u r f : Bool) (j : Nat) (hj : j < 5) (w : World) : (Instr.index 63 (.agg #[.bool p, .bool s, .bool u, .bool r, .bool f]) (.int .i64 (j : Int))).run Try.prog w = .ok (.bool (flag5 p s u r f j)) w := by
  match j, hj with
  | 0, _ => show _ = _; kernel_rfl
  | 1, _ => show _ = _; kernel_rfl
  | 2, _ => show _ = _; kernel_rfl
  | 3, _ => show _ = _; kernel_rfl
  | 4, _ => show _ = _; kernel_rfl

set_option maxHeartbeats 1600000 in
theorem code_c (k : Int) (user ac wp nxe smep smap p r : Bool) (w : World) :
    Calls Try.prog 14 #[.agg #[.int .i64 k, .bool user, .bool ac], .agg #[.bool wp, .bool nxe, .bool smep, .bool smap], .bool p, .bool r] w fun e w' =>
      e = .returned (.int .i64 (codeUp p (k == 2) user r (k == 3 && (smep || nxe)) 5)) ∧ Ext w w' := by
  go_enter Try.func14, Try.ntmps14
  go_upto_region 2 with (fail)
  go_cut [0, 1, 30, 31] (fun _ _ v i wx => ∃ s f : Bool, Hid (s = (k == 2)) ∧ Hid (f = (k == 3 && (smep || nxe))) ∧ v = .agg #[.bool p, .bool s, .bool user, .bool r, .bool f] ∧ i = .int .i64 0 ∧ Hid (Ext w wx))
  case first =>
    go_wp2
    all_goals
      go_meet
      exact ⟨_, _, (by unfold Hid; simp_all), (by unfold Hid; simp_all), rfl, rfl, by unfold Hid; repeat (first | exact Ext.refl _ | apply Ext.alloc)⟩
  case rest =>
    obtain ⟨s, f, HS, HF, rfl, rfl, HX⟩ := hcut
    go_wp2
    go_loop [9, 31] (fun n i => ∃ j : Nat, j ≤ 5 ∧ i = .int .i64 j ∧ n = .int .i64 (codeUp p s user r f j)) (fun _ i => 5 - (intOf i).toNat)
    case atStart => exact ⟨0, by omega, rfl, rfl⟩
    case round =>
      obtain ⟨j, hj, rfl, rfl⟩ := hrel
      by_cases h5 : j < 5
      · have hi := fun w => idx5 p s user r f j h5 w
        by_cases hfl : flag5 p s user r f j = true
        · have ho := codeUp_or p s user r f j h5 hfl
          have HO := Lib.hid ho
          clear ho
          go_wp2
          go_round
          case rel => exact ⟨j + 1, by omega, by go_num, by rw [HO.out]⟩
          case measure => simp [intOf]; omega
        · go_wp2
          go_round
          case rel => exact ⟨j + 1, by omega, by go_num, by rw [codeUp_not _ _ _ _ _ _ (by simpa using hfl)]⟩
          case measure => simp [intOf]; omega
      · obtain rfl : j = 5 := by omega
        go_wp2
        go_ret
        exact ⟨by rw [← HS.out, ← HF.out]; rfl, HX.out⟩


end Go.Proofs.Ytcgcmkoeigkiiaa
