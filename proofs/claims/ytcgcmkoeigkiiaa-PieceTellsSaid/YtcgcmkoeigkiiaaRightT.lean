/- Contracts of the right functions. -/
import Derived.Test.YtcgcmkoeigkiiaaBase
namespace Go.Proofs.Ytcgcmkoeigkiiaa
set_option linter.unusedVariables false
set_option linter.unusedSimpArgs false
open Go.RowKit
attribute [local go_sem] wext_cell wext_frozen wext_heap alloc_cell alloc_frozen alloc_heap setCell_cell objCell_cells objFrozen_cells

/-- a word's bits W, U, and whether it lacks NX -/
def bw (x : Int) : Bool := bits BinOp.and IntKind.u64 x 2 != 0
def bu (x : Int) : Bool := bits BinOp.and IntKind.u64 x 4 != 0
def bx (x : Int) : Bool := bits BinOp.and IntKind.u64 x 9223372036854775808 == 0

set_option maxHeartbeats 800000 in
theorem rightAnd_c (a b c : Bool) (x : Int) (w : World) :
    Calls Try.prog 20 #[.agg #[.bool a, .bool b, .bool c], .int .u64 x] w fun e w' =>
      e = .returned (.agg #[.bool (a && bw x), .bool (b && bu x), .bool (c && bx x)]) ∧ Ext w w' := by
  cases a <;> cases b <;> cases c
  all_goals
    go_enter Try.func20, Try.ntmps20
    go_wp2
    refine bodyPost_ret (by simp [results, Try.results20, go_sem]; rfl) rfl ⟨by simp [bw, bu, bx], by repeat (first | exact Ext.refl _ | apply Ext.alloc)⟩

theorem rightAll_c (w : World) :
    Calls Try.prog 18 #[] w fun e w' =>
      e = .returned (.agg #[.bool true, .bool true, .bool true]) ∧ Ext w w' := by
  go_enter Try.func18, Try.ntmps18
  go_wp2
  refine bodyPost_ret (by simp [results, Try.results18, go_sem]; rfl) rfl ⟨by simp, by repeat (first | exact Ext.refl _ | apply Ext.alloc)⟩

/-- whether one right is no more than another one -/
def leastB (a b c a' b' c' : Bool) : Bool := (!a || a') && (!b || b') && (!c || c')
theorem leastB_refl (a b c : Bool) : leastB a b c a b c = true := by cases a <;> cases b <;> cases c <;> rfl
theorem leastB_and (a b c p q r : Bool) : leastB (a && p) (b && q) (c && r) a b c = true := by
  cases a <;> cases b <;> cases c <;> cases p <;> cases q <;> cases r <;> rfl
theorem leastB_and2 (a b c p q r s t u : Bool) : leastB (a && p && s) (b && q && t) (c && r && u) a b c = true := by
  rw [Bool.and_assoc, Bool.and_assoc, Bool.and_assoc]; exact leastB_and ..
theorem leastB_all (a b c : Bool) : leastB a b c true true true = true := by cases a <;> cases b <;> cases c <;> rfl

set_option maxHeartbeats 800000 in
theorem rightLeast_c (a b c a' b' c' : Bool) (w : World) :
    Calls Try.prog 22 #[.agg #[.bool a, .bool b, .bool c], .agg #[.bool a', .bool b', .bool c']] w fun e w' =>
      e = .returned (.bool (leastB a b c a' b' c')) ∧ Ext w w' := by
  cases a <;> cases b <;> cases c
  all_goals
    go_enter Try.func22, Try.ntmps22
    go_wp2
    all_goals
      go_ret
      exact ⟨by simp_all [leastB], by repeat (first | exact Ext.refl _ | apply Ext.alloc)⟩

/-- the n-th control's bits -/
def ctlB (k n : Int) : Bool := n / k % 2 == 1

set_option maxHeartbeats 800000 in
theorem ctl6_c (n : Int) (w : World) (h0 : 0 ≤ n) (h1 : n < 16) :
    Calls Try.prog 15 #[.int .i64 n] w fun e w' => e = .returned (.agg #[.bool (ctlB 1 n), .bool (ctlB 2 n), .bool (ctlB 4 n), .bool (ctlB 8 n)]) ∧ Ext w w' := by
  go_enter Try.func15, Try.ntmps15
  go_wp2
  refine bodyPost_ret (by simp [results, Try.results15, go_sem]; rfl) rfl ⟨by simp [ctlB], by repeat (first | exact Ext.refl _ | apply Ext.alloc)⟩

/-- whether a user's access may be -/
def userB (W U X : Bool) (k : Int) : Bool := (k == 2 && W && U) || (k == 1 && U) || (k == 3 && U && X)
def mayB (W U X : Bool) (k : Int) (user ac wp nxe smep smap : Bool) : Bool :=
  if user then userB W U X k else (k == 2 && (!wp || W) && (!U || !smap || ac)) || (k == 1 && (!U || !smap || ac)) || (k == 3 && X && (!U || !smep))

set_option maxHeartbeats 800000 in
theorem user_c (W U X : Bool) (k : Int) (w : World) :
    Calls Try.prog 32 #[.agg #[.bool W, .bool U, .bool X], .int .i64 k] w fun e w' =>
      e = .returned (.bool (userB W U X k)) ∧ Ext w w' := by
  go_enter Try.func32, Try.ntmps32
  go_wp2
  all_goals
    go_ret
    exact ⟨by simp_all [userB], by repeat (first | exact Ext.refl _ | apply Ext.alloc)⟩

set_option maxHeartbeats 1600000 in
theorem may_c (W U X : Bool) (k : Int) (user ac wp nxe smep smap : Bool) (w : World) :
    Calls Try.prog 17 #[.agg #[.bool W, .bool U, .bool X], .agg #[.int .i64 k, .bool user, .bool ac], .agg #[.bool wp, .bool nxe, .bool smep, .bool smap]] w fun e w' =>
      e = .returned (.bool (mayB W U X k user ac wp nxe smep smap)) ∧ Ext w w' := by
  go_enter Try.func17, Try.ntmps17
  go_wp2_with (go_at_call 32; refine (user_c _ _ _ _ _).mono ?_; rintro e w1 ⟨rfl, hb⟩; have ⟨hc, hf, hh, hs⟩ := hb.facts; try simp only [World.size_alloc, World.size_setCell, World.size_drew] at hs)
  all_goals
    go_ret
    exact ⟨by simp_all [mayB], by repeat (first | exact Ext.refl _ | apply Ext.alloc | (refine Ext.trans ?_ (by assumption)))⟩

end Go.Proofs.Ytcgcmkoeigkiiaa
