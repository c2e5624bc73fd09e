/- Joined texts, part 30 of what the law stands on: each as its own head says. -/
import Derived.Test.YtkfonacokamfiaaGreatGoz29
import Derived.Test.YtkfonacokamfiaaGreatGoz19
import Derived.Test.YtkfonacokamfiaaGreatGoz4
import Derived.Test.YtkfonacokamfiaaGreatGoz6
/- Package opt: Fire, plainly. -/
namespace Go.Proofs.YtkfonacokamfiaaGreat
set_option linter.unusedVariables false
set_option linter.unusedSimpArgs false
open Go.RowKit
attribute [local go_sem] wext_cell wext_frozen wext_heap alloc_cell alloc_frozen alloc_heap setCell_cell objCell_cells objFrozen_cells
structure OSt where
 M : Int → Int
 T : List Int
 L : Lines
 C : Int → Lines
structure Who where
 p : Int
 k0 : Int
 k1 : Int
 k2 : Int
 k3 : Int
 root : Int
 nxe : Bool
def lastS (L : List Stp) : Int := (stpAt L (L.length - 1)).2.1
def keepS (r q : Nat) (u : Who) (a : Int) (d : Bool) (rt : Rt) (z : List Stp × WRes) (S : OSt) : OSt :=
 ⟨markL 16 d z.1 S.M, S.T ++ z.1.map (·.2.1) ++ keepT z.2.2.2.1 (lastS z.1), keepL u.p a z.2.2.2.1 z.2.2.2.2 z.2.2.1 (lastS z.1) (markL 16 d z.1 S.M) u.nxe u.k0 r S.L, fillF u.p a (pkF u.k1 u.k2 u.k3) q z.1 rt S.C⟩
def fireF (r q : Nat) (cn : Int → Bool) (u : Who) (a : Int) (S : OSt) : OSt × Bool :=
 if (lookR u.p a S.L).2 || !cn a then (S, false)
 else if (jobW S.M u.nxe u.root u.p a S.C).2.1 = 0 then (keepS r q u a false (startQ u.root (deepF S.C u.p a)).2.2 (jobW S.M u.nxe u.root u.p a S.C) S, true)
 else (⟨S.M, S.T ++ (jobW S.M u.nxe u.root u.p a S.C).1.map (·.2.1), S.L, S.C⟩, false)
theorem walk_found {M : Int → Int} {B : Int} {nxe : Bool} {a : Int} : ∀ (n : Nat) (t : Int) (r : Rt), (walkF M B nxe a n t r).2.1 = 0 →
  1 ≤ (walkF M B nxe a n t r).1.length ∧ (walkF M B nxe a n t r).1.length ≤ n ∧ (walkF M B nxe a n t r).2.2.2.1 = (n : Int) + 1 - (walkF M B nxe a n t r).1.length ∧ (walkF M B nxe a n t r).2.2.2.1 ≤ 3
 | 0, t, r, h => by simp [walkF] at h
 | n + 1, t, r, h => by
  obtain ⟨s, hs⟩ : ∃ s, slotI t a ((n : Int) + 1) = s := ⟨_, rfl⟩
  obtain ⟨x, hx⟩ : ∃ x, M (s / 8) = x := ⟨_, rfl⟩
  by_cases hne : errM B s ≠ 0
  ·rw [walkF_bad (by rw [hs]; exact hne)] at h; simp at h
  have he : errM B s = 0 := by omega
  cases hp : bitB x 0 with
  | false => rw [walkF_absent hs hx he hp] at h; simp at h
  | true =>
   cases hr : resI x ((n : Int) + 1) B nxe with
   | true => rw [walkF_res hs hx he hp hr] at h; simp at h
   | false =>
    cases hl : leafI x ((n : Int) + 1) with
    | true =>
     rw [walkF_leaf hs hx he hp hr hl]
     have := leaf_le hl
     simp only [List.length_cons, List.length_nil]
     omega
    | false =>
     rw [walkF_on hs hx he hp hr hl] at h ⊢
     have ih := walk_found n _ _ h
     simp only [List.length_cons]
     omega
theorem slot16 {s : Int} (h : errM 16 s = 0) : s < 65536 ∧ s % 8 = 0 := by
 unfold errM at h
 split at h
 ·rename_i h1
  split at h
  ·exact ⟨by simpa [limB] using h1, by assumption⟩
  ·omega
 ·omega
theorem walk_pos {M : Int → Int} {B : Int} {nxe : Bool} {a : Int} (hM : ∀ s, 0 ≤ M s) : ∀ (n : Nat) (t : Int) (r : Rt), 0 ≤ t → ∀ s ∈ (walkF M B nxe a n t r).1, 0 ≤ s.2.1
 | 0, t, r, _, s, h => by simp [walkF] at h
 | n + 1, t, r, ht, y, h => by
  have h0 := (slotI_le (t := t) (a := a) (l := (n : Int) + 1) ht).1
  obtain ⟨s, hs⟩ : ∃ s, slotI t a ((n : Int) + 1) = s := ⟨_, rfl⟩
  obtain ⟨x, hx⟩ : ∃ x, M (s / 8) = x := ⟨_, rfl⟩
  rw [hs] at h0
  by_cases hne : errM B s ≠ 0
  ·rw [walkF_bad (by rw [hs]; exact hne)] at h; simp at h
  have he : errM B s = 0 := by omega
  have one : y = ((n : Int) + 1, s, x) → 0 ≤ y.2.1 := fun e => by subst e; exact h0
  cases hp : bitB x 0 with
  | false => rw [walkF_absent hs hx he hp] at h; exact one (by simpa using h)
  | true =>
   cases hr : resI x ((n : Int) + 1) B nxe with
   | true => rw [walkF_res hs hx he hp hr] at h; exact one (by simpa using h)
   | false =>
    cases hl : leafI x ((n : Int) + 1) with
    | true => rw [walkF_leaf hs hx he hp hr hl] at h; exact one (by simpa using h)
    | false =>
     rw [walkF_on hs hx he hp hr hl] at h
     rcases List.mem_cons.1 h with h | h
     ·exact one h
     ·exact walk_pos hM n _ _ (tabI_le (hx ▸ hM _ : 0 ≤ x)).1 y h
theorem walk_low {M : Int → Int} {nxe : Bool} {a : Int} (hM : ∀ s, 0 ≤ M s ∧ M s ≤ 18446744073709551615) {n : Nat} {t : Int} {r : Rt} (ht : 0 ≤ t) {i : Nat} (hi : i < (walkF M 16 nxe a n t r).1.length) :
  (0 ≤ (stpAt (walkF M 16 nxe a n t r).1 i).2.1 ∧ (stpAt (walkF M 16 nxe a n t r).1 i).2.1 < 65536 ∧ (stpAt (walkF M 16 nxe a n t r).1 i).2.1 % 8 = 0) ∧ 0 ≤ (stpAt (walkF M 16 nxe a n t r).1 i).2.2 ∧ (stpAt (walkF M 16 nxe a n t r).1 i).2.2 ≤ 18446744073709551615 := by
 have hx : (walkF M 16 nxe a n t r).1[i]? = some (stpAt (walkF M 16 nxe a n t r).1 i) := by simp [stpAt, List.getD, hi]
 have h1 := walk_at hM hx
 have h2 := slot16 h1.2.1
 refine ⟨⟨?_, h2.1, h2.2⟩, h1.2.2⟩
 exact walk_pos (fun s => (hM s).1) n t r ht _ (List.mem_of_getElem? hx)
theorem job_keep {M : Int → Int} {nxe : Bool} {root p a : Int} {C : Int → Lines} (hM : ∀ s, 0 ≤ M s ∧ M s ≤ 18446744073709551615) (hC : COk C) (h0 : 0 ≤ root) (h1 : root ≤ 18446744073709551615) (h : (jobW M nxe root p a C).2.1 = 0) :
  KeepOk (jobW M nxe root p a C).1 (lastS (jobW M nxe root p a C).1) ∧ 1 ≤ (jobW M nxe root p a C).2.2.2.1 ∧ (jobW M nxe root p a C).2.2.2.1 ≤ 3 := by
 have ⟨⟨s0, s1⟩, t0, t1⟩ := startQ_le (p := p) (a := a) hC h0 h1
 unfold jobW at h ⊢
 have hf := walk_found _ _ _ h
 generalize (startQ root (deepF C p a)).2.2 = rt at *
 generalize (startQ root (deepF C p a)).2.1 = t at *
 generalize (startQ root (deepF C p a)).1 = n at *
 have hn : n.toNat ≤ 4 := by omega
 refine ⟨⟨⟨hf.1, by omega⟩, fun i hi => ?_, rfl, (walk_low hM t0 (by omega)).1⟩, by omega, hf.2.2.2⟩
 have := walk_low hM t0 hi
 omega
end Go.Proofs.YtkfonacokamfiaaGreat
/- Canonical addresses. (The first part of XVa, for a seat that has the translations' texts too.) -/
namespace Go.Proofs.YtkfonacokamfiaaGreat
set_option linter.unusedVariables false
set_option linter.unusedSimpArgs false
open Go.RowKit
attribute [local go_sem] wext_cell wext_frozen wext_heap alloc_cell alloc_frozen alloc_heap setCell_cell objCell_cells objFrozen_cells
def signI (a : Int) : Int := if a % 281474976710656 < 140737488355328 then a % 281474976710656 else a % 281474976710656 + 18446462598732840960
def canonB (a : Int) : Bool := decide (a < 140737488355328) || decide (18446603336221196288 ≤ a)
theorem sign_eq (a : Int) : IntKind.u64.wrap (wrap64 (IntKind.u64.wrap (a * 65536)) / 65536) = signI a := by
 unfold signI wrap64
 simp only [IntKind.wrap_u64]
 split <;> omega
theorem canon_eq {a : Int} (h0 : 0 ≤ a) (h1 : a ≤ 18446744073709551615) : (signI a == a) = canonB a := by
 unfold signI canonB
 rw [Bool.eq_iff_iff]
 simp only [beq_iff_eq, Bool.or_eq_true, decide_eq_true_eq]
 split <;> omega
theorem canonB_true {a : Int} : canonB a = true ↔ a < 140737488355328 ∨ 18446603336221196288 ≤ a := by simp [canonB]
theorem canonB_false {a : Int} : canonB a = false ↔ ¬ (a < 140737488355328 ∨ 18446603336221196288 ≤ a) := by
 rw [← canonB_true]; simp
theorem vaSign_c (a : Int) (w : World) (h0 : 0 ≤ a) (h1 : a ≤ 18446744073709551615) :
  Calls Tryz.prog 53 #[.int .u64 a] w fun e w' => e = .returned (.int .u64 (signI a)) ∧ Ext w w' := by
 go_enter Tryz.func53, Tryz.ntmps53
 go_wp2
 go_ret
 exact ⟨by rw [← sign_eq]; rfl, Ext.refl _⟩
theorem vaCanon_c (a : Int) (w : World) (h0 : 0 ≤ a) (h1 : a ≤ 18446744073709551615) :
  Calls Tryz.prog 26 #[.int .u64 a] w fun e w' => e = .returned (.bool (canonB a)) ∧ Ext w w' := by
 have HC := Lib.hid (canon_eq h0 h1)
 go_enter Tryz.func26, Tryz.ntmps26
 go_wp2_with (first | (go_at_call 53; refine (vaSign_c _ _ h0 h1).mono ?_; rintro e w1 ⟨rfl, hb⟩; have ⟨hc, hf, hh, hs⟩ := hb.facts; try simp only [World.size_alloc, World.size_setCell, World.size_drew] at hs))
 go_ret
 exact ⟨by rw [← (HC : Hid _).out]; rfl, hb⟩
end Go.Proofs.YtkfonacokamfiaaGreat
