/- Joined texts, part 31 of what the law stands on: each as its own head says. -/
import Derived.Test.YtakkjpdolkokfaaPln29
import Derived.Test.YtakkjpdolkokfaaPln30
import Derived.Test.YtakkjpdolkokfaaPln5
import Derived.Test.YtakkjpdolkokfaaPln21
/- Psc's laws: a memory and caches of tables side by side; caches behind walks to some addresses. -/
namespace Go.Proofs.Ytakkjpdolkokfaa
set_option linter.unusedVariables false
set_option linter.unusedSimpArgs false
open Go.RowKit
attribute [local go_sem] wext_cell wext_frozen wext_heap alloc_cell alloc_frozen alloc_heap setCell_cell objCell_cells objFrozen_cells

structure Both (w : World) (mb : Nat) (Fm : List Nat) (M : Int → Int) (T : List Int) (pb : Nat) (cb : Int → Nat) (F : Int → List Nat) (C : Int → Lines) (r : Nat) : Prop where
  mem : MemAt w mb Fm 16 M T
  psc : PscAt w pb cb F C r
  sep : ∀ x ∈ Fm, x ∉ allF F
section
variable {w w' : World} {mb : Nat} {Fm : List Nat} {M M' : Int → Int} {T T' : List Int} {pb : Nat} {cb : Int → Nat} {F : Int → List Nat} {C C' : Int → Lines} {r : Nat}
theorem Both.ext (h : Both w mb Fm M T pb cb F C r) (k : Ext w w') : Both w' mb Fm M T pb cb F C r := ⟨h.mem.ext k, h.psc.ext k, h.sep⟩
theorem Both.after_mem (h : Both w mb Fm M T pb cb F C r) (e : EndMem mb Fm w 16 M' T' w') : ∃ Fm', Both w' mb Fm' M' T' pb cb F C r ∧ Keeps Fm w w' ∧ ∀ x ∈ Fm', x ∈ Fm ∨ w.heap.size ≤ x := by
  obtain ⟨F', m, k, f⟩ := e
  refine ⟨F', ⟨m, h.psc.keeps k (fun x hx hm => h.sep x hm hx) (h.mem.apart h.psc.head (by decide) (by decide) (by decide)), fun x hx hp => ?_⟩, k, f⟩
  rcases f x hx with q | q
  · exact h.sep x q hp
  · have := h.psc.lt x hp; omega
theorem Both.after_psc (h : Both w mb Fm M T pb cb F C r) (e : ∃ F', PscAt w' pb cb F' C' r ∧ Keeps (allF F) w w' ∧ ∀ x ∈ allF F', x ∈ allF F ∨ w.heap.size ≤ x) :
    ∃ F', Both w' mb Fm M T pb cb F' C' r ∧ Keeps (allF F) w w' ∧ ∀ x ∈ allF F', x ∈ allF F ∨ w.heap.size ≤ x := by
  obtain ⟨F', m, k, f⟩ := e
  refine ⟨F', ⟨h.mem.keeps k (fun x hx hm => h.sep x hx hm), m, fun x hx hp => ?_⟩, k, f⟩
  rcases f x hp with q | q
  · exact h.sep x hx q
  · have := h.mem.lt x hx; omega
end
theorem walk_steps_ok {M : Int → Int} (hM : ∀ s, 0 ≤ M s ∧ M s ≤ 18446744073709551615) {a t : Int} {n : Nat} {rt : Rt} : ∀ i, i < (walkF M 16 true a n t rt).1.length → 0 ≤ (stpAt (walkF M 16 true a n t rt).1 i).2.2 ∧ (stpAt (walkF M 16 true a n t rt).1 i).2.2 ≤ 18446744073709551615 := fun i hi => by
  have hx : (walkF M 16 true a n t rt).1[i]? = some (stpAt (walkF M 16 true a n t rt).1 i) := by simp [stpAt, List.getD, hi]
  exact (walk_at hM hx).2.2
theorem walk_len {M : Int → Int} {B : Int} {nxe : Bool} {a : Int} : ∀ (n : Nat) (t : Int) (rt : Rt), (walkF M B nxe a n t rt).1.length ≤ n
  | 0, _, _ => by simp [walkF]
  | n + 1, t, rt => by
    unfold walkF
    split
    · split
      · split
        · simp
        · split
          · simp
          · simp only [List.length_cons]; have := walk_len (M := M) (B := B) (nxe := nxe) (a := a) n (tabI (M (slotI t a ((n : Int) + 1) / 8))) (andR rt (M (slotI t a ((n : Int) + 1) / 8))); omega
      · simp
    · simp

def U32.cells (n : Int) : List Value := [.int .u32 n]
def U32.ok (n : Int) : Prop := 0 ≤ n ∧ n ≤ 4294967295
/-- What warm leaves. -/
def EndWarm (mb : Nat) (Fm : List Nat) (M : Int → Int) (T : List Int) (r : Nat) (ns : List Int) (w : World) (e : Ending) (w' : World) : Prop :=
  ∃ pb cb F Fm' T', e = .returned (.pointer (some ⟨pb, 0, none⟩)) ∧ Both w' mb Fm' M T' pb cb F (warmP M r ns (min ns.length 20)) r ∧ Keeps Fm w w' ∧ (∀ x ∈ Fm', x ∈ Fm ∨ w.heap.size ≤ x) ∧ (∀ x ∈ allF F, w.heap.size ≤ x) ∧ w.heap.size ≤ pb ∧ T'.length ≤ T.length + 80
/-- Within warm. -/
structure WarmTo (w : World) (mb : Nat) (Fm : List Nat) (M : Int → Int) (T : List Int) (pb : Nat) (cb : Int → Nat) (r : Nat) (ns : List Int) (i : Nat) (wr : World) (Fm' : List Nat) (T' : List Int) (F : Int → List Nat) : Prop where
  both : Both wr mb Fm' M T' pb cb F (warmP M r ns i) r
  keep : Keeps Fm w wr
  own : ∀ x ∈ Fm', x ∈ Fm ∨ w.heap.size ≤ x
  new : ∀ x ∈ allF F, w.heap.size ≤ x
  len : T'.length ≤ T.length + 4 * i

end Go.Proofs.Ytakkjpdolkokfaa
/- Contracts of the document's fields (dormerref01.Set, With), bit by bit. -/
namespace Go.Proofs.Ytakkjpdolkokfaa
set_option linter.unusedVariables false
set_option linter.unusedSimpArgs false
open Go.RowKit
attribute [local go_sem] wext_cell wext_frozen wext_heap alloc_cell alloc_frozen alloc_heap setCell_cell objCell_cells objFrozen_cells

/-- the number of so many bits -/
def sumBits (f : Nat → Bool) : Nat → Nat
  | 0 => 0
  | j + 1 => sumBits f j + (if f j then 2 ^ j else 0)
theorem sumBits_lt (f : Nat → Bool) : ∀ n, sumBits f n < 2 ^ n
  | 0 => by simp [sumBits]
  | j + 1 => by
    have := sumBits_lt f j
    unfold sumBits
    rw [Nat.pow_succ]
    split <;> omega
theorem sumBits_testBit (f : Nat → Bool) : ∀ n i, (sumBits f n).testBit i = (decide (i < n) && f i)
  | 0, i => by simp [sumBits]
  | j + 1, i => by
    have hlt := sumBits_lt f j
    unfold sumBits
    cases hf : f j with
    | false =>
      simp only [Bool.false_eq_true, if_false, Nat.add_zero]
      rw [sumBits_testBit f j i]
      by_cases h : i = j
      · subst h; simp [hf]
      · rw [show decide (i < j + 1) = decide (i < j) by rw [decide_eq_decide]; omega]
    | true =>
      simp only [if_true]
      have e : sumBits f j + 2 ^ j = 2 ^ j ||| sumBits f j := by
        rw [nat_join j (2 ^ j) (sumBits f j) (Nat.mod_self _) hlt]; omega
      rw [e, Nat.testBit_or, sumBits_testBit f j i, Nat.testBit_two_pow]
      by_cases h : j = i
      · subst h; simp [hf]
      · rw [show decide (i < j + 1) = decide (i < j) by rw [decide_eq_decide]; omega]
        simp [h]
theorem sumBits_eq {x n : Nat} (h : x < 2 ^ n) : sumBits x.testBit n = x := by
  apply Nat.eq_of_testBit_eq
  intro i
  rw [sumBits_testBit]
  by_cases hi : i < n
  · simp [hi]
  · rw [Nat.testBit_lt_two_pow (Nat.lt_of_lt_of_le h (Nat.pow_le_pow_right (by omega) (by omega)))]; simp
theorem sumBits_congr {f g : Nat → Bool} {n : Nat} (h : ∀ i, i < n → f i = g i) : sumBits f n = sumBits g n := by
  apply Nat.eq_of_testBit_eq
  intro i
  rw [sumBits_testBit, sumBits_testBit]
  by_cases hi : i < n
  · rw [h i hi]
  · simp [hi]
theorem bitB_testBit (x i : Nat) : bitB (x : Int) (i : Int) = x.testBit i := by
  rw [Nat.testBit_eq_decide_div_mod_eq]
  unfold bitB pow2
  rw [Int.toNat_natCast, Bool.eq_iff_iff]
  simp only [beq_iff_eq, decide_eq_true_eq]
  have e : ((x : Int) / ((2 ^ i : Nat) : Int) % 2) = ((x / 2 ^ i % 2 : Nat) : Int) := by simp
  rw [e]
  omega

/-- a word with a field set -/
def setBits (x lo n v : Nat) : Nat → Bool := fun i => if lo ≤ i ∧ i < lo + n then v.testBit (i - lo) else x.testBit i

theorem refIs_c (lo n : Int) (w : World) (h0 : 0 ≤ lo) (h1 : 1 ≤ n) (h2 : lo ≤ 64) (h3 : n ≤ 64 - lo) :
    Calls Try.prog 103 #[.int .i64 lo, .int .i64 n] w fun e w' => e = .returned (.bool true) ∧ Ext w w' := by
  go_enter Try.func103, Try.ntmps103
  go_wp2
  go_ret
  exact ⟨rfl, Ext.refl _⟩

/-- a word with a bit set -/
def withN (x i : Nat) (b : Bool) : Nat := sumBits (fun k => if k = i then b else x.testBit k) 64
end Go.Proofs.Ytakkjpdolkokfaa
/- Addresses' keys and places, of both sides; sizes. -/
namespace Go.Proofs.Ytakkjpdolkokfaa
set_option linter.unusedVariables false
set_option linter.unusedSimpArgs false
open Go.RowKit
attribute [local go_sem] wext_cell wext_frozen wext_heap alloc_cell alloc_frozen alloc_heap setCell_cell objCell_cells objFrozen_cells

def sizeI (l : Int) : Int := if l = 1 then 4096 else if l = 2 then 2097152 else if l = 3 then 1073741824 else 0

theorem vaShift_bad (l : Int) (w : World) (h : l < 1 ∨ 5 ≤ l) :
    Calls Try.prog 116 #[.int .i64 l] w fun e w' => e = .returned (.tuple #[.int .i64 0, .bool false]) ∧ Ext w w' := by
  rcases h with h | h
  all_goals
    go_enter Try.func116, Try.ntmps116
    go_wp2
    all_goals
      go_ret2
      exact ⟨rfl, (by repeat (first | exact Ext.refl _ | assumption | refine Ext.alloc ?_ _ | refine Ext.drew ?_ | refine Ext.setCell ?_ (by first | (simp; done) | (dsimp only; omega)) _ | refine Ext.trans ?_ (by assumption)))⟩
theorem vaShift_c (l : Int) (w : World) (h0 : 1 ≤ l) (h1 : l ≤ 4) :
    Calls Try.prog 116 #[.int .i64 l] w fun e w' => e = .returned (.tuple #[.int .i64 (9 * l + 3), .bool true]) ∧ Ext w w' := by
  have : l = 1 ∨ l = 2 ∨ l = 3 ∨ l = 4 := by omega
  rcases this with rfl | rfl | rfl | rfl
  all_goals
    go_enter Try.func116, Try.ntmps116
    go_wp2
    go_ret2
    exact ⟨rfl, (by repeat (first | exact Ext.refl _ | assumption | refine Ext.alloc ?_ _ | refine Ext.drew ?_ | refine Ext.setCell ?_ (by first | (simp; done) | (dsimp only; omega)) _ | refine Ext.trans ?_ (by assumption)))⟩

theorem vaSize_c (l : Int) (w : World) :
    Calls Try.prog 104 #[.int .i64 l] w fun e w' => e = .returned (.int .u64 (sizeI l)) ∧ Ext w w' := by
  have : (l < 1 ∨ 5 ≤ l) ∨ l = 1 ∨ l = 2 ∨ l = 3 ∨ l = 4 := by omega
  rcases this with h | rfl | rfl | rfl | rfl
  case inl =>
    go_enter Try.func104, Try.ntmps104
    go_wp2_with (first | (go_at_call 116; refine (vaShift_bad _ _ h).mono ?_; rintro e w1 ⟨rfl, hb⟩; have ⟨hc, hf, hh, hs⟩ := hb.facts; try simp only [World.size_alloc, World.size_setCell, World.size_drew] at hs))
    go_ret
    exact ⟨by unfold sizeI; rw [if_neg (by omega), if_neg (by omega), if_neg (by omega)]; rfl, hb⟩
  all_goals
    go_enter Try.func104, Try.ntmps104
    go_wp2_with (first | (go_at_call 116; refine (vaShift_c _ _ (by omega) (by omega)).mono ?_; rintro e w1 ⟨rfl, hb⟩; have ⟨hc, hf, hh, hs⟩ := hb.facts; try simp only [World.size_alloc, World.size_setCell, World.size_drew] at hs))
    go_ret
    exact ⟨rfl, hb⟩

theorem low_mask {a : Int} (i : Nat) (hi : i < 64) (h0 : 0 ≤ a) (h1 : a ≤ 18446744073709551615) : bits BinOp.and IntKind.u64 a ((2 ^ i - 1 : Nat) : Int) = a % ((2 ^ i : Nat) : Int) := by
  have hp : 2 ^ i - 1 < 18446744073709551616 := by
    have : (2 : Nat) ^ i ≤ 2 ^ 63 := Nat.pow_le_pow_right (by omega) (by omega)
    omega
  have e : a = (a.toNat : Int) := (Int.toNat_of_nonneg h0).symm
  rw [e, u64_and_nat _ _ (by omega) hp, Nat.and_two_pow_sub_one_eq_mod]
  rfl

theorem none129 (w : World) : Calls Try.prog 114 #[.int .i64 12, .int .i64 9] w fun e w' => e = .returned (.bool false) ∧ Ext w w' := by
  go_enter Try.func114, Try.ntmps114
  go_wp2
  all_goals
    go_ret
    exact ⟨rfl, (by repeat (first | exact Ext.refl _ | assumption | refine Ext.alloc ?_ _ | refine Ext.drew ?_ | refine Ext.setCell ?_ (by first | (simp; done) | (dsimp only; omega)) _ | refine Ext.trans ?_ (by assumption)))⟩
theorem ones9 (w : World) : Calls Try.prog 115 #[.int .i64 9] w fun e w' => e = .returned (.int .u64 511) ∧ Ext w w' := by
  go_enter Try.func115, Try.ntmps115
  go_wp2
  all_goals
    go_ret
    exact ⟨rfl, (by repeat (first | exact Ext.refl _ | assumption | refine Ext.alloc ?_ _ | refine Ext.drew ?_ | refine Ext.setCell ?_ (by first | (simp; done) | (dsimp only; omega)) _ | refine Ext.trans ?_ (by assumption)))⟩
theorem get129 (a : Int) (w : World) (h0 : 0 ≤ a) (h1 : a ≤ 18446744073709551615) : Calls Try.prog 97 #[.int .u64 a, .int .i64 12, .int .i64 9] w fun e w' => e = .returned (.int .u64 (a / 4096 % 512)) ∧ Ext w w' := by
  have hm : bits BinOp.and IntKind.u64 (a / 4096) 511 = a / 4096 % 512 := low_mask (a := a / 4096) 9 (by omega) (by omega) (by omega)
  go_enter Try.func97, Try.ntmps97
  go_wp2_with (first | (go_at_call 114; refine (none129 _).mono ?_; rintro e w1 ⟨rfl, hb⟩; have ⟨hc, hf, hh, hs⟩ := hb.facts; try simp only [World.size_alloc, World.size_setCell, World.size_drew] at hs) | (go_at_call 115; refine (ones9 _).mono ?_; rintro e w1 ⟨rfl, hb⟩; have ⟨hc, hf, hh, hs⟩ := hb.facts; try simp only [World.size_alloc, World.size_setCell, World.size_drew] at hs))
  go_ret
  exact ⟨by rw [← hm]; rfl, (by repeat (first | exact Ext.refl _ | assumption | refine Ext.alloc ?_ _ | refine Ext.drew ?_ | refine Ext.setCell ?_ (by first | (simp; done) | (dsimp only; omega)) _ | refine Ext.trans ?_ (by assumption)))⟩
theorem vaIndex1_c (a : Int) (w : World) (h0 : 0 ≤ a) (h1 : a ≤ 18446744073709551615) : Calls Try.prog 96 #[.int .u64 a, .int .i64 1] w fun e w' => e = .returned (.int .i64 (a / 4096 % 512)) ∧ Ext w w' := by
  have hs : ∀ w, Calls Try.prog 116 #[.int .i64 1] w fun e w' => e = .returned (.tuple #[.int .i64 12, .bool true]) ∧ Ext w w' := fun w => vaShift_c 1 w (by omega) (by omega)
  go_enter Try.func96, Try.ntmps96
  go_wp2_with (first | (go_at_call 116; refine (hs _).mono ?_; rintro e w1 ⟨rfl, hb⟩; have ⟨hc, hf, hh, hs⟩ := hb.facts; try simp only [World.size_alloc, World.size_setCell, World.size_drew] at hs) | (go_at_call 97; refine (get129 a _ h0 h1).mono ?_; rintro e w1 ⟨rfl, hb⟩; have ⟨hc, hf, hh, hs⟩ := hb.facts; try simp only [World.size_alloc, World.size_setCell, World.size_drew] at hs))
  go_ret
  exact ⟨rfl, (by repeat (first | exact Ext.refl _ | assumption | refine Ext.alloc ?_ _ | refine Ext.drew ?_ | refine Ext.setCell ?_ (by first | (simp; done) | (dsimp only; omega)) _ | refine Ext.trans ?_ (by assumption)))⟩
def placeI (a : Int) : Int := a / 4096 % 8
theorem placeI_lt (a : Int) (h0 : 0 ≤ a) : 0 ≤ placeI a ∧ placeI a ≤ 7 := by unfold placeI; omega
theorem tlbPlace_c (a : Int) (w : World) (h0 : 0 ≤ a) (h1 : a ≤ 18446744073709551615) : Calls Try.prog 108 #[.int .u64 a] w fun e w' => e = .returned (.int .i64 (placeI a)) ∧ Ext w w' := by
  have hp : (a / 4096 % 512) % 8 = placeI a := by unfold placeI; omega
  go_enter Try.func108, Try.ntmps108
  go_wp2_with (first | (go_at_call 96; refine (vaIndex1_c a _ h0 h1).mono ?_; rintro e w1 ⟨rfl, hb⟩; have ⟨hc, hf, hh, hs⟩ := hb.facts; try simp only [World.size_alloc, World.size_setCell, World.size_drew] at hs))
  go_ret
  exact ⟨by rw [← hp]; rfl, (by repeat (first | exact Ext.refl _ | assumption | refine Ext.alloc ?_ _ | refine Ext.drew ?_ | refine Ext.setCell ?_ (by first | (simp; done) | (dsimp only; omega)) _ | refine Ext.trans ?_ (by assumption)))⟩

/-- The key of an address on a level. -/
def szT (l : Int) : Int := if l = 1 then 32768 else if l = 2 then 2097152 else 1073741824
def kT (p l a : Int) : Key := ⟨p, l, a / szT l⟩
theorem tlbKey_c (p l a : Int) (w : World) (hl : l = 1 ∨ l = 2 ∨ l = 3) (h0 : 0 ≤ a) (h1 : a ≤ 18446744073709551615) : Calls Try.prog 106 #[.int .i64 p, .int .i64 l, .int .u64 a] w fun e w' => e = .returned (kT p l a).val ∧ Ext w w' := by
  have s1 : ∀ w, Calls Try.prog 104 #[.int .i64 1] w fun e w' => e = .returned (.int .u64 4096) ∧ Ext w w' := fun w => vaSize_c 1 w
  have s2 : ∀ w, Calls Try.prog 104 #[.int .i64 2] w fun e w' => e = .returned (.int .u64 2097152) ∧ Ext w w' := fun w => vaSize_c 2 w
  have s3 : ∀ w, Calls Try.prog 104 #[.int .i64 3] w fun e w' => e = .returned (.int .u64 1073741824) ∧ Ext w w' := fun w => vaSize_c 3 w
  unfold kT szT Key.val
  rcases hl with rfl | rfl | rfl
  · simp only [reduceIte]
    go_enter Try.func106, Try.ntmps106
    go_wp2_with (first | (go_at_call 104; refine (s1 _).mono ?_; rintro e w1 ⟨rfl, hb⟩; have ⟨hc, hf, hh, hs⟩ := hb.facts; try simp only [World.size_alloc, World.size_setCell, World.size_drew] at hs))
    refine bodyPost_ret (by simp [results, Try.results106, go_sem, ↓IntWalk.iteOmega, *]; try rfl) rfl ⟨rfl, (by repeat (first | exact Ext.refl _ | assumption | refine Ext.alloc ?_ _ | refine Ext.drew ?_ | refine Ext.setCell ?_ (by first | (simp; done) | (dsimp only; omega)) _ | refine Ext.trans ?_ (by assumption)))⟩
  · simp only [Int.reduceEq, reduceIte]
    go_enter Try.func106, Try.ntmps106
    go_wp2_with (first | (go_at_call 104; refine (s2 _).mono ?_; rintro e w1 ⟨rfl, hb⟩; have ⟨hc, hf, hh, hs⟩ := hb.facts; try simp only [World.size_alloc, World.size_setCell, World.size_drew] at hs))
    refine bodyPost_ret (by simp [results, Try.results106, go_sem, ↓IntWalk.iteOmega, *]; try rfl) rfl ⟨rfl, (by repeat (first | exact Ext.refl _ | assumption | refine Ext.alloc ?_ _ | refine Ext.drew ?_ | refine Ext.setCell ?_ (by first | (simp; done) | (dsimp only; omega)) _ | refine Ext.trans ?_ (by assumption)))⟩
  · simp only [Int.reduceEq, reduceIte]
    go_enter Try.func106, Try.ntmps106
    go_wp2_with (first | (go_at_call 104; refine (s3 _).mono ?_; rintro e w1 ⟨rfl, hb⟩; have ⟨hc, hf, hh, hs⟩ := hb.facts; try simp only [World.size_alloc, World.size_setCell, World.size_drew] at hs))
    refine bodyPost_ret (by simp [results, Try.results106, go_sem, ↓IntWalk.iteOmega, *]; try rfl) rfl ⟨rfl, (by repeat (first | exact Ext.refl _ | assumption | refine Ext.alloc ?_ _ | refine Ext.drew ?_ | refine Ext.setCell ?_ (by first | (simp; done) | (dsimp only; omega)) _ | refine Ext.trans ?_ (by assumption)))⟩

end Go.Proofs.Ytakkjpdolkokfaa
/- Lines of groups, of both sides: has a page, without a page. -/
namespace Go.Proofs.Ytakkjpdolkokfaa
set_option linter.unusedVariables false
set_option linter.unusedSimpArgs false
open Go.RowKit
attribute [local go_sem] wext_cell wext_frozen wext_heap alloc_cell alloc_frozen alloc_heap setCell_cell objCell_cells objFrozen_cells

def clrB (m i : Int) : Int := if bitB m i = true then m - pow2 i else m
theorem fin_and8 : ∀ (i : Fin 8) (m : Fin 256), (bits BinOp.and IntKind.u8 ((m : Nat) : Int) (pow2 ((i : Nat) : Int)) == 0) = !bitB ((m : Nat) : Int) ((i : Nat) : Int) := by decide +kernel
theorem fin_not8 : ∀ (i : Fin 8) (m : Fin 256), bits BinOp.andNot IntKind.u8 ((m : Nat) : Int) (pow2 ((i : Nat) : Int)) = clrB ((m : Nat) : Int) ((i : Nat) : Int) := by decide +kernel
theorem fin_with8 : ∀ (i : Fin 8) (m : Fin 256), ((withN (m : Nat) (i : Nat) false : Nat) : Int) = clrB ((m : Nat) : Int) ((i : Nat) : Int) := by decide +kernel
theorem fin_clr8 : ∀ (i : Fin 8) (m : Fin 256), 0 ≤ clrB ((m : Nat) : Int) ((i : Nat) : Int) ∧ clrB ((m : Nat) : Int) ((i : Nat) : Int) ≤ 255 := by decide +kernel
theorem toFin {m : Int} {n : Nat} (h0 : 0 ≤ m) (h1 : m < n) : ∃ k : Fin n, ((k : Nat) : Int) = m := ⟨⟨m.toNat, by omega⟩, by simp; omega⟩
theorem and8 {m i : Int} (hm0 : 0 ≤ m) (hm1 : m ≤ 255) (hi0 : 0 ≤ i) (hi1 : i ≤ 7) : (bits BinOp.and IntKind.u8 m (pow2 i) == 0) = !bitB m i := by
  obtain ⟨a, rfl⟩ := toFin (n := 256) hm0 (by omega)
  obtain ⟨b, rfl⟩ := toFin (n := 8) hi0 (by omega)
  exact fin_and8 b a
theorem not8 {m i : Int} (hm0 : 0 ≤ m) (hm1 : m ≤ 255) (hi0 : 0 ≤ i) (hi1 : i ≤ 7) : bits BinOp.andNot IntKind.u8 m (pow2 i) = clrB m i := by
  obtain ⟨a, rfl⟩ := toFin (n := 256) hm0 (by omega)
  obtain ⟨b, rfl⟩ := toFin (n := 8) hi0 (by omega)
  exact fin_not8 b a
theorem with8 {m i : Int} (hm0 : 0 ≤ m) (hm1 : m ≤ 255) (hi0 : 0 ≤ i) (hi1 : i ≤ 7) : ((withN m.toNat i.toNat false : Nat) : Int) = clrB m i := by
  obtain ⟨a, rfl⟩ := toFin (n := 256) hm0 (by omega)
  obtain ⟨b, rfl⟩ := toFin (n := 8) hi0 (by omega)
  exact fin_with8 b a
theorem clr8 {m i : Int} (hm0 : 0 ≤ m) (hm1 : m ≤ 255) (hi0 : 0 ≤ i) (hi1 : i ≤ 7) : 0 ≤ clrB m i ∧ clrB m i ≤ 255 := by
  obtain ⟨a, rfl⟩ := toFin (n := 256) hm0 (by omega)
  obtain ⟨b, rfl⟩ := toFin (n := 8) hi0 (by omega)
  exact fin_clr8 b a

def hasF (x : Line) (i : Int) : Int := if bitB x.m i = true then IntKind.u64.wrap (x.f + 4096 * i) else 0
def Line.ok (x : Line) : Prop := 0 ≤ x.m ∧ x.m ≤ 255
def outL (x : Line) (i : Int) : Line := if clrB x.m i = 0 then noLine else ⟨x.f, x.a, x.b, x.c, x.d, clrB x.m i⟩
theorem outL_ok {x : Line} {i : Int} (h : x.ok) (hi0 : 0 ≤ i) (hi1 : i ≤ 7) : (outL x i).ok := by
  unfold outL
  split
  · exact ⟨by simp [noLine], by simp [noLine]⟩
  · exact clr8 h.1 h.2 hi0 hi1

theorem gbit_c (i : Int) (w : World) (hi0 : 0 ≤ i) (hi1 : i ≤ 7) : Calls Try.prog 117 #[.int .i64 i] w fun e w' => e = .returned (.int .u8 (pow2 i)) ∧ Ext w w' := by
  rcases (show i = 0 ∨ i = 1 ∨ i = 2 ∨ i = 3 ∨ i = 4 ∨ i = 5 ∨ i = 6 ∨ i = 7 by omega) with rfl | rfl | rfl | rfl | rfl | rfl | rfl | rfl
  all_goals
    go_enter Try.func117, Try.ntmps117
    go_wp2
    all_goals
      go_ret
      exact ⟨rfl, (by repeat (first | exact Ext.refl _ | assumption | refine Ext.alloc ?_ _ | refine Ext.drew ?_ | refine Ext.setCell ?_ (by first | (simp; done) | (dsimp only; omega)) _ | refine Ext.trans ?_ (by assumption)))⟩

set_option maxHeartbeats 1000000 in
theorem has_c (x : Line) (i : Int) (w : World) (hx : x.ok) (hi0 : 0 ≤ i) (hi1 : i ≤ 7) :
    Calls Try.prog 107 #[x.val, .int .i64 i] w fun e w' => e = .returned (.tuple #[.int .u64 (hasF x i), .bool (bitB x.m i)]) ∧ Ext w w' := by
  have h8 := and8 hx.1 hx.2 hi0 hi1
  unfold hasF
  obtain ⟨xf, xa, xb, xc, xd, xm⟩ := x
  unfold Line.val
  dsimp only at h8 ⊢
  have hg := fun w => gbit_c i w hi0 hi1
  generalize pow2 i = pi at h8 hg
  cases hq : bitB xm i
  all_goals
    rw [hq] at h8
    go_enter Try.func107, Try.ntmps107
    go_upto_region 1 with (fail)
    refine region_ext (by kernel_rfl) (by kernel_rfl) ?_; (repeat (go_big_quiet_step ((go_at_call 117; exact calls_wext (hg _))))); refine wpQuiet_nil ?_; intro w1 hb; have ⟨hc, hf, hh, hs⟩ := hb.facts; try simp only [World.size_alloc, World.size_setCell, World.size_drew] at hs
    go_wp2
    all_goals
      go_ret2
      exact ⟨rfl, (by repeat (first | exact Ext.refl _ | assumption | refine Ext.alloc ?_ _ | refine Ext.drew ?_ | refine Ext.setCell ?_ (by first | (simp; done) | (dsimp only; omega)) _ | refine Ext.trans ?_ (by assumption)))⟩

end Go.Proofs.Ytakkjpdolkokfaa
