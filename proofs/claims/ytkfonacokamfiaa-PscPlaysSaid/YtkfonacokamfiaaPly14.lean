/- Joined texts, part 14 of what the law stands on: each as its own head says. -/
import Derived.Test.YtkfonacokamfiaaPly13
/- Entries: tables, slots, leaves, reserved bits, frames; rights. -/
namespace Go.Proofs.Ytkfonacokamfiaa
set_option linter.unusedVariables false
set_option linter.unusedSimpArgs false
open Go.RowKit
attribute [local go_sem] wext_cell wext_frozen wext_heap alloc_cell alloc_frozen alloc_heap setCell_cell objCell_cells objFrozen_cells

def tabI (x : Int) : Int := x % 4503599627370496 - x % 4096
theorem tabI_le {x : Int} (h : 0 ≤ x) : 0 ≤ tabI x ∧ tabI x ≤ 4503599627366400 ∧ tabI x % 4096 = 0 ∧ tabI x ≤ x := by unfold tabI; omega
theorem tab_and {x : Int} (h0 : 0 ≤ x) (h1 : x ≤ 18446744073709551615) : bits BinOp.and IntKind.u64 x 4503599627366400 = tabI x := by
  have e : x = (x.toNat : Int) := (Int.toNat_of_nonneg h0).symm
  have hn : ∀ n : Nat, n &&& 4503599627366400 = n % 4503599627370496 - n % 4096 := fun n => by
    have e1 : (4503599627366400 : Nat) = (2 ^ 40 - 1) <<< 12 := by decide
    have e2 : n % 4503599627370496 - n % 4096 = (n >>> 12 &&& (2 ^ 40 - 1)) <<< 12 := by
      rw [Nat.and_two_pow_sub_one_eq_mod, Nat.shiftLeft_eq, Nat.shiftRight_eq_div_pow]
      omega
    rw [e2, e1]
    apply Nat.eq_of_testBit_eq
    intro i
    simp only [Nat.testBit_and, Nat.testBit_shiftLeft, Nat.testBit_shiftRight]
    by_cases hi : 12 ≤ i
    · simp [hi, show 12 + (i - 12) = i by omega]
    · simp [hi]
  rw [e, show (4503599627366400 : Int) = ((4503599627366400 : Nat) : Int) from rfl, u64_and_nat _ _ (by omega) (by omega), hn]
  unfold tabI
  omega
def idxI (a l : Int) : Int := if l = 1 then a / 4096 % 512 else if l = 2 then a / 2097152 % 512 else if l = 3 then a / 1073741824 % 512 else a / 549755813888 % 512
theorem idxI_le (a l : Int) : 0 ≤ idxI a l ∧ idxI a l ≤ 511 := by unfold idxI; split; omega; split; omega; split <;> omega
def slotI (t a l : Int) : Int := tabI t + 8 * idxI a l
theorem slotI_le {t a l : Int} (h : 0 ≤ t) : 0 ≤ slotI t a l ∧ slotI t a l ≤ 4503599627370488 ∧ slotI t a l % 8 = 0 := by
  have := idxI_le a l; have := tabI_le h; unfold slotI; omega
def leafI (x l : Int) : Bool := l == 1 || ((l == 2 || l == 3) && bitB x 7)
def sizeE (l : Int) : Int := if l = 1 then 4096 else if l = 2 then 2097152 else if l = 3 then 1073741824 else 1
def resI (x l B : Int) (nxe : Bool) : Bool := x / pow2 B % pow2 (52 - B) != 0 || (bitB x 63 && !nxe) || (l == 4 && bitB x 7) || (l == 2 && bitB x 7 && x / 8192 % 256 != 0) || (l == 3 && bitB x 7 && x / 8192 % 131072 != 0)
def frameI (x l : Int) : Int := if leafI x l then tabI x - tabI x % sizeE l else tabI x

theorem mask_c (w : World) : Calls Try.prog 64 #[.int .i64 12, .int .i64 40] w fun e w' => e = .returned (.int .u64 4503599627366400) ∧ Ext w w' := by
  have h1 : ∀ w, Calls Try.prog 77 #[.int .i64 40] w fun e w' => e = .returned (.int .u64 1099511627775) ∧ Ext w w' := fun w => ones_c 40 w (by omega) (by omega)
  go_enter Try.func64, Try.ntmps64
  go_wp2_with (first | (go_at_call 76; refine (fieldNone_c _ _ _ (by omega) (by omega) (by omega) (by omega)).mono ?_; rintro e w1 ⟨rfl, hb⟩; have ⟨hc, hf, hh, hs⟩ := hb.facts; try simp only [World.size_alloc, World.size_setCell, World.size_drew] at hs) | (go_at_call 77; refine (h1 _).mono ?_; rintro e w1 ⟨rfl, hb⟩; have ⟨hc, hf, hh, hs⟩ := hb.facts; try simp only [World.size_alloc, World.size_setCell, World.size_drew] at hs))
  go_ret
  exact ⟨rfl, (by repeat (first | exact Ext.refl _ | assumption | refine Ext.alloc ?_ _ | refine Ext.drew ?_ | refine Ext.setCell ?_ (by first | (simp; done) | (dsimp only; omega)) _ | refine Ext.trans ?_ (by assumption)))⟩
theorem entTable_c (x : Int) (w : World) (h0 : 0 ≤ x) (h1 : x ≤ 18446744073709551615) : Calls Try.prog 37 #[.int .u64 x] w fun e w' => e = .returned (.int .u64 (tabI x)) ∧ Ext w w' := by
  have ht := tab_and h0 h1
  go_enter Try.func37, Try.ntmps37
  go_wp2_with (first | (go_at_call 64; refine (mask_c _).mono ?_; rintro e w1 ⟨rfl, hb⟩; have ⟨hc, hf, hh, hs⟩ := hb.facts; try simp only [World.size_alloc, World.size_setCell, World.size_drew] at hs))
  go_ret
  exact ⟨by rw [← ht]; rfl, (by repeat (first | exact Ext.refl _ | assumption | refine Ext.alloc ?_ _ | refine Ext.drew ?_ | refine Ext.setCell ?_ (by first | (simp; done) | (dsimp only; omega)) _ | refine Ext.trans ?_ (by assumption)))⟩
theorem vaShiftE_c (l : Int) (w : World) (h0 : 1 ≤ l) (h1 : l ≤ 4) :
    Calls Try.prog 78 #[.int .i64 l] w fun e w' => e = .returned (.tuple #[.int .i64 (9 * l + 3), .bool true]) ∧ Ext w w' := by
  have : l = 1 ∨ l = 2 ∨ l = 3 ∨ l = 4 := by omega
  rcases this with rfl | rfl | rfl | rfl
  all_goals
    go_enter Try.func78, Try.ntmps78
    go_wp2
    go_ret2
    exact ⟨rfl, (by repeat (first | exact Ext.refl _ | assumption | refine Ext.alloc ?_ _ | refine Ext.drew ?_ | refine Ext.setCell ?_ (by first | (simp; done) | (dsimp only; omega)) _ | refine Ext.trans ?_ (by assumption)))⟩
theorem vaIndexE_c (a l : Int) (w : World) (hl0 : 1 ≤ l) (hl1 : l ≤ 4) (h0 : 0 ≤ a) (h1 : a ≤ 18446744073709551615) : Calls Try.prog 65 #[.int .u64 a, .int .i64 l] w fun e w' => e = .returned (.int .i64 (idxI a l)) ∧ Ext w w' := by
  have hs : ∀ w, Calls Try.prog 78 #[.int .i64 l] w fun e w' => e = .returned (.tuple #[.int .i64 (9 * l + 3), .bool true]) ∧ Ext w w' := fun w => vaShiftE_c l w hl0 hl1
  have hg : ∀ w, Calls Try.prog 67 #[.int .u64 a, .int .i64 (9 * l + 3), .int .i64 9] w fun e w' => e = .returned (.int .u64 (idxI a l)) ∧ Ext w w' := fun w => by
    have := fieldGet_c a (9 * l + 3) 9 w h0 h1 (by omega) (by omega) (by omega) (by omega) (by omega)
    have hl : l = 1 ∨ l = 2 ∨ l = 3 ∨ l = 4 := by omega
    rcases hl with rfl | rfl | rfl | rfl <;> exact this
  have hi := idxI_le a l
  generalize idxI a l = i at hg hi
  obtain ⟨hi0, hi1⟩ := hi
  go_enter Try.func65, Try.ntmps65
  go_wp2_with (first | (go_at_call 78; refine (hs _).mono ?_; rintro e w1 ⟨rfl, hb⟩; have ⟨hc, hf, hh, hs⟩ := hb.facts; try simp only [World.size_alloc, World.size_setCell, World.size_drew] at hs) | (go_at_call 67; refine (hg _).mono ?_; rintro e w1 ⟨rfl, hb⟩; have ⟨hc, hf, hh, hs⟩ := hb.facts; try simp only [World.size_alloc, World.size_setCell, World.size_drew] at hs))
  go_ret
  exact ⟨rfl, (by repeat (first | exact Ext.refl _ | assumption | refine Ext.alloc ?_ _ | refine Ext.drew ?_ | refine Ext.setCell ?_ (by first | (simp; done) | (dsimp only; omega)) _ | refine Ext.trans ?_ (by assumption)))⟩
theorem entSlot_c (t a l : Int) (w : World) (ht0 : 0 ≤ t) (ht1 : t ≤ 18446744073709551615) (hl0 : 1 ≤ l) (hl1 : l ≤ 4) (h0 : 0 ≤ a) (h1 : a ≤ 18446744073709551615) :
    Calls Try.prog 42 #[.int .u64 t, .int .u64 a, .int .i64 l] w fun e w' => e = .returned (.int .u64 (slotI t a l)) ∧ Ext w w' := by
  have hi := fun w => vaIndexE_c a l w hl0 hl1 h0 h1
  have hil := idxI_le a l
  unfold slotI
  generalize idxI a l = i at hi hil
  have ht := fun w => entTable_c t w ht0 ht1
  have htl := tabI_le ht0
  generalize tabI t = b at ht htl
  obtain ⟨hi0, hi1⟩ := hil
  obtain ⟨hb0, hb1, -, -⟩ := htl
  go_enter Try.func42, Try.ntmps42
  go_wp2_with (first | (go_at_call 37; refine (ht _).mono ?_; rintro e w1 ⟨rfl, hb⟩; have ⟨hc, hf, hh, hs⟩ := hb.facts; try simp only [World.size_alloc, World.size_setCell, World.size_drew] at hs) | (go_at_call 65; refine (hi _).mono ?_; rintro e w1 ⟨rfl, hb⟩; have ⟨hc, hf, hh, hs⟩ := hb.facts; try simp only [World.size_alloc, World.size_setCell, World.size_drew] at hs))
  go_ret
  exact ⟨rfl, (by repeat (first | exact Ext.refl _ | assumption | refine Ext.alloc ?_ _ | refine Ext.drew ?_ | refine Ext.setCell ?_ (by first | (simp; done) | (dsimp only; omega)) _ | refine Ext.trans ?_ (by assumption)))⟩
theorem entLeaf_c (x l : Int) (w : World) (h0 : 0 ≤ x) (h1 : x ≤ 18446744073709551615) :
    Calls Try.prog 39 #[.int .u64 x, .int .i64 l] w fun e w' => e = .returned (.bool (leafI x l)) ∧ Ext w w' := by
  have hb : (bits BinOp.and IntKind.u64 x 128 != 0) = bitB x 7 := bitE 7 (by omega) h0 h1
  have : l = 1 ∨ l = 2 ∨ l = 3 ∨ ((l == 1) = false ∧ (l == 2) = false ∧ (l == 3) = false) := by simp only [beq_eq_false_iff_ne]; omega
  unfold leafI
  rcases this with rfl | rfl | rfl | ⟨e1, e2, e3⟩
  case inr.inr.inr =>
    rw [e1, e2, e3]
    go_enter Try.func39, Try.ntmps39
    go_wp2
    go_ret
    exact ⟨rfl, (by repeat (first | exact Ext.refl _ | assumption | refine Ext.alloc ?_ _ | refine Ext.drew ?_ | refine Ext.setCell ?_ (by first | (simp; done) | (dsimp only; omega)) _ | refine Ext.trans ?_ (by assumption)))⟩
  all_goals
    go_enter Try.func39, Try.ntmps39
    go_wp2
    go_ret
    exact ⟨by simp [hb], (by repeat (first | exact Ext.refl _ | assumption | refine Ext.alloc ?_ _ | refine Ext.drew ?_ | refine Ext.setCell ?_ (by first | (simp; done) | (dsimp only; omega)) _ | refine Ext.trans ?_ (by assumption)))⟩
end Go.Proofs.Ytkfonacokamfiaa
/- A walk, plainly: its steps, why it ends, rights, level, frame. -/
namespace Go.Proofs.Ytkfonacokamfiaa
set_option linter.unusedVariables false
set_option linter.unusedSimpArgs false
open Go.RowKit
attribute [local go_sem] wext_cell wext_frozen wext_heap alloc_cell alloc_frozen alloc_heap setCell_cell objCell_cells objFrozen_cells

abbrev Rt := Bool × Bool × Bool
abbrev Stp := Int × Int × Int
def noRt : Rt := (false, false, false)
def allRt : Rt := (true, true, true)
def andR (r : Rt) (x : Int) : Rt := (r.1 && bitB x 1, r.2.1 && bitB x 2, r.2.2 && !bitB x 63)
def Stp.cells (s : Stp) : List Value := [.int .i64 s.1, .int .u64 s.2.1, .int .u64 s.2.2]
def rowS (L : List Stp) : List Value := L.flatMap Stp.cells
theorem rowS_length (L : List Stp) : (rowS L).length = L.length * 3 := by
  induction L with
  | nil => rfl
  | cons s L ih => simp only [rowS, List.flatMap_cons, List.length_append, List.length_cons, Stp.cells, List.length_nil] at *; omega
theorem rowS_append (L L2 : List Stp) : rowS (L ++ L2) = rowS L ++ rowS L2 := by simp [rowS]
abbrev WRes := Int × Rt × Int × Int
/-- A walk from a level on: its steps; why, rights, level, frame. -/
def walkF (M : Int → Int) (B : Int) (nxe : Bool) (a : Int) : Nat → Int → Rt → List Stp × WRes
  | 0, _, _ => ([], 2, noRt, 0, 0)
  | n + 1, t, r =>
    if errM B (slotI t a ((n : Int) + 1)) = 0 then
      if bitB (M (slotI t a ((n : Int) + 1) / 8)) 0 then
        if resI (M (slotI t a ((n : Int) + 1) / 8)) ((n : Int) + 1) B nxe then ([((n : Int) + 1, slotI t a ((n : Int) + 1), M (slotI t a ((n : Int) + 1) / 8))], 2, noRt, 0, 0)
        else if leafI (M (slotI t a ((n : Int) + 1) / 8)) ((n : Int) + 1) then
          ([((n : Int) + 1, slotI t a ((n : Int) + 1), M (slotI t a ((n : Int) + 1) / 8))], 0, andR r (M (slotI t a ((n : Int) + 1) / 8)), (n : Int) + 1, frameI (M (slotI t a ((n : Int) + 1) / 8)) ((n : Int) + 1))
        else
          ((((n : Int) + 1, slotI t a ((n : Int) + 1), M (slotI t a ((n : Int) + 1) / 8)) : Stp) :: (walkF M B nxe a n (tabI (M (slotI t a ((n : Int) + 1) / 8))) (andR r (M (slotI t a ((n : Int) + 1) / 8)))).1,
            (walkF M B nxe a n (tabI (M (slotI t a ((n : Int) + 1) / 8))) (andR r (M (slotI t a ((n : Int) + 1) / 8)))).2)
      else ([((n : Int) + 1, slotI t a ((n : Int) + 1), M (slotI t a ((n : Int) + 1) / 8))], 1, noRt, 0, 0)
    else ([], 2, noRt, 0, 0)
theorem walkF_bad {M : Int → Int} {B : Int} {nxe : Bool} {a : Int} {n : Nat} {t : Int} {r : Rt} (h : errM B (slotI t a ((n : Int) + 1)) ≠ 0) : walkF M B nxe a (n + 1) t r = ([], 2, noRt, 0, 0) := by
  show (if _ then _ else _) = _
  rw [if_neg h]
theorem walkF_absent {M : Int → Int} {B : Int} {nxe : Bool} {a : Int} {n : Nat} {t : Int} {r : Rt} {s x : Int} (hs : slotI t a ((n : Int) + 1) = s) (hx : M (s / 8) = x) (h : errM B s = 0) (hp : bitB x 0 = false) :
    walkF M B nxe a (n + 1) t r = ([((n : Int) + 1, s, x)], 1, noRt, 0, 0) := by
  subst hs hx
  unfold walkF
  rw [if_pos h, if_neg (by rw [hp]; decide)]
theorem walkF_res {M : Int → Int} {B : Int} {nxe : Bool} {a : Int} {n : Nat} {t : Int} {r : Rt} {s x : Int} (hs : slotI t a ((n : Int) + 1) = s) (hx : M (s / 8) = x) (h : errM B s = 0) (hp : bitB x 0 = true) (hr : resI x ((n : Int) + 1) B nxe = true) :
    walkF M B nxe a (n + 1) t r = ([((n : Int) + 1, s, x)], 2, noRt, 0, 0) := by
  subst hs hx
  unfold walkF
  rw [if_pos h, if_pos hp, if_pos hr]
theorem walkF_leaf {M : Int → Int} {B : Int} {nxe : Bool} {a : Int} {n : Nat} {t : Int} {r : Rt} {s x : Int} (hs : slotI t a ((n : Int) + 1) = s) (hx : M (s / 8) = x) (h : errM B s = 0) (hp : bitB x 0 = true) (hr : resI x ((n : Int) + 1) B nxe = false) (hl : leafI x ((n : Int) + 1) = true) :
    walkF M B nxe a (n + 1) t r = ([((n : Int) + 1, s, x)], 0, andR r x, (n : Int) + 1, frameI x ((n : Int) + 1)) := by
  subst hs hx
  unfold walkF
  rw [if_pos h, if_pos hp, if_neg (by rw [hr]; decide), if_pos hl]
theorem walkF_on {M : Int → Int} {B : Int} {nxe : Bool} {a : Int} {n : Nat} {t : Int} {r : Rt} {s x : Int} (hs : slotI t a ((n : Int) + 1) = s) (hx : M (s / 8) = x) (h : errM B s = 0) (hp : bitB x 0 = true) (hr : resI x ((n : Int) + 1) B nxe = false) (hl : leafI x ((n : Int) + 1) = false) :
    walkF M B nxe a (n + 1) t r = (((n : Int) + 1, s, x) :: (walkF M B nxe a n (tabI x) (andR r x)).1, (walkF M B nxe a n (tabI x) (andR r x)).2) := by
  subst hs hx
  conv => lhs; unfold walkF
  rw [if_pos h, if_pos hp, if_neg (by rw [hr]; decide), if_neg (by rw [hl]; decide)]

theorem stepRow : RowT Try.prog 35 105 3 24 := RowT.of (z := .agg #[.int .i64 0, .int .u64 0, .int .u64 0]) Try.underlying35 (by kernel_rfl) rfl

/-- The three blocks of a walk: where it goes on, what it hands back, its path so far. -/
def Fr (w : World) (p q o : Nat) (lv t : Int) (r : Rt) (sv : Value) : Prop :=
  w.heap[p]? = some (.cells #[.int .i64 lv, .int .u64 t, .bool r.1, .bool r.2.1, .bool r.2.2] 41 (0, 0)) ∧
  w.heap[q]? = some (.cells #[.slice none 0 0, .int .i64 0, .bool false, .bool false, .bool false, .int .i64 0, .int .u64 0] 39 (0, 0)) ∧
  w.heap[o]? = some (.cells #[sv, .int .i64 2, .bool false, .bool false, .bool false, .int .i64 0, .int .u64 0] 39 (0, 0))
theorem Fr.keep {w w' : World} {p q o : Nat} {lv t : Int} {r : Rt} {sv : Value} (h : Fr w p q o lv t r sv) (k1 : w'.heap[p]? = w.heap[p]?) (k2 : w'.heap[q]? = w.heap[q]?) (k3 : w'.heap[o]? = w.heap[o]?) : Fr w' p q o lv t r sv :=
  ⟨k1.trans h.1, k2.trans h.2.1, k3.trans h.2.2⟩
theorem Fr.lt {w : World} {p q o : Nat} {lv t : Int} {r : Rt} {sv : Value} (h : Fr w p q o lv t r sv) : p < w.heap.size ∧ q < w.heap.size ∧ o < w.heap.size := ⟨heap_lt h.1, heap_lt h.2.1, heap_lt h.2.2⟩
theorem Fr.ext {w w' : World} {p q o : Nat} {lv t : Int} {r : Rt} {sv : Value} (h : Fr w p q o lv t r sv) (k : Ext w w') : Fr w' p q o lv t r sv := by
  have ⟨a, b, c⟩ := h.lt
  exact h.keep (k.block _ a) (k.block _ b) (k.block _ c)
/-- A memory's blocks are none of another type. -/
theorem MemAt.apart {w : World} {mb : Nat} {F : List Nat} {B : Int} {M : Int → Int} {T : List Int} (h : MemAt w mb F B M T) {b : Nat} {c : Array Value} {e : TypeId} (hb : w.heap[b]? = some (.cells c e (0, 0)))
    (h1 : e ≠ 133) (h2 : e ≠ 34) (h3 : e ≠ 144) : b ∉ F := by
  obtain ⟨pb, tv, es, clock, PL, p1, p2, p3, p4, p5, p6, p7, p8, p9, rfl, p10⟩ := h
  intro hm
  simp only [List.mem_cons, List.mem_append, Option.mem_toList, List.mem_map] at hm
  rcases hm with rfl | rfl | hm | ⟨y, hy, rfl⟩
  · rw [hb] at p1; simp only [Option.some.injEq, Obj.cells.injEq] at p1; exact h1 p1.2.1
  · rw [hb] at p2; cases p2
  · obtain ⟨c', hc⟩ := p9.heap b hm
    rw [hb] at hc; simp only [Option.some.injEq, Obj.cells.injEq] at hc; exact h2 hc.2.1
  · obtain ⟨c', hc, -⟩ := p6 y hy
    rw [hb] at hc; simp only [Option.some.injEq, Obj.cells.injEq] at hc; exact h3 hc.2.1

/-- What a walk hands back. -/
def EndWalk (mb : Nat) (F : List Nat) (B : Int) (M : Int → Int) (T : List Int) (q : List Stp × WRes) (w : World) (e : Ending) (w' : World) : Prop :=
  ∃ v, e = .returned (.agg #[v, .int .i64 q.2.1, .bool q.2.2.1.1, .bool q.2.2.1.2.1, .bool q.2.2.1.2.2, .int .i64 q.2.2.2.1, .int .u64 q.2.2.2.2]) ∧ Owns w' 105 3 v q.1.length (rowS q.1) ∧
    EndMem mb F w B M (T ++ q.1.map (·.2.1)) w' ∧ ∀ g, v.ownBlock = some g → w.heap.size ≤ g

theorem store7_heap {w : World} {b : Nat} {c0 c1 c2 c3 c4 c5 c6 v0 v1 v2 v3 v4 v5 v6 : Value} {e : TypeId} {f : Nat × Nat} (h : w.heap[b]? = some (.cells #[c0, c1, c2, c3, c4, c5, c6] e f)) :
    (((((((w.setCell ⟨b, 0, none⟩ v0).setCell ⟨b, 1, none⟩ v1).setCell ⟨b, 2, none⟩ v2).setCell ⟨b, 3, none⟩ v3).setCell ⟨b, 4, none⟩ v4).setCell ⟨b, 5, none⟩ v5).setCell ⟨b, 6, none⟩ v6).heap[b]? = some (.cells #[v0, v1, v2, v3, v4, v5, v6] e f) := by
  have h0 : (w.setCell ⟨b, 0, none⟩ v0).heap[b]? = some (.cells #[v0, c1, c2, c3, c4, c5, c6] e f) := setCell_heap_same h
  have h1 : ((w.setCell ⟨b, 0, none⟩ v0).setCell ⟨b, 1, none⟩ v1).heap[b]? = some (.cells #[v0, v1, c2, c3, c4, c5, c6] e f) := setCell_heap_same h0
  have h2 : (((w.setCell ⟨b, 0, none⟩ v0).setCell ⟨b, 1, none⟩ v1).setCell ⟨b, 2, none⟩ v2).heap[b]? = some (.cells #[v0, v1, v2, c3, c4, c5, c6] e f) := setCell_heap_same h1
  have h3 : ((((w.setCell ⟨b, 0, none⟩ v0).setCell ⟨b, 1, none⟩ v1).setCell ⟨b, 2, none⟩ v2).setCell ⟨b, 3, none⟩ v3).heap[b]? = some (.cells #[v0, v1, v2, v3, c4, c5, c6] e f) := setCell_heap_same h2
  have h4 : (((((w.setCell ⟨b, 0, none⟩ v0).setCell ⟨b, 1, none⟩ v1).setCell ⟨b, 2, none⟩ v2).setCell ⟨b, 3, none⟩ v3).setCell ⟨b, 4, none⟩ v4).heap[b]? = some (.cells #[v0, v1, v2, v3, v4, c5, c6] e f) := setCell_heap_same h3
  have h5 : ((((((w.setCell ⟨b, 0, none⟩ v0).setCell ⟨b, 1, none⟩ v1).setCell ⟨b, 2, none⟩ v2).setCell ⟨b, 3, none⟩ v3).setCell ⟨b, 4, none⟩ v4).setCell ⟨b, 5, none⟩ v5).heap[b]? = some (.cells #[v0, v1, v2, v3, v4, v5, c6] e f) := setCell_heap_same h4
  have h6 : (((((((w.setCell ⟨b, 0, none⟩ v0).setCell ⟨b, 1, none⟩ v1).setCell ⟨b, 2, none⟩ v2).setCell ⟨b, 3, none⟩ v3).setCell ⟨b, 4, none⟩ v4).setCell ⟨b, 5, none⟩ v5).setCell ⟨b, 6, none⟩ v6).heap[b]? = some (.cells #[v0, v1, v2, v3, v4, v5, v6] e f) := setCell_heap_same h5
  exact h6
theorem store7_other {w : World} {b b' : Nat} {v0 v1 v2 v3 v4 v5 v6 : Value} (h : b ≠ b') :
    (((((((w.setCell ⟨b, 0, none⟩ v0).setCell ⟨b, 1, none⟩ v1).setCell ⟨b, 2, none⟩ v2).setCell ⟨b, 3, none⟩ v3).setCell ⟨b, 4, none⟩ v4).setCell ⟨b, 5, none⟩ v5).setCell ⟨b, 6, none⟩ v6).heap[b']? = w.heap[b']? := by
  exact (setCell_heap _ b 6 b' v6 h).trans (store6_other h)
theorem ext7 {a w : World} {b : Nat} {v0 v1 v2 v3 v4 v5 v6 : Value} (h : Ext a w) (hb : a.heap.size ≤ b) :
    Ext a (((((((w.setCell ⟨b, 0, none⟩ v0).setCell ⟨b, 1, none⟩ v1).setCell ⟨b, 2, none⟩ v2).setCell ⟨b, 3, none⟩ v3).setCell ⟨b, 4, none⟩ v4).setCell ⟨b, 5, none⟩ v5).setCell ⟨b, 6, none⟩ v6) :=
  Ext.setCell (Ext.setCell (Ext.setCell (Ext.setCell (Ext.setCell (Ext.setCell (Ext.setCell h hb _) hb _) hb _) hb _) hb _) hb _) hb _
theorem keeps7 {a w : World} {G : List Nat} {b : Nat} {v0 v1 v2 v3 v4 v5 v6 : Value} (h : Keeps G a w) (hb : a.heap.size ≤ b) :
    Keeps G a (((((((w.setCell ⟨b, 0, none⟩ v0).setCell ⟨b, 1, none⟩ v1).setCell ⟨b, 2, none⟩ v2).setCell ⟨b, 3, none⟩ v3).setCell ⟨b, 4, none⟩ v4).setCell ⟨b, 5, none⟩ v5).setCell ⟨b, 6, none⟩ v6) :=
  Keeps.setCell (Keeps.setCell (Keeps.setCell (Keeps.setCell (Keeps.setCell (Keeps.setCell (Keeps.setCell h (.inr hb) _) (.inr hb) _) (.inr hb) _) (.inr hb) _) (.inr hb) _) (.inr hb) _) (.inr hb) _
theorem Fr.facts {w : World} {p q o : Nat} {lv t : Int} {r : Rt} {sv : Value} (h : Fr w p q o lv t r sv) :
    (w.cell? ⟨p, 0, none⟩ = some (.int .i64 lv) ∧ w.cell? ⟨p, 1, none⟩ = some (.int .u64 t) ∧ w.cell? ⟨p, 2, none⟩ = some (.bool r.1) ∧ w.cell? ⟨p, 3, none⟩ = some (.bool r.2.1) ∧ w.cell? ⟨p, 4, none⟩ = some (.bool r.2.2) ∧ ∀ i, w.frozen? ⟨p, i, none⟩ = false) ∧
    (w.cell? ⟨q, 0, none⟩ = some (.slice none 0 0) ∧ w.cell? ⟨q, 1, none⟩ = some (.int .i64 0) ∧ w.cell? ⟨q, 2, none⟩ = some (.bool false) ∧ w.cell? ⟨q, 3, none⟩ = some (.bool false) ∧ w.cell? ⟨q, 4, none⟩ = some (.bool false) ∧ w.cell? ⟨q, 5, none⟩ = some (.int .i64 0) ∧ w.cell? ⟨q, 6, none⟩ = some (.int .u64 0) ∧ ∀ i, w.frozen? ⟨q, i, none⟩ = false) ∧
    (w.cell? ⟨o, 0, none⟩ = some sv ∧ w.cell? ⟨o, 1, none⟩ = some (.int .i64 2) ∧ w.cell? ⟨o, 2, none⟩ = some (.bool false) ∧ w.cell? ⟨o, 3, none⟩ = some (.bool false) ∧ w.cell? ⟨o, 4, none⟩ = some (.bool false) ∧ w.cell? ⟨o, 5, none⟩ = some (.int .i64 0) ∧ w.cell? ⟨o, 6, none⟩ = some (.int .u64 0) ∧ ∀ i, w.frozen? ⟨o, i, none⟩ = false) := by
  obtain ⟨h1, h2, h3⟩ := h
  exact ⟨⟨(heap_cell h1 0).trans rfl, (heap_cell h1 1).trans rfl, (heap_cell h1 2).trans rfl, (heap_cell h1 3).trans rfl, (heap_cell h1 4).trans rfl, fun i => by rw [frozen_heap, h1]; simp [objFrozen]⟩,
    ⟨(heap_cell h2 0).trans rfl, (heap_cell h2 1).trans rfl, (heap_cell h2 2).trans rfl, (heap_cell h2 3).trans rfl, (heap_cell h2 4).trans rfl, (heap_cell h2 5).trans rfl, (heap_cell h2 6).trans rfl, fun i => by rw [frozen_heap, h2]; simp [objFrozen]⟩,
    ⟨(heap_cell h3 0).trans rfl, (heap_cell h3 1).trans rfl, (heap_cell h3 2).trans rfl, (heap_cell h3 3).trans rfl, (heap_cell h3 4).trans rfl, (heap_cell h3 5).trans rfl, (heap_cell h3 6).trans rfl, fun i => by rw [frozen_heap, h3]; simp [objFrozen]⟩⟩
end Go.Proofs.Ytkfonacokamfiaa
/- Entries: reserved bits, frames; rights. -/
namespace Go.Proofs.Ytkfonacokamfiaa
set_option linter.unusedVariables false
set_option linter.unusedSimpArgs false
open Go.RowKit
attribute [local go_sem] wext_cell wext_frozen wext_heap alloc_cell alloc_frozen alloc_heap setCell_cell objCell_cells objFrozen_cells

theorem rightAndE_c (a b c : Bool) (x : Int) (w : World) (h0 : 0 ≤ x) (h1 : x ≤ 18446744073709551615) :
    Calls Try.prog 40 #[.agg #[.bool a, .bool b, .bool c], .int .u64 x] w fun e w' =>
      e = .returned (.agg #[.bool (a && bitB x 1), .bool (b && bitB x 2), .bool (c && !bitB x 63)]) ∧ Ext w w' := by
  have b1 : (bits BinOp.and IntKind.u64 x 2 != 0) = bitB x 1 := bitE 1 (by omega) h0 h1
  have b2 : (bits BinOp.and IntKind.u64 x 4 != 0) = bitB x 2 := bitE 2 (by omega) h0 h1
  have b3' : (bits BinOp.and IntKind.u64 x 9223372036854775808 != 0) = bitB x 63 := bitE 63 (by omega) h0 h1
  have b3 : (bits BinOp.and IntKind.u64 x 9223372036854775808 == 0) = !bitB x 63 := by rw [← b3']; simp [bne]
  clear b3'
  generalize bitB x 1 = q1 at b1 ⊢
  generalize bitB x 2 = q2 at b2 ⊢
  generalize bitB x 63 = q3 at b3 ⊢
  cases a <;> cases b <;> cases c
  all_goals
    go_enter Try.func40, Try.ntmps40
    go_wp2
    refine bodyPost_ret (by simp [results, Try.results40, go_sem]; rfl) rfl ⟨by simp [b1, b2, b3], by repeat (first | exact Ext.refl _ | apply Ext.alloc)⟩
theorem rightAllE_c (w : World) :
    Calls Try.prog 38 #[] w fun e w' =>
      e = .returned (.agg #[.bool true, .bool true, .bool true]) ∧ Ext w w' := by
  go_enter Try.func38, Try.ntmps38
  go_wp2
  refine bodyPost_ret (by simp [results, Try.results38, go_sem]; rfl) rfl ⟨by simp, by repeat (first | exact Ext.refl _ | apply Ext.alloc)⟩

theorem vaSizeE_c (l : Int) (w : World) (hl0 : 1 ≤ l) (hl1 : l ≤ 3) :
    Calls Try.prog 81 #[.int .i64 l] w fun e w' => e = .returned (.int .u64 (sizeE l)) ∧ Ext w w' := by
  have : l = 1 ∨ l = 2 ∨ l = 3 := by omega
  rcases this with rfl | rfl | rfl
  all_goals
    go_enter Try.func81, Try.ntmps81
    go_wp2_with (first | (go_at_call 78; refine (vaShiftE_c _ _ (by omega) (by omega)).mono ?_; rintro e w1 ⟨rfl, hb⟩; have ⟨hc, hf, hh, hs⟩ := hb.facts; try simp only [World.size_alloc, World.size_setCell, World.size_drew] at hs))
    go_ret
    exact ⟨rfl, (by repeat (first | exact Ext.refl _ | assumption | refine Ext.alloc ?_ _ | refine Ext.drew ?_ | refine Ext.setCell ?_ (by first | (simp; done) | (dsimp only; omega)) _ | refine Ext.trans ?_ (by assumption)))⟩
theorem emod_le {a n : Int} (h : 0 ≤ a) (hn : 0 < n) : a % n ≤ a := by
  have := Int.emod_def a n
  have := Int.mul_nonneg (Int.le_of_lt hn) (Int.ediv_nonneg h (Int.le_of_lt hn))
  omega
theorem vaLowE_c (a l : Int) (w : World) (hl0 : 1 ≤ l) (hl1 : l ≤ 3) (h0 : 0 ≤ a) (h1 : a ≤ 18446744073709551615) :
    Calls Try.prog 80 #[.int .u64 a, .int .i64 l] w fun e w' => e = .returned (.int .u64 (a % sizeE l)) ∧ Ext w w' := by
  have c1 : Calls Try.prog 80 #[.int .u64 a, .int .i64 1] w fun e w' => e = .returned (.int .u64 (a % 4096)) ∧ Ext w w' := by
    have hm : bits BinOp.and IntKind.u64 a 4095 = a % 4096 := maskE 12 (by omega) h0 h1
    have hs : ∀ w, Calls Try.prog 81 #[.int .i64 1] w fun e w' => e = .returned (.int .u64 4096) ∧ Ext w w' := fun w => vaSizeE_c 1 w (by omega) (by omega)
    go_enter Try.func80, Try.ntmps80
    go_wp2_with (first | (go_at_call 81; refine (hs _).mono ?_; rintro e w1 ⟨rfl, hb⟩; have ⟨hc, hf, hh, hs⟩ := hb.facts; try simp only [World.size_alloc, World.size_setCell, World.size_drew] at hs))
    go_ret
    exact ⟨rfl, (by repeat (first | exact Ext.refl _ | assumption | refine Ext.alloc ?_ _ | refine Ext.drew ?_ | refine Ext.setCell ?_ (by first | (simp; done) | (dsimp only; omega)) _ | refine Ext.trans ?_ (by assumption)))⟩
  have c2 : Calls Try.prog 80 #[.int .u64 a, .int .i64 2] w fun e w' => e = .returned (.int .u64 (a % 2097152)) ∧ Ext w w' := by
    have hm : bits BinOp.and IntKind.u64 a 2097151 = a % 2097152 := maskE 21 (by omega) h0 h1
    have hs : ∀ w, Calls Try.prog 81 #[.int .i64 2] w fun e w' => e = .returned (.int .u64 2097152) ∧ Ext w w' := fun w => vaSizeE_c 2 w (by omega) (by omega)
    go_enter Try.func80, Try.ntmps80
    go_wp2_with (first | (go_at_call 81; refine (hs _).mono ?_; rintro e w1 ⟨rfl, hb⟩; have ⟨hc, hf, hh, hs⟩ := hb.facts; try simp only [World.size_alloc, World.size_setCell, World.size_drew] at hs))
    go_ret
    exact ⟨rfl, (by repeat (first | exact Ext.refl _ | assumption | refine Ext.alloc ?_ _ | refine Ext.drew ?_ | refine Ext.setCell ?_ (by first | (simp; done) | (dsimp only; omega)) _ | refine Ext.trans ?_ (by assumption)))⟩
  have c3 : Calls Try.prog 80 #[.int .u64 a, .int .i64 3] w fun e w' => e = .returned (.int .u64 (a % 1073741824)) ∧ Ext w w' := by
    have hm : bits BinOp.and IntKind.u64 a 1073741823 = a % 1073741824 := maskE 30 (by omega) h0 h1
    have hs : ∀ w, Calls Try.prog 81 #[.int .i64 3] w fun e w' => e = .returned (.int .u64 1073741824) ∧ Ext w w' := fun w => vaSizeE_c 3 w (by omega) (by omega)
    go_enter Try.func80, Try.ntmps80
    go_wp2_with (first | (go_at_call 81; refine (hs _).mono ?_; rintro e w1 ⟨rfl, hb⟩; have ⟨hc, hf, hh, hs⟩ := hb.facts; try simp only [World.size_alloc, World.size_setCell, World.size_drew] at hs))
    go_ret
    exact ⟨rfl, (by repeat (first | exact Ext.refl _ | assumption | refine Ext.alloc ?_ _ | refine Ext.drew ?_ | refine Ext.setCell ?_ (by first | (simp; done) | (dsimp only; omega)) _ | refine Ext.trans ?_ (by assumption)))⟩
  rcases (show l = 1 ∨ l = 2 ∨ l = 3 by omega) with rfl | rfl | rfl
  · exact c1
  · exact c2
  · exact c3
theorem vaPageE_c (a l : Int) (w : World) (hl0 : 1 ≤ l) (hl1 : l ≤ 3) (h0 : 0 ≤ a) (h1 : a ≤ 18446744073709551615) :
    Calls Try.prog 68 #[.int .u64 a, .int .i64 l] w fun e w' => e = .returned (.int .u64 (a - a % sizeE l)) ∧ Ext w w' := by
  have hl := fun w => vaLowE_c a l w hl0 hl1 h0 h1
  have g : 0 ≤ a % sizeE l ∧ a % sizeE l ≤ a := by
    have : 0 < sizeE l := by unfold sizeE; repeat (split; omega); omega
    exact ⟨Int.emod_nonneg _ (by omega), emod_le h0 this⟩
  generalize a % sizeE l = q at hl g ⊢
  obtain ⟨g0, g1⟩ := g
  go_enter Try.func68, Try.ntmps68
  go_wp2_with (first | (go_at_call 80; refine (hl _).mono ?_; rintro e w1 ⟨rfl, hb⟩; have ⟨hc, hf, hh, hs⟩ := hb.facts; try simp only [World.size_alloc, World.size_setCell, World.size_drew] at hs))
  go_ret
  exact ⟨rfl, (by repeat (first | exact Ext.refl _ | assumption | refine Ext.alloc ?_ _ | refine Ext.drew ?_ | refine Ext.setCell ?_ (by first | (simp; done) | (dsimp only; omega)) _ | refine Ext.trans ?_ (by assumption)))⟩
theorem entFrame_c (x l : Int) (w : World) (hl0 : 1 ≤ l) (hl1 : l ≤ 4) (h0 : 0 ≤ x) (h1 : x ≤ 18446744073709551615) :
    Calls Try.prog 46 #[.int .u64 x, .int .i64 l] w fun e w' => e = .returned (.int .u64 (frameI x l)) ∧ Ext w w' := by
  have hf := fun w => entLeaf_c x l w h0 h1
  have ht := fun w => entTable_c x w h0 h1
  have htl := tabI_le h0
  unfold frameI
  cases hq : leafI x l
  · rw [hq] at hf
    generalize tabI x = b at ht ⊢
    go_enter Try.func46, Try.ntmps46
    go_wp2_with (first | (go_at_call 37; refine (ht _).mono ?_; rintro e w1 ⟨rfl, hb⟩; have ⟨hc, hf, hh, hs⟩ := hb.facts; try simp only [World.size_alloc, World.size_setCell, World.size_drew] at hs) | (go_at_call 39; refine (hf _).mono ?_; rintro e w1 ⟨rfl, hb⟩; have ⟨hc, hf, hh, hs⟩ := hb.facts; try simp only [World.size_alloc, World.size_setCell, World.size_drew] at hs))
    go_ret
    exact ⟨by simp, (by repeat (first | exact Ext.refl _ | assumption | refine Ext.alloc ?_ _ | refine Ext.drew ?_ | refine Ext.setCell ?_ (by first | (simp; done) | (dsimp only; omega)) _ | refine Ext.trans ?_ (by assumption)))⟩
  · rw [hq] at hf
    have hl3 : l ≤ 3 := by
      unfold leafI at hq
      simp only [Bool.or_eq_true, beq_iff_eq, Bool.and_eq_true] at hq
      omega
    have hp := fun w => vaPageE_c (tabI x) l w hl0 hl3 htl.1 (by omega)
    generalize tabI x = b at ht hp ⊢
    go_enter Try.func46, Try.ntmps46
    go_wp2_with (first | (go_at_call 37; refine (ht _).mono ?_; rintro e w1 ⟨rfl, hb⟩; have ⟨hc, hf, hh, hs⟩ := hb.facts; try simp only [World.size_alloc, World.size_setCell, World.size_drew] at hs) | (go_at_call 39; refine (hf _).mono ?_; rintro e w1 ⟨rfl, hb⟩; have ⟨hc, hf, hh, hs⟩ := hb.facts; try simp only [World.size_alloc, World.size_setCell, World.size_drew] at hs) | (go_at_call 68; refine (hp _).mono ?_; rintro e w1 ⟨rfl, hb⟩; have ⟨hc, hf, hh, hs⟩ := hb.facts; try simp only [World.size_alloc, World.size_setCell, World.size_drew] at hs))
    go_ret
    exact ⟨by simp, (by repeat (first | exact Ext.refl _ | assumption | refine Ext.alloc ?_ _ | refine Ext.drew ?_ | refine Ext.setCell ?_ (by first | (simp; done) | (dsimp only; omega)) _ | refine Ext.trans ?_ (by assumption)))⟩

end Go.Proofs.Ytkfonacokamfiaa
