/- Joined texts, part 4 of what the law stands on: each as its own head says. -/
import Derived.Test.YtkfonacokamfiaaGreatPlb3
import Derived.Test.YtkfonacokamfiaaGreatPlb1
import Derived.OpenShut
import Derived.Laws.BitsAllLaws
/- Memories: Store, Load, New. -/
namespace Go.Proofs.YtkfonacokamfiaaGreat
set_option linter.unusedVariables false
set_option linter.unusedSimpArgs false
open Go.RowKit
attribute [local go_sem] wext_cell wext_frozen wext_heap alloc_cell alloc_frozen alloc_heap setCell_cell objCell_cells objFrozen_cells

theorem errM_zero {B a : Int} (h : errM B a = 0) : a < limB B ∧ a % 8 = 0 := by
  unfold errM at h
  by_cases hq : a < limB B
  · rw [if_pos hq] at h
    by_cases h8 : a % 8 = 0
    · exact ⟨hq, h8⟩
    · rw [if_neg h8] at h; omega
  · rw [if_neg hq] at h; omega
theorem errM_le {B a : Int} (h : errM B a = 0) : a ≤ 4194303 := by
  have := errM_zero h; have := limB_le B; omega
theorem EndMem.refl {w w' : World} {mb : Nat} {F : List Nat} {B : Int} {M : Int → Int} {T : List Int} (h : MemAt w mb F B M T) (k : Ext w w') : EndMem mb F w B M T w' :=
  ⟨F, h.ext k, Keeps.of_ext k, fun y hy => .inl hy⟩
theorem EndMem.before {w w1 w' : World} {mb : Nat} {F : List Nat} {B : Int} {M : Int → Int} {T : List Int} (k : Ext w w1) (h : EndMem mb F w1 B M T w') : EndMem mb F w B M T w' := by
  obtain ⟨F', h1, h2, h3⟩ := h
  refine ⟨F', h1, (Keeps.of_ext k).trans h2 fun x hx => .inl hx, fun y hy => ?_⟩
  rcases h3 y hy with q | q
  · exact .inl q
  · exact .inr (Nat.le_trans k.size q)
theorem EndMem.after {w w1 w' : World} {mb : Nat} {F : List Nat} {B : Int} {M : Int → Int} {T : List Int} (h : EndMem mb F w B M T w1) (k : Ext w1 w') : EndMem mb F w B M T w' := by
  obtain ⟨F', h1, h2, h3⟩ := h
  exact ⟨F', h1.ext k, h2.ext k, h3⟩
theorem EndMem.then {w w1 w' : World} {mb : Nat} {F : List Nat} {B : Int} {M M' : Int → Int} {T T' : List Int} (h : EndMem mb F w B M T w1) (k : ∀ F', MemAt w1 mb F' B M T → EndMem mb F' w1 B M' T' w') : EndMem mb F w B M' T' w' := by
  obtain ⟨F', h1, h2, h3⟩ := h
  obtain ⟨F2, k1, k2, k3⟩ := k F' h1
  refine ⟨F2, k1, h2.trans k2 h3, fun y hy => ?_⟩
  rcases k3 y hy with q | q
  · exact h3 y q
  · exact .inr (Nat.le_trans h2.size q)

def setIf (B : Int) (M : Int → Int) (a x : Int) : Int → Int := if errM B a = 0 then setM M (a / 8) x else M
theorem store_c (mb : Nat) (F : List Nat) (B : Int) (M : Int → Int) (T : List Int) (a x : Int) (w : World) (h : MemAt w mb F B M T) (h0 : 0 ≤ a) (h1 : a ≤ 18446744073709551615) (hx0 : 0 ≤ x) (hx1 : x ≤ 18446744073709551615) :
    Calls Tryz.prog 21 #[.pointer (some ⟨mb, 0, none⟩), .int .u64 a, .int .u64 x] w fun e w' => e = .returned (.int .i64 (errM B a)) ∧ EndMem mb F w B (setIf B M a x) T w' := by
  have hal := fun w' (hx : Ext w w') => aligned_c mb F B M T a w' (h.ext hx) h0 h1
  unfold setIf
  by_cases he : errM B a = 0
  · have hs := fun w' (hx : Ext w w') => mset_c mb F B M T a x w' (h.ext hx) h0 (errM_le he) (errM_zero he).2 hx0 hx1
    rw [if_pos he, he]
    rw [he] at hal
    clear h he
    go_enter Tryz.func21, Tryz.ntmps21
    go_wp2_with (first | (go_at_call 40; refine (hal _ (by repeat (first | exact Ext.refl _ | assumption | refine Ext.alloc ?_ _ | refine Ext.drew ?_ | refine Ext.setCell ?_ (by first | (simp; done) | (dsimp only; omega)) _ | refine Ext.trans ?_ (by assumption)))).mono ?_; rintro e w1 ⟨rfl, hb1⟩) | (go_at_call 41; refine (hs _ (by repeat (first | exact Ext.refl _ | assumption | refine Ext.alloc ?_ _ | refine Ext.drew ?_ | refine Ext.setCell ?_ (by first | (simp; done) | (dsimp only; omega)) _ | refine Ext.trans ?_ (by assumption)))).mono ?_; rintro e w2 ⟨rfl, hb2⟩))
    all_goals
      go_ret
      exact ⟨rfl, hb2.before (by repeat (first | exact Ext.refl _ | assumption | refine Ext.alloc ?_ _ | refine Ext.drew ?_ | refine Ext.setCell ?_ (by first | (simp; done) | (dsimp only; omega)) _ | refine Ext.trans ?_ (by assumption)))⟩
  · rw [if_neg he]
    have hr := fun w' => EndMem.refl (w' := w') h
    generalize hEr : errM B a = er at hal he
    have heb : (er != 0) = true := by simpa using he
    clear h hEr
    go_enter Tryz.func21, Tryz.ntmps21
    go_wp2_with (first | (go_at_call 40; refine (hal _ (by repeat (first | exact Ext.refl _ | assumption | refine Ext.alloc ?_ _ | refine Ext.drew ?_ | refine Ext.setCell ?_ (by first | (simp; done) | (dsimp only; omega)) _ | refine Ext.trans ?_ (by assumption)))).mono ?_; rintro e w1 ⟨rfl, hb1⟩))
    all_goals
      go_ret
      exact ⟨rfl, hr _ (by repeat (first | exact Ext.refl _ | assumption | refine Ext.alloc ?_ _ | refine Ext.drew ?_ | refine Ext.setCell ?_ (by first | (simp; done) | (dsimp only; omega)) _ | refine Ext.trans ?_ (by assumption)))⟩

theorem wordRow : RowT Tryz.prog 39 23 1 8 := RowT.of (z := .int .u64 0) Tryz.underlying39 (by kernel_rfl) rfl

set_option maxHeartbeats 2000000 in
set_option maxRecDepth 20000 in
theorem load_c (mb : Nat) (F : List Nat) (B : Int) (M : Int → Int) (T : List Int) (a : Int) (w : World) (h : MemAt w mb F B M T) (h0 : 0 ≤ a) (h1 : a ≤ 18446744073709551615) (hT : T.length ≤ 1000000) :
    Calls Tryz.prog 45 #[.pointer (some ⟨mb, 0, none⟩), .int .u64 a] w fun e w' => e = .returned (.tuple #[.int .u64 (if errM B a = 0 then M (a / 8) else 0), .int .i64 (errM B a)]) ∧ EndMem mb F w B M (if errM B a = 0 then T ++ [a] else T) w' := by
  have hp := fun w' (hx : Ext w w') => peek_c mb F B M T a w' (h.ext hx) h0 h1
  by_cases he : errM B a = 0
  · rw [if_pos he, if_pos he, he]
    simp only [if_pos he, he] at hp
    generalize hx : M (a / 8) = x at hp
    clear he
    have HM := Lib.hid h
    obtain ⟨pb, tv, es, clock, PL, p1, p2, p3, p4, p5, p6, p7, p8, p9, hF, hB⟩ := h
    obtain ⟨at1, tc, rfl, -, -⟩ := p9.form
    have hlt := heap_lt p1
    have hlp := heap_lt p2
    have hpm : pb ≠ mb := fun e => by rw [e, p1] at p2; cases p2
    have HTN : Hid (∀ b, (Value.slice at1 T.length tc).ownBlock = some b → b ≠ mb ∧ b ≠ pb ∧ ∀ y ∈ PL, b ≠ y.2) := Lib.hid fun b hb => by
      obtain ⟨cc, hcc⟩ := p9.heap b hb
      refine ⟨fun e => ?_, fun e => ?_, fun y hy e => ?_⟩
      · rw [e, p1] at hcc; cases hcc
      · rw [e, p2] at hcc; cases hcc
      · obtain ⟨c, hc, _⟩ := p6 y hy; rw [e, hc] at hcc; cases hcc
    have HPN : Hid (∀ y ∈ PL, y.2 ≠ mb ∧ y.2 ≠ pb ∧ y.2 < w.heap.size) := Lib.hid fun y hy => by
      obtain ⟨c, hc, _⟩ := p6 y hy
      refine ⟨fun e => ?_, fun e => ?_, heap_lt hc⟩
      · rw [e, p1] at hc; cases hc
      · rw [e, p2] at hc; cases hc
    have hl2 : (T.map (Value.int .u64 ·)).length = T.length := by simp
    have c2 := (heap_cell p1 2).trans rfl
    have hfr : w.frozen? ⟨mb, 2, none⟩ = false := by rw [frozen_heap, p1]; rfl
    have P1 := Lib.hid p1
    have P2 := Lib.hid p2
    have P9 := Lib.hid p9
    have HF := Lib.hid hF
    have P6 := Lib.hid p6
    have P8 := Lib.hid p8
    have P7 := Lib.hid p7
    clear p1 p2 p9 hF p6 hx p8 p7
    go_enter Tryz.func45, Tryz.ntmps45
    go_upto_region 3 with (first | (go_at_call 32; refine (hp _ (by repeat (first | exact Ext.refl _ | assumption | refine Ext.alloc ?_ _ | refine Ext.drew ?_ | refine Ext.setCell ?_ (by first | (simp; done) | (dsimp only; omega)) _ | refine Ext.trans ?_ (by assumption)))).mono ?_; rintro e w1 ⟨rfl, hb1⟩))
    have c21 := hb1.someCell c2
    have hlt1 : mb < w1.heap.size := Nat.lt_of_lt_of_le hlt hb1.size
    have EA : Ext w (w1.alloc (.cells #[.int .u64 a] 23 (0, 0))) := hb1.alloc _
    have HO := Lib.hid (P9.out.ext EA)
    have HNW : Hid (∀ j u, [Value.int .u64 a][j]? = some u → (w1.alloc (.cells #[.int .u64 a] 23 (0, 0))).cell? ((⟨w1.heap.size, 0, none⟩ : Addr).add j) = some u) := Lib.hid fun j u hu => by
      rw [add0, cell_heap, alloc_same]; simpa [objCell] using hu
    have HZ : Hid (∀ w9 : World, World.grownBy (w1.alloc (.cells #[.int .u64 a] 23 (0, 0))) w9 (Value.slice at1 T.length tc).ownBlock → w9.heap[mb]? = some (.cells #[.int .i64 B, .map (some pb), .slice at1 T.length tc] 124 (0, 0))) := Lib.hid fun w9 q2 =>
      (q2.block mb (by rw [World.size_alloc]; omega) (fun e => (HTN.out mb e.symm).1 rfl)).trans ((EA.block mb hlt).trans P1.out)
    have HEA := Lib.hid EA
    clear EA c2 hfr
    go_wp2_with (first | (at_builtin; refine wpList_append_owns rfl _ _ _ _ 1 8 wordRow rfl _ rfl T.length (T.map (Value.int .u64 ·)) HO.out _ 1 1 rfl [.int .u64 a] rfl HNW.out (by simp [Value.oneCell']) (by unfold maxLen; omega) (by omega) ?_; intro v9 w9 q1 q2 q3; replace q2 : World.grownBy (w1.alloc (.cells #[.int .u64 a] 23 (0, 0))) w9 (Value.slice at1 T.length tc).ownBlock := q2; replace q3 : v9.ownBlock = (Value.slice at1 T.length tc).ownBlock ∨ v9.ownBlock = some (w1.alloc (.cells #[.int .u64 a] 23 (0, 0))).heap.size := q3; obtain ⟨a9, c9, rfl, -, -⟩ := q1.form; have z1 := HZ.out w9 q2; have x2 := (heap_cell z1 2).trans rfl; have x3 := frozen_of z1; have Z1 := Lib.hid z1; clear z1; simp only [Act.put, Array.set!_eq_setIfInBounds, List.setIfInBounds_toArray, List.set_cons_succ, List.set_cons_zero]))
    go_ret2
    have hsz : w.heap.size ≤ w1.heap.size := hb1.size
    have hown : ∀ g, (Value.slice a9 (T.length + 1) c9).ownBlock = some g → g ≠ mb ∧ g ≠ pb ∧ (∀ y ∈ PL, g ≠ y.2) ∧ (g ∈ F ∨ w.heap.size ≤ g) := fun g hg => by
      rcases q3 with q | q
      · obtain ⟨k1, k2, k3⟩ := HTN.out g (q.symm.trans hg)
        refine ⟨k1, k2, k3, .inl ?_⟩
        rw [HF.out, ← q, hg]; simp
      · have hge : g = w1.heap.size + 1 := by
          have h9 := q.symm.trans hg
          rw [World.size_alloc] at h9
          injection h9 with h9
          exact h9.symm
        refine ⟨by omega, by omega, fun y hy => ?_, .inr (by omega)⟩
        have := (HPN.out y hy).2.2
        omega
    have hblk : ∀ b, b < w.heap.size → b ≠ mb → (∀ g, (Value.slice at1 T.length tc).ownBlock = some g → b ≠ g) → (w9.setCell ⟨mb, 2, none⟩ (.slice a9 (T.length + 1) c9)).heap[b]? = w.heap[b]? := fun b hb hn hg =>
      (setCell_heap _ _ _ _ _ (Ne.symm hn)).trans ((q2.block b (by rw [World.size_alloc]; omega) (fun e => hg b e.symm rfl)).trans (HEA.out.block b hb))
    refine ⟨rfl, mb :: pb :: ((Value.slice a9 (T.length + 1) c9).ownBlock.toList ++ PL.map (·.2)), ⟨pb, .slice a9 (T.length + 1) c9, es, clock, PL, setCell_heap_same Z1.out, ?_, p3, p4, p5, fun y hy => ?_, P7.out, P8.out, ?_, rfl, hB⟩, ?_, fun y hy => ?_⟩
    · exact (hblk pb hlp hpm (fun g hg => (HTN.out g hg).2.1.symm)).trans P2.out
    · obtain ⟨c, r1, r2, r3⟩ := P6.out y hy
      obtain ⟨n1, n2, n3⟩ := HPN.out y hy
      exact ⟨c, (hblk y.2 n3 n1 (fun g hg => ((HTN.out g hg).2.2 y hy).symm)).trans r1, r2, r3⟩
    · have : Owns w9 23 1 (.slice a9 (T.length + 1) c9) (T ++ [a]).length ((T ++ [a]).map (Value.int .u64 ·)) := by
        rw [List.map_append, List.length_append]; exact q1
      exact this.keep fun g hg => setCell_heap _ _ _ _ _ (hown g hg).1.symm
    · refine ((Keeps.of_ext HEA.out).grown q2 (fun g hg => .inl ?_)).setCell (.inl ?_) _
      · rw [HF.out, hg]; simp
      · rw [HF.out]; simp
    · simp only [List.mem_cons, List.mem_append, Option.mem_toList] at hy
      rcases hy with rfl | rfl | hy | hy
      · exact .inl (by rw [HF.out]; simp)
      · exact .inl (by rw [HF.out]; simp)
      · exact (hown y hy).2.2.2
      · exact .inl (by rw [HF.out]; simp only [List.mem_cons, List.mem_append]; exact .inr (.inr (.inr hy)))
  · rw [if_neg he, if_neg he]
    simp only [if_neg he] at hp
    have hr := fun w' => EndMem.refl (w' := w') h
    generalize hEr : errM B a = er at hp he
    have heb : (er == 0) = false := by simpa using he
    clear h hEr he
    go_enter Tryz.func45, Tryz.ntmps45
    go_wp2_with (first | (go_at_call 32; refine (hp _ (by repeat (first | exact Ext.refl _ | assumption | refine Ext.alloc ?_ _ | refine Ext.drew ?_ | refine Ext.setCell ?_ (by first | (simp; done) | (dsimp only; omega)) _ | refine Ext.trans ?_ (by assumption)))).mono ?_; rintro e w1 ⟨rfl, hb1⟩; have ⟨hc, hf, hh, hs⟩ := hb1.facts))
    all_goals
      go_ret2
      exact ⟨rfl, hr _ (by repeat (first | exact Ext.refl _ | assumption | refine Ext.alloc ?_ _ | refine Ext.drew ?_ | refine Ext.setCell ?_ (by first | (simp; done) | (dsimp only; omega)) _ | refine Ext.trans ?_ (by assumption)))⟩

theorem EntP.nil : EntP #[] 0 [] := ⟨⟨fun e h => by simp at h, by simp⟩, rfl⟩
def NewMem (B : Int) (w : World) (e : Ending) (w' : World) : Prop :=
  ∃ mb F, e = .returned (.pointer (some ⟨mb, 0, none⟩)) ∧ MemAt w' mb F B (fun _ => 0) [] ∧ Ext w w' ∧ ∀ x ∈ F, w.heap.size ≤ x
theorem memNew_c (B : Int) (w : World) (hB : 14 ≤ B ∧ B ≤ 22) :
    Calls Tryz.prog 19 #[.int .i64 B] w (NewMem B w) := by
  have hmk : ∀ w, (Instr.makeMap 122 none).run Tryz.prog w = .ok (.map (some w.heap.size)) (w.alloc (.map #[] 0)) := fun _ => rfl
  obtain ⟨hB0, hB1⟩ := hB
  go_enter Tryz.func19, Tryz.ntmps19
  go_wp2
  all_goals
    go_ret
    refine ⟨w.heap.size + 1, [w.heap.size + 1, w.heap.size], rfl, ⟨w.heap.size, .slice none 0 0, #[], 0, [], ?_, ?_, EntP.nil, List.nodup_nil, List.nodup_nil, (fun x hx => by cases hx), fun _ _ => rfl, fun _ => ⟨Int.le_refl 0, by show (0 : Int) ≤ _; omega⟩, Owns.nil .., rfl, hB0, hB1⟩, (by repeat (first | exact Ext.refl _ | assumption | refine Ext.alloc ?_ _ | refine Ext.drew ?_ | refine Ext.setCell ?_ (by first | (simp; done) | (dsimp only; omega)) _ | refine Ext.trans ?_ (by assumption))), by simp⟩
    · rw [alloc_same1]
    · rw [alloc_other _ _ (by simp), alloc_same]
end Go.Proofs.YtkfonacokamfiaaGreat
/- Contracts of the document's powers and bits. -/
namespace Go.Proofs.YtkfonacokamfiaaGreat
set_option linter.unusedVariables false
set_option linter.unusedSimpArgs false
open Go.RowKit
attribute [local go_sem] wext_cell wext_frozen wext_heap alloc_cell alloc_frozen alloc_heap setCell_cell objCell_cells objFrozen_cells

/-- two to a power -/
def pow2 (n : Int) : Int := ((2 ^ n.toNat : Nat) : Int)
theorem pow2_pos (n : Int) : 1 ≤ pow2 n := by
  unfold pow2; have : 0 < 2 ^ n.toNat := Nat.pow_pos (by omega); omega
theorem pow2_le (n : Int) (h : n ≤ 63) : pow2 n ≤ 9223372036854775808 := by
  unfold pow2; have : 2 ^ n.toNat ≤ 2 ^ 63 := Nat.pow_le_pow_right (by omega) (by omega); omega
theorem pow2_zero : pow2 0 = 1 := rfl
theorem pow2_succ (j : Nat) (h : j < 63) : IntKind.u64.wrap (2 * pow2 j) = pow2 ((j : Int) + 1) := by
  have h1 := pow2_le ((j : Int) + 1) (by omega)
  have h2 : pow2 ((j : Int) + 1) = 2 * pow2 j := by
    unfold pow2
    rw [show ((j : Int) + 1).toNat = j + 1 by omega, show (j : Int).toNat = j by omega, Nat.pow_succ]
    omega
  have h3 := pow2_pos j
  rw [h2, IntKind.wrap_u64]
  omega

set_option maxHeartbeats 800000 in
theorem power_c (n : Int) (w : World) (h0 : 0 ≤ n) (h1 : n ≤ 63) :
    Calls Tryz.prog 84 #[.int .i64 n] w fun e w' => e = .returned (.int .u64 (pow2 n)) ∧ Ext w w' := by
  go_enter Tryz.func84, Tryz.ntmps84
  go_wp2
  go_loop [3, 4] (fun x i => ∃ j : Nat, (j : Int) ≤ n ∧ i = .int .i64 j ∧ x = .int .u64 (pow2 j)) (fun _ i => (n - intOf i).toNat)
  case atStart => exact ⟨0, by omega, rfl, rfl⟩
  case round =>
    obtain ⟨j, hj, rfl, rfl⟩ := hrel
    by_cases hlt : (j : Int) < n
    · go_wp2
      go_round
      case rel => exact ⟨j + 1, by omega, by go_num, by rw [pow2_succ _ (by omega)]; rfl⟩
      case measure => simp [intOf]; omega
    · have : n = j := by omega
      have HN := Lib.hid this
      clear this
      go_wp2
      go_ret
      exact ⟨by rw [HN.out]; rfl, Ext.refl _⟩

def bitB (x i : Int) : Bool := x / pow2 i % 2 == 1

set_option maxHeartbeats 800000 in
theorem bit_c (x i : Int) (w : World) (hx : 0 ≤ x) (hx1 : x ≤ 18446744073709551615) (h0 : 0 ≤ i) (h1 : i ≤ 63) :
    Calls Tryz.prog 59 #[.int .u64 x, .int .i64 i] w fun e w' => e = .returned (.bool (bitB x i)) ∧ Ext w w' := by
  have hp := pow2_pos i
  have hq0 : 0 ≤ x / pow2 i := Int.ediv_nonneg hx (by omega)
  have hq1 : x / pow2 i ≤ 18446744073709551615 := by have := Int.ediv_le_self (pow2 i) hx; omega
  go_enter Tryz.func59, Tryz.ntmps59
  go_wp2_with (go_at_call 84; refine (power_c _ _ h0 h1).mono ?_; rintro e w1 ⟨rfl, hb⟩; have ⟨hc, hf, hh, hs⟩ := hb.facts; try simp only [World.size_alloc, World.size_setCell, World.size_drew] at hs)
  go_ret
  exact ⟨rfl, hb⟩

end Go.Proofs.YtkfonacokamfiaaGreat
/- Bits of a word, by division. Own text. -/
namespace Go.Proofs.YtkfonacokamfiaaGreat
open Go.RowKit

theorem bits_bit (n i : Nat) (hn : n < 18446744073709551616) (hi : i < 64) : bits BinOp.and IntKind.u64 (n : Int) ((2 ^ i : Nat) : Int) = ((n / 2 ^ i % 2 * 2 ^ i : Nat) : Int) := by
  have hp : 2 ^ i < 18446744073709551616 := by
    have : (2 : Nat) ^ i ≤ 2 ^ 63 := Nat.pow_le_pow_right (by omega) (by omega)
    omega
  rw [u64_and_nat n (2 ^ i) hn hp, nat_bit]

theorem bit_ne (n i : Nat) (hn : n < 18446744073709551616) (hi : i < 64) : (bits BinOp.and IntKind.u64 (n : Int) ((2 ^ i : Nat) : Int) != 0) = bitB n i := by
  rw [bits_bit n i hn hi]
  unfold bitB pow2
  rw [Int.toNat_natCast]
  have h2 : 0 < 2 ^ i := Nat.pow_pos (by omega)
  have e : ((n : Int) / ((2 ^ i : Nat) : Int) % 2) = ((n / 2 ^ i % 2 : Nat) : Int) := by simp
  rw [e]
  have h3 : n / 2 ^ i % 2 = 0 ∨ n / 2 ^ i % 2 = 1 := by omega
  rcases h3 with h | h
  · rw [h]; simp
  · rw [h]
    have : ¬ (((1 * 2 ^ i : Nat) : Int) = 0) := by omega
    rw [Bool.eq_iff_iff]
    simp only [bne_iff_ne, ne_eq, this, not_false_eq_true, beq_iff_eq, true_iff]
    rfl

theorem u64_of_wf {x : Int} (h : (Lit.int .u64 x).wf = true) : 0 ≤ x ∧ x ≤ 18446744073709551615 := by
  exact bounds_u64 h
end Go.Proofs.YtkfonacokamfiaaGreat
/- Entries: fields, tables, slots, leaves, reserved bits, frames; rights. -/
namespace Go.Proofs.YtkfonacokamfiaaGreat
set_option linter.unusedVariables false
set_option linter.unusedSimpArgs false
open Go.RowKit
attribute [local go_sem] wext_cell wext_frozen wext_heap alloc_cell alloc_frozen alloc_heap setCell_cell objCell_cells objFrozen_cells

theorem maskE {a : Int} (i : Nat) (hi : i < 64) (h0 : 0 ≤ a) (h1 : a ≤ 18446744073709551615) : bits BinOp.and IntKind.u64 a ((2 ^ i - 1 : Nat) : Int) = a % ((2 ^ i : Nat) : Int) := by
  have hp : 2 ^ i - 1 < 18446744073709551616 := by
    have : (2 : Nat) ^ i ≤ 2 ^ 63 := Nat.pow_le_pow_right (by omega) (by omega)
    omega
  have e : a = (a.toNat : Int) := (Int.toNat_of_nonneg h0).symm
  rw [e, u64_and_nat _ _ (by omega) hp, Nat.and_two_pow_sub_one_eq_mod]
  rfl
theorem bitE {a : Int} (i : Nat) (hi : i < 64) (h0 : 0 ≤ a) (h1 : a ≤ 18446744073709551615) : (bits BinOp.and IntKind.u64 a ((2 ^ i : Nat) : Int) != 0) = bitB a i := by
  have e : a = (a.toNat : Int) := (Int.toNat_of_nonneg h0).symm
  rw [e]
  exact bit_ne _ i (by omega) hi

theorem two_pow (n : Int) : (2 : Int) ^ n.toNat = pow2 n := by unfold pow2; simp
theorem fieldNone_c (lo n : Int) (w : World) (h0 : 0 ≤ lo) (h1 : 1 ≤ n) (h2 : lo ≤ 63) (h3 : n ≤ 64 - lo) :
    Calls Tryz.prog 113 #[.int .i64 lo, .int .i64 n] w fun e w' => e = .returned (.bool false) ∧ Ext w w' := by
  go_enter Tryz.func113, Tryz.ntmps113
  go_wp2
  all_goals
    go_ret
    exact ⟨rfl, (by repeat (first | exact Ext.refl _ | assumption | refine Ext.alloc ?_ _ | refine Ext.drew ?_ | refine Ext.setCell ?_ (by first | (simp; done) | (dsimp only; omega)) _ | refine Ext.trans ?_ (by assumption)))⟩
theorem ones_c (n : Int) (w : World) (h0 : 1 ≤ n) (h1 : n ≤ 63) :
    Calls Tryz.prog 114 #[.int .i64 n] w fun e w' => e = .returned (.int .u64 (pow2 n - 1)) ∧ Ext w w' := by
  go_enter Tryz.func114, Tryz.ntmps114
  go_wp2
  all_goals
    go_ret
    refine ⟨?_, (by repeat (first | exact Ext.refl _ | assumption | refine Ext.alloc ?_ _ | refine Ext.drew ?_ | refine Ext.setCell ?_ (by first | (simp; done) | (dsimp only; omega)) _ | refine Ext.trans ?_ (by assumption)))⟩
    have hw : IntKind.u64.wrap (IntKind.u64.wrap ((2 : Int) ^ n.toNat) - 1) = pow2 n - 1 := by
      have := pow2_pos n
      have := pow2_le n h1
      rw [two_pow, IntKind.wrap_u64, IntKind.wrap_u64]; omega
    rw [← hw]; rfl
theorem fieldGet_c (x lo n : Int) (w : World) (hx : 0 ≤ x) (hx1 : x ≤ 18446744073709551615) (h0 : 0 ≤ lo) (h1 : 1 ≤ n) (h2 : lo ≤ 63) (h3 : n ≤ 64 - lo) (h4 : n ≤ 63) :
    Calls Tryz.prog 79 #[.int .u64 x, .int .i64 lo, .int .i64 n] w fun e w' => e = .returned (.int .u64 (x / pow2 lo % pow2 n)) ∧ Ext w w' := by
  have hm : bits BinOp.and IntKind.u64 (x / pow2 lo) (pow2 n - 1) = x / pow2 lo % pow2 n := by
    have hq0 : 0 ≤ x / pow2 lo := Int.ediv_nonneg hx (by have := pow2_pos lo; omega)
    have hq1 : x / pow2 lo ≤ 18446744073709551615 := by have := Int.ediv_le_self (pow2 lo) hx; omega
    have := maskE (a := x / pow2 lo) n.toNat (by omega) hq0 hq1
    have e : pow2 n - 1 = ((2 ^ n.toNat - 1 : Nat) : Int) := by
      unfold pow2; have : 0 < 2 ^ n.toNat := Nat.pow_pos (by omega); omega
    rw [e, this]; rfl
  have HM := Lib.hid hm
  clear hm
  go_enter Tryz.func79, Tryz.ntmps79
  go_wp2_with (first | (go_at_call 113; refine (fieldNone_c _ _ _ h0 h1 h2 h3).mono ?_; rintro e w1 ⟨rfl, hb⟩; have ⟨hc, hf, hh, hs⟩ := hb.facts; try simp only [World.size_alloc, World.size_setCell, World.size_drew] at hs) | (go_at_call 114; refine (ones_c _ _ h1 h4).mono ?_; rintro e w1 ⟨rfl, hb⟩; have ⟨hc, hf, hh, hs⟩ := hb.facts; try simp only [World.size_alloc, World.size_setCell, World.size_drew] at hs))
  go_ret
  refine ⟨?_, (by repeat (first | exact Ext.refl _ | assumption | refine Ext.alloc ?_ _ | refine Ext.drew ?_ | refine Ext.setCell ?_ (by first | (simp; done) | (dsimp only; omega)) _ | refine Ext.trans ?_ (by assumption)))⟩
  rw [← HM.out, ← two_pow lo]; rfl
end Go.Proofs.YtkfonacokamfiaaGreat
/- Entries: tables, slots, leaves, reserved bits, frames; rights. -/
namespace Go.Proofs.YtkfonacokamfiaaGreat
set_option linter.unusedVariables false
set_option linter.unusedSimpArgs false
open Go.RowKit
attribute [local go_sem] wext_cell wext_frozen wext_heap alloc_cell alloc_frozen alloc_heap setCell_cell objCell_cells objFrozen_cells

def tabI (x : Int) : Int := x % 4503599627370496 - x % 4096
theorem tabI_le {x : Int} (h : 0 ≤ x) : 0 ≤ tabI x ∧ tabI x ≤ 4503599627366400 ∧ tabI x % 4096 = 0 ∧ tabI x ≤ x := by unfold tabI; omega
theorem tab_and {x : Int} (h0 : 0 ≤ x) (h1 : x ≤ 18446744073709551615) : bits BinOp.and IntKind.u64 x 4503599627366400 = tabI x := by
  have e : x = (x.toNat : Int) := (Int.toNat_of_nonneg h0).symm
  have hn : ∀ n : Nat, n &&& 4503599627366400 = n % 4503599627370496 - n % 4096 := fun n => by
    have e1 : (4503599627366400 : Nat) = (2 ^ 40 - 1) <<< 12 := by decide
    have e2 : n % 4503599627370496 - n % 4096 = (n >>> 12 &&& (2 ^ 40 - 1)) <<< 12 := by
      rw [Nat.and_two_pow_sub_one_eq_mod, Nat.shiftLeft_eq, Nat.shiftRight_eq_div_pow]
      omega
    rw [e2, e1]
    apply Nat.eq_of_testBit_eq
    intro i
    simp only [Nat.testBit_and, Nat.testBit_shiftLeft, Nat.testBit_shiftRight]
    by_cases hi : 12 ≤ i
    · simp [hi, show 12 + (i - 12) = i by omega]
    · simp [hi]
  rw [e, show (4503599627366400 : Int) = ((4503599627366400 : Nat) : Int) from rfl, u64_and_nat _ _ (by omega) (by omega), hn]
  unfold tabI
  omega
def idxI (a l : Int) : Int := if l = 1 then a / 4096 % 512 else if l = 2 then a / 2097152 % 512 else if l = 3 then a / 1073741824 % 512 else a / 549755813888 % 512
theorem idxI_le (a l : Int) : 0 ≤ idxI a l ∧ idxI a l ≤ 511 := by unfold idxI; split; omega; split; omega; split <;> omega
def slotI (t a l : Int) : Int := tabI t + 8 * idxI a l
theorem slotI_le {t a l : Int} (h : 0 ≤ t) : 0 ≤ slotI t a l ∧ slotI t a l ≤ 4503599627370488 ∧ slotI t a l % 8 = 0 := by
  have := idxI_le a l; have := tabI_le h; unfold slotI; omega
def leafI (x l : Int) : Bool := l == 1 || ((l == 2 || l == 3) && bitB x 7)
def sizeE (l : Int) : Int := if l = 1 then 4096 else if l = 2 then 2097152 else if l = 3 then 1073741824 else 1
def resI (x l B : Int) (nxe : Bool) : Bool := x / pow2 B % pow2 (52 - B) != 0 || (bitB x 63 && !nxe) || (l == 4 && bitB x 7) || (l == 2 && bitB x 7 && x / 8192 % 256 != 0) || (l == 3 && bitB x 7 && x / 8192 % 131072 != 0)
def frameI (x l : Int) : Int := if leafI x l then tabI x - tabI x % sizeE l else tabI x

theorem mask_c (w : World) : Calls Tryz.prog 81 #[.int .i64 12, .int .i64 40] w fun e w' => e = .returned (.int .u64 4503599627366400) ∧ Ext w w' := by
  have h1 : ∀ w, Calls Tryz.prog 114 #[.int .i64 40] w fun e w' => e = .returned (.int .u64 1099511627775) ∧ Ext w w' := fun w => ones_c 40 w (by omega) (by omega)
  go_enter Tryz.func81, Tryz.ntmps81
  go_wp2_with (first | (go_at_call 113; refine (fieldNone_c _ _ _ (by omega) (by omega) (by omega) (by omega)).mono ?_; rintro e w1 ⟨rfl, hb⟩; have ⟨hc, hf, hh, hs⟩ := hb.facts; try simp only [World.size_alloc, World.size_setCell, World.size_drew] at hs) | (go_at_call 114; refine (h1 _).mono ?_; rintro e w1 ⟨rfl, hb⟩; have ⟨hc, hf, hh, hs⟩ := hb.facts; try simp only [World.size_alloc, World.size_setCell, World.size_drew] at hs))
  go_ret
  exact ⟨rfl, (by repeat (first | exact Ext.refl _ | assumption | refine Ext.alloc ?_ _ | refine Ext.drew ?_ | refine Ext.setCell ?_ (by first | (simp; done) | (dsimp only; omega)) _ | refine Ext.trans ?_ (by assumption)))⟩
theorem entTable_c (x : Int) (w : World) (h0 : 0 ≤ x) (h1 : x ≤ 18446744073709551615) : Calls Tryz.prog 51 #[.int .u64 x] w fun e w' => e = .returned (.int .u64 (tabI x)) ∧ Ext w w' := by
  have ht := tab_and h0 h1
  go_enter Tryz.func51, Tryz.ntmps51
  go_wp2_with (first | (go_at_call 81; refine (mask_c _).mono ?_; rintro e w1 ⟨rfl, hb⟩; have ⟨hc, hf, hh, hs⟩ := hb.facts; try simp only [World.size_alloc, World.size_setCell, World.size_drew] at hs))
  go_ret
  exact ⟨by rw [← ht]; rfl, (by repeat (first | exact Ext.refl _ | assumption | refine Ext.alloc ?_ _ | refine Ext.drew ?_ | refine Ext.setCell ?_ (by first | (simp; done) | (dsimp only; omega)) _ | refine Ext.trans ?_ (by assumption)))⟩
theorem vaShiftE_c (l : Int) (w : World) (h0 : 1 ≤ l) (h1 : l ≤ 4) :
    Calls Tryz.prog 112 #[.int .i64 l] w fun e w' => e = .returned (.tuple #[.int .i64 (9 * l + 3), .bool true]) ∧ Ext w w' := by
  have : l = 1 ∨ l = 2 ∨ l = 3 ∨ l = 4 := by omega
  rcases this with rfl | rfl | rfl | rfl
  all_goals
    go_enter Tryz.func112, Tryz.ntmps112
    go_wp2
    go_ret2
    exact ⟨rfl, (by repeat (first | exact Ext.refl _ | assumption | refine Ext.alloc ?_ _ | refine Ext.drew ?_ | refine Ext.setCell ?_ (by first | (simp; done) | (dsimp only; omega)) _ | refine Ext.trans ?_ (by assumption)))⟩
theorem vaIndexE_c (a l : Int) (w : World) (hl0 : 1 ≤ l) (hl1 : l ≤ 4) (h0 : 0 ≤ a) (h1 : a ≤ 18446744073709551615) : Calls Tryz.prog 78 #[.int .u64 a, .int .i64 l] w fun e w' => e = .returned (.int .i64 (idxI a l)) ∧ Ext w w' := by
  have hs : ∀ w, Calls Tryz.prog 112 #[.int .i64 l] w fun e w' => e = .returned (.tuple #[.int .i64 (9 * l + 3), .bool true]) ∧ Ext w w' := fun w => vaShiftE_c l w hl0 hl1
  have hg : ∀ w, Calls Tryz.prog 79 #[.int .u64 a, .int .i64 (9 * l + 3), .int .i64 9] w fun e w' => e = .returned (.int .u64 (idxI a l)) ∧ Ext w w' := fun w => by
    have := fieldGet_c a (9 * l + 3) 9 w h0 h1 (by omega) (by omega) (by omega) (by omega) (by omega)
    have hl : l = 1 ∨ l = 2 ∨ l = 3 ∨ l = 4 := by omega
    rcases hl with rfl | rfl | rfl | rfl <;> exact this
  have hi := idxI_le a l
  generalize idxI a l = i at hg hi
  obtain ⟨hi0, hi1⟩ := hi
  go_enter Tryz.func78, Tryz.ntmps78
  go_wp2_with (first | (go_at_call 112; refine (hs _).mono ?_; rintro e w1 ⟨rfl, hb⟩; have ⟨hc, hf, hh, hs⟩ := hb.facts; try simp only [World.size_alloc, World.size_setCell, World.size_drew] at hs) | (go_at_call 79; refine (hg _).mono ?_; rintro e w1 ⟨rfl, hb⟩; have ⟨hc, hf, hh, hs⟩ := hb.facts; try simp only [World.size_alloc, World.size_setCell, World.size_drew] at hs))
  go_ret
  exact ⟨rfl, (by repeat (first | exact Ext.refl _ | assumption | refine Ext.alloc ?_ _ | refine Ext.drew ?_ | refine Ext.setCell ?_ (by first | (simp; done) | (dsimp only; omega)) _ | refine Ext.trans ?_ (by assumption)))⟩
theorem entSlot_c (t a l : Int) (w : World) (ht0 : 0 ≤ t) (ht1 : t ≤ 18446744073709551615) (hl0 : 1 ≤ l) (hl1 : l ≤ 4) (h0 : 0 ≤ a) (h1 : a ≤ 18446744073709551615) :
    Calls Tryz.prog 44 #[.int .u64 t, .int .u64 a, .int .i64 l] w fun e w' => e = .returned (.int .u64 (slotI t a l)) ∧ Ext w w' := by
  have hi := fun w => vaIndexE_c a l w hl0 hl1 h0 h1
  have hil := idxI_le a l
  unfold slotI
  generalize idxI a l = i at hi hil
  have ht := fun w => entTable_c t w ht0 ht1
  have htl := tabI_le ht0
  generalize tabI t = b at ht htl
  obtain ⟨hi0, hi1⟩ := hil
  obtain ⟨hb0, hb1, -, -⟩ := htl
  go_enter Tryz.func44, Tryz.ntmps44
  go_wp2_with (first | (go_at_call 51; refine (ht _).mono ?_; rintro e w1 ⟨rfl, hb⟩; have ⟨hc, hf, hh, hs⟩ := hb.facts; try simp only [World.size_alloc, World.size_setCell, World.size_drew] at hs) | (go_at_call 78; refine (hi _).mono ?_; rintro e w1 ⟨rfl, hb⟩; have ⟨hc, hf, hh, hs⟩ := hb.facts; try simp only [World.size_alloc, World.size_setCell, World.size_drew] at hs))
  go_ret
  exact ⟨rfl, (by repeat (first | exact Ext.refl _ | assumption | refine Ext.alloc ?_ _ | refine Ext.drew ?_ | refine Ext.setCell ?_ (by first | (simp; done) | (dsimp only; omega)) _ | refine Ext.trans ?_ (by assumption)))⟩
theorem entLeaf_c (x l : Int) (w : World) (h0 : 0 ≤ x) (h1 : x ≤ 18446744073709551615) :
    Calls Tryz.prog 49 #[.int .u64 x, .int .i64 l] w fun e w' => e = .returned (.bool (leafI x l)) ∧ Ext w w' := by
  have hb : (bits BinOp.and IntKind.u64 x 128 != 0) = bitB x 7 := bitE 7 (by omega) h0 h1
  have : l = 1 ∨ l = 2 ∨ l = 3 ∨ ((l == 1) = false ∧ (l == 2) = false ∧ (l == 3) = false) := by simp only [beq_eq_false_iff_ne]; omega
  unfold leafI
  rcases this with rfl | rfl | rfl | ⟨e1, e2, e3⟩
  case inr.inr.inr =>
    rw [e1, e2, e3]
    go_enter Tryz.func49, Tryz.ntmps49
    go_wp2
    go_ret
    exact ⟨rfl, (by repeat (first | exact Ext.refl _ | assumption | refine Ext.alloc ?_ _ | refine Ext.drew ?_ | refine Ext.setCell ?_ (by first | (simp; done) | (dsimp only; omega)) _ | refine Ext.trans ?_ (by assumption)))⟩
  all_goals
    go_enter Tryz.func49, Tryz.ntmps49
    go_wp2
    go_ret
    exact ⟨by simp [hb], (by repeat (first | exact Ext.refl _ | assumption | refine Ext.alloc ?_ _ | refine Ext.drew ?_ | refine Ext.setCell ?_ (by first | (simp; done) | (dsimp only; omega)) _ | refine Ext.trans ?_ (by assumption)))⟩
end Go.Proofs.YtkfonacokamfiaaGreat
