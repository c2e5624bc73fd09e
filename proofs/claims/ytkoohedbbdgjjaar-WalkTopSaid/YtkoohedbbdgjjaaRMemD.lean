/- Memories: Store, Load, New. -/
import Derived.Test.YtkoohedbbdgjjaaRMemC
namespace Go.Proofs.YtkoohedbbdgjjaaR
set_option linter.unusedVariables false
set_option linter.unusedSimpArgs false
open Go.RowKit
attribute [local go_sem] wext_cell wext_frozen wext_heap alloc_cell alloc_frozen alloc_heap setCell_cell objCell_cells objFrozen_cells

theorem errM_zero {B a : Int} (h : errM B a = 0) : a < limB B ∧ a % 8 = 0 := by
  unfold errM at h
  by_cases hq : a < limB B
  · rw [if_pos hq] at h
    by_cases h8 : a % 8 = 0
    · exact ⟨hq, h8⟩
    · rw [if_neg h8] at h; omega
  · rw [if_neg hq] at h; omega
theorem errM_le {B a : Int} (h : errM B a = 0) : a ≤ 4194303 := by
  have := errM_zero h; have := limB_le B; omega
theorem EndMem.refl {w w' : World} {mb : Nat} {F : List Nat} {B : Int} {M : Int → Int} {T : List Int} (h : MemAt w mb F B M T) (k : Ext w w') : EndMem mb F w B M T w' :=
  ⟨F, h.ext k, Keeps.of_ext k, fun y hy => .inl hy⟩
theorem EndMem.before {w w1 w' : World} {mb : Nat} {F : List Nat} {B : Int} {M : Int → Int} {T : List Int} (k : Ext w w1) (h : EndMem mb F w1 B M T w') : EndMem mb F w B M T w' := by
  obtain ⟨F', h1, h2, h3⟩ := h
  refine ⟨F', h1, (Keeps.of_ext k).trans h2 fun x hx => .inl hx, fun y hy => ?_⟩
  rcases h3 y hy with q | q
  · exact .inl q
  · exact .inr (Nat.le_trans k.size q)
theorem EndMem.after {w w1 w' : World} {mb : Nat} {F : List Nat} {B : Int} {M : Int → Int} {T : List Int} (h : EndMem mb F w B M T w1) (k : Ext w1 w') : EndMem mb F w B M T w' := by
  obtain ⟨F', h1, h2, h3⟩ := h
  exact ⟨F', h1.ext k, h2.ext k, h3⟩
theorem EndMem.then {w w1 w' : World} {mb : Nat} {F : List Nat} {B : Int} {M M' : Int → Int} {T T' : List Int} (h : EndMem mb F w B M T w1) (k : ∀ F', MemAt w1 mb F' B M T → EndMem mb F' w1 B M' T' w') : EndMem mb F w B M' T' w' := by
  obtain ⟨F', h1, h2, h3⟩ := h
  obtain ⟨F2, k1, k2, k3⟩ := k F' h1
  refine ⟨F2, k1, h2.trans k2 h3, fun y hy => ?_⟩
  rcases k3 y hy with q | q
  · exact h3 y q
  · exact .inr (Nat.le_trans h2.size q)

def setIf (B : Int) (M : Int → Int) (a x : Int) : Int → Int := if errM B a = 0 then setM M (a / 8) x else M
theorem store_c (mb : Nat) (F : List Nat) (B : Int) (M : Int → Int) (T : List Int) (a x : Int) (w : World) (h : MemAt w mb F B M T) (h0 : 0 ≤ a) (h1 : a ≤ 18446744073709551615) (hx0 : 0 ≤ x) (hx1 : x ≤ 18446744073709551615) :
    Calls Try.prog 38 #[.pointer (some ⟨mb, 0, none⟩), .int .u64 a, .int .u64 x] w fun e w' => e = .returned (.int .i64 (errM B a)) ∧ EndMem mb F w B (setIf B M a x) T w' := by
  have hal := fun w' (hx : Ext w w') => aligned_c mb F B M T a w' (h.ext hx) h0 h1
  unfold setIf
  by_cases he : errM B a = 0
  · have hs := fun w' (hx : Ext w w') => mset_c mb F B M T a x w' (h.ext hx) h0 (errM_le he) (errM_zero he).2 hx0 hx1
    rw [if_pos he, he]
    rw [he] at hal
    clear h he
    go_enter Try.func38, Try.ntmps38
    go_wp2_with (first | (go_at_call 89; refine (hal _ (by repeat (first | exact Ext.refl _ | assumption | refine Ext.alloc ?_ _ | refine Ext.drew ?_ | refine Ext.setCell ?_ (by first | (simp; done) | (dsimp only; omega)) _ | refine Ext.trans ?_ (by assumption)))).mono ?_; rintro e w1 ⟨rfl, hb1⟩) | (go_at_call 91; refine (hs _ (by repeat (first | exact Ext.refl _ | assumption | refine Ext.alloc ?_ _ | refine Ext.drew ?_ | refine Ext.setCell ?_ (by first | (simp; done) | (dsimp only; omega)) _ | refine Ext.trans ?_ (by assumption)))).mono ?_; rintro e w2 ⟨rfl, hb2⟩))
    all_goals
      go_ret
      exact ⟨rfl, hb2.before (by repeat (first | exact Ext.refl _ | assumption | refine Ext.alloc ?_ _ | refine Ext.drew ?_ | refine Ext.setCell ?_ (by first | (simp; done) | (dsimp only; omega)) _ | refine Ext.trans ?_ (by assumption)))⟩
  · rw [if_neg he]
    have hr := fun w' => EndMem.refl (w' := w') h
    generalize hEr : errM B a = er at hal he
    have heb : (er != 0) = true := by simpa using he
    clear h hEr
    go_enter Try.func38, Try.ntmps38
    go_wp2_with (first | (go_at_call 89; refine (hal _ (by repeat (first | exact Ext.refl _ | assumption | refine Ext.alloc ?_ _ | refine Ext.drew ?_ | refine Ext.setCell ?_ (by first | (simp; done) | (dsimp only; omega)) _ | refine Ext.trans ?_ (by assumption)))).mono ?_; rintro e w1 ⟨rfl, hb1⟩))
    all_goals
      go_ret
      exact ⟨rfl, hr _ (by repeat (first | exact Ext.refl _ | assumption | refine Ext.alloc ?_ _ | refine Ext.drew ?_ | refine Ext.setCell ?_ (by first | (simp; done) | (dsimp only; omega)) _ | refine Ext.trans ?_ (by assumption)))⟩

theorem wordRow : RowT Try.prog 43 27 1 8 := RowT.of (z := .int .u64 0) Try.underlying43 (by kernel_rfl) rfl

set_option maxHeartbeats 2000000 in
set_option maxRecDepth 20000 in
theorem load_c (mb : Nat) (F : List Nat) (B : Int) (M : Int → Int) (T : List Int) (a : Int) (w : World) (h : MemAt w mb F B M T) (h0 : 0 ≤ a) (h1 : a ≤ 18446744073709551615) (hT : T.length ≤ 1000000) :
    Calls Try.prog 70 #[.pointer (some ⟨mb, 0, none⟩), .int .u64 a] w fun e w' => e = .returned (.tuple #[.int .u64 (if errM B a = 0 then M (a / 8) else 0), .int .i64 (errM B a)]) ∧ EndMem mb F w B M (if errM B a = 0 then T ++ [a] else T) w' := by
  have hp := fun w' (hx : Ext w w') => peek_c mb F B M T a w' (h.ext hx) h0 h1
  by_cases he : errM B a = 0
  · rw [if_pos he, if_pos he, he]
    simp only [if_pos he, he] at hp
    generalize hx : M (a / 8) = x at hp
    clear he
    have HM := Lib.hid h
    obtain ⟨pb, tv, es, clock, PL, p1, p2, p3, p4, p5, p6, p7, p8, p9, hF, hB⟩ := h
    obtain ⟨at1, tc, rfl, -, -⟩ := p9.form
    have hlt := heap_lt p1
    have hlp := heap_lt p2
    have hpm : pb ≠ mb := fun e => by rw [e, p1] at p2; cases p2
    have HTN : Hid (∀ b, (Value.slice at1 T.length tc).ownBlock = some b → b ≠ mb ∧ b ≠ pb ∧ ∀ y ∈ PL, b ≠ y.2) := Lib.hid fun b hb => by
      obtain ⟨cc, hcc⟩ := p9.heap b hb
      refine ⟨fun e => ?_, fun e => ?_, fun y hy e => ?_⟩
      · rw [e, p1] at hcc; cases hcc
      · rw [e, p2] at hcc; cases hcc
      · obtain ⟨c, hc, _⟩ := p6 y hy; rw [e, hc] at hcc; cases hcc
    have HPN : Hid (∀ y ∈ PL, y.2 ≠ mb ∧ y.2 ≠ pb ∧ y.2 < w.heap.size) := Lib.hid fun y hy => by
      obtain ⟨c, hc, _⟩ := p6 y hy
      refine ⟨fun e => ?_, fun e => ?_, heap_lt hc⟩
      · rw [e, p1] at hc; cases hc
      · rw [e, p2] at hc; cases hc
    have hl2 : (T.map (Value.int .u64 ·)).length = T.length := by simp
    have c2 := (heap_cell p1 2).trans rfl
    have hfr : w.frozen? ⟨mb, 2, none⟩ = false := by rw [frozen_heap, p1]; rfl
    have P1 := Lib.hid p1
    have P2 := Lib.hid p2
    have P9 := Lib.hid p9
    have HF := Lib.hid hF
    have P6 := Lib.hid p6
    have P8 := Lib.hid p8
    have P7 := Lib.hid p7
    clear p1 p2 p9 hF p6 hx p8 p7
    go_enter Try.func70, Try.ntmps70
    go_upto_region 3 with (first | (go_at_call 37; refine (hp _ (by repeat (first | exact Ext.refl _ | assumption | refine Ext.alloc ?_ _ | refine Ext.drew ?_ | refine Ext.setCell ?_ (by first | (simp; done) | (dsimp only; omega)) _ | refine Ext.trans ?_ (by assumption)))).mono ?_; rintro e w1 ⟨rfl, hb1⟩))
    have c21 := hb1.someCell c2
    have hlt1 : mb < w1.heap.size := Nat.lt_of_lt_of_le hlt hb1.size
    have EA : Ext w (w1.alloc (.cells #[.int .u64 a] 27 (0, 0))) := hb1.alloc _
    have HO := Lib.hid (P9.out.ext EA)
    have HNW : Hid (∀ j u, [Value.int .u64 a][j]? = some u → (w1.alloc (.cells #[.int .u64 a] 27 (0, 0))).cell? ((⟨w1.heap.size, 0, none⟩ : Addr).add j) = some u) := Lib.hid fun j u hu => by
      rw [add0, cell_heap, alloc_same]; simpa [objCell] using hu
    have HZ : Hid (∀ w9 : World, World.grownBy (w1.alloc (.cells #[.int .u64 a] 27 (0, 0))) w9 (Value.slice at1 T.length tc).ownBlock → w9.heap[mb]? = some (.cells #[.int .i64 B, .map (some pb), .slice at1 T.length tc] 153 (0, 0))) := Lib.hid fun w9 q2 =>
      (q2.block mb (by rw [World.size_alloc]; omega) (fun e => (HTN.out mb e.symm).1 rfl)).trans ((EA.block mb hlt).trans P1.out)
    have HEA := Lib.hid EA
    clear EA c2 hfr
    go_wp2_with (first | (at_builtin; refine wpList_append_owns rfl _ _ _ _ 1 8 wordRow rfl _ rfl T.length (T.map (Value.int .u64 ·)) HO.out _ 1 1 rfl [.int .u64 a] rfl HNW.out (by simp [Value.oneCell']) (by unfold maxLen; omega) (by omega) ?_; intro v9 w9 q1 q2 q3; replace q2 : World.grownBy (w1.alloc (.cells #[.int .u64 a] 27 (0, 0))) w9 (Value.slice at1 T.length tc).ownBlock := q2; replace q3 : v9.ownBlock = (Value.slice at1 T.length tc).ownBlock ∨ v9.ownBlock = some (w1.alloc (.cells #[.int .u64 a] 27 (0, 0))).heap.size := q3; obtain ⟨a9, c9, rfl, -, -⟩ := q1.form; have z1 := HZ.out w9 q2; have x2 := (heap_cell z1 2).trans rfl; have x3 := frozen_of z1; have Z1 := Lib.hid z1; clear z1; simp only [Act.put, Array.set!_eq_setIfInBounds, List.setIfInBounds_toArray, List.set_cons_succ, List.set_cons_zero]))
    go_ret2
    have hsz : w.heap.size ≤ w1.heap.size := hb1.size
    have hown : ∀ g, (Value.slice a9 (T.length + 1) c9).ownBlock = some g → g ≠ mb ∧ g ≠ pb ∧ (∀ y ∈ PL, g ≠ y.2) ∧ (g ∈ F ∨ w.heap.size ≤ g) := fun g hg => by
      rcases q3 with q | q
      · obtain ⟨k1, k2, k3⟩ := HTN.out g (q.symm.trans hg)
        refine ⟨k1, k2, k3, .inl ?_⟩
        rw [HF.out, ← q, hg]; simp
      · have hge : g = w1.heap.size + 1 := by
          have h9 := q.symm.trans hg
          rw [World.size_alloc] at h9
          injection h9 with h9
          exact h9.symm
        refine ⟨by omega, by omega, fun y hy => ?_, .inr (by omega)⟩
        have := (HPN.out y hy).2.2
        omega
    have hblk : ∀ b, b < w.heap.size → b ≠ mb → (∀ g, (Value.slice at1 T.length tc).ownBlock = some g → b ≠ g) → (w9.setCell ⟨mb, 2, none⟩ (.slice a9 (T.length + 1) c9)).heap[b]? = w.heap[b]? := fun b hb hn hg =>
      (setCell_heap _ _ _ _ _ (Ne.symm hn)).trans ((q2.block b (by rw [World.size_alloc]; omega) (fun e => hg b e.symm rfl)).trans (HEA.out.block b hb))
    refine ⟨rfl, mb :: pb :: ((Value.slice a9 (T.length + 1) c9).ownBlock.toList ++ PL.map (·.2)), ⟨pb, .slice a9 (T.length + 1) c9, es, clock, PL, setCell_heap_same Z1.out, ?_, p3, p4, p5, fun y hy => ?_, P7.out, P8.out, ?_, rfl, hB⟩, ?_, fun y hy => ?_⟩
    · exact (hblk pb hlp hpm (fun g hg => (HTN.out g hg).2.1.symm)).trans P2.out
    · obtain ⟨c, r1, r2, r3⟩ := P6.out y hy
      obtain ⟨n1, n2, n3⟩ := HPN.out y hy
      exact ⟨c, (hblk y.2 n3 n1 (fun g hg => ((HTN.out g hg).2.2 y hy).symm)).trans r1, r2, r3⟩
    · have : Owns w9 27 1 (.slice a9 (T.length + 1) c9) (T ++ [a]).length ((T ++ [a]).map (Value.int .u64 ·)) := by
        rw [List.map_append, List.length_append]; exact q1
      exact this.keep fun g hg => setCell_heap _ _ _ _ _ (hown g hg).1.symm
    · refine ((Keeps.of_ext HEA.out).grown q2 (fun g hg => .inl ?_)).setCell (.inl ?_) _
      · rw [HF.out, hg]; simp
      · rw [HF.out]; simp
    · simp only [List.mem_cons, List.mem_append, Option.mem_toList] at hy
      rcases hy with rfl | rfl | hy | hy
      · exact .inl (by rw [HF.out]; simp)
      · exact .inl (by rw [HF.out]; simp)
      · exact (hown y hy).2.2.2
      · exact .inl (by rw [HF.out]; simp only [List.mem_cons, List.mem_append]; exact .inr (.inr (.inr hy)))
  · rw [if_neg he, if_neg he]
    simp only [if_neg he] at hp
    have hr := fun w' => EndMem.refl (w' := w') h
    generalize hEr : errM B a = er at hp he
    have heb : (er == 0) = false := by simpa using he
    clear h hEr he
    go_enter Try.func70, Try.ntmps70
    go_wp2_with (first | (go_at_call 37; refine (hp _ (by repeat (first | exact Ext.refl _ | assumption | refine Ext.alloc ?_ _ | refine Ext.drew ?_ | refine Ext.setCell ?_ (by first | (simp; done) | (dsimp only; omega)) _ | refine Ext.trans ?_ (by assumption)))).mono ?_; rintro e w1 ⟨rfl, hb1⟩; have ⟨hc, hf, hh, hs⟩ := hb1.facts))
    all_goals
      go_ret2
      exact ⟨rfl, hr _ (by repeat (first | exact Ext.refl _ | assumption | refine Ext.alloc ?_ _ | refine Ext.drew ?_ | refine Ext.setCell ?_ (by first | (simp; done) | (dsimp only; omega)) _ | refine Ext.trans ?_ (by assumption)))⟩

theorem EntP.nil : EntP #[] 0 [] := ⟨⟨fun e h => by simp at h, by simp⟩, rfl⟩
def NewMem (B : Int) (w : World) (e : Ending) (w' : World) : Prop :=
  ∃ mb F, e = .returned (.pointer (some ⟨mb, 0, none⟩)) ∧ MemAt w' mb F B (fun _ => 0) [] ∧ Ext w w' ∧ ∀ x ∈ F, w.heap.size ≤ x
theorem memNew_c (B : Int) (w : World) (hB : 14 ≤ B ∧ B ≤ 22) :
    Calls Try.prog 67 #[.int .i64 B] w (NewMem B w) := by
  have hmk : ∀ w, (Instr.makeMap 151 none).run Try.prog w = .ok (.map (some w.heap.size)) (w.alloc (.map #[] 0)) := fun _ => rfl
  obtain ⟨hB0, hB1⟩ := hB
  go_enter Try.func67, Try.ntmps67
  go_wp2
  all_goals
    go_ret
    refine ⟨w.heap.size + 1, [w.heap.size + 1, w.heap.size], rfl, ⟨w.heap.size, .slice none 0 0, #[], 0, [], ?_, ?_, EntP.nil, List.nodup_nil, List.nodup_nil, (fun x hx => by cases hx), fun _ _ => rfl, fun _ => ⟨Int.le_refl 0, by show (0 : Int) ≤ _; omega⟩, Owns.nil .., rfl, hB0, hB1⟩, (by repeat (first | exact Ext.refl _ | assumption | refine Ext.alloc ?_ _ | refine Ext.drew ?_ | refine Ext.setCell ?_ (by first | (simp; done) | (dsimp only; omega)) _ | refine Ext.trans ?_ (by assumption))), by simp⟩
    · rw [alloc_same1]
    · rw [alloc_other _ _ (by simp), alloc_same]
end Go.Proofs.YtkoohedbbdgjjaaR
