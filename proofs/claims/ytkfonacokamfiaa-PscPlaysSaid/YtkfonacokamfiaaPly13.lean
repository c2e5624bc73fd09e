/- Joined texts, part 13 of what the law stands on: each as its own head says. -/
import Derived.Test.YtkfonacokamfiaaPly12
import Derived.Test.YtkfonacokamfiaaPly1
import Derived.OpenShut
import Derived.Laws.BitsAllLaws
/- Memories: set, Store. -/
namespace Go.Proofs.Ytkfonacokamfiaa
set_option linter.unusedVariables false
set_option linter.unusedSimpArgs false
open Go.RowKit
attribute [local go_sem] wext_cell wext_frozen wext_heap alloc_cell alloc_frozen alloc_heap setCell_cell objCell_cells objFrozen_cells

def setM (M : Int → Int) (s x : Int) : Int → Int := fun t => if t = s then x else M t
def EndMem (mb : Nat) (F : List Nat) (w : World) (B : Int) (M' : Int → Int) (T' : List Int) (w' : World) : Prop :=
  ∃ F', MemAt w' mb F' B M' T' ∧ Keeps F w w' ∧ ∀ y ∈ F', y ∈ F ∨ w.heap.size ≤ y

theorem findI_append {n : Int} {x : Int × Nat} : ∀ (L : List (Int × Nat)) (i : Nat), findI n (L ++ [x]) i = match findI n L i with | some y => some y | none => if n = x.1 then some (i + L.length, x.2) else none
  | [], i => by simp [findI]
  | y :: L, i => by
    show findI n (y :: (L ++ [x])) i = _
    unfold findI
    by_cases h : n = y.1
    · rw [if_pos h, if_pos h]
    · rw [if_neg h, if_neg h, findI_append L (i + 1)]
      cases findI n L (i + 1) with
      | some z => rfl
      | none => simp only [List.length_cons]; rw [show i + 1 + L.length = i + (L.length + 1) by omega]
theorem findP_append_none {n : Int} {x : Int × Nat} {L : List (Int × Nat)} (h : findP n (L ++ [x]) = none) : findP n L = none ∧ n ≠ x.1 := by
  unfold findP at *
  rw [findI_append] at h
  cases hl : findI n L 0 with
  | some y => rw [hl] at h; cases h
  | none =>
    rw [hl] at h
    refine ⟨rfl, fun e => ?_⟩
    simp [e] at h
theorem findI_none {n : Int} : ∀ {L : List (Int × Nat)} {i : Nat}, findI n L i = none → n ∉ L.map (·.1)
  | [], _, _ => by simp
  | x :: L, i, h => by
    unfold findI at h
    split at h
    · cases h
    · rename_i hn
      simp only [List.map_cons, List.mem_cons, not_or]
      exact ⟨hn, findI_none h⟩
theorem findP_not {n : Int} {L : List (Int × Nat)} (h : findP n L = none) : n ∉ L.map (·.1) := by
  unfold findP at h
  cases hl : findI n L 0 with
  | some y => rw [hl] at h; cases h
  | none => exact findI_none hl
theorem PageAt.keep {w w' : World} {g : Nat} {n s x : Int} {M : Int → Int} (h : PageAt w g n M) (hk : w'.heap[g]? = w.heap[g]?) (hs : s / 512 ≠ n) : PageAt w' g n (setM M s x) := by
  obtain ⟨c, q1, q2, q3⟩ := h
  refine ⟨c, hk.trans q1, q2, fun i hi => ?_⟩
  rw [q3 i hi]
  unfold setM
  rw [if_neg (fun e => hs (by omega))]
/-- A word that is written in a page. -/
theorem PageAt.write {w w' : World} {g i : Nat} {n x : Int} {M : Int → Int} (h : PageAt w g n M) (hi : i < 512) (c : Array Value) (hc : w.heap[g]? = some (.cells c 144 (0, 0))) (hw : w'.heap[g]? = some (.cells (c.setIfInBounds i (.int .u64 x)) 144 (0, 0))) :
    PageAt w' g n (setM M (n * 512 + i) x) := by
  obtain ⟨c', q1, q2, q3⟩ := h
  rw [hc] at q1
  simp only [Option.some.injEq, Obj.cells.injEq] at q1
  obtain ⟨rfl, -, -⟩ := q1
  refine ⟨_, hw, by simpa using q2, fun j hj => ?_⟩
  unfold setM
  rw [Array.getElem?_setIfInBounds]
  by_cases hij : i = j
  · subst hij; simp [q2, hi]
  · rw [if_neg hij, q3 j hj, if_neg (by omega)]
theorem setM_range {M : Int → Int} {s x : Int} (h : ∀ t, 0 ≤ M t ∧ M t ≤ 18446744073709551615) (h0 : 0 ≤ x) (h1 : x ≤ 18446744073709551615) : ∀ t, 0 ≤ setM M s x t ∧ setM M s x t ≤ 18446744073709551615 := fun t => by
  unfold setM; split
  · exact ⟨h0, h1⟩
  · exact h t
theorem zeros : (Try.zeroCells144).size = 512 ∧ ∀ i : Nat, i < 512 → (Try.zeroCells144)[i]? = some (.int .u64 0) := by
  have e : Try.zeroCells144 = Array.replicate 512 (.int .u64 0) := by kernel_rfl
  rw [e]
  exact ⟨by simp, fun i hi => by simp [Array.getElem?_replicate, hi]⟩

set_option maxHeartbeats 2000000 in
set_option maxRecDepth 20000 in
theorem mset_c (mb : Nat) (F : List Nat) (B : Int) (M : Int → Int) (T : List Int) (a x : Int) (w : World) (h : MemAt w mb F B M T) (h0 : 0 ≤ a) (h1 : a ≤ 4194303) (h8 : a % 8 = 0) (hx0 : 0 ≤ x) (hx1 : x ≤ 18446744073709551615) :
    Calls Try.prog 63 #[.pointer (some ⟨mb, 0, none⟩), .int .u64 a, .int .u64 x] w fun e w' => e = .returned (.tuple #[]) ∧ EndMem mb F w B (setM M (a / 8) x) T w' := by
  have HM := Lib.hid h
  obtain ⟨pb, tv, es, clock, PL, p1, p2, p3, p4, p5, p6, p7, p8, p9, hF, hB⟩ := h
  have c1 := (heap_cell p1 1).trans rfl
  have hlt := heap_lt p1
  have hlp := heap_lt p2
  have hlk := lookupP_run (a / 4096) w pb es clock PL p2 p3
  have hidx : (a % 4096 / 8).toNat < 512 := by omega
  have hslot : a / 4096 * 512 + ((a % 4096 / 8).toNat : Nat) = a / 8 := by omega
  cases hf : findP (a / 4096) PL with
  | some g =>
    have hmem := findP_mem hf
    obtain ⟨c, q1, q2, q3⟩ := p6 _ hmem
    rw [hf] at hlk
    dsimp only at hlk q3
    have hcell : w.cell? ⟨g, (a % 4096 / 8).toNat, none⟩ = some (.int .u64 (M (a / 8))) := by
      rw [heap_cell q1, q3 _ hidx, hslot]
    have hgl := heap_lt q1
    have hfr := frozen_of q1
    have HQ1 := Lib.hid q1
    have HEND : Hid (EndMem mb F w B (setM M (a / 8) x) T (w.setCell ⟨g, (a % 4096 / 8).toNat, none⟩ (.int .u64 x))) := Lib.hid (by
      have hne : ∀ b, (∃ o, w.heap[b]? = some o ∧ ∀ c, o ≠ .cells c 144 (0, 0)) → g ≠ b := fun b hb e => by
        obtain ⟨o, ho, hn⟩ := hb
        rw [← e, q1] at ho
        exact hn c (by injection ho with ho; exact ho.symm)
      have k1 : g ≠ mb := hne mb ⟨_, p1, fun c => by simp⟩
      have k2 : g ≠ pb := hne pb ⟨_, p2, fun c => by simp⟩
      refine ⟨F, ⟨pb, tv, es, clock, PL, (setCell_heap _ _ _ _ _ k1).trans p1, (setCell_heap _ _ _ _ _ k2).trans p2, p3, p4, p5, fun y hy => ?_, fun s hn => ?_, setM_range p8 hx0 hx1, p9.keep fun b hb => setCell_heap _ _ _ _ _ ?_, hF, hB⟩, (Keeps.refl _ _).setCell (.inl (by rw [hF]; simp only [List.mem_cons, List.mem_append, List.mem_map]; exact .inr (.inr (.inr ⟨_, hmem, rfl⟩)))) _, fun y hy => .inl hy⟩
      · by_cases hyn : y.1 = a / 4096
        · have : y.2 = g := by
            have e1 : y = (a / 4096, y.2) := by rw [← hyn]
            rw [e1] at hy
            obtain ⟨i, hi, hi2⟩ := List.mem_iff_getElem.1 hy
            obtain ⟨j, hj, hj2⟩ := List.mem_iff_getElem.1 hmem
            have hij : i = j := by
              have := List.pairwise_iff_getElem.1 p4
              rcases Nat.lt_trichotomy i j with hlt | heq | hgt
              · exact absurd (by rw [List.getElem_map, List.getElem_map, hi2, hj2]) (this i j (by simpa using hi) (by simpa using hj) hlt)
              · exact heq
              · exact absurd (by rw [List.getElem_map, List.getElem_map, hi2, hj2]) (this j i (by simpa using hj) (by simpa using hi) hgt)
            subst hij
            rw [hi2] at hj2
            exact (Prod.mk.inj hj2).2
          rw [this, hyn, ← hslot]
          have hp := p6 _ hmem
          exact PageAt.write hp hidx c q1 (setCell_heap_same q1)
        · refine (p6 y hy).keep (setCell_heap _ _ _ _ _ fun e => hyn ?_) (fun e => hyn (by omega))
          obtain ⟨i, hi, hi2⟩ := List.mem_iff_getElem.1 hy
          obtain ⟨j, hj, hj2⟩ := List.mem_iff_getElem.1 hmem
          have hij : i = j := by
            have := List.pairwise_iff_getElem.1 p5
            rcases Nat.lt_trichotomy i j with hlt | heq | hgt
            · exact absurd (by rw [List.getElem_map, List.getElem_map, hi2, hj2]; first | exact e | exact e.symm) (this i j (by simpa using hi) (by simpa using hj) hlt)
            · exact heq
            · exact absurd (by rw [List.getElem_map, List.getElem_map, hi2, hj2]; first | exact e | exact e.symm) (this j i (by simpa using hj) (by simpa using hi) hgt)
          subst hij
          rw [hi2] at hj2
          rw [hj2]
      · unfold setM
        rw [if_neg (fun e => by rw [e, show a / 8 / 512 = a / 4096 by omega, hf] at hn; cases hn)]
        exact p7 s hn
      · obtain ⟨cc, hcc⟩ := p9.heap b hb
        exact hne b ⟨_, hcc, fun c => by simp⟩)
    clear p1 p2 p3 p6 p7 q1 q2 q3 p9 hF
    go_enter Try.func63, Try.ntmps63
    go_wp2
    refine ⟨rfl, .tuple #[], (by simp [results, Try.results63, go_sem]), ?_⟩
    exact ⟨rfl, HEND.out⟩
  | none =>
    rw [hf] at hlk
    dsimp only at hlk
    obtain ⟨es', c', hup, hent'⟩ := updateP_run (a / 4096) w.heap.size (w.alloc (.cells Try.zeroCells144 144 (0, 0))) pb es clock PL ((alloc_other _ _ hlp).trans p2) p3 hf
    have hpm : pb ≠ mb := fun e => by rw [e, p1] at p2; cases p2
    have hz := zeros
    have hHM := Lib.hid hent'
    have HF := Aside.mk hF
    have P1 := Lib.hid p1
    have P2 := Lib.hid p2
    have P6 := Lib.hid p6
    have P7 := Lib.hid p7
    have P9 := Lib.hid p9
    have P4 := Lib.hid p4
    have P5 := Lib.hid p5
    clear p1 p2 p3 p6 p7 p9 hF hent' p4 p5
    go_enter Try.func63, Try.ntmps63
    go_upto_region 4 with (fail)
    refine wp_gen ?_; intro V hV
    have vg : V.heap[w.heap.size]? = some (.cells Try.zeroCells144 144 (0, 0)) := by rw [hV]; exact (putBlk_heap _ _ _ _ (by omega)).trans (alloc_same ..)
    have vp : V.heap[pb]? = some (.map es' c') := by rw [hV]; exact putBlk_same _ _ _ (by simp; omega)
    have vo : ∀ b, b < w.heap.size → b ≠ pb → V.heap[b]? = w.heap[b]? := fun b hb hn => by rw [hV]; exact (putBlk_heap _ _ _ _ hn.symm).trans (alloc_other _ _ hb)
    have vk : Keeps F w V := by rw [hV]; exact (Keeps.of_ext ((Ext.refl w).alloc _)).put (.inl (by rw [HF.out]; simp)) _
    have hcell : V.cell? ⟨w.heap.size, (a % 4096 / 8).toNat, none⟩ = some (.int .u64 0) := by rw [heap_cell vg]; exact hz.2 _ hidx
    have hfr := frozen_of vg
    have VG := Lib.hid vg
    have VP := Lib.hid vp
    have VO := Lib.hid vo
    have VK := Lib.hid vk
    clear hV vg vp vo vk hup hlk c1
    go_wp2
    refine ⟨rfl, .tuple #[], (by simp [results, Try.results63, go_sem]), ?_⟩
    refine ⟨rfl, mb :: pb :: (tv.ownBlock.toList ++ (PL ++ [(a / 4096, w.heap.size)]).map (·.2)), ⟨pb, tv, es', c', PL ++ [(a / 4096, w.heap.size)], ?_, ?_, hHM.out, ?_, ?_, fun y hy => ?_, fun s hn => ?_, setM_range p8 hx0 hx1, P9.out.keep fun b hb => ?_, rfl, hB⟩, VK.out.setCell (.inr (Nat.le_refl _)) _, fun y hy => ?_⟩
    · exact (setCell_heap _ _ _ _ _ (by omega)).trans ((VO.out mb hlt hpm.symm).trans P1.out)
    · exact (setCell_heap _ _ _ _ _ (by omega)).trans VP.out
    · rw [List.map_append, List.nodup_append]
      refine ⟨P4.out, by simp, fun q hq z hz2 e => findP_not hf ?_⟩
      simp only [List.map_cons, List.map_nil, List.mem_singleton] at hz2
      rw [← hz2, ← e]; exact hq
    · rw [List.map_append, List.nodup_append]
      refine ⟨P5.out, by simp, fun q hq z hz2 e => ?_⟩
      simp only [List.map_cons, List.map_nil, List.mem_singleton] at hz2
      obtain ⟨y, hy, rfl⟩ := List.mem_map.1 hq
      obtain ⟨c, hc, _⟩ := P6.out y hy
      have := heap_lt hc
      omega
    · rcases List.mem_append.1 hy with hy | hy
      · have hp := P6.out y hy
        obtain ⟨c, hc, _⟩ := hp
        have hyl := heap_lt hc
        have hyp : y.2 ≠ pb := fun e => by rw [e, P2.out] at hc; cases hc
        refine PageAt.keep (P6.out y hy) ((setCell_heap _ _ _ _ _ (by omega)).trans (VO.out _ hyl hyp)) (fun e => findP_not hf ?_)
        rw [show a / 4096 = y.1 by omega]
        exact List.mem_map.2 ⟨y, hy, rfl⟩
      · obtain rfl : y = (a / 4096, w.heap.size) := by simpa using hy
        rw [← hslot]
        have hbase : PageAt V w.heap.size (a / 4096) M := ⟨_, VG.out, hz.1, fun i hi => by
          rw [hz.2 i hi, P7.out (a / 4096 * 512 + i) (by rw [show (a / 4096 * 512 + (i : Int)) / 512 = a / 4096 by omega]; exact hf)]⟩
        exact PageAt.write hbase hidx _ VG.out (setCell_heap_same VG.out)
    · obtain ⟨n1, n2⟩ := findP_append_none hn
      unfold setM
      rw [if_neg (fun e => n2 (by dsimp only; omega))]
      exact P7.out s n1
    · have hbl := P9.out.lt b hb
      obtain ⟨cc, hcc⟩ := P9.out.heap b hb
      have hbp : b ≠ pb := fun e => by rw [e, P2.out] at hcc; cases hcc
      exact (setCell_heap _ _ _ _ _ (by omega)).trans (VO.out b hbl hbp)
    · rw [HF.out]
      simp only [List.mem_cons, List.mem_append, List.map_append, List.map_cons, List.map_nil, List.mem_singleton, Option.mem_toList, List.not_mem_nil, or_false] at hy ⊢
      rcases hy with h | h | h | h | h
      · exact .inl (.inl h)
      · exact .inl (.inr (.inl h))
      · exact .inl (.inr (.inr (.inl h)))
      · exact .inl (.inr (.inr (.inr h)))
      · exact .inr (by omega)
end Go.Proofs.Ytkfonacokamfiaa
/- Memories: Store, Load, New. -/
namespace Go.Proofs.Ytkfonacokamfiaa
set_option linter.unusedVariables false
set_option linter.unusedSimpArgs false
open Go.RowKit
attribute [local go_sem] wext_cell wext_frozen wext_heap alloc_cell alloc_frozen alloc_heap setCell_cell objCell_cells objFrozen_cells

theorem errM_zero {B a : Int} (h : errM B a = 0) : a < limB B ∧ a % 8 = 0 := by
  unfold errM at h
  by_cases hq : a < limB B
  · rw [if_pos hq] at h
    by_cases h8 : a % 8 = 0
    · exact ⟨hq, h8⟩
    · rw [if_neg h8] at h; omega
  · rw [if_neg hq] at h; omega
theorem errM_le {B a : Int} (h : errM B a = 0) : a ≤ 4194303 := by
  have := errM_zero h; have := limB_le B; omega
theorem EndMem.refl {w w' : World} {mb : Nat} {F : List Nat} {B : Int} {M : Int → Int} {T : List Int} (h : MemAt w mb F B M T) (k : Ext w w') : EndMem mb F w B M T w' :=
  ⟨F, h.ext k, Keeps.of_ext k, fun y hy => .inl hy⟩
theorem EndMem.before {w w1 w' : World} {mb : Nat} {F : List Nat} {B : Int} {M : Int → Int} {T : List Int} (k : Ext w w1) (h : EndMem mb F w1 B M T w') : EndMem mb F w B M T w' := by
  obtain ⟨F', h1, h2, h3⟩ := h
  refine ⟨F', h1, (Keeps.of_ext k).trans h2 fun x hx => .inl hx, fun y hy => ?_⟩
  rcases h3 y hy with q | q
  · exact .inl q
  · exact .inr (Nat.le_trans k.size q)
theorem EndMem.after {w w1 w' : World} {mb : Nat} {F : List Nat} {B : Int} {M : Int → Int} {T : List Int} (h : EndMem mb F w B M T w1) (k : Ext w1 w') : EndMem mb F w B M T w' := by
  obtain ⟨F', h1, h2, h3⟩ := h
  exact ⟨F', h1.ext k, h2.ext k, h3⟩
theorem EndMem.then {w w1 w' : World} {mb : Nat} {F : List Nat} {B : Int} {M M' : Int → Int} {T T' : List Int} (h : EndMem mb F w B M T w1) (k : ∀ F', MemAt w1 mb F' B M T → EndMem mb F' w1 B M' T' w') : EndMem mb F w B M' T' w' := by
  obtain ⟨F', h1, h2, h3⟩ := h
  obtain ⟨F2, k1, k2, k3⟩ := k F' h1
  refine ⟨F2, k1, h2.trans k2 h3, fun y hy => ?_⟩
  rcases k3 y hy with q | q
  · exact h3 y q
  · exact .inr (Nat.le_trans h2.size q)

def setIf (B : Int) (M : Int → Int) (a x : Int) : Int → Int := if errM B a = 0 then setM M (a / 8) x else M
theorem store_c (mb : Nat) (F : List Nat) (B : Int) (M : Int → Int) (T : List Int) (a x : Int) (w : World) (h : MemAt w mb F B M T) (h0 : 0 ≤ a) (h1 : a ≤ 18446744073709551615) (hx0 : 0 ≤ x) (hx1 : x ≤ 18446744073709551615) :
    Calls Try.prog 36 #[.pointer (some ⟨mb, 0, none⟩), .int .u64 a, .int .u64 x] w fun e w' => e = .returned (.int .i64 (errM B a)) ∧ EndMem mb F w B (setIf B M a x) T w' := by
  have hal := fun w' (hx : Ext w w') => aligned_c mb F B M T a w' (h.ext hx) h0 h1
  unfold setIf
  by_cases he : errM B a = 0
  · have hs := fun w' (hx : Ext w w') => mset_c mb F B M T a x w' (h.ext hx) h0 (errM_le he) (errM_zero he).2 hx0 hx1
    rw [if_pos he, he]
    rw [he] at hal
    clear h he
    go_enter Try.func36, Try.ntmps36
    go_wp2_with (first | (go_at_call 62; refine (hal _ (by repeat (first | exact Ext.refl _ | assumption | refine Ext.alloc ?_ _ | refine Ext.drew ?_ | refine Ext.setCell ?_ (by first | (simp; done) | (dsimp only; omega)) _ | refine Ext.trans ?_ (by assumption)))).mono ?_; rintro e w1 ⟨rfl, hb1⟩) | (go_at_call 63; refine (hs _ (by repeat (first | exact Ext.refl _ | assumption | refine Ext.alloc ?_ _ | refine Ext.drew ?_ | refine Ext.setCell ?_ (by first | (simp; done) | (dsimp only; omega)) _ | refine Ext.trans ?_ (by assumption)))).mono ?_; rintro e w2 ⟨rfl, hb2⟩))
    all_goals
      go_ret
      exact ⟨rfl, hb2.before (by repeat (first | exact Ext.refl _ | assumption | refine Ext.alloc ?_ _ | refine Ext.drew ?_ | refine Ext.setCell ?_ (by first | (simp; done) | (dsimp only; omega)) _ | refine Ext.trans ?_ (by assumption)))⟩
  · rw [if_neg he]
    have hr := fun w' => EndMem.refl (w' := w') h
    generalize hEr : errM B a = er at hal he
    have heb : (er != 0) = true := by simpa using he
    clear h hEr
    go_enter Try.func36, Try.ntmps36
    go_wp2_with (first | (go_at_call 62; refine (hal _ (by repeat (first | exact Ext.refl _ | assumption | refine Ext.alloc ?_ _ | refine Ext.drew ?_ | refine Ext.setCell ?_ (by first | (simp; done) | (dsimp only; omega)) _ | refine Ext.trans ?_ (by assumption)))).mono ?_; rintro e w1 ⟨rfl, hb1⟩))
    all_goals
      go_ret
      exact ⟨rfl, hr _ (by repeat (first | exact Ext.refl _ | assumption | refine Ext.alloc ?_ _ | refine Ext.drew ?_ | refine Ext.setCell ?_ (by first | (simp; done) | (dsimp only; omega)) _ | refine Ext.trans ?_ (by assumption)))⟩

theorem wordRow : RowT Try.prog 131 34 1 8 := RowT.of (z := .int .u64 0) Try.underlying131 (by kernel_rfl) rfl

set_option maxHeartbeats 2000000 in
set_option maxRecDepth 20000 in
theorem load_c (mb : Nat) (F : List Nat) (B : Int) (M : Int → Int) (T : List Int) (a : Int) (w : World) (h : MemAt w mb F B M T) (h0 : 0 ≤ a) (h1 : a ≤ 18446744073709551615) (hT : T.length ≤ 1000000) :
    Calls Try.prog 43 #[.pointer (some ⟨mb, 0, none⟩), .int .u64 a] w fun e w' => e = .returned (.tuple #[.int .u64 (if errM B a = 0 then M (a / 8) else 0), .int .i64 (errM B a)]) ∧ EndMem mb F w B M (if errM B a = 0 then T ++ [a] else T) w' := by
  have hp := fun w' (hx : Ext w w') => peek_c mb F B M T a w' (h.ext hx) h0 h1
  by_cases he : errM B a = 0
  · rw [if_pos he, if_pos he, he]
    simp only [if_pos he, he] at hp
    generalize hx : M (a / 8) = x at hp
    clear he
    have HM := Lib.hid h
    obtain ⟨pb, tv, es, clock, PL, p1, p2, p3, p4, p5, p6, p7, p8, p9, hF, hB⟩ := h
    obtain ⟨at1, tc, rfl, -, -⟩ := p9.form
    have hlt := heap_lt p1
    have hlp := heap_lt p2
    have hpm : pb ≠ mb := fun e => by rw [e, p1] at p2; cases p2
    have HTN : Hid (∀ b, (Value.slice at1 T.length tc).ownBlock = some b → b ≠ mb ∧ b ≠ pb ∧ ∀ y ∈ PL, b ≠ y.2) := Lib.hid fun b hb => by
      obtain ⟨cc, hcc⟩ := p9.heap b hb
      refine ⟨fun e => ?_, fun e => ?_, fun y hy e => ?_⟩
      · rw [e, p1] at hcc; cases hcc
      · rw [e, p2] at hcc; cases hcc
      · obtain ⟨c, hc, _⟩ := p6 y hy; rw [e, hc] at hcc; cases hcc
    have HPN : Hid (∀ y ∈ PL, y.2 ≠ mb ∧ y.2 ≠ pb ∧ y.2 < w.heap.size) := Lib.hid fun y hy => by
      obtain ⟨c, hc, _⟩ := p6 y hy
      refine ⟨fun e => ?_, fun e => ?_, heap_lt hc⟩
      · rw [e, p1] at hc; cases hc
      · rw [e, p2] at hc; cases hc
    have hl2 : (T.map (Value.int .u64 ·)).length = T.length := by simp
    have c2 := (heap_cell p1 2).trans rfl
    have hfr : w.frozen? ⟨mb, 2, none⟩ = false := by rw [frozen_heap, p1]; rfl
    have P1 := Lib.hid p1
    have P2 := Lib.hid p2
    have P9 := Lib.hid p9
    have HF := Lib.hid hF
    have P6 := Lib.hid p6
    have P8 := Lib.hid p8
    have P7 := Lib.hid p7
    clear p1 p2 p9 hF p6 hx p8 p7
    go_enter Try.func43, Try.ntmps43
    go_upto_region 3 with (first | (go_at_call 66; refine (hp _ (by repeat (first | exact Ext.refl _ | assumption | refine Ext.alloc ?_ _ | refine Ext.drew ?_ | refine Ext.setCell ?_ (by first | (simp; done) | (dsimp only; omega)) _ | refine Ext.trans ?_ (by assumption)))).mono ?_; rintro e w1 ⟨rfl, hb1⟩))
    have c21 := hb1.someCell c2
    have hlt1 : mb < w1.heap.size := Nat.lt_of_lt_of_le hlt hb1.size
    have EA : Ext w (w1.alloc (.cells #[.int .u64 a] 34 (0, 0))) := hb1.alloc _
    have HO := Lib.hid (P9.out.ext EA)
    have HNW : Hid (∀ j u, [Value.int .u64 a][j]? = some u → (w1.alloc (.cells #[.int .u64 a] 34 (0, 0))).cell? ((⟨w1.heap.size, 0, none⟩ : Addr).add j) = some u) := Lib.hid fun j u hu => by
      rw [add0, cell_heap, alloc_same]; simpa [objCell] using hu
    have HZ : Hid (∀ w9 : World, World.grownBy (w1.alloc (.cells #[.int .u64 a] 34 (0, 0))) w9 (Value.slice at1 T.length tc).ownBlock → w9.heap[mb]? = some (.cells #[.int .i64 B, .map (some pb), .slice at1 T.length tc] 133 (0, 0))) := Lib.hid fun w9 q2 =>
      (q2.block mb (by rw [World.size_alloc]; omega) (fun e => (HTN.out mb e.symm).1 rfl)).trans ((EA.block mb hlt).trans P1.out)
    have HEA := Lib.hid EA
    clear EA c2 hfr
    go_wp2_with (first | (at_builtin; refine wpList_append_owns rfl _ _ _ _ 1 8 wordRow rfl _ rfl T.length (T.map (Value.int .u64 ·)) HO.out _ 1 1 rfl [.int .u64 a] rfl HNW.out (by simp [Value.oneCell']) (by unfold maxLen; omega) (by omega) ?_; intro v9 w9 q1 q2 q3; replace q2 : World.grownBy (w1.alloc (.cells #[.int .u64 a] 34 (0, 0))) w9 (Value.slice at1 T.length tc).ownBlock := q2; replace q3 : v9.ownBlock = (Value.slice at1 T.length tc).ownBlock ∨ v9.ownBlock = some (w1.alloc (.cells #[.int .u64 a] 34 (0, 0))).heap.size := q3; obtain ⟨a9, c9, rfl, -, -⟩ := q1.form; have z1 := HZ.out w9 q2; have x2 := (heap_cell z1 2).trans rfl; have x3 := frozen_of z1; have Z1 := Lib.hid z1; clear z1; simp only [Act.put, Array.set!_eq_setIfInBounds, List.setIfInBounds_toArray, List.set_cons_succ, List.set_cons_zero]))
    go_ret2
    have hsz : w.heap.size ≤ w1.heap.size := hb1.size
    have hown : ∀ g, (Value.slice a9 (T.length + 1) c9).ownBlock = some g → g ≠ mb ∧ g ≠ pb ∧ (∀ y ∈ PL, g ≠ y.2) ∧ (g ∈ F ∨ w.heap.size ≤ g) := fun g hg => by
      rcases q3 with q | q
      · obtain ⟨k1, k2, k3⟩ := HTN.out g (q.symm.trans hg)
        refine ⟨k1, k2, k3, .inl ?_⟩
        rw [HF.out, ← q, hg]; simp
      · have hge : g = w1.heap.size + 1 := by
          have h9 := q.symm.trans hg
          rw [World.size_alloc] at h9
          injection h9 with h9
          exact h9.symm
        refine ⟨by omega, by omega, fun y hy => ?_, .inr (by omega)⟩
        have := (HPN.out y hy).2.2
        omega
    have hblk : ∀ b, b < w.heap.size → b ≠ mb → (∀ g, (Value.slice at1 T.length tc).ownBlock = some g → b ≠ g) → (w9.setCell ⟨mb, 2, none⟩ (.slice a9 (T.length + 1) c9)).heap[b]? = w.heap[b]? := fun b hb hn hg =>
      (setCell_heap _ _ _ _ _ (Ne.symm hn)).trans ((q2.block b (by rw [World.size_alloc]; omega) (fun e => hg b e.symm rfl)).trans (HEA.out.block b hb))
    refine ⟨rfl, mb :: pb :: ((Value.slice a9 (T.length + 1) c9).ownBlock.toList ++ PL.map (·.2)), ⟨pb, .slice a9 (T.length + 1) c9, es, clock, PL, setCell_heap_same Z1.out, ?_, p3, p4, p5, fun y hy => ?_, P7.out, P8.out, ?_, rfl, hB⟩, ?_, fun y hy => ?_⟩
    · exact (hblk pb hlp hpm (fun g hg => (HTN.out g hg).2.1.symm)).trans P2.out
    · obtain ⟨c, r1, r2, r3⟩ := P6.out y hy
      obtain ⟨n1, n2, n3⟩ := HPN.out y hy
      exact ⟨c, (hblk y.2 n3 n1 (fun g hg => ((HTN.out g hg).2.2 y hy).symm)).trans r1, r2, r3⟩
    · have : Owns w9 34 1 (.slice a9 (T.length + 1) c9) (T ++ [a]).length ((T ++ [a]).map (Value.int .u64 ·)) := by
        rw [List.map_append, List.length_append]; exact q1
      exact this.keep fun g hg => setCell_heap _ _ _ _ _ (hown g hg).1.symm
    · refine ((Keeps.of_ext HEA.out).grown q2 (fun g hg => .inl ?_)).setCell (.inl ?_) _
      · rw [HF.out, hg]; simp
      · rw [HF.out]; simp
    · simp only [List.mem_cons, List.mem_append, Option.mem_toList] at hy
      rcases hy with rfl | rfl | hy | hy
      · exact .inl (by rw [HF.out]; simp)
      · exact .inl (by rw [HF.out]; simp)
      · exact (hown y hy).2.2.2
      · exact .inl (by rw [HF.out]; simp only [List.mem_cons, List.mem_append]; exact .inr (.inr (.inr hy)))
  · rw [if_neg he, if_neg he]
    simp only [if_neg he] at hp
    have hr := fun w' => EndMem.refl (w' := w') h
    generalize hEr : errM B a = er at hp he
    have heb : (er == 0) = false := by simpa using he
    clear h hEr he
    go_enter Try.func43, Try.ntmps43
    go_wp2_with (first | (go_at_call 66; refine (hp _ (by repeat (first | exact Ext.refl _ | assumption | refine Ext.alloc ?_ _ | refine Ext.drew ?_ | refine Ext.setCell ?_ (by first | (simp; done) | (dsimp only; omega)) _ | refine Ext.trans ?_ (by assumption)))).mono ?_; rintro e w1 ⟨rfl, hb1⟩; have ⟨hc, hf, hh, hs⟩ := hb1.facts))
    all_goals
      go_ret2
      exact ⟨rfl, hr _ (by repeat (first | exact Ext.refl _ | assumption | refine Ext.alloc ?_ _ | refine Ext.drew ?_ | refine Ext.setCell ?_ (by first | (simp; done) | (dsimp only; omega)) _ | refine Ext.trans ?_ (by assumption)))⟩

theorem EntP.nil : EntP #[] 0 [] := ⟨⟨fun e h => by simp at h, by simp⟩, rfl⟩
def NewMem (B : Int) (w : World) (e : Ending) (w' : World) : Prop :=
  ∃ mb F, e = .returned (.pointer (some ⟨mb, 0, none⟩)) ∧ MemAt w' mb F B (fun _ => 0) [] ∧ Ext w w' ∧ ∀ x ∈ F, w.heap.size ≤ x
theorem memNew_c (B : Int) (w : World) (hB : 14 ≤ B ∧ B ≤ 22) :
    Calls Try.prog 34 #[.int .i64 B] w (NewMem B w) := by
  have hmk : ∀ w, (Instr.makeMap 130 none).run Try.prog w = .ok (.map (some w.heap.size)) (w.alloc (.map #[] 0)) := fun _ => rfl
  obtain ⟨hB0, hB1⟩ := hB
  go_enter Try.func34, Try.ntmps34
  go_wp2
  all_goals
    go_ret
    refine ⟨w.heap.size + 1, [w.heap.size + 1, w.heap.size], rfl, ⟨w.heap.size, .slice none 0 0, #[], 0, [], ?_, ?_, EntP.nil, List.nodup_nil, List.nodup_nil, (fun x hx => by cases hx), fun _ _ => rfl, fun _ => ⟨Int.le_refl 0, by show (0 : Int) ≤ _; omega⟩, Owns.nil .., rfl, hB0, hB1⟩, (by repeat (first | exact Ext.refl _ | assumption | refine Ext.alloc ?_ _ | refine Ext.drew ?_ | refine Ext.setCell ?_ (by first | (simp; done) | (dsimp only; omega)) _ | refine Ext.trans ?_ (by assumption))), by simp⟩
    · rw [alloc_same1]
    · rw [alloc_other _ _ (by simp), alloc_same]
end Go.Proofs.Ytkfonacokamfiaa
/- Contracts of the document's powers and bits. -/
namespace Go.Proofs.Ytkfonacokamfiaa
set_option linter.unusedVariables false
set_option linter.unusedSimpArgs false
open Go.RowKit
attribute [local go_sem] wext_cell wext_frozen wext_heap alloc_cell alloc_frozen alloc_heap setCell_cell objCell_cells objFrozen_cells

/-- two to a power -/
def pow2 (n : Int) : Int := ((2 ^ n.toNat : Nat) : Int)
theorem pow2_pos (n : Int) : 1 ≤ pow2 n := by
  unfold pow2; have : 0 < 2 ^ n.toNat := Nat.pow_pos (by omega); omega
theorem pow2_le (n : Int) (h : n ≤ 63) : pow2 n ≤ 9223372036854775808 := by
  unfold pow2; have : 2 ^ n.toNat ≤ 2 ^ 63 := Nat.pow_le_pow_right (by omega) (by omega); omega
theorem pow2_zero : pow2 0 = 1 := rfl
theorem pow2_succ (j : Nat) (h : j < 63) : IntKind.u64.wrap (2 * pow2 j) = pow2 ((j : Int) + 1) := by
  have h1 := pow2_le ((j : Int) + 1) (by omega)
  have h2 : pow2 ((j : Int) + 1) = 2 * pow2 j := by
    unfold pow2
    rw [show ((j : Int) + 1).toNat = j + 1 by omega, show (j : Int).toNat = j by omega, Nat.pow_succ]
    omega
  have h3 := pow2_pos j
  rw [h2, IntKind.wrap_u64]
  omega

set_option maxHeartbeats 800000 in
theorem power_c (n : Int) (w : World) (h0 : 0 ≤ n) (h1 : n ≤ 63) :
    Calls Try.prog 69 #[.int .i64 n] w fun e w' => e = .returned (.int .u64 (pow2 n)) ∧ Ext w w' := by
  go_enter Try.func69, Try.ntmps69
  go_wp2
  go_loop [3, 4] (fun x i => ∃ j : Nat, (j : Int) ≤ n ∧ i = .int .i64 j ∧ x = .int .u64 (pow2 j)) (fun _ i => (n - intOf i).toNat)
  case atStart => exact ⟨0, by omega, rfl, rfl⟩
  case round =>
    obtain ⟨j, hj, rfl, rfl⟩ := hrel
    by_cases hlt : (j : Int) < n
    · go_wp2
      go_round
      case rel => exact ⟨j + 1, by omega, by go_num, by rw [pow2_succ _ (by omega)]; rfl⟩
      case measure => simp [intOf]; omega
    · have : n = j := by omega
      have HN := Lib.hid this
      clear this
      go_wp2
      go_ret
      exact ⟨by rw [HN.out]; rfl, Ext.refl _⟩

def bitB (x i : Int) : Bool := x / pow2 i % 2 == 1

set_option maxHeartbeats 800000 in
theorem bit_c (x i : Int) (w : World) (hx : 0 ≤ x) (hx1 : x ≤ 18446744073709551615) (h0 : 0 ≤ i) (h1 : i ≤ 63) :
    Calls Try.prog 47 #[.int .u64 x, .int .i64 i] w fun e w' => e = .returned (.bool (bitB x i)) ∧ Ext w w' := by
  have hp := pow2_pos i
  have hq0 : 0 ≤ x / pow2 i := Int.ediv_nonneg hx (by omega)
  have hq1 : x / pow2 i ≤ 18446744073709551615 := by have := Int.ediv_le_self (pow2 i) hx; omega
  go_enter Try.func47, Try.ntmps47
  go_wp2_with (go_at_call 69; refine (power_c _ _ h0 h1).mono ?_; rintro e w1 ⟨rfl, hb⟩; have ⟨hc, hf, hh, hs⟩ := hb.facts; try simp only [World.size_alloc, World.size_setCell, World.size_drew] at hs)
  go_ret
  exact ⟨rfl, hb⟩

end Go.Proofs.Ytkfonacokamfiaa
/- Bits of a word, by division. Own text. -/
namespace Go.Proofs.Ytkfonacokamfiaa
open Go.RowKit

theorem bits_bit (n i : Nat) (hn : n < 18446744073709551616) (hi : i < 64) : bits BinOp.and IntKind.u64 (n : Int) ((2 ^ i : Nat) : Int) = ((n / 2 ^ i % 2 * 2 ^ i : Nat) : Int) := by
  have hp : 2 ^ i < 18446744073709551616 := by
    have : (2 : Nat) ^ i ≤ 2 ^ 63 := Nat.pow_le_pow_right (by omega) (by omega)
    omega
  rw [u64_and_nat n (2 ^ i) hn hp, nat_bit]

theorem bit_ne (n i : Nat) (hn : n < 18446744073709551616) (hi : i < 64) : (bits BinOp.and IntKind.u64 (n : Int) ((2 ^ i : Nat) : Int) != 0) = bitB n i := by
  rw [bits_bit n i hn hi]
  unfold bitB pow2
  rw [Int.toNat_natCast]
  have h2 : 0 < 2 ^ i := Nat.pow_pos (by omega)
  have e : ((n : Int) / ((2 ^ i : Nat) : Int) % 2) = ((n / 2 ^ i % 2 : Nat) : Int) := by simp
  rw [e]
  have h3 : n / 2 ^ i % 2 = 0 ∨ n / 2 ^ i % 2 = 1 := by omega
  rcases h3 with h | h
  · rw [h]; simp
  · rw [h]
    have : ¬ (((1 * 2 ^ i : Nat) : Int) = 0) := by omega
    rw [Bool.eq_iff_iff]
    simp only [bne_iff_ne, ne_eq, this, not_false_eq_true, beq_iff_eq, true_iff]
    rfl

theorem u64_of_wf {x : Int} (h : (Lit.int .u64 x).wf = true) : 0 ≤ x ∧ x ≤ 18446744073709551615 := by
  exact bounds_u64 h
end Go.Proofs.Ytkfonacokamfiaa
/- Entries: fields, tables, slots, leaves, reserved bits, frames; rights. -/
namespace Go.Proofs.Ytkfonacokamfiaa
set_option linter.unusedVariables false
set_option linter.unusedSimpArgs false
open Go.RowKit
attribute [local go_sem] wext_cell wext_frozen wext_heap alloc_cell alloc_frozen alloc_heap setCell_cell objCell_cells objFrozen_cells

theorem maskE {a : Int} (i : Nat) (hi : i < 64) (h0 : 0 ≤ a) (h1 : a ≤ 18446744073709551615) : bits BinOp.and IntKind.u64 a ((2 ^ i - 1 : Nat) : Int) = a % ((2 ^ i : Nat) : Int) := by
  have hp : 2 ^ i - 1 < 18446744073709551616 := by
    have : (2 : Nat) ^ i ≤ 2 ^ 63 := Nat.pow_le_pow_right (by omega) (by omega)
    omega
  have e : a = (a.toNat : Int) := (Int.toNat_of_nonneg h0).symm
  rw [e, u64_and_nat _ _ (by omega) hp, Nat.and_two_pow_sub_one_eq_mod]
  rfl
theorem bitE {a : Int} (i : Nat) (hi : i < 64) (h0 : 0 ≤ a) (h1 : a ≤ 18446744073709551615) : (bits BinOp.and IntKind.u64 a ((2 ^ i : Nat) : Int) != 0) = bitB a i := by
  have e : a = (a.toNat : Int) := (Int.toNat_of_nonneg h0).symm
  rw [e]
  exact bit_ne _ i (by omega) hi

theorem two_pow (n : Int) : (2 : Int) ^ n.toNat = pow2 n := by unfold pow2; simp
theorem fieldNone_c (lo n : Int) (w : World) (h0 : 0 ≤ lo) (h1 : 1 ≤ n) (h2 : lo ≤ 63) (h3 : n ≤ 64 - lo) :
    Calls Try.prog 76 #[.int .i64 lo, .int .i64 n] w fun e w' => e = .returned (.bool false) ∧ Ext w w' := by
  go_enter Try.func76, Try.ntmps76
  go_wp2
  all_goals
    go_ret
    exact ⟨rfl, (by repeat (first | exact Ext.refl _ | assumption | refine Ext.alloc ?_ _ | refine Ext.drew ?_ | refine Ext.setCell ?_ (by first | (simp; done) | (dsimp only; omega)) _ | refine Ext.trans ?_ (by assumption)))⟩
theorem ones_c (n : Int) (w : World) (h0 : 1 ≤ n) (h1 : n ≤ 63) :
    Calls Try.prog 77 #[.int .i64 n] w fun e w' => e = .returned (.int .u64 (pow2 n - 1)) ∧ Ext w w' := by
  go_enter Try.func77, Try.ntmps77
  go_wp2
  all_goals
    go_ret
    refine ⟨?_, (by repeat (first | exact Ext.refl _ | assumption | refine Ext.alloc ?_ _ | refine Ext.drew ?_ | refine Ext.setCell ?_ (by first | (simp; done) | (dsimp only; omega)) _ | refine Ext.trans ?_ (by assumption)))⟩
    have hw : IntKind.u64.wrap (IntKind.u64.wrap ((2 : Int) ^ n.toNat) - 1) = pow2 n - 1 := by
      have := pow2_pos n
      have := pow2_le n h1
      rw [two_pow, IntKind.wrap_u64, IntKind.wrap_u64]; omega
    rw [← hw]; rfl
theorem fieldGet_c (x lo n : Int) (w : World) (hx : 0 ≤ x) (hx1 : x ≤ 18446744073709551615) (h0 : 0 ≤ lo) (h1 : 1 ≤ n) (h2 : lo ≤ 63) (h3 : n ≤ 64 - lo) (h4 : n ≤ 63) :
    Calls Try.prog 67 #[.int .u64 x, .int .i64 lo, .int .i64 n] w fun e w' => e = .returned (.int .u64 (x / pow2 lo % pow2 n)) ∧ Ext w w' := by
  have hm : bits BinOp.and IntKind.u64 (x / pow2 lo) (pow2 n - 1) = x / pow2 lo % pow2 n := by
    have hq0 : 0 ≤ x / pow2 lo := Int.ediv_nonneg hx (by have := pow2_pos lo; omega)
    have hq1 : x / pow2 lo ≤ 18446744073709551615 := by have := Int.ediv_le_self (pow2 lo) hx; omega
    have := maskE (a := x / pow2 lo) n.toNat (by omega) hq0 hq1
    have e : pow2 n - 1 = ((2 ^ n.toNat - 1 : Nat) : Int) := by
      unfold pow2; have : 0 < 2 ^ n.toNat := Nat.pow_pos (by omega); omega
    rw [e, this]; rfl
  have HM := Lib.hid hm
  clear hm
  go_enter Try.func67, Try.ntmps67
  go_wp2_with (first | (go_at_call 76; refine (fieldNone_c _ _ _ h0 h1 h2 h3).mono ?_; rintro e w1 ⟨rfl, hb⟩; have ⟨hc, hf, hh, hs⟩ := hb.facts; try simp only [World.size_alloc, World.size_setCell, World.size_drew] at hs) | (go_at_call 77; refine (ones_c _ _ h1 h4).mono ?_; rintro e w1 ⟨rfl, hb⟩; have ⟨hc, hf, hh, hs⟩ := hb.facts; try simp only [World.size_alloc, World.size_setCell, World.size_drew] at hs))
  go_ret
  refine ⟨?_, (by repeat (first | exact Ext.refl _ | assumption | refine Ext.alloc ?_ _ | refine Ext.drew ?_ | refine Ext.setCell ?_ (by first | (simp; done) | (dsimp only; omega)) _ | refine Ext.trans ?_ (by assumption)))⟩
  rw [← HM.out, ← two_pow lo]; rfl
end Go.Proofs.Ytkfonacokamfiaa
