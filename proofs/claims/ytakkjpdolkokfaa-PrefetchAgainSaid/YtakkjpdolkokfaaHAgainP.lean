/- What was found, and is looked for at once again, is held: plainly; and Forget. -/
import Derived.Test.YtakkjpdolkokfaaPln44
import Derived.Test.YtakkjpdolkokfaaHPuts
namespace Go.Proofs.Ytakkjpdolkokfaa
set_option linter.unusedVariables false
set_option linter.unusedSimpArgs false
open Go.RowKit
attribute [local go_sem] wext_cell wext_frozen wext_heap alloc_cell alloc_frozen alloc_heap setCell_cell objCell_cells objFrozen_cells

theorem mask_bits : ∀ b0 b1 b2 b3 b4 b5 b6 b7 : Bool, ∀ i : Fin 8, [b0, b1, b2, b3, b4, b5, b6, b7].getD i.val false = true →
    bitB (0 + (if b0 then pow2 (0 : Nat) else 0) + (if b1 then pow2 (1 : Nat) else 0) + (if b2 then pow2 (2 : Nat) else 0) + (if b3 then pow2 (3 : Nat) else 0) + (if b4 then pow2 (4 : Nat) else 0) + (if b5 then pow2 (5 : Nat) else 0) + (if b6 then pow2 (6 : Nat) else 0) + (if b7 then pow2 (7 : Nat) else 0)) (i.val : Int) = true := by decide +kernel
theorem maskUp_bit (g : Nat → Bool) (i : Nat) (hi : i < 8) (hg : g i = true) : bitB (maskUp g 8) (i : Int) = true := by
  have h := mask_bits (g 0) (g 1) (g 2) (g 3) (g 4) (g 5) (g 6) (g 7) ⟨i, hi⟩ (by
    have : i = 0 ∨ i = 1 ∨ i = 2 ∨ i = 3 ∨ i = 4 ∨ i = 5 ∨ i = 6 ∨ i = 7 := by omega
    rcases this with rfl | rfl | rfl | rfl | rfl | rfl | rfl | rfl <;> exact hg)
  exact h
theorem stp_last {y : Stp} {L : List Stp} (h : 1 ≤ L.length) : lastS (y :: L) = lastS L := by
  cases L with
  | nil => simp at h
  | cons z L => simp [lastS, stpAt]
theorem walk_last {M : Int → Int} {B : Int} {nxe : Bool} {a : Int} : ∀ (n : Nat) (t : Int) (r : Rt), (walkF M B nxe a n t r).2.1 = 0 → (walkF M B nxe a n t r).2.2.2.1 = 1 →
    ∃ t', lastS (walkF M B nxe a n t r).1 = slotI t' a 1 ∧ bitB (M (slotI t' a 1 / 8)) 0 = true ∧ resI (M (slotI t' a 1 / 8)) 1 B nxe = false
  | 0, t, r, h, _ => by simp [walkF] at h
  | n + 1, t, r, h, h1 => by
    obtain ⟨s, hs⟩ : ∃ s, slotI t a ((n : Int) + 1) = s := ⟨_, rfl⟩
    obtain ⟨x, hx⟩ : ∃ x, M (s / 8) = x := ⟨_, rfl⟩
    by_cases hne : errM B s ≠ 0
    · rw [walkF_bad (by rw [hs]; exact hne)] at h; simp at h
    have he : errM B s = 0 := by omega
    cases hp : bitB x 0 with
    | false => rw [walkF_absent hs hx he hp] at h; simp at h
    | true =>
      cases hr : resI x ((n : Int) + 1) B nxe with
      | true => rw [walkF_res hs hx he hp hr] at h; simp at h
      | false =>
        cases hl : leafI x ((n : Int) + 1) with
        | true =>
          rw [walkF_leaf hs hx he hp hr hl] at h1 ⊢
          dsimp only at h1
          have hn : (n : Int) + 1 = 1 := h1
          rw [hn] at hs hr
          exact ⟨t, by rw [hs]; simp [lastS, stpAt], by rw [hs, hx]; exact hp, by rw [hs, hx]; exact hr⟩
        | false =>
          rw [walkF_on hs hx he hp hr hl] at h h1 ⊢
          obtain ⟨t', q1, q2, q3⟩ := walk_last n _ _ h h1
          exact ⟨t', by rw [stp_last (walk_found n _ _ h).1]; exact q1, q2, q3⟩
theorem slot_place {t a : Int} (ht : 0 ≤ t) (ha : 0 ≤ a) : slotI t a 1 - slotI t a 1 % 64 + 8 * placeI a = slotI t a 1 := by
  have h1 : tabI t % 4096 = 0 := by unfold tabI; omega
  have h2 : idxI a 1 = a / 4096 % 512 := by unfold idxI; simp [pow2]
  unfold slotI placeI
  rw [h2]
  omega
theorem great_hit {p a k0 lv : Int} {x : Hit} {r : Nat} {L : Lines} (hlv : lv = 2 ∨ lv = 3) (hx : x.l = lv) (hr : 0 < r) (hL : L.length ≤ r) (hn : (keysOf L).Nodup) : (lookR p a (greatL p a x k0 r L)).2 = true := by
  have hgr : greatL p a x k0 r L = putC (kT p lv a) ⟨x.f, x.a, x.b, x.c, x.d, 0⟩ k0 r L := by unfold greatL; rw [if_pos (by omega), hx]
  have ⟨g1, g2⟩ := put_got (kT p lv a) ⟨x.f, x.a, x.b, x.c, x.d, 0⟩ k0 r L hr hL hn
  rw [← hgr] at g1 g2
  generalize greatL p a x k0 r L = L' at g1 g2
  unfold lookR resR
  rcases hlv with rfl | rfl
  · split
    · rfl
    · first | rfl | (rw [if_pos g2])
  · split
    · rfl
    · split
      · rfl
      · first | rfl | (rw [if_pos g2])
/-- What was found is held. -/
theorem fire_hits {r q : Nat} {u : Who} {a : Int} {S : OSt} (hM : ∀ s, 0 ≤ S.M s ∧ S.M s ≤ 18446744073709551615) (hr : 0 < r) (hL : S.L.length ≤ r) (hn : (keysOf S.L).Nodup) (ha0 : 0 ≤ a) (hC : COk S.C) (h0 : 0 ≤ u.root) (h1 : u.root ≤ 18446744073709551615)
    (h : (fireF r q canonB u a S).2 = true) : (lookR u.p a (fireF r q canonB u a S).1.L).2 = true := by
  unfold fireF at h ⊢
  split at h
  · cases h
  · rename_i hno
    split at h
    · rename_i hw
      rw [if_neg hno, if_pos hw]
      obtain ⟨-, l1, l3⟩ := job_keep hM hC h0 h1 hw
      have hst := startQ_le (p := u.p) (a := a) hC h0 h1
      show (lookR u.p a (keepL _ _ _ _ _ _ _ _ _ _ _)).2 = true
      unfold keepL
      split
      · rename_i hlv
        exact great_hit (lv := (jobW S.M u.nxe u.root u.p a S.C).2.2.2.1) (by omega) rfl hr hL hn
      · rename_i hlv
        have e1 : (jobW S.M u.nxe u.root u.p a S.C).2.2.2.1 = 1 := by omega
        obtain ⟨t', q1, q2, q3⟩ := walk_last _ _ _ hw e1
        have hq1 : lastS (jobW S.M u.nxe u.root u.p a S.C).1 = slotI t' a 1 := q1
        rw [hq1]
        have hpl := placeI_lt a ha0
        have hgr : grpA (slotI t' a 1) (placeI a).toNat = slotI t' a 1 := by
          have h1 : tabI t' % 4096 = 0 := by unfold tabI; omega
          have h2 : idxI a 1 = a / 4096 % 512 := by unfold idxI; simp [pow2]
          unfold grpA
          rw [Int.toNat_of_nonneg hpl.1]
          unfold slotI placeI
          rw [h2]
          omega
        have hN := markL_more 16 false (jobW S.M u.nxe u.root u.p a S.C).1 S.M (slotI t' a 1 / 8)
        have hmay : mayW 16 u.nxe (grpF (markL 16 false (jobW S.M u.nxe u.root u.p a S.C).1 S.M) (slotI t' a 1) (placeI a).toNat) = true := by
          unfold grpF
          rw [hgr]
          unfold mayW
          rw [← eqv_bit hN.1 0 (.inl rfl), ← eqv_res hN.1 1 16 u.nxe (by omega), q2, q3]; rfl
        generalize hx : grpF (markL 16 false (jobW S.M u.nxe u.root u.p a S.C).1 S.M) (slotI t' a 1) (placeI a).toNat = x at hmay
        generalize grpF (markL 16 false (jobW S.M u.nxe u.root u.p a S.C).1 S.M) (slotI t' a 1) = f
        generalize (jobW S.M u.nxe u.root u.p a S.C).2.2.1 = rr
        obtain ⟨y, hy⟩ : ∃ y, runF f (placeI a).toNat 16 rr u.nxe x = y := ⟨_, rfl⟩
        have hbit : bitB y.m (placeI a) = true := by
          rw [← hy]; unfold runF; rw [if_pos hmay]
          have := maskUp_bit (inRun f (placeI a).toNat 16 u.nxe x) (placeI a).toNat (by omega) (by unfold inRun; simp)
          have h8 : ∀ m, bitB m ((placeI a).toNat : Int) = bitB m (placeI a) := fun m => by rw [Int.toNat_of_nonneg hpl.1]
          rw [h8] at this
          exact this
        have hm0 : y.m ≠ 0 := fun e => by rw [e] at hbit; simp [bitB] at hbit
        rw [hy]
        unfold smallL
        rw [if_neg hm0]
        have ⟨g1, g2⟩ := put_got (kT u.p 1 a) y u.k0 r S.L hr hL hn
        unfold lookR resR
        rw [g1, g2, hbit]
        rfl
    · cases h
theorem fire_hit {r q : Nat} {u : Who} {a : Int} {S : OSt} (h : (lookR u.p a S.L).2 = true) : fireF r q canonB u a S = (S, false) := by
  unfold fireF; rw [if_pos (by rw [h]; rfl)]
/-- A second time. -/
theorem fire_again {r q : Nat} {u : Who} {a : Int} {S : OSt} {T : List Int} (hM : ∀ s, 0 ≤ S.M s ∧ S.M s ≤ 18446744073709551615) (hr : 0 < r) (hL : S.L.length ≤ r) (hn : (keysOf S.L).Nodup) (ha0 : 0 ≤ a) (hC : COk S.C) (h0 : 0 ≤ u.root) (h1 : u.root ≤ 18446744073709551615) :
    let z := aheadF r q u S [a]
    let y := aheadF r q u ⟨z.1.M, T, z.1.L, z.1.C⟩ [a]
    y.2 = [] ∧ (z.2 = [] ∨ y.1.T = T) := by
  intro z y
  have hz : z = ((fireF r q canonB u a S).1, if (fireF r q canonB u a S).2 then [a] else []) := rfl
  have hy : y = ((fireF r q canonB u a ⟨z.1.M, T, z.1.L, z.1.C⟩).1, if (fireF r q canonB u a ⟨z.1.M, T, z.1.L, z.1.C⟩).2 then [a] else []) := rfl
  cases hf : (fireF r q canonB u a S).2 with
  | true =>
    have hh := fire_hits (q := q) hM hr hL hn ha0 hC h0 h1 hf
    have hk : fireF r q canonB u a ⟨z.1.M, T, z.1.L, z.1.C⟩ = (⟨z.1.M, T, z.1.L, z.1.C⟩, false) := fire_hit (by rw [hz]; exact hh)
    rw [hy, hk]
    exact ⟨rfl, .inr rfl⟩
  | false =>
    refine ⟨?_, .inl (by rw [hz, hf]; rfl)⟩
    have key : (fireF r q canonB u a ⟨z.1.M, T, z.1.L, z.1.C⟩).2 = false := by
      rw [hz]
      dsimp only
      unfold fireF at hf ⊢
      dsimp only
      by_cases hc : ((lookR u.p a S.L).2 || !canonB a) = true
      · rw [if_pos hc]
        dsimp only
        rw [if_pos hc]
      · rw [if_neg hc] at hf ⊢
        by_cases hw : (jobW S.M u.nxe u.root u.p a S.C).2.1 = 0
        · rw [if_pos hw] at hf; cases hf
        · rw [if_neg hw]
          dsimp only
          rw [if_neg hc, if_neg hw]
    rw [hy, key]; rfl

theorem forget_c (mb : Nat) (F : List Nat) (B : Int) (M : Int → Int) (T : List Int) (w : World) (h : MemAt w mb F B M T) :
    Calls Try.prog 23 #[.pointer (some ⟨mb, 0, none⟩)] w fun e w' => e = .returned (.tuple #[]) ∧ EndMem mb F w B M [] w' := by
  have H := Lib.hid h
  obtain ⟨pb, tv, es, clock, PL, p1, p2, p3, p4, p5, p6, p7, p8, p9, hF, hB⟩ := h
  have c2 := (heap_cell p1 2).trans rfl
  have cf := frozen_of p1
  have cl := heap_lt p1
  have P1 := Lib.hid p1
  have K : Keeps F w (w.setCell ⟨mb, 2, none⟩ (.slice none 0 0)) := (Keeps.refl _ _).setCell (.inl (by rw [hF]; simp)) _
  have hpm : pb ≠ mb := fun e => by rw [e, p1] at p2; cases p2
  have hend : EndMem mb F w B M [] (w.setCell ⟨mb, 2, none⟩ (.slice none 0 0)) := by
    refine ⟨mb :: pb :: PL.map (·.2), ⟨pb, .slice none 0 0, es, clock, PL, setCell_heap_same p1, (setCell_heap _ _ _ _ _ (Ne.symm hpm)).trans p2, p3, p4, p5, fun x hx => ?_, p7, p8, Owns.nil .., by simp [Value.ownBlock], hB⟩, K, fun x hx => .inl ?_⟩
    · obtain ⟨c, hc, hcc⟩ := p6 x hx
      exact ⟨c, (setCell_heap _ _ _ _ _ (fun e => by rw [← e, p1] at hc; simp at hc)).trans hc, hcc⟩
    · rw [hF]
      simp only [List.mem_cons, List.mem_append] at hx ⊢
      rcases hx with rfl | rfl | hx
      · exact .inl rfl
      · exact .inr (.inl rfl)
      · exact .inr (.inr (.inr hx))
  have HEnd := Lib.hid hend
  clear hend p1 p2 p3 p4 p5 p6 p7 p8 p9 hF hB K
  go_enter Try.func23, Try.ntmps23
  go_wp2
  refine ⟨rfl, .tuple #[], (by simp [results, Try.results23, go_sem]), ?_⟩
  exact ⟨rfl, HEnd.out⟩
end Go.Proofs.Ytakkjpdolkokfaa
