/- What is looked for ahead marks slots on the paths of what is found alone: plainly. -/
import Derived.Test.YtakkjpdolkokfaaPln45
namespace Go.Proofs.Ytakkjpdolkokfaa
set_option linter.unusedVariables false
set_option linter.unusedSimpArgs false
open Go.RowKit
attribute [local go_sem] wext_cell wext_frozen wext_heap alloc_cell alloc_frozen alloc_heap setCell_cell objCell_cells objFrozen_cells

section
variable (M0 : Int → Int) (root : Int) (nxe : Bool)
/-- From the top a walk leads here. -/
structure LeadsR (a l t : Int) (rt : Rt) : Prop where
  wide : 0 ≤ t ∧ t ≤ 18446744073709551615
  way : ∃ pre : List Stp, walkF M0 16 nxe a 4 (tabI root) allRt = (pre ++ (walkF M0 16 nxe a (l - 1).toNat t rt).1, (walkF M0 16 nxe a (l - 1).toNat t rt).2)
def GoodR (a l t : Int) (rt : Rt) : Prop := ∀ b, tagP b l = tagP a l → LeadsR M0 root nxe b l t rt
def LineR (p l : Int) (y : Key × Line) : Prop := y.1.p = p ∧ y.1.l = l ∧ ∀ b, tagP b l = y.1.t → LeadsR M0 root nxe b l y.2.f y.2.rt
def InvR (p : Int) (C : Int → Lines) : Prop := ∀ l, 2 ≤ l → l ≤ 4 → ∀ y ∈ C l, LineR M0 root nxe p l y
end
theorem goodR_top {M0 : Int → Int} {root : Int} {nxe : Bool} (a : Int) (h0 : 0 ≤ root) (h1 : root ≤ 18446744073709551615) : GoodR M0 root nxe a 5 (tabI root) allRt := fun b _ => by
  have := tabI_le h0
  exact ⟨⟨this.1, by omega⟩, [], rfl⟩
theorem goodR_step {M0 : Int → Int} {root : Int} {nxe : Bool} (hM : ∀ s, 0 ≤ M0 s ∧ M0 s ≤ 18446744073709551615) {m : Nat} {a t s x : Int} {rt : Rt} (hm : 1 ≤ m) (hm4 : m ≤ 3) (h : GoodR M0 root nxe a ((m : Int) + 1 + 1) t rt)
    (hs : slotI t a ((m : Int) + 1) = s) (hx : eqv x (M0 (s / 8))) (he : errM 16 s = 0) (hp : bitB x 0 = true)
    (hr : resI x ((m : Int) + 1) 16 nxe = false) (hl : leafI x ((m : Int) + 1) = false) : GoodR M0 root nxe a ((m : Int) + 1) (tabI x) (andR rt x) := fun b hb => by
  have hm' : (m : Int) + 1 = 2 ∨ (m : Int) + 1 = 3 ∨ (m : Int) + 1 = 4 := by omega
  have ⟨w0, pre, w2⟩ := h b (tag_up hm' hb)
  obtain ⟨y, hy⟩ : ∃ y, M0 (s / 8) = y := ⟨_, rfl⟩
  have hx0 : 0 ≤ y ∧ y ≤ 18446744073709551615 := hy ▸ hM _
  rw [hy] at hx
  have ht := tabI_le hx0.1
  have e1 : ((m : Int) + 1 + 1 - 1).toNat = m + 1 := by omega
  have e2 : ((m : Int) + 1 - 1).toNat = m := by omega
  have ea : andR rt x = andR rt y := by unfold andR; rw [eqv_bit hx 1 (by omega), eqv_bit hx 2 (by omega), eqv_bit hx 63 (by omega)]
  rw [e1, walkF_on ((tag_slot hm' hb).trans hs) hy he ((eqv_bit hx 0 (by omega)).symm.trans hp) ((eqv_res hx _ 16 nxe (by omega)).symm.trans hr) ((eqv_leaf hx _).symm.trans hl)] at w2
  rw [ea, eqv_tab hx]
  refine ⟨⟨ht.1, by omega⟩, pre ++ [((m : Int) + 1, s, y)], ?_⟩
  rw [e2, w2]
  simp

theorem fillR_all {M M0 : Int → Int} {root : Int} {nxe : Bool} (hM : ∀ s, 0 ≤ M0 s ∧ M0 s ≤ 18446744073709551615) (hE : ∀ t, eqv (M t) (M0 t)) {p a : Int} {pk : Int → Int} {r : Nat} : ∀ (n : Nat) (t : Int) (rt : Rt) (C : Int → Lines), n ≤ 4 → GoodR M0 root nxe a ((n : Int) + 1) t rt →
    InvR M0 root nxe p C → InvR M0 root nxe p (fillF p a pk r (walkF M 16 nxe a n t rt).1 rt C)
  | 0, _, _, _, _, _, hC => hC
  | n + 1, t, rt, C, hn, hg, hC => by
    obtain ⟨s, hs⟩ : ∃ s, slotI t a ((n : Int) + 1) = s := ⟨_, rfl⟩
    obtain ⟨x, hx⟩ : ∃ x, M (s / 8) = x := ⟨_, rfl⟩
    by_cases hne : errM 16 s ≠ 0
    · rw [walkF_bad (by rw [hs]; exact hne)]; exact hC
    have he : errM 16 s = 0 := by omega
    cases hp : bitB x 0 with
    | false => rw [walkF_absent hs hx he hp]; exact hC
    | true =>
      cases hr : resI x ((n : Int) + 1) 16 nxe with
      | true => rw [walkF_res hs hx he hp hr]; exact hC
      | false =>
        cases hl : leafI x ((n : Int) + 1) with
        | true => rw [walkF_leaf hs hx he hp hr hl]; exact hC
        | false =>
          rw [walkF_on hs hx he hp hr hl]
          have hn1 : 1 ≤ n := by
            rcases n with _ | n
            · unfold leafI at hl; simp at hl
            · omega
          have g2 := goodR_step hM hn1 (by omega) (by simpa using hg) hs (hx ▸ hE _) he hp hr hl
          simp only [fillF]
          split
          · exact hC
          · rw [if_pos ⟨⟨by omega, by omega⟩, hp, hl⟩]
            refine fillR_all hM hE n (tabI x) (andR rt x) _ (by omega) (by simpa using g2) fun l l0 l1 y hy => ?_
            by_cases hll : l = (n : Int) + 1
            · subst hll
              rw [upd_same] at hy
              rcases putC_mem hy with hy | rfl
              · exact hC _ l0 l1 y hy
              · exact ⟨rfl, rfl, fun b hb => g2 b hb⟩
            · rw [upd_other _ _ hll] at hy
              exact hC l l0 l1 y hy
theorem startR_good {M0 : Int → Int} {root : Int} {nxe : Bool} {p a : Int} {C : Int → Lines} (h0 : 0 ≤ root) (h1 : root ≤ 18446744073709551615) (h : InvR M0 root nxe p C) :
    ∃ n : Nat, n ≤ 4 ∧ (startQ root (deepF C p a)).1 = n ∧ GoodR M0 root nxe a ((n : Int) + 1) (startQ root (deepF C p a)).2.1 (startQ root (deepF C p a)).2.2 := by
  cases hd : deepF C p a with
  | none => exact ⟨4, by omega, rfl, goodR_top a h0 h1⟩
  | some y =>
    obtain ⟨l, x⟩ := y
    obtain ⟨l0, l1, hm, -⟩ := deepF_some hd
    refine ⟨(l - 1).toNat, by omega, ?_, ?_⟩
    · show l - 1 = _; omega
    · have : (((l - 1).toNat : Nat) : Int) + 1 = l := by omega
      rw [this]
      exact fun b hb => (h l l0 l1 _ hm).2.2 b hb
theorem orA_orA (x : Int) : orA (orA x) = orA x := orA_of (hasA_orA x)
theorem markL_at : ∀ (L : List Stp) (M : Int → Int) (t : Int), markL 16 false L M t = M t ∨ (markL 16 false L M t = orA (M t) ∧ ∃ s ∈ L, s.2.1 / 8 = t)
  | [], M, t => .inl rfl
  | s :: L, M, t => by
    have ih := markL_at L (markS 16 M s.2.1 false) t
    have h1 : markS 16 M s.2.1 false t = M t ∨ (markS 16 M s.2.1 false t = orA (M t) ∧ s.2.1 / 8 = t) := by
      unfold markS
      split
      · unfold setM
        split
        · rename_i h; exact .inr ⟨by rw [← h]; rfl, h.symm⟩
        · exact .inl rfl
      · exact .inl rfl
    have e : markL 16 false (s :: L) M t = markL 16 false L (markS 16 M s.2.1 false) t := rfl
    rw [e]
    rcases ih with ih | ⟨ih, y, hy, hyt⟩
    · rcases h1 with h1 | ⟨h1, h2⟩
      · exact .inl (ih.trans h1)
      · exact .inr ⟨ih.trans h1, s, List.mem_cons_self .., h2⟩
    · refine .inr ⟨?_, y, List.mem_cons_of_mem _ hy, hyt⟩
      rw [ih]
      rcases h1 with h1 | ⟨h1, _⟩
      · rw [h1]
      · rw [h1, orA_orA]
theorem eqvS_slots : ∀ {L K : List Stp}, eqvS L K → L.map (·.2.1) = K.map (·.2.1)
  | [], [], _ => rfl
  | a :: L, b :: K, h => by simp [h.2.1, eqvS_slots h.2.2.2]
  | [], b :: K, h => by cases h
  | a :: L, [], h => by cases h
/-- What one page that is looked for does to the memory. -/
theorem fire_marks {M0 : Int → Int} {r q : Nat} {u : Who} {a : Int} {S : OSt} (hM : ∀ s, 0 ≤ M0 s ∧ M0 s ≤ 18446744073709551615) (hE : ∀ t, eqv (S.M t) (M0 t)) (h0 : 0 ≤ u.root) (h1 : u.root ≤ 18446744073709551615) (hC : InvR M0 u.root u.nxe u.p S.C) :
    InvR M0 u.root u.nxe u.p (fireF r q canonB u a S).1.C ∧ ∀ t, (fireF r q canonB u a S).1.M t = S.M t ∨
      ((fireF r q canonB u a S).1.M t = orA (S.M t) ∧ (fireF r q canonB u a S).2 = true ∧ ∃ s ∈ pathF M0 u.root u.nxe a, s / 8 = t) := by
  unfold fireF
  by_cases hc : ((lookR u.p a S.L).2 || !canonB a) = true
  · rw [if_pos hc]; exact ⟨hC, fun t => .inl rfl⟩
  rw [if_neg hc]
  by_cases hw : (jobW S.M u.nxe u.root u.p a S.C).2.1 = 0
  · rw [if_pos hw]
    obtain ⟨n, hn4, hn, hg⟩ := startR_good (a := a) h0 h1 hC
    have hnn : (startQ u.root (deepF S.C u.p a)).1.toNat = n := by omega
    have hj : jobW S.M u.nxe u.root u.p a S.C = walkF S.M 16 u.nxe a n (startQ u.root (deepF S.C u.p a)).2.1 (startQ u.root (deepF S.C u.p a)).2.2 := by unfold jobW; rw [hnn]
    have hld := hg a rfl
    obtain ⟨pre, hpre⟩ := hld.way
    have e2 : ((n : Int) + 1 - 1).toNat = n := by omega
    rw [e2] at hpre
    have hev := walk_eqv (nxe := u.nxe) (a := a) (M := S.M) (M' := M0) (B := 16) (by omega) hE n (startQ u.root (deepF S.C u.p a)).2.1 (startQ u.root (deepF S.C u.p a)).2.2
    rw [← hj] at hev
    have hcn : canonB a = true := by
      cases hcb : canonB a with
      | true => rfl
      | false => rw [hcb] at hc; simp at hc
    have hpath : pathF M0 u.root u.nxe a = pre.map (·.2.1) ++ (jobW S.M u.nxe u.root u.p a S.C).1.map (·.2.1) := by
      unfold pathF
      rw [hpre, hcn]
      dsimp only
      rw [← hev.2, hw, if_pos (by decide), List.map_append, eqvS_slots hev.1]
    refine ⟨?_, fun t => ?_⟩
    · show InvR M0 u.root u.nxe u.p (fillF u.p a (pkF u.k1 u.k2 u.k3) q (jobW S.M u.nxe u.root u.p a S.C).1 (startQ u.root (deepF S.C u.p a)).2.2 S.C)
      rw [hj]
      exact fillR_all hM hE n _ _ _ hn4 hg hC
    · rcases markL_at (jobW S.M u.nxe u.root u.p a S.C).1 S.M t with h | ⟨h, s, hs, hst⟩
      · exact .inl h
      · refine .inr ⟨h, rfl, s.2.1, ?_, hst⟩
        rw [hpath]
        exact List.mem_append_right _ (List.mem_map_of_mem hs)
  · rw [if_neg hw]
    exact ⟨hC, fun t => .inl rfl⟩
/-- .. and any of a list. -/
theorem ahead_marks {M0 : Int → Int} {r q : Nat} {u : Who} (hM : ∀ s, 0 ≤ M0 s ∧ M0 s ≤ 18446744073709551615) (h0 : 0 ≤ u.root) (h1 : u.root ≤ 18446744073709551615) : ∀ (xs : List Int) (z : OSt × List Int),
    InvR M0 u.root u.nxe u.p z.1.C → (∀ t, z.1.M t = M0 t ∨ (z.1.M t = orA (M0 t) ∧ ∃ a ∈ z.2, ∃ s ∈ pathF M0 u.root u.nxe a, s / 8 = t)) →
    ∀ t, (xs.foldl (aheadStep r q u) z).1.M t = M0 t ∨ ((xs.foldl (aheadStep r q u) z).1.M t = orA (M0 t) ∧ ∃ a ∈ (xs.foldl (aheadStep r q u) z).2, ∃ s ∈ pathF M0 u.root u.nxe a, s / 8 = t)
  | [], z, _, h => h
  | x :: xs, z, hC, h => by
    have hE : ∀ t, eqv (z.1.M t) (M0 t) := fun t => by
      rcases h t with h | ⟨h, _⟩
      · rw [h]; exact eqv_refl _
      · rw [h]; exact eqv_symm (eqv_orA _)
    obtain ⟨i1, i2⟩ := fire_marks (r := r) (q := q) (a := x) hM hE h0 h1 hC
    refine ahead_marks hM h0 h1 xs (aheadStep r q u z x) i1 fun t => ?_
    have hsub : ∀ a ∈ z.2, a ∈ (aheadStep r q u z x).2 := fun a ha => by
      unfold aheadStep; dsimp only; split
      · exact List.mem_append_left _ ha
      · exact ha
    rcases i2 t with k | ⟨k, kf, s, hs, hst⟩
    · rcases h t with h | ⟨h, a, ha, g⟩
      · exact .inl (k.trans h)
      · exact .inr ⟨k.trans h, a, hsub a ha, g⟩
    · have hx : x ∈ (aheadStep r q u z x).2 := by unfold aheadStep; dsimp only; rw [kf, if_pos rfl]; simp
      rcases h t with h | ⟨h, a, ha, g⟩
      · exact .inr ⟨by show (fireF r q canonB u x z.1).1.M t = _; rw [k, h], x, hx, s, hs, hst⟩
      · exact .inr ⟨by show (fireF r q canonB u x z.1).1.M t = _; rw [k, h, orA_orA], x, hx, s, hs, hst⟩
theorem ahead_spares {M0 : Int → Int} {T : List Int} {r q : Nat} {u : Who} (hM : ∀ s, 0 ≤ M0 s ∧ M0 s ≤ 18446744073709551615) (h0 : 0 ≤ u.root) (h1 : u.root ≤ 18446744073709551615) (xs : List Int) (t : Int) :
    (aheadF r q u ⟨M0, T, [], fun _ => []⟩ xs).1.M t = M0 t ∨ ((aheadF r q u ⟨M0, T, [], fun _ => []⟩ xs).1.M t = orA (M0 t) ∧ ∃ a ∈ (aheadF r q u ⟨M0, T, [], fun _ => []⟩ xs).2, ∃ s ∈ pathF M0 u.root u.nxe a, s / 8 = t) :=
  ahead_marks hM h0 h1 xs (⟨M0, T, [], fun _ => []⟩, []) (fun l _ _ y hy => by cases hy) (fun t => .inl rfl) t
end Go.Proofs.Ytakkjpdolkokfaa
