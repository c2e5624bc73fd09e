/- What looks find behind drops; plainly. -/
import Derived.Test.YtnacgmmkmedpdaaTlbE
namespace Go.Proofs.Ytnacgmmkmedpdaa

abbrev atK (k : Key) (L : List (Key × Line)) : Option (Key × Line) := L.find? fun x => decide (k = x.1)
theorem look_find (k : Key) : ∀ (L : List (Key × Line)) (j : Nat), (look k L j).map (·.2) = (atK k L).map (·.2)
  | [], _ => rfl
  | x :: L, j => by
    unfold look
    by_cases h : k = x.1
    · rw [if_pos h, atK, List.find?_cons_of_pos (by simpa using h)]; rfl
    · rw [if_neg h, atK, List.find?_cons_of_neg (by simpa using h)]; exact look_find k L (j + 1)
theorem getLine_find (k : Key) (L : List (Key × Line)) : getLine k L = ((atK k L).map (·.2)).getD noLine := by
  rw [← look_find k L 0]
  unfold getLine
  cases look k L 0 <;> rfl
theorem hasK_find (k : Key) (L : List (Key × Line)) : hasK k L = ((atK k L).map (·.2)).isSome := by
  rw [← look_find k L 0]
  unfold hasK
  cases look k L 0 <;> rfl
theorem at_filter {P : Key → Bool} {k : Key} (h : P k = true) : ∀ (L : List (Key × Line)), atK k (L.filter fun x => P x.1) = atK k L
  | [] => rfl
  | x :: L => by
    by_cases hx : k = x.1
    · have : P x.1 = true := hx ▸ h
      rw [List.filter_cons_of_pos (p := fun x : Key × Line => P x.1) this, atK, atK, List.find?_cons_of_pos (by simpa using hx), List.find?_cons_of_pos (by simpa using hx)]
    · by_cases hp : P x.1 = true
      · rw [List.filter_cons_of_pos (p := fun x : Key × Line => P x.1) hp, atK, atK, List.find?_cons_of_neg (by simpa using hx), List.find?_cons_of_neg (by simpa using hx)]
        exact at_filter h L
      · rw [List.filter_cons_of_neg (p := fun x : Key × Line => P x.1) hp, at_filter h L, atK, atK, List.find?_cons_of_neg (by simpa using hx)]
theorem at_filter_not {P : Key → Bool} {k : Key} (h : P k = false) (L : List (Key × Line)) : atK k (L.filter fun x => P x.1) = none := by
  rw [atK, List.find?_eq_none]
  intro x hx
  have := (List.mem_filter.1 hx).2
  simp only [decide_eq_true_eq]
  intro e
  rw [← e, h] at this; cases this
theorem at_del {k k0 : Key} {L : List (Key × Line)} (hn : (keysOf L).Nodup) (h : k ≠ k0) : atK k (delL k0 L) = atK k L := by
  rw [delL_filter hn]; exact at_filter (P := (· != k0)) (by simpa using h) L
theorem at_del_same {k0 : Key} {L : List (Key × Line)} (hn : (keysOf L).Nodup) : atK k0 (delL k0 L) = none := by
  rw [delL_filter hn]; exact at_filter_not (P := (· != k0)) (by simp) L
theorem at_set {k k1 : Key} {x : Line} (h : k ≠ k1) : ∀ (L : List (Key × Line)) (i : Nat) (y : Line), L[i]? = some (k1, y) → atK k (L.set i (k1, x)) = atK k L
  | [], _, _, hi => by simp at hi
  | z :: L, 0, y, hi => by
    obtain rfl : z = (k1, y) := by simpa using hi
    rw [List.set_cons_zero, atK, atK, List.find?_cons_of_neg (by simpa using h), List.find?_cons_of_neg (by simpa using h)]
  | z :: L, i + 1, y, hi => by
    rw [List.set_cons_succ]
    have ih := at_set (x := x) h L i y (by simpa using hi)
    by_cases hz : k = z.1
    · rw [atK, atK, List.find?_cons_of_pos (by simpa using hz), List.find?_cons_of_pos (by simpa using hz)]
    · rw [atK, atK, List.find?_cons_of_neg (by simpa using hz), List.find?_cons_of_neg (by simpa using hz)]; exact ih
theorem at_put {k k1 : Key} {x : Line} {pick : Int} {r : Nat} {L : List (Key × Line)} (h : k ≠ k1) (hk : hasK k1 L = true) : atK k (putC k1 x pick r L) = atK k L := by
  unfold putC
  split
  · rfl
  · cases hl : look k1 L 0 with
    | none => unfold hasK at hk; rw [hl] at hk; cases hk
    | some y =>
      obtain ⟨i, y⟩ := y
      have h2 := (look_some hl).2.1
      simp only [Nat.sub_zero] at h2
      rw [putL_set hl]
      exact at_set h L i y h2
theorem lookR_same {p b : Int} {L L' : List (Key × Line)} (h1 : atK (kT p 1 b) L' = atK (kT p 1 b) L) (h2 : atK (kT p 2 b) L' = atK (kT p 2 b) L) (h3 : atK (kT p 3 b) L' = atK (kT p 3 b) L) : lookR p b L' = lookR p b L := by
  unfold lookR
  simp only [getLine_find, hasK_find, h1, h2, h3]
theorem of_other {p p' b : Int} {L : List (Key × Line)} (h : p' ≠ p) : lookR p' b (filtL p L) = lookR p' b L :=
  lookR_same (at_filter (P := fun k => k.p != p) (by simpa [kT] using h) L) (at_filter (P := fun k => k.p != p) (by simpa [kT] using h) L) (at_filter (P := fun k => k.p != p) (by simpa [kT] using h) L)
theorem of_none {p b : Int} {L : List (Key × Line)} : (lookR p b (filtL p L)).2 = false := by
  have e : ∀ l, atK (kT p l b) (filtL p L) = none := fun l => at_filter_not (P := fun k => k.p != p) (by simp [kT]) L
  unfold lookR resR
  simp only [hasK_find, e, Option.map_none, Option.isSome_none, Bool.false_and, Bool.false_eq_true, if_false]

theorem fin_clr1 : ∀ (i : Fin 8) (m : Fin 256), bitB (clrB ((m : Nat) : Int) ((i : Nat) : Int)) ((i : Nat) : Int) = false := by decide +kernel
theorem fin_clr2 : ∀ (i j : Fin 8) (m : Fin 256), i ≠ j → bitB (clrB ((m : Nat) : Int) ((i : Nat) : Int)) ((j : Nat) : Int) = bitB ((m : Nat) : Int) ((j : Nat) : Int) := by decide +kernel
theorem fin_clr3 : ∀ (j : Fin 8), bitB 0 ((j : Nat) : Int) = false := by decide +kernel

/-- What DropPage leaves of each key. -/
theorem drop_at {p a : Int} {r : Nat} {L : List (Key × Line)} (hn : (keysOf L).Nodup) (hr : 0 < r) (hL : L.length ≤ r) :
    (∀ k, k ≠ kT p 1 a → k ≠ kT p 2 a → k ≠ kT p 3 a → atK k (dropPageL p a r L) = atK k L) ∧ atK (kT p 2 a) (dropPageL p a r L) = none ∧ atK (kT p 3 a) (dropPageL p a r L) = none ∧
    ((hasK (kT p 1 a) (dropPageL p a r L) = false) ∨ (hasK (kT p 1 a) L = true ∧ hasK (kT p 1 a) (dropPageL p a r L) = true ∧ (outL (getLine (kT p 1 a) L) (placeI a)).m ≠ 0 ∧ getLine (kT p 1 a) (dropPageL p a r L) = outL (getLine (kT p 1 a) L) (placeI a))) ∧
    (hasK (kT p 1 a) L = true → (outL (getLine (kT p 1 a) L) (placeI a)).m ≠ 0 → hasK (kT p 1 a) (dropPageL p a r L) = true) := by
  have n12 : kT p 1 a ≠ kT p 2 a := by simp [kT]
  have n13 : kT p 1 a ≠ kT p 3 a := by simp [kT]
  have n23 : kT p 2 a ≠ kT p 3 a := by simp [kT]
  unfold dropPageL
  generalize kT p 1 a = k1 at *
  generalize kT p 2 a = k2 at *
  generalize kT p 3 a = k3 at *
  have hs2 : (delL k2 L).Sublist L := delL_sub
  have hs3 : (delL k3 (delL k2 L)).Sublist (delL k2 L) := delL_sub
  have hna : (keysOf (delL k2 L)).Nodup := hn.sublist (hs2.map _)
  have hnb : (keysOf (delL k3 (delL k2 L))).Nodup := hna.sublist (hs3.map _)
  have hlb : (delL k3 (delL k2 L)).length ≤ r := Nat.le_trans hs3.length_le (Nat.le_trans hs2.length_le hL)
  have e : ∀ k, k ≠ k2 → k ≠ k3 → atK k (delL k3 (delL k2 L)) = atK k L := fun k h2 h3 => by rw [at_del hna h3, at_del hn h2]
  have e2 : atK k2 (delL k3 (delL k2 L)) = none := by rw [at_del hna n23, at_del_same hn]
  have e3 : atK k3 (delL k3 (delL k2 L)) = none := at_del_same hna
  have g1 : getLine k1 (delL k3 (delL k2 L)) = getLine k1 L := by rw [getLine_find, getLine_find, e k1 n12 n13]
  have h1 : hasK k1 (delL k3 (delL k2 L)) = hasK k1 L := by rw [hasK_find, hasK_find, e k1 n12 n13]
  dsimp only
  rw [g1, h1]
  generalize delL k3 (delL k2 L) = M at *
  cases hh : hasK k1 L
  · rw [if_neg (by simp)]
    exact ⟨fun k q1 q2 q3 => e k q2 q3, e2, e3, .inl (by rw [h1, hh]), fun h => by cases h⟩
  · rw [if_pos rfl]
    by_cases hz : (outL (getLine k1 L) (placeI a)).m = 0
    · rw [if_pos hz]
      refine ⟨fun k q1 q2 q3 => by rw [at_del hnb q1, e k q2 q3], by rw [at_del hnb n12.symm, e2], by rw [at_del hnb n13.symm, e3], .inl ?_, fun _ h => absurd hz h⟩
      rw [hasK_find, at_del_same hnb]; rfl
    · rw [if_neg hz]
      have hp : ∀ k, k ≠ k1 → atK k (putC k1 (outL (getLine k1 L) (placeI a)) 0 r M) = atK k M := fun k hk => at_put hk (by rw [h1, hh])
      have hgot : getLine k1 (putC k1 (outL (getLine k1 L) (placeI a)) 0 r M) = outL (getLine k1 L) (placeI a) ∧ hasK k1 (putC k1 (outL (getLine k1 L) (placeI a)) 0 r M) = true := by
        have hks := keysOf_putL (x := outL (getLine k1 L) (placeI a)) (k := k1) (L := M) (by rw [h1, hh])
        have ep : putC k1 (outL (getLine k1 L) (placeI a)) 0 r M = putL k1 (outL (getLine k1 L) (placeI a)) M := by unfold putC; rw [if_neg (by omega), if_pos (by rw [h1, hh])]
        rw [ep]
        have hn2 : (keysOf (putL k1 (outL (getLine k1 L) (placeI a)) M)).Nodup := by rw [hks]; exact hnb
        cases hl : look k1 M 0 with
        | none => rw [← h1] at hh; unfold hasK at hh; rw [hl] at hh; cases hh
        | some y =>
          obtain ⟨i, y⟩ := y
          have hlt : i < M.length := (List.getElem?_eq_some_iff.1 (look_some hl).2.1).1
          have := nodup_look (k := k1) (x := outL (getLine k1 L) (placeI a)) hn2 (i := i) (by rw [putL_set hl]; simp [hlt]) 0
          unfold getLine hasK at *
          rw [this]; simp
      refine ⟨fun k q1 q2 q3 => by rw [hp k q1, e k q2 q3], by rw [hp k2 n12.symm, e2], by rw [hp k3 n13.symm, e3], .inr ⟨rfl, hgot.2, hz, hgot.1⟩, fun _ _ => hgot.2⟩

theorem drops_other {p p' a b : Int} {r : Nat} {L : List (Key × Line)} (h : p' ≠ p) (hn : (keysOf L).Nodup) (hr : 0 < r) (hL : L.length ≤ r) : lookR p' b (dropPageL p a r L) = lookR p' b L := by
  have ⟨e, _⟩ := drop_at (p := p) (a := a) hn hr hL
  have hne : ∀ l l', kT p' l b ≠ kT p l' a := fun l l' => by simp [kT, h]
  exact lookR_same (e _ (hne _ _) (hne _ _) (hne _ _)) (e _ (hne _ _) (hne _ _) (hne _ _)) (e _ (hne _ _) (hne _ _) (hne _ _))
theorem out_m {x : Line} {i : Int} (h : (outL x i).m ≠ 0) : outL x i = ⟨x.f, x.a, x.b, x.c, x.d, clrB x.m i⟩ := by
  unfold outL at *
  split at h
  · exact absurd rfl h
  · rename_i hz; rw [if_neg hz]
theorem clr_same {m i : Int} (h0 : 0 ≤ m) (h1 : m ≤ 255) (i0 : 0 ≤ i) (i1 : i ≤ 7) : bitB (clrB m i) i = false := by
  obtain ⟨a, rfl⟩ := toFin (n := 256) h0 (by omega)
  obtain ⟨b, rfl⟩ := toFin (n := 8) i0 (by omega)
  exact fin_clr1 b a
theorem clr_other {m i j : Int} (h0 : 0 ≤ m) (h1 : m ≤ 255) (i0 : 0 ≤ i) (i1 : i ≤ 7) (j0 : 0 ≤ j) (j1 : j ≤ 7) (h : i ≠ j) : bitB (clrB m i) j = bitB m j := by
  obtain ⟨a, rfl⟩ := toFin (n := 256) h0 (by omega)
  obtain ⟨b, rfl⟩ := toFin (n := 8) i0 (by omega)
  obtain ⟨c, rfl⟩ := toFin (n := 8) j0 (by omega)
  exact fin_clr2 b c a (fun e => h (by rw [e]))
theorem bit_zero {j : Int} (j0 : 0 ≤ j) (j1 : j ≤ 7) : bitB 0 j = false := by
  obtain ⟨c, rfl⟩ := toFin (n := 8) j0 (by omega)
  exact fin_clr3 c

/-- Of a page that is dropped nothing is found. -/
theorem drops_none {p a : Int} {r : Nat} {L : List (Key × Line)} (h0 : 0 ≤ a) (hok : LOk L) (hn : (keysOf L).Nodup) (hr : 0 < r) (hL : L.length ≤ r) : (lookR p a (dropPageL p a r L)).2 = false := by
  obtain ⟨-, e2, e3, e1, -⟩ := drop_at (p := p) (a := a) hn hr hL
  obtain ⟨q0, q1⟩ := placeI_lt a h0
  have hy := getLine_ok (k := kT p 1 a) hok
  unfold lookR resR
  have h2 : hasK (kT p 2 a) (dropPageL p a r L) = false := by rw [hasK_find, e2]; rfl
  have h3 : hasK (kT p 3 a) (dropPageL p a r L) = false := by rw [hasK_find, e3]; rfl
  rw [h2, h3]
  have h1 : (hasK (kT p 1 a) (dropPageL p a r L) && bitB (getLine (kT p 1 a) (dropPageL p a r L)).m (placeI a)) = false := by
    rcases e1 with e1 | ⟨-, -, hz, e1⟩
    · rw [e1]; rfl
    · rw [e1, out_m hz]
      simp only [clr_same hy.1 hy.2 q0 q1, Bool.and_false]
  rw [h1]; rfl

/-- Behind a drop: a look at another page. -/
theorem drops_at {p a b : Int} {r : Nat} {L : List (Key × Line)} (h0 : 0 ≤ a) (hb0 : 0 ≤ b) (hok : LOk L) (hn : (keysOf L).Nodup) (hr : 0 < r) (hL : L.length ≤ r) :
    ((lookR p b L).2 = true → (lookR p b L).1.l = 1 → a / 4096 ≠ b / 4096 → lookR p b (dropPageL p a r L) = lookR p b L) ∧
    ((lookR p b L).2 = true → 1 < (lookR p b L).1.l → a / sizeI (lookR p b L).1.l ≠ b / sizeI (lookR p b L).1.l → lookR p b (dropPageL p a r L) = lookR p b L) ∧
    ((lookR p b (dropPageL p a r L)).2 = true → (lookR p b L).2 = true) ∧
    ((lookR p b L).2 = true → (lookR p b L).1.l = 1 ∨ (lookR p b L).1.l = 2 ∨ (lookR p b L).1.l = 3) := by
  obtain ⟨e, e2, e3, e1, e4⟩ := drop_at (p := p) (a := a) hn hr hL
  obtain ⟨q0, q1⟩ := placeI_lt a h0
  obtain ⟨z0, z1⟩ := placeI_lt b hb0
  have hy := getLine_ok (k := kT p 1 a) hok
  generalize hD : dropPageL p a r L = D at *
  -- the great ones
  have g2 : hasK (kT p 2 b) D = true → atK (kT p 2 b) D = atK (kT p 2 b) L := fun h => by
    refine e _ (by simp [kT]) (fun q => ?_) (by simp [kT])
    rw [q, hasK_find, e2] at h; cases h
  have g3 : hasK (kT p 3 b) D = true → atK (kT p 3 b) D = atK (kT p 3 b) L := fun h => by
    refine e _ (by simp [kT]) (by simp [kT]) (fun q => ?_)
    rw [q, hasK_find, e3] at h; cases h
  have k2 : a / 2097152 ≠ b / 2097152 → atK (kT p 2 b) D = atK (kT p 2 b) L := fun h => e _ (by simp [kT]) (fun q => h (by simpa [kT, szT] using (congrArg Key.t q).symm)) (by simp [kT])
  have k3 : a / 1073741824 ≠ b / 1073741824 → atK (kT p 3 b) D = atK (kT p 3 b) L := fun h => e _ (by simp [kT]) (by simp [kT]) (fun q => h (by simpa [kT, szT] using (congrArg Key.t q).symm))
  have f2 : hasK (kT p 2 b) L = false → hasK (kT p 2 b) D = false := fun h => by
    cases hh : hasK (kT p 2 b) D with
    | false => rfl
    | true => have := g2 hh; rw [hasK_find, this, ← hasK_find, h] at hh; cases hh
  have f3 : hasK (kT p 3 b) L = false → hasK (kT p 3 b) D = false := fun h => by
    cases hh : hasK (kT p 3 b) D with
    | false => rfl
    | true => have := g3 hh; rw [hasK_find, this, ← hasK_find, h] at hh; cases hh
  -- the small one
  have s1 : (hasK (kT p 1 b) D && bitB (getLine (kT p 1 b) D).m (placeI b)) = true → (hasK (kT p 1 b) L && bitB (getLine (kT p 1 b) L).m (placeI b)) = true := fun h => by
    by_cases hk : kT p 1 b = kT p 1 a
    · rw [hk] at h ⊢
      rcases e1 with e1 | ⟨h1, h2, hz, e1⟩
      · rw [e1] at h; cases h
      · rw [h1, Bool.true_and]
        rw [h2, e1, out_m hz, Bool.true_and] at h
        dsimp only at h
        by_cases hp : placeI a = placeI b
        · rw [← hp, clr_same hy.1 hy.2 q0 q1] at h; cases h
        · rw [clr_other hy.1 hy.2 q0 q1 z0 z1 hp] at h; exact h
    · have ek := e _ hk (by simp [kT]) (by simp [kT])
      rw [hasK_find, getLine_find, ek, ← hasK_find, ← getLine_find] at h; exact h
  have t1 : a / 4096 ≠ b / 4096 → (hasK (kT p 1 b) L && bitB (getLine (kT p 1 b) L).m (placeI b)) = true →
      (hasK (kT p 1 b) D && bitB (getLine (kT p 1 b) D).m (placeI b)) = true ∧ hasF (getLine (kT p 1 b) D) (placeI b) = hasF (getLine (kT p 1 b) L) (placeI b) ∧ (getLine (kT p 1 b) D).a = (getLine (kT p 1 b) L).a ∧ (getLine (kT p 1 b) D).b = (getLine (kT p 1 b) L).b ∧ (getLine (kT p 1 b) D).c = (getLine (kT p 1 b) L).c ∧ (getLine (kT p 1 b) D).d = (getLine (kT p 1 b) L).d := fun hpg h => by
    by_cases hk : kT p 1 b = kT p 1 a
    · have hp : placeI a ≠ placeI b := fun q => by
        have h32 : b / 32768 = a / 32768 := by have := congrArg Key.t hk; simpa [kT, szT] using this
        unfold placeI at q
        omega
      rw [hk] at h ⊢
      simp only [Bool.and_eq_true] at h
      obtain ⟨h1, h2⟩ := h
      have hc : clrB (getLine (kT p 1 a) L).m (placeI a) ≠ 0 := fun hz => by
        have := clr_other hy.1 hy.2 q0 q1 z0 z1 hp
        rw [hz, bit_zero z0 z1, h2] at this; cases this
      have hz : (outL (getLine (kT p 1 a) L) (placeI a)).m ≠ 0 := by
        unfold outL; rw [if_neg hc]; exact hc
      have hD1 := e4 h1 hz
      rcases e1 with e1 | ⟨-, -, -, e1⟩
      · rw [hD1] at e1; cases e1
      · have hbit : bitB (clrB (getLine (kT p 1 a) L).m (placeI a)) (placeI b) = true := by rw [clr_other hy.1 hy.2 q0 q1 z0 z1 hp]; exact h2
        rw [hD1, e1, out_m hz]
        refine ⟨by simpa using hbit, ?_, rfl, rfl, rfl, rfl⟩
        unfold hasF
        rw [if_pos h2, if_pos hbit]
    · have ek := e _ hk (by simp [kT]) (by simp [kT])
      have eh : hasK (kT p 1 b) D = hasK (kT p 1 b) L := by rw [hasK_find, hasK_find, ek]
      have eg : getLine (kT p 1 b) D = getLine (kT p 1 b) L := by rw [getLine_find, getLine_find, ek]
      rw [eh, eg]
      exact ⟨h, rfl, rfl, rfl, rfl, rfl⟩
  have gl2 : atK (kT p 2 b) D = atK (kT p 2 b) L → getLine (kT p 2 b) D = getLine (kT p 2 b) L ∧ hasK (kT p 2 b) D = hasK (kT p 2 b) L := fun h => by rw [getLine_find, getLine_find, hasK_find, hasK_find, h]; exact ⟨rfl, rfl⟩
  have gl3 : atK (kT p 3 b) D = atK (kT p 3 b) L → getLine (kT p 3 b) D = getLine (kT p 3 b) L ∧ hasK (kT p 3 b) D = hasK (kT p 3 b) L := fun h => by rw [getLine_find, getLine_find, hasK_find, hasK_find, h]; exact ⟨rfl, rfl⟩
  unfold lookR
  generalize getLine (kT p 1 b) L = x1 at *
  generalize getLine (kT p 1 b) D = y1 at *
  generalize hasF x1 (placeI b) = fx at *
  generalize hasF y1 (placeI b) = fy at *
  generalize bitB x1.m (placeI b) = bx at *
  generalize bitB y1.m (placeI b) = by_ at *
  generalize hasK (kT p 1 b) L = hx1 at *
  generalize hasK (kT p 1 b) D = hy1 at *
  have S1 : (hx1 && bx) = false → (hy1 && by_) = false := fun h => by
    cases hh : (hy1 && by_) with
    | false => rfl
    | true => rw [s1 hh] at h; cases h
  unfold resR
  cases hb1 : (hx1 && bx)
  · have hb1' := S1 hb1
    rw [hb1']
    simp only [Bool.false_eq_true, if_false]
    cases hh2 : hasK (kT p 2 b) L
    · rw [f2 hh2]
      simp only [Bool.false_eq_true, if_false]
      cases hh3 : hasK (kT p 3 b) L
      · rw [f3 hh3]
        simp
      · simp only [if_true]
        refine ⟨fun _ h => by simp at h, fun _ _ h => ?_, fun _ => by simp, fun _ => by simp⟩
        obtain ⟨w1, w2⟩ := gl3 (k3 (by simpa [sizeI] using h))
        rw [w1, w2, hh3]; rfl
    · simp only [if_true]
      refine ⟨fun _ h => by simp at h, fun _ _ h => ?_, fun _ => by simp, fun _ => by simp⟩
      obtain ⟨w1, w2⟩ := gl2 (k2 (by simpa [sizeI] using h))
      rw [w1, w2, hh2]; rfl
  · simp only [if_true]
    refine ⟨fun _ _ h => ?_, fun _ h => by simp at h, fun _ => by simp, fun _ => by simp⟩
    obtain ⟨w1, w2, w3, w4, w5, w6⟩ := t1 h hb1
    rw [w1, w2, w3, w4, w5, w6]; rfl
end Go.Proofs.Ytnacgmmkmedpdaa
