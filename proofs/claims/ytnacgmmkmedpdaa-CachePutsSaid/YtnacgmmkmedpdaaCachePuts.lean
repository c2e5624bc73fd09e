/- CachePuts: what is put is got as it was; of the others one is gone at most, and just if there was no room, and no line of that key: for every room, all deeds and every deed. -/
import Derived.Test.YtnacgmmkmedpdaaCacheEvicts
namespace Go.Proofs.Ytnacgmmkmedpdaa
set_option linter.unusedVariables false
set_option linter.unusedSimpArgs false
open Go.RowKit
attribute [local go_sem] wext_cell wext_frozen wext_heap alloc_cell alloc_frozen alloc_heap setCell_cell objCell_cells objFrozen_cells

theorem cLine_equal (x y : Line) (w : World) : (Op.equal 38 x.val y.val).run Try.prog w = .ok (decide (x = y)) w := by
  show (Op.equalIn 10000 _ _ _).run _ _ = _
  obtain ⟨p, l, t, a, b, c⟩ := x
  obtain ⟨p', l', t', a', b', c'⟩ := y
  simp [Line.val, go_sem]
  by_cases h1 : p = p' <;> by_cases h2 : l = l' <;> by_cases h3 : t = t' <;> by_cases h4 : a = a' <;> by_cases h5 : b = b' <;> by_cases h6 : c = c' <;> simp [*]
theorem cLine_eql (p : Int) (l t a b : Bool) (c : Int) (p' : Int) (l' t' a' b' : Bool) (c' : Int) (w : World) : (binOp .eql 38 (.agg #[.int .u64 p, .bool l, .bool t, .bool a, .bool b, .int .u8 c]) (.agg #[.int .u64 p', .bool l', .bool t', .bool a', .bool b', .int .u8 c'])).run Try.prog w =
    .ok (.bool (lineB ⟨p, l, t, a, b, c⟩ ⟨p', l', t', a', b', c'⟩)) w := by
  have := cLine_equal ⟨p, l, t, a, b, c⟩ ⟨p', l', t', a', b', c'⟩ w
  rw [run_eql_struct]
  show ((Op.equal _ _ _).run _ _).andThen _ = _
  simp only [Line.val] at this
  rw [this]; rfl
attribute [local go_sem high] cLine_eql key_eql

theorem look_get {k : Key} {x : Line} {L : List (Key × Line)} {i : Nat} (hn : (keysOf L).Nodup) (h : L[i]? = some (k, x)) : getLine k L = x ∧ hasK k L = true := by
  have := nodup_look hn h 0
  unfold getLine hasK
  rw [this]; simp
/-- What a Put leaves, plainly. -/
def PutsOk (k : Key) (x : Line) (r : Nat) (L L' : List (Key × Line)) (th : Bool) (want : Nat) : Prop :=
  hasK k L = th ∧ getLine k L' = x ∧ hasK k L' = true ∧ (keysOf L).countP (fun k' => !hasK k' L') = want ∧
  ((th = true ∧ want = 0 ∧ L'.length = L.length) ∨ (th = false ∧ L.length < r ∧ want = 0 ∧ L'.length = L.length + 1 ∧ (keysOf L').getLast? = some k) ∨
   (th = false ∧ L.length = r ∧ want = 1 ∧ L'.length = L.length ∧ 0 < L.length ∧ (keysOf L').getLast? = some k))
theorem puts_ok (k : Key) (x : Line) (pick : Int) (r : Nat) (L : List (Key × Line)) (hr : 0 < r) (hL : L.length ≤ r) (hn : (keysOf L).Nodup) : ∃ th want, PutsOk k x r L (putC k x pick r L) th want := by
  cases hk : hasK k L with
  | true =>
    have e : putC k x pick r L = putL k x L := by unfold putC; rw [if_neg (by omega), if_pos hk]
    rw [e]
    have hks := keysOf_putL (x := x) hk
    have hn2 : (keysOf (putL k x L)).Nodup := by rw [hks]; exact hn
    refine ⟨true, 0, hk, ?_⟩
    have hg : getLine k (putL k x L) = x ∧ hasK k (putL k x L) = true := by
      cases hl : look k L 0 with
      | none => unfold hasK at hk; rw [hl] at hk; cases hk
      | some y =>
        obtain ⟨i, y⟩ := y
        have hlt : i < L.length := (List.getElem?_eq_some_iff.1 (look_some hl).2.1).1
        refine look_get (i := i) hn2 ?_
        rw [putL_set hl]; simp [hlt]
    refine ⟨hg.1, hg.2, ?_, .inl ⟨rfl, rfl, ?_⟩⟩
    · rw [List.countP_eq_zero]
      intro k' hk'
      have : hasK k' (putL k x L) = true := hasK_iff.2 (by rw [hks]; exact hk')
      simp [this]
    · rw [← keysOf_length, hks, keysOf_length]
  | false =>
    have hkn : k ∉ keysOf L := fun h => by have := hasK_iff.2 h; rw [hk] at this; cases this
    have e : putC k x pick r L = (if L.length < r then L else evictL pick L) ++ [(k, x)] := by unfold putC; rw [if_neg (by omega), if_neg (by rw [hk]; simp)]
    by_cases hf : L.length < r
    · rw [if_pos hf] at e
      rw [e]
      have hks : keysOf (L ++ [(k, x)]) = keysOf L ++ [k] := by simp [keysOf]
      have hn2 : (keysOf (L ++ [(k, x)])).Nodup := by
        rw [hks, List.nodup_append]
        exact ⟨hn, by simp, fun a ha b hb he => hkn (by rw [List.mem_singleton] at hb; rw [← hb, ← he]; exact ha)⟩
      have hg := look_get (i := L.length) hn2 (k := k) (x := x) (by simp)
      refine ⟨false, 0, hk, hg.1, hg.2, ?_, .inr (.inl ⟨rfl, hf, rfl, by simp, by rw [hks]; simp⟩)⟩
      rw [List.countP_eq_zero]
      intro k' hk'
      have : hasK k' (L ++ [(k, x)]) = true := hasK_iff.2 (by rw [hks]; simp [hk'])
      simp [this]
    · rw [if_neg hf] at e
      rw [e]
      have hl0 : 0 < L.length := by omega
      have hq1 := Int.emod_nonneg pick (b := (L.length : Int)) (by omega)
      have hq2 := Int.emod_lt_of_pos pick (b := (L.length : Int)) (by omega)
      obtain ⟨q, hq⟩ : ∃ q : Nat, pickI pick L.length = q := ⟨(pickI pick L.length).toNat, by unfold pickI; omega⟩
      have hql : q < L.length := by unfold pickI at hq; omega
      have hlen := evictL_length (pick := pick) hl0
      have hke : keysOf (evictL pick L) = (keysOf L).take q ++ (keysOf L).drop (q + 1) := by
        unfold evictL
        rw [if_neg (by omega), hq, show ((q : Int)).toNat = q by omega, keysOf_erase]
      have hkl : q < (keysOf L).length := by rw [keysOf_length]; exact hql
      have hs : keysOf L = (keysOf L).take q ++ (keysOf L)[q] :: (keysOf L).drop (q + 1) := by rw [List.getElem_cons_drop, List.take_append_drop]
      have hks : keysOf (evictL pick L ++ [(k, x)]) = keysOf (evictL pick L) ++ [k] := by simp [keysOf]
      generalize (keysOf L)[q] = y at hs
      generalize (keysOf L).take q = A at hs hke
      generalize (keysOf L).drop (q + 1) = B at hs hke
      rw [hke] at hks
      rw [hs] at hn hkn
      have n1 := List.nodup_append.1 hn
      have n2 := List.nodup_cons.1 n1.2.1
      simp only [List.mem_append, List.mem_cons, not_or] at hkn
      have hn2 : (keysOf (evictL pick L ++ [(k, x)])).Nodup := by
        rw [hks, List.nodup_append, List.nodup_append]
        refine ⟨⟨n1.1, n2.2, fun a ha b hb => n1.2.2 a ha b (by simp [hb])⟩, by simp, fun a ha b hb he => ?_⟩
        rw [List.mem_singleton] at hb
        rw [he, hb] at ha
        rcases List.mem_append.1 ha with ha | ha
        · exact hkn.1 ha
        · exact hkn.2.2 ha
      have hg := look_get (i := (evictL pick L).length) hn2 (k := k) (x := x) (by simp)
      refine ⟨false, 1, hk, hg.1, hg.2, ?_, .inr (.inr ⟨rfl, by omega, rfl, by rw [List.length_append, hlen]; simp; omega, hl0, by rw [hks]; simp⟩)⟩
      have hin : ∀ k', k' ∈ A ∨ k' ∈ B → hasK k' (evictL pick L ++ [(k, x)]) = true := fun k' h => hasK_iff.2 (by rw [hks]; rcases h with h | h <;> simp [h])
      have hout : hasK y (evictL pick L ++ [(k, x)]) = false := by
        cases h : hasK y (evictL pick L ++ [(k, x)]) with
        | false => rfl
        | true =>
          exfalso
          have := hasK_iff.1 h
          rw [hks] at this
          simp only [List.mem_append, List.mem_singleton] at this
          rcases this with (h | h) | h
          · exact n1.2.2 y h y (by simp) rfl
          · exact n2.1 h
          · exact hkn.2.1 h.symm
      rw [hs, List.countP_append, List.countP_cons, List.countP_eq_zero.2 (fun k' hk' => by simp [hin k' (.inl hk')]), List.countP_eq_zero.2 (fun k' hk' => by simp [hin k' (.inr hk')])]
      simp [hout]

def goneN (L : List (Key × Line)) (L' : List (Key × Line)) (j : Nat) : Nat := ((keysOf L).take j).countP (fun k' => !hasK k' L')
theorem goneN_next (L L' : List (Key × Line)) (j : Nat) (h : j < L.length) : goneN L L' (j + 1) = if hasK (kAt (keysOf L) j) L' = true then goneN L L' j else goneN L L' j + 1 := by
  have hl : j < (keysOf L).length := by rw [keysOf_length]; exact h
  have e : (keysOf L).take (j + 1) = (keysOf L).take j ++ [kAt (keysOf L) j] := by rw [List.take_add_one, List.getElem?_eq_getElem hl]; simp [kAt, List.getD, hl]
  unfold goneN
  rw [e, List.countP_append]
  cases hq : hasK (kAt (keysOf L) j) L' <;> simp [hq]
theorem goneN_le (L L' : List (Key × Line)) (j : Nat) : goneN L L' j ≤ j := Nat.le_trans List.countP_le_length (by simp; omega)

set_option maxHeartbeats 4000000 in
set_option maxRecDepth 20000 in
theorem cachePuts_c (room : Int) (v : Value) (ds : List Deed) (d : Deed) (w : World) (h0 : 0 ≤ room) (h1 : room ≤ 255) (hds : DeedsAt w v ds) (hd : d.ok) :
    Calls Try.prog 7 #[.int .u8 room, v, d.val] w fun e w' => e = .returned (.bool true) ∧ Ext w w' := by
  have hrun := fun w' (hx : Ext w w') => run_c room v ds w' h0 h1 (hds.ext hx)
  obtain ⟨a, cap, rfl, hn, hm, -, -⟩ := hds
  unfold EndRun at hrun
  have hrr : 0 < 1 + (room % 8).toNat := by omega
  generalize foldD (1 + (room % 8).toNat) (ds.take 120) = L at hrun
  generalize 1 + (room % 8).toNat = r at hrun hrr
  have HR := Lib.hid hrun
  clear hrun
  obtain ⟨kind, pick, ⟨p, l, t⟩, ⟨xf, xa, xb, xc, xd, xm⟩⟩ := d
  obtain ⟨hp0, hp1⟩ := hd
  dsimp only at hp0 hp1
  unfold Deed.val
  dsimp only
  go_enter Try.func7, Try.ntmps7
  go_upto_region 3 with (first | (go_at_call 21; refine (awake10_c _).mono ?_; rintro e w1 ⟨rfl, hb1⟩) | (go_at_call 26; refine (HR.out _ (Ext.trans (by repeat (first | exact Ext.refl _ | assumption | refine Ext.alloc ?_ _ | refine Ext.drew ?_ | refine Ext.setCell ?_ (by first | (simp; done) | (dsimp only; omega)) _ | refine Ext.trans ?_ (by assumption))) hb1)).mono ?_; rintro e w2 ⟨cb, F, rfl, hC2, hE2, hF2⟩))
  have hbx := (hb1.block w.heap.size (by simp)).trans (alloc_same ..)
  have E1 : Ext w w1 := Ext.trans (by repeat (first | exact Ext.refl _ | assumption | refine Ext.alloc ?_ _ | refine Ext.drew ?_ | refine Ext.setCell ?_ (by first | (simp; done) | (dsimp only; omega)) _ | refine Ext.trans ?_ (by assumption))) hb1
  have hlt1 := heap_lt hbx
  have hF3 : ∀ x ∈ F, w.heap.size < x := fun x hx => by have := hF2 x hx; omega
  have HBX := Lib.hid ((hE2.block _ hlt1).trans hbx)
  have HC2 := Lib.hid hC2
  have HF := Lib.hid hF3
  have HE2 := Lib.hid (E1.trans hE2)
  have hlt := Lib.hid hC2.lt
  have hpo := puts_ok ⟨p, l, t⟩ ⟨xf, xa, xb, xc, xd, xm⟩ pick r L hrr hC2.room.1 hC2.nodup
  have ⟨hr1, hr2⟩ := hC2.room
  have hs2 := hE2.size
  clear hC2 hE2 hF2 hF3 hb1 E1 hbx
  have k4 := keysOf_length L
  obtain ⟨th, want, hpo⟩ := hpo
  have HPO := Lib.hid hpo
  clear hpo
  go_upto_region 6 with (first | (go_at_call 25; refine (keys_c cb F L r _ (HC2.out.ext (by repeat (first | exact Ext.refl _ | assumption | refine Ext.alloc ?_ _ | refine Ext.drew ?_ | refine Ext.setCell ?_ (by first | (simp; done) | (dsimp only; omega)) _ | refine Ext.trans ?_ (by assumption))))).mono ?_; rintro e w3 ⟨v3, rfl, hv3, hE3, hG3⟩; obtain ⟨a3, c3, rfl, hn3, hm3⟩ := hv3.form))
  unfold maxLen at hm3
  rw [k4] at hv3 hn3 hG3
  have hG : ∀ g, (Value.slice a3 L.length c3).ownBlock = some g → g ∉ F := fun g hg hx => by have := hG3 g hg; have := hlt.out g hx; omega
  have HV3 := Lib.hid hv3
  have HE3 := Lib.hid hE3
  have HG := Lib.hid hG
  have HC3 := Lib.hid (HC2.out.ext hE3)
  have HBX3 := Lib.hid ((hE3.block _ (by omega)).trans HBX.out)
  have hs3 := hE3.size
  have x1 := (heap_cell HBX3.out 1).trans rfl
  have x2 := (heap_cell HBX3.out 2).trans rfl
  have x3 := (heap_cell HBX3.out 3).trans rfl
  have x4 := (heap_cell HBX3.out 4).trans rfl
  have hg1 := fun w1 hx => get_c cb F L r ⟨p, l, t⟩ w1 (HC3.out.ext hx)
  rw [HPO.out.1] at hg1
  generalize getLine ⟨p, l, t⟩ L = yy at hg1
  obtain ⟨yf, ya, yb, yc, yd, ym⟩ := yy
  unfold Key.val Line.val at hg1
  have HG1 := Lib.hid hg1
  clear hv3 hE3 hG3 hG hg1
  go_upto_region 7 with (first | (go_at_call 29; refine (HG1.out _ (by repeat (first | exact Ext.refl _ | assumption | refine Ext.alloc ?_ _ | refine Ext.drew ?_ | refine Ext.setCell ?_ (by first | (simp; done) | (dsimp only; omega)) _ | refine Ext.trans ?_ (by assumption)))).mono ?_; rintro e w4 ⟨rfl, hb4⟩))
  refine wp_gen ?_; intro W hW
  have EW : Ext w3 W := by rw [hW]; exact (Ext.trans (by repeat (first | exact Ext.refl _ | assumption | refine Ext.alloc ?_ _ | refine Ext.drew ?_ | refine Ext.setCell ?_ (by first | (simp; done) | (dsimp only; omega)) _ | refine Ext.trans ?_ (by assumption))) hb4).alloc _
  have HBW := Lib.hid ((EW.block _ (by omega)).trans HBX3.out)
  have HEW := Lib.hid EW
  have HCW := Lib.hid (HC3.out.ext EW)
  have hsW := EW.size
  clear hW hb4 EW x1 x2 x3 x4
  have x1 := (heap_cell HBW.out 1).trans rfl
  have x2 := (heap_cell HBW.out 2).trans rfl
  have x3 := (heap_cell HBW.out 3).trans rfl
  have x4 := (heap_cell HBW.out 4).trans rfl
  have x5 := (heap_cell HBW.out 5).trans rfl
  have x6 := (heap_cell HBW.out 6).trans rfl
  have x7 := (heap_cell HBW.out 7).trans rfl
  have x8 := (heap_cell HBW.out 8).trans rfl
  have x9 := (heap_cell HBW.out 9).trans rfl
  have x10 := (heap_cell HBW.out 10).trans rfl
  go_upto_region 8 with (first | (go_at_call 36; refine (put_c cb F L r ⟨p, l, t⟩ ⟨xf, xa, xb, xc, xd, xm⟩ pick _ (HCW.out.ext (by repeat (first | exact Ext.refl _ | assumption | refine Ext.alloc ?_ _ | refine Ext.drew ?_ | refine Ext.setCell ?_ (by first | (simp; done) | (dsimp only; omega)) _ | refine Ext.trans ?_ (by assumption)))) hp0 hp1).mono ?_; rintro e w5 ⟨rfl, F5, hC5, hK5, hF5⟩))
  generalize putC ⟨p, l, t⟩ ⟨xf, xa, xb, xc, xd, xm⟩ pick r L = L5 at hC5 HPO
  have hF55 : ∀ x ∈ F5, w.heap.size < x := fun x hx => (hF5 x hx).elim (HF.out x) fun h => by omega
  have E5 : Ext w w5 := Keeps.to_ext (HE2.out.trans (HE3.out.trans HEW.out)) hK5 fun x hx => Nat.le_of_lt (HF.out x hx)
  have hs5 := hK5.size
  have HV5 := Lib.hid ((HV3.out.ext HEW.out).keep fun g hg => hK5.block g (Nat.lt_of_lt_of_le (HV3.out.lt g hg) hsW) (HG.out g hg))
  have HB5 := Lib.hid ((hK5.block _ (by omega) (fun h => by have := HF.out _ h; omega)).trans HBW.out)
  have HC5 := Lib.hid hC5
  have HE5 := Lib.hid E5
  have hlt5 := Lib.hid hC5.lt
  have hnd5 := Lib.hid hC5.nodup
  have ⟨hr5, _⟩ := hC5.room
  have k5 := keysOf_length L5
  clear hC5 hK5 hF5 hF55 E5 x1 x2 x3 x4 x5 x6 x7 x8 x9 x10
  go_upto_region 9 with (first | (go_at_call 25; refine (keys_c cb F5 L5 r _ (HC5.out.ext (by repeat (first | exact Ext.refl _ | assumption | refine Ext.alloc ?_ _ | refine Ext.drew ?_ | refine Ext.setCell ?_ (by first | (simp; done) | (dsimp only; omega)) _ | refine Ext.trans ?_ (by assumption))))).mono ?_; rintro e w6 ⟨v6, rfl, hv6, hE6, -⟩; obtain ⟨a6, c6, rfl, hn6, hm6⟩ := hv6.form))
  unfold maxLen at hm6
  rw [k5] at hn6 hv6
  have HV6 := Lib.hid hv6
  have HVW6 := Lib.hid (HV5.out.ext hE6)
  have HC6 := Lib.hid (HC5.out.ext hE6)
  have HE6 := Lib.hid (HE5.out.trans hE6)
  have hs6 := hE6.size
  have HB6 := Lib.hid ((hE6.block _ (by omega)).trans HB5.out)
  have x2 := (heap_cell HB6.out 2).trans rfl
  have x3 := (heap_cell HB6.out 3).trans rfl
  have x4 := (heap_cell HB6.out 4).trans rfl
  have hg2 := fun w1 hx => get_c cb F5 L5 r ⟨p, l, t⟩ w1 (HC6.out.ext hx)
  rw [HPO.out.2.1, HPO.out.2.2.1] at hg2
  unfold Key.val Line.val at hg2
  have HG2 := Lib.hid hg2
  clear hv6 hE6 hg2
  go_upto_region 10 with (first | (go_at_call 29; refine (HG2.out _ (by repeat (first | exact Ext.refl _ | assumption | refine Ext.alloc ?_ _ | refine Ext.drew ?_ | refine Ext.setCell ?_ (by first | (simp; done) | (dsimp only; omega)) _ | refine Ext.trans ?_ (by assumption)))).mono ?_; rintro e w7 ⟨rfl, hb7⟩))
  go_wp2
  refine wp_gen ?_; intro V hV
  have EV : Ext w6 V := by rw [hV]; exact (Ext.trans (by repeat (first | exact Ext.refl _ | assumption | refine Ext.alloc ?_ _ | refine Ext.drew ?_ | refine Ext.setCell ?_ (by first | (simp; done) | (dsimp only; omega)) _ | refine Ext.trans ?_ (by assumption))) hb7).alloc _
  have b8 : V.heap[w7.heap.size]? = some (.cells #[.int .u64 xf, .bool xa, .bool xb, .bool xc, .bool xd, .int .u8 xm] 38 (0, 0)) := by rw [hV]; exact alloc_same ..
  have hz7 := hb7.size
  have hsv := heap_lt b8
  generalize w7.heap.size = nb at b8 hz7 hsv ⊢
  have B8 := Lib.hid b8
  have HEV := Lib.hid EV
  clear hV hb7 EV b8 x2 x3 x4
  have hz0 : goneN L L5 0 = 0 := by simp [goneN]
  go_loopw [15, 16] (fun lo i wr => ∃ j, j ≤ L.length ∧ i = .int .i64 j ∧ lo = .int .i64 (goneN L L5 j) ∧ Hid (Ext V wr)) (fun _ i _ => L.length - (intOf i).toNat)
  case atStart => exact ⟨0, by omega, rfl, by rw [hz0]; rfl, Lib.hid (Ext.refl _)⟩
  case round =>
    obtain ⟨j, hj, rfl, rfl, hR⟩ := hrel
    have hsr := hR.out.size
    have hjn := goneN_le L L5 j
    by_cases hlt : j < L.length
    · obtain ⟨g, hg⟩ : ∃ g, a3 = some ⟨g, 0, none⟩ := by
        rcases HVW6.out.2 with ⟨_, h0⟩ | ⟨g, _, _, he, _⟩
        · omega
        · exact ⟨g, by injection he⟩
      subst hg
      obtain ⟨z0, z1, z2⟩ := rowK_get (keysOf L) j (by omega)
      have HR3 := (HVW6.out.ext HEV.out).ext hR.out
      have y0 := HR3.cells (g := g) rfl _ _ z0
      have y1 := HR3.cells (g := g) rfl _ _ z1
      have y2 := HR3.cells (g := g) rfl _ _ z2
      have hgl := HR3.lt g rfl
      have hget := fun w1 hx => get_c cb F5 L5 r (kAt (keysOf L) j) w1 (HC6.out.ext (HEV.out.trans (hR.out.trans hx)))
      have hnx := goneN_next L L5 j hlt
      generalize kAt (keysOf L) j = kk at hget y0 y1 y2 hnx
      obtain ⟨kp, kl, kt⟩ := kk
      generalize getLine ⟨kp, kl, kt⟩ L5 = yy at hget
      obtain ⟨zf, za, zb, zc, zd, zm⟩ := yy
      generalize hasK ⟨kp, kl, kt⟩ L5 = sb at hget hnx
      unfold Key.val Line.val at hget
      have HGet := Lib.hid hget
      have HNX := Aside.mk hnx
      clear z0 z1 z2 hget HR3 hnx
      cases sb
      · go_wp2_with (first | (go_at_call 29; refine (HGet.out _ (by repeat (first | exact Ext.refl _ | assumption | refine Ext.alloc ?_ _ | refine Ext.drew ?_ | refine Ext.setCell ?_ (by first | (simp; done) | (dsimp only; omega)) _ | refine Ext.trans ?_ (by assumption)))).mono ?_; rintro e w9 ⟨rfl, hb9⟩))
        refine ⟨⟨j + 1, by omega, by go_num, ?_, Lib.hid (hR.out.trans ((Ext.trans (by repeat (first | exact Ext.refl _ | assumption | refine Ext.alloc ?_ _ | refine Ext.drew ?_ | refine Ext.setCell ?_ (by first | (simp; done) | (dsimp only; omega)) _ | refine Ext.trans ?_ (by assumption))) hb9).alloc _))⟩, by simp [intOf]; omega⟩
        rw [HNX.out, if_neg (by simp)]
        go_num
      · go_wp2_with (first | (go_at_call 29; refine (HGet.out _ (by repeat (first | exact Ext.refl _ | assumption | refine Ext.alloc ?_ _ | refine Ext.drew ?_ | refine Ext.setCell ?_ (by first | (simp; done) | (dsimp only; omega)) _ | refine Ext.trans ?_ (by assumption)))).mono ?_; rintro e w9 ⟨rfl, hb9⟩))
        refine ⟨⟨j + 1, by omega, by go_num, ?_, Lib.hid (hR.out.trans ((Ext.trans (by repeat (first | exact Ext.refl _ | assumption | refine Ext.alloc ?_ _ | refine Ext.drew ?_ | refine Ext.setCell ?_ (by first | (simp; done) | (dsimp only; omega)) _ | refine Ext.trans ?_ (by assumption))) hb9).alloc _))⟩, by simp [intOf]; omega⟩
        rw [HNX.out, if_pos trivial]
    · have hcnt : goneN L L5 j = want := by
        rw [← HPO.out.2.2.2.1]; unfold goneN; rw [List.take_of_length_le (by rw [k4]; omega)]
      rw [hcnt]
      have E6r := HEV.out.trans hR.out
      have HX6 := Lib.hid ((E6r.block _ (by omega)).trans HB6.out)
      have HX8 := Lib.hid ((hR.out.block nb hsv).trans B8.out)
      have HEND := Lib.hid (HE6.out.trans E6r)
      have HCR := Lib.hid (HC6.out.ext E6r)
      have HVR := Lib.hid (HV6.out.ext E6r)
      have hlw : w.heap.size < wr.heap.size := by omega
      have hln : nb < wr.heap.size := by omega
      have hcase := HPO.out.2.2.2.2
      have hL5r : L5.length ≤ 64 := by omega
      clear E6r hcnt hjn
      have key : ∀ (q : Nat), L5.length = q + 1 → (keysOf L5).getLast? = some ⟨p, l, t⟩ → ∃ g, a6 = some ⟨g, 0, none⟩ ∧ g < wr.heap.size ∧ wr.cell? ⟨g, q * 3, none⟩ = some (.int .i64 p) ∧ wr.cell? ⟨g, q * 3 + 1, none⟩ = some (.int .i64 l) ∧ wr.cell? ⟨g, q * 3 + 2, none⟩ = some (.int .u64 t) := by
        intro q hq hlast
        obtain ⟨g, rfl⟩ : ∃ g, a6 = some ⟨g, 0, none⟩ := by
          rcases HVR.out.2 with ⟨_, h0⟩ | ⟨g, _, _, he, _⟩
          · omega
          · exact ⟨g, by injection he⟩
        have hka : kAt (keysOf L5) q = ⟨p, l, t⟩ := by
          rw [List.getLast?_eq_getElem?, k5, hq] at hlast
          unfold kAt
          rw [List.getD, show q + 1 - 1 = q by omega] at *
          rw [hlast]; rfl
        obtain ⟨z0, z1, z2⟩ := rowK_get (keysOf L5) q (by omega)
        rw [hka] at z0 z1 z2
        exact ⟨g, rfl, HVR.out.lt g rfl, HVR.out.cells (g := g) rfl _ _ z0, HVR.out.cells (g := g) rfl _ _ z1, HVR.out.cells (g := g) rfl _ _ z2⟩
      have KEY := Lib.hid key
      clear key
      have hlB : lineB ⟨xf, xa, xb, xc, xd, xm⟩ ⟨xf, xa, xb, xc, xd, xm⟩ = true := by simp [lineB]
      have hkB : keyB ⟨p, l, t⟩ ⟨p, l, t⟩ = true := by simp [keyB]
      rcases hcase with ⟨rfl, rfl, hl⟩ | ⟨rfl, hlt', rfl, hl, hlast⟩ | ⟨rfl, hleq, rfl, hl, hpos, hlast⟩
      · by_cases hfull : L.length = r
        · have hfb : ((L.length : Int) == (r : Int)) = true := by simp [hfull]
          go_upto_region 21 with (first | (go_at_call 35; refine (room_c cb F5 L5 _ _ (HCR.out.ext (by repeat (first | exact Ext.refl _ | assumption | refine Ext.alloc ?_ _ | refine Ext.drew ?_ | refine Ext.setCell ?_ (by first | (simp; done) | (dsimp only; omega)) _ | refine Ext.trans ?_ (by assumption))))).mono ?_; rintro e w9 ⟨rfl, hb9⟩))
          have HX6' := Lib.hid ((hb9.block _ hlw).trans HX6.out)
          have HX8' := Lib.hid ((hb9.block nb hln).trans HX8.out)
          have x2 := (heap_cell HX6'.out 2).trans rfl
          have x3 := (heap_cell HX6'.out 3).trans rfl
          have x4 := (heap_cell HX6'.out 4).trans rfl
          have x5 := (heap_cell HX6'.out 5).trans rfl
          have x6 := (heap_cell HX6'.out 6).trans rfl
          have x7 := (heap_cell HX6'.out 7).trans rfl
          have x8 := (heap_cell HX6'.out 8).trans rfl
          have x9 := (heap_cell HX6'.out 9).trans rfl
          have x10 := (heap_cell HX6'.out 10).trans rfl
          have e0 := (heap_cell HX8'.out 0).trans rfl
          have e1 := (heap_cell HX8'.out 1).trans rfl
          have e2 := (heap_cell HX8'.out 2).trans rfl
          have e3 := (heap_cell HX8'.out 3).trans rfl
          have e4 := (heap_cell HX8'.out 4).trans rfl
          have e5 := (heap_cell HX8'.out 5).trans rfl
          have hs9 := hb9.size
          have hlw9 : w.heap.size < w9.heap.size := by omega
          have hln9 : nb < w9.heap.size := by omega
          have HB9 := Lib.hid (HEND.out.trans hb9)
          clear hb9
          refine region_ext (by kernel_rfl) (by kernel_rfl) ?_; (repeat (go_big_quiet_step (fail))); refine wpQuiet_nil ?_; intro w1 hb; have ⟨hc, hf, hh, hs⟩ := hb.facts; try simp only [World.size_alloc, World.size_setCell, World.size_drew] at hs
          go_wp2
          go_ret
          exact ⟨rfl, HB9.out.trans hb⟩
        · have hfb : ((L.length : Int) == (r : Int)) = false := by simp; omega
          go_upto_region 21 with (first | (go_at_call 35; refine (room_c cb F5 L5 _ _ (HCR.out.ext (by repeat (first | exact Ext.refl _ | assumption | refine Ext.alloc ?_ _ | refine Ext.drew ?_ | refine Ext.setCell ?_ (by first | (simp; done) | (dsimp only; omega)) _ | refine Ext.trans ?_ (by assumption))))).mono ?_; rintro e w9 ⟨rfl, hb9⟩))
          have HX6' := Lib.hid ((hb9.block _ hlw).trans HX6.out)
          have HX8' := Lib.hid ((hb9.block nb hln).trans HX8.out)
          have x2 := (heap_cell HX6'.out 2).trans rfl
          have x3 := (heap_cell HX6'.out 3).trans rfl
          have x4 := (heap_cell HX6'.out 4).trans rfl
          have x5 := (heap_cell HX6'.out 5).trans rfl
          have x6 := (heap_cell HX6'.out 6).trans rfl
          have x7 := (heap_cell HX6'.out 7).trans rfl
          have x8 := (heap_cell HX6'.out 8).trans rfl
          have x9 := (heap_cell HX6'.out 9).trans rfl
          have x10 := (heap_cell HX6'.out 10).trans rfl
          have e0 := (heap_cell HX8'.out 0).trans rfl
          have e1 := (heap_cell HX8'.out 1).trans rfl
          have e2 := (heap_cell HX8'.out 2).trans rfl
          have e3 := (heap_cell HX8'.out 3).trans rfl
          have e4 := (heap_cell HX8'.out 4).trans rfl
          have e5 := (heap_cell HX8'.out 5).trans rfl
          have hs9 := hb9.size
          have hlw9 : w.heap.size < w9.heap.size := by omega
          have hln9 : nb < w9.heap.size := by omega
          have HB9 := Lib.hid (HEND.out.trans hb9)
          clear hb9
          refine region_ext (by kernel_rfl) (by kernel_rfl) ?_; (repeat (go_big_quiet_step (fail))); refine wpQuiet_nil ?_; intro w1 hb; have ⟨hc, hf, hh, hs⟩ := hb.facts; try simp only [World.size_alloc, World.size_setCell, World.size_drew] at hs
          go_wp2
          go_ret
          exact ⟨rfl, HB9.out.trans hb⟩
      · by_cases hfull : L.length = r
        · omega
        · have hfb : ((L.length : Int) == (r : Int)) = false := by simp; omega
          go_upto_region 21 with (first | (go_at_call 35; refine (room_c cb F5 L5 _ _ (HCR.out.ext (by repeat (first | exact Ext.refl _ | assumption | refine Ext.alloc ?_ _ | refine Ext.drew ?_ | refine Ext.setCell ?_ (by first | (simp; done) | (dsimp only; omega)) _ | refine Ext.trans ?_ (by assumption))))).mono ?_; rintro e w9 ⟨rfl, hb9⟩))
          have HX6' := Lib.hid ((hb9.block _ hlw).trans HX6.out)
          have HX8' := Lib.hid ((hb9.block nb hln).trans HX8.out)
          have x2 := (heap_cell HX6'.out 2).trans rfl
          have x3 := (heap_cell HX6'.out 3).trans rfl
          have x4 := (heap_cell HX6'.out 4).trans rfl
          have x5 := (heap_cell HX6'.out 5).trans rfl
          have x6 := (heap_cell HX6'.out 6).trans rfl
          have x7 := (heap_cell HX6'.out 7).trans rfl
          have x8 := (heap_cell HX6'.out 8).trans rfl
          have x9 := (heap_cell HX6'.out 9).trans rfl
          have x10 := (heap_cell HX6'.out 10).trans rfl
          have e0 := (heap_cell HX8'.out 0).trans rfl
          have e1 := (heap_cell HX8'.out 1).trans rfl
          have e2 := (heap_cell HX8'.out 2).trans rfl
          have e3 := (heap_cell HX8'.out 3).trans rfl
          have e4 := (heap_cell HX8'.out 4).trans rfl
          have e5 := (heap_cell HX8'.out 5).trans rfl
          have hs9 := hb9.size
          have hlw9 : w.heap.size < w9.heap.size := by omega
          have hln9 : nb < w9.heap.size := by omega
          have HB9 := Lib.hid (HEND.out.trans hb9)
          obtain ⟨g, rfl, hg9, y0, y1, y2⟩ := KEY.out L.length hl hlast
          have y0 := hb9.someCell y0
          have y1 := hb9.someCell y1
          have y2 := hb9.someCell y2
          have hg9 : g < w9.heap.size := by omega
          clear hb9
          refine region_ext (by kernel_rfl) (by kernel_rfl) ?_; (repeat (go_big_quiet_step (fail))); refine wpQuiet_nil ?_; intro w1 hb; have ⟨hc, hf, hh, hs⟩ := hb.facts; try simp only [World.size_alloc, World.size_setCell, World.size_drew] at hs
          go_wp2
          go_ret
          exact ⟨rfl, HB9.out.trans hb⟩
      · by_cases hfull : L.length = r
        · have hfb : ((L.length : Int) == (r : Int)) = true := by simp [hfull]
          obtain ⟨m, rfl⟩ : ∃ m, r = m + 1 := ⟨r - 1, by omega⟩
          have hlm : L5.length = m + 1 := by omega
          clear hleq
          go_upto_region 21 with (first | (go_at_call 35; refine (room_c cb F5 L5 _ _ (HCR.out.ext (by repeat (first | exact Ext.refl _ | assumption | refine Ext.alloc ?_ _ | refine Ext.drew ?_ | refine Ext.setCell ?_ (by first | (simp; done) | (dsimp only; omega)) _ | refine Ext.trans ?_ (by assumption))))).mono ?_; rintro e w9 ⟨rfl, hb9⟩))
          have HX6' := Lib.hid ((hb9.block _ hlw).trans HX6.out)
          have HX8' := Lib.hid ((hb9.block nb hln).trans HX8.out)
          have x2 := (heap_cell HX6'.out 2).trans rfl
          have x3 := (heap_cell HX6'.out 3).trans rfl
          have x4 := (heap_cell HX6'.out 4).trans rfl
          have x5 := (heap_cell HX6'.out 5).trans rfl
          have x6 := (heap_cell HX6'.out 6).trans rfl
          have x7 := (heap_cell HX6'.out 7).trans rfl
          have x8 := (heap_cell HX6'.out 8).trans rfl
          have x9 := (heap_cell HX6'.out 9).trans rfl
          have x10 := (heap_cell HX6'.out 10).trans rfl
          have e0 := (heap_cell HX8'.out 0).trans rfl
          have e1 := (heap_cell HX8'.out 1).trans rfl
          have e2 := (heap_cell HX8'.out 2).trans rfl
          have e3 := (heap_cell HX8'.out 3).trans rfl
          have e4 := (heap_cell HX8'.out 4).trans rfl
          have e5 := (heap_cell HX8'.out 5).trans rfl
          have hs9 := hb9.size
          have hlw9 : w.heap.size < w9.heap.size := by omega
          have hln9 : nb < w9.heap.size := by omega
          have HB9 := Lib.hid (HEND.out.trans hb9)
          obtain ⟨g, rfl, hg9, y0, y1, y2⟩ := KEY.out m hlm hlast
          have y0 := hb9.someCell y0
          have y1 := hb9.someCell y1
          have y2 := hb9.someCell y2
          have hg9 : g < w9.heap.size := by omega
          clear hb9
          refine region_ext (by kernel_rfl) (by kernel_rfl) ?_; (repeat (go_big_quiet_step (fail))); refine wpQuiet_nil ?_; intro w1 hb; have ⟨hc, hf, hh, hs⟩ := hb.facts; try simp only [World.size_alloc, World.size_setCell, World.size_drew] at hs
          go_wp2
          go_ret
          exact ⟨rfl, HB9.out.trans hb⟩
        · omega
end Go.Proofs.Ytnacgmmkmedpdaa
