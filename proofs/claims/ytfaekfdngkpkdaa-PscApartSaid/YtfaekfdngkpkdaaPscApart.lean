/- PscApart: what one PCID's walks filled isn't found for another one, nor at an address of another place of the level 4, if no walk was there: for all words and addresses. -/
import Derived.Test.YtfaekfdngkpkdaaPsk4
namespace Go.Proofs.Ytfaekfdngkpkdaa
set_option linter.unusedVariables false
set_option linter.unusedSimpArgs false
open Go.RowKit
attribute [local go_sem] wext_cell wext_frozen wext_heap alloc_cell alloc_frozen alloc_heap setCell_cell objCell_cells objFrozen_cells

def nearB (ns : List Int) (a : Int) : Nat → Bool
  | 0 => false
  | i + 1 => nearB ns a i || nearI (ns.getD i 0) / 549755813888 == a / 549755813888
theorem nearB_of {ns : List Int} {a : Int} : ∀ (k j : Nat), j < k → nearI (ns.getD j 0) / 549755813888 = a / 549755813888 → nearB ns a k = true
  | 0, j, h, _ => by omega
  | k + 1, j, h, he => by
    unfold nearB
    by_cases hj : j = k
    · subst hj; rw [he]; simp
    · rw [nearB_of k j (by omega) he]; rfl
theorem deep_near {M : Int → Int} (hM : ∀ s, 0 ≤ M s ∧ M s ≤ 18446744073709551615) {r : Nat} {ns : List Int} {n : Int} (hn : 0 ≤ n) (k : Nat) (hk : ∀ j, j < k → 0 ≤ ns.getD j 0) (h : nearB ns (nearI n) k = false) : deepF (warmP M r ns k) 1 (nearI n) = none := by
  refine deepF_none.2 fun l l0 l1 => ?_
  cases hh : hasK (kP 1 l (nearI n)) (warmP M r ns k l) with
  | false => rfl
  | true =>
    obtain ⟨-, j, hj, ht⟩ := warm_from hM k l l0 l1 _ (getLine_mem hh)
    have ha := nearI_le hn
    have hb := nearI_le (hk j hj)
    have : nearI (ns.getD j 0) / 549755813888 = nearI n / 549755813888 := by
      replace ht : tagP (nearI n) l = tagP (nearI (ns.getD j 0)) l := ht
      generalize nearI (ns.getD j 0) = x at *
      generalize nearI n = y at *
      unfold tagP at ht
      obtain rfl | rfl | rfl : l = 2 ∨ l = 3 ∨ l = 4 := by omega
      all_goals (simp at ht; omega)
    rw [nearB_of k j hj this] at h
    cases h

set_option maxHeartbeats 2000000 in
set_option maxRecDepth 100000 in
theorem pscApart_c (v : Value) (ds : List PutD) (v2 : Value) (ns : List Int) (n : Int) (w : World) (h : ListAt w v 4 PutD.cells PutD.ok ds) (hv : ListAt w v2 1 U32.cells U32.ok ns) (hn0 : 0 ≤ n) (hn1 : n ≤ 4294967295) :
    Calls Try.prog 6 #[v, v2, .int .u32 n] w fun e w' => e = .returned (.bool true) ∧ Ext w w' := by
  have HL := Lib.hid h
  have HV := Lib.hid hv
  have HNr := Lib.hid (fun w => near_c n w hn0 hn1)
  have ⟨na0, na1⟩ := nearI_le hn0
  have hdn := fun (M : Int → Int) (hM : ∀ s, 0 ≤ M s ∧ M s ≤ 18446744073709551615) r (ns : List Int) k hk h => deep_near (M := M) hM (r := r) (ns := ns) hn0 k hk h
  obtain ⟨a1, c1, rfl, -, -, -, -⟩ := h
  obtain ⟨va, vc, rfl, -, hmx, hok, -⟩ := hv
  unfold maxLen at hmx
  generalize nearI n = na at *
  have HDN := Lib.hid hdn
  have HK := Lib.hid hok
  clear hdn hok
  go_enter Try.func6, Try.ntmps6
  go_upto_region 5 with (first | (go_at_call 23; refine (awake11_c _).mono ?_; rintro e w0 ⟨rfl, hb0⟩) | (go_at_call 24; refine (built11_c _ ds _ (HL.out.ext (by repeat (first | exact Ext.refl _ | assumption | refine Ext.alloc ?_ _ | refine Ext.drew ?_ | refine Ext.setCell ?_ (by first | (simp; done) | (dsimp only; omega)) _ | refine Ext.trans ?_ (by assumption))))).mono ?_; rintro e w1 ⟨mb, Fm, rfl, hC, hE, hF, hmb⟩))
  have C1 := Lib.hid hC
  have E1 : Hid (Ext w w1) := Lib.hid ((Ext.trans (by repeat (first | exact Ext.refl _ | assumption | refine Ext.alloc ?_ _ | refine Ext.drew ?_ | refine Ext.setCell ?_ (by first | (simp; done) | (dsimp only; omega)) _ | refine Ext.trans ?_ (by assumption))) hb0).trans hE)
  have hF1 : ∀ x ∈ Fm, w.heap.size ≤ x := fun x hx => Nat.le_trans (Ext.size (Ext.trans (by repeat (first | exact Ext.refl _ | assumption | refine Ext.alloc ?_ _ | refine Ext.drew ?_ | refine Ext.setCell ?_ (by first | (simp; done) | (dsimp only; omega)) _ | refine Ext.trans ?_ (by assumption))) hb0)) (hF x hx)
  have F1 := Lib.hid hF1
  clear hC hE hF hF1 hmb hb0
  go_upto_region 6 with (first | (go_at_call 25; refine (warm_c mb Fm (builtM (ds.take 100)) [] 8 _ ns w _ (E1.out.trans (by repeat (first | exact Ext.refl _ | assumption | refine Ext.alloc ?_ _ | refine Ext.drew ?_ | refine Ext.setCell ?_ (by first | (simp; done) | (dsimp only; omega)) _ | refine Ext.trans ?_ (by assumption)))) (C1.out.ext (by repeat (first | exact Ext.refl _ | assumption | refine Ext.alloc ?_ _ | refine Ext.drew ?_ | refine Ext.setCell ?_ (by first | (simp; done) | (dsimp only; omega)) _ | refine Ext.trans ?_ (by assumption)))) F1.out HV.out (by simp) (by omega) (by omega)).mono ?_; rintro e w2 ⟨pb, cb, F, Fm2, T2, rfl, hB, hK, hf1, hf2, hp, hT⟩))
  have hM := C1.out.wide
  obtain ⟨C, hCd⟩ : ∃ C, warmP (builtM (ds.take 100)) (clampR 8) ns (min ns.length 20) = C := ⟨_, rfl⟩
  have hinv : InvC (builtM (ds.take 100)) C := by rw [← hCd]; exact warm_inv hM _
  rw [hCd] at hB
  have E2 : Hid (Ext w w2) := Lib.hid (Keeps.to_ext (E1.out.trans (by repeat (first | exact Ext.refl _ | assumption | refine Ext.alloc ?_ _ | refine Ext.drew ?_ | refine Ext.setCell ?_ (by first | (simp; done) | (dsimp only; omega)) _ | refine Ext.trans ?_ (by assumption)))) hK F1.out)
  have B2 := Lib.hid hB
  have HO := Lib.hid (deep_other (a := na) (p := 2) hinv (by omega))
  have HN := Lib.hid (fun hh => (by have := HDN.out (builtM (ds.take 100)) hM (clampR 8) ns (min ns.length 20) (fun j hj => (HK.out j (by omega)).1) hh; rw [hCd] at this; exact this : deepF C 1 na = none))
  obtain ⟨d, hd⟩ : ∃ d, deepF C 1 na = d := ⟨_, rfl⟩
  have HD1 := Lib.hid (fun w h => deepest_c pb cb F C (clampR 8) 1 na w h na0 (by omega))
  have HD2 := Lib.hid (fun w h => deepest_c pb cb F C (clampR 8) 2 na w h na0 (by omega))
  rw [hd] at HD1 HN
  rw [HO.out] at HD2
  clear hM hCd hinv hB hK hf1 hf2 hp hT hd
  go_upto_region 7 with (first | (go_at_call 26; refine (HNr.out _).mono ?_; rintro e w3 ⟨rfl, hb3⟩))
  go_upto_region 8 with (first | (go_at_call 27; refine (HD2.out _ (B2.out.psc.ext (Ext.trans (by repeat (first | exact Ext.refl _ | assumption | refine Ext.alloc ?_ _ | refine Ext.drew ?_ | refine Ext.setCell ?_ (by first | (simp; done) | (dsimp only; omega)) _ | refine Ext.trans ?_ (by assumption))) hb3))).mono ?_; rintro e w4 ⟨rfl, hb4⟩))
  go_upto_region 9 with (first | (go_at_call 27; refine (HD1.out _ (B2.out.psc.ext ((hb3.trans hb4).trans (by repeat (first | exact Ext.refl _ | assumption | refine Ext.alloc ?_ _ | refine Ext.drew ?_ | refine Ext.setCell ?_ (by first | (simp; done) | (dsimp only; omega)) _ | refine Ext.trans ?_ (by assumption)))))).mono ?_; rintro e w5 ⟨rfl, hb5⟩))
  refine wp_gen ?_; intro X hX
  have hXE : Ext w X := by rw [hX]; exact ((E2.out.trans (hb3.trans hb4)).trans (Ext.trans (by repeat (first | exact Ext.refl _ | assumption | refine Ext.alloc ?_ _ | refine Ext.drew ?_ | refine Ext.setCell ?_ (by first | (simp; done) | (dsimp only; omega)) _ | refine Ext.trans ?_ (by assumption))) hb5)).alloc _
  have XE := Lib.hid hXE
  clear hX hXE hb3 hb4 hb5
  go_upto_region 11 with (fail)
  go_loopw [15, 16] (fun bv iv wr => ∃ (i : Nat) (b : Bool), i ≤ ns.length ∧ i ≤ 20 ∧ iv = .int .i64 i ∧ bv = .bool b ∧ Hid (nearB ns na i = b ∧ Ext w wr)) (fun _ iv _ => ns.length - (intOf iv).toNat)
  case atStart => exact ⟨0, false, by omega, by omega, rfl, rfl, Lib.hid ⟨rfl, XE.out⟩⟩
  case round =>
    obtain ⟨i, b, hi, hi2, rfl, rfl, hR⟩ := hrel
    by_cases hrun : i < ns.length ∧ i < 20
    · obtain ⟨hlt, h20⟩ := hrun
      have hnb : nearB ns na (i + 1) = (nearB ns na i || nearI (ns.getD i 0) / 549755813888 == na / 549755813888) := rfl
      rw [hR.out.1] at hnb
      have HNB := Lib.hid hnb
      clear hnb
      cases b
      · obtain ⟨a', cap', he, -, -, -, hcl⟩ := HV.out
        obtain ⟨g, o, e1, e2, e3⟩ := hcl i hlt
        have he' : va = a' := by injection he
        subst he'
        subst e1
        have hn3 := hR.out.2.someCell (e3 0 _ rfl)
        have hgl : g < wr.heap.size := Nat.lt_of_lt_of_le e2 hR.out.2.size
        have hno := HK.out i hlt
        change wr.cell? ⟨g, o + i * 1 + 0, none⟩ = some (.int .u32 (ns.getD i default)) at hn3
        rw [show ns.getD i default = ns.getD i 0 from rfl] at hn3 hno
        rw [Nat.mul_one, Nat.add_zero] at hn3
        generalize ns.getD i 0 = x at hn3 hno HNB
        obtain ⟨x0, x1⟩ := hno
        have HNx := Lib.hid (fun w => near_c x w x0 x1)
        have ⟨xa0, xa1⟩ := nearI_le x0
        generalize nearI x = xa at *
        clear he hcl e3
        go_wp2_with (first | (go_at_call 26; refine (HNx.out _).mono ?_; rintro e w6 ⟨rfl, hb6⟩))
        refine ⟨⟨i + 1, (xa / 549755813888 == na / 549755813888), by omega, by omega, by go_num, rfl, Lib.hid ⟨by rw [HNB.out]; rfl, hR.out.2.trans (Ext.trans (by repeat (first | exact Ext.refl _ | assumption | refine Ext.alloc ?_ _ | refine Ext.drew ?_ | refine Ext.setCell ?_ (by first | (simp; done) | (dsimp only; omega)) _ | refine Ext.trans ?_ (by assumption))) hb6)⟩⟩, by simp [intOf]; omega⟩
      · go_wp2
        refine ⟨⟨i + 1, true, by omega, by omega, by go_num, rfl, Lib.hid ⟨by rw [HNB.out]; rfl, hR.out.2.trans (by repeat (first | exact Ext.refl _ | assumption | refine Ext.alloc ?_ _ | refine Ext.drew ?_ | refine Ext.setCell ?_ (by first | (simp; done) | (dsimp only; omega)) _ | refine Ext.trans ?_ (by assumption)))⟩⟩, by simp [intOf]; omega⟩
    · have hmin : min ns.length 20 = i := by omega
      rw [hmin] at HN
      have hRR := hR.out
      have hno : b = false → d = none := fun hb => HN.out (hRR.1.trans hb)
      have hex := Lib.hid hRR.2
      have : (i = 20 ∧ 20 < ns.length) ∨ i = ns.length := by omega
      clear hR hRR hmin HN
      rcases this with ⟨rfl, h20⟩ | rfl
      all_goals
        cases b
        · obtain rfl := hno rfl
          clear hno
          go_wp2
          (try go_ret)
          exact ⟨rfl, hex.out⟩
        · clear hno
          cases d
          all_goals
            go_wp2
            (try go_ret)
            exact ⟨rfl, hex.out⟩
end Go.Proofs.Ytfaekfdngkpkdaa
