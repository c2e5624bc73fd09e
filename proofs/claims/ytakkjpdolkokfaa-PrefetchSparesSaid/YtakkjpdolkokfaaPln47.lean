/- Joined texts, part 47 of what the law stands on: each as its own head says. -/
import Derived.Test.YtakkjpdolkokfaaPln45
import Derived.Test.YtakkjpdolkokfaaPln46
/- Prefetch's laws: awake. -/
namespace Go.Proofs.Ytakkjpdolkokfaa
set_option linter.unusedVariables false
set_option linter.unusedSimpArgs false
open Go.RowKit
attribute [local go_sem] wext_cell wext_frozen wext_heap alloc_cell alloc_frozen alloc_heap setCell_cell objCell_cells objFrozen_cells

def tiny15 : List PutD := [⟨0, 1, 7, 0⟩, ⟨8, 2, 7, 0⟩, ⟨16, 3, 7, 0⟩, ⟨25, 5, 7, 0⟩]
theorem tiny15_at {W : World} {g : Nat} {e : TypeId} (h : W.heap[g]? = some (.cells #[.int .u16 0, .int .u16 1, .int .u8 7, .int .u64 0, .int .u16 8, .int .u16 2, .int .u8 7, .int .u64 0, .int .u16 16, .int .u16 3, .int .u8 7, .int .u64 0, .int .u16 25, .int .u16 5, .int .u8 7, .int .u64 0] e (0, 0))) :
    ListAt W (.slice (some ⟨g, 0, none⟩) 4 4) 4 PutD.cells PutD.ok tiny15 := by
  refine ⟨some ⟨g, 0, none⟩, 4, rfl, by simp [tiny15], by simp [maxLen], fun i hi => ?_, fun i hi => ⟨g, 0, rfl, heap_lt h, fun j u hu => ?_⟩⟩
  · have : i = 0 ∨ i = 1 ∨ i = 2 ∨ i = 3 := by simp [tiny15] at hi; omega
    rcases this with rfl | rfl | rfl | rfl <;> (simp only [tiny15, List.getD_cons_zero, List.getD_cons_succ, PutD.ok]; omega)
  · have : i = 0 ∨ i = 1 ∨ i = 2 ∨ i = 3 := by simp [tiny15] at hi; omega
    have hj : j < 4 := by
      have := (List.getElem?_eq_some_iff.1 hu).1
      simpa [PutD.cells] using this
    have hj4 : j = 0 ∨ j = 1 ∨ j = 2 ∨ j = 3 := by omega
    rcases this with rfl | rfl | rfl | rfl <;> rcases hj4 with rfl | rfl | rfl | rfl <;> (rw [← hu]; exact heap_cell h _)
def who0 : Who := ⟨0, 0, 0, 0, 0, 0, false⟩
theorem who0_ok : who0.ok := by
  refine ⟨by simp [who0], fun l => ?_, by simp [who0], by simp [who0]⟩
  show -9223372036854775808 ≤ pkF 0 0 0 l ∧ pkF 0 0 0 l ≤ 9223372036854775807
  unfold pkF; split; omega; split <;> omega
def opt0 (M : Int → Int) : OSt := ⟨M, [], [], fun _ => []⟩
theorem tiny15_path : (pathF (builtM (tiny15.take 100)) 0 false 4096).length = 4 := by decide +kernel
theorem tiny15_ahead : (aheadF (clampR 2) (clampR 2) who0 (opt0 (builtM (tiny15.take 100))) [4096, 8192]).2 = [4096] := by decide +kernel
theorem plan_ex0 : nextB (itB 140737488347136 0) = true := by decide +kernel
theorem plan_ex1 : nextB (itB 140737488347136 1) = false := by decide +kernel
theorem plan_ex : itB 140737488347136 1 = 140737488351232 := by decide +kernel

theorem planAt_new {w : World} {G : List Nat} (hG : ∀ x ∈ G, x < w.heap.size) {ks : List Int} (hk : ∀ x ∈ ks, 0 ≤ x ∧ x ≤ 18446744073709551615) (hl : ks.length ≤ maxLen) {cap : Nat} :
    PlanAt (w.alloc (.cells (ks.map (.int .u64 ·)).toArray 34)) G (.slice (some ⟨w.heap.size, 0, none⟩) ks.length cap) ks := by
  refine ⟨_, _, rfl, hl, hk, fun j hj => ⟨_, _, rfl, fun hm => by have := hG _ hm; omega, by simp, ?_⟩⟩
  rw [heap_cell (alloc_same ..)]
  simp [List.getD, hj]

set_option maxHeartbeats 2000000 in
set_option maxRecDepth 100000 in
theorem awake15_c (w : World) : Calls Try.prog 15 #[] w fun e w' => e = .returned (.bool true) ∧ Ext w w' := by
  go_enter Try.func15, Try.ntmps15
  go_upto_region 2 with (first | (go_at_call 16; refine (plan_c 140737488347136 3 _ (by omega) (by omega) (by omega) (by omega)).mono ?_; rintro e w1 ⟨pv, k, rfl, hO, hk, hp, hd, hE1⟩))
  have hk1 : k = 1 := by
    rcases Nat.lt_trichotomy k 1 with h | h | h
    · have h0 : k = 0 := by omega
      subst h0
      rcases hd with hd | hd
      · exact absurd hd (by decide)
      · rw [plan_ex0] at hd; cases hd
    · exact h
    · have := hp 1 h; rw [plan_ex1] at this; cases this
  subst hk1
  have hrow : rowB 140737488347136 1 = [.int .u64 140737488351232] := by
    show [Value.int .u64 (itB 140737488347136 1)] = _
    rw [plan_ex]
  rw [hrow] at hO
  obtain ⟨pg, pcap, rfl⟩ : ∃ pg pcap, pv = .slice (some ⟨pg, 0, none⟩) 1 pcap := by
    rcases hO.2 with ⟨_, h0⟩ | ⟨g, cap, cur, rfl, _⟩
    · omega
    · exact ⟨g, cap, rfl⟩
  have P1 := Lib.hid (hO.cells (g := pg) rfl 0 _ rfl)
  have L1 : pg < w1.heap.size := hO.lt pg rfl
  have E1 : Hid (Ext w w1) := Lib.hid hE1
  clear hO hk hp hd hE1 hrow
  go_upto_region 3 with (first | (go_at_call 19; refine (built15_c _ tiny15 _ (tiny15_at (alloc_same ..))).mono ?_; rintro e w2 ⟨mb, Fm, rfl, hC, hE2, hF, hmb⟩))
  obtain ⟨M, hM⟩ : ∃ M, builtM (tiny15.take 100) = M := ⟨_, rfl⟩
  rw [hM] at hC
  have C2 := Lib.hid hC
  have E2 : Hid (Ext w1 w2) := Lib.hid (((Ext.refl w1).alloc _).trans hE2)
  have F2 : Hid (∀ x ∈ Fm, w1.heap.size ≤ x) := Lib.hid fun x hx => by have := hF x hx; simp at this; omega
  have hz2 := E2.out.size
  clear hC hE2 hF hmb
  have HPa := Lib.hid (fun w1 h => path_c mb Fm M [] 0 0 4096 false false false false false false w1 h (by omega) (by omega) (by omega) (by omega))
  have hpl := tiny15_path
  rw [hM] at hpl
  have hah := tiny15_ahead
  rw [hM] at hah
  have HAH := Lib.hid hah
  clear hM hah
  generalize pathF M 0 false 4096 = X at HPa hpl
  have HPL := Lib.hid hpl
  clear hpl
  go_upto_region 6 with (first | (go_at_call 27; refine (HPa.out _ (C2.out.ext (by repeat (first | exact Ext.refl _ | assumption | refine Ext.alloc ?_ _ | refine Ext.drew ?_ | refine Ext.setCell ?_ (by first | (simp; done) | (dsimp only; omega)) _ | refine Ext.trans ?_ (by assumption))))).mono ?_; rintro e w3 ⟨v3, rfl, o3, -, hb3⟩; rw [HPL.out] at o3; obtain ⟨a3, c3, rfl, -, -⟩ := o3.form; clear o3))
  have C3 := Lib.hid (C2.out.ext hb3)
  have E3 := Lib.hid (E2.out.trans hb3)
  have hz3 := hb3.size
  clear hb3
  have HTr := Lib.hid (fun w1 h => trace_c mb Fm 16 M [] w1 h (by simp))
  go_upto_region 7 with (first | (go_at_call 24; refine (HTr.out _ (C3.out.ext (by repeat (first | exact Ext.refl _ | assumption | refine Ext.alloc ?_ _ | refine Ext.drew ?_ | refine Ext.setCell ?_ (by first | (simp; done) | (dsimp only; omega)) _ | refine Ext.trans ?_ (by assumption))))).mono ?_; rintro e w4 ⟨v4, rfl, o4, hb4, -⟩; replace o4 : Owns w4 34 1 v4 0 [] := o4; obtain ⟨a4, c4, rfl, -, -⟩ := o4.form; clear o4))
  have C4 := Lib.hid (C3.out.ext hb4)
  have E4 := Lib.hid (E3.out.trans hb4)
  have hz4 := hb4.size
  clear hb4
  have HNew := Lib.hid (fun w1 h => optNew_c mb Fm M [] 2 2 w1 h (by omega) (by omega) (by omega) (by omega))
  have HAh := Lib.hid (fun tb cb Ft pb pc Fp v w1 h hp => ahead_c mb Fm (opt0 M) tb cb Ft (clampR 2) pb pc Fp (clampR 2) who0 0 false false false false false v [4096, 8192] w1 h (by simp [opt0]) who0_ok hp)
  generalize aheadF (clampR 2) (clampR 2) who0 (opt0 M) [4096, 8192] = z at HAH HAh
  obtain ⟨zs, zl⟩ := z
  have hzl : zl = [4096] := HAH.out
  subst hzl
  clear HAH
  go_upto_region 8 with (first | (go_at_call 20; refine (HNew.out _ (C4.out.ext (by repeat (first | exact Ext.refl _ | assumption | refine Ext.alloc ?_ _ | refine Ext.drew ?_ | refine Ext.setCell ?_ (by first | (simp; done) | (dsimp only; omega)) _ | refine Ext.trans ?_ (by assumption))))).mono ?_; rintro e w5 ⟨tb, cb, Ft, pb, pc, Fp, rfl, hO5, hb5, hFt, hFp⟩) | (go_at_call 22; refine (HAh.out tb cb Ft pb pc Fp _ _ (hO5.ext ((Ext.refl w5).alloc _)) (planAt_new (ks := [4096, 8192]) hO5.lt (by simp) (by simp [maxLen]))).mono ?_; rintro e w6 ⟨v6, F1, F2', F3, rfl, o6, n6, hO6, hk6, f6⟩))
  have hz5 := hb5.size
  have hfr : ∀ x ∈ allO Fm Ft Fp, w1.heap.size ≤ x := fun x hx => by
    rcases mem_allO.1 hx with hx | hx | hx
    · exact F2.out x hx
    · have := hFt x hx; omega
    · have := hFp x hx; omega
  have E6 : Hid (Ext w1 w6) := Lib.hid (Keeps.to_ext (E4.out.trans (hb5.trans ((Ext.refl w5).alloc _))) hk6 hfr)
  obtain ⟨g6, c6, rfl⟩ : ∃ g6 c6, v6 = .slice (some ⟨g6, 0, none⟩) 1 c6 := by
    rcases o6.2 with ⟨_, h0⟩ | ⟨g, cap, cur, rfl, _⟩
    · simp at h0
    · exact ⟨g, cap, rfl⟩
  have p6 := o6.cells (g := g6) rfl 0 _ rfl
  have p1 := E6.out.someCell P1.out
  clear hb5 hO5 hO6 hk6 f6 hfr o6 n6 hFt hFp
  go_wp2
  go_ret
  exact ⟨rfl, E1.out.trans E6.out⟩
end Go.Proofs.Ytakkjpdolkokfaa
/- PrefetchPlan: a plan has the pages behind an address, one behind the other. -/
namespace Go.Proofs.Ytakkjpdolkokfaa
set_option linter.unusedVariables false
set_option linter.unusedSimpArgs false
open Go.RowKit
attribute [local go_sem] wext_cell wext_frozen wext_heap alloc_cell alloc_frozen alloc_heap setCell_cell objCell_cells objFrozen_cells

theorem itB_mod (a : Int) (h0 : 0 ≤ a) (h1 : a ≤ 18446744073709551615) (k : Nat) : itB a (k + 1) % 4096 = 0 := by
  have ⟨g0, g1⟩ := itB_le h0 h1 k
  exact (behindI_le g0 g1).2.2
theorem itB_can {a : Int} {k : Nat} (h : nextB (itB a k) = true) : canonB (itB a (k + 1)) = true := by
  simp only [nextB, Bool.and_eq_true] at h
  exact h.1.2

set_option maxHeartbeats 4000000 in
set_option maxRecDepth 100000 in
theorem prefetchPlan_c (a many : Int) (w : World) (ha0 : 0 ≤ a) (ha1 : a ≤ 18446744073709551615) (hm0 : 0 ≤ many) (hm1 : many ≤ 255) :
    Calls Try.prog 4 #[.int .u64 a, .int .u8 many] w fun e w' => e = .returned (.bool true) ∧ Ext w w' := by
  have HP0 := Lib.hid (fun w => plan_c a 0 w ha0 ha1 (by omega) (by omega))
  have HPm := Lib.hid (fun w => plan_c a many w ha0 ha1 (by omega) (by omega))
  have HAw := Lib.hid (fun w => awake15_c w)
  obtain ⟨m, hm⟩ : ∃ m, (min many 8).toNat = m := ⟨_, rfl⟩
  have hm8 : m ≤ 8 := by omega
  have hmi : min many 8 = (m : Int) := by omega
  rw [hm] at HPm
  clear hm
  have hconv : IntKind.i64.wrap many = many := by rw [IntKind.wrap_i64]; omega
  have hif : (if 8 < many then (8 : Int) else many) = m := by split <;> omega
  go_enter Try.func4, Try.ntmps4
  go_upto_region 3 with (first | (go_at_call 15; refine (HAw.out _).mono ?_; rintro e w1 ⟨rfl, hb1⟩) | (go_at_call 16; refine (HPm.out _).mono ?_; rintro e w2 ⟨pv, k, rfl, hO, hk, hp, hd, hE2⟩; obtain ⟨pa, pcap, rfl, -, -⟩ := hO.form))
  have E2 := Lib.hid (hb1.trans hE2)
  have O2 := Lib.hid hO
  have D2 := Lib.hid hd
  have PP := Lib.hid hp
  have HIF := Lib.hid hif
  clear hb1 hE2 hO hd hp HAw HPm hmi hif
  go_upto_region 4 with (fail)
  rw [HIF.out]
  clear HIF
  go_upto_region 6 with (fail)
  go_loopw [8, 9] (fun b i wr => ∃ j : Nat, j ≤ k ∧ i = .int .i64 j ∧ b = .int .u64 (itB a j) ∧ Hid (Ext w2 wr)) (fun _ i _ => k - (intOf i).toNat)
  case atStart => exact ⟨0, by omega, rfl, rfl, Lib.hid (Ext.refl _)⟩
  case round =>
    obtain ⟨j, hj, rfl, rfl, hR⟩ := hrel
    by_cases hlt : j < k
    · have hn := PP.out j hlt
      have ⟨c0, c1⟩ := itB_le ha0 ha1 j
      have ⟨x0, x1⟩ := itB_le ha0 ha1 (j + 1)
      have hmod := itB_mod a ha0 ha1 j
      have HN := Lib.hid (fun w => vaNext_c (itB a j) w c0 c1)
      rw [hn] at HN
      simp only [if_true] at HN
      have HC := Lib.hid (fun w => vaCanon_c (itB a (j + 1)) w x0 x1)
      rw [itB_can hn] at HC
      obtain ⟨g, rfl⟩ : ∃ g, pa = some ⟨g, 0, none⟩ := by
        rcases O2.out.2 with ⟨_, h0⟩ | ⟨g, cap, cur, he, _⟩
        · omega
        · exact ⟨g, by injection he⟩
      have hcell : w2.cell? ⟨g, j, none⟩ = some (.int .u64 (itB a (j + 1))) := O2.out.cells (g := g) rfl j _ (by simp [rowB, hlt])
      have d0 := hR.out.someCell hcell
      have hgl := Nat.lt_of_lt_of_le (O2.out.lt g rfl) hR.out.size
      have hxe : behindI (itB a j) = itB a (j + 1) := rfl
      rw [hxe] at HN
      have HNX : itB a (j + 1) = itB a (j + 1) := rfl
      obtain ⟨x, hx⟩ : ∃ x, itB a (j + 1) = x := ⟨_, rfl⟩
      rw [hx] at HN HC d0 hmod x0 x1
      have HX := Lib.hid hx
      have hmod2 : x.tmod 4096 = 0 := by rw [Int.tmod_eq_emod_of_nonneg x0]; exact hmod
      have hw0 : IntKind.u64.wrap 0 = 0 := by decide
      clear hcell hxe HNX hx hn
      go_wp2_with (first | (go_at_call 17; refine (HN.out _).mono ?_; rintro e w3 ⟨rfl, hb3⟩; have ⟨hc, hf, hh, hs⟩ := hb3.facts) | (go_at_call 18; refine (HC.out _).mono ?_; rintro e w4 ⟨rfl, hb4⟩; have ⟨hc4, hf4, hh4, hs4⟩ := hb4.facts))
      exact ⟨⟨j + 1, by omega, by go_num, by rw [HX.out], Lib.hid (hR.out.trans (hb3.trans hb4))⟩, by simp [intOf]; omega⟩
    · have hjk : j = k := by omega
      subst hjk
      have ⟨c0, c1⟩ := itB_le ha0 ha1 j
      have HN := Lib.hid (fun w => vaNext_c (itB a j) w c0 c1)
      have h00 : (min (0 : Int) 8).toNat = 0 := by decide
      rw [h00] at HP0
      rcases D2.out with hd | hd
      · subst hd
        generalize nextB (itB a j) = nb at HN
        generalize (if nb = true then behindI (itB a j) else 0) = nx at HN
        go_wp2_with (first | (go_at_call 17; refine (HN.out _).mono ?_; rintro e w3 ⟨rfl, hb3⟩) | (go_at_call 16; refine (HP0.out _).mono ?_; rintro e w4 ⟨qv, k4, rfl, hO4, hk4, -, -, hE4⟩; obtain rfl : k4 = 0 := (by omega); obtain ⟨qa, qcap, rfl, -, -⟩ := hO4.form))
        go_ret
        exact ⟨rfl, E2.out.trans (hR.out.trans (hb3.trans hE4))⟩
      · rw [hd] at HN
        generalize (if false = true then behindI (itB a j) else 0) = nx at HN
        by_cases hjm : j = m
        · subst hjm
          go_wp2_with (first | (go_at_call 17; refine (HN.out _).mono ?_; rintro e w3 ⟨rfl, hb3⟩) | (go_at_call 16; refine (HP0.out _).mono ?_; rintro e w4 ⟨qv, k4, rfl, hO4, hk4, -, -, hE4⟩; obtain rfl : k4 = 0 := (by omega); obtain ⟨qa, qcap, rfl, -, -⟩ := hO4.form))
          go_ret
          exact ⟨rfl, E2.out.trans (hR.out.trans (hb3.trans hE4))⟩
        · have hjm2 : ((j : Int) == (m : Int)) = false := by simpa using fun h : (j : Int) = m => hjm (by omega)
          have hjm3 : ¬ ((j : Int) = m) := fun h => hjm (by omega)
          have hle : (j : Int) ≤ m := by omega
          go_wp2_with (first | (go_at_call 17; refine (HN.out _).mono ?_; rintro e w3 ⟨rfl, hb3⟩) | (go_at_call 16; refine (HP0.out _).mono ?_; rintro e w4 ⟨qv, k4, rfl, hO4, hk4, -, -, hE4⟩; obtain rfl : k4 = 0 := (by omega); obtain ⟨qa, qcap, rfl, -, -⟩ := hO4.form))
          go_ret
          exact ⟨rfl, E2.out.trans (hR.out.trans (hb3.trans hE4))⟩
end Go.Proofs.Ytakkjpdolkokfaa
