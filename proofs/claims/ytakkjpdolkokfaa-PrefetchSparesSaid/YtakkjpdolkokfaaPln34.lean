/- Joined texts, part 34 of what the law stands on: each as its own head says. -/
import Derived.Test.YtakkjpdolkokfaaPln33
import Derived.Test.YtakkjpdolkokfaaPln25
import Derived.Test.YtakkjpdolkokfaaPln31
import Derived.Test.YtakkjpdolkokfaaPln7
import Derived.Test.YtakkjpdolkokfaaPln6
/- Diff of two memories of 16 bits. -/
namespace Go.Proofs.Ytakkjpdolkokfaa
set_option linter.unusedVariables false
set_option linter.unusedSimpArgs false
open Go.RowKit
attribute [local go_sem] wext_cell wext_frozen wext_heap alloc_cell alloc_frozen alloc_heap setCell_cell objCell_cells objFrozen_cells

def EndDiff (w : World) (l : List Int) (e : Ending) (w' : World) : Prop :=
  ∃ la lc, e = .returned (.slice la l.length lc) ∧ Owns w' 34 1 (.slice la l.length lc) l.length (l.map (.int .u64 ·)) ∧ Ext w w' ∧ ∀ g, (Value.slice la l.length lc).ownBlock = some g → w.heap.size ≤ g
theorem MemAt.cell0 {w : World} {mb : Nat} {F : List Nat} {B : Int} {M : Int → Int} {T : List Int} (h : MemAt w mb F B M T) : w.cell? ⟨mb, 0, none⟩ = some (.int .i64 B) := h.head.1
set_option maxHeartbeats 4000000 in
set_option maxRecDepth 100000 in
theorem diff_c (ma mb : Nat) (Fa Fb : List Nat) (Ma Mb : Int → Int) (Ta Tb : List Int) (w : World) (ha : MemAt w ma Fa 16 Ma Ta) (hb : MemAt w mb Fb 16 Mb Tb) :
    Calls Try.prog 26 #[.pointer (some ⟨ma, 0, none⟩), .pointer (some ⟨mb, 0, none⟩)] w (EndDiff w (dOut Ma Mb 16)) := by
  have a0 := ha.cell0
  have b0 := hb.cell0
  have hla := ha.head.2.1
  have hlb := hb.head.2.1
  have HA := Lib.hid ha
  have HB := Lib.hid hb
  generalize hE : EndDiff w (dOut Ma Mb 16) = E
  have HE := Lib.hid hE
  clear hE ha hb
  go_enter Try.func26, Try.ntmps26
  go_upto_region 1 with (fail)
  refine region_ext (by kernel_rfl) (by kernel_rfl) ?_; (repeat (go_big_quiet_step (fail))); refine wpQuiet_nil ?_; intro w1 hb; have ⟨hc, hf, hh, hs⟩ := hb.facts; try simp only [World.size_alloc, World.size_setCell, World.size_drew] at hs
  go_wp2
  have E1 := Lib.hid hb
  clear hb hc hf hh a0 b0
  go_loopw [5, 34] (fun l t wr => ∃ (n : Nat) (la : Option Addr) (len lc : Nat), n ≤ 16 ∧ t = .int .u64 n ∧ l = .slice la len lc ∧ len ≤ 512 * n ∧ Hid (len = (dOut Ma Mb n).length ∧ Owns wr 34 1 (.slice la len lc) len ((dOut Ma Mb n).map (.int .u64 ·)) ∧ Ext w wr ∧ ∀ g, (Value.slice la len lc).ownBlock = some g → w.heap.size ≤ g)) (fun _ t _ => 16 - (intOf t).toNat)
  case atStart => exact ⟨0, none, 0, 0, by omega, rfl, rfl, by omega, Lib.hid ⟨by simp [dOut], by simpa [dOut] using Owns.nil _ _ _, E1.out, fun g hg => by simp [Value.ownBlock] at hg⟩⟩
  case round =>
    obtain ⟨n, la, len, lc, hn, rfl, rfl, hlen, hR⟩ := hrel
    by_cases hlt : n < 16
    · have HPa := Lib.hid (fun w1 (k : Ext wr w1) => page_c ma Fa 16 Ma Ta n w1 (HA.out.ext (hR.out.2.2.1.trans k)) (by omega) (by omega))
      have HPb := Lib.hid (fun w1 (k : Ext wr w1) => page_c mb Fb 16 Mb Tb n w1 (HB.out.ext (hR.out.2.2.1.trans k)) (by omega) (by omega))
      have tok1 : True := trivial
      go_upto_region 8 with (first | (go_at_call 60; have _t := tok1; clear _t; refine (HPa.out _ (by repeat (first | exact Ext.refl _ | assumption | refine Ext.alloc ?_ _ | refine Ext.drew ?_ | refine Ext.setCell ?_ (by first | (simp; done) | (dsimp only; omega)) _ | refine Ext.trans ?_ (by assumption)))).mono ?_; rintro e w2 ⟨c1, rfl, hC1, hE2⟩; clear tok1) | (go_at_call 60; refine (HPb.out _ (Ext.trans hE2 (by repeat (first | exact Ext.refl _ | assumption | refine Ext.alloc ?_ _ | refine Ext.drew ?_ | refine Ext.setCell ?_ (by first | (simp; done) | (dsimp only; omega)) _ | refine Ext.trans ?_ (by assumption))))).mono ?_; rintro e w3 ⟨c2, rfl, hC2, hE3⟩) | (refine wpList_store_row rfl 148 _ _ rfl w3.heap.size c1 rfl rfl _ _ ((alloc_other _ _ (by simp)).trans (alloc_same ..)) (by rw [hC1.1]; kernel_rfl) (by rw [hC1.1]; exact zeros.1) (pageC_one hC1) ?_) | (refine wpList_store_row rfl 148 _ _ rfl (w3.heap.size + 1) c2 rfl rfl _ _ ((setRow_other _ _ _ _ (by omega)).trans (alloc_same1 ..)) (by rw [hC2.1]; kernel_rfl) (by rw [hC2.1]; exact zeros.1) (pageC_one hC2) ?_))
      (try simp only [Act.put, Array.set!_eq_setIfInBounds, List.setIfInBounds_toArray, List.set_cons_succ, List.set_cons_zero])
      refine wp_gen ?_; intro U hU
      have k0 : Ext wr w3 := Ext.trans (Ext.trans (by repeat (first | exact Ext.refl _ | assumption | refine Ext.alloc ?_ _ | refine Ext.drew ?_ | refine Ext.setCell ?_ (by first | (simp; done) | (dsimp only; omega)) _ | refine Ext.trans ?_ (by assumption))) hE2) (Ext.trans (by repeat (first | exact Ext.refl _ | assumption | refine Ext.alloc ?_ _ | refine Ext.drew ?_ | refine Ext.setCell ?_ (by first | (simp; done) | (dsimp only; omega)) _ | refine Ext.trans ?_ (by assumption))) hE3)
      have k1 := (k0.alloc (.cells Try.zeroCells148 148 (0, 0))).alloc (.cells Try.zeroCells148 148 (0, 0))
      have hz0 := k0.size
      have u7 : U.heap[w3.heap.size]? = some (.cells c1 148 (0, 0)) := by rw [hU]; exact (setRow_other _ _ _ _ (by omega)).trans (setRow_heap _ _ _ _ _ _ ((alloc_other _ _ (by simp)).trans (alloc_same ..)))
      have u8 : U.heap[w3.heap.size + 1]? = some (.cells c2 148 (0, 0)) := by rw [hU]; exact setRow_heap _ _ _ _ _ _ ((setRow_other _ _ _ _ (by omega)).trans (alloc_same1 ..))
      have uE : Ext wr U := by rw [hU]; exact setRow_ext (setRow_ext k1 hz0 _) (by omega) _
      obtain ⟨b7, hb7⟩ : ∃ b7, w3.heap.size = b7 := ⟨_, rfl⟩
      obtain ⟨b8, hb8⟩ : ∃ b8, w3.heap.size + 1 = b8 := ⟨_, rfl⟩
      rw [hb8] at u8 ⊢
      rw [hb7] at u7 ⊢
      have heq := page_eql hC1 hC2
      have HC1 := Lib.hid hC1
      have HC2 := Lib.hid hC2
      have U7 := Lib.hid u7
      have U8 := Lib.hid u8
      have UE := Lib.hid uE
      clear hU k0 k1 hz0 u7 u8 uE hb7 hb8 hC1 hC2 hE2 hE3
      have hsucc := dOut_succ Ma Mb n
      have HSC := Lib.hid hsucc
      clear hsucc
      have hI1 : (Try.prog.info? 148).map (·.size) = some c1.size := by rw [HC1.out.1]; kernel_rfl
      have hI2 : (Try.prog.info? 148).map (·.size) = some c2.size := by rw [HC2.out.1]; kernel_rfl
      have I1 := Lib.hid hI1
      have I2 := Lib.hid hI2
      clear hI1 hI2
      cases hB : pageB Ma Mb n
      · rw [hB] at heq
        go_wp2_with (first | (refine wpList_load_row rfl 148 _ rfl b7 rfl _ c1 (0, 0) _ U7.out Try.underlying148 rfl I1.out ?_) | (refine wpList_load_row rfl 148 _ rfl b8 rfl _ c2 (0, 0) _ U8.out Try.underlying148 rfl I2.out ?_))
        clear heq
        obtain ⟨wo, hwo⟩ : ∃ wo : World, wo = wr := ⟨_, rfl⟩
        go_loopw [5, 46] (fun l t wx => ∃ (k : Nat) (la2 : Option Addr) (len2 lc2 : Nat), k ≤ 512 ∧ t = .int .i64 k ∧ l = .slice la2 len2 lc2 ∧ len2 ≤ 512 * n + k ∧ Hid (len2 = (dOut Ma Mb n ++ dIn Ma Mb n k).length ∧ Owns wx 34 1 (.slice la2 len2 lc2) len2 ((dOut Ma Mb n ++ dIn Ma Mb n k).map (.int .u64 ·)) ∧ Ext w wx ∧ (∀ g, (Value.slice la2 len2 lc2).ownBlock = some g → w.heap.size ≤ g) ∧
          wx.heap[b7]? = some (.cells c1 148 (0, 0)) ∧ wx.heap[b8]? = some (.cells c2 148 (0, 0)))) (fun _ t _ => 512 - (intOf t).toNat)
        case atStart =>
          obtain ⟨q1, q2, q3, q4⟩ := hR.out
          exact ⟨0, la, len, lc, by omega, rfl, rfl, by omega, Lib.hid ⟨by simpa [dIn] using q1, by simpa [dIn] using q2.ext UE.out, q3.trans UE.out, q4, U7.out, U8.out⟩⟩
        case round =>
          rename_i wx
          obtain ⟨k, la2, len2, lc2, hk, rfl, rfl, hlen2, hS⟩ := hrel
          by_cases hk5 : k < 512
          · have d1 := (heap_cell hS.out.2.2.2.2.1 k).trans (HC1.out.2 k hk5)
            have d2 := (heap_cell hS.out.2.2.2.2.2 k).trans (HC2.out.2 k hk5)
            have hl7 := heap_lt hS.out.2.2.2.2.1
            have hl8 := heap_lt hS.out.2.2.2.2.2
            have hst := dIn_succ Ma Mb n k
            generalize Ma ((n : Int) * 512 + (k : Int)) = x at d1 hst
            generalize Mb ((n : Int) * 512 + (k : Int)) = y at d2 hst
            cases hxy : x != y
            · rw [hxy] at hst
              have HST := Lib.hid hst
              clear hst
              go_upto_region 12 with (fail)
              refine region_ext (by kernel_rfl) (by kernel_rfl) ?_; (repeat (go_big_quiet_step (fail))); refine wpQuiet_nil ?_; intro w1 hb; have ⟨hc, hf, hh, hs⟩ := hb.facts; try simp only [World.size_alloc, World.size_setCell, World.size_drew] at hs
              have hS' := hS.out
              have hb' := Lib.hid hb
              clear hb hc hf hh d1 d2
              go_wp2
              refine ⟨⟨k + 1, la2, len2, lc2, by omega, by go_num, rfl, by omega, Lib.hid ⟨?_, ?_, hS'.2.2.1.trans hb'.out, hS'.2.2.2.1, (hb'.out.block _ hl7).trans hS'.2.2.2.2.1, (hb'.out.block _ hl8).trans hS'.2.2.2.2.2⟩⟩, by simp [intOf]; omega⟩
              · rw [HST.out]; exact hS'.1
              · rw [HST.out]; exact hS'.2.1.ext hb'.out
            · rw [hxy, if_pos rfl] at hst
              have HST := Lib.hid hst
              clear hst
              go_upto_region 12 with (fail)
              refine region_ext (by kernel_rfl) (by kernel_rfl) ?_; (repeat (go_big_quiet_step (fail))); refine wpQuiet_nil ?_; intro w1 hb; have ⟨hc, hf, hh, hs⟩ := hb.facts; try simp only [World.size_alloc, World.size_setCell, World.size_drew] at hs
              have hb' := Lib.hid hb
              clear hb hc hf hh d1 d2
              have hla2 : len2 ≤ lc2 ∧ lc2 ≤ maxLen := by
                obtain ⟨a', c', h1, h2, h3⟩ := hS.out.2.1.form
                injection h1 with _ _ h1
                subst h1; exact ⟨h2, h3⟩
              have HAo := Lib.hid ((hS.out.2.1.ext hb'.out).ext ((Ext.refl w1).alloc (.cells #[.int .u64 ((n : Int) * 4096 + (k : Int) * 8)] 34 (0, 0))))
              have hHN : Hid (∀ (b : Nat) (c : Array Value), w1.heap[b]? = some (.cells c 148 (0, 0)) → ∀ w9 : World, World.grownBy (w1.alloc (.cells #[.int .u64 ((n : Int) * 4096 + (k : Int) * 8)] 34 (0, 0))) w9 (Value.slice la2 len2 lc2).ownBlock → w9.heap[b]? = some (.cells c 148 (0, 0))) := Lib.hid (fun b c hbc w9 k9 => by
                have hbl := heap_lt hbc
                refine (k9.block b (by rw [World.size_alloc]; omega) (fun h => ?_)).trans ((alloc_other _ _ hbl).trans hbc)
                obtain ⟨c', hc'⟩ := (hS.out.2.1.ext hb'.out).heap b h.symm
                rw [hbc] at hc'; simp at hc')
              go_wp2_with (first | (at_builtin; refine wpList_append_owns rfl _ _ _ _ 1 8 wordRow rfl _ rfl len2 _ HAo.out _ 1 1 rfl [.int .u64 ((n : Int) * 4096 + (k : Int) * 8)] rfl (fun j' u hu => by rw [add0, heap_cell (alloc_same w1 _) j']; simpa using hu) (by simp [Value.oneCell']) (by unfold maxLen; omega) (by omega) ?_; intro v9 w9 q1 q2 q3; replace q2 : World.grownBy (w1.alloc (.cells #[.int .u64 ((n : Int) * 4096 + (k : Int) * 8)] 34 (0, 0))) w9 (Value.slice la2 len2 lc2).ownBlock := q2; replace q3 : v9.ownBlock = (Value.slice la2 len2 lc2).ownBlock ∨ v9.ownBlock = some (w1.alloc (.cells #[.int .u64 ((n : Int) * 4096 + (k : Int) * 8)] 34 (0, 0))).heap.size := q3; obtain ⟨a9, c9, rfl, -, -⟩ := q1.form; simp only [Act.put, Array.set!_eq_setIfInBounds, List.setIfInBounds_toArray, List.set_cons_succ, List.set_cons_zero]))
              have hS' := hS.out
              refine ⟨⟨k + 1, a9, len2 + 1, c9, by omega, by go_num, rfl, by omega, Lib.hid ⟨?_, ?_, ?_, fun g hg => ?_, hHN.out b7 c1 ((hb'.out.block _ hl7).trans hS'.2.2.2.2.1) w9 q2, hHN.out b8 c2 ((hb'.out.block _ hl8).trans hS'.2.2.2.2.2) w9 q2⟩⟩, by simp [intOf]; omega⟩
              · rw [HST.out, ← List.append_assoc, List.length_append, ← hS'.1]; rfl
              · rw [HST.out, ← List.append_assoc, List.map_append]; exact q1
              · exact Keeps.to_ext (F := []) (Ext.refl w) ((Keeps.of_ext ((hS'.2.2.1.trans hb'.out).alloc _)).grown q2 (fun x hx => .inr (hS'.2.2.2.1 x hx))) (by simp)
              · rcases q3 with q3 | q3 <;> rw [q3] at hg
                · exact hS'.2.2.2.1 g hg
                · have := (hS'.2.2.1.trans hb'.out).size
                  simp only [World.size_alloc, Option.some.injEq] at hg; omega
          · obtain rfl : k = 512 := by omega
            go_wp2
            subst hwo
            refine ⟨⟨n + 1, la2, len2, lc2, by omega, by go_num, rfl, by omega, Lib.hid ⟨?_, ?_, hS.out.2.2.1, hS.out.2.2.2.1⟩⟩, by simp [intOf]; omega⟩
            · rw [HSC.out]; exact hS.out.1
            · rw [HSC.out]; exact hS.out.2.1
      · rw [hB] at heq
        have HN := Lib.hid (dIn_none hB)
        go_wp2_with (first | (refine wpList_load_row rfl 148 _ rfl b7 rfl _ c1 (0, 0) _ U7.out Try.underlying148 rfl I1.out ?_) | (refine wpList_load_row rfl 148 _ rfl b8 rfl _ c2 (0, 0) _ U8.out Try.underlying148 rfl I2.out ?_))
        refine ⟨⟨n + 1, la, len, lc, by omega, by go_num, rfl, by omega, Lib.hid ⟨?_, ?_, hR.out.2.2.1.trans UE.out, hR.out.2.2.2⟩⟩, by simp [intOf]; omega⟩
        · rw [HSC.out, HN.out, List.append_nil]; exact hR.out.1
        · rw [HSC.out, HN.out, List.append_nil]; exact hR.out.2.1.ext UE.out
    · obtain rfl : n = 16 := by omega
      go_wp2
      all_goals
        (try go_ret)
        rw [← HE.out]
        obtain ⟨q1, q2, q3, q4⟩ := hR.out
        subst q1
        exact ⟨la, lc, rfl, q2, q3, q4⟩
end Go.Proofs.Ytakkjpdolkokfaa
/- Bits left away; copies and differences of a law's own memories. -/
namespace Go.Proofs.Ytakkjpdolkokfaa
set_option linter.unusedVariables false
set_option linter.unusedSimpArgs false
open Go.RowKit
attribute [local go_sem] wext_cell wext_frozen wext_heap alloc_cell alloc_frozen alloc_heap setCell_cell objCell_cells objFrozen_cells

theorem bit_div (n i : Nat) : n.testBit i = (n / 2 ^ i % 2 == 1) := by
  rw [Nat.testBit_eq_decide_div_mod_eq]; rfl
theorem eqv_test {x y : Nat} (h : eqv (x : Int) (y : Int)) (i : Nat) (hi : i ≠ 5 ∧ i ≠ 6) : x.testBit i = y.testBit i := by
  unfold eqv at h
  rw [bit_div, bit_div]
  by_cases h7 : 7 ≤ i
  · have e : ∀ z : Nat, z / 2 ^ i = z / 128 / 2 ^ (i - 7) := fun z => by
      rw [Nat.div_div_eq_div_mul, show (128 : Nat) = 2 ^ 7 from rfl, ← Nat.pow_add, show 7 + (i - 7) = i by omega]
    have : x / 128 = y / 128 := by omega
    rw [e, e, this]
  · have : i = 0 ∨ i = 1 ∨ i = 2 ∨ i = 3 ∨ i = 4 := by omega
    have h5 : x % 32 = y % 32 := by omega
    rcases this with rfl | rfl | rfl | rfl | rfl
    · have : x / 2 ^ 0 % 2 = y / 2 ^ 0 % 2 := by simp; omega
      rw [this]
    · have : x / 2 ^ 1 % 2 = y / 2 ^ 1 % 2 := by simp; omega
      rw [this]
    · have : x / 2 ^ 2 % 2 = y / 2 ^ 2 % 2 := by simp; omega
      rw [this]
    · have : x / 2 ^ 3 % 2 = y / 2 ^ 3 % 2 := by simp; omega
      rw [this]
    · have : x / 2 ^ 4 % 2 = y / 2 ^ 4 % 2 := by simp; omega
      rw [this]
theorem not_test {m : Nat} (h : m < 18446744073709551616) (i : Nat) : (18446744073709551615 - m).testBit i = (decide (i < 64) && !m.testBit i) := by
  have := Nat.testBit_two_pow_sub_succ (n := 64) (x := m) (by omega) i
  rw [show 2 ^ 64 - (m + 1) = 18446744073709551615 - m by omega] at this
  exact this
theorem more_none {x y : Int} (h0 : 0 ≤ x) (h1 : x ≤ 18446744073709551615) (k0 : 0 ≤ y) (k1 : y ≤ 18446744073709551615) (h : more x y) : bits BinOp.andNot IntKind.u64 x y = 0 := by
  obtain ⟨n, rfl⟩ : ∃ n : Nat, x = n := ⟨x.toNat, by omega⟩
  obtain ⟨m, rfl⟩ : ∃ m : Nat, y = m := ⟨y.toNat, by omega⟩
  rw [u64_andNot_nat _ _ (by omega) (by omega)]
  have : n &&& (18446744073709551615 - m) = 0 := by
    apply Nat.eq_of_testBit_eq
    intro i
    rw [Nat.testBit_and, not_test (by omega), Nat.zero_testBit]
    obtain ⟨he, hA, hD⟩ := h
    by_cases h56 : i = 5 ∨ i = 6
    · have hn : n.testBit i = true → m.testBit i = true := by
        unfold hasA hasD at *
        simp only [beq_iff_eq] at hA hD
        rw [bit_div, bit_div]
        simp only [beq_iff_eq]
        rcases h56 with rfl | rfl
        · show n / 32 % 2 = 1 → m / 32 % 2 = 1
          omega
        · show n / 64 % 2 = 1 → m / 64 % 2 = 1
          omega
      cases hb : n.testBit i
      · rfl
      · rw [hn hb]; simp
    · rw [eqv_test he i (by omega)]
      cases m.testBit i <;> simp
  rw [this]; rfl
theorem eqv_bare {x y : Int} (h0 : 0 ≤ x) (h1 : x ≤ 18446744073709551615) (k0 : 0 ≤ y) (k1 : y ≤ 18446744073709551615) (h : eqv x y) : bits BinOp.andNot IntKind.u64 y 96 = bits BinOp.andNot IntKind.u64 x 96 := by
  obtain ⟨n, rfl⟩ : ∃ n : Nat, x = n := ⟨x.toNat, by omega⟩
  obtain ⟨m, rfl⟩ : ∃ m : Nat, y = m := ⟨y.toNat, by omega⟩
  rw [show (96 : Int) = ((96 : Nat) : Int) from rfl, u64_andNot_nat _ _ (by omega) (by omega), u64_andNot_nat _ _ (by omega) (by omega)]
  congr 1
  apply Nat.eq_of_testBit_eq
  intro i
  rw [Nat.testBit_and, Nat.testBit_and, not_test (by omega)]
  by_cases h56 : i = 5 ∨ i = 6
  · have : (96 : Nat).testBit i = true := by rcases h56 with rfl | rfl <;> decide
    rw [this]; simp
  · rw [eqv_test h i (by omega)]
theorem nat_and64 (n : Nat) : n &&& 64 = n / 64 % 2 * 64 := by
  have h := Nat.div_add_mod (n &&& 64) 128
  have h1 : (n &&& 64) / 128 = 0 := by
    have := Nat.and_div_two_pow (a := n) (b := 64) (n := 7); simpa using this
  have h2 : (n &&& 64) % 128 = n % 128 &&& 64 := by
    have := Nat.and_mod_two_pow (a := n) (b := 64) (n := 7); simpa using this
  have h3 : ∀ i : Fin 128, i.val &&& 64 = i.val / 64 % 2 * 64 := by decide +kernel
  have h4 := h3 ⟨n % 128, Nat.mod_lt _ (by omega)⟩
  simp only at h4
  omega
theorem and64 {x : Int} (h0 : 0 ≤ x) (h1 : x ≤ 18446744073709551615) : bits BinOp.and IntKind.u64 x 64 = x / 64 % 2 * 64 := by
  rw [u64_and _ _ h0 (by omega) (by omega) (by omega), show (64 : Int).toNat = 64 from rfl, nat_and64]; omega

theorem copy_p (P : Nat → Prop) (mb : Nat) (B : Int) (M : Int → Int) (T : List Int) (U : World) (h : MemP P U mb B M T) : Calls Try.prog 25 #[.pointer (some ⟨mb, 0, none⟩)] U (EndCopy U B M) := by
  obtain ⟨F, h1, -⟩ := h
  exact copy_c mb F B M T U h1
theorem diff_p (P Q : Nat → Prop) (ma mb : Nat) (Ma Mb : Int → Int) (Ta Tb : List Int) (U : World) (ha : MemP P U ma 16 Ma Ta) (hb : MemP Q U mb 16 Mb Tb) :
    Calls Try.prog 26 #[.pointer (some ⟨ma, 0, none⟩), .pointer (some ⟨mb, 0, none⟩)] U (EndDiff U (dOut Ma Mb 16)) := by
  obtain ⟨Fa, h1, -⟩ := ha
  obtain ⟨Fb, h2, -⟩ := hb
  exact diff_c ma mb Fa Fb Ma Mb Ta Tb U h1 h2
theorem markL_twice {B : Int} {df : Bool} {L : List Stp} {M : Int → Int} (h : ∀ s ∈ L, errM B s.2.1 = 0) : markL B df L (markL B df L M) = markL B df L M := by
  have hh := markL_has (df := df) L M h
  exact markL_again L _ (fun s hs _ => hh.1 s hs) (fun s hs hd _ => hh.2 s hs hd)
end Go.Proofs.Ytakkjpdolkokfaa
/- Package group: a slot's group, and whether a word may be a page's. -/
namespace Go.Proofs.Ytakkjpdolkokfaa
set_option linter.unusedVariables false
set_option linter.unusedSimpArgs false
open Go.RowKit
attribute [local go_sem] wext_cell wext_frozen wext_heap alloc_cell alloc_frozen alloc_heap setCell_cell objCell_cells objFrozen_cells

theorem andNot63 {a : Int} (h0 : 0 ≤ a) (h1 : a ≤ 18446744073709551615) : bits BinOp.andNot IntKind.u64 a 63 = a - a % 64 := by
  obtain ⟨n, rfl⟩ : ∃ n : Nat, a = n := ⟨a.toNat, by omega⟩
  rw [show (63 : Int) = ((63 : Nat) : Int) from rfl, u64_andNot_nat _ _ (by omega) (by omega)]
  have h : n &&& (18446744073709551615 - 63) = n - n % 64 := by
    apply Nat.eq_of_testBit_eq
    intro i
    rw [Nat.testBit_and, not_test (by omega)]
    have e : n - n % 64 = 2 ^ 6 * (n / 64) := by omega
    rw [e, Nat.testBit_two_pow_mul]
    by_cases h6 : i < 6
    · have : (63 : Nat).testBit i = true := by
        have : i = 0 ∨ i = 1 ∨ i = 2 ∨ i = 3 ∨ i = 4 ∨ i = 5 := by omega
        rcases this with rfl | rfl | rfl | rfl | rfl | rfl <;> decide
      rw [this, decide_eq_false (by omega : ¬ 6 ≤ i)]; simp
    · have h63 : (63 : Nat).testBit i = false := Nat.testBit_lt_two_pow (by have := Nat.pow_le_pow_right (n := 2) (by omega) (show 6 ≤ i by omega); omega)
      rw [h63, decide_eq_true (by omega : 6 ≤ i)]
      simp only [Bool.not_false, Bool.and_true, Bool.true_and]
      rw [show (64 : Nat) = 2 ^ 6 from rfl, Nat.testBit_div_two_pow, show i - 6 + 6 = i by omega]
      by_cases h64 : i < 64
      · simp [h64]
      · have : n.testBit i = false := Nat.testBit_lt_two_pow (by have := Nat.pow_le_pow_right (n := 2) (by omega) (show 64 ≤ i by omega); omega)
        simp [this]
  have := congrArg (fun k : Nat => (k : Int)) h
  omega
def slotsV (g : Int) : Value := .agg #[.int .u64 g, .int .u64 (g + 8), .int .u64 (g + 16), .int .u64 (g + 24), .int .u64 (g + 32), .int .u64 (g + 40), .int .u64 (g + 48), .int .u64 (g + 56)]
set_option maxHeartbeats 2000000 in
theorem groupSlots_c (a : Int) (w : World) (h0 : 0 ≤ a) (h1 : a ≤ 18446744073709551615) :
    Calls Try.prog 111 #[.int .u64 a] w fun e w' => e = .returned (slotsV (a - a % 64)) ∧ Ext w w' := by
  have hA := andNot63 h0 h1
  have g0 : 0 ≤ a - a % 64 := by omega
  have g1 : a - a % 64 ≤ 18446744073709551552 := by omega
  unfold slotsV
  generalize a - a % 64 = g at *
  go_enter Try.func111, Try.ntmps111
  go_wp2
  refine wp_loop_rounds 9 ?_
  iterate 9 (rw [rounds_succ]; go_wp2)
  refine bodyPost_ret (by simp [results, Try.results111, go_sem, ↓IntWalk.iteOmega, *]; try rfl) rfl ⟨rfl, (by repeat (first | exact Ext.refl _ | assumption | refine Ext.alloc ?_ _ | refine Ext.drew ?_ | refine Ext.setCell ?_ (by first | (simp; done) | (dsimp only; omega)) _ | refine Ext.trans ?_ (by assumption)))⟩
end Go.Proofs.Ytakkjpdolkokfaa
