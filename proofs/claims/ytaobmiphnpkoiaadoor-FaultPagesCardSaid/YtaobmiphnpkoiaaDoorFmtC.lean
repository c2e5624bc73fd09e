/- internal/strconv.formatBits at the base 16. -/
import Derived.Test.YtaobmiphnpkoiaaDoorFmtB
import Derived.Test.YtaobmiphnpkoiaaDoorMaskL
import Derived.Test.YtaobmiphnpkoiaaDoorOwn
import Derived.Deep.MidRow
namespace Go.Proofs.YtaobmiphnpkoiaaDoor
set_option linter.unusedVariables false
set_option linter.unusedSimpArgs false
open Go.RowKit
attribute [local go_sem] wext_cell wext_frozen wext_heap alloc_cell alloc_frozen alloc_heap setCell_cell objCell_cells objFrozen_cells

/-- The 65 bytes, of which the last are T. -/
structure BufAt (W : World) (b : Nat) (T : List Int) : Prop where
  len : T.length ≤ 65
  lt : b < W.heap.size
  cell : ∀ j, j < 65 → ∃ v, W.cell? ⟨b, j, none⟩ = some v
  froz : ∀ o, W.frozen? ⟨b, o, none⟩ = false
  tail : ∀ q, q < T.length → W.cell? ⟨b, 65 - T.length + q, none⟩ = some (.int .u8 (T.getD q 0))
theorem BufAt.zero (w : World) : BufAt (w.alloc (.cells Tryd.zeroCells89 89)) w.heap.size [] := by
  refine ⟨by simp, by simp [World.size_alloc], fun j hj => ?_, fun o => frozen_of (alloc_same ..) o, fun q hq => absurd hq (by simp)⟩
  have hs : Tryd.zeroCells89.size = 65 := by kernel_rfl
  exact ⟨Tryd.zeroCells89[j], by rw [heap_cell (alloc_same ..)]; exact Array.getElem?_eq_getElem (by omega)⟩
theorem BufAt.ext {W W' : World} {b : Nat} {T : List Int} (h : BufAt W b T) (k : Ext W W') : BufAt W' b T := by
  refine ⟨h.len, Nat.lt_of_lt_of_le h.lt k.size, fun j hj => ?_, fun o => ?_, fun q hq => k.someCell (h.tail q hq)⟩
  · obtain ⟨v, hv⟩ := h.cell j hj
    exact ⟨v, k.someCell hv⟩
  · rw [k.frozen b o h.lt]; exact h.froz o
theorem BufAt.step {W : World} {b : Nat} {T : List Int} (h : BufAt W b T) (hT : T.length < 65) (c : Int) : BufAt (W.setCell ⟨b, 65 - T.length - 1, none⟩ (.int .u8 c)) b (c :: T) := by
  refine ⟨by simp; omega, by rw [World.size_setCell]; exact h.lt, fun j hj => ?_, fun o => by rw [World.frozen?_setCell]; exact h.froz o, fun q hq => ?_⟩
  · obtain ⟨v, hv⟩ := h.cell j hj
    rw [setCell_cell, if_pos rfl, hv]
    split
    · exact ⟨_, rfl⟩
    · exact ⟨_, rfl⟩
  · simp only [List.length_cons] at hq ⊢
    rw [setCell_cell, if_pos rfl]
    by_cases h0 : q = 0
    · subst h0
      rw [if_pos (by omega)]
      obtain ⟨v, hv⟩ := h.cell (65 - (T.length + 1) + 0) (by omega)
      rw [hv]; rfl
    · rw [if_neg (by omega)]
      obtain ⟨q', rfl⟩ : ∃ q', q = q' + 1 := ⟨q - 1, by omega⟩
      have := h.tail q' (by omega)
      rw [show 65 - (T.length + 1) + (q' + 1) = 65 - T.length + q' by omega, this]
      rfl

abbrev digs : ByteArray := ⟨#[48, 49, 50, 51, 52, 53, 54, 55, 56, 57, 97, 98, 99, 100, 101, 102, 103, 104, 105, 106, 107, 108, 109, 110, 111, 112, 113, 114, 115, 116, 117, 118, 119, 120, 121, 122]⟩
theorem dig_fig : ∀ r : Fin 16, digs.data[r.val]! = UInt8.ofNat (if 9 < r.val then 87 + r.val else 48 + r.val) := by decide
theorem dig_str (r : Nat) (hr : r < 16) (h : r < digs.size) (T : List Int) : strOfNums (((digs[r]'h).toNat : Int) :: T) = figS r ++ strOfNums T := by
  have h1 := dig_fig ⟨r, hr⟩
  have h2 : digs[r]'h = UInt8.ofNat (if 9 < r then 87 + r else 48 + r) := by
    rw [← h1]
    show digs.data[r]'h = _
    exact (getElem!_pos digs.data r h).symm
  apply ByteArray.ext
  simp only [strOfNums, figS, ByteArray.data_append, List.map_cons, Int.toNat_natCast, UInt8.ofNat_toNat, h2]
  simp
theorem str_nil (S : ByteArray) : S = S ++ strOfNums [] := by
  apply ByteArray.ext
  rw [ByteArray.data_append]
  exact (Array.append_empty).symm
theorem hexS_step {k u : Nat} (hu : 16 ≤ u) (hk : 0 < k) : hexS k u = hexS (k - 1) (u / 16) ++ figS (u % 16) := by
  obtain ⟨j, rfl⟩ : ∃ j, k = j + 1 := ⟨k - 1, by omega⟩
  rw [hexS, if_neg (by omega)]
  rfl
theorem and15 (u : Nat) (hu : u < 18446744073709551616) : bits .and .u64 (u : Int) 15 = ((u % 16 : Nat) : Int) := by
  have : bits BinOp.and IntKind.u64 (u : Int) 15 = (u : Int) % 16 := mask_low2 4 (by omega) (by omega) (by omega)
  rw [this]; omega

theorem BufAt.str {W : World} {b : Nat} {T : List Int} (h : BufAt W b T) : Sem.run Tryd.prog (convert 73 9 (.slice (some ⟨b, 65 - T.length, none⟩) T.length T.length)) W = .ok (.string (strOfNums T)) W :=
  run_convert_bytes_arg W 73 5 Tryd.underlying73 Tryd.underlying5 b _ T.length T.length T rfl (fun i hi => h.tail i hi) 9 Tryd.underlying9

set_option maxRecDepth 100000 in
set_option maxHeartbeats 1000000 in
theorem fmt_c (n : Nat) (w : World) (hn : n < 18446744073709551616) (h : TzAt w) : Calls Tryd.prog 33 #[.slice none 0 0, .int .u64 n, .int .i64 16, .bool false, .bool false] w fun e w' => e = .returned (.tuple #[.slice none 0 0, .string (hexS 16 n)]) ∧ Ext w w' := by
  have HP := Lib.hid pow2_c
  have HT := Lib.hid (fun (w1 : World) (k : Ext w w1) => tz_c w1 (h.ext k))
  clear h
  obtain ⟨S, hS⟩ : ∃ S, hexS 16 n = S := ⟨_, rfl⟩
  rw [hS]
  go_enter Tryd.func33, Tryd.ntmps33
  go_upto_region 4 with (fail)
  refine wp_gen ?_; intro U hU
  have UB : Hid (BufAt U w.heap.size [] ∧ Ext w U) := Lib.hid (by rw [hU]; exact ⟨BufAt.zero w, (Ext.refl _).alloc _⟩)
  clear hU
  obtain ⟨vb, hvb⟩ : ∃ vb, w.heap.size = vb := ⟨_, rfl⟩
  rw [hvb] at UB ⊢
  go_upto_region 11 with (first | (go_at_call 38; refine (HP.out _).mono ?_; rintro e w1 ⟨rfl, hb1⟩) | (go_at_call 39; refine (HT.out _ (UB.out.2.trans hb1)).mono ?_; rintro e w2 ⟨rfl, hb2⟩))
  have WB : Hid (BufAt w2 vb [] ∧ Ext w w2) := Lib.hid ⟨UB.out.1.ext (hb1.trans hb2), UB.out.2.trans (hb1.trans hb2)⟩
  clear UB hb1 hb2 HP HT
  go_loopw [1, 13] (fun uv iv wr => ∃ (u k : Nat) (T : List Int), uv = .int .u64 u ∧ iv = .int .i64 ((65 - T.length : Nat) : Int) ∧ u < 18446744073709551616 ∧ T.length + k = 16 ∧ 0 < k ∧ Hid (u < 16 ^ k ∧ S = hexS k u ++ strOfNums T ∧ BufAt wr vb T ∧ Ext w wr)) (fun uv iv _ => (intOf uv).toNat)
  case atStart => exact ⟨n, 16, [], rfl, rfl, hn, rfl, by omega, Lib.hid ⟨by omega, by rw [hS]; exact str_nil S, WB.out.1, WB.out.2⟩⟩
  case round =>
    obtain ⟨u, k, T, rfl, rfl, hu, hTk, hk, hR⟩ := hrel
    obtain ⟨m, hm⟩ : ∃ m, T.length = m := ⟨_, rfl⟩
    rw [hm] at hTk ⊢
    clear hS
    by_cases hlt : u < 16
    · obtain ⟨c, hc⟩ := hR.out.2.2.1.cell (65 - m - 1) (by omega)
      have hf := hR.out.2.2.1.froz (65 - m - 1)
      have hal : Tryd.prog.arrayLen 89 = 65 := by kernel_rfl
      have hel : Tryd.prog.elem 89 = 5 := by kernel_rfl
      have hsl : ∀ W, Sem.run Tryd.prog (Instr.sliceAt 89 (.pointer (some ⟨vb, 0, none⟩)) (some (.int .i64 (((65 - m : Nat) : Int) - 1))) none none) W = .ok (.slice (some ⟨vb, 65 - m - 1, none⟩) (m + 1) (m + 1)) W := by
        intro W
        have ht : Tryd.prog.underlying 89 = some (.array (Tryd.prog.arrayLen 89) (Tryd.prog.elem 89)) := by rw [hal, hel]; exact Tryd.underlying89
        rw [run_sliceAt_array_l (P := Tryd.prog) W _ _ ht .i64 _ (by omega) (by rw [hal]; omega), hal, hel]
        have hz : (sizeOf 5).run Tryd.prog W = .ok 1 W := by simp [go_sem]
        rw [hz]
        have e : ((((65 - m : Nat) : Int) - 1).toNat) = 65 - m - 1 := by omega
        rw [e]
        show Result.ok (slicedAt _ _ _ _ _) W = _
        unfold slicedAt
        rw [if_neg (by omega), Nat.mul_one, Addr.add_mid, Nat.zero_add, show 65 - (65 - m - 1) = m + 1 by omega]
      have hcv : ∀ c : Int, Sem.run Tryd.prog (convert 73 9 (.slice (some ⟨vb, 65 - m - 1, none⟩) (m + 1) (m + 1))) (wr.setCell ⟨vb, 65 - m - 1, none⟩ (.int .u8 c)) = .ok (.string (strOfNums (c :: T))) (wr.setCell ⟨vb, 65 - m - 1, none⟩ (.int .u8 c)) := by
        intro c
        have hb := hR.out.2.2.1.step (by omega) c
        have := hb.str
        rw [List.length_cons, hm] at this
        exact this
      have hds : u < digs.size := by show u < 36; omega
      have hdg : strOfNums (((digs[u]'hds).toNat : Int) :: T) = S := by
        rw [dig_str u hlt hds T, hR.out.2.1]
        obtain ⟨j, rfl⟩ : ∃ j, k = j + 1 := ⟨k - 1, by omega⟩
        rw [hexS, if_pos hlt]
      have hE : ∀ v, Ext w (wr.setCell ⟨vb, 65 - m - 1, none⟩ v) := fun v => hR.out.2.2.2.setCell (by show w.heap.size ≤ vb; omega) v
      go_wp2
      refine bodyPost_ret (by simp [results, Tryd.results33, go_sem, ↓IntWalk.iteOmega, *]; try rfl) rfl ⟨congrArg (fun X => Ending.returned (.tuple #[.slice none 0 0, .string X])) hdg, hE _⟩
    · obtain ⟨c, hc⟩ := hR.out.2.2.1.cell (65 - m - 1) (by omega)
      have hf := hR.out.2.2.1.froz (65 - m - 1)
      have e1 := and15 u hu
      have hr : u % 16 < 16 := by omega
      obtain ⟨r, hrr⟩ : ∃ r, u % 16 = r := ⟨_, rfl⟩
      rw [hrr] at e1 hr
      go_wp2
      have hds : r < digs.size := by show r < 36; omega
      have hk2 : 0 < k - 1 := by
        rcases Nat.lt_or_ge 0 (k - 1) with h | h
        · exact h
        · have h2 := hR.out.1
          rw [show k = 1 by omega] at h2
          omega
      refine ⟨⟨u / 16, k - 1, ((digs[r]'hds).toNat : Int) :: T, rfl, by simp only [List.length_cons, hm]; congr 1; omega, by omega, by simp only [List.length_cons, hm]; omega, hk2, Lib.hid ⟨?_, ?_, ?_, ?_⟩⟩, by simp only [intOf]; omega⟩
      · rw [Nat.div_lt_iff_lt_mul (by omega), ← Nat.pow_succ, show (k - 1).succ = k by omega]; exact hR.out.1
      · rw [dig_str r hr hds T, hR.out.2.1, hexS_step (by omega) hk, hrr, ByteArray.append_assoc]
      · have hb := hR.out.2.2.1.step (by omega) ((digs[r]'hds).toNat : Int)
        rw [hm] at hb
        exact hb
      · exact hR.out.2.2.2.setCell (by show w.heap.size ≤ vb; omega) _
end Go.Proofs.YtaobmiphnpkoiaaDoor
