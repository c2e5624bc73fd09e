/- PscFills: behind a walk from the top, with room, it goes on where the walk's last step was; all addresses below that table do: for all words and addresses. -/
import Derived.Test.YtfaekfdngkpkdaaPsk4
import Derived.Test.YtfaekfdngkpkdaaHPscGoes
import Derived.Test.YtfaekfdngkpkdaaHMaskL
namespace Go.Proofs.Ytfaekfdngkpkdaa
set_option linter.unusedVariables false
set_option linter.unusedSimpArgs false
open Go.RowKit
attribute [local go_sem] wext_cell wext_frozen wext_heap alloc_cell alloc_frozen alloc_heap setCell_cell objCell_cells objFrozen_cells
attribute [local go_sem high] pl_eql

theorem one_c (b : Bool) (w : World) : Calls Try.prog 32 #[.bool b] w fun e w' => e = .returned (.int .i64 (if b = true then 1 else 0)) ∧ Ext w w' := by
  cases b
  all_goals
    go_enter Try.func32, Try.ntmps32
    go_wp2
    all_goals
      go_ret
      exact ⟨rfl, (by repeat (first | exact Ext.refl _ | assumption | refine Ext.alloc ?_ _ | refine Ext.drew ?_ | refine Ext.setCell ?_ (by first | (simp; done) | (dsimp only; omega)) _ | refine Ext.trans ?_ (by assumption)))⟩
theorem hasK_one {k k' : Key} {x : Line} : hasK k [(k', x)] = decide (k = k') := by
  unfold hasK look look
  by_cases h : k = k' <;> simp [h]
theorem getLine_one {k : Key} {x : Line} : getLine k [(k, x)] = x := by
  unfold getLine look; simp
/-- What stands there behind a walk of so many steps. -/
theorem fills {C : Int → Lines} {a : Int} {m : Nat} (hm1 : 1 ≤ m) (hm4 : m ≤ 4) (h : ∀ l : Int, ((6 : Int) - m ≤ l → l ≤ 4 → ∃ x, C l = [(kP 1 l a, x)]) ∧ (l < (6 : Int) - m → l ≤ 4 → C l = [])) :
    (C 4).length = (if 2 ≤ m then 1 else 0) ∧ (C 3).length = (if 3 ≤ m then 1 else 0) ∧ (C 2).length = (if 4 ≤ m then 1 else 0) ∧ deepF C 2 a = none ∧
      (m = 1 → ∀ b, deepF C 1 b = none) ∧ (2 ≤ m → ∃ x, deepF C 1 a = some ((6 : Int) - m, x) ∧ ∀ b, tagP b ((6 : Int) - m) = tagP a ((6 : Int) - m) → deepF C 1 b = some ((6 : Int) - m, x)) := by
  have len : ∀ l : Int, 2 ≤ l → l ≤ 4 → (C l).length = if (6 : Int) - m ≤ l then 1 else 0 := fun l l0 l1 => by
    by_cases hl : (6 : Int) - m ≤ l
    · obtain ⟨x, hx⟩ := (h l).1 hl l1
      rw [hx, if_pos hl]; rfl
    · rw [(h l).2 (by omega) l1, if_neg hl]; rfl
  have no : ∀ p b l : Int, l ≤ 4 → l < (6 : Int) - m → hasK (kP p l b) (C l) = false := fun p b l l1 hl => by rw [(h l).2 hl l1]; rfl
  refine ⟨?_, ?_, ?_, deepF_none.2 fun l l0 l1 => ?_, fun h1 b => deepF_none.2 fun l l0 l1 => no 1 b l l1 (by omega), fun h2 => ?_⟩
  · rw [len 4 (by omega) (by omega)]
    by_cases h2 : 2 ≤ m
    · rw [if_pos (by omega), if_pos h2]
    · rw [if_neg (by omega), if_neg h2]
  · rw [len 3 (by omega) (by omega)]
    by_cases h2 : 3 ≤ m
    · rw [if_pos (by omega), if_pos h2]
    · rw [if_neg (by omega), if_neg h2]
  · rw [len 2 (by omega) (by omega)]
    by_cases h2 : 4 ≤ m
    · rw [if_pos (by omega), if_pos h2]
    · rw [if_neg (by omega), if_neg h2]
  · by_cases hl : (6 : Int) - m ≤ l
    · obtain ⟨x, hx⟩ := (h l).1 hl l1
      rw [hx, hasK_one]
      simp [kP]
    · exact no 2 a l l1 (by omega)
  · obtain ⟨x, hx⟩ := (h ((6 : Int) - m)).1 (by omega) (by omega)
    have key : ∀ b, tagP b ((6 : Int) - m) = tagP a ((6 : Int) - m) → deepF C 1 b = some ((6 : Int) - m, x) := fun b hb => by
      have hk : kP 1 ((6 : Int) - m) b = kP 1 ((6 : Int) - m) a := by unfold kP; rw [hb]
      rw [deepF_at (l := (6 : Int) - m) (by omega) (by omega) (fun j j0 j1 => no 1 b j (by omega) j1) (by rw [hx, hk, hasK_one]; simp), hx, hk, getLine_one]
    exact ⟨x, key a rfl, key⟩

set_option maxHeartbeats 4000000 in
set_option maxRecDepth 100000 in
theorem pscFills_c (v : Value) (ds : List PutD) (n n2 : Int) (w : World) (h : ListAt w v 4 PutD.cells PutD.ok ds) (hn0 : 0 ≤ n) (hn1 : n ≤ 4294967295) (hm0 : 0 ≤ n2) (hm1 : n2 ≤ 4294967295) :
    Calls Try.prog 5 #[v, .int .u32 n, .int .u32 n2] w fun e w' => e = .returned (.bool true) ∧ Ext w w' := by
  have HL := Lib.hid h
  have HNa := Lib.hid (fun w => near_c n w hn0 hn1)
  have HNb := Lib.hid (fun w => near_c n2 w hm0 hm1)
  have ⟨na0, na1⟩ := nearI_le hn0
  have ⟨nb0, nb1⟩ := nearI_le hm0
  obtain ⟨a1, c1, rfl, -, -, -, -⟩ := h
  generalize nearI n = na at *
  generalize nearI n2 = nb at *
  have HN := Lib.hid (fun w => pscNew_c 8 w (by omega) (by omega))
  have t2 : ∀ w, Calls Try.prog 28 #[.int .u64 0] w fun e w' => e = .returned (.agg #[.int .i64 4, .int .u64 0, .bool true, .bool true, .bool true]) ∧ Ext w w' := fun w => wTop_c 0 w (by omega) (by omega)
  have HT := Lib.hid t2
  clear t2
  go_enter Try.func5, Try.ntmps5
  go_upto_region 3 with (first | (go_at_call 23; refine (awake11_c _).mono ?_; rintro e w0 ⟨rfl, hb0⟩) | (go_at_call 24; refine (built11_c _ ds _ (HL.out.ext (by repeat (first | exact Ext.refl _ | assumption | refine Ext.alloc ?_ _ | refine Ext.drew ?_ | refine Ext.setCell ?_ (by first | (simp; done) | (dsimp only; omega)) _ | refine Ext.trans ?_ (by assumption))))).mono ?_; rintro e w1 ⟨mb, Fm, rfl, hC, hE, hF, hmb⟩))
  have C1 := Lib.hid hC
  have E1 : Hid (Ext w w1) := Lib.hid ((Ext.trans (by repeat (first | exact Ext.refl _ | assumption | refine Ext.alloc ?_ _ | refine Ext.drew ?_ | refine Ext.setCell ?_ (by first | (simp; done) | (dsimp only; omega)) _ | refine Ext.trans ?_ (by assumption))) hb0).trans hE)
  have hF1 : ∀ x ∈ Fm, w.heap.size ≤ x := fun x hx => Nat.le_trans (Ext.size (Ext.trans (by repeat (first | exact Ext.refl _ | assumption | refine Ext.alloc ?_ _ | refine Ext.drew ?_ | refine Ext.setCell ?_ (by first | (simp; done) | (dsimp only; omega)) _ | refine Ext.trans ?_ (by assumption))) hb0)) (hF x hx)
  have F1 := Lib.hid hF1
  clear hC hE hF hF1 hmb hb0
  go_upto_region 6 with (first | (go_at_call 29; refine (HN.out _).mono ?_; rintro e w2 ⟨pb, cb, F0, rfl, hP, hE2, hp, hf⟩))
  have hB : Both w2 mb Fm (builtM (ds.take 100)) [] pb cb F0 (fun _ => []) 8 := ⟨C1.out.ext hE2, hP, fun x hx hm => by have := C1.out.lt x hx; have := hf x hm; omega⟩
  have B2 := Lib.hid hB
  have E2 := Lib.hid (E1.out.trans hE2)
  have F2 : Hid (∀ x ∈ allF F0, w.heap.size ≤ x) := Lib.hid fun x hx => Nat.le_trans E1.out.size (hf x hx)
  have hM := C1.out.wide
  generalize builtM (ds.take 100) = M at *
  clear hB hP hE2 hp hf
  go_upto_region 7 with (first | (go_at_call 26; refine (HNa.out _).mono ?_; rintro e w3 ⟨rfl, hb3⟩))
  go_upto_region 8 with (first | (go_at_call 28; refine (HT.out _).mono ?_; rintro e w4 ⟨rfl, hb4⟩))
  refine wp_gen ?_; intro U hU
  have hUE : Ext w2 U := by rw [hU]; exact ((Ext.trans (by repeat (first | exact Ext.refl _ | assumption | refine Ext.alloc ?_ _ | refine Ext.drew ?_ | refine Ext.setCell ?_ (by first | (simp; done) | (dsimp only; omega)) _ | refine Ext.trans ?_ (by assumption))) hb3).trans (Ext.trans (by repeat (first | exact Ext.refl _ | assumption | refine Ext.alloc ?_ _ | refine Ext.drew ?_ | refine Ext.setCell ?_ (by first | (simp; done) | (dsimp only; omega)) _ | refine Ext.trans ?_ (by assumption))) hb4)).alloc _
  have hUQ : U.heap[w4.heap.size]? = some (.cells #[.int .i64 4, .int .u64 0, .bool true, .bool true, .bool true] 41 (0, 0)) := by rw [hU]; exact alloc_same ..
  obtain ⟨tb, htb⟩ : ∃ tb, w4.heap.size = tb := ⟨_, rfl⟩
  rw [htb] at hUQ ⊢
  have BU := Lib.hid (B2.out.ext hUE)
  have EU := Lib.hid (E2.out.trans hUE)
  have UQ := Lib.hid hUQ
  clear hU hUE hUQ htb hb3 hb4
  obtain ⟨q, hq⟩ : ∃ q, walkF M 16 true na 4 0 allRt = q := ⟨_, rfl⟩
  have hok := walk_ok hM (nxe := true) (a := na) 4 0 allRt (by omega) (by omega) (by decide)
  have hfn := fill_new (M := M) (p := 1) (a := na) (pk := pkF 0 0 0) (r := 8) (by omega) 4 0 allRt (fun _ => []) (by omega) (fun _ _ => rfl)
  have hqo : ∀ j, j < q.1.length → 0 ≤ (stpAt q.1 j).2.2 ∧ (stpAt q.1 j).2.2 ≤ 18446744073709551615 := by rw [← hq]; exact walk_steps_ok hM
  rw [hq] at hok hfn
  have HQO := Lib.hid hqo
  have HFr := Lib.hid (fun w1 (h : MemAt w1 mb Fm 16 M []) => by have := from_c mb Fm 16 M [] 4 0 true true true na true w1 h (by omega) (by omega) (by omega) na0 (by omega) (by simp); rw [show ((true, true, true) : Rt) = allRt from rfl, hq] at this; exact this)
  obtain ⟨L, why, ⟨b0, b1, b2⟩, lv, fr⟩ := q
  have hql := hok.len
  dsimp only at hql hfn
  obtain ⟨C, hC⟩ : ∃ C, fillF 1 na (pkF 0 0 0) 8 L allRt (fun _ => []) = C := ⟨_, rfl⟩
  rw [hC] at hfn
  have hfl := fills (C := C) (a := na) (m := L.length) hql.1 hql.2 fun l => ⟨fun h1 h2 => (hfn l).2.1 (by omega) h2, fun h1 h2 => (hfn l).2.2 (by omega) h2⟩
  have HFL := Lib.hid hfl
  have HCd := Lib.hid hC
  obtain ⟨hql1, hql4⟩ := hql
  clear hq hok hfn hqo hfl hC hM
  have y0 := (heap_cell UQ.out 0).trans rfl
  have y1 := (heap_cell UQ.out 1).trans rfl
  have y2 := (heap_cell UQ.out 2).trans rfl
  have y3 := (heap_cell UQ.out 3).trans rfl
  have y4 := (heap_cell UQ.out 4).trans rfl
  have yl := heap_lt UQ.out
  go_upto_region 9 with (first | (go_at_call 16; refine (HFr.out _ BU.out.mem).mono ?_; rintro e w6 ⟨v6, rfl, q2, q3, q4⟩; obtain ⟨sa, sc, rfl, -, -⟩ := q2.form))
  have hB6 := BU.out.after_mem q3
  obtain ⟨F6, hB6, hK6, hf6⟩ := hB6
  refine wp_gen ?_; intro V hV
  have hwV : Ext w6 V := by rw [hV]; exact (Ext.refl _).alloc _
  have hVp : PathAt V w6.heap.size sa sc (L, why, (b0, b1, b2), lv, fr) := by rw [hV]; exact ⟨alloc_same .., q2.ext ((Ext.refl _).alloc _)⟩
  have BV := Lib.hid (hB6.ext hwV)
  have EV := Lib.hid ((Keeps.to_ext EU.out hK6 F1.out).trans hwV)
  have hVQ := (hwV.block _ (Nat.lt_of_lt_of_le (heap_lt UQ.out) hK6.size)).trans ((hK6.block _ (heap_lt UQ.out) (BU.out.mem.apart UQ.out (by decide) (by decide) (by decide))).trans UQ.out)
  obtain ⟨pw, hpw⟩ : ∃ pw, w6.heap.size = pw := ⟨_, rfl⟩
  rw [hpw] at hVp ⊢
  have VP := Lib.hid hVp
  have VQ := Lib.hid hVQ
  clear hV hwV hVQ hVp hpw q2 q3 q4 hB6 hK6 hf6 y0 y1 y2 y3 y4 yl
  have y0 := (heap_cell VQ.out 0).trans rfl
  have y1 := (heap_cell VQ.out 1).trans rfl
  have y2 := (heap_cell VQ.out 2).trans rfl
  have y3 := (heap_cell VQ.out 3).trans rfl
  have y4 := (heap_cell VQ.out 4).trans rfl
  have yl := heap_lt VQ.out
  obtain ⟨⟨d0, d1, d2, d3, d4, d5, d6⟩, dl⟩ := VP.out.facts
  dsimp only at d0 d1 d2 d3 d4 d5 d6
  go_upto_region 10 with (first | (go_at_call 30; refine (fill_c pb cb F0 (fun _ => []) 8 1 na L sa sc why (b0, b1, b2) lv fr 4 0 (true, true, true) 0 0 0 _ BV.out.psc (StepsAt.of VP.out.2) (fun g' o' e' hm' => by subst e'; obtain ⟨c', hc'⟩ := VP.out.2.heap g' (by rfl); exact BV.out.psc.out hc' (by decide) (by decide) hm') (by omega) HQO.out na0 (by omega) (by intro l; unfold pkF; split; omega; split <;> omega)).mono ?_; rintro e w8 ⟨rfl, F8, q1, q2, q3⟩))
  have q1' : PscAt w8 pb cb F8 C 8 := by rw [← HCd.out]; exact q1
  have P8 := Lib.hid q1'
  have E8 := Lib.hid (Keeps.to_ext EV.out q2 F2.out)
  have hw8 := (q2.block _ (heap_lt VP.out.1) (BV.out.psc.out VP.out.1 (by decide) (by decide))).trans VP.out.1
  have W8 := Lib.hid hw8
  clear q1 q1' q2 q3 hw8 y0 y1 y2 y3 y4 yl d0 d1 d2 d3 d4 d5 d6 dl
  have y0 := (heap_cell W8.out 0).trans rfl
  have yl := heap_lt W8.out
  dsimp only at y0
  obtain ⟨hl4, hl3, hl2, hd2, hm1', hm2'⟩ := HFL.out
  have HD2 := Lib.hid (fun w h => deepest_c pb cb F8 C 8 2 na w h na0 (by omega))
  rw [hd2] at HD2
  have HL4 := Lib.hid (fun w h => pscLen_c pb cb F8 C 8 4 w h (by omega))
  have HL3 := Lib.hid (fun w h => pscLen_c pb cb F8 C 8 3 w h (by omega))
  have HL2 := Lib.hid (fun w h => pscLen_c pb cb F8 C 8 2 w h (by omega))
  rw [hl4] at HL4
  rw [hl3] at HL3
  rw [hl2] at HL2
  have HM1 := Lib.hid hm1'
  have HM2 := Lib.hid hm2'
  obtain ⟨da, hda⟩ : ∃ d, deepF C 1 na = d := ⟨_, rfl⟩
  obtain ⟨db, hdb⟩ : ∃ d, deepF C 1 nb = d := ⟨_, rfl⟩
  have HDa := Lib.hid (fun w h => deepest_c pb cb F8 C 8 1 na w h na0 (by omega))
  have HDb := Lib.hid (fun w h => deepest_c pb cb F8 C 8 1 nb w h nb0 (by omega))
  rw [hda] at HDa
  rw [hdb] at HDb
  have Hda := Lib.hid hda
  have Hdb := Lib.hid hdb
  clear hl4 hl3 hl2 hd2 hm1' hm2' hda hdb HFL
  go_upto_region 11 with (fail)
  clear y0 yl
  go_upto_region 12 with (first | (go_at_call 27; refine (HDa.out _ (P8.out.ext (by repeat (first | exact Ext.refl _ | assumption | refine Ext.alloc ?_ _ | refine Ext.drew ?_ | refine Ext.setCell ?_ (by first | (simp; done) | (dsimp only; omega)) _ | refine Ext.trans ?_ (by assumption))))).mono ?_; rintro e x1 ⟨rfl, hx1⟩))
  go_upto_region 13 with (first | (go_at_call 26; refine (HNb.out _).mono ?_; rintro e x2 ⟨rfl, hx2⟩))
  go_upto_region 14 with (first | (go_at_call 27; refine (HDb.out _ (P8.out.ext (Ext.trans (Ext.trans (by repeat (first | exact Ext.refl _ | assumption | refine Ext.alloc ?_ _ | refine Ext.drew ?_ | refine Ext.setCell ?_ (by first | (simp; done) | (dsimp only; omega)) _ | refine Ext.trans ?_ (by assumption))) hx2) (Ext.refl _)))).mono ?_; rintro e x3 ⟨rfl, hx3⟩))
  refine wp_gen ?_; intro X hX
  have hX12 : Ext w8 x2 := Ext.trans (by repeat (first | exact Ext.refl _ | assumption | refine Ext.alloc ?_ _ | refine Ext.drew ?_ | refine Ext.setCell ?_ (by first | (simp; done) | (dsimp only; omega)) _ | refine Ext.trans ?_ (by assumption))) hx2
  have hX1 : x1.heap.size < x2.heap.size := by have := hx2.size; simp at this; omega
  have hXE : Ext w8 X := by rw [hX]; exact (hX12.trans hx3).alloc _
  have hXa : X.heap[x1.heap.size]? = some (.cells #[.int .i64 (placeF da).1, .int .u64 (placeF da).2.1, .bool (placeF da).2.2.1, .bool (placeF da).2.2.2.1, .bool (placeF da).2.2.2.2] 41 (0, 0)) := by
    rw [hX]; exact (alloc_other _ _ (Nat.lt_of_lt_of_le hX1 hx3.size)).trans ((hx3.block _ hX1).trans ((hx2.block _ (by simp)).trans (alloc_same x1 _)))
  have hXb : X.heap[x3.heap.size]? = some (.cells #[.int .i64 (placeF db).1, .int .u64 (placeF db).2.1, .bool (placeF db).2.2.1, .bool (placeF db).2.2.2.1, .bool (placeF db).2.2.2.2] 41 (0, 0)) := by rw [hX]; exact alloc_same ..
  obtain ⟨ba, hba⟩ : ∃ b, x1.heap.size = b := ⟨_, rfl⟩
  obtain ⟨bb, hbb⟩ : ∃ b, x3.heap.size = b := ⟨_, rfl⟩
  rw [hba] at hXa
  rw [hbb] at hXb
  rw [hba, hbb]
  have XP := Lib.hid (P8.out.ext hXE)
  have XE := Lib.hid (E8.out.trans hXE)
  have XA := Lib.hid hXa
  have XB := Lib.hid hXb
  clear hX hX12 hX1 hXE hXa hXb hba hbb hx1 hx2 hx3
  have HOne := Lib.hid one_c
  have hmm : L.length = 1 ∨ L.length = 2 ∨ L.length = 3 ∨ L.length = 4 := by omega
  have HX := Lib.hid (show True from trivial)
  rcases hmm with hm | hm | hm | hm
  · have hm9 : ((L.length : Nat) : Int) = 1 := by omega
    have hd0 := Hda.out
    have hd1 := Hdb.out
    rw [HM1.out hm] at hd0 hd1
    subst hd0 hd1
    rw [hm] at HL4 HL3 HL2
    simp only [Nat.reduceLeDiff, if_false, reduceIte] at HL4 HL3 HL2
    clear hm
    have u0 := (heap_cell XA.out 0).trans rfl
    have u1 := (heap_cell XA.out 1).trans rfl
    have u2 := (heap_cell XA.out 2).trans rfl
    have u3 := (heap_cell XA.out 3).trans rfl
    have u4 := (heap_cell XA.out 4).trans rfl
    have z0 := (heap_cell XB.out 0).trans rfl
    have z1 := (heap_cell XB.out 1).trans rfl
    have z2 := (heap_cell XB.out 2).trans rfl
    have z3 := (heap_cell XB.out 3).trans rfl
    have z4 := (heap_cell XB.out 4).trans rfl
    have ul := heap_lt XA.out
    have zl := heap_lt XB.out
    go_upto_region 19 with (first | (go_at_call 31; (with_reducible refine (HL4.out _ (XP.out.ext (by repeat (first | exact Ext.refl _ | assumption | refine Ext.alloc ?_ _ | refine Ext.drew ?_ | refine Ext.setCell ?_ (by first | (simp; done) | (dsimp only; omega)) _ | refine Ext.trans ?_ (by assumption))))).mono ?_); rintro e y1 ⟨rfl, hy1⟩) | (go_at_call 31; (with_reducible refine (HL3.out _ (XP.out.ext (by repeat (first | exact Ext.refl _ | assumption | refine Ext.alloc ?_ _ | refine Ext.drew ?_ | refine Ext.setCell ?_ (by first | (simp; done) | (dsimp only; omega)) _ | refine Ext.trans ?_ (by assumption))))).mono ?_); rintro e y2 ⟨rfl, hy2⟩) | (go_at_call 31; (with_reducible refine (HL2.out _ (XP.out.ext (by repeat (first | exact Ext.refl _ | assumption | refine Ext.alloc ?_ _ | refine Ext.drew ?_ | refine Ext.setCell ?_ (by first | (simp; done) | (dsimp only; omega)) _ | refine Ext.trans ?_ (by assumption))))).mono ?_); rintro e y3 ⟨rfl, hy3⟩) | (go_at_call 32; refine (HOne.out _ _).mono ?_; rintro e yy ⟨rfl, hyy⟩) | (go_at_call 27; refine (HD2.out _ (XP.out.ext (by repeat (first | exact Ext.refl _ | assumption | refine Ext.alloc ?_ _ | refine Ext.drew ?_ | refine Ext.setCell ?_ (by first | (simp; done) | (dsimp only; omega)) _ | refine Ext.trans ?_ (by assumption))))).mono ?_; rintro e y4 ⟨rfl, hy4⟩; skip))
    refine wp_gen ?_; intro Z hZ
    have hZE : Ext X Z := by rw [hZ]; exact (by repeat (first | exact Ext.refl _ | assumption | refine Ext.alloc ?_ _ | refine Ext.drew ?_ | refine Ext.setCell ?_ (by first | (simp; done) | (dsimp only; omega)) _ | refine Ext.trans ?_ (by assumption)))
    clear hZ u0 z0 u1 z1 u2 z2 u3 z3 u4 z4 ul zl
    have u0 := hZE.someCell ((heap_cell XA.out 0).trans rfl)
    have u1 := hZE.someCell ((heap_cell XA.out 1).trans rfl)
    have u2 := hZE.someCell ((heap_cell XA.out 2).trans rfl)
    have u3 := hZE.someCell ((heap_cell XA.out 3).trans rfl)
    have u4 := hZE.someCell ((heap_cell XA.out 4).trans rfl)
    have ul := Nat.lt_of_lt_of_le (heap_lt XA.out) hZE.size
    have z0 := hZE.someCell ((heap_cell XB.out 0).trans rfl)
    have z1 := hZE.someCell ((heap_cell XB.out 1).trans rfl)
    have z2 := hZE.someCell ((heap_cell XB.out 2).trans rfl)
    have z3 := hZE.someCell ((heap_cell XB.out 3).trans rfl)
    have z4 := hZE.someCell ((heap_cell XB.out 4).trans rfl)
    have zl := Nat.lt_of_lt_of_le (heap_lt XB.out) hZE.size
    have ZE := Lib.hid (XE.out.trans hZE)
    clear hZE
    go_wp2
    go_ret
    exact ⟨rfl, ZE.out⟩
  · have hm9 : ((L.length : Nat) : Int) = 2 := by omega
    have hd0 := Hda.out
    have hd1 := Hdb.out
    obtain ⟨xx, hx1, hx2⟩ := HM2.out (by omega)
    rw [hm] at hx1 hx2
    rw [show (6 : Int) - (((2 : Nat)) : Int) = 4 from rfl] at hx1 hx2
    rw [hx1] at hd0
    subst hd0
    rw [hm] at HL4 HL3 HL2
    simp only [Nat.reduceLeDiff, if_true, if_false, reduceIte] at HL4 HL3 HL2
    have hA : bits BinOp.and IntKind.u64 (na / 549755813888) 1099511627775 = na / 549755813888 := mask40 (by omega) (by omega)
    have hBB : bits BinOp.and IntKind.u64 (nb / 549755813888) 1099511627775 = nb / 549755813888 := mask40 (by omega) (by omega)
    by_cases hs9 : na / 549755813888 = nb / 549755813888
    · have hsb : (na / 549755813888 == nb / 549755813888) = true := by simpa using hs9
      rw [hx2 nb (by unfold tagP; simp; omega)] at hd1
      subst hd1
      clear hm hs9 hx1 hx2
      have hpp := plB_self (placeF (some (4, xx)))
      have hpe : (placeF (some ((4 : Int), xx))) = (3, xx.f, xx.rt) := rfl
      rw [hpe] at hpp XA XB
      dsimp only at hpp XA XB
      have u0 := (heap_cell XA.out 0).trans rfl
      have u1 := (heap_cell XA.out 1).trans rfl
      have u2 := (heap_cell XA.out 2).trans rfl
      have u3 := (heap_cell XA.out 3).trans rfl
      have u4 := (heap_cell XA.out 4).trans rfl
      have z0 := (heap_cell XB.out 0).trans rfl
      have z1 := (heap_cell XB.out 1).trans rfl
      have z2 := (heap_cell XB.out 2).trans rfl
      have z3 := (heap_cell XB.out 3).trans rfl
      have z4 := (heap_cell XB.out 4).trans rfl
      have ul := heap_lt XA.out
      have zl := heap_lt XB.out
      go_upto_region 19 with (first | (go_at_call 31; (with_reducible refine (HL4.out _ (XP.out.ext (by repeat (first | exact Ext.refl _ | assumption | refine Ext.alloc ?_ _ | refine Ext.drew ?_ | refine Ext.setCell ?_ (by first | (simp; done) | (dsimp only; omega)) _ | refine Ext.trans ?_ (by assumption))))).mono ?_); rintro e y1 ⟨rfl, hy1⟩) | (go_at_call 31; (with_reducible refine (HL3.out _ (XP.out.ext (by repeat (first | exact Ext.refl _ | assumption | refine Ext.alloc ?_ _ | refine Ext.drew ?_ | refine Ext.setCell ?_ (by first | (simp; done) | (dsimp only; omega)) _ | refine Ext.trans ?_ (by assumption))))).mono ?_); rintro e y2 ⟨rfl, hy2⟩) | (go_at_call 31; (with_reducible refine (HL2.out _ (XP.out.ext (by repeat (first | exact Ext.refl _ | assumption | refine Ext.alloc ?_ _ | refine Ext.drew ?_ | refine Ext.setCell ?_ (by first | (simp; done) | (dsimp only; omega)) _ | refine Ext.trans ?_ (by assumption))))).mono ?_); rintro e y3 ⟨rfl, hy3⟩) | (go_at_call 32; refine (HOne.out _ _).mono ?_; rintro e yy ⟨rfl, hyy⟩) | (go_at_call 27; refine (HD2.out _ (XP.out.ext (by repeat (first | exact Ext.refl _ | assumption | refine Ext.alloc ?_ _ | refine Ext.drew ?_ | refine Ext.setCell ?_ (by first | (simp; done) | (dsimp only; omega)) _ | refine Ext.trans ?_ (by assumption))))).mono ?_; rintro e y4 ⟨rfl, hy4⟩; skip))
      refine wp_gen ?_; intro Z hZ
      have hZE : Ext X Z := by rw [hZ]; exact (by repeat (first | exact Ext.refl _ | assumption | refine Ext.alloc ?_ _ | refine Ext.drew ?_ | refine Ext.setCell ?_ (by first | (simp; done) | (dsimp only; omega)) _ | refine Ext.trans ?_ (by assumption)))
      clear hZ u0 z0 u1 z1 u2 z2 u3 z3 u4 z4 ul zl
      have u0 := hZE.someCell ((heap_cell XA.out 0).trans rfl)
      have u1 := hZE.someCell ((heap_cell XA.out 1).trans rfl)
      have u2 := hZE.someCell ((heap_cell XA.out 2).trans rfl)
      have u3 := hZE.someCell ((heap_cell XA.out 3).trans rfl)
      have u4 := hZE.someCell ((heap_cell XA.out 4).trans rfl)
      have ul := Nat.lt_of_lt_of_le (heap_lt XA.out) hZE.size
      have z0 := hZE.someCell ((heap_cell XB.out 0).trans rfl)
      have z1 := hZE.someCell ((heap_cell XB.out 1).trans rfl)
      have z2 := hZE.someCell ((heap_cell XB.out 2).trans rfl)
      have z3 := hZE.someCell ((heap_cell XB.out 3).trans rfl)
      have z4 := hZE.someCell ((heap_cell XB.out 4).trans rfl)
      have zl := Nat.lt_of_lt_of_le (heap_lt XB.out) hZE.size
      have ZE := Lib.hid (XE.out.trans hZE)
      clear hZE
      go_wp2
      go_ret
      exact ⟨rfl, ZE.out⟩
    · have hsb : (na / 549755813888 == nb / 549755813888) = false := by simpa using hs9
      clear hm hs9 hx1 hx2
      have hpe : (placeF (some ((4 : Int), xx))) = (3, xx.f, xx.rt) := rfl
      rw [hpe] at XA
      dsimp only at XA
      have u0 := (heap_cell XA.out 0).trans rfl
      have u1 := (heap_cell XA.out 1).trans rfl
      have u2 := (heap_cell XA.out 2).trans rfl
      have u3 := (heap_cell XA.out 3).trans rfl
      have u4 := (heap_cell XA.out 4).trans rfl
      have z0 := (heap_cell XB.out 0).trans rfl
      have z1 := (heap_cell XB.out 1).trans rfl
      have z2 := (heap_cell XB.out 2).trans rfl
      have z3 := (heap_cell XB.out 3).trans rfl
      have z4 := (heap_cell XB.out 4).trans rfl
      have ul := heap_lt XA.out
      have zl := heap_lt XB.out
      go_upto_region 19 with (first | (go_at_call 31; (with_reducible refine (HL4.out _ (XP.out.ext (by repeat (first | exact Ext.refl _ | assumption | refine Ext.alloc ?_ _ | refine Ext.drew ?_ | refine Ext.setCell ?_ (by first | (simp; done) | (dsimp only; omega)) _ | refine Ext.trans ?_ (by assumption))))).mono ?_); rintro e y1 ⟨rfl, hy1⟩) | (go_at_call 31; (with_reducible refine (HL3.out _ (XP.out.ext (by repeat (first | exact Ext.refl _ | assumption | refine Ext.alloc ?_ _ | refine Ext.drew ?_ | refine Ext.setCell ?_ (by first | (simp; done) | (dsimp only; omega)) _ | refine Ext.trans ?_ (by assumption))))).mono ?_); rintro e y2 ⟨rfl, hy2⟩) | (go_at_call 31; (with_reducible refine (HL2.out _ (XP.out.ext (by repeat (first | exact Ext.refl _ | assumption | refine Ext.alloc ?_ _ | refine Ext.drew ?_ | refine Ext.setCell ?_ (by first | (simp; done) | (dsimp only; omega)) _ | refine Ext.trans ?_ (by assumption))))).mono ?_); rintro e y3 ⟨rfl, hy3⟩) | (go_at_call 32; refine (HOne.out _ _).mono ?_; rintro e yy ⟨rfl, hyy⟩) | (go_at_call 27; refine (HD2.out _ (XP.out.ext (by repeat (first | exact Ext.refl _ | assumption | refine Ext.alloc ?_ _ | refine Ext.drew ?_ | refine Ext.setCell ?_ (by first | (simp; done) | (dsimp only; omega)) _ | refine Ext.trans ?_ (by assumption))))).mono ?_; rintro e y4 ⟨rfl, hy4⟩; skip))
      refine wp_gen ?_; intro Z hZ
      have hZE : Ext X Z := by rw [hZ]; exact (by repeat (first | exact Ext.refl _ | assumption | refine Ext.alloc ?_ _ | refine Ext.drew ?_ | refine Ext.setCell ?_ (by first | (simp; done) | (dsimp only; omega)) _ | refine Ext.trans ?_ (by assumption)))
      clear hZ u0 z0 u1 z1 u2 z2 u3 z3 u4 z4 ul zl
      have u0 := hZE.someCell ((heap_cell XA.out 0).trans rfl)
      have u1 := hZE.someCell ((heap_cell XA.out 1).trans rfl)
      have u2 := hZE.someCell ((heap_cell XA.out 2).trans rfl)
      have u3 := hZE.someCell ((heap_cell XA.out 3).trans rfl)
      have u4 := hZE.someCell ((heap_cell XA.out 4).trans rfl)
      have ul := Nat.lt_of_lt_of_le (heap_lt XA.out) hZE.size
      have z0 := hZE.someCell ((heap_cell XB.out 0).trans rfl)
      have z1 := hZE.someCell ((heap_cell XB.out 1).trans rfl)
      have z2 := hZE.someCell ((heap_cell XB.out 2).trans rfl)
      have z3 := hZE.someCell ((heap_cell XB.out 3).trans rfl)
      have z4 := hZE.someCell ((heap_cell XB.out 4).trans rfl)
      have zl := Nat.lt_of_lt_of_le (heap_lt XB.out) hZE.size
      have ZE := Lib.hid (XE.out.trans hZE)
      clear hZE
      go_wp2
      go_ret
      exact ⟨rfl, ZE.out⟩
  · have hm9 : ((L.length : Nat) : Int) = 3 := by omega
    have hd0 := Hda.out
    have hd1 := Hdb.out
    obtain ⟨xx, hx1, hx2⟩ := HM2.out (by omega)
    rw [hm] at hx1 hx2
    rw [show (6 : Int) - (((3 : Nat)) : Int) = 3 from rfl] at hx1 hx2
    rw [hx1] at hd0
    subst hd0
    rw [hm] at HL4 HL3 HL2
    simp only [Nat.reduceLeDiff, if_true, if_false, reduceIte] at HL4 HL3 HL2
    have hA : bits BinOp.and IntKind.u64 (na / 1073741824) 1099511627775 = na / 1073741824 := mask40 (by omega) (by omega)
    have hBB : bits BinOp.and IntKind.u64 (nb / 1073741824) 1099511627775 = nb / 1073741824 := mask40 (by omega) (by omega)
    by_cases hs9 : na / 1073741824 = nb / 1073741824
    · have hsb : (na / 1073741824 == nb / 1073741824) = true := by simpa using hs9
      rw [hx2 nb (by unfold tagP; simp; omega)] at hd1
      subst hd1
      clear hm hs9 hx1 hx2
      have hpp := plB_self (placeF (some (3, xx)))
      have hpe : (placeF (some ((3 : Int), xx))) = (2, xx.f, xx.rt) := rfl
      rw [hpe] at hpp XA XB
      dsimp only at hpp XA XB
      have u0 := (heap_cell XA.out 0).trans rfl
      have u1 := (heap_cell XA.out 1).trans rfl
      have u2 := (heap_cell XA.out 2).trans rfl
      have u3 := (heap_cell XA.out 3).trans rfl
      have u4 := (heap_cell XA.out 4).trans rfl
      have z0 := (heap_cell XB.out 0).trans rfl
      have z1 := (heap_cell XB.out 1).trans rfl
      have z2 := (heap_cell XB.out 2).trans rfl
      have z3 := (heap_cell XB.out 3).trans rfl
      have z4 := (heap_cell XB.out 4).trans rfl
      have ul := heap_lt XA.out
      have zl := heap_lt XB.out
      go_upto_region 19 with (first | (go_at_call 31; (with_reducible refine (HL4.out _ (XP.out.ext (by repeat (first | exact Ext.refl _ | assumption | refine Ext.alloc ?_ _ | refine Ext.drew ?_ | refine Ext.setCell ?_ (by first | (simp; done) | (dsimp only; omega)) _ | refine Ext.trans ?_ (by assumption))))).mono ?_); rintro e y1 ⟨rfl, hy1⟩) | (go_at_call 31; (with_reducible refine (HL3.out _ (XP.out.ext (by repeat (first | exact Ext.refl _ | assumption | refine Ext.alloc ?_ _ | refine Ext.drew ?_ | refine Ext.setCell ?_ (by first | (simp; done) | (dsimp only; omega)) _ | refine Ext.trans ?_ (by assumption))))).mono ?_); rintro e y2 ⟨rfl, hy2⟩) | (go_at_call 31; (with_reducible refine (HL2.out _ (XP.out.ext (by repeat (first | exact Ext.refl _ | assumption | refine Ext.alloc ?_ _ | refine Ext.drew ?_ | refine Ext.setCell ?_ (by first | (simp; done) | (dsimp only; omega)) _ | refine Ext.trans ?_ (by assumption))))).mono ?_); rintro e y3 ⟨rfl, hy3⟩) | (go_at_call 32; refine (HOne.out _ _).mono ?_; rintro e yy ⟨rfl, hyy⟩) | (go_at_call 27; refine (HD2.out _ (XP.out.ext (by repeat (first | exact Ext.refl _ | assumption | refine Ext.alloc ?_ _ | refine Ext.drew ?_ | refine Ext.setCell ?_ (by first | (simp; done) | (dsimp only; omega)) _ | refine Ext.trans ?_ (by assumption))))).mono ?_; rintro e y4 ⟨rfl, hy4⟩; skip))
      refine wp_gen ?_; intro Z hZ
      have hZE : Ext X Z := by rw [hZ]; exact (by repeat (first | exact Ext.refl _ | assumption | refine Ext.alloc ?_ _ | refine Ext.drew ?_ | refine Ext.setCell ?_ (by first | (simp; done) | (dsimp only; omega)) _ | refine Ext.trans ?_ (by assumption)))
      clear hZ u0 z0 u1 z1 u2 z2 u3 z3 u4 z4 ul zl
      have u0 := hZE.someCell ((heap_cell XA.out 0).trans rfl)
      have u1 := hZE.someCell ((heap_cell XA.out 1).trans rfl)
      have u2 := hZE.someCell ((heap_cell XA.out 2).trans rfl)
      have u3 := hZE.someCell ((heap_cell XA.out 3).trans rfl)
      have u4 := hZE.someCell ((heap_cell XA.out 4).trans rfl)
      have ul := Nat.lt_of_lt_of_le (heap_lt XA.out) hZE.size
      have z0 := hZE.someCell ((heap_cell XB.out 0).trans rfl)
      have z1 := hZE.someCell ((heap_cell XB.out 1).trans rfl)
      have z2 := hZE.someCell ((heap_cell XB.out 2).trans rfl)
      have z3 := hZE.someCell ((heap_cell XB.out 3).trans rfl)
      have z4 := hZE.someCell ((heap_cell XB.out 4).trans rfl)
      have zl := Nat.lt_of_lt_of_le (heap_lt XB.out) hZE.size
      have ZE := Lib.hid (XE.out.trans hZE)
      clear hZE
      go_wp2
      go_ret
      exact ⟨rfl, ZE.out⟩
    · have hsb : (na / 1073741824 == nb / 1073741824) = false := by simpa using hs9
      clear hm hs9 hx1 hx2
      have hpe : (placeF (some ((3 : Int), xx))) = (2, xx.f, xx.rt) := rfl
      rw [hpe] at XA
      dsimp only at XA
      have u0 := (heap_cell XA.out 0).trans rfl
      have u1 := (heap_cell XA.out 1).trans rfl
      have u2 := (heap_cell XA.out 2).trans rfl
      have u3 := (heap_cell XA.out 3).trans rfl
      have u4 := (heap_cell XA.out 4).trans rfl
      have z0 := (heap_cell XB.out 0).trans rfl
      have z1 := (heap_cell XB.out 1).trans rfl
      have z2 := (heap_cell XB.out 2).trans rfl
      have z3 := (heap_cell XB.out 3).trans rfl
      have z4 := (heap_cell XB.out 4).trans rfl
      have ul := heap_lt XA.out
      have zl := heap_lt XB.out
      go_upto_region 19 with (first | (go_at_call 31; (with_reducible refine (HL4.out _ (XP.out.ext (by repeat (first | exact Ext.refl _ | assumption | refine Ext.alloc ?_ _ | refine Ext.drew ?_ | refine Ext.setCell ?_ (by first | (simp; done) | (dsimp only; omega)) _ | refine Ext.trans ?_ (by assumption))))).mono ?_); rintro e y1 ⟨rfl, hy1⟩) | (go_at_call 31; (with_reducible refine (HL3.out _ (XP.out.ext (by repeat (first | exact Ext.refl _ | assumption | refine Ext.alloc ?_ _ | refine Ext.drew ?_ | refine Ext.setCell ?_ (by first | (simp; done) | (dsimp only; omega)) _ | refine Ext.trans ?_ (by assumption))))).mono ?_); rintro e y2 ⟨rfl, hy2⟩) | (go_at_call 31; (with_reducible refine (HL2.out _ (XP.out.ext (by repeat (first | exact Ext.refl _ | assumption | refine Ext.alloc ?_ _ | refine Ext.drew ?_ | refine Ext.setCell ?_ (by first | (simp; done) | (dsimp only; omega)) _ | refine Ext.trans ?_ (by assumption))))).mono ?_); rintro e y3 ⟨rfl, hy3⟩) | (go_at_call 32; refine (HOne.out _ _).mono ?_; rintro e yy ⟨rfl, hyy⟩) | (go_at_call 27; refine (HD2.out _ (XP.out.ext (by repeat (first | exact Ext.refl _ | assumption | refine Ext.alloc ?_ _ | refine Ext.drew ?_ | refine Ext.setCell ?_ (by first | (simp; done) | (dsimp only; omega)) _ | refine Ext.trans ?_ (by assumption))))).mono ?_; rintro e y4 ⟨rfl, hy4⟩; skip))
      refine wp_gen ?_; intro Z hZ
      have hZE : Ext X Z := by rw [hZ]; exact (by repeat (first | exact Ext.refl _ | assumption | refine Ext.alloc ?_ _ | refine Ext.drew ?_ | refine Ext.setCell ?_ (by first | (simp; done) | (dsimp only; omega)) _ | refine Ext.trans ?_ (by assumption)))
      clear hZ u0 z0 u1 z1 u2 z2 u3 z3 u4 z4 ul zl
      have u0 := hZE.someCell ((heap_cell XA.out 0).trans rfl)
      have u1 := hZE.someCell ((heap_cell XA.out 1).trans rfl)
      have u2 := hZE.someCell ((heap_cell XA.out 2).trans rfl)
      have u3 := hZE.someCell ((heap_cell XA.out 3).trans rfl)
      have u4 := hZE.someCell ((heap_cell XA.out 4).trans rfl)
      have ul := Nat.lt_of_lt_of_le (heap_lt XA.out) hZE.size
      have z0 := hZE.someCell ((heap_cell XB.out 0).trans rfl)
      have z1 := hZE.someCell ((heap_cell XB.out 1).trans rfl)
      have z2 := hZE.someCell ((heap_cell XB.out 2).trans rfl)
      have z3 := hZE.someCell ((heap_cell XB.out 3).trans rfl)
      have z4 := hZE.someCell ((heap_cell XB.out 4).trans rfl)
      have zl := Nat.lt_of_lt_of_le (heap_lt XB.out) hZE.size
      have ZE := Lib.hid (XE.out.trans hZE)
      clear hZE
      go_wp2
      go_ret
      exact ⟨rfl, ZE.out⟩
  · have hm9 : ((L.length : Nat) : Int) = 4 := by omega
    have hd0 := Hda.out
    have hd1 := Hdb.out
    obtain ⟨xx, hx1, hx2⟩ := HM2.out (by omega)
    rw [hm] at hx1 hx2
    rw [show (6 : Int) - (((4 : Nat)) : Int) = 2 from rfl] at hx1 hx2
    rw [hx1] at hd0
    subst hd0
    rw [hm] at HL4 HL3 HL2
    simp only [Nat.reduceLeDiff, if_true, if_false, reduceIte] at HL4 HL3 HL2
    have hA : bits BinOp.and IntKind.u64 (na / 2097152) 1099511627775 = na / 2097152 := mask40 (by omega) (by omega)
    have hBB : bits BinOp.and IntKind.u64 (nb / 2097152) 1099511627775 = nb / 2097152 := mask40 (by omega) (by omega)
    by_cases hs9 : na / 2097152 = nb / 2097152
    · have hsb : (na / 2097152 == nb / 2097152) = true := by simpa using hs9
      rw [hx2 nb (by unfold tagP; simp; omega)] at hd1
      subst hd1
      clear hm hs9 hx1 hx2
      have hpp := plB_self (placeF (some (2, xx)))
      have hpe : (placeF (some ((2 : Int), xx))) = (1, xx.f, xx.rt) := rfl
      rw [hpe] at hpp XA XB
      dsimp only at hpp XA XB
      have u0 := (heap_cell XA.out 0).trans rfl
      have u1 := (heap_cell XA.out 1).trans rfl
      have u2 := (heap_cell XA.out 2).trans rfl
      have u3 := (heap_cell XA.out 3).trans rfl
      have u4 := (heap_cell XA.out 4).trans rfl
      have z0 := (heap_cell XB.out 0).trans rfl
      have z1 := (heap_cell XB.out 1).trans rfl
      have z2 := (heap_cell XB.out 2).trans rfl
      have z3 := (heap_cell XB.out 3).trans rfl
      have z4 := (heap_cell XB.out 4).trans rfl
      have ul := heap_lt XA.out
      have zl := heap_lt XB.out
      go_upto_region 19 with (first | (go_at_call 31; (with_reducible refine (HL4.out _ (XP.out.ext (by repeat (first | exact Ext.refl _ | assumption | refine Ext.alloc ?_ _ | refine Ext.drew ?_ | refine Ext.setCell ?_ (by first | (simp; done) | (dsimp only; omega)) _ | refine Ext.trans ?_ (by assumption))))).mono ?_); rintro e y1 ⟨rfl, hy1⟩) | (go_at_call 31; (with_reducible refine (HL3.out _ (XP.out.ext (by repeat (first | exact Ext.refl _ | assumption | refine Ext.alloc ?_ _ | refine Ext.drew ?_ | refine Ext.setCell ?_ (by first | (simp; done) | (dsimp only; omega)) _ | refine Ext.trans ?_ (by assumption))))).mono ?_); rintro e y2 ⟨rfl, hy2⟩) | (go_at_call 31; (with_reducible refine (HL2.out _ (XP.out.ext (by repeat (first | exact Ext.refl _ | assumption | refine Ext.alloc ?_ _ | refine Ext.drew ?_ | refine Ext.setCell ?_ (by first | (simp; done) | (dsimp only; omega)) _ | refine Ext.trans ?_ (by assumption))))).mono ?_); rintro e y3 ⟨rfl, hy3⟩) | (go_at_call 32; refine (HOne.out _ _).mono ?_; rintro e yy ⟨rfl, hyy⟩) | (go_at_call 27; refine (HD2.out _ (XP.out.ext (by repeat (first | exact Ext.refl _ | assumption | refine Ext.alloc ?_ _ | refine Ext.drew ?_ | refine Ext.setCell ?_ (by first | (simp; done) | (dsimp only; omega)) _ | refine Ext.trans ?_ (by assumption))))).mono ?_; rintro e y4 ⟨rfl, hy4⟩; skip))
      refine wp_gen ?_; intro Z hZ
      have hZE : Ext X Z := by rw [hZ]; exact (by repeat (first | exact Ext.refl _ | assumption | refine Ext.alloc ?_ _ | refine Ext.drew ?_ | refine Ext.setCell ?_ (by first | (simp; done) | (dsimp only; omega)) _ | refine Ext.trans ?_ (by assumption)))
      clear hZ u0 z0 u1 z1 u2 z2 u3 z3 u4 z4 ul zl
      have u0 := hZE.someCell ((heap_cell XA.out 0).trans rfl)
      have u1 := hZE.someCell ((heap_cell XA.out 1).trans rfl)
      have u2 := hZE.someCell ((heap_cell XA.out 2).trans rfl)
      have u3 := hZE.someCell ((heap_cell XA.out 3).trans rfl)
      have u4 := hZE.someCell ((heap_cell XA.out 4).trans rfl)
      have ul := Nat.lt_of_lt_of_le (heap_lt XA.out) hZE.size
      have z0 := hZE.someCell ((heap_cell XB.out 0).trans rfl)
      have z1 := hZE.someCell ((heap_cell XB.out 1).trans rfl)
      have z2 := hZE.someCell ((heap_cell XB.out 2).trans rfl)
      have z3 := hZE.someCell ((heap_cell XB.out 3).trans rfl)
      have z4 := hZE.someCell ((heap_cell XB.out 4).trans rfl)
      have zl := Nat.lt_of_lt_of_le (heap_lt XB.out) hZE.size
      have ZE := Lib.hid (XE.out.trans hZE)
      clear hZE
      go_wp2
      go_ret
      exact ⟨rfl, ZE.out⟩
    · have hsb : (na / 2097152 == nb / 2097152) = false := by simpa using hs9
      clear hm hs9 hx1 hx2
      have hpe : (placeF (some ((2 : Int), xx))) = (1, xx.f, xx.rt) := rfl
      rw [hpe] at XA
      dsimp only at XA
      have u0 := (heap_cell XA.out 0).trans rfl
      have u1 := (heap_cell XA.out 1).trans rfl
      have u2 := (heap_cell XA.out 2).trans rfl
      have u3 := (heap_cell XA.out 3).trans rfl
      have u4 := (heap_cell XA.out 4).trans rfl
      have z0 := (heap_cell XB.out 0).trans rfl
      have z1 := (heap_cell XB.out 1).trans rfl
      have z2 := (heap_cell XB.out 2).trans rfl
      have z3 := (heap_cell XB.out 3).trans rfl
      have z4 := (heap_cell XB.out 4).trans rfl
      have ul := heap_lt XA.out
      have zl := heap_lt XB.out
      go_upto_region 19 with (first | (go_at_call 31; (with_reducible refine (HL4.out _ (XP.out.ext (by repeat (first | exact Ext.refl _ | assumption | refine Ext.alloc ?_ _ | refine Ext.drew ?_ | refine Ext.setCell ?_ (by first | (simp; done) | (dsimp only; omega)) _ | refine Ext.trans ?_ (by assumption))))).mono ?_); rintro e y1 ⟨rfl, hy1⟩) | (go_at_call 31; (with_reducible refine (HL3.out _ (XP.out.ext (by repeat (first | exact Ext.refl _ | assumption | refine Ext.alloc ?_ _ | refine Ext.drew ?_ | refine Ext.setCell ?_ (by first | (simp; done) | (dsimp only; omega)) _ | refine Ext.trans ?_ (by assumption))))).mono ?_); rintro e y2 ⟨rfl, hy2⟩) | (go_at_call 31; (with_reducible refine (HL2.out _ (XP.out.ext (by repeat (first | exact Ext.refl _ | assumption | refine Ext.alloc ?_ _ | refine Ext.drew ?_ | refine Ext.setCell ?_ (by first | (simp; done) | (dsimp only; omega)) _ | refine Ext.trans ?_ (by assumption))))).mono ?_); rintro e y3 ⟨rfl, hy3⟩) | (go_at_call 32; refine (HOne.out _ _).mono ?_; rintro e yy ⟨rfl, hyy⟩) | (go_at_call 27; refine (HD2.out _ (XP.out.ext (by repeat (first | exact Ext.refl _ | assumption | refine Ext.alloc ?_ _ | refine Ext.drew ?_ | refine Ext.setCell ?_ (by first | (simp; done) | (dsimp only; omega)) _ | refine Ext.trans ?_ (by assumption))))).mono ?_; rintro e y4 ⟨rfl, hy4⟩; skip))
      refine wp_gen ?_; intro Z hZ
      have hZE : Ext X Z := by rw [hZ]; exact (by repeat (first | exact Ext.refl _ | assumption | refine Ext.alloc ?_ _ | refine Ext.drew ?_ | refine Ext.setCell ?_ (by first | (simp; done) | (dsimp only; omega)) _ | refine Ext.trans ?_ (by assumption)))
      clear hZ u0 z0 u1 z1 u2 z2 u3 z3 u4 z4 ul zl
      have u0 := hZE.someCell ((heap_cell XA.out 0).trans rfl)
      have u1 := hZE.someCell ((heap_cell XA.out 1).trans rfl)
      have u2 := hZE.someCell ((heap_cell XA.out 2).trans rfl)
      have u3 := hZE.someCell ((heap_cell XA.out 3).trans rfl)
      have u4 := hZE.someCell ((heap_cell XA.out 4).trans rfl)
      have ul := Nat.lt_of_lt_of_le (heap_lt XA.out) hZE.size
      have z0 := hZE.someCell ((heap_cell XB.out 0).trans rfl)
      have z1 := hZE.someCell ((heap_cell XB.out 1).trans rfl)
      have z2 := hZE.someCell ((heap_cell XB.out 2).trans rfl)
      have z3 := hZE.someCell ((heap_cell XB.out 3).trans rfl)
      have z4 := hZE.someCell ((heap_cell XB.out 4).trans rfl)
      have zl := Nat.lt_of_lt_of_le (heap_lt XB.out) hZE.size
      have ZE := Lib.hid (XE.out.trans hZE)
      clear hZE
      go_wp2
      go_ret
      exact ⟨rfl, ZE.out⟩
end Go.Proofs.Ytfaekfdngkpkdaa
