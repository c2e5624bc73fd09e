/- Joined texts, part 4 of what the law stands on: each as its own head says. -/
import Derived.Test.YtfaekfdngkpkdaaPsk3
/- Psc's laws: a memory and caches of tables side by side; caches behind walks to some addresses. -/
namespace Go.Proofs.Ytfaekfdngkpkdaa
set_option linter.unusedVariables false
set_option linter.unusedSimpArgs false
open Go.RowKit
attribute [local go_sem] wext_cell wext_frozen wext_heap alloc_cell alloc_frozen alloc_heap setCell_cell objCell_cells objFrozen_cells

structure Both (w : World) (mb : Nat) (Fm : List Nat) (M : Int → Int) (T : List Int) (pb : Nat) (cb : Int → Nat) (F : Int → List Nat) (C : Int → Lines) (r : Nat) : Prop where
  mem : MemAt w mb Fm 16 M T
  psc : PscAt w pb cb F C r
  sep : ∀ x ∈ Fm, x ∉ allF F
section
variable {w w' : World} {mb : Nat} {Fm : List Nat} {M M' : Int → Int} {T T' : List Int} {pb : Nat} {cb : Int → Nat} {F : Int → List Nat} {C C' : Int → Lines} {r : Nat}
theorem Both.ext (h : Both w mb Fm M T pb cb F C r) (k : Ext w w') : Both w' mb Fm M T pb cb F C r := ⟨h.mem.ext k, h.psc.ext k, h.sep⟩
theorem Both.after_mem (h : Both w mb Fm M T pb cb F C r) (e : EndMem mb Fm w 16 M' T' w') : ∃ Fm', Both w' mb Fm' M' T' pb cb F C r ∧ Keeps Fm w w' ∧ ∀ x ∈ Fm', x ∈ Fm ∨ w.heap.size ≤ x := by
  obtain ⟨F', m, k, f⟩ := e
  refine ⟨F', ⟨m, h.psc.keeps k (fun x hx hm => h.sep x hm hx) (h.mem.apart h.psc.head (by decide) (by decide) (by decide)), fun x hx hp => ?_⟩, k, f⟩
  rcases f x hx with q | q
  · exact h.sep x q hp
  · have := h.psc.lt x hp; omega
theorem Both.after_psc (h : Both w mb Fm M T pb cb F C r) (e : ∃ F', PscAt w' pb cb F' C' r ∧ Keeps (allF F) w w' ∧ ∀ x ∈ allF F', x ∈ allF F ∨ w.heap.size ≤ x) :
    ∃ F', Both w' mb Fm M T pb cb F' C' r ∧ Keeps (allF F) w w' ∧ ∀ x ∈ allF F', x ∈ allF F ∨ w.heap.size ≤ x := by
  obtain ⟨F', m, k, f⟩ := e
  refine ⟨F', ⟨h.mem.keeps k (fun x hx hm => h.sep x hx hm), m, fun x hx hp => ?_⟩, k, f⟩
  rcases f x hp with q | q
  · exact h.sep x hx q
  · have := h.mem.lt x hx; omega
end
theorem walk_steps_ok {M : Int → Int} (hM : ∀ s, 0 ≤ M s ∧ M s ≤ 18446744073709551615) {a t : Int} {n : Nat} {rt : Rt} : ∀ i, i < (walkF M 16 true a n t rt).1.length → 0 ≤ (stpAt (walkF M 16 true a n t rt).1 i).2.2 ∧ (stpAt (walkF M 16 true a n t rt).1 i).2.2 ≤ 18446744073709551615 := fun i hi => by
  have hx : (walkF M 16 true a n t rt).1[i]? = some (stpAt (walkF M 16 true a n t rt).1 i) := by simp [stpAt, List.getD, hi]
  exact (walk_at hM hx).2.2
theorem walk_len {M : Int → Int} {B : Int} {nxe : Bool} {a : Int} : ∀ (n : Nat) (t : Int) (rt : Rt), (walkF M B nxe a n t rt).1.length ≤ n
  | 0, _, _ => by simp [walkF]
  | n + 1, t, rt => by
    unfold walkF
    split
    · split
      · split
        · simp
        · split
          · simp
          · simp only [List.length_cons]; have := walk_len (M := M) (B := B) (nxe := nxe) (a := a) n (tabI (M (slotI t a ((n : Int) + 1) / 8))) (andR rt (M (slotI t a ((n : Int) + 1) / 8))); omega
      · simp
    · simp

def U32.cells (n : Int) : List Value := [.int .u32 n]
def U32.ok (n : Int) : Prop := 0 ≤ n ∧ n ≤ 4294967295
/-- What warm leaves. -/
def EndWarm (mb : Nat) (Fm : List Nat) (M : Int → Int) (T : List Int) (r : Nat) (ns : List Int) (w : World) (e : Ending) (w' : World) : Prop :=
  ∃ pb cb F Fm' T', e = .returned (.pointer (some ⟨pb, 0, none⟩)) ∧ Both w' mb Fm' M T' pb cb F (warmP M r ns (min ns.length 20)) r ∧ Keeps Fm w w' ∧ (∀ x ∈ Fm', x ∈ Fm ∨ w.heap.size ≤ x) ∧ (∀ x ∈ allF F, w.heap.size ≤ x) ∧ w.heap.size ≤ pb ∧ T'.length ≤ T.length + 80
/-- Within warm. -/
structure WarmTo (w : World) (mb : Nat) (Fm : List Nat) (M : Int → Int) (T : List Int) (pb : Nat) (cb : Int → Nat) (r : Nat) (ns : List Int) (i : Nat) (wr : World) (Fm' : List Nat) (T' : List Int) (F : Int → List Nat) : Prop where
  both : Both wr mb Fm' M T' pb cb F (warmP M r ns i) r
  keep : Keeps Fm w wr
  own : ∀ x ∈ Fm', x ∈ Fm ∨ w.heap.size ≤ x
  new : ∀ x ∈ allF F, w.heap.size ≤ x
  len : T'.length ≤ T.length + 4 * i

set_option maxHeartbeats 4000000 in
set_option maxRecDepth 100000 in
theorem warm_c (mb : Nat) (Fm : List Nat) (M : Int → Int) (T : List Int) (room : Int) (v : Value) (ns : List Int) (W w : World) (hW : Ext W w) (h : MemAt w mb Fm 16 M T) (hF : ∀ x ∈ Fm, W.heap.size ≤ x) (hv : ListAt W v 1 U32.cells U32.ok ns) (hT : T.length ≤ 100000)
    (h0 : -9223372036854775808 ≤ room) (h1 : room ≤ 9223372036854775807) :
    Calls Try.prog 25 #[.pointer (some ⟨mb, 0, none⟩), .int .i64 room, v] w (EndWarm mb Fm M T (clampR room) ns w) := by
  have H := Lib.hid h
  have HV := Lib.hid hv
  have HWW := Lib.hid hW
  have HF := Lib.hid hF
  have hM : ∀ s, 0 ≤ M s ∧ M s ≤ 18446744073709551615 := by
    obtain ⟨pb, tv, es, clock, PL, p1, p2, p3, p4, p5, p6, p7, p8, p9, -, p10⟩ := h; exact p8
  have HM := Lib.hid hM
  obtain ⟨va, vc, rfl, -, hmx, hok, -⟩ := hv
  unfold maxLen at hmx
  have HK := Lib.hid hok
  have HN := Lib.hid (fun w => pscNew_c room w h0 h1)
  generalize hr : clampR room = r
  have HRm := Lib.hid hr
  generalize hE : EndWarm mb Fm M T r ns w = E
  have HE := Lib.hid hE
  clear hE hr h hW hF hok hM
  go_enter Try.func25, Try.ntmps25
  go_upto_region 2 with (first | (go_at_call 29; refine (HN.out _).mono ?_; rintro e w1 ⟨pb, cb, F0, rfl, hP, hE1, hp, hf⟩))
  have hPr : PscAt w1 pb cb F0 (fun _ => []) r := by rw [← HRm.out]; exact hP
  have W1 : Hid (WarmTo w mb Fm M T pb cb r ns 0 w1 Fm T F0) := Lib.hid ⟨⟨H.out.ext hE1, hPr, fun x hx hm => by have := H.out.lt x hx; have := hf x hm; omega⟩, Keeps.of_ext hE1, fun x hx => .inl hx, hf, by omega⟩
  have HP := Lib.hid hp
  have hsz := hE1.size
  clear hP hPr hE1 hp hf
  go_wp2
  go_loopw [8] (fun iv wr => ∃ (i : Nat) (Fm' : List Nat) (T' : List Int) (F : Int → List Nat), i ≤ ns.length ∧ i ≤ 20 ∧ iv = .int .i64 i ∧ T'.length ≤ 100000 + 4 * i ∧ Hid (WarmTo w mb Fm M T pb cb r ns i wr Fm' T' F)) (fun iv _ => ns.length - (intOf iv).toNat)
  case atStart => exact ⟨0, Fm, T, F0, by omega, by omega, rfl, by omega, W1⟩
  case round =>
    obtain ⟨i, Fm', T', F, hi, hi2, rfl, hTl, hR⟩ := hrel
    have hwr := hR.out.keep.size
    by_cases hlt : i < ns.length
    · by_cases h20 : i < 20
      · obtain ⟨a', cap', he, -, -, -, hcl⟩ := HV.out
        obtain ⟨g, o, e1, e2, e3⟩ := hcl i hlt
        have he' : va = a' := by injection he
        subst he'
        subst e1
        have hWr : Ext W wr := Keeps.to_ext HWW.out hR.out.keep HF.out
        have HWr := Lib.hid hWr
        have hn0 := hWr.someCell (e3 0 _ rfl)
        have hgl : g < wr.heap.size := Nat.lt_of_lt_of_le e2 hWr.size
        have hgW : g < W.heap.size := e2
        have hno := HK.out i hlt
        have hws : warmP M r ns (i + 1) = warmStep M r (warmP M r ns i) i (ns.getD i 0) := rfl
        change wr.cell? ⟨g, o + i * 1 + 0, none⟩ = some (.int .u32 (ns.getD i default)) at hn0
        have hdd : ns.getD i default = ns.getD i 0 := rfl
        rw [hdd] at hn0 hno
        rw [Nat.mul_one, Nat.add_zero] at hn0
        generalize ns.getD i 0 = n at hn0 hno hws
        obtain ⟨n0, n1⟩ := hno
        have HNr := Lib.hid (fun w => near_c n w n0 n1)
        have ⟨na0, na1⟩ := nearI_le n0
        obtain ⟨C, hC⟩ : ∃ C, warmP M r ns i = C := ⟨_, rfl⟩
        have hIv : InvC M C := by rw [← hC]; exact warm_inv HM.out i
        have hB := hR.out.both
        rw [hC] at hB hws
        unfold warmStep at hws
        generalize nearI n = a at HNr na0 na1 hws
        obtain ⟨k, k1, k4, hst, hgd⟩ := start_good (a := a) hIv
        obtain ⟨d, hd⟩ : ∃ d, deepF C 1 a = d := ⟨_, rfl⟩
        have HD := Lib.hid (fun w h => deepest_c pb cb F C r 1 a w h na0 (by omega))
        have HB := Lib.hid hB
        rw [hd] at hst hgd hws HD
        have hw2 := (hgd a rfl).wide
        have HST := Lib.hid hst
        obtain ⟨t, ht⟩ : ∃ t, (startF d).2.1 = t := ⟨_, rfl⟩
        obtain ⟨⟨r0, r1, r2⟩, hrt⟩ : ∃ q, (startF d).2.2 = q := ⟨_, rfl⟩
        rw [ht] at hw2
        rw [ht, hrt, hst, Int.toNat_natCast] at hws
        obtain ⟨q, hq⟩ : ∃ q, walkF M 16 true a k t (r0, r1, r2) = q := ⟨_, rfl⟩
        rw [hq] at hws
        have hql : q.1.length ≤ 4 := by rw [← hq]; have := walk_len (M := M) (B := 16) (nxe := true) (a := a) k t (r0, r1, r2); omega
        have hqo : ∀ j, j < q.1.length → 0 ≤ (stpAt q.1 j).2.2 ∧ (stpAt q.1 j).2.2 ≤ 18446744073709551615 := by rw [← hq]; exact walk_steps_ok HM.out
        have HQO := Lib.hid hqo
        have HFr := Lib.hid (fun w1 (h : MemAt w1 mb Fm' 16 M T') => by have := from_c mb Fm' 16 M T' k t r0 r1 r2 a true w1 h k4 hw2.1 hw2.2 na0 (by omega) (by omega); rw [hq] at this; exact this)
        have hRt : (startF d).1 = (k : Int) ∧ (startF d).2.1 = t ∧ (startF d).2.2.1 = r0 ∧ (startF d).2.2.2.1 = r1 ∧ (startF d).2.2.2.2 = r2 := ⟨hst, ht, by rw [hrt], by rw [hrt], by rw [hrt]⟩
        have HRT := Lib.hid hRt
        obtain ⟨L, why, ⟨b0, b1, b2⟩, lv, fr⟩ := q
        dsimp only at hql hws
        have HWS := Lib.hid hws
        clear hgd hIv hd hcl he e3 hws hB hWr hdd hC hst ht hrt hq hqo hRt
        have t2 : ∀ w, Calls Try.prog 28 #[.int .u64 0] w fun e w' => e = .returned (.agg #[.int .i64 4, .int .u64 0, .bool true, .bool true, .bool true]) ∧ Ext w w' := fun w => wTop_c 0 w (by omega) (by omega)
        have HT2 := Lib.hid t2
        clear t2
        cases d with
        | none =>
          go_upto_region 9 with (first | (go_at_call 26; refine (HNr.out _).mono ?_; rintro e w2 ⟨rfl, hb2⟩) | (go_at_call 27; refine (HD.out _ (HB.out.psc.ext (Ext.trans (by repeat (first | exact Ext.refl _ | assumption | refine Ext.alloc ?_ _ | refine Ext.drew ?_ | refine Ext.setCell ?_ (by first | (simp; done) | (dsimp only; omega)) _ | refine Ext.trans ?_ (by assumption))) hb2))).mono ?_; rintro e w3 ⟨rfl, hb3⟩) | (go_at_call 28; refine (HT2.out _).mono ?_; rintro e w4 ⟨rfl, hb4⟩; have ⟨hc, hf, hh, hs⟩ := hb4.facts; try simp only [World.size_alloc, World.size_setCell, World.size_drew] at hs))
          refine wp_gen ?_; intro U hU
          obtain ⟨z1, z2, z3, z4, z5⟩ := HRT.out
          have hb24 := (hb2.trans hb3)
          have hq4 := (hb4.block w3.heap.size (by simp)).trans (alloc_same w3 _)
          have hUQ : U.heap[w3.heap.size]? = some (.cells #[.int .i64 k, .int .u64 t, .bool r0, .bool r1, .bool r2] 41 (0, 0)) := by
            rw [hU, ← z1, ← z2, ← z3, ← z4, ← z5]; exact store5_heap hq4
          have hUE : Ext wr U := by rw [hU]; exact ext5 (hb24.trans (((Ext.refl w3).alloc _).trans hb4)) hb24.size
          obtain ⟨qb, hqb⟩ : ∃ qb, w3.heap.size = qb := ⟨_, rfl⟩
          rw [hqb] at hUQ ⊢
          clear hU z1 z2 z3 z4 z5 hb24 hq4 hqb hc hf hh hs hb2 hb3 hb4
          have UE := Lib.hid hUE
          have UQ := Lib.hid hUQ
          have hm0 := (heap_cell hUQ 0).trans rfl
          have hm1 := (heap_cell hUQ 1).trans rfl
          have hm2 := (heap_cell hUQ 2).trans rfl
          have hm3 := (heap_cell hUQ 3).trans rfl
          have hm4 := (heap_cell hUQ 4).trans rfl
          have hqF : qb ∉ Fm' := (HB.out.mem.ext hUE).apart hUQ (by decide) (by decide) (by decide)
          have hgF : g ∉ Fm' := fun hm => by
            rcases hR.out.own g hm with z | z
            · have := HF.out g z; omega
            · have := HWW.out.size; omega
          have hgU : g < U.heap.size := Nat.lt_of_lt_of_le hgl hUE.size
          have hnU := hUE.someCell hn0
          have m0 := wk_cell (F := Fm') (heap_lt hUQ) hqF hm0
          have m1 := wk_cell (F := Fm') (heap_lt hUQ) hqF hm1
          have m2 := wk_cell (F := Fm') (heap_lt hUQ) hqF hm2
          have m3 := wk_cell (F := Fm') (heap_lt hUQ) hqF hm3
          have m4 := wk_cell (F := Fm') (heap_lt hUQ) hqF hm4
          have m5 := wk_cell (F := Fm') hgU hgF hnU
          clear hUE hUQ hm0 hm1 hm2 hm3 hm4 hqF hgF hnU hn0
          refine region_mixGR (Rw := fun a b => Keeps (Fm') a b) (fun k => Keeps.of_ext k) (fun h1 h2 => h1.trans h2 (fun y hy => .inl hy)) [.q [0, 1, 2, 3, 4, 6, 7, 8, 9, 10, 11, 12], .b [13], .l 5 3, .l 14 2] (by kernel_rfl) (by kernel_rfl) ?_
          (try refine ⟨fun h => absurd h (by simp), ?_⟩); (repeat (unfold wpPlanR; simp only [pickL, List.map_cons, List.map_nil, List.getD_cons_succ, List.getD_cons_zero]; (try refine quiet_wk ?_); (repeat go_big_quiet_step (fail)); refine wpQuiet_nil ?_)); unfold wpPlanR; intro w5 hb5; (try simp only [pickL, List.map_cons, List.map_nil, List.getD_cons_succ, List.getD_cons_zero])
          have HB5 := Lib.hid hb5
          clear hb5 m0 m1 m2 m3 m4 m5
          go_wp2_with (first | (go_at_call 16; refine (HFr.out _ (HB.out.mem.ext (UE.out.trans (HB5.out.trans (by repeat (first | exact Ext.refl _ | assumption | refine Ext.alloc ?_ _ | refine Ext.drew ?_ | refine Ext.setCell ?_ (by first | (simp; done) | (dsimp only; omega)) _ | refine Ext.trans ?_ (by assumption))))))).mono ?_; rintro e w6 ⟨v6, rfl, q2, q3, q4⟩; obtain ⟨sa, sc, rfl, -, -⟩ := q2.form))
          have hk6 := q3.choose_spec.2.1
          refine ⟨fun _ => (Keeps.of_ext (HB5.out.trans (by repeat (first | exact Ext.refl _ | assumption | refine Ext.alloc ?_ _ | refine Ext.drew ?_ | refine Ext.setCell ?_ (by first | (simp; done) | (dsimp only; omega)) _ | refine Ext.trans ?_ (by assumption))))).same hk6, ?_⟩
          have hB6 := (HB.out.ext (UE.out.trans (HB5.out.trans (by repeat (first | exact Ext.refl _ | assumption | refine Ext.alloc ?_ _ | refine Ext.drew ?_ | refine Ext.setCell ?_ (by first | (simp; done) | (dsimp only; omega)) _ | refine Ext.trans ?_ (by assumption)))))).after_mem q3
          obtain ⟨F6, hB6, hK6, hf6⟩ := hB6
          have B6 := Lib.hid hB6
          have K6 := Lib.hid hK6
          have FF6 := Lib.hid hf6
          have Q2 := Lib.hid q2
          clear hk6 q2 q3 q4 hB6 hK6 hf6
          (try refine ⟨fun h => absurd h (by simp), ?_⟩); (repeat (unfold wpPlanR; simp only [pickL, List.map_cons, List.map_nil, List.getD_cons_succ, List.getD_cons_zero]; (try refine quiet_wk ?_); (repeat go_big_quiet_step (fail)); refine wpQuiet_nil ?_)); unfold wpPlanR; intro w7 hb7; (try simp only [pickL, List.map_cons, List.map_nil, List.getD_cons_succ, List.getD_cons_zero])
          have HB7 := Lib.hid hb7
          clear hb7
          go_wp2_with (first | (go_at_call 30; refine (fill_c pb cb F C r 1 a L sa sc why (b0, b1, b2) lv fr k t (r0, r1, r2) n i 0 _ (B6.out.psc.ext (HB7.out.trans (by repeat (first | exact Ext.refl _ | assumption | refine Ext.alloc ?_ _ | refine Ext.drew ?_ | refine Ext.setCell ?_ (by first | (simp; done) | (dsimp only; omega)) _ | refine Ext.trans ?_ (by assumption))))) (StepsAt.of (Q2.out.ext (HB7.out.trans (by repeat (first | exact Ext.refl _ | assumption | refine Ext.alloc ?_ _ | refine Ext.drew ?_ | refine Ext.setCell ?_ (by first | (simp; done) | (dsimp only; omega)) _ | refine Ext.trans ?_ (by assumption)))))) (fun g' o' e' hm' => by subst e'; obtain ⟨c', hc'⟩ := (Q2.out.ext (HB7.out.trans (by repeat (first | exact Ext.refl _ | assumption | refine Ext.alloc ?_ _ | refine Ext.drew ?_ | refine Ext.setCell ?_ (by first | (simp; done) | (dsimp only; omega)) _ | refine Ext.trans ?_ (by assumption))))).heap g' (by rfl); exact (B6.out.psc.ext (HB7.out.trans (by repeat (first | exact Ext.refl _ | assumption | refine Ext.alloc ?_ _ | refine Ext.drew ?_ | refine Ext.setCell ?_ (by first | (simp; done) | (dsimp only; omega)) _ | refine Ext.trans ?_ (by assumption))))).out hc' (by decide) (by decide) hm') (by omega) HQO.out na0 (by omega) (by intro l; unfold pkF; split; omega; split <;> omega)).mono ?_; rintro e w8 ⟨rfl, hE8⟩))
          have hB8 := (B6.out.ext (HB7.out.trans (by repeat (first | exact Ext.refl _ | assumption | refine Ext.alloc ?_ _ | refine Ext.drew ?_ | refine Ext.setCell ?_ (by first | (simp; done) | (dsimp only; omega)) _ | refine Ext.trans ?_ (by assumption))))).after_psc hE8
          obtain ⟨F8, hB8, hK8, hf8⟩ := hB8
          have B8 := Lib.hid hB8
          have K8 := Lib.hid hK8
          have FF8 := Lib.hid hf8
          clear hE8 hB8 hK8 hf8
          (try refine ⟨fun h => absurd h (by simp), ?_⟩); (repeat (unfold wpPlanR; simp only [pickL, List.map_cons, List.map_nil, List.getD_cons_succ, List.getD_cons_zero]; (try refine quiet_wk ?_); (repeat go_big_quiet_step (fail)); refine wpQuiet_nil ?_)); unfold wpPlanR; intro w9 hb9; (try simp only [pickL, List.map_cons, List.map_nil, List.getD_cons_succ, List.getD_cons_zero])
          have HB9 := Lib.hid hb9
          clear hb9
          go_wp2
          refine ⟨⟨i + 1, F6, T' ++ L.map (·.2.1), F8, by omega, by omega, by go_num, by simp; omega, Lib.hid ⟨?_, ?_, ?_, ?_, ?_⟩⟩, by simp [intOf]; omega⟩
          · rw [HWS.out]; exact B8.out.ext HB9.out
          · have h6 := (hR.out.keep.ext (UE.out.trans (HB5.out.trans (by repeat (first | exact Ext.refl _ | assumption | refine Ext.alloc ?_ _ | refine Ext.drew ?_ | refine Ext.setCell ?_ (by first | (simp; done) | (dsimp only; omega)) _ | refine Ext.trans ?_ (by assumption)))))).trans K6.out hR.out.own
            exact ((h6.ext (HB7.out.trans (by repeat (first | exact Ext.refl _ | assumption | refine Ext.alloc ?_ _ | refine Ext.drew ?_ | refine Ext.setCell ?_ (by first | (simp; done) | (dsimp only; omega)) _ | refine Ext.trans ?_ (by assumption))))).trans K8.out fun x hx => .inr (hR.out.new x hx)).ext HB9.out
          · intro x hx
            rcases FF6.out x hx with z | z
            · exact hR.out.own x z
            · have := (UE.out.trans (HB5.out.trans (by repeat (first | exact Ext.refl _ | assumption | refine Ext.alloc ?_ _ | refine Ext.drew ?_ | refine Ext.setCell ?_ (by first | (simp; done) | (dsimp only; omega)) _ | refine Ext.trans ?_ (by assumption))))).size; exact .inr (by omega)
          · intro x hx
            rcases FF8.out x hx with z | z
            · exact hR.out.new x z
            · have h6 := (UE.out.trans (HB5.out.trans (by repeat (first | exact Ext.refl _ | assumption | refine Ext.alloc ?_ _ | refine Ext.drew ?_ | refine Ext.setCell ?_ (by first | (simp; done) | (dsimp only; omega)) _ | refine Ext.trans ?_ (by assumption))))).size
              have h7 := K6.out.size
              have h8 := (HB7.out.trans (by repeat (first | exact Ext.refl _ | assumption | refine Ext.alloc ?_ _ | refine Ext.drew ?_ | refine Ext.setCell ?_ (by first | (simp; done) | (dsimp only; omega)) _ | refine Ext.trans ?_ (by assumption)))).size
              omega
          · have := hR.out.len
            simp only [List.length_append, List.length_map]
            omega
        | some y =>
          go_upto_region 9 with (first | (go_at_call 26; refine (HNr.out _).mono ?_; rintro e w2 ⟨rfl, hb2⟩) | (go_at_call 27; refine (HD.out _ (HB.out.psc.ext (Ext.trans (by repeat (first | exact Ext.refl _ | assumption | refine Ext.alloc ?_ _ | refine Ext.drew ?_ | refine Ext.setCell ?_ (by first | (simp; done) | (dsimp only; omega)) _ | refine Ext.trans ?_ (by assumption))) hb2))).mono ?_; rintro e w3 ⟨rfl, hb3⟩))
          refine wp_gen ?_; intro U hU
          obtain ⟨z1, z2, z3, z4, z5⟩ := HRT.out
          have hb24 := (hb2.trans hb3)
          have hUQ : U.heap[w3.heap.size]? = some (.cells #[.int .i64 k, .int .u64 t, .bool r0, .bool r1, .bool r2] 41 (0, 0)) := by
            rw [hU, ← z1, ← z2, ← z3, ← z4, ← z5]; exact alloc_same ..
          have hUE : Ext wr U := by rw [hU]; exact hb24.alloc _
          obtain ⟨qb, hqb⟩ : ∃ qb, w3.heap.size = qb := ⟨_, rfl⟩
          rw [hqb] at hUQ ⊢
          clear hU z1 z2 z3 z4 z5 hb24 hqb hb2 hb3
          have UE := Lib.hid hUE
          have UQ := Lib.hid hUQ
          have hm0 := (heap_cell hUQ 0).trans rfl
          have hm1 := (heap_cell hUQ 1).trans rfl
          have hm2 := (heap_cell hUQ 2).trans rfl
          have hm3 := (heap_cell hUQ 3).trans rfl
          have hm4 := (heap_cell hUQ 4).trans rfl
          have hqF : qb ∉ Fm' := (HB.out.mem.ext hUE).apart hUQ (by decide) (by decide) (by decide)
          have hgF : g ∉ Fm' := fun hm => by
            rcases hR.out.own g hm with z | z
            · have := HF.out g z; omega
            · have := HWW.out.size; omega
          have hgU : g < U.heap.size := Nat.lt_of_lt_of_le hgl hUE.size
          have hnU := hUE.someCell hn0
          have m0 := wk_cell (F := Fm') (heap_lt hUQ) hqF hm0
          have m1 := wk_cell (F := Fm') (heap_lt hUQ) hqF hm1
          have m2 := wk_cell (F := Fm') (heap_lt hUQ) hqF hm2
          have m3 := wk_cell (F := Fm') (heap_lt hUQ) hqF hm3
          have m4 := wk_cell (F := Fm') (heap_lt hUQ) hqF hm4
          have m5 := wk_cell (F := Fm') hgU hgF hnU
          clear hUE hUQ hm0 hm1 hm2 hm3 hm4 hqF hgF hnU hn0
          refine region_mixGR (Rw := fun a b => Keeps (Fm') a b) (fun k => Keeps.of_ext k) (fun h1 h2 => h1.trans h2 (fun y hy => .inl hy)) [.q [0, 1, 2, 3, 4, 6, 7, 8, 9, 10, 11, 12], .b [13], .l 5 3, .l 14 2] (by kernel_rfl) (by kernel_rfl) ?_
          (try refine ⟨fun h => absurd h (by simp), ?_⟩); (repeat (unfold wpPlanR; simp only [pickL, List.map_cons, List.map_nil, List.getD_cons_succ, List.getD_cons_zero]; (try refine quiet_wk ?_); (repeat go_big_quiet_step (fail)); refine wpQuiet_nil ?_)); unfold wpPlanR; intro w5 hb5; (try simp only [pickL, List.map_cons, List.map_nil, List.getD_cons_succ, List.getD_cons_zero])
          have HB5 := Lib.hid hb5
          clear hb5 m0 m1 m2 m3 m4 m5
          go_wp2_with (first | (go_at_call 16; refine (HFr.out _ (HB.out.mem.ext (UE.out.trans (HB5.out.trans (by repeat (first | exact Ext.refl _ | assumption | refine Ext.alloc ?_ _ | refine Ext.drew ?_ | refine Ext.setCell ?_ (by first | (simp; done) | (dsimp only; omega)) _ | refine Ext.trans ?_ (by assumption))))))).mono ?_; rintro e w6 ⟨v6, rfl, q2, q3, q4⟩; obtain ⟨sa, sc, rfl, -, -⟩ := q2.form))
          have hk6 := q3.choose_spec.2.1
          refine ⟨fun _ => (Keeps.of_ext (HB5.out.trans (by repeat (first | exact Ext.refl _ | assumption | refine Ext.alloc ?_ _ | refine Ext.drew ?_ | refine Ext.setCell ?_ (by first | (simp; done) | (dsimp only; omega)) _ | refine Ext.trans ?_ (by assumption))))).same hk6, ?_⟩
          have hB6 := (HB.out.ext (UE.out.trans (HB5.out.trans (by repeat (first | exact Ext.refl _ | assumption | refine Ext.alloc ?_ _ | refine Ext.drew ?_ | refine Ext.setCell ?_ (by first | (simp; done) | (dsimp only; omega)) _ | refine Ext.trans ?_ (by assumption)))))).after_mem q3
          obtain ⟨F6, hB6, hK6, hf6⟩ := hB6
          have B6 := Lib.hid hB6
          have K6 := Lib.hid hK6
          have FF6 := Lib.hid hf6
          have Q2 := Lib.hid q2
          clear hk6 q2 q3 q4 hB6 hK6 hf6
          (try refine ⟨fun h => absurd h (by simp), ?_⟩); (repeat (unfold wpPlanR; simp only [pickL, List.map_cons, List.map_nil, List.getD_cons_succ, List.getD_cons_zero]; (try refine quiet_wk ?_); (repeat go_big_quiet_step (fail)); refine wpQuiet_nil ?_)); unfold wpPlanR; intro w7 hb7; (try simp only [pickL, List.map_cons, List.map_nil, List.getD_cons_succ, List.getD_cons_zero])
          have HB7 := Lib.hid hb7
          clear hb7
          go_wp2_with (first | (go_at_call 30; refine (fill_c pb cb F C r 1 a L sa sc why (b0, b1, b2) lv fr k t (r0, r1, r2) n i 0 _ (B6.out.psc.ext (HB7.out.trans (by repeat (first | exact Ext.refl _ | assumption | refine Ext.alloc ?_ _ | refine Ext.drew ?_ | refine Ext.setCell ?_ (by first | (simp; done) | (dsimp only; omega)) _ | refine Ext.trans ?_ (by assumption))))) (StepsAt.of (Q2.out.ext (HB7.out.trans (by repeat (first | exact Ext.refl _ | assumption | refine Ext.alloc ?_ _ | refine Ext.drew ?_ | refine Ext.setCell ?_ (by first | (simp; done) | (dsimp only; omega)) _ | refine Ext.trans ?_ (by assumption)))))) (fun g' o' e' hm' => by subst e'; obtain ⟨c', hc'⟩ := (Q2.out.ext (HB7.out.trans (by repeat (first | exact Ext.refl _ | assumption | refine Ext.alloc ?_ _ | refine Ext.drew ?_ | refine Ext.setCell ?_ (by first | (simp; done) | (dsimp only; omega)) _ | refine Ext.trans ?_ (by assumption))))).heap g' (by rfl); exact (B6.out.psc.ext (HB7.out.trans (by repeat (first | exact Ext.refl _ | assumption | refine Ext.alloc ?_ _ | refine Ext.drew ?_ | refine Ext.setCell ?_ (by first | (simp; done) | (dsimp only; omega)) _ | refine Ext.trans ?_ (by assumption))))).out hc' (by decide) (by decide) hm') (by omega) HQO.out na0 (by omega) (by intro l; unfold pkF; split; omega; split <;> omega)).mono ?_; rintro e w8 ⟨rfl, hE8⟩))
          have hB8 := (B6.out.ext (HB7.out.trans (by repeat (first | exact Ext.refl _ | assumption | refine Ext.alloc ?_ _ | refine Ext.drew ?_ | refine Ext.setCell ?_ (by first | (simp; done) | (dsimp only; omega)) _ | refine Ext.trans ?_ (by assumption))))).after_psc hE8
          obtain ⟨F8, hB8, hK8, hf8⟩ := hB8
          have B8 := Lib.hid hB8
          have K8 := Lib.hid hK8
          have FF8 := Lib.hid hf8
          clear hE8 hB8 hK8 hf8
          (try refine ⟨fun h => absurd h (by simp), ?_⟩); (repeat (unfold wpPlanR; simp only [pickL, List.map_cons, List.map_nil, List.getD_cons_succ, List.getD_cons_zero]; (try refine quiet_wk ?_); (repeat go_big_quiet_step (fail)); refine wpQuiet_nil ?_)); unfold wpPlanR; intro w9 hb9; (try simp only [pickL, List.map_cons, List.map_nil, List.getD_cons_succ, List.getD_cons_zero])
          have HB9 := Lib.hid hb9
          clear hb9
          go_wp2
          refine ⟨⟨i + 1, F6, T' ++ L.map (·.2.1), F8, by omega, by omega, by go_num, by simp; omega, Lib.hid ⟨?_, ?_, ?_, ?_, ?_⟩⟩, by simp [intOf]; omega⟩
          · rw [HWS.out]; exact B8.out.ext HB9.out
          · have h6 := (hR.out.keep.ext (UE.out.trans (HB5.out.trans (by repeat (first | exact Ext.refl _ | assumption | refine Ext.alloc ?_ _ | refine Ext.drew ?_ | refine Ext.setCell ?_ (by first | (simp; done) | (dsimp only; omega)) _ | refine Ext.trans ?_ (by assumption)))))).trans K6.out hR.out.own
            exact ((h6.ext (HB7.out.trans (by repeat (first | exact Ext.refl _ | assumption | refine Ext.alloc ?_ _ | refine Ext.drew ?_ | refine Ext.setCell ?_ (by first | (simp; done) | (dsimp only; omega)) _ | refine Ext.trans ?_ (by assumption))))).trans K8.out fun x hx => .inr (hR.out.new x hx)).ext HB9.out
          · intro x hx
            rcases FF6.out x hx with z | z
            · exact hR.out.own x z
            · have := (UE.out.trans (HB5.out.trans (by repeat (first | exact Ext.refl _ | assumption | refine Ext.alloc ?_ _ | refine Ext.drew ?_ | refine Ext.setCell ?_ (by first | (simp; done) | (dsimp only; omega)) _ | refine Ext.trans ?_ (by assumption))))).size; exact .inr (by omega)
          · intro x hx
            rcases FF8.out x hx with z | z
            · exact hR.out.new x z
            · have h6 := (UE.out.trans (HB5.out.trans (by repeat (first | exact Ext.refl _ | assumption | refine Ext.alloc ?_ _ | refine Ext.drew ?_ | refine Ext.setCell ?_ (by first | (simp; done) | (dsimp only; omega)) _ | refine Ext.trans ?_ (by assumption))))).size
              have h7 := K6.out.size
              have h8 := (HB7.out.trans (by repeat (first | exact Ext.refl _ | assumption | refine Ext.alloc ?_ _ | refine Ext.drew ?_ | refine Ext.setCell ?_ (by first | (simp; done) | (dsimp only; omega)) _ | refine Ext.trans ?_ (by assumption)))).size
              omega
          · have := hR.out.len
            simp only [List.length_append, List.length_map]
            omega
      · obtain rfl : i = 20 := by omega
        go_wp2
        (try go_ret)
        rw [← HE.out]
        have hh := hR.out
        have hmin : min ns.length 20 = 20 := by omega
        exact ⟨pb, cb, F, Fm', T', rfl, by rw [hmin]; exact hh.both, hh.keep, hh.own, hh.new, HP.out, hh.len⟩
    · obtain rfl : i = ns.length := by omega
      go_wp2
      (try go_ret)
      rw [← HE.out]
      have hh := hR.out
      have hmin : min ns.length 20 = ns.length := by omega
      exact ⟨pb, cb, F, Fm', T', rfl, by rw [hmin]; exact hh.both, hh.keep, hh.own, hh.new, HP.out, by have := hh.len; omega⟩
end Go.Proofs.Ytfaekfdngkpkdaa
/- Psc's laws: awake. -/
namespace Go.Proofs.Ytfaekfdngkpkdaa
set_option linter.unusedVariables false
set_option linter.unusedSimpArgs false
open Go.RowKit
attribute [local go_sem] wext_cell wext_frozen wext_heap alloc_cell alloc_frozen alloc_heap setCell_cell objCell_cells objFrozen_cells

def tinyC : Int → Lines := fillF 5 0 (pkF 0 0 0) 4 (walkF (builtM (tinyL.take 100)) 16 true 0 4 0 allRt).1 allRt (fun _ => [])
theorem tiny_deep : deepF tinyC 5 2097151 = some (2, lineP 12288 allRt) ∧ deepF tinyC 6 0 = none ∧ (tinyC 2).length = 1 ∧ (tinyC 4).length = 1 := by decide +kernel
theorem MemAt.wide {w : World} {mb : Nat} {F : List Nat} {B : Int} {M : Int → Int} {T : List Int} (h : MemAt w mb F B M T) : ∀ s, 0 ≤ M s ∧ M s ≤ 18446744073709551615 := by
  obtain ⟨pb, tv, es, clock, PL, p1, p2, p3, p4, p5, p6, p7, p8, p9, -, p10⟩ := h; exact p8
set_option maxHeartbeats 2000000 in
set_option maxRecDepth 100000 in
theorem awake11_c (w : World) : Calls Try.prog 23 #[] w fun e w' => e = .returned (.bool true) ∧ Ext w w' := by
  have t2 : ∀ w, Calls Try.prog 28 #[.int .u64 0] w fun e w' => e = .returned (.agg #[.int .i64 4, .int .u64 0, .bool true, .bool true, .bool true]) ∧ Ext w w' := fun w => wTop_c 0 w (by omega) (by omega)
  have HT2 := Lib.hid t2
  have HN := Lib.hid (fun w => pscNew_c 4 w (by omega) (by omega))
  clear t2
  go_enter Try.func23, Try.ntmps23
  go_upto_region 2 with (first | (go_at_call 24; refine (built11_c _ tinyL _ (tiny_at (alloc_same ..))).mono ?_; rintro e w1 ⟨mb, Fm, rfl, hC, hE, hF, hmb⟩))
  have C1 := Lib.hid hC
  have E1 : Hid (Ext w w1) := Lib.hid (((Ext.refl w).alloc _).trans hE)
  have hF1 : ∀ x ∈ Fm, w.heap.size ≤ x := fun x hx => by have := hF x hx; simp at this; omega
  have F1 := Lib.hid hF1
  clear hC hE hF hF1 hmb
  go_upto_region 3 with (first | (go_at_call 29; refine (HN.out _).mono ?_; rintro e w2 ⟨pb, cb, F0, rfl, hP, hE2, hp, hf⟩))
  have hB : Both w2 mb Fm (builtM (tinyL.take 100)) [] pb cb F0 (fun _ => []) 4 := ⟨C1.out.ext hE2, hP, fun x hx hm => by have := C1.out.lt x hx; have := hf x hm; omega⟩
  have B2 := Lib.hid hB
  have E2 := Lib.hid (E1.out.trans hE2)
  have F2 : Hid (∀ x ∈ allF F0, w.heap.size ≤ x) := Lib.hid fun x hx => Nat.le_trans E1.out.size (hf x hx)
  clear hB hP hE2 hp hf
  go_upto_region 6 with (first | (go_at_call 28; refine (HT2.out _).mono ?_; rintro e w3 ⟨rfl, hb3⟩))
  refine wp_gen ?_; intro U hU
  have hUE : Ext w2 U := by rw [hU]; exact (Ext.trans (by repeat (first | exact Ext.refl _ | assumption | refine Ext.alloc ?_ _ | refine Ext.drew ?_ | refine Ext.setCell ?_ (by first | (simp; done) | (dsimp only; omega)) _ | refine Ext.trans ?_ (by assumption))) hb3).alloc _
  have hUQ : U.heap[w3.heap.size]? = some (.cells #[.int .i64 4, .int .u64 0, .bool true, .bool true, .bool true] 41 (0, 0)) := by rw [hU]; exact alloc_same ..
  obtain ⟨qb, hqb⟩ : ∃ qb, w3.heap.size = qb := ⟨_, rfl⟩
  rw [hqb] at hUQ ⊢
  clear hU hqb hb3
  obtain ⟨q, hq⟩ : ∃ q, walkF (builtM (tinyL.take 100)) 16 true 0 4 0 allRt = q := ⟨_, rfl⟩
  have hql : q.1.length ≤ 4 := by rw [← hq]; exact walk_len 4 0 allRt
  have hqo : ∀ j, j < q.1.length → 0 ≤ (stpAt q.1 j).2.2 ∧ (stpAt q.1 j).2.2 ≤ 18446744073709551615 := by rw [← hq]; exact walk_steps_ok C1.out.wide
  have HQO := Lib.hid hqo
  have HFr := Lib.hid (fun w1 (h : MemAt w1 mb Fm 16 (builtM (tinyL.take 100)) []) => by have := from_c mb Fm 16 (builtM (tinyL.take 100)) [] 4 0 true true true 0 true w1 h (by omega) (by omega) (by omega) (by omega) (by omega) (by simp); rw [show ((true, true, true) : Rt) = allRt from rfl, hq] at this; exact this)
  have hC9 : tinyC = fillF 5 0 (pkF 0 0 0) 4 q.1 (true, true, true) (fun _ => []) := by unfold tinyC; rw [hq]; rfl
  obtain ⟨L, why, ⟨b0, b1, b2⟩, lv, fr⟩ := q
  dsimp only at hql hC9
  have HC9 := Lib.hid hC9
  have UE := Lib.hid hUE
  have UQ := Lib.hid hUQ
  have hqF : qb ∉ Fm := (B2.out.mem.ext hUE).apart hUQ (by decide) (by decide) (by decide)
  have m0 := wk_cell (F := Fm) (heap_lt hUQ) hqF ((heap_cell hUQ 0).trans rfl)
  have m1 := wk_cell (F := Fm) (heap_lt hUQ) hqF ((heap_cell hUQ 1).trans rfl)
  have m2 := wk_cell (F := Fm) (heap_lt hUQ) hqF ((heap_cell hUQ 2).trans rfl)
  have m3 := wk_cell (F := Fm) (heap_lt hUQ) hqF ((heap_cell hUQ 3).trans rfl)
  have m4 := wk_cell (F := Fm) (heap_lt hUQ) hqF ((heap_cell hUQ 4).trans rfl)
  clear hUE hUQ hqF hq hqo hC9
  refine region_mixGR (Rw := fun a b => Keeps (Fm) a b) (fun k => Keeps.of_ext k) (fun h1 h2 => h1.trans h2 (fun y hy => .inl hy)) [.q [0, 1, 2, 4], .b [5], .l 3 3, .l 6 2] (by kernel_rfl) (by kernel_rfl) ?_
  (try refine ⟨fun h => absurd h (by simp), ?_⟩); (repeat (unfold wpPlanR; simp only [pickL, List.map_cons, List.map_nil, List.getD_cons_succ, List.getD_cons_zero]; (try refine quiet_wk ?_); (repeat go_big_quiet_step (fail)); refine wpQuiet_nil ?_)); unfold wpPlanR; intro w5 hb5; (try simp only [pickL, List.map_cons, List.map_nil, List.getD_cons_succ, List.getD_cons_zero])
  have HB5 := Lib.hid hb5
  clear hb5 m0 m1 m2 m3 m4
  go_wp2_with (first | (go_at_call 16; refine (HFr.out _ (B2.out.mem.ext (UE.out.trans (HB5.out.trans (by repeat (first | exact Ext.refl _ | assumption | refine Ext.alloc ?_ _ | refine Ext.drew ?_ | refine Ext.setCell ?_ (by first | (simp; done) | (dsimp only; omega)) _ | refine Ext.trans ?_ (by assumption))))))).mono ?_; rintro e w6 ⟨v6, rfl, q2, q3, q4⟩; obtain ⟨sa, sc, rfl, -, -⟩ := q2.form))
  have hk6 := q3.choose_spec.2.1
  refine ⟨fun _ => (Keeps.of_ext (HB5.out.trans (by repeat (first | exact Ext.refl _ | assumption | refine Ext.alloc ?_ _ | refine Ext.drew ?_ | refine Ext.setCell ?_ (by first | (simp; done) | (dsimp only; omega)) _ | refine Ext.trans ?_ (by assumption))))).same hk6, ?_⟩
  have hB6 := (B2.out.ext (UE.out.trans (HB5.out.trans (by repeat (first | exact Ext.refl _ | assumption | refine Ext.alloc ?_ _ | refine Ext.drew ?_ | refine Ext.setCell ?_ (by first | (simp; done) | (dsimp only; omega)) _ | refine Ext.trans ?_ (by assumption)))))).after_mem q3
  obtain ⟨F6, hB6, hK6, hf6⟩ := hB6
  have B6 := Lib.hid hB6
  have E6 : Hid (Ext w w6) := Lib.hid (Keeps.to_ext (E2.out.trans (UE.out.trans (HB5.out.trans (by repeat (first | exact Ext.refl _ | assumption | refine Ext.alloc ?_ _ | refine Ext.drew ?_ | refine Ext.setCell ?_ (by first | (simp; done) | (dsimp only; omega)) _ | refine Ext.trans ?_ (by assumption)))))) hK6 F1.out)
  have Q2 := Lib.hid q2
  clear hk6 q2 q3 q4 hB6 hK6 hf6
  (try refine ⟨fun h => absurd h (by simp), ?_⟩); (repeat (unfold wpPlanR; simp only [pickL, List.map_cons, List.map_nil, List.getD_cons_succ, List.getD_cons_zero]; (try refine quiet_wk ?_); (repeat go_big_quiet_step (fail)); refine wpQuiet_nil ?_)); unfold wpPlanR; intro w7 hb7; (try simp only [pickL, List.map_cons, List.map_nil, List.getD_cons_succ, List.getD_cons_zero])
  have HB7 := Lib.hid hb7
  clear hb7
  go_wp2_with (first | (go_at_call 30; refine (fill_c pb cb F0 (fun _ => []) 4 5 0 L sa sc why (b0, b1, b2) lv fr 4 0 (true, true, true) 0 0 0 _ (B6.out.psc.ext (HB7.out.trans (by repeat (first | exact Ext.refl _ | assumption | refine Ext.alloc ?_ _ | refine Ext.drew ?_ | refine Ext.setCell ?_ (by first | (simp; done) | (dsimp only; omega)) _ | refine Ext.trans ?_ (by assumption))))) (StepsAt.of (Q2.out.ext (HB7.out.trans (by repeat (first | exact Ext.refl _ | assumption | refine Ext.alloc ?_ _ | refine Ext.drew ?_ | refine Ext.setCell ?_ (by first | (simp; done) | (dsimp only; omega)) _ | refine Ext.trans ?_ (by assumption)))))) (fun g' o' e' hm' => by subst e'; obtain ⟨c', hc'⟩ := (Q2.out.ext (HB7.out.trans (by repeat (first | exact Ext.refl _ | assumption | refine Ext.alloc ?_ _ | refine Ext.drew ?_ | refine Ext.setCell ?_ (by first | (simp; done) | (dsimp only; omega)) _ | refine Ext.trans ?_ (by assumption))))).heap g' (by rfl); exact (B6.out.psc.ext (HB7.out.trans (by repeat (first | exact Ext.refl _ | assumption | refine Ext.alloc ?_ _ | refine Ext.drew ?_ | refine Ext.setCell ?_ (by first | (simp; done) | (dsimp only; omega)) _ | refine Ext.trans ?_ (by assumption))))).out hc' (by decide) (by decide) hm') (by omega) HQO.out (by omega) (by omega) (by intro l; unfold pkF; split; omega; split <;> omega)).mono ?_; rintro e w8 ⟨rfl, F8, q1, q2, q3⟩))
  rw [← HC9.out] at q1
  have P8 := Lib.hid q1
  have E8 : Hid (Ext w w8) := Lib.hid (Keeps.to_ext (E6.out.trans (HB7.out.trans (by repeat (first | exact Ext.refl _ | assumption | refine Ext.alloc ?_ _ | refine Ext.drew ?_ | refine Ext.setCell ?_ (by first | (simp; done) | (dsimp only; omega)) _ | refine Ext.trans ?_ (by assumption))))) q2 F2.out)
  clear q1 q2 q3
  (try refine ⟨fun h => absurd h (by simp), ?_⟩); (repeat (unfold wpPlanR; simp only [pickL, List.map_cons, List.map_nil, List.getD_cons_succ, List.getD_cons_zero]; (try refine quiet_wk ?_); (repeat go_big_quiet_step (fail)); refine wpQuiet_nil ?_)); unfold wpPlanR; intro w9 hb9; (try simp only [pickL, List.map_cons, List.map_nil, List.getD_cons_succ, List.getD_cons_zero])
  have P9 := Lib.hid (P8.out.ext hb9)
  have E9 := Lib.hid (E8.out.trans hb9)
  clear hb9
  have ⟨d1, d2, d3, d4⟩ := tiny_deep
  have HD1 := Lib.hid (fun w h => deepest_c pb cb F8 tinyC 4 5 2097151 w h (by omega) (by omega))
  have HD2 := Lib.hid (fun w h => deepest_c pb cb F8 tinyC 4 6 0 w h (by omega) (by omega))
  have HL2 := Lib.hid (fun w h => pscLen_c pb cb F8 tinyC 4 2 w h (by omega))
  have HL4 := Lib.hid (fun w h => pscLen_c pb cb F8 tinyC 4 4 w h (by omega))
  rw [d1] at HD1
  rw [d2] at HD2
  rw [d3] at HL2
  rw [d4] at HL4
  clear d1 d2 d3 d4
  go_upto_region 8 with (first | (go_at_call 27; refine (HD1.out _ (P9.out.ext (by repeat (first | exact Ext.refl _ | assumption | refine Ext.alloc ?_ _ | refine Ext.drew ?_ | refine Ext.setCell ?_ (by first | (simp; done) | (dsimp only; omega)) _ | refine Ext.trans ?_ (by assumption))))).mono ?_; rintro e x1 ⟨rfl, hx1⟩; have ⟨hc, hf, hh, hs⟩ := hx1.facts; try simp only [World.size_alloc, World.size_setCell, World.size_drew] at hs))
  go_upto_region 9 with (first | (go_at_call 27; refine (HD2.out _ (P9.out.ext (Ext.trans (by repeat (first | exact Ext.refl _ | assumption | refine Ext.alloc ?_ _ | refine Ext.drew ?_ | refine Ext.setCell ?_ (by first | (simp; done) | (dsimp only; omega)) _ | refine Ext.trans ?_ (by assumption))) (by repeat (first | exact Ext.refl _ | assumption | refine Ext.alloc ?_ _ | refine Ext.drew ?_ | refine Ext.setCell ?_ (by first | (simp; done) | (dsimp only; omega)) _ | refine Ext.trans ?_ (by assumption)))))).mono ?_; rintro e x2 ⟨rfl, hx2⟩; have ⟨hc, hf, hh, hs⟩ := hx2.facts; try simp only [World.size_alloc, World.size_setCell, World.size_drew] at hs))
  refine wp_gen ?_; intro X hX
  have hXE : Ext w9 X := by rw [hX]; exact (by repeat (first | exact Ext.refl _ | assumption | refine Ext.alloc ?_ _ | refine Ext.drew ?_ | refine Ext.setCell ?_ (by first | (simp; done) | (dsimp only; omega)) _ | refine Ext.trans ?_ (by assumption)))
  have hXb : X.heap[x1.heap.size]? = some (.cells #[.int .i64 1, .int .u64 12288, .bool true, .bool true, .bool true] 41 (0, 0)) := by
    rw [hX]; exact (alloc_other _ _ (by have := hx2.size; simp at this; omega)).trans ((hx2.block _ (by simp)).trans (alloc_same x1 _))
  obtain ⟨xb, hxb⟩ : ∃ xb, x1.heap.size = xb := ⟨_, rfl⟩
  rw [hxb] at hXb ⊢
  have y0 := (heap_cell hXb 0).trans rfl
  have y1 := (heap_cell hXb 1).trans rfl
  have yl := heap_lt hXb
  have XE := Lib.hid hXE
  clear hX hXE hXb hxb hc hf hh hs
  clear hx1 hx2
  go_wp2_with (first | (go_at_call 31; (with_reducible refine (HL2.out _ (P9.out.ext (XE.out.trans (by repeat (first | exact Ext.refl _ | assumption | refine Ext.alloc ?_ _ | refine Ext.drew ?_ | refine Ext.setCell ?_ (by first | (simp; done) | (dsimp only; omega)) _ | refine Ext.trans ?_ (by assumption)))))).mono ?_); rintro e x3 ⟨rfl, hx3⟩; have ⟨hc, hf, hh, hs⟩ := hx3.facts) | (go_at_call 31; (with_reducible refine (HL4.out _ (P9.out.ext (XE.out.trans (Ext.trans (by repeat (first | exact Ext.refl _ | assumption | refine Ext.alloc ?_ _ | refine Ext.drew ?_ | refine Ext.setCell ?_ (by first | (simp; done) | (dsimp only; omega)) _ | refine Ext.trans ?_ (by assumption))) hx3)))).mono ?_); rintro e x4 ⟨rfl, hx4⟩))
  go_ret
  exact ⟨rfl, (E9.out.trans XE.out).trans (hx3.trans hx4)⟩
end Go.Proofs.Ytfaekfdngkpkdaa
/- Rights and steps compared; words in rows. -/
namespace Go.Proofs.Ytfaekfdngkpkdaa
set_option linter.unusedVariables false
set_option linter.unusedSimpArgs false
open Go.RowKit
attribute [local go_sem] wext_cell wext_frozen wext_heap alloc_cell alloc_frozen alloc_heap setCell_cell objCell_cells objFrozen_cells

def rtB (x y : Rt) : Bool := decide (x = y)
theorem rt_equal (x y : Rt) (w : World) : (Op.equal 25 (.agg #[.bool x.1, .bool x.2.1, .bool x.2.2]) (.agg #[.bool y.1, .bool y.2.1, .bool y.2.2])).run Try.prog w = .ok (decide (x = y)) w := by
  show (Op.equalIn 10000 _ _ _).run _ _ = _
  obtain ⟨p, l, t⟩ := x
  obtain ⟨p', l', t'⟩ := y
  simp [go_sem]
  by_cases h1 : p = p' <;> by_cases h2 : l = l' <;> by_cases h3 : t = t' <;> simp [*]
theorem rt_eql (p l t p' l' t' : Bool) (w : World) : (binOp .eql 25 (.agg #[.bool p, .bool l, .bool t]) (.agg #[.bool p', .bool l', .bool t'])).run Try.prog w = .ok (.bool (rtB (p, l, t) (p', l', t'))) w := by
  have := rt_equal (p, l, t) (p', l', t') w
  rw [run_eql_struct]
  show ((Op.equal _ _ _).run _ _).andThen _ = _
  rw [this]; rfl
theorem rt_neq (p l t p' l' t' : Bool) (w : World) : (binOp .neq 25 (.agg #[.bool p, .bool l, .bool t]) (.agg #[.bool p', .bool l', .bool t'])).run Try.prog w = .ok (.bool (!rtB (p, l, t) (p', l', t'))) w := by
  have := rt_equal (p, l, t) (p', l', t') w
  rw [run_neq_struct]
  show ((Op.equal _ _ _).run _ _).andThen _ = _
  rw [this]; rfl
theorem rtB_self (r : Rt) : rtB r r = true := by simp [rtB]
theorem Owns.word {U : World} {sa : Option Addr} {n sc : Nat} {xs : List Int} (h : Owns U 23 1 (.slice sa n sc) n (xs.map (.int .u64 ·))) {i : Nat} (hi : i < n) (hn : n = n) :
    ∃ g, sa = some ⟨g, 0, none⟩ ∧ g < U.heap.size ∧ U.cell? ⟨g, i, none⟩ = some (.int .u64 (xs.getD i 0)) := by
  obtain ⟨g, hg⟩ : ∃ g, sa = some ⟨g, 0, none⟩ := by
    rcases h.2 with ⟨h1, h0⟩ | ⟨g, _, _, he, _⟩
    · omega
    · exact ⟨g, by injection he⟩
  subst hg
  have hl : xs.length = n := by have := h.1; simpa using this
  exact ⟨g, rfl, h.lt g rfl, h.cells (g := g) rfl i _ (by simp [List.getD, hl, hi])⟩
theorem bit0 (x : Int) : bitB x 0 = (x % 2 == 1) := by unfold bitB; rw [show pow2 0 = 1 from rfl, Int.ediv_one]

def stB (x y : Stp) : Bool := decide (x = y)
theorem st_equal (x y : Stp) (w : World) : (Op.equal 65 (.agg #[.int .i64 x.1, .int .u64 x.2.1, .int .u64 x.2.2]) (.agg #[.int .i64 y.1, .int .u64 y.2.1, .int .u64 y.2.2])).run Try.prog w = .ok (decide (x = y)) w := by
  show (Op.equalIn 10000 _ _ _).run _ _ = _
  obtain ⟨p, l, t⟩ := x
  obtain ⟨p', l', t'⟩ := y
  simp [go_sem]
  by_cases h1 : p = p' <;> by_cases h2 : l = l' <;> by_cases h3 : t = t' <;> simp [*]
theorem st_eql (p l t p' l' t' : Int) (w : World) : (binOp .eql 65 (.agg #[.int .i64 p, .int .u64 l, .int .u64 t]) (.agg #[.int .i64 p', .int .u64 l', .int .u64 t'])).run Try.prog w = .ok (.bool (stB (p, l, t) (p', l', t'))) w := by
  have := st_equal (p, l, t) (p', l', t') w
  rw [run_eql_struct]
  show ((Op.equal _ _ _).run _ _).andThen _ = _
  rw [this]; rfl
theorem st_neq (p l t p' l' t' : Int) (w : World) : (binOp .neq 65 (.agg #[.int .i64 p, .int .u64 l, .int .u64 t]) (.agg #[.int .i64 p', .int .u64 l', .int .u64 t'])).run Try.prog w = .ok (.bool (!stB (p, l, t) (p', l', t'))) w := by
  have := st_equal (p, l, t) (p', l', t') w
  rw [run_neq_struct]
  show ((Op.equal _ _ _).run _ _).andThen _ = _
  rw [this]; rfl
theorem stB_self (s : Stp) : stB s s = true := by simp [stB]
theorem Owns.store7 {U : World} {e : TypeId} {k : Nat} {v : Value} {n : Nat} {xs : List Value} (h : Owns U e k v n xs) {qb : Nat} {c : Array Value} {e' : TypeId} (hq : U.heap[qb]? = some (.cells c e' (0, 0))) (hne : e ≠ e') {v0 v1 v2 v3 v4 v5 v6 : Value} :
    Owns (((((((U.setCell ⟨qb, 0, none⟩ v0).setCell ⟨qb, 1, none⟩ v1).setCell ⟨qb, 2, none⟩ v2).setCell ⟨qb, 3, none⟩ v3).setCell ⟨qb, 4, none⟩ v4).setCell ⟨qb, 5, none⟩ v5).setCell ⟨qb, 6, none⟩ v6) e k v n xs :=
  h.keep fun g hg => by
    obtain ⟨c', hc⟩ := h.heap g hg
    exact store7_other (fun e => by rw [← e, hq] at hc; simp only [Option.some.injEq, Obj.cells.injEq] at hc; exact hne hc.2.1.symm)
theorem PathAt.store7 {U : World} {b : Nat} {sa : Option Addr} {sc : Nat} {q : List Stp × WRes} (h : PathAt U b sa sc q) {qb : Nat} {c : Array Value} (hq : U.heap[qb]? = some (.cells c 38 (0, 0))) (hne : qb ≠ b) {v0 v1 v2 v3 v4 v5 v6 : Value} :
    PathAt (((((((U.setCell ⟨qb, 0, none⟩ v0).setCell ⟨qb, 1, none⟩ v1).setCell ⟨qb, 2, none⟩ v2).setCell ⟨qb, 3, none⟩ v3).setCell ⟨qb, 4, none⟩ v4).setCell ⟨qb, 5, none⟩ v5).setCell ⟨qb, 6, none⟩ v6) b sa sc q :=
  ⟨(store7_other hne).trans h.1, h.2.store7 hq (by decide)⟩
end Go.Proofs.Ytfaekfdngkpkdaa
/- Psc's laws: numbers that a slice holds. -/
namespace Go.Proofs.Ytfaekfdngkpkdaa
set_option linter.unusedVariables false
set_option linter.unusedSimpArgs false
open Go.RowKit
attribute [local go_sem] wext_cell wext_frozen wext_heap alloc_cell alloc_frozen alloc_heap setCell_cell objCell_cells objFrozen_cells
open Go.Proofs
theorem u32s_of {W : World} {v : Value} (h : (Dsc.slice (.int .u32)).Is W [v]) : ∃ ns, ListAt W v 1 U32.cells U32.ok ns :=
  list_of (d := .int .u32) rfl (by decide) (fun _ => rfl) (fun cs hl hI => by
    obtain ⟨n, rfl, hn⟩ := hI
    exact ⟨n, bounds_u32 hn, rfl⟩) h
end Go.Proofs.Ytfaekfdngkpkdaa
