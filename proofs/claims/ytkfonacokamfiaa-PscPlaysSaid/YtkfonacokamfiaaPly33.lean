/- Joined texts, part 33 of what the law stands on: each as its own head says. -/
import Derived.Test.YtkfonacokamfiaaPly32
/- Psc's laws: a memory and caches of tables side by side; caches behind walks to some addresses. -/
namespace Go.Proofs.Ytkfonacokamfiaa
set_option linter.unusedVariables false
set_option linter.unusedSimpArgs false
open Go.RowKit
attribute [local go_sem] wext_cell wext_frozen wext_heap alloc_cell alloc_frozen alloc_heap setCell_cell objCell_cells objFrozen_cells

structure Both (w : World) (mb : Nat) (Fm : List Nat) (M : Int → Int) (T : List Int) (pb : Nat) (cb : Int → Nat) (F : Int → List Nat) (C : Int → Lines) (r : Nat) : Prop where
  mem : MemAt w mb Fm 16 M T
  psc : PscAt w pb cb F C r
  sep : ∀ x ∈ Fm, x ∉ allF F
section
variable {w w' : World} {mb : Nat} {Fm : List Nat} {M M' : Int → Int} {T T' : List Int} {pb : Nat} {cb : Int → Nat} {F : Int → List Nat} {C C' : Int → Lines} {r : Nat}
theorem Both.ext (h : Both w mb Fm M T pb cb F C r) (k : Ext w w') : Both w' mb Fm M T pb cb F C r := ⟨h.mem.ext k, h.psc.ext k, h.sep⟩
theorem Both.after_mem (h : Both w mb Fm M T pb cb F C r) (e : EndMem mb Fm w 16 M' T' w') : ∃ Fm', Both w' mb Fm' M' T' pb cb F C r ∧ Keeps Fm w w' ∧ ∀ x ∈ Fm', x ∈ Fm ∨ w.heap.size ≤ x := by
  obtain ⟨F', m, k, f⟩ := e
  refine ⟨F', ⟨m, h.psc.keeps k (fun x hx hm => h.sep x hm hx) (h.mem.apart h.psc.head (by decide) (by decide) (by decide)), fun x hx hp => ?_⟩, k, f⟩
  rcases f x hx with q | q
  · exact h.sep x q hp
  · have := h.psc.lt x hp; omega
theorem Both.after_psc (h : Both w mb Fm M T pb cb F C r) (e : ∃ F', PscAt w' pb cb F' C' r ∧ Keeps (allF F) w w' ∧ ∀ x ∈ allF F', x ∈ allF F ∨ w.heap.size ≤ x) :
    ∃ F', Both w' mb Fm M T pb cb F' C' r ∧ Keeps (allF F) w w' ∧ ∀ x ∈ allF F', x ∈ allF F ∨ w.heap.size ≤ x := by
  obtain ⟨F', m, k, f⟩ := e
  refine ⟨F', ⟨h.mem.keeps k (fun x hx hm => h.sep x hx hm), m, fun x hx hp => ?_⟩, k, f⟩
  rcases f x hp with q | q
  · exact h.sep x hx q
  · have := h.mem.lt x hx; omega
end
theorem walk_steps_ok {M : Int → Int} (hM : ∀ s, 0 ≤ M s ∧ M s ≤ 18446744073709551615) {a t : Int} {n : Nat} {rt : Rt} : ∀ i, i < (walkF M 16 true a n t rt).1.length → 0 ≤ (stpAt (walkF M 16 true a n t rt).1 i).2.2 ∧ (stpAt (walkF M 16 true a n t rt).1 i).2.2 ≤ 18446744073709551615 := fun i hi => by
  have hx : (walkF M 16 true a n t rt).1[i]? = some (stpAt (walkF M 16 true a n t rt).1 i) := by simp [stpAt, List.getD, hi]
  exact (walk_at hM hx).2.2
theorem walk_len {M : Int → Int} {B : Int} {nxe : Bool} {a : Int} : ∀ (n : Nat) (t : Int) (rt : Rt), (walkF M B nxe a n t rt).1.length ≤ n
  | 0, _, _ => by simp [walkF]
  | n + 1, t, rt => by
    unfold walkF
    split
    · split
      · split
        · simp
        · split
          · simp
          · simp only [List.length_cons]; have := walk_len (M := M) (B := B) (nxe := nxe) (a := a) n (tabI (M (slotI t a ((n : Int) + 1) / 8))) (andR rt (M (slotI t a ((n : Int) + 1) / 8))); omega
      · simp
    · simp

def U32.cells (n : Int) : List Value := [.int .u32 n]
def U32.ok (n : Int) : Prop := 0 ≤ n ∧ n ≤ 4294967295
/-- What warm leaves. -/
def EndWarm (mb : Nat) (Fm : List Nat) (M : Int → Int) (T : List Int) (r : Nat) (ns : List Int) (w : World) (e : Ending) (w' : World) : Prop :=
  ∃ pb cb F Fm' T', e = .returned (.pointer (some ⟨pb, 0, none⟩)) ∧ Both w' mb Fm' M T' pb cb F (warmP M r ns (min ns.length 20)) r ∧ Keeps Fm w w' ∧ (∀ x ∈ Fm', x ∈ Fm ∨ w.heap.size ≤ x) ∧ (∀ x ∈ allF F, w.heap.size ≤ x) ∧ w.heap.size ≤ pb ∧ T'.length ≤ T.length + 80
/-- Within warm. -/
structure WarmTo (w : World) (mb : Nat) (Fm : List Nat) (M : Int → Int) (T : List Int) (pb : Nat) (cb : Int → Nat) (r : Nat) (ns : List Int) (i : Nat) (wr : World) (Fm' : List Nat) (T' : List Int) (F : Int → List Nat) : Prop where
  both : Both wr mb Fm' M T' pb cb F (warmP M r ns i) r
  keep : Keeps Fm w wr
  own : ∀ x ∈ Fm', x ∈ Fm ∨ w.heap.size ≤ x
  new : ∀ x ∈ allF F, w.heap.size ≤ x
  len : T'.length ≤ T.length + 4 * i

end Go.Proofs.Ytkfonacokamfiaa
/- Psc's laws: awake. -/
namespace Go.Proofs.Ytkfonacokamfiaa
set_option linter.unusedVariables false
set_option linter.unusedSimpArgs false
open Go.RowKit
attribute [local go_sem] wext_cell wext_frozen wext_heap alloc_cell alloc_frozen alloc_heap setCell_cell objCell_cells objFrozen_cells

def tinyC : Int → Lines := fillF 5 0 (pkF 0 0 0) 4 (walkF (builtM (tinyL.take 100)) 16 true 0 4 0 allRt).1 allRt (fun _ => [])
theorem tiny_deep : deepF tinyC 5 2097151 = some (2, lineP 12288 allRt) ∧ deepF tinyC 6 0 = none ∧ (tinyC 2).length = 1 ∧ (tinyC 4).length = 1 := by decide +kernel
theorem MemAt.wide {w : World} {mb : Nat} {F : List Nat} {B : Int} {M : Int → Int} {T : List Int} (h : MemAt w mb F B M T) : ∀ s, 0 ≤ M s ∧ M s ≤ 18446744073709551615 := by
  obtain ⟨pb, tv, es, clock, PL, p1, p2, p3, p4, p5, p6, p7, p8, p9, -, p10⟩ := h; exact p8
set_option maxHeartbeats 2000000 in
set_option maxRecDepth 100000 in
theorem awake11_c (w : World) : Calls Try.prog 4 #[] w fun e w' => e = .returned (.bool true) ∧ Ext w w' := by
  have t2 : ∀ w, Calls Try.prog 13 #[.int .u64 0] w fun e w' => e = .returned (.agg #[.int .i64 4, .int .u64 0, .bool true, .bool true, .bool true]) ∧ Ext w w' := fun w => wTop_c 0 w (by omega) (by omega)
  have HT2 := Lib.hid t2
  have HN := Lib.hid (fun w => pscNew_c 4 w (by omega) (by omega))
  clear t2
  go_enter Try.func4, Try.ntmps4
  go_upto_region 2 with (first | (go_at_call 12; refine (built11_c _ tinyL _ (tiny_at (alloc_same ..))).mono ?_; rintro e w1 ⟨mb, Fm, rfl, hC, hE, hF, hmb⟩))
  have C1 := Lib.hid hC
  have E1 : Hid (Ext w w1) := Lib.hid (((Ext.refl w).alloc _).trans hE)
  have hF1 : ∀ x ∈ Fm, w.heap.size ≤ x := fun x hx => by have := hF x hx; simp at this; omega
  have F1 := Lib.hid hF1
  clear hC hE hF hF1 hmb
  go_upto_region 3 with (first | (go_at_call 5; refine (HN.out _).mono ?_; rintro e w2 ⟨pb, cb, F0, rfl, hP, hE2, hp, hf⟩))
  have hB : Both w2 mb Fm (builtM (tinyL.take 100)) [] pb cb F0 (fun _ => []) 4 := ⟨C1.out.ext hE2, hP, fun x hx hm => by have := C1.out.lt x hx; have := hf x hm; omega⟩
  have B2 := Lib.hid hB
  have E2 := Lib.hid (E1.out.trans hE2)
  have F2 : Hid (∀ x ∈ allF F0, w.heap.size ≤ x) := Lib.hid fun x hx => Nat.le_trans E1.out.size (hf x hx)
  clear hB hP hE2 hp hf
  go_upto_region 6 with (first | (go_at_call 13; refine (HT2.out _).mono ?_; rintro e w3 ⟨rfl, hb3⟩))
  refine wp_gen ?_; intro U hU
  have hUE : Ext w2 U := by rw [hU]; exact (Ext.trans (by repeat (first | exact Ext.refl _ | assumption | refine Ext.alloc ?_ _ | refine Ext.drew ?_ | refine Ext.setCell ?_ (by first | (simp; done) | (dsimp only; omega)) _ | refine Ext.trans ?_ (by assumption))) hb3).alloc _
  have hUQ : U.heap[w3.heap.size]? = some (.cells #[.int .i64 4, .int .u64 0, .bool true, .bool true, .bool true] 41 (0, 0)) := by rw [hU]; exact alloc_same ..
  obtain ⟨qb, hqb⟩ : ∃ qb, w3.heap.size = qb := ⟨_, rfl⟩
  rw [hqb] at hUQ ⊢
  clear hU hqb hb3
  obtain ⟨q, hq⟩ : ∃ q, walkF (builtM (tinyL.take 100)) 16 true 0 4 0 allRt = q := ⟨_, rfl⟩
  have hql : q.1.length ≤ 4 := by rw [← hq]; exact walk_len 4 0 allRt
  have hqo : ∀ j, j < q.1.length → 0 ≤ (stpAt q.1 j).2.2 ∧ (stpAt q.1 j).2.2 ≤ 18446744073709551615 := by rw [← hq]; exact walk_steps_ok C1.out.wide
  have HQO := Lib.hid hqo
  have HFr := Lib.hid (fun w1 (h : MemAt w1 mb Fm 16 (builtM (tinyL.take 100)) []) => by have := from_c mb Fm 16 (builtM (tinyL.take 100)) [] 4 0 true true true 0 true w1 h (by omega) (by omega) (by omega) (by omega) (by omega) (by simp); rw [show ((true, true, true) : Rt) = allRt from rfl, hq] at this; exact this)
  have hC9 : tinyC = fillF 5 0 (pkF 0 0 0) 4 q.1 (true, true, true) (fun _ => []) := by unfold tinyC; rw [hq]; rfl
  obtain ⟨L, why, ⟨b0, b1, b2⟩, lv, fr⟩ := q
  dsimp only at hql hC9
  have HC9 := Lib.hid hC9
  have UE := Lib.hid hUE
  have UQ := Lib.hid hUQ
  have hqF : qb ∉ Fm := (B2.out.mem.ext hUE).apart hUQ (by decide) (by decide) (by decide)
  have m0 := wk_cell (F := Fm) (heap_lt hUQ) hqF ((heap_cell hUQ 0).trans rfl)
  have m1 := wk_cell (F := Fm) (heap_lt hUQ) hqF ((heap_cell hUQ 1).trans rfl)
  have m2 := wk_cell (F := Fm) (heap_lt hUQ) hqF ((heap_cell hUQ 2).trans rfl)
  have m3 := wk_cell (F := Fm) (heap_lt hUQ) hqF ((heap_cell hUQ 3).trans rfl)
  have m4 := wk_cell (F := Fm) (heap_lt hUQ) hqF ((heap_cell hUQ 4).trans rfl)
  clear hUE hUQ hqF hq hqo hC9
  refine region_mixGR (Rw := fun a b => Keeps (Fm) a b) (fun k => Keeps.of_ext k) (fun h1 h2 => h1.trans h2 (fun y hy => .inl hy)) [.q [0, 1, 2, 4], .b [5], .l 3 3, .l 6 2] (by kernel_rfl) (by kernel_rfl) ?_
  (try refine ⟨fun h => absurd h (by simp), ?_⟩); (repeat (unfold wpPlanR; simp only [pickL, List.map_cons, List.map_nil, List.getD_cons_succ, List.getD_cons_zero]; (try refine quiet_wk ?_); (repeat go_big_quiet_step (fail)); refine wpQuiet_nil ?_)); unfold wpPlanR; intro w5 hb5; (try simp only [pickL, List.map_cons, List.map_nil, List.getD_cons_succ, List.getD_cons_zero])
  have HB5 := Lib.hid hb5
  clear hb5 m0 m1 m2 m3 m4
  go_wp2_with (first | (go_at_call 15; refine (HFr.out _ (B2.out.mem.ext (UE.out.trans (HB5.out.trans (by repeat (first | exact Ext.refl _ | assumption | refine Ext.alloc ?_ _ | refine Ext.drew ?_ | refine Ext.setCell ?_ (by first | (simp; done) | (dsimp only; omega)) _ | refine Ext.trans ?_ (by assumption))))))).mono ?_; rintro e w6 ⟨v6, rfl, q2, q3, q4⟩; obtain ⟨sa, sc, rfl, -, -⟩ := q2.form))
  have hk6 := q3.choose_spec.2.1
  refine ⟨fun _ => (Keeps.of_ext (HB5.out.trans (by repeat (first | exact Ext.refl _ | assumption | refine Ext.alloc ?_ _ | refine Ext.drew ?_ | refine Ext.setCell ?_ (by first | (simp; done) | (dsimp only; omega)) _ | refine Ext.trans ?_ (by assumption))))).same hk6, ?_⟩
  have hB6 := (B2.out.ext (UE.out.trans (HB5.out.trans (by repeat (first | exact Ext.refl _ | assumption | refine Ext.alloc ?_ _ | refine Ext.drew ?_ | refine Ext.setCell ?_ (by first | (simp; done) | (dsimp only; omega)) _ | refine Ext.trans ?_ (by assumption)))))).after_mem q3
  obtain ⟨F6, hB6, hK6, hf6⟩ := hB6
  have B6 := Lib.hid hB6
  have E6 : Hid (Ext w w6) := Lib.hid (Keeps.to_ext (E2.out.trans (UE.out.trans (HB5.out.trans (by repeat (first | exact Ext.refl _ | assumption | refine Ext.alloc ?_ _ | refine Ext.drew ?_ | refine Ext.setCell ?_ (by first | (simp; done) | (dsimp only; omega)) _ | refine Ext.trans ?_ (by assumption)))))) hK6 F1.out)
  have Q2 := Lib.hid q2
  clear hk6 q2 q3 q4 hB6 hK6 hf6
  (try refine ⟨fun h => absurd h (by simp), ?_⟩); (repeat (unfold wpPlanR; simp only [pickL, List.map_cons, List.map_nil, List.getD_cons_succ, List.getD_cons_zero]; (try refine quiet_wk ?_); (repeat go_big_quiet_step (fail)); refine wpQuiet_nil ?_)); unfold wpPlanR; intro w7 hb7; (try simp only [pickL, List.map_cons, List.map_nil, List.getD_cons_succ, List.getD_cons_zero])
  have HB7 := Lib.hid hb7
  clear hb7
  go_wp2_with (first | (go_at_call 14; refine (fill_c pb cb F0 (fun _ => []) 4 5 0 L sa sc why (b0, b1, b2) lv fr 4 0 (true, true, true) 0 0 0 _ (B6.out.psc.ext (HB7.out.trans (by repeat (first | exact Ext.refl _ | assumption | refine Ext.alloc ?_ _ | refine Ext.drew ?_ | refine Ext.setCell ?_ (by first | (simp; done) | (dsimp only; omega)) _ | refine Ext.trans ?_ (by assumption))))) (StepsAt.of (Q2.out.ext (HB7.out.trans (by repeat (first | exact Ext.refl _ | assumption | refine Ext.alloc ?_ _ | refine Ext.drew ?_ | refine Ext.setCell ?_ (by first | (simp; done) | (dsimp only; omega)) _ | refine Ext.trans ?_ (by assumption)))))) (fun g' o' e' hm' => by subst e'; obtain ⟨c', hc'⟩ := (Q2.out.ext (HB7.out.trans (by repeat (first | exact Ext.refl _ | assumption | refine Ext.alloc ?_ _ | refine Ext.drew ?_ | refine Ext.setCell ?_ (by first | (simp; done) | (dsimp only; omega)) _ | refine Ext.trans ?_ (by assumption))))).heap g' (by rfl); exact (B6.out.psc.ext (HB7.out.trans (by repeat (first | exact Ext.refl _ | assumption | refine Ext.alloc ?_ _ | refine Ext.drew ?_ | refine Ext.setCell ?_ (by first | (simp; done) | (dsimp only; omega)) _ | refine Ext.trans ?_ (by assumption))))).out hc' (by decide) (by decide) hm') (by omega) HQO.out (by omega) (by omega) (by intro l; unfold pkF; split; omega; split <;> omega)).mono ?_; rintro e w8 ⟨rfl, F8, q1, q2, q3⟩))
  rw [← HC9.out] at q1
  have P8 := Lib.hid q1
  have E8 : Hid (Ext w w8) := Lib.hid (Keeps.to_ext (E6.out.trans (HB7.out.trans (by repeat (first | exact Ext.refl _ | assumption | refine Ext.alloc ?_ _ | refine Ext.drew ?_ | refine Ext.setCell ?_ (by first | (simp; done) | (dsimp only; omega)) _ | refine Ext.trans ?_ (by assumption))))) q2 F2.out)
  clear q1 q2 q3
  (try refine ⟨fun h => absurd h (by simp), ?_⟩); (repeat (unfold wpPlanR; simp only [pickL, List.map_cons, List.map_nil, List.getD_cons_succ, List.getD_cons_zero]; (try refine quiet_wk ?_); (repeat go_big_quiet_step (fail)); refine wpQuiet_nil ?_)); unfold wpPlanR; intro w9 hb9; (try simp only [pickL, List.map_cons, List.map_nil, List.getD_cons_succ, List.getD_cons_zero])
  have P9 := Lib.hid (P8.out.ext hb9)
  have E9 := Lib.hid (E8.out.trans hb9)
  clear hb9
  have ⟨d1, d2, d3, d4⟩ := tiny_deep
  have HD1 := Lib.hid (fun w h => deepest_c pb cb F8 tinyC 4 5 2097151 w h (by omega) (by omega))
  have HD2 := Lib.hid (fun w h => deepest_c pb cb F8 tinyC 4 6 0 w h (by omega) (by omega))
  have HL2 := Lib.hid (fun w h => pscLen_c pb cb F8 tinyC 4 2 w h (by omega))
  have HL4 := Lib.hid (fun w h => pscLen_c pb cb F8 tinyC 4 4 w h (by omega))
  rw [d1] at HD1
  rw [d2] at HD2
  rw [d3] at HL2
  rw [d4] at HL4
  clear d1 d2 d3 d4
  go_upto_region 8 with (first | (go_at_call 8; refine (HD1.out _ (P9.out.ext (by repeat (first | exact Ext.refl _ | assumption | refine Ext.alloc ?_ _ | refine Ext.drew ?_ | refine Ext.setCell ?_ (by first | (simp; done) | (dsimp only; omega)) _ | refine Ext.trans ?_ (by assumption))))).mono ?_; rintro e x1 ⟨rfl, hx1⟩; have ⟨hc, hf, hh, hs⟩ := hx1.facts; try simp only [World.size_alloc, World.size_setCell, World.size_drew] at hs))
  go_upto_region 9 with (first | (go_at_call 8; refine (HD2.out _ (P9.out.ext (Ext.trans (by repeat (first | exact Ext.refl _ | assumption | refine Ext.alloc ?_ _ | refine Ext.drew ?_ | refine Ext.setCell ?_ (by first | (simp; done) | (dsimp only; omega)) _ | refine Ext.trans ?_ (by assumption))) (by repeat (first | exact Ext.refl _ | assumption | refine Ext.alloc ?_ _ | refine Ext.drew ?_ | refine Ext.setCell ?_ (by first | (simp; done) | (dsimp only; omega)) _ | refine Ext.trans ?_ (by assumption)))))).mono ?_; rintro e x2 ⟨rfl, hx2⟩; have ⟨hc, hf, hh, hs⟩ := hx2.facts; try simp only [World.size_alloc, World.size_setCell, World.size_drew] at hs))
  refine wp_gen ?_; intro X hX
  have hXE : Ext w9 X := by rw [hX]; exact (by repeat (first | exact Ext.refl _ | assumption | refine Ext.alloc ?_ _ | refine Ext.drew ?_ | refine Ext.setCell ?_ (by first | (simp; done) | (dsimp only; omega)) _ | refine Ext.trans ?_ (by assumption)))
  have hXb : X.heap[x1.heap.size]? = some (.cells #[.int .i64 1, .int .u64 12288, .bool true, .bool true, .bool true] 41 (0, 0)) := by
    rw [hX]; exact (alloc_other _ _ (by have := hx2.size; simp at this; omega)).trans ((hx2.block _ (by simp)).trans (alloc_same x1 _))
  obtain ⟨xb, hxb⟩ : ∃ xb, x1.heap.size = xb := ⟨_, rfl⟩
  rw [hxb] at hXb ⊢
  have y0 := (heap_cell hXb 0).trans rfl
  have y1 := (heap_cell hXb 1).trans rfl
  have yl := heap_lt hXb
  have XE := Lib.hid hXE
  clear hX hXE hXb hxb hc hf hh hs
  clear hx1 hx2
  go_wp2_with (first | (go_at_call 11; (with_reducible refine (HL2.out _ (P9.out.ext (XE.out.trans (by repeat (first | exact Ext.refl _ | assumption | refine Ext.alloc ?_ _ | refine Ext.drew ?_ | refine Ext.setCell ?_ (by first | (simp; done) | (dsimp only; omega)) _ | refine Ext.trans ?_ (by assumption)))))).mono ?_); rintro e x3 ⟨rfl, hx3⟩; have ⟨hc, hf, hh, hs⟩ := hx3.facts) | (go_at_call 11; (with_reducible refine (HL4.out _ (P9.out.ext (XE.out.trans (Ext.trans (by repeat (first | exact Ext.refl _ | assumption | refine Ext.alloc ?_ _ | refine Ext.drew ?_ | refine Ext.setCell ?_ (by first | (simp; done) | (dsimp only; omega)) _ | refine Ext.trans ?_ (by assumption))) hx3)))).mono ?_); rintro e x4 ⟨rfl, hx4⟩))
  go_ret
  exact ⟨rfl, (E9.out.trans XE.out).trans (hx3.trans hx4)⟩
end Go.Proofs.Ytkfonacokamfiaa
