/- Joined texts, part 29 of what the law stands on: each as its own head says. -/
import Derived.Test.YtkfonacokamfiaaPly23
import Derived.Test.YtkfonacokamfiaaPly4
import Derived.Test.YtkfonacokamfiaaPly17
/- A law's real: a path as the document has it. -/
namespace Go.Proofs.Ytkfonacokamfiaa
set_option linter.unusedVariables false
set_option linter.unusedSimpArgs false
open Go.RowKit
attribute [local go_sem] wext_cell wext_frozen wext_heap alloc_cell alloc_frozen alloc_heap setCell_cell objCell_cells objFrozen_cells

theorem rowS_oneC (L : List Stp) : ∀ u ∈ rowS L, u.oneCell' = true := by
  intro u hu
  obtain ⟨k, _, hk⟩ := List.mem_flatMap.1 hu
  simp [Stp.cells] at hk
  rcases hk with rfl | rfl | rfl <;> rfl
theorem StepsAt.ofT {U : World} {e : TypeId} {sa : Option Addr} {sc : Nat} {L : List Stp} (h : Owns U e 3 (.slice sa L.length sc) L.length (rowS L)) : StepsAt U sa L := fun i hi => by
  obtain ⟨g, hg⟩ : ∃ g, sa = some ⟨g, 0, none⟩ := by
    rcases h.2 with ⟨h1, h0⟩ | ⟨g, _, _, he, _⟩
    · omega
    · exact ⟨g, by injection he⟩
  subst hg
  have H := fun j hj u hu => h.cells (g := g) rfl (i * 3 + j) u ((rowS_at L i hi j hj).trans hu)
  exact ⟨g, 0, rfl, h.lt g rfl, by rw [Nat.zero_add]; exact H 0 (by omega) _ rfl, by rw [Nat.zero_add]; exact H 1 (by omega) _ rfl, by rw [Nat.zero_add]; exact H 2 (by omega) _ rfl⟩
theorem refStepRow : RowT Try.prog 71 118 3 24 := RowT.of (z := .agg #[.int .i64 0, .int .u64 0, .int .u64 0]) Try.underlying71 (by kernel_rfl) rfl
theorem rowS_take (L : List Stp) (j : Nat) (h : j < L.length) : rowS (L.take (j + 1)) = rowS (L.take j) ++ (stpAt L j).cells := by
  have e : L.take (j + 1) = L.take j ++ [stpAt L j] := by rw [List.take_add_one, List.getElem?_eq_getElem h]; simp [stpAt, List.getD, h]
  rw [e]; simp [rowS]

/-- A path of the document's as a value. -/
def EndReal (L : List Stp) (why : Int) (r : Rt) (lv fr : Int) (w : World) (e : Ending) (w' : World) : Prop :=
  ∃ ra rc, e = .returned (.agg #[.slice ra L.length rc, .int .i64 why, .bool r.1, .bool r.2.1, .bool r.2.2, .int .i64 lv, .int .u64 fr]) ∧ Owns w' 118 3 (.slice ra L.length rc) L.length (rowS L) ∧ Ext w w'
end Go.Proofs.Ytkfonacokamfiaa
/- PscPlays' helpers: a path and a place as the document has them. (real8_c's twin.) Own text. -/
namespace Go.Proofs.Ytkfonacokamfiaa
set_option linter.unusedVariables false
set_option linter.unusedSimpArgs false
open Go.RowKit
attribute [local go_sem] wext_cell wext_frozen wext_heap alloc_cell alloc_frozen alloc_heap setCell_cell objCell_cells objFrozen_cells

set_option maxHeartbeats 4000000 in
set_option maxRecDepth 100000 in
theorem real11_c (L : List Stp) (why : Int) (r : Rt) (lv fr : Int) (sa : Option Addr) (sc : Nat) (w : World) (hS : StepsAt w sa L) (hL : L.length ≤ 5864062014634) :
    Calls Try.prog 19 #[.agg #[.slice sa L.length sc, .int .i64 why, .bool r.1, .bool r.2.1, .bool r.2.2, .int .i64 lv, .int .u64 fr]] w (EndReal L why r lv fr w) := by
  have HS := Lib.hid hS
  generalize hE : EndReal L why r lv fr w = E
  have HE := Lib.hid hE
  clear hE hS
  go_enter Try.func19, Try.ntmps19
  go_wp2
  refine wp_gen ?_; intro V hV
  have vE : Ext w V := by rw [hV]; exact (by repeat (first | exact Ext.refl _ | assumption | refine Ext.alloc ?_ _ | refine Ext.drew ?_ | refine Ext.setCell ?_ (by first | (simp; done) | (dsimp only; omega)) _ | refine Ext.trans ?_ (by assumption)))
  have v1 : V.heap[w.heap.size]? = some (.cells #[.slice sa L.length sc, .int .i64 why, .bool r.1, .bool r.2.1, .bool r.2.2, .int .i64 lv, .int .u64 fr] 39 (0, 0)) := by rw [hV]; exact (alloc_other _ _ (by simp; omega)).trans ((alloc_other _ _ (by simp)).trans (alloc_same ..))
  have v2 : V.heap[w.heap.size + 1]? = some (.cells #[.slice none 0 0, .int .i64 0, .bool false, .bool false, .bool false, .int .i64 0, .int .u64 0] 73 (0, 0)) := by rw [hV]; exact (alloc_other _ _ (by simp)).trans (alloc_same1 ..)
  have v3 : V.heap[w.heap.size + 1 + 1]? = some (.cells #[.slice none 0 0, .int .i64 why, .bool r.1, .bool r.2.1, .bool r.2.2, .int .i64 lv, .int .u64 fr] 73 (0, 0)) := by rw [hV]; exact alloc_same2 ..
  obtain ⟨pb, hpb⟩ : ∃ pb, w.heap.size = pb := ⟨_, rfl⟩
  obtain ⟨qb, hqb⟩ : ∃ qb, w.heap.size + 1 = qb := ⟨_, rfl⟩
  obtain ⟨ob, hob⟩ : ∃ ob, w.heap.size + 1 + 1 = ob := ⟨_, rfl⟩
  have hbs : w.heap.size ≤ pb ∧ w.heap.size ≤ qb ∧ w.heap.size ≤ ob ∧ pb ≠ qb ∧ pb ≠ ob ∧ qb ≠ ob := by omega
  obtain ⟨b1, b2, b3, b4, b5, b6⟩ := hbs
  rw [hob] at v3 ⊢
  rw [hqb] at v2 ⊢
  rw [hpb] at v1 ⊢
  have VE := Lib.hid vE
  have VP := Lib.hid v1
  have VQ := Lib.hid v2
  have VO := Lib.hid v3
  clear hV vE v1 v2 v3 hpb hqb hob
  go_loopw [4] (fun i wr => ∃ (j : Nat) (ra : Option Addr) (rc : Nat), j ≤ L.length ∧ i = .int .i64 j ∧ Hid (Ext w wr ∧ wr.heap[pb]? = some (.cells #[.slice sa L.length sc, .int .i64 why, .bool r.1, .bool r.2.1, .bool r.2.2, .int .i64 lv, .int .u64 fr] 39 (0, 0)) ∧
    wr.heap[qb]? = some (.cells #[.slice none 0 0, .int .i64 0, .bool false, .bool false, .bool false, .int .i64 0, .int .u64 0] 73 (0, 0)) ∧
    wr.heap[ob]? = some (.cells #[.slice ra j rc, .int .i64 why, .bool r.1, .bool r.2.1, .bool r.2.2, .int .i64 lv, .int .u64 fr] 73 (0, 0)) ∧ Owns wr 118 3 (.slice ra j rc) j (rowS (L.take j)) ∧
    ∀ g, (Value.slice ra j rc).ownBlock = some g → w.heap.size ≤ g)) (fun i _ => L.length - (intOf i).toNat)
  case atStart => exact ⟨0, none, 0, by omega, rfl, Lib.hid ⟨VE.out, VP.out, VQ.out, VO.out, by simpa [rowS] using Owns.nil _ _ _, fun g hg => by simp [Value.ownBlock] at hg⟩⟩
  case round =>
    obtain ⟨j, ra, rc, hj, rfl, hR⟩ := hrel
    obtain ⟨hx, hp, hq, ho, hO, hg⟩ := hR.out
    have c0 := (heap_cell hp 0).trans rfl
    have hpl := heap_lt hp
    have hql := heap_lt hq
    have hol := heap_lt ho
    by_cases hlt : j < L.length
    · obtain ⟨g, o, rfl, hgl, s0, s1, s2⟩ := HS.out.ext hx j hlt
      have hst := rowS_take L j hlt
      generalize stpAt L j = sj at s0 s1 s2 hst
      obtain ⟨lj, aj, xj⟩ := sj
      dsimp only at s0 s1 s2
      have HST := Lib.hid hst
      have y0 := (heap_cell ho 0).trans rfl
      have OO := Lib.hid ho
      have PP := Lib.hid hp
      have QQ := Lib.hid hq
      have OW := Lib.hid hO
      have HX := Lib.hid hx
      have HG := Lib.hid hg
      clear hst hp hq ho hO hx hg hR
      go_upto_region 5 with (fail)
      refine region_mix [.q [0, 1, 2, 3, 4, 5, 6], .l 7 3, .l 8 2, .b [9], .l 10 2] (by kernel_rfl) (by kernel_rfl) ?_
      (try refine ⟨fun h => absurd h (by simp), ?_⟩); (repeat (unfold wpPlan; simp only [pickL, List.map_cons, List.map_nil, List.getD_cons_succ, List.getD_cons_zero]; (repeat go_big_quiet_step (fail)); refine wpQuiet_nil ?_)); unfold wpPlan; intro w3 hb3; (try simp only [pickL, List.map_cons, List.map_nil, List.getD_cons_succ, List.getD_cons_zero])
      have B3 := Lib.hid hb3
      have hz3 := hb3.size
      clear hb3 c0 s0 s1 s2 y0
      go_wp2
      refine ⟨fun _ => B3.out.alloc _, ?_⟩
      (try refine ⟨fun h => absurd h (by simp), ?_⟩); (repeat (unfold wpPlan; simp only [pickL, List.map_cons, List.map_nil, List.getD_cons_succ, List.getD_cons_zero]; (repeat go_big_quiet_step (fail)); refine wpQuiet_nil ?_)); unfold wpPlan; intro w4 hb4; (try simp only [pickL, List.map_cons, List.map_nil, List.getD_cons_succ, List.getD_cons_zero])
      have e4 : Ext wr w4 := (B3.out.alloc _).trans hb4
      have n4 := (hb4.block w3.heap.size (by simp)).trans (alloc_same w3 (.cells #[.int .i64 lj, .int .u64 aj, .int .u64 xj] 118 (0, 0)))
      have E4 := Lib.hid e4
      have HA := Lib.hid (OW.out.ext e4)
      have N4 := Lib.hid n4
      have hOB : Hid (∀ w9 : World, World.grownBy w4 w9 (Value.slice ra j rc).ownBlock → ∀ (b : Nat) (c : Array Value) (e : TypeId), w4.heap[b]? = some (.cells c e (0, 0)) → e ≠ 118 → w9.heap[b]? = some (.cells c e (0, 0))) := Lib.hid (fun w9 k9 b c e hbc he => (k9.block b (heap_lt hbc) (fun h => by
        obtain ⟨c', hc'⟩ := HA.out.heap b h.symm
        rw [hbc] at hc'; simp only [Option.some.injEq, Obj.cells.injEq] at hc'; exact he hc'.2.1)).trans hbc)
      clear hb4 e4 n4
      go_wp2_with (first | (at_builtin; refine wpList_append_owns rfl _ _ _ _ 3 24 refStepRow rfl _ rfl j (rowS (L.take j)) HA.out _ 1 1 rfl (Stp.cells (lj, aj, xj)) rfl (fun j' u hu => by rw [add0, heap_cell N4.out j']; simpa [Stp.cells] using hu) (by simp [Stp.cells, Value.oneCell']) (by unfold maxLen; omega) (by omega) ?_; intro v9 w9 q1 q2 q3; replace q2 : World.grownBy w4 w9 (Value.slice ra j rc).ownBlock := q2; replace q3 : v9.ownBlock = (Value.slice ra j rc).ownBlock ∨ v9.ownBlock = some w4.heap.size := q3; obtain ⟨a9, c9, rfl, -, -⟩ := q1.form; simp only [Act.put, Array.set!_eq_setIfInBounds, List.setIfInBounds_toArray, List.set_cons_succ, List.set_cons_zero]))
      refine ⟨fun h => absurd h (by simp), ?_⟩
      have p9 := hOB.out w9 q2 pb _ _ ((E4.out.block _ hpl).trans PP.out) (by decide)
      have r9 := hOB.out w9 q2 qb _ _ ((E4.out.block _ hql).trans QQ.out) (by decide)
      have o9 := hOB.out w9 q2 ob _ _ ((E4.out.block _ hol).trans OO.out) (by decide)
      have X9 : Hid (Ext w w9) := Lib.hid (Keeps.to_ext (F := []) (Ext.refl w) ((Keeps.of_ext (HX.out.trans E4.out)).grown q2 (fun x hx => .inr (HG.out x hx))) (by simp))
      have G9 : Hid (∀ g, (Value.slice a9 (j + 1) c9).ownBlock = some g → w.heap.size ≤ g) := Lib.hid (fun g hg => by
        rcases q3 with q3 | q3 <;> rw [q3] at hg
        · exact HG.out g hg
        · have := (HX.out.trans E4.out).size
          simp only [Option.some.injEq] at hg; omega)
      have O9 := Lib.hid o9
      have P9 := Lib.hid p9
      have R9 := Lib.hid r9
      have S9 := Lib.hid q1
      clear q1 q2 q3 o9 p9 r9 hOB HA N4
      (try refine ⟨fun h => absurd h (by simp), ?_⟩); (repeat (unfold wpPlan; simp only [pickL, List.map_cons, List.map_nil, List.getD_cons_succ, List.getD_cons_zero]; (repeat go_big_quiet_step (fail)); refine wpQuiet_nil ?_)); unfold wpPlan; intro wa hba; (try simp only [pickL, List.map_cons, List.map_nil, List.getD_cons_succ, List.getD_cons_zero])
      have oa := (hba.block _ (heap_lt O9.out)).trans O9.out
      have k0 := (heap_cell oa 0).trans rfl
      have kf := frozen_of oa
      have hoa := heap_lt oa
      have OA := Lib.hid oa
      have HBA := Lib.hid hba
      clear oa hba
      go_wp2
      refine ⟨fun h => absurd h (by simp), ?_⟩
      (try refine ⟨fun h => absurd h (by simp), ?_⟩); (repeat (unfold wpPlan; simp only [pickL, List.map_cons, List.map_nil, List.getD_cons_succ, List.getD_cons_zero]; (repeat go_big_quiet_step (fail)); refine wpQuiet_nil ?_)); unfold wpPlan; intro wb hbb; (try simp only [pickL, List.map_cons, List.map_nil, List.getD_cons_succ, List.getD_cons_zero])
      have hEa := X9.out.trans HBA.out
      go_wp2
      refine ⟨⟨j + 1, a9, c9, by omega, by go_num, Lib.hid ⟨(Ext.setCell hEa b3 _).trans hbb, (hbb.block pb (by simp; exact heap_lt ((HBA.out.block _ (heap_lt P9.out)).trans P9.out))).trans ((setCell_heap _ _ _ _ _ (Ne.symm b5)).trans ((HBA.out.block _ (heap_lt P9.out)).trans P9.out)),
        (hbb.block qb (by simp; exact heap_lt ((HBA.out.block _ (heap_lt R9.out)).trans R9.out))).trans ((setCell_heap _ _ _ _ _ (Ne.symm b6)).trans ((HBA.out.block _ (heap_lt R9.out)).trans R9.out)),
        (hbb.block ob (by simp; exact heap_lt OA.out)).trans (setCell_heap_same OA.out), ?_, G9.out⟩⟩, by simp [intOf]; omega⟩
      rw [HST.out]
      refine Owns.ext ((S9.out.ext HBA.out).keep fun g hg => setCell_heap _ ob 0 g _ (fun e => ?_)) hbb
      obtain ⟨c, hc⟩ := (S9.out.ext HBA.out).heap g hg
      rw [← e, OA.out] at hc; simp at hc
    · obtain rfl : j = L.length := by omega
      have y0 := (heap_cell ho 0).trans rfl
      have y1 := (heap_cell ho 1).trans rfl
      have y2 := (heap_cell ho 2).trans rfl
      have y3 := (heap_cell ho 3).trans rfl
      have y4 := (heap_cell ho 4).trans rfl
      have y5 := (heap_cell ho 5).trans rfl
      have y6 := (heap_cell ho 6).trans rfl
      have k0 := (heap_cell hq 0).trans rfl
      have k1 := (heap_cell hq 1).trans rfl
      have k2 := (heap_cell hq 2).trans rfl
      have k3 := (heap_cell hq 3).trans rfl
      have k4 := (heap_cell hq 4).trans rfl
      have k5 := (heap_cell hq 5).trans rfl
      have k6 := (heap_cell hq 6).trans rfl
      have kf := frozen_of hq
      have QQ := Lib.hid hq
      have OW := Lib.hid hO
      have HX := Lib.hid hx
      have HLe : Hid (L.take L.length = L) := Lib.hid (List.take_of_length_le (Nat.le_refl _))
      clear hq ho hO hx hg hR hp
      go_wp2
      refine post_gen (fun X => X.heap[qb]? = some (.cells #[.slice ra L.length rc, .int .i64 why, .bool r.1, .bool r.2.1, .bool r.2.2, .int .i64 lv, .int .u64 fr] 73 (0, 0)) ∧ Owns X 118 3 (.slice ra L.length rc) L.length (rowS L) ∧ Ext w X) ⟨store7_heap QQ.out, ?_, ext7 HX.out b2⟩ ?_
      · have h9 := OW.out.store7 QQ.out (by decide) (v0 := .slice ra L.length rc) (v1 := .int .i64 why) (v2 := .bool r.1) (v3 := .bool r.2.1) (v4 := .bool r.2.2) (v5 := .int .i64 lv) (v6 := .int .u64 fr)
        rw [HLe.out] at h9; exact h9
      rintro X ⟨m5, o5, e5⟩
      have v0 := (heap_cell m5 0).trans rfl
      have v1 := (heap_cell m5 1).trans rfl
      have v2 := (heap_cell m5 2).trans rfl
      have v3 := (heap_cell m5 3).trans rfl
      have v4 := (heap_cell m5 4).trans rfl
      have v5 := (heap_cell m5 5).trans rfl
      have v6 := (heap_cell m5 6).trans rfl
      have O5 := Lib.hid o5
      have E5 := Lib.hid e5
      clear m5 o5 e5 y0 y1 y2 y3 y4 y5 y6 k0 k1 k2 k3 k4 k5 k6 kf c0
      rw [← HE.out]
      refine bodyPost_ret (by simp [results, Try.results19, go_sem, ↓IntWalk.iteOmega, *]; try rfl) rfl ⟨ra, rc, rfl, O5.out, E5.out⟩
set_option maxHeartbeats 2000000 in
theorem place11_c (n t : Int) (a b c : Bool) (w : World) :
    Calls Try.prog 10 #[.agg #[.int .i64 n, .int .u64 t, .bool a, .bool b, .bool c]] w fun e w' => e = .returned (.agg #[.int .i64 n, .int .u64 t, .bool a, .bool b, .bool c]) ∧ Ext w w' := by
  go_enter Try.func10, Try.ntmps10
  go_upto_region 1 with (fail)
  refine wp_gen ?_; intro V hV
  have hVE : Ext w V := by rw [hV]; exact (by repeat (first | exact Ext.refl _ | assumption | refine Ext.alloc ?_ _ | refine Ext.drew ?_ | refine Ext.setCell ?_ (by first | (simp; done) | (dsimp only; omega)) _ | refine Ext.trans ?_ (by assumption)))
  have hV0 : V.heap[w.heap.size]? = some (.cells #[.int .i64 n, .int .u64 t, .bool a, .bool b, .bool c] 41 (0, 0)) := by rw [hV]; exact (alloc_other _ _ (by simp)).trans (alloc_same ..)
  have hV1 : V.heap[w.heap.size + 1]? = some (.cells #[.int .i64 0, .int .u64 0, .bool false, .bool false, .bool false] 49 (0, 0)) := by rw [hV]; exact alloc_same1 ..
  obtain ⟨vb, hvb⟩ : ∃ vb, w.heap.size = vb := ⟨_, rfl⟩
  rw [hvb] at hV0 hV1 ⊢
  have hwv : w.heap.size ≤ vb + 1 := by omega
  have VE := Lib.hid hVE
  have V1 := Lib.hid hV1
  have x0 := (heap_cell hV0 0).trans rfl
  have x1 := (heap_cell hV0 1).trans rfl
  have x2 := (heap_cell hV0 2).trans rfl
  have x3 := (heap_cell hV0 3).trans rfl
  have x4 := (heap_cell hV0 4).trans rfl
  have xl := heap_lt hV0
  have y0 := (heap_cell hV1 0).trans rfl
  have y1 := (heap_cell hV1 1).trans rfl
  have y2 := (heap_cell hV1 2).trans rfl
  have y3 := (heap_cell hV1 3).trans rfl
  have y4 := (heap_cell hV1 4).trans rfl
  have yf := frozen_of hV1
  have yl := heap_lt hV1
  clear hV hVE hV0 hV1 hvb
  go_wp2
  refine post_gen (fun X => X.heap[vb + 1]? = some (.cells #[.int .i64 n, .int .u64 t, .bool a, .bool b, .bool c] 49 (0, 0)) ∧ Ext w X) ⟨store5_heap V1.out, ext5 VE.out hwv⟩ ?_
  clear x0 x1 x2 x3 x4 y0 y1 y2 y3 y4 yf
  rintro X ⟨m5, E5⟩
  have v0 := (heap_cell m5 0).trans rfl
  have v1 := (heap_cell m5 1).trans rfl
  have v2 := (heap_cell m5 2).trans rfl
  have v3 := (heap_cell m5 3).trans rfl
  have v4 := (heap_cell m5 4).trans rfl
  clear m5
  refine bodyPost_ret (by simp [results, Try.results10, go_sem, ↓IntWalk.iteOmega, *]; try rfl) rfl ⟨rfl, E5⟩
end Go.Proofs.Ytkfonacokamfiaa
