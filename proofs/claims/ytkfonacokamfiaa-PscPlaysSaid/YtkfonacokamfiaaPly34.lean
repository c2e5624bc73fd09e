/- Joined texts, part 34 of what the law stands on: each as its own head says. -/
import Derived.Test.YtkfonacokamfiaaPly30
import Derived.Test.YtkfonacokamfiaaPly33
import Derived.Test.YtkfonacokamfiaaPly32
import Derived.Test.YtkfonacokamfiaaPly11
import Derived.Deep.MidRow
import Derived.Test.YtkfonacokamfiaaPly31
/- PscPlays: whatever is filled, dropped, and evicted: where any walk goes on, and how many there are of each level. Printed by mkpplays.py. -/
namespace Go.Proofs.Ytkfonacokamfiaa
set_option linter.unusedVariables false
set_option linter.unusedSimpArgs false
open Go.RowKit
attribute [local go_sem] wext_cell wext_frozen wext_heap alloc_cell alloc_frozen alloc_heap setCell_cell objCell_cells objFrozen_cells

instance : Inhabited PDeed := ⟨⟨0, 0, 0, 0, [], none, 0, 0, false, false, false, 0, 0, 0, 0, false, false, false, 0, 0, 0⟩⟩
theorem wpQuiet_load_mid {P : Program} {ops : Array Oper} {C : World → Prop} {Q : Act → Prop} {rest : List Oper} {a : Act} {o : Oper} (hw : Region.wanted o (yielded ops a.tmps) = true) (ty : TypeId) (x : Operand) (ho : o.op = .load ty x)
    (b f : Nat) (hx : a.eval x = .pointer (some ⟨b, f, none⟩)) (cs : Array Value) (d : TypeDesc) (hc : ∀ w, C w → w.rangeAt b f cs.toList) (hu : P.underlying ty = some d) (hd : d.isRow = true)
    (hi : (P.info? ty).map (·.size) = some cs.toList.length) (h : wpQuiet P ops C Q rest (a.put o.dst (.agg cs))) : wpQuiet P ops C Q (o :: rest) a := by
  refine BigFrame.wpQuiet_want hw fun K hK => ⟨_, fun w hC => ?_, hK _ h⟩
  unfold Oper.quietAt execOp
  simp only [ho, hx, Instr.loadAt, Instr.sureAddr, Sem.run_bind, Sem.run_pure, Result.andThen_ok, run_loadVar_mid w b f ty cs.toList d (hc w hC) hu hd hi]
  exact ⟨rfl, rfl⟩
def plB8 (x y : Int × Int × Rt) : Bool := decide (x = y)
theorem rpl_equal (x y : Int × Int × Rt) (w : World) : (Op.equal 49 (.agg #[.int .i64 x.1, .int .u64 x.2.1, .bool x.2.2.1, .bool x.2.2.2.1, .bool x.2.2.2.2]) (.agg #[.int .i64 y.1, .int .u64 y.2.1, .bool y.2.2.1, .bool y.2.2.2.1, .bool y.2.2.2.2])).run Try.prog w = .ok (decide (x = y)) w := by
  show (Op.equalIn 10000 _ _ _).run _ _ = _
  obtain ⟨p, l, t, a, b⟩ := x
  obtain ⟨p', l', t', a', b'⟩ := y
  simp [go_sem]
  by_cases h1 : p = p' <;> by_cases h2 : l = l' <;> by_cases h3 : t = t' <;> by_cases h4 : a = a' <;> by_cases h5 : b = b' <;> simp [*]
theorem rpl_neq (p l : Int) (t a b : Bool) (p' l' : Int) (t' a' b' : Bool) (w : World) : (binOp .neq 49 (.agg #[.int .i64 p, .int .u64 l, .bool t, .bool a, .bool b]) (.agg #[.int .i64 p', .int .u64 l', .bool t', .bool a', .bool b'])).run Try.prog w = .ok (.bool (!plB8 (p, l, t, a, b) (p', l', t', a', b'))) w := by
  have := rpl_equal (p, l, t, a, b) (p', l', t', a', b') w
  rw [run_neq_struct]
  show ((Op.equal _ _ _).run _ _).andThen _ = _
  rw [this]; rfl
attribute [local go_sem high] rpl_neq
theorem plB8_self (x : Int × Int × Rt) : plB8 x x = true := by simp [plB8]
def dAtP (ds : List PDeed) (i : Nat) : PDeed := ds.getD i default

set_option maxHeartbeats 4000000 in
set_option maxRecDepth 100000 in
theorem pscPlays_c (room : Int) (v : Value) (ds : List PDeed) (w : World) (hr0 : -9223372036854775808 ≤ room) (hr1 : room ≤ 9223372036854775807) (h : ListAt w v 19 (fun d : PDeed => d.cells.toList) (fun _ => True) ds)
    (hok : ∀ i, i < ds.length → (dAtP ds i).ok ∧ StepsAt w (dAtP ds i).wa (dAtP ds i).L) :
    Calls Try.prog 3 #[.int .i64 room, v] w fun e w' => e = .returned (.bool true) ∧ Ext w w' := by
  have HOK := Lib.hid hok
  have HV := Lib.hid h
  obtain ⟨va, vc, rfl, hlc, hmx, -, -⟩ := h
  unfold maxLen at hmx
  have HNp := Lib.hid (fun w1 => pscNew_c room w1 hr0 hr1)
  have HNd := Lib.hid (fun w1 => rpNew_c room w1 hr0 hr1)
  unfold EndPNew at HNp
  unfold EndRp at HNd
  generalize clampR room = r at HNp HNd
  clear hok
  go_enter Try.func3, Try.ntmps3
  go_upto_region 2 with (first | (go_at_call 4; refine (awake11_c _).mono ?_; rintro e w1 ⟨rfl, hb1⟩))
  have E1 := Lib.hid hb1
  clear hb1
  go_upto_region 3 with (first | (go_at_call 5; refine (HNp.out _).mono ?_; rintro e w2 ⟨pb, cb, F, rfl, hP, hb2, hpb, hF⟩))
  have E2 := Lib.hid (E1.out.trans hb2)
  have P2 := Lib.hid hP
  have F2 : Hid (∀ x ∈ allF F, w.heap.size ≤ x) := Lib.hid fun x hx => by have := hF x hx; have := E1.out.size; omega
  clear hb2 hP hpb hF E1
  go_upto_region 6 with (first | (go_at_call 6; refine (HNd.out _).mono ?_; rintro e w3 ⟨sa, sc, rfl, hR, hb3⟩))
  refine wp_gen ?_; intro U hU
  have KU := Lib.hid (show Ext w2 U by rw [hU]; exact hb3.alloc _)
  have hUX : U.heap[w3.heap.size]? = some (.cells #[.slice (sa 4) ([] : Lines).length (sc 4), .int .i64 r, .slice (sa 3) ([] : Lines).length (sc 3), .int .i64 r, .slice (sa 2) ([] : Lines).length (sc 2), .int .i64 r] 31 (0, 0)) := by rw [hU]; exact alloc_same ..
  have UR : Hid (RpAt U sa sc (fun _ => [])) := Lib.hid (by rw [hU]; exact hR.ext ((Ext.refl _).alloc _))
  obtain ⟨xb, hxb⟩ : ∃ xb, w3.heap.size = xb := ⟨_, rfl⟩
  have hxw : w.heap.size ≤ xb := by have := E2.out.size; have := hb3.size; omega
  rw [hxb] at hUX ⊢
  have UX := Lib.hid hUX
  have UP := Lib.hid (P2.out.ext KU.out)
  have UE := Lib.hid (E2.out.trans KU.out)
  clear hU hUX hxb hb3 hR KU P2 E2
  go_wp2
  go_loopw [8] (fun iv wr => ∃ (i : Nat) (F : Int → List Nat) (C : Int → Lines) (sa : Int → Option Addr) (sc : Int → Nat), i ≤ ds.length ∧ i ≤ 80 ∧ iv = .int .i64 i ∧ Hid (PscAt wr pb cb F C r ∧ wr.heap[xb]? = some (.cells #[.slice (sa 4) (C 4).length (sc 4), .int .i64 r, .slice (sa 3) (C 3).length (sc 3), .int .i64 r, .slice (sa 2) (C 2).length (sc 2), .int .i64 r] 31 (0, 0)) ∧ RpAt wr sa sc C ∧ (∀ x ∈ allF F, w.heap.size ≤ x) ∧ Ext w wr)) (fun iv _ => ds.length - (intOf iv).toNat)
  case atStart => exact ⟨0, F, fun _ => [], sa, sc, by omega, by omega, rfl, Lib.hid ⟨UP.out, UX.out, UR.out, F2.out, UE.out⟩⟩
  case round =>
    obtain ⟨i, F, C, sa, sc, hi, hi80, rfl, hR⟩ := hrel
    by_cases hlt : i < ds.length ∧ i < 80
    · obtain ⟨hl1, hl2⟩ := hlt
      obtain ⟨va', cap', he, -, -, -, hcls⟩ := HV.out
      obtain ⟨g, o, e1, hgl, hcl⟩ := hcls i hl1
      clear hcls
      have he' : va = va' := by injection he
      subst he'
      subst e1
      obtain ⟨hdok, hdst⟩ := HOK.out i hl1
      rw [show ds.getD i default = dAtP ds i from rfl] at hcl
      generalize dAtP ds i = d at hcl hdok hdst
      have HCL : Hid (∀ W, Ext w W → ∀ j u, (d.cells.toList)[j]? = some u → W.cell? ⟨g, o + i * 19 + j, none⟩ = some u) := Lib.hid fun W k j u hu => k.someCell (hcl j u hu)
      have HDO := Lib.hid (fun w1 h1 h2 h3 => do11_c pb cb F C r sa sc d w1 h1 h2 hdok h3 (fun hL0 g' o' e hm => by
        have hh := hR.out.2.2.2.1 g' hm
        obtain ⟨g2, o2, e2, k2, -⟩ := hdst 0 hL0
        rw [e] at e2
        injection e2 with e2
        injection e2 with e2
        omega))
      have HDS := Lib.hid hdst
      have HDA := Lib.hid hdok.1
      obtain ⟨D, hD⟩ : ∃ D, stepP d r C = D := ⟨_, rfl⟩
      rw [hD] at HDO
      have RP := Lib.hid hR.out.1
      have RX := Lib.hid hR.out.2.1
      have RR := Lib.hid hR.out.2.2.1
      have RF := Lib.hid hR.out.2.2.2.1
      have RE := Lib.hid hR.out.2.2.2.2
      have hgw : g < wr.heap.size := Nat.lt_of_lt_of_le hgl RE.out.size
      clear he hcl hdok hdst hD hR
      have x0 := (heap_cell RX.out 0).trans rfl
      have x1 := (heap_cell RX.out 1).trans rfl
      have x2 := (heap_cell RX.out 2).trans rfl
      have x3 := (heap_cell RX.out 3).trans rfl
      have x4 := (heap_cell RX.out 4).trans rfl
      have x5 := (heap_cell RX.out 5).trans rfl
      have xf := frozen_of RX.out
      have xl := heap_lt RX.out
      go_upto_region 9 with (fail)
      refine region_mixG [.q [0, 1, 2, 3, 4, 5], .l 6 2, .l 7 2] (by kernel_rfl) (by kernel_rfl) ?_
      unfold wpPlan; simp only [pickL, List.map_cons, List.map_nil, List.getD_cons_succ, List.getD_cons_zero]
      go_big_quiet_step (fail)
      go_big_quiet_step (fail)
      go_big_quiet_step (fail)
      go_big_quiet_step (fail)
      go_big_quiet_step (fail)
      refine wpQuiet_load_mid rfl 44 _ rfl g (o + i * 19) rfl d.cells _ ?_ Try.underlying44 rfl (show (Try.prog.info? 44).map (·.size) = some 19 by kernel_rfl) ?_
      · rintro w' ⟨e, rfl⟩; exact fun j u hu => HCL.out _ (RE.out.trans (wext_ext _ _)) j u hu
      simp only [Act.put, Array.set!_eq_setIfInBounds, List.setIfInBounds_toArray, List.set_cons_succ, List.set_cons_zero]
      refine wpQuiet_nil ?_
      unfold wpPlan; intro u1 hu1; (try simp only [pickL, List.map_cons, List.map_nil, List.getD_cons_succ, List.getD_cons_zero])
      go_wp2_with (first | (go_at_call 7; refine (HDO.out _ (RP.out.ext hu1) (RR.out.ext hu1) (HDS.out.ext (RE.out.trans hu1))).mono ?_; rintro e u2 ⟨sa2, sc2, rfl, hR2, F3, hP3, hK3, hF3⟩))
      have K3 : Hid (Keeps (allF F) wr u2) := Lib.hid ((Keeps.of_ext hu1).same hK3)
      have hX2 := (K3.out.block _ (heap_lt RX.out) (RP.out.out RX.out (by decide) (by decide))).trans RX.out
      have P3 := Lib.hid hP3
      have R3 := Lib.hid hR2
      have F3' : Hid (∀ x ∈ allF F3, w.heap.size ≤ x) := Lib.hid fun x hx => (hF3 x hx).elim (RF.out x) fun h => by have := RE.out.size; have := hu1.size; omega
      have E3 : Hid (Ext w u2) := Lib.hid (Keeps.to_ext RE.out K3.out RF.out)
      have X3 := Lib.hid hX2
      clear hu1 hP3 hR2 hK3 hF3 hX2 HDO K3 x0 x1 x2 x3 x4 x5 xf xl
      refine ⟨?_, ?_⟩
      · intro h; exact absurd h (by decide)
      (try refine ⟨fun h => absurd h (by simp), ?_⟩); (repeat (unfold wpPlan; simp only [pickL, List.map_cons, List.map_nil, List.getD_cons_succ, List.getD_cons_zero]; (repeat go_big_quiet_step (fail)); refine wpQuiet_nil ?_)); unfold wpPlan; intro u3 hu3; (try simp only [pickL, List.map_cons, List.map_nil, List.getD_cons_succ, List.getD_cons_zero])
      have X4 := Lib.hid ((hu3.block _ (heap_lt X3.out)).trans X3.out)
      have P4 := Lib.hid (P3.out.ext hu3)
      have R4 := Lib.hid (R3.out.ext hu3)
      have E4 := Lib.hid (E3.out.trans hu3)
      clear hu3
      have x0 := (heap_cell X4.out 0).trans rfl
      have x1 := (heap_cell X4.out 1).trans rfl
      have x2 := (heap_cell X4.out 2).trans rfl
      have x3 := (heap_cell X4.out 3).trans rfl
      have x4 := (heap_cell X4.out 4).trans rfl
      have x5 := (heap_cell X4.out 5).trans rfl
      have xf := frozen_of X4.out
      have xl := heap_lt X4.out
      go_wp2
      refine ⟨?_, ?_⟩
      · intro h; exact absurd h (by decide)
      (try refine ⟨fun h => absurd h (by simp), ?_⟩); (repeat (unfold wpPlan; simp only [pickL, List.map_cons, List.map_nil, List.getD_cons_succ, List.getD_cons_zero]; (repeat go_big_quiet_step (fail)); refine wpQuiet_nil ?_)); unfold wpPlan; intro u4 hu4; (try simp only [pickL, List.map_cons, List.map_nil, List.getD_cons_succ, List.getD_cons_zero])
      have X5 : Hid (u4.heap[xb]? = some (.cells #[.slice (sa2 4) (D 4).length (sc2 4), .int .i64 r, .slice (sa2 3) (D 3).length (sc2 3), .int .i64 r, .slice (sa2 2) (D 2).length (sc2 2), .int .i64 r] 31 (0, 0))) := Lib.hid ((hu4.block _ (by simp only [World.size_setCell]; exact heap_lt X4.out)).trans (store6h X4.out))
      have R5 : Hid (RpAt u4 sa2 sc2 D) := Lib.hid ((R4.out.keepP X4.out).ext hu4)
      have E5 : Hid (Ext w u4) := Lib.hid ((ext6p E4.out hxw).trans hu4)
      have P5 : Hid (PscAt u4 pb cb F3 D r) := Lib.hid (by
        have ho := P4.out.out X4.out (by decide) (by decide)
        have hpb : pb ∉ [xb] := fun hm => by
          have := P4.out.head; rw [List.mem_singleton.1 hm, X4.out] at this; simp only [Option.some.injEq, Obj.cells.injEq] at this; exact absurd this.2.1 (by decide)
        refine (P4.out.keeps (G := [xb]) ?_ (fun x hx hm => ho (by rw [← List.mem_singleton.1 hm]; exact hx)) hpb).ext hu4
        exact Keeps.setCell (Keeps.setCell (Keeps.setCell (Keeps.setCell (Keeps.setCell (Keeps.setCell (Keeps.refl _ _) (.inl (by simp)) _) (.inl (by simp)) _) (.inl (by simp)) _) (.inl (by simp)) _) (.inl (by simp)) _) (.inl (by simp)) _)
      clear hu4 X3 X4 P3 P4 R3 R4 E3 E4 x0 x1 x2 x3 x4 x5 xf xl
      as_aux_lemma =>
        have HDp := Lib.hid (fun w1 h1 => deepest_c pb cb F3 D r d.p d.a w1 h1 HDA.out.1 HDA.out.2)
        have HDd := Lib.hid (fun w1 h1 => rDeep_c sa2 sc2 D r d.p d.a w1 h1 HDA.out.1 HDA.out.2)
        unfold EndDeep at HDp HDd
        generalize deepF D d.p d.a = dp at HDp HDd
        generalize dp.isSome = bs at HDp HDd
        generalize placeF dp = pf at HDp HDd
        obtain ⟨p1, p2, b0, b1, b2⟩ := pf
        dsimp only at HDp HDd
        have hgw4 : g < u4.heap.size := Nat.lt_of_lt_of_le hgl E5.out.size
        have d1 := HCL.out _ E5.out 1 _ rfl
        have d3 := HCL.out _ E5.out 3 _ rfl
        go_upto_region 10 with (fail)
        refine region_mixA 15 (.cells #[.int .i64 0, .int .u64 0, .bool false, .bool false, .bool false] 41 (0, 0)) [.q [0, 1, 2, 3, 4, 5, 6, 7, 8, 9, 10], .l 11 5, .q [12, 13], .b [14], .l 15 4, .l 16 2, .b [17]] (by kernel_rfl) (by kernel_rfl) (alloc_runA rfl (by kernel_rfl : _ = some (some (Value.agg (#[.int .i64 0, .int .u64 0, .bool false, .bool false, .bool false])))) rfl) ?_
        (repeat (unfold wpPlanA; simp only [pickL, List.map_cons, List.map_nil, List.getD_cons_succ, List.getD_cons_zero]; (repeat go_big_quiet_step (fail)); refine wpQuiet_nil ?_)); unfold wpPlanA; intro v1 hv1; (try simp only [pickL, List.map_cons, List.map_nil, List.getD_cons_succ, List.getD_cons_zero])
        go_wp2_with (first | (go_at_call 8; refine (HDp.out _ (P5.out.ext hv1)).mono ?_; rintro e v2 ⟨rfl, hv2⟩))
        have q1 := hv1.size
        have q2 := hv2.size
        refine ⟨⟨by omega, fun _ => hv2, fun h => absurd h (by omega)⟩, ?_⟩
        have K2 := Lib.hid (hv1.trans hv2)
        clear hv1 hv2 d1 d3
        (repeat (unfold wpPlanA; simp only [pickL, List.map_cons, List.map_nil, List.getD_cons_succ, List.getD_cons_zero]; (repeat go_big_quiet_step (fail)); refine wpQuiet_nil ?_)); unfold wpPlanA; intro zb v3 hv3 hv3B hv3O; simp only [List.getD_cons_succ, List.getD_cons_zero, ptrTo]; simp only [Act.put, Array.set!_eq_setIfInBounds, List.setIfInBounds_toArray, List.set_cons_succ, List.set_cons_zero]
        have K3 := Lib.hid (K2.out.trans hv3)
        have Z3 := Lib.hid hv3O
        have hzl := heap_lt hv3O
        have hzB := Lib.hid hv3B
        have q3 := hv3.size
        clear hv3 hv3O
        (repeat (unfold wpPlanA; simp only [pickL, List.map_cons, List.map_nil, List.getD_cons_succ, List.getD_cons_zero]; (repeat go_big_quiet_step (fail)); refine wpQuiet_nil ?_)); unfold wpPlanA; intro v4 hv4; (try simp only [pickL, List.map_cons, List.map_nil, List.getD_cons_succ, List.getD_cons_zero])
        have Z4 := Lib.hid ((hv4.block zb hzl).trans Z3.out)
        have K4 := Lib.hid (K3.out.trans hv4)
        have q4 := hv4.size
        have m0 := (heap_cell Z4.out 0).trans rfl
        have m1 := (heap_cell Z4.out 1).trans rfl
        have m2 := (heap_cell Z4.out 2).trans rfl
        have m3 := (heap_cell Z4.out 3).trans rfl
        have m4 := (heap_cell Z4.out 4).trans rfl
        have mf := frozen_of Z4.out
        have ml := heap_lt Z4.out
        clear hv4
        go_wp2
        refine ⟨⟨by simp; omega, fun h => absurd h (by omega), fun h => absurd h (by omega)⟩, ?_⟩
        clear m0 m1 m2 m3 m4 mf ml
        (repeat (unfold wpPlanA; simp only [pickL, List.map_cons, List.map_nil, List.getD_cons_succ, List.getD_cons_zero]; (repeat go_big_quiet_step (fail)); refine wpQuiet_nil ?_)); unfold wpPlanA; intro A hA; (try simp only [pickL, List.map_cons, List.map_nil, List.getD_cons_succ, List.getD_cons_zero])
        have hwz : w.heap.size ≤ zb := by have := E5.out.size; have := hzB.out; omega
        have hu4z := hzB.out
        have AZ := Lib.hid ((hA.block zb (by simp; exact heap_lt Z4.out)).trans (store5_heap Z4.out))
        have AK : Hid (Ext u4 A) := Lib.hid ((ext5 K4.out hu4z).trans hA)
        have AE := Lib.hid (E5.out.trans AK.out)
        have AX := Lib.hid ((AK.out.block _ (heap_lt X5.out)).trans X5.out)
        have AR := Lib.hid (R5.out.ext AK.out)
        have AP := Lib.hid (P5.out.ext AK.out)
        clear hA K2 K3 K4 Z3 Z4 X5 R5 P5 E5
        as_aux_lemma =>
          have hgwA : g < A.heap.size := Nat.lt_of_lt_of_le hgl AE.out.size
          have d1 := HCL.out _ AE.out 1 _ rfl
          have d3 := HCL.out _ AE.out 3 _ rfl
          have x0 := (heap_cell AX.out 0).trans rfl
          have x1 := (heap_cell AX.out 1).trans rfl
          have x2 := (heap_cell AX.out 2).trans rfl
          have x3 := (heap_cell AX.out 3).trans rfl
          have x4 := (heap_cell AX.out 4).trans rfl
          have x5 := (heap_cell AX.out 5).trans rfl
          have xl := heap_lt AX.out
          go_upto_region 11 with (fail)
          refine region_mixA 15 (.cells #[.int .i64 0, .int .u64 0, .bool false, .bool false, .bool false] 49 (0, 0)) [.q [0, 1, 2, 3, 4, 5, 6, 7, 8, 9, 10], .l 11 5, .q [12, 13], .b [14], .l 15 4, .l 16 2, .b [17]] (by kernel_rfl) (by kernel_rfl) (alloc_runA rfl (by kernel_rfl : _ = some (some (Value.agg (#[.int .i64 0, .int .u64 0, .bool false, .bool false, .bool false])))) rfl) ?_
          (repeat (unfold wpPlanA; simp only [pickL, List.map_cons, List.map_nil, List.getD_cons_succ, List.getD_cons_zero]; (repeat go_big_quiet_step (fail)); refine wpQuiet_nil ?_)); unfold wpPlanA; intro v1 hv1; (try simp only [pickL, List.map_cons, List.map_nil, List.getD_cons_succ, List.getD_cons_zero])
          go_wp2_with (first | (go_at_call 9; refine (HDd.out _ (AR.out.ext hv1)).mono ?_; rintro e v2 ⟨rfl, hv2⟩))
          have q1 := hv1.size
          have q2 := hv2.size
          refine ⟨⟨by omega, fun _ => hv2, fun h => absurd h (by omega)⟩, ?_⟩
          have K2 := Lib.hid (hv1.trans hv2)
          clear hv1 hv2 d1 d3 x0 x1 x2 x3 x4 x5 xl
          (repeat (unfold wpPlanA; simp only [pickL, List.map_cons, List.map_nil, List.getD_cons_succ, List.getD_cons_zero]; (repeat go_big_quiet_step (fail)); refine wpQuiet_nil ?_)); unfold wpPlanA; intro yb v3 hv3 hv3B hv3O; simp only [List.getD_cons_succ, List.getD_cons_zero, ptrTo]; simp only [Act.put, Array.set!_eq_setIfInBounds, List.setIfInBounds_toArray, List.set_cons_succ, List.set_cons_zero]
          have K3 := Lib.hid (K2.out.trans hv3)
          have Z3 := Lib.hid hv3O
          have hyl := heap_lt hv3O
          have hyB := Lib.hid hv3B
          have q3 := hv3.size
          clear hv3 hv3O
          (repeat (unfold wpPlanA; simp only [pickL, List.map_cons, List.map_nil, List.getD_cons_succ, List.getD_cons_zero]; (repeat go_big_quiet_step (fail)); refine wpQuiet_nil ?_)); unfold wpPlanA; intro v4 hv4; (try simp only [pickL, List.map_cons, List.map_nil, List.getD_cons_succ, List.getD_cons_zero])
          have Z4 := Lib.hid ((hv4.block yb hyl).trans Z3.out)
          have K4 := Lib.hid (K3.out.trans hv4)
          have q4 := hv4.size
          have m0 := (heap_cell Z4.out 0).trans rfl
          have m1 := (heap_cell Z4.out 1).trans rfl
          have m2 := (heap_cell Z4.out 2).trans rfl
          have m3 := (heap_cell Z4.out 3).trans rfl
          have m4 := (heap_cell Z4.out 4).trans rfl
          have mf := frozen_of Z4.out
          have ml := heap_lt Z4.out
          clear hv4
          go_wp2
          refine ⟨⟨by simp; omega, fun h => absurd h (by omega), fun h => absurd h (by omega)⟩, ?_⟩
          clear m0 m1 m2 m3 m4 mf ml
          (repeat (unfold wpPlanA; simp only [pickL, List.map_cons, List.map_nil, List.getD_cons_succ, List.getD_cons_zero]; (repeat go_big_quiet_step (fail)); refine wpQuiet_nil ?_)); unfold wpPlanA; intro B hB; (try simp only [pickL, List.map_cons, List.map_nil, List.getD_cons_succ, List.getD_cons_zero])
          have BY := Lib.hid ((hB.block yb (by simp; exact heap_lt Z4.out)).trans (store5_heap Z4.out))
          have BK : Hid (Ext A B) := Lib.hid ((ext5 K4.out hyB.out).trans hB)
          have BE := Lib.hid (AE.out.trans BK.out)
          have BX := Lib.hid ((BK.out.block _ (heap_lt AX.out)).trans AX.out)
          have BZ := Lib.hid ((BK.out.block _ (heap_lt AZ.out)).trans AZ.out)
          have BR := Lib.hid (AR.out.ext BK.out)
          have BP := Lib.hid (AP.out.ext BK.out)
          clear hB K2 K3 K4 Z3 Z4 AX AR AP AE AZ AK HDp HDd
          as_aux_lemma =>
            have HPl := Lib.hid (fun w1 => place11_c p1 p2 b0 b1 b2 w1)
            have HL4 := Lib.hid (fun w1 h1 => pscLen_c pb cb F3 D r 4 w1 h1 (by omega))
            have HL3 := Lib.hid (fun w1 h1 => pscLen_c pb cb F3 D r 3 w1 h1 (by omega))
            have HL2 := Lib.hid (fun w1 h1 => pscLen_c pb cb F3 D r 2 w1 h1 (by omega))
            have hself := plB8_self (p1, p2, b0, b1, b2)
            have hbs : (bs != bs) = false := by cases bs <;> rfl
            obtain ⟨n4, hn4⟩ : ∃ n4, (D 4).length = n4 := ⟨_, rfl⟩
            obtain ⟨n3, hn3⟩ : ∃ n3, (D 3).length = n3 := ⟨_, rfl⟩
            obtain ⟨n2, hn2⟩ : ∃ n2, (D 2).length = n2 := ⟨_, rfl⟩
            have hBX := BX.out
            rw [hn4, hn3, hn2] at hBX
            have BX2 := Lib.hid hBX
            rw [hn4] at HL4
            rw [hn3] at HL3
            rw [hn2] at HL2
            have e4 : ((n4 : Int) != (n4 : Int)) = false := by simp
            have e3 : ((n3 : Int) != (n3 : Int)) = false := by simp
            have e2 : ((n2 : Int) != (n2 : Int)) = false := by simp
            clear hn4 hn3 hn2 hBX
            have m0 := (heap_cell BZ.out 0).trans rfl
            have m1 := (heap_cell BZ.out 1).trans rfl
            have m2 := (heap_cell BZ.out 2).trans rfl
            have m3 := (heap_cell BZ.out 3).trans rfl
            have m4 := (heap_cell BZ.out 4).trans rfl
            have ml := heap_lt BZ.out
            have y0 := (heap_cell BY.out 0).trans rfl
            have y1 := (heap_cell BY.out 1).trans rfl
            have y2 := (heap_cell BY.out 2).trans rfl
            have y3 := (heap_cell BY.out 3).trans rfl
            have y4 := (heap_cell BY.out 4).trans rfl
            have yl := heap_lt BY.out
            have x0 := (heap_cell BX2.out 0).trans rfl
            have x1 := (heap_cell BX2.out 1).trans rfl
            have x2 := (heap_cell BX2.out 2).trans rfl
            have x3 := (heap_cell BX2.out 3).trans rfl
            have x4 := (heap_cell BX2.out 4).trans rfl
            have x5 := (heap_cell BX2.out 5).trans rfl
            have xl := heap_lt BX2.out
            go_upto_region 12 with (fail)
            refine region_mixG [.q [0, 2], .l 1 3, .q [3, 4, 5, 6, 7, 8, 9, 10, 12, 13, 14, 15, 16], .l 11 3, .q [17, 18, 19, 20, 22, 23, 24, 25, 26], .l 21 3, .q [27, 28, 29, 30, 32, 33, 34, 35, 36], .l 31 3, .q [37, 38]] (by kernel_rfl) (by kernel_rfl) ?_
            (try refine ⟨fun h => absurd h (by simp), ?_⟩); (repeat (unfold wpPlan; simp only [pickL, List.map_cons, List.map_nil, List.getD_cons_succ, List.getD_cons_zero]; (repeat go_big_quiet_step (fail)); refine wpQuiet_nil ?_)); unfold wpPlan; intro f1 hf1; (try simp only [pickL, List.map_cons, List.map_nil, List.getD_cons_succ, List.getD_cons_zero])
            go_wp2_with (first | (go_at_call 10; refine (HPl.out _).mono ?_; rintro e f2 ⟨rfl, hf2⟩))
            refine ⟨?_, ?_⟩
            · (try intro _); exact hf1.trans hf2
            have G2 := Lib.hid (hf1.trans hf2)
            clear hf1 hf2 m0 m1 m2 m3 m4 ml y0 y1 y2 y3 y4 yl x0 x1 x2 x3 x4 x5 xl
            have Xa := Lib.hid ((G2.out.block _ (heap_lt BX2.out)).trans BX2.out)
            have x0 := (heap_cell Xa.out 0).trans rfl
            have x1 := (heap_cell Xa.out 1).trans rfl
            have x2 := (heap_cell Xa.out 2).trans rfl
            have x3 := (heap_cell Xa.out 3).trans rfl
            have x4 := (heap_cell Xa.out 4).trans rfl
            have x5 := (heap_cell Xa.out 5).trans rfl
            have xl := heap_lt Xa.out
            (try refine ⟨fun h => absurd h (by simp), ?_⟩); (repeat (unfold wpPlan; simp only [pickL, List.map_cons, List.map_nil, List.getD_cons_succ, List.getD_cons_zero]; (repeat go_big_quiet_step (fail)); refine wpQuiet_nil ?_)); unfold wpPlan; intro fa hfa; (try simp only [pickL, List.map_cons, List.map_nil, List.getD_cons_succ, List.getD_cons_zero])
            go_wp2_with (first | (go_at_call 11; (with_reducible refine (HL4.out _ (BP.out.ext (G2.out.trans hfa))).mono ?_); clear HL4; rintro e ga ⟨rfl, hga⟩))
            refine ⟨?_, ?_⟩
            · (try intro _); exact hfa.trans hga
            have G3 := Lib.hid (G2.out.trans (hfa.trans hga))
            clear hfa hga x0 x1 x2 x3 x4 x5 xl
            have Xb := Lib.hid ((G3.out.block _ (heap_lt BX2.out)).trans BX2.out)
            have x0 := (heap_cell Xb.out 0).trans rfl
            have x1 := (heap_cell Xb.out 1).trans rfl
            have x2 := (heap_cell Xb.out 2).trans rfl
            have x3 := (heap_cell Xb.out 3).trans rfl
            have x4 := (heap_cell Xb.out 4).trans rfl
            have x5 := (heap_cell Xb.out 5).trans rfl
            have xl := heap_lt Xb.out
            (try refine ⟨fun h => absurd h (by simp), ?_⟩); (repeat (unfold wpPlan; simp only [pickL, List.map_cons, List.map_nil, List.getD_cons_succ, List.getD_cons_zero]; (repeat go_big_quiet_step (fail)); refine wpQuiet_nil ?_)); unfold wpPlan; intro fb hfb; (try simp only [pickL, List.map_cons, List.map_nil, List.getD_cons_succ, List.getD_cons_zero])
            go_wp2_with (first | (go_at_call 11; (with_reducible refine (HL3.out _ (BP.out.ext (G3.out.trans hfb))).mono ?_); clear HL3; rintro e gb ⟨rfl, hgb⟩))
            refine ⟨?_, ?_⟩
            · (try intro _); exact hfb.trans hgb
            have G4 := Lib.hid (G3.out.trans (hfb.trans hgb))
            clear hfb hgb x0 x1 x2 x3 x4 x5 xl
            have Xc := Lib.hid ((G4.out.block _ (heap_lt BX2.out)).trans BX2.out)
            have x0 := (heap_cell Xc.out 0).trans rfl
            have x1 := (heap_cell Xc.out 1).trans rfl
            have x2 := (heap_cell Xc.out 2).trans rfl
            have x3 := (heap_cell Xc.out 3).trans rfl
            have x4 := (heap_cell Xc.out 4).trans rfl
            have x5 := (heap_cell Xc.out 5).trans rfl
            have xl := heap_lt Xc.out
            (try refine ⟨fun h => absurd h (by simp), ?_⟩); (repeat (unfold wpPlan; simp only [pickL, List.map_cons, List.map_nil, List.getD_cons_succ, List.getD_cons_zero]; (repeat go_big_quiet_step (fail)); refine wpQuiet_nil ?_)); unfold wpPlan; intro fc hfc; (try simp only [pickL, List.map_cons, List.map_nil, List.getD_cons_succ, List.getD_cons_zero])
            go_wp2_with (first | (go_at_call 11; (with_reducible refine (HL2.out _ (BP.out.ext (G4.out.trans hfc))).mono ?_); clear HL2; rintro e gc ⟨rfl, hgc⟩))
            refine ⟨?_, ?_⟩
            · (try intro _); exact hfc.trans hgc
            have G5 := Lib.hid (G4.out.trans (hfc.trans hgc))
            clear hfc hgc x0 x1 x2 x3 x4 x5 xl
            (try refine ⟨fun h => absurd h (by simp), ?_⟩); (repeat (unfold wpPlan; simp only [pickL, List.map_cons, List.map_nil, List.getD_cons_succ, List.getD_cons_zero]; (repeat go_big_quiet_step (fail)); refine wpQuiet_nil ?_)); unfold wpPlan; intro fz hfz; (try simp only [pickL, List.map_cons, List.map_nil, List.getD_cons_succ, List.getD_cons_zero])
            have GZ := Lib.hid (G5.out.trans hfz)
            clear hfz
            go_wp2
            refine ⟨⟨i + 1, F3, D, sa2, sc2, by omega, by omega, by go_num, Lib.hid ⟨BP.out.ext GZ.out, (GZ.out.block _ (heap_lt BX.out)).trans BX.out, BR.out.ext GZ.out, F3'.out, BE.out.trans GZ.out⟩⟩, by simp [intOf]; omega⟩
    · have RP := Lib.hid hR.out.1
      have RE := Lib.hid hR.out.2.2.2.2
      have HL1 := Lib.hid (fun w1 => pscLenNo_c (some ⟨pb, 0, none⟩) 1 w1 (by omega))
      have HL5 := Lib.hid (fun w1 => pscLenNo_c (some ⟨pb, 0, none⟩) 5 w1 (by omega))
      have hg : (decide ((i : Int) < (ds.length : Int)) = false ∧ decide (i < ds.length) = false) ∨ (decide ((i : Int) < (ds.length : Int)) = true ∧ decide (i < ds.length) = true ∧ decide ((i : Int) < 80) = false ∧ decide (i < 80) = false) := by
        by_cases h : i < ds.length
        · exact .inr ⟨by simpa using h, by simpa using h, by simp; omega, by simp; omega⟩
        · exact .inl ⟨by simpa using h, by simpa using h⟩
      clear hlt hR
      rcases hg with ⟨hg, hgn⟩ | ⟨hg, hgn, hg2, hg2n⟩
      all_goals
        go_wp2_with (first | (go_at_call 11; (with_reducible refine (HL1.out _).mono ?_); rintro e w5 ⟨rfl, hb5⟩) | (go_at_call 11; (with_reducible refine (HL5.out _).mono ?_); rintro e w6 ⟨rfl, hb6⟩))
        (try go_ret)
        exact ⟨rfl, RE.out.trans (hb5.trans hb6)⟩
end Go.Proofs.Ytkfonacokamfiaa
/- From a law's statement to its walk, with the arguments' size: what a slice at the head of a struct may hold. -/
namespace Go.Proofs.Ytkfonacokamfiaa
open Go.RowKit Go.ChangeShapes Go.WideShapes Go.ChangeAt

section
variable {H : Type} {enc : TypeId × Value → H} {P : Program} {w : World}

theorem mapM_cons_some {α β : Type} {f : α → Option β} {a : α} {l : List α} {r : List β} (h : (a :: l).mapM f = some r) : ∃ b s, f a = some b ∧ r = b :: s := by
  simp only [List.mapM_cons] at h
  cases ha : f a with
  | none => simp [ha] at h
  | some b =>
    simp only [ha] at h
    cases hl : l.mapM f with
    | none => simp [hl] at h
    | some s => simp [hl] at h; exact ⟨b, s, rfl, h.symm⟩
theorem mapM_length {α β : Type} {f : α → Option β} : ∀ {l : List α} {r : List β}, l.mapM f = some r → r.length = l.length
  | [], r, h => by simp at h; subst h; rfl
  | a :: l, r, h => by
    simp only [List.mapM_cons] at h
    cases ha : f a with
    | none => simp [ha] at h
    | some b =>
      simp only [ha] at h
      cases hl : l.mapM f with
      | none => simp [hl] at h
      | some s =>
        simp [hl] at h
        subst h
        simp [mapM_length hl]
/-- A slice of data: its places' bytes are among its weights. -/
theorem trod_slice_reach {n : Nat} {t e : TypeId} {a : Option Addr} {len cap : Nat} {x : DataW H × List MemPlace} {R : Nat} (hu : P.underlying t = some (.slice e))
    (h : DataW.trod enc P w 0 (fun _ => true) true n t [.slice a len cap] = some x) (hR : (x.1.weights P t).all (· ≤ R) = true) : cap * P.bytesOf e ≤ R := by
  cases n with
  | zero => simp [DataW.trod] at h
  | succ n =>
    unfold DataW.trod at h
    rw [hu] at h
    cases a with
    | none =>
      match len, cap, h with
      | 0, 0, h => simp
      | 0, cap + 1, h => simp at h
      | len + 1, cap, h => simp at h
    | some a =>
      simp only at h
      split at h
      · rename_i hc
        obtain ⟨_, hlc, _⟩ := hc
        cases h6 : (List.range len).mapM fun i => (w.cells? 0 (a.add (i * P.cellsOf e)) (P.cellsOf e)).bind (DataW.trod enc P w 0 (fun _ => true) true n e) with
        | none => simp [h6] at h
        | some els =>
          simp only [h6, Option.bind_some, if_true] at h
          cases h7 : (List.range (cap - len)).mapM fun j => (w.cells? 0 (a.add ((len + j) * P.cellsOf e)) (P.cellsOf e)).bind (DataW.trod enc P w 0 (fun _ => true) true n e) with
          | none => simp [h7] at h
          | some sps =>
            simp only [h7, Option.map_some, Option.some.injEq] at h
            subst h
            have l1 := mapM_length h6
            have l2 := mapM_length h7
            simp only [List.length_range] at l1 l2
            simp only [DataW.weights, hu, List.all_cons, Bool.and_eq_true, decide_eq_true_eq, List.length_map] at hR
            have := hR.1
            rw [l1, l2, show len + (cap - len) = cap by omega] at this
            exact this
      · cases h
/-- A struct's first field. -/
theorem trod_head_reach {n : Nat} {t e : TypeId} {fs : Array Field} {f : Field} {r : List Field} {a : Option Addr} {len cap : Nat} {cs : List Value} {x : DataW H × List MemPlace} {R : Nat} (hu : P.underlying t = some (.struct fs)) (hf : fs.toList = f :: r)
    (h0 : f.offset = 0) (h1 : P.cellsOf f.type = 1) (hs : P.underlying f.type = some (.slice e))
    (h : DataW.trod enc P w 0 (fun _ => true) true n t (.slice a len cap :: cs) = some x) (hR : (x.1.weights P t).all (· ≤ R) = true) : cap * P.bytesOf e ≤ R := by
  cases n with
  | zero => simp [DataW.trod] at h
  | succ n =>
    unfold DataW.trod at h
    rw [hu] at h
    simp only at h
    split at h
    · cases h6 : fs.toList.mapM fun f => DataW.trod enc P w 0 (fun _ => true) true n f.type (((Value.slice a len cap :: cs).drop f.offset).take (P.cellsOf f.type)) with
      | none => simp [h6] at h
      | some els =>
        simp only [h6, Option.map_some, Option.some.injEq] at h
        subst h
        rw [hf] at h6
        obtain ⟨y, s, hy, rfl⟩ := mapM_cons_some h6
        simp only [h0, h1, List.drop_zero, List.take_succ_cons, List.take_zero] at hy
        refine trod_slice_reach hs hy ?_
        simp only [DataW.weights, hu, hf, List.map_cons, DataW.weightsEach, List.all_append, Bool.and_eq_true] at hR
        exact hR.1
    · cases h

/-- A law's row, from its walk, where the walk asks of the arguments' sizes. -/
theorem law_lift_sized {C : Checked} {os : Os} {n : FuncId} {f : Func} {s : ChangeSpec} {tb : TypeId} (S : List Value → Prop) (dscs : List Dsc)
    (own : ownKnob C.prog.godebug = none) (started : os.Started) (noInit : C.prog.inits.idxOf? n = none) (hfn : C.prog.funcs[n]? = some f)
    (witness : ∃ (w : World) (tape : Tape) (i : Input), w.os = os ∧ (w.forCall tape i).Shaped C.prog ∧ i.vars = [] ∧ Input.okWide C.prog (w.forCall tape i) .any w.heap.size n i ∧
      s.pre6 enc C.prog f [] false (w.forCall tape i).memory i.args ∧ Assume.holds ({} : Assume) C.prog (lone (Frame.enter C.prog n i.args .normal) [] (w.forCall tape i)))
    (hl : laidOutB C.prog = true) (hpar : okParams C.prog dscs f.params.toList = true) (hres : f.resultTypes = #[tb]) (htb : C.prog.underlying tb = some .bool) (hvars : s.vars = [])
    (hspec : ∀ ds : List (DataW H), ds.length = dscs.length → s.fn H ds = { results := [.lit (.bool true)], args := ds })
    (hS : ∀ (W : World) (args : List Value) (ds : List (DataW H)) (p : List MemPlace), DataW.TrodAll enc C.prog W 0 (fun _ => true) true f.params.toList args ds p → (DataW.weightsEach C.prog f.params.toList ds).all (· ≤ reachBytes) = true → S args)
    (walk : ∀ (W : World) (args : List Value), ArgsAre W dscs args → S args → Calls C.prog n args.toArray W fun e w' => e = .returned (.bool true) ∧ Ext W w') :
    ReturnsInHanded {} C os n .any (s.pre6 enc C.prog f [] false) (s.post enc C.prog f false true false false) := by
  refine returnsInHanded_of_change_sized own started noInit hfn witness ?_
  intro W base args ds gs before hval hW _ hsz _
  have hW0 := hW
  obtain ⟨p, q, hA, hV, _⟩ := hW
  rw [hvars] at hV
  obtain ⟨rfl, rfl⟩ := trodVars_none hV
  have ⟨h1, h2⟩ := args_are dscs _ _ _ _ hpar (fun j t v hj hv => hval j t v (by simpa using hj) (by simpa using hv)) hA
  have hv0 : s.plain.varTypes C.prog = [] := by simp [ChangeSpec.plain, hvars, DataSpec.varTypes]
  rw [hv0, List.append_nil, List.append_nil] at hsz
  have := walk W args.toList h1 (hS W _ _ _ hA hsz)
  simp only [Array.toArray_toList] at this
  exact this.mono fun e w' ⟨he, hb⟩ => ⟨_, he, law_post dscs hl hpar hres htb hvars hspec h2 hW0 hb⟩
end
end Go.Proofs.Ytkfonacokamfiaa
