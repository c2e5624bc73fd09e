/- FaultPages: a Page wraps the page fault's number, and says its words; two are the same just if both their fields are. -/
import Derived.Test.YtaobmiphnpkoiaaDoorFaultFound
import Derived.Test.YtaobmiphnpkoiaaDoorPageE
import Derived.Test.YtaobmiphnpkoiaaDoorItoa
namespace Go.Proofs.YtaobmiphnpkoiaaDoor
set_option linter.unusedVariables false
set_option linter.unusedSimpArgs false
open Go.RowKit
attribute [local go_sem] wext_cell wext_frozen wext_heap alloc_cell alloc_frozen alloc_heap setCell_cell objCell_cells objFrozen_cells

theorem unwrap_c (v : Value) (w : World) : Calls Tryd.prog 8 #[v] w fun e w' => e = .returned (.iface 33 (.int .i64 4)) ∧ Ext w w' := by
  go_enter Tryd.func8, Tryd.ntmps8
  go_wp2
  go_ret
  exact ⟨rfl, (by repeat (first | exact Ext.refl _ | assumption | refine Ext.alloc ?_ _ | refine Ext.drew ?_ | refine Ext.setCell ?_ (by first | (simp; done) | (dsimp only; omega)) _ | refine Ext.trans ?_ (by assumption)))⟩
theorem isErr_c (w : World) : Calls Tryd.prog 7 #[.iface 33 (.int .i64 4), .iface 33 (.int .i64 4)] w fun e w' => e = .returned (.bool true) ∧ Ext w w' :=
  (errIs_c 4 true (.no 4) _ w rfl rfl).mono fun e w' ⟨h, k⟩ => ⟨h, by rw [k]; exact Ext.refl _⟩

structure PgAt (W : World) (p : Nat) (a c : Int) : Prop where
  addr : W.cell? ⟨p, 0, none⟩ = some (.int .u64 a)
  code : W.cell? ⟨p, 1, none⟩ = some (.int .i64 c)
theorem PgAt.ext {W W' : World} {p : Nat} {a c : Int} (h : PgAt W p a c) (k : Ext W W') : PgAt W' p a c := ⟨k.someCell h.addr, k.someCell h.code⟩
theorem PgAt.alloc (W : World) (a c : Int) : PgAt (W.alloc (.cells #[.int .u64 a, .int .i64 c] 25)) W.heap.size a c := ⟨by simp [go_sem], by simp [go_sem]⟩
theorem pg_equal (a c b d : Int) (w : World) : (Op.equal 25 (.agg #[.int .u64 a, .int .i64 c]) (.agg #[.int .u64 b, .int .i64 d])).run Tryd.prog w = .ok (decide ((a, c) = (b, d))) w := by
  show (Op.equalIn 10000 _ _ _).run _ _ = _
  simp [go_sem]
  by_cases h1 : a = b <;> by_cases h2 : c = d <;> simp [*]
theorem pg_eql (a c b d : Int) (w : World) : (binOp .eql 25 (.agg #[.int .u64 a, .int .i64 c]) (.agg #[.int .u64 b, .int .i64 d])).run Tryd.prog w = .ok (.bool (decide ((a, c) = (b, d)))) w := by
  have := pg_equal a c b d w
  rw [run_eql_struct]
  show ((Op.equal _ _ _).run _ _).andThen _ = _
  rw [this]; rfl
theorem pg_same (a c : Int) (w : World) : (binOp .eql 25 (.agg #[.int .u64 a, .int .i64 c]) (.agg #[.int .u64 a, .int .i64 c])).run Tryd.prog w = .ok (.bool true) w := by
  rw [pg_eql]; simp
theorem pg_other (a b c : Int) (w : World) (h : ¬ a = b) : (binOp .eql 25 (.agg #[.int .u64 a, .int .i64 c]) (.agg #[.int .u64 b, .int .i64 c])).run Tryd.prog w = .ok (.bool false) w := by
  rw [pg_eql]; simp [h]

set_option maxRecDepth 100000 in
set_option maxHeartbeats 1600000 in
theorem faultPages_c (a b c : Nat) (w : World) (hg : Glob w) (hT : TzAt w) (hP : PowAt w) (ha : a < 18446744073709551616) (hc : c < 256) :
    Calls Tryd.prog 3 #[.int .u64 a, .int .u64 b, .int .u8 c] w fun e w' => e = .returned (.bool true) ∧ Ext w w' := by
  have HG := Lib.hid hg
  have HE := Lib.hid (fun (p : Nat) (w1 : World) (k : Ext w w1) (h : PgAt w1 p a c) => pageErr_c a c p w1 ha (hT.ext k) (fun w2 k2 => itoa_c c hc w2 (hP.ext (k.trans k2))) h.addr h.code)
  have HR := Lib.hid (fun (w1 : World) => page_c a c w1 ha hc)
  generalize pageS a c = S at HE HR
  clear hg hT hP ha
  go_enter Tryd.func3, Tryd.ntmps3
  go_upto_region 3 with (first | (go_at_call 4; refine (awake07_c _ HG.out).mono ?_; rintro e w1 ⟨rfl, hb1⟩))
  have E1 := Lib.hid (hb1.alloc (.cells #[.int .u64 a, .int .i64 c] 25))
  have P1 := Lib.hid (PgAt.alloc w1 a c)
  clear hb1
  obtain ⟨pb, hpb⟩ : ∃ pb, w1.heap.size = pb := ⟨_, rfl⟩
  rw [hpb] at P1 ⊢
  refine wp_gen ?_; intro U hU
  rw [← hU] at E1 P1
  clear hU hpb
  go_upto_region 4 with (first | (go_at_call 6; refine (atPg_c _ _ _).mono ?_; rintro e w2 ⟨t, x, rfl, hv2, hb2⟩; have HV2 := Lib.hid hv2; clear hv2) | (go_at_call 5; refine (ofPg_c a c _ _ HV2.out (HG.out.ext (E1.out.trans hb2))).mono ?_; rintro e w3 ⟨rfl, hb3⟩))
  have E2 := Lib.hid (((E1.out.trans hb2).trans hb3).alloc (.cells #[.int .u64 a, .int .i64 c] 25))
  have P2 := Lib.hid ((P1.out.ext (hb2.trans hb3)).ext ((Ext.refl w3).alloc (.cells #[.int .u64 a, .int .i64 c] 25)))
  have X2 := Lib.hid (PgAt.alloc w3 a c)
  clear E1 P1 hb2 hb3 HV2
  obtain ⟨xb, hxb⟩ : ∃ xb, w3.heap.size = xb := ⟨_, rfl⟩
  rw [hxb] at X2 ⊢
  refine wp_gen ?_; intro V hV
  rw [← hV] at E2 P2 X2
  clear hV hxb
  go_upto_region 5 with (first | (go_at_call 6; refine (atPg_c _ _ _).mono ?_; rintro e w4 ⟨t4, x4, rfl, hv4, hb4⟩; have HV4 := Lib.hid hv4; clear hv4) | (go_at_call 5; refine (ofPg_c b c _ _ HV4.out (HG.out.ext (E2.out.trans hb4))).mono ?_; rintro e w5 ⟨rfl, hb5⟩))
  have E3 := Lib.hid (((E2.out.trans hb4).trans hb5).alloc (.cells #[.int .u64 b, .int .i64 c] 25))
  have P3 := Lib.hid ((P2.out.ext (hb4.trans hb5)).ext ((Ext.refl w5).alloc (.cells #[.int .u64 b, .int .i64 c] 25)))
  have X3 := Lib.hid ((X2.out.ext (hb4.trans hb5)).ext ((Ext.refl w5).alloc (.cells #[.int .u64 b, .int .i64 c] 25)))
  have Y3 := Lib.hid (PgAt.alloc w5 b c)
  clear E2 P2 X2 hb4 hb5 HV4
  obtain ⟨yb, hyb⟩ : ∃ yb, w5.heap.size = yb := ⟨_, rfl⟩
  rw [hyb] at Y3 ⊢
  refine wp_gen ?_; intro X hX
  rw [← hX] at E3 P3 X3 Y3
  clear hX hyb
  have p0 := P3.out.addr
  have p1 := P3.out.code
  have x0 := X3.out.addr
  have x1 := X3.out.code
  have y0 := Y3.out.addr
  have y1 := Y3.out.code
  have e1 := pg_same a c
  by_cases hab : a = b
  · subst hab
    go_wp2_with (first | (go_at_call 8; refine (unwrap_c _ _).mono ?_; rintro e w6 ⟨rfl, hb6⟩) | (go_at_call 7; refine (isErr_c _).mono ?_; rintro e w7 ⟨rfl, hb7⟩) | (go_at_call 9; refine (HE.out _ _ (E3.out.trans (hb6.trans hb7)) (P3.out.ext (hb6.trans hb7))).mono ?_; rintro e w8 ⟨rfl, hb8⟩) | (go_at_call 10; refine (HR.out _).mono ?_; rintro e w9 ⟨rfl, hb9⟩))
    go_ret
    exact ⟨rfl, E3.out.trans ((hb6.trans hb7).trans (hb8.trans hb9))⟩
  · have hab2 : ¬ (a : Int) = b := by omega
    have e2 := fun w => pg_other a b c w hab2
    go_wp2_with (first | (go_at_call 8; refine (unwrap_c _ _).mono ?_; rintro e w6 ⟨rfl, hb6⟩) | (go_at_call 7; refine (isErr_c _).mono ?_; rintro e w7 ⟨rfl, hb7⟩) | (go_at_call 9; refine (HE.out _ _ (E3.out.trans (hb6.trans hb7)) (P3.out.ext (hb6.trans hb7))).mono ?_; rintro e w8 ⟨rfl, hb8⟩) | (go_at_call 10; refine (HR.out _).mono ?_; rintro e w9 ⟨rfl, hb9⟩))
    go_ret
    refine ⟨?_, E3.out.trans ((hb6.trans hb7).trans (hb8.trans hb9))⟩
    show Ending.returned (.bool (!((a : Int) == b))) = _
    rw [beq_eq_false_iff_ne.2 hab2]
    rfl
end Go.Proofs.YtaobmiphnpkoiaaDoor
