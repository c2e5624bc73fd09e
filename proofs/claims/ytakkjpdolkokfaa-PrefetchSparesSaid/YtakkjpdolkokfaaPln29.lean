/- Joined texts, part 29 of what the law stands on: each as its own head says. -/
import Derived.Test.YtakkjpdolkokfaaPln28
import Derived.Test.YtakkjpdolkokfaaPln4
import Derived.Test.YtakkjpdolkokfaaPln5
import Derived.Test.YtakkjpdolkokfaaPln27
import Derived.Test.YtakkjpdolkokfaaPln10
import Derived.Test.YtakkjpdolkokfaaPln8
/- Words that are written: their slots, the memory with them; addresses of few places. -/
namespace Go.Proofs.Ytakkjpdolkokfaa
set_option linter.unusedVariables false
set_option linter.unusedSimpArgs false
open Go.RowKit
attribute [local go_sem] wext_cell wext_frozen wext_heap alloc_cell alloc_frozen alloc_heap setCell_cell objCell_cells objFrozen_cells

structure PutD where
  s : Int
  f : Int
  g : Int
  m : Int
deriving Inhabited
def PutD.cells (d : PutD) : List Value := [.int .u16 d.s, .int .u16 d.f, .int .u8 d.g, .int .u64 d.m]
def PutD.ok (d : PutD) : Prop := (0 ≤ d.s ∧ d.s ≤ 65535) ∧ (0 ≤ d.f ∧ d.f ≤ 65535) ∧ (0 ≤ d.g ∧ d.g ≤ 255) ∧ (0 ≤ d.m ∧ d.m ≤ 18446744073709551615)
def atS (d : PutD) : Int := d.s / 8 % 16 * 4096 + 8 * (d.s % 8)
def atB (d : PutD) : Int := d.f % 16 * 4096 + d.g % 8 + (if 24 ≤ d.g % 32 then 128 else 0)
def atX (d : PutD) : Int := bits BinOp.xor IntKind.u64 (atB d) d.m
theorem atS_le {d : PutD} (h : d.ok) : 0 ≤ atS d ∧ atS d ≤ 61496 ∧ atS d % 8 = 0 := by
  obtain ⟨⟨a, b⟩, -⟩ := h; unfold atS; omega
theorem atB_le {d : PutD} (h : d.ok) : 0 ≤ atB d ∧ atB d ≤ 65535 := by
  obtain ⟨-, ⟨a, b⟩, ⟨c, e⟩, -⟩ := h; unfold atB; split <;> omega
theorem atX_le {d : PutD} (h : d.ok) : 0 ≤ atX d ∧ atX d ≤ 18446744073709551615 := by
  have hb := atB_le h
  obtain ⟨-, -, -, hm0, hm1⟩ := h
  unfold atX
  rw [u64_xor _ _ hb.1 (by omega) hm0 (by omega)]
  have : (atB d).toNat ^^^ d.m.toNat < 2 ^ 64 := Nat.xor_lt_two_pow (by omega) (by omega)
  omega
def builtM (ds : List PutD) : Int → Int := ds.foldl (fun M d => setIf 16 M (atS d) (atX d)) (fun _ => 0)
theorem builtM_take (ds : List PutD) (j : Nat) (h : j < ds.length) : builtM (ds.take (j + 1)) = setIf 16 (builtM (ds.take j)) (atS (ds.getD j default)) (atX (ds.getD j default)) := by
  have e : ds.take (j + 1) = ds.take j ++ [ds.getD j default] := by rw [List.take_add_one, List.getElem?_eq_getElem h]; simp [List.getD, h]
  rw [e, builtM, List.foldl_append]; rfl

theorem at8_c (d : PutD) (w : World) (h : d.ok) :
    Calls Try.prog 55 #[.agg #[.int .u16 d.s, .int .u16 d.f, .int .u8 d.g, .int .u64 d.m]] w fun e w' => e = .returned (.tuple #[.int .u64 (atS d), .int .u64 (atX d)]) ∧ Ext w w' := by
  obtain ⟨s, f, g, m⟩ := d
  have hB := atB_le h
  obtain ⟨⟨s0, s1⟩, ⟨f0, f1⟩, ⟨g0, g1⟩, m0, m1⟩ := h
  dsimp only at s0 s1
  have eq1 : IntKind.u64.wrap (IntKind.u16.wrap (s.tdiv 8)) = s / 8 := by rw [Int.tdiv_eq_ediv_of_nonneg s0, IntKind.wrap_u16, IntKind.wrap_u64]; omega
  have eq2 : (s / 8).tmod 16 = s / 8 % 16 := Int.tmod_eq_emod_of_nonneg (by omega)
  have eq3 : IntKind.u64.wrap (s / 8 % 16 * 4096) = s / 8 % 16 * 4096 := by rw [IntKind.wrap_u64]; omega
  have eq4 : IntKind.u64.wrap (s / 8 % 16 * 4096 + 8 * (s % 8)) = s / 8 % 16 * 4096 + 8 * (s % 8) := by rw [IntKind.wrap_u64]; omega
  unfold atX atS
  unfold atB at *
  dsimp only at *
  by_cases h24 : 24 ≤ g % 32
  · rw [if_pos h24] at *
    obtain ⟨hB0, hB1⟩ := hB
    go_enter Try.func55, Try.ntmps55
    go_upto_region 6 with (fail)
    refine region_ext (by kernel_rfl) (by kernel_rfl) ?_; (repeat (go_big_quiet_step (fail))); refine wpQuiet_nil ?_; intro w1 hb; have ⟨hc, hf, hh, hs⟩ := hb.facts; try simp only [World.size_alloc, World.size_setCell, World.size_drew] at hs
    go_wp2
    go_ret2
    exact ⟨rfl, (by repeat (first | exact Ext.refl _ | assumption | refine Ext.alloc ?_ _ | refine Ext.drew ?_ | refine Ext.setCell ?_ (by first | (simp; done) | (dsimp only; omega)) _ | refine Ext.trans ?_ (by assumption)))⟩
  · rw [if_neg h24] at *
    obtain ⟨hB0, hB1⟩ := hB
    go_enter Try.func55, Try.ntmps55
    go_upto_region 6 with (fail)
    refine region_ext (by kernel_rfl) (by kernel_rfl) ?_; (repeat (go_big_quiet_step (fail))); refine wpQuiet_nil ?_; intro w1 hb; have ⟨hc, hf, hh, hs⟩ := hb.facts; try simp only [World.size_alloc, World.size_setCell, World.size_drew] at hs
    go_wp2
    go_ret2
    exact ⟨by simp, (by repeat (first | exact Ext.refl _ | assumption | refine Ext.alloc ?_ _ | refine Ext.drew ?_ | refine Ext.setCell ?_ (by first | (simp; done) | (dsimp only; omega)) _ | refine Ext.trans ?_ (by assumption)))⟩
def nearI (n : Int) : Int := n % 8 * 549755813888 + n / 8 % 8 * 1073741824 + n / 64 % 8 * 2097152 + n / 512 % 8 * 4096 + n / 4096 % 4096
theorem nearI_le {n : Int} (h : 0 ≤ n) : 0 ≤ nearI n ∧ nearI n ≤ 4398046511103 := by unfold nearI; omega
theorem near_c (n : Int) (w : World) (h0 : 0 ≤ n) (h1 : n ≤ 4294967295) : Calls Try.prog 21 #[.int .u32 n] w fun e w' => e = .returned (.int .u64 (nearI n)) ∧ Ext w w' := by
  go_enter Try.func21, Try.ntmps21
  go_wp2
  go_ret
  exact ⟨rfl, (by repeat (first | exact Ext.refl _ | assumption | refine Ext.alloc ?_ _ | refine Ext.drew ?_ | refine Ext.setCell ?_ (by first | (simp; done) | (dsimp only; omega)) _ | refine Ext.trans ?_ (by assumption)))⟩
def putD : Dsc := .row [.int .u16, .int .u16, .int .u8, .int .u64]
theorem puts_of {W : World} {v : Value} (h : (Dsc.slice putD).Is W [v]) : ∃ ds, ListAt W v 4 PutD.cells PutD.ok ds :=
  list_of (d := putD) rfl (by decide) (fun _ => rfl) (fun cs hl hI => by
    match cs, hl with
    | [a, b, c, d], _ =>
      simp only [putD, Dsc.Is, Dsc.IsAll, Dsc.size, Dsc.sizes, List.take_succ_cons, List.take_zero, List.drop_succ_cons, List.drop_zero, List.cons.injEq, and_true] at hI
      obtain ⟨⟨n0, rfl, w0⟩, ⟨n1, rfl, w1⟩, ⟨n2, rfl, w2⟩, ⟨n3, rfl, w3⟩⟩ := hI
      exact ⟨⟨n0, n1, n2, n3⟩, ⟨bounds_u16 w0, bounds_u16 w1, bounds_u8 w2, bounds_u64 w3⟩, rfl⟩) h
end Go.Proofs.Ytakkjpdolkokfaa
/- Caches of tables behind walks to some addresses, plainly. -/
namespace Go.Proofs.Ytakkjpdolkokfaa
set_option linter.unusedVariables false
set_option linter.unusedSimpArgs false
open Go.RowKit
attribute [local go_sem] wext_cell wext_frozen wext_heap alloc_cell alloc_frozen alloc_heap setCell_cell objCell_cells objFrozen_cells

def LineOk (M : Int → Int) (l : Int) (y : Key × Line) : Prop := y.1.p = 1 ∧ y.1.l = l ∧ ∀ b, tagP b l = y.1.t → Leads M b l y.2.f y.2.rt
def InvC (M : Int → Int) (C : Int → Lines) : Prop := ∀ l, 2 ≤ l → l ≤ 4 → ∀ y ∈ C l, LineOk M l y
/-- Where a walk begins. -/
def startF (d : Option (Int × Line)) : Int × Int × Rt := match d with | some y => (y.1 - 1, y.2.f, y.2.rt) | none => (4, 0, allRt)
theorem line_ok {M : Int → Int} {a l t : Int} {rt : Rt} (h : Good M a l t rt) : LineOk M l (kP 1 l a, lineP t rt) := ⟨rfl, rfl, fun b hb => h b hb⟩
theorem deep_good {M : Int → Int} {C : Int → Lines} {a l : Int} {x : Line} (h : InvC M C) (hd : deepF C 1 a = some (l, x)) : 2 ≤ l ∧ l ≤ 4 ∧ Good M a l x.f x.rt := by
  obtain ⟨l0, l1, hm, -⟩ := deepF_some hd
  refine ⟨l0, l1, fun b hb => (h l l0 l1 _ hm).2.2 b hb⟩
theorem start_good {M : Int → Int} {C : Int → Lines} {a : Int} (h : InvC M C) : ∃ n : Nat, 1 ≤ n ∧ n ≤ 4 ∧ (startF (deepF C 1 a)).1 = n ∧ Good M a ((n : Int) + 1) (startF (deepF C 1 a)).2.1 (startF (deepF C 1 a)).2.2 := by
  cases hd : deepF C 1 a with
  | none => exact ⟨4, by omega, by omega, rfl, good_top M a⟩
  | some y =>
    obtain ⟨l, x⟩ := y
    obtain ⟨l0, l1, hg⟩ := deep_good h hd
    refine ⟨(l - 1).toNat, by omega, by omega, ?_, ?_⟩
    · show l - 1 = _; omega
    · have : (((l - 1).toNat : Nat) : Int) + 1 = l := by omega
      rw [this]; exact hg
def warmStep (M : Int → Int) (r : Nat) (C : Int → Lines) (i : Nat) (n : Int) : Int → Lines :=
  fillF 1 (nearI n) (pkF n i 0) r (walkF M 16 true (nearI n) (startF (deepF C 1 (nearI n))).1.toNat (startF (deepF C 1 (nearI n))).2.1 (startF (deepF C 1 (nearI n))).2.2).1 (startF (deepF C 1 (nearI n))).2.2 C
def warmP (M : Int → Int) (r : Nat) (ns : List Int) : Nat → Int → Lines
  | 0 => fun _ => []
  | i + 1 => warmStep M r (warmP M r ns i) i (ns.getD i 0)
theorem warm_all {M : Int → Int} (hM : ∀ s, 0 ≤ M s ∧ M s ≤ 18446744073709551615) {r : Nat} {ns : List Int} {k : Nat} {Q : Int → Key × Line → Prop} (hQ : ∀ l y, Q l y → LineOk M l y)
    (hN : ∀ i, i < k → ∀ l t rt, 2 ≤ l → l ≤ 4 → Good M (nearI (ns.getD i 0)) l t rt → Q l (kP 1 l (nearI (ns.getD i 0)), lineP t rt)) : ∀ i, i ≤ k → ∀ l, 2 ≤ l → l ≤ 4 → ∀ y ∈ warmP M r ns i l, Q l y
  | 0, _, l, _, _, y, hy => by cases hy
  | i + 1, hi, l, l0, l1, y, hy => by
    have ih := warm_all hM (r := r) hQ hN i (by omega)
    obtain ⟨n, n1, n4, hn, hg⟩ := start_good (a := nearI (ns.getD i 0)) (C := warmP M r ns i) (M := M) (fun l l0 l1 y hy => hQ l y (ih l l0 l1 y hy))
    refine fill_all hM (pk := pkF (ns.getD i 0) i 0) (r := r) (fun l t rt l0 l1 _ _ hgd => hN i (by omega) l t rt l0 l1 hgd) n _ _ _ n4 hg ih l l0 l1 y ?_
    have : n = (startF (deepF (warmP M r ns i) 1 (nearI (ns.getD i 0)))).1.toNat := by rw [hn]; simp
    rw [this]
    exact hy
theorem warm_inv {M : Int → Int} (hM : ∀ s, 0 ≤ M s ∧ M s ≤ 18446744073709551615) {r : Nat} {ns : List Int} (i : Nat) : InvC M (warmP M r ns i) :=
  warm_all hM (k := i) (Q := LineOk M) (fun _ _ h => h) (fun _ _ l t rt _ _ h => line_ok h) i (Nat.le_refl _)
theorem warm_from {M : Int → Int} (hM : ∀ s, 0 ≤ M s ∧ M s ≤ 18446744073709551615) {r : Nat} {ns : List Int} (i : Nat) : ∀ l, 2 ≤ l → l ≤ 4 → ∀ y ∈ warmP M r ns i l, LineOk M l y ∧ ∃ j, j < i ∧ y.1.t = tagP (nearI (ns.getD j 0)) l :=
  warm_all hM (k := i) (Q := fun l y => LineOk M l y ∧ ∃ j, j < i ∧ y.1.t = tagP (nearI (ns.getD j 0)) l) (fun _ _ h => h.1) (fun j hj l t rt _ _ h => ⟨line_ok h, j, hj, rfl⟩) i (Nat.le_refl _)
/-- Lines of one PCID are not found for another one. -/
theorem deep_other {M : Int → Int} {C : Int → Lines} {p a : Int} (h : InvC M C) (hp : p ≠ 1) : deepF C p a = none :=
  deepF_none.2 fun l l0 l1 => by
    cases hh : hasK (kP p l a) (C l) with
    | false => rfl
    | true =>
      have := (h l l0 l1 _ (getLine_mem hh)).1
      exact absurd this hp
/-- From where Deepest says, a walk ends as a whole one does. -/
theorem deep_walk {M : Int → Int} {C : Int → Lines} {a l : Int} {x : Line} (h : InvC M C) (hd : deepF C 1 a = some (l, x)) : 2 ≤ l ∧ l ≤ 4 ∧ 0 ≤ x.f ∧ x.f ≤ 18446744073709551615 ∧
    ∃ pre : List Stp, (pre.length : Int) = 5 - l ∧ walkF M 16 true a 4 0 allRt = (pre ++ (walkF M 16 true a (l - 1).toNat x.f x.rt).1, (walkF M 16 true a (l - 1).toNat x.f x.rt).2) := by
  obtain ⟨l0, l1, hg⟩ := deep_good h hd
  have := hg a rfl
  exact ⟨l0, l1, this.wide.1, this.wide.2, this.way⟩
end Go.Proofs.Ytakkjpdolkokfaa
/- The laws' helper: a memory with some words written. -/
namespace Go.Proofs.Ytakkjpdolkokfaa
set_option linter.unusedVariables false
set_option linter.unusedSimpArgs false
open Go.RowKit
attribute [local go_sem] wext_cell wext_frozen wext_heap alloc_cell alloc_frozen alloc_heap setCell_cell objCell_cells objFrozen_cells

def EndBuilt (ds : List PutD) (w : World) (e : Ending) (w' : World) : Prop :=
  ∃ mb F, e = .returned (.pointer (some ⟨mb, 0, none⟩)) ∧ MemAt w' mb F 16 (builtM (ds.take 100)) [] ∧ Ext w w' ∧ (∀ x ∈ F, w.heap.size ≤ x) ∧ w.heap.size ≤ mb
theorem MemAt.mem {w : World} {mb : Nat} {F : List Nat} {B : Int} {M : Int → Int} {T : List Int} (h : MemAt w mb F B M T) : mb ∈ F := by
  obtain ⟨pb, tv, es, clock, PL, p1, p2, p3, p4, p5, p6, p7, p8, p9, rfl, p10⟩ := h
  simp
end Go.Proofs.Ytakkjpdolkokfaa
/- The laws' helper: a memory with some words written. -/
namespace Go.Proofs.Ytakkjpdolkokfaa
set_option linter.unusedVariables false
set_option linter.unusedSimpArgs false
open Go.RowKit
attribute [local go_sem] wext_cell wext_frozen wext_heap alloc_cell alloc_frozen alloc_heap setCell_cell objCell_cells objFrozen_cells

set_option maxHeartbeats 2000000 in
set_option maxRecDepth 20000 in
theorem built11_c (v : Value) (ds : List PutD) (w : World) (h : ListAt w v 4 PutD.cells PutD.ok ds) :
    Calls Try.prog 29 #[v] w (EndBuilt ds w) := by
  have HD := Lib.hid h
  obtain ⟨a, cap, rfl, hn, hm, hok, -⟩ := h
  unfold maxLen at hm
  have HK := Lib.hid hok
  have HN := Lib.hid (fun w => memNew_c 16 w ⟨by omega, by omega⟩)
  generalize hEnd : EndBuilt ds w = E
  have HEND := Aside.mk hEnd
  clear hEnd hok
  go_enter Try.func29, Try.ntmps29
  go_upto_region 2 with (first | (go_at_call 54; refine (HN.out _).mono ?_; rintro e w1 ⟨mb, F, rfl, hC, hE, hF⟩))
  have HC := Lib.hid hC
  have HE := Lib.hid hE
  have HF := Lib.hid hF
  clear hC hE hF
  go_wp2
  go_loopw [4] (fun i wr => ∃ (j : Nat) (F' : List Nat), j ≤ ds.length ∧ j ≤ 100 ∧ i = .int .i64 j ∧ Hid (MemAt wr mb F' 16 (builtM (ds.take j)) [] ∧ (∀ x ∈ F', w.heap.size ≤ x) ∧ Ext w wr)) (fun i _ => ds.length - (intOf i).toNat)
  case atStart => exact ⟨0, F, by omega, by omega, rfl, Lib.hid ⟨HC.out, HF.out, HE.out⟩⟩
  case round =>
    obtain ⟨j, F', hj, hj2, rfl, hR⟩ := hrel
    by_cases hlt : j < ds.length
    · by_cases h120 : j < 100
      · obtain ⟨a', cap', he, -, -, -, hcl⟩ := HD.out
        obtain ⟨g, o, e1, e2, e3⟩ := hcl j hlt
        have he' : a = a' := by injection he
        have hstep := builtM_take ds j hlt
        have hdok := HK.out j hlt
        generalize ds.getD j default = d at e3 hstep hdok
        subst he'
        subst e1
        have hsw := hR.out.2.2.size
        have e3w : ∀ i u, d.cells[i]? = some u → wr.cell? ⟨g, o + j * 4 + i, none⟩ = some u := fun i u hu => hR.out.2.2.someCell (e3 i u hu)
        have d0 : wr.cell? ⟨g, o + j * 4, none⟩ = some (.int .u16 d.s) := e3w 0 _ rfl
        have d1 := e3w 1 _ rfl
        have d2 := e3w 2 _ rfl
        have d3 := e3w 3 _ rfl
        have hgr : g < wr.heap.size := by omega
        have HS := Aside.mk hstep
        have HAT := Lib.hid (fun w => at8_c d w hdok)
        have hs := atS_le hdok
        have hx := atX_le hdok
        have HST := Lib.hid (fun w' (k : Ext wr w') => store_c mb F' 16 (builtM (ds.take j)) [] (atS d) (atX d) w' (hR.out.1.ext k) (by omega) (by omega) hx.1 hx.2)
        clear he hcl e3 e3w hstep hs hx
        generalize atS d = s at *
        generalize atX d = x at *
        go_wp2_with (first | (go_at_call 55; refine (HAT.out _).mono ?_; rintro e w2 ⟨rfl, hb2⟩) | (go_at_call 56; refine (HST.out _ (by repeat (first | exact Ext.refl _ | assumption | refine Ext.alloc ?_ _ | refine Ext.drew ?_ | refine Ext.setCell ?_ (by first | (simp; done) | (dsimp only; omega)) _ | refine Ext.trans ?_ (by assumption)))).mono ?_; rintro e w3 ⟨rfl, F3, q1, q2, q3⟩))
        have hFw := hR.out.2.1
        refine ⟨⟨j + 1, F3, by omega, by omega, by go_num, Lib.hid ⟨?_, ?_, ?_⟩⟩, by simp [intOf]; omega⟩
        · rw [HS.out]; exact q1
        · intro y hy
          rcases q3 y hy with k | k
          · exact hFw y k
          · have := hb2.size; omega
        · exact Keeps.to_ext (hR.out.2.2.trans (by repeat (first | exact Ext.refl _ | assumption | refine Ext.alloc ?_ _ | refine Ext.drew ?_ | refine Ext.setCell ?_ (by first | (simp; done) | (dsimp only; omega)) _ | refine Ext.trans ?_ (by assumption)))) q2 hFw
      · obtain rfl : j = 100 := by omega
        go_wp2
        (try go_ret)
        rw [← HEND.out]
        exact ⟨mb, F', rfl, hR.out.1, hR.out.2.2, hR.out.2.1, hR.out.2.1 _ hR.out.1.mem⟩
    · obtain rfl : j = ds.length := by omega
      go_wp2
      (try go_ret)
      rw [← HEND.out]
      refine ⟨mb, F', rfl, ?_, hR.out.2.2, hR.out.2.1, hR.out.2.1 _ hR.out.1.mem⟩
      have := hR.out.1
      rw [List.take_of_length_le (Nat.le_refl _)] at this
      rw [List.take_of_length_le hj2]
      exact this
end Go.Proofs.Ytakkjpdolkokfaa
/- The walk laws' helpers: the example's memory; awake. -/
namespace Go.Proofs.Ytakkjpdolkokfaa
set_option linter.unusedVariables false
set_option linter.unusedSimpArgs false
open Go.RowKit
attribute [local go_sem] wext_cell wext_frozen wext_heap alloc_cell alloc_frozen alloc_heap setCell_cell objCell_cells objFrozen_cells

def tinyL : List PutD := [⟨0, 1, 7, 0⟩, ⟨8, 2, 7, 0⟩, ⟨16, 3, 7, 0⟩, ⟨24, 4, 7, 0⟩]
theorem tiny_at {W : World} {g : Nat} {e : TypeId} (h : W.heap[g]? = some (.cells #[.int .u16 0, .int .u16 1, .int .u8 7, .int .u64 0, .int .u16 8, .int .u16 2, .int .u8 7, .int .u64 0, .int .u16 16, .int .u16 3, .int .u8 7, .int .u64 0, .int .u16 24, .int .u16 4, .int .u8 7, .int .u64 0] e (0, 0))) :
    ListAt W (.slice (some ⟨g, 0, none⟩) 4 4) 4 PutD.cells PutD.ok tinyL := by
  refine ⟨some ⟨g, 0, none⟩, 4, rfl, by simp [tinyL], by simp [maxLen], fun i hi => ?_, fun i hi => ⟨g, 0, rfl, heap_lt h, fun j u hu => ?_⟩⟩
  · have : i = 0 ∨ i = 1 ∨ i = 2 ∨ i = 3 := by simp [tinyL] at hi; omega
    rcases this with rfl | rfl | rfl | rfl <;> (simp only [tinyL, List.getD_cons_zero, List.getD_cons_succ, PutD.ok]; omega)
  · have hj : j < 4 := by have := (List.getElem?_eq_some_iff.1 hu).1; simpa [PutD.cells] using this
    have hi' : i = 0 ∨ i = 1 ∨ i = 2 ∨ i = 3 := by simp [tinyL] at hi; omega
    have hj' : j = 0 ∨ j = 1 ∨ j = 2 ∨ j = 3 := by omega
    rw [heap_cell h]
    rcases hi' with rfl | rfl | rfl | rfl <;> rcases hj' with rfl | rfl | rfl | rfl <;> exact hu
theorem ex8_1 : walkF (fun _ => 0) 16 true 0 4 4096 allRt = ([((4 : Int), (4096 : Int), (0 : Int))], 1, noRt, 0, 0) := by decide +kernel
theorem ex8_2 : (walkF (builtM (tinyL.take 100)) 16 true 0 4 0 allRt).1.length = 4 ∧ (walkF (builtM (tinyL.take 100)) 16 true 0 4 0 allRt).2 = (0, allRt, 1, 16384) := by decide +kernel
end Go.Proofs.Ytakkjpdolkokfaa
/- Plans whose loud operations may be guarded. -/
namespace Go.Proofs.Ytakkjpdolkokfaa
open Go

def segG (l : List Oper) : Seg → Bool
  | .b is => calmB l is
  | .q is => calmB l is
  | .l i k => decide (i < l.length) && decide (2 ≤ k)
section
variable {P : Program} {l : List Oper} {Q : Exit → Act → World → Prop}
theorem mix_loudG {U : List (Nat × Nat)} {i k : Nat} {a : Act} {w : World} (hi : i < l.length) (hk : 2 ≤ k)
    (h : ∀ w1, Ext w w1 → wpList P l.toArray (Exit.then (fun a3 w3 => (k = 3 → Ext w w3) ∧ wpMix P l.toArray Q U a3 w3) (fun _ _ _ => False)) (pickL l [i]) a w1) : wpMix P l.toArray Q ((i, k) :: U) a w := by
  refine ⟨_, getD_some hi, fun hw => ⟨fun _ w1 hx => ?_, fun h2 => absurd h2 (by omega)⟩, fun hw => ?_⟩
  · have := h w1 hx
    simp only [pickL, List.map_cons, List.map_nil, wpList] at this
    rw [if_pos hw] at this
    rcases this with this | ⟨_, _, _, hf⟩
    · exact upon_mono (fun _ _ h' => h') (fun e _ _ h' => by cases e <;> first | exact h' | exact h'.elim) (upon_normal this)
    · exact hf.elim
  · have := h w (Ext.refl w)
    simp only [pickL, List.map_cons, List.map_nil, wpList] at this
    rw [if_neg (by rw [hw]; simp)] at this
    exact this.2
theorem plan_mixG : ∀ (t : List Seg) (a : Act) (w : World), t.all (segG l) = true → wpPlan P l Q t a w → wpMix P l.toArray Q (planOf t) a w
  | [], a, w, _, h => h
  | .b is :: t, a, w, hB, h => by
    simp only [List.all_cons, segG, Bool.and_eq_true] at hB
    exact mix_calm 0 (by omega) (C := fun _ => True) (fun _ _ => trivial) is a hB.1 (wpQuiet_post (fun a1 h1 => plan_mixG t a1 w hB.2 h1) _ _ h)
  | .q is :: t, a, w, hB, h => by
    simp only [List.all_cons, segG, Bool.and_eq_true] at hB
    exact mix_calm 1 (by omega) (C := fun w' => ∃ d, w' = wext w d) (fun w' h => grown_iff.2 (h.resolve_left (by omega))) is a hB.1 (wpQuiet_post (fun a1 h1 => plan_mixG t a1 w hB.2 h1) _ _ h)
  | .l i k :: t, a, w, hB, h => by
    simp only [List.all_cons, segG, Bool.and_eq_true, decide_eq_true_eq] at hB
    exact mix_loudG hB.1.1 hB.1.2 fun w1 hx => wpList_post (fun a3 w3 h3 => ⟨h3.1, plan_mixG t a3 w3 hB.2 h3.2⟩) _ _ _ (h w1 hx)
def planG (l : List Oper) (t : List Seg) : Bool :=
  let U := planOf t
  Region.noSelect l.toArray && t.all (segG l) && decide (U.length = l.length) && ((List.range l.length).all fun j => U.any fun x => x.1 == j) &&
    (U.all fun x => oneB1 l.toArray x) && pairB (relB l.toArray ((U.map (·.1)).foldl (closeStep l.toArray) [])) U
theorem region_mixG {id : Nat} {a : Act} {w : World} (t : List Seg) (hm : P.follows .mixedOrders = true) (hB : planG l t = true)
    (h : wpPlan P l Q t a w) : (Code.region id l.toArray true).wp P Q a w := by
  simp only [planG, Bool.and_eq_true, decide_eq_true_eq] at hB
  obtain ⟨⟨⟨⟨⟨h1, h2⟩, h4⟩, h5⟩, h6⟩, h7⟩ := hB
  refine wp_region_any hm ?_
  refine mix_any (n := l.toArray.size) h1 _ (planOf t) _ a w (by simpa using h4) (by simp) ?_ ?_ (pairB_ok h7) (fun x hx => List.all_eq_true.1 h6 x hx) (plan_mixG t a w h2 h) _ (Ext.drew (Ext.refl w))
  · intro j hj
    rw [getD_replicate_false] at hj; cases hj
  · intro j hj
    rw [getD_replicate_false]
    simp only [true_iff]
    have := List.all_eq_true.1 h5 j (List.mem_range.2 (by simpa using hj))
    obtain ⟨x, hx, hx2⟩ := List.any_eq_true.1 this
    exact ⟨x.2, by rw [beq_iff_eq] at hx2; rw [← hx2]; exact hx⟩
end
end Go.Proofs.Ytakkjpdolkokfaa
