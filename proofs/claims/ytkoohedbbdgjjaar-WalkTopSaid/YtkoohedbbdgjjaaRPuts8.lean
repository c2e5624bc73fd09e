/- Words that are written: their slots, the memory with them; addresses of few places. -/
import Derived.Test.YtkoohedbbdgjjaaRList
import Derived.Test.YtkoohedbbdgjjaaRMemD
import Derived.Test.YtkoohedbbdgjjaaRBitC
namespace Go.Proofs.YtkoohedbbdgjjaaR
set_option linter.unusedVariables false
set_option linter.unusedSimpArgs false
open Go.RowKit
attribute [local go_sem] wext_cell wext_frozen wext_heap alloc_cell alloc_frozen alloc_heap setCell_cell objCell_cells objFrozen_cells

structure PutD where
  s : Int
  f : Int
  g : Int
  m : Int
deriving Inhabited
def PutD.cells (d : PutD) : List Value := [.int .u16 d.s, .int .u16 d.f, .int .u8 d.g, .int .u64 d.m]
def PutD.ok (d : PutD) : Prop := (0 ≤ d.s ∧ d.s ≤ 65535) ∧ (0 ≤ d.f ∧ d.f ≤ 65535) ∧ (0 ≤ d.g ∧ d.g ≤ 255) ∧ (0 ≤ d.m ∧ d.m ≤ 18446744073709551615)
def atS (d : PutD) : Int := d.s / 8 % 16 * 4096 + 8 * (d.s % 8)
def atB (d : PutD) : Int := d.f % 16 * 4096 + d.g % 8 + (if 24 ≤ d.g % 32 then 128 else 0)
def atX (d : PutD) : Int := bits BinOp.xor IntKind.u64 (atB d) d.m
theorem atS_le {d : PutD} (h : d.ok) : 0 ≤ atS d ∧ atS d ≤ 61496 ∧ atS d % 8 = 0 := by
  obtain ⟨⟨a, b⟩, -⟩ := h; unfold atS; omega
theorem atB_le {d : PutD} (h : d.ok) : 0 ≤ atB d ∧ atB d ≤ 65535 := by
  obtain ⟨-, ⟨a, b⟩, ⟨c, e⟩, -⟩ := h; unfold atB; split <;> omega
theorem atX_le {d : PutD} (h : d.ok) : 0 ≤ atX d ∧ atX d ≤ 18446744073709551615 := by
  have hb := atB_le h
  obtain ⟨-, -, -, hm0, hm1⟩ := h
  unfold atX
  rw [u64_xor _ _ hb.1 (by omega) hm0 (by omega)]
  have : (atB d).toNat ^^^ d.m.toNat < 2 ^ 64 := Nat.xor_lt_two_pow (by omega) (by omega)
  omega
def builtM (ds : List PutD) : Int → Int := ds.foldl (fun M d => setIf 16 M (atS d) (atX d)) (fun _ => 0)
theorem builtM_take (ds : List PutD) (j : Nat) (h : j < ds.length) : builtM (ds.take (j + 1)) = setIf 16 (builtM (ds.take j)) (atS (ds.getD j default)) (atX (ds.getD j default)) := by
  have e : ds.take (j + 1) = ds.take j ++ [ds.getD j default] := by rw [List.take_add_one, List.getElem?_eq_getElem h]; simp [List.getD, h]
  rw [e, builtM, List.foldl_append]; rfl

theorem at8_c (d : PutD) (w : World) (h : d.ok) :
    Calls Try.prog 36 #[.agg #[.int .u16 d.s, .int .u16 d.f, .int .u8 d.g, .int .u64 d.m]] w fun e w' => e = .returned (.tuple #[.int .u64 (atS d), .int .u64 (atX d)]) ∧ Ext w w' := by
  obtain ⟨s, f, g, m⟩ := d
  have hB := atB_le h
  obtain ⟨⟨s0, s1⟩, ⟨f0, f1⟩, ⟨g0, g1⟩, m0, m1⟩ := h
  dsimp only at s0 s1
  have eq1 : IntKind.u64.wrap (IntKind.u16.wrap (s.tdiv 8)) = s / 8 := by rw [Int.tdiv_eq_ediv_of_nonneg s0, IntKind.wrap_u16, IntKind.wrap_u64]; omega
  have eq2 : (s / 8).tmod 16 = s / 8 % 16 := Int.tmod_eq_emod_of_nonneg (by omega)
  have eq3 : IntKind.u64.wrap (s / 8 % 16 * 4096) = s / 8 % 16 * 4096 := by rw [IntKind.wrap_u64]; omega
  have eq4 : IntKind.u64.wrap (s / 8 % 16 * 4096 + 8 * (s % 8)) = s / 8 % 16 * 4096 + 8 * (s % 8) := by rw [IntKind.wrap_u64]; omega
  unfold atX atS
  unfold atB at *
  dsimp only at *
  by_cases h24 : 24 ≤ g % 32
  · rw [if_pos h24] at *
    obtain ⟨hB0, hB1⟩ := hB
    go_enter Try.func36, Try.ntmps36
    go_upto_region 6 with (fail)
    refine region_ext (by kernel_rfl) (by kernel_rfl) ?_; (repeat (go_big_quiet_step (fail))); refine wpQuiet_nil ?_; intro w1 hb; have ⟨hc, hf, hh, hs⟩ := hb.facts; try simp only [World.size_alloc, World.size_setCell, World.size_drew] at hs
    go_wp2
    go_ret2
    exact ⟨rfl, (by repeat (first | exact Ext.refl _ | assumption | refine Ext.alloc ?_ _ | refine Ext.drew ?_ | refine Ext.setCell ?_ (by first | (simp; done) | (dsimp only; omega)) _ | refine Ext.trans ?_ (by assumption)))⟩
  · rw [if_neg h24] at *
    obtain ⟨hB0, hB1⟩ := hB
    go_enter Try.func36, Try.ntmps36
    go_upto_region 6 with (fail)
    refine region_ext (by kernel_rfl) (by kernel_rfl) ?_; (repeat (go_big_quiet_step (fail))); refine wpQuiet_nil ?_; intro w1 hb; have ⟨hc, hf, hh, hs⟩ := hb.facts; try simp only [World.size_alloc, World.size_setCell, World.size_drew] at hs
    go_wp2
    go_ret2
    exact ⟨by simp, (by repeat (first | exact Ext.refl _ | assumption | refine Ext.alloc ?_ _ | refine Ext.drew ?_ | refine Ext.setCell ?_ (by first | (simp; done) | (dsimp only; omega)) _ | refine Ext.trans ?_ (by assumption)))⟩
def nearI (n : Int) : Int := n % 8 * 549755813888 + n / 8 % 8 * 1073741824 + n / 64 % 8 * 2097152 + n / 512 % 8 * 4096 + n / 4096 % 4096
theorem nearI_le {n : Int} (h : 0 ≤ n) : 0 ≤ nearI n ∧ nearI n ≤ 4398046511103 := by unfold nearI; omega
theorem near_c (n : Int) (w : World) (h0 : 0 ≤ n) (h1 : n ≤ 4294967295) : Calls Try.prog 20 #[.int .u32 n] w fun e w' => e = .returned (.int .u64 (nearI n)) ∧ Ext w w' := by
  go_enter Try.func20, Try.ntmps20
  go_wp2
  go_ret
  exact ⟨rfl, (by repeat (first | exact Ext.refl _ | assumption | refine Ext.alloc ?_ _ | refine Ext.drew ?_ | refine Ext.setCell ?_ (by first | (simp; done) | (dsimp only; omega)) _ | refine Ext.trans ?_ (by assumption)))⟩
def putD : Dsc := .row [.int .u16, .int .u16, .int .u8, .int .u64]
theorem puts_of {W : World} {v : Value} (h : (Dsc.slice putD).Is W [v]) : ∃ ds, ListAt W v 4 PutD.cells PutD.ok ds :=
  list_of (d := putD) rfl (by decide) (fun _ => rfl) (fun cs hl hI => by
    match cs, hl with
    | [a, b, c, d], _ =>
      simp only [putD, Dsc.Is, Dsc.IsAll, Dsc.size, Dsc.sizes, List.take_succ_cons, List.take_zero, List.drop_succ_cons, List.drop_zero, List.cons.injEq, and_true] at hI
      obtain ⟨⟨n0, rfl, w0⟩, ⟨n1, rfl, w1⟩, ⟨n2, rfl, w2⟩, ⟨n3, rfl, w3⟩⟩ := hI
      exact ⟨⟨n0, n1, n2, n3⟩, ⟨bounds_u16 w0, bounds_u16 w1, bounds_u8 w2, bounds_u64 w3⟩, rfl⟩) h
end Go.Proofs.YtkoohedbbdgjjaaR
