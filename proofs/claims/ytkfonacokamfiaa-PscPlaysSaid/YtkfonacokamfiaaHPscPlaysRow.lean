/- PscPlays: whatever is filled, dropped, and evicted: where any walk goes on, and how many there are of each level: for all rooms and deeds. -/
import Derived.Test.YtkfonacokamfiaaPly34
import Derived.Test.YtkfonacokamfiaaPly35
import Derived.Test.YtkfonacokamfiaaPly31
namespace Go.Proofs.Ytkfonacokamfiaa
set_option linter.unusedVariables false
set_option linter.unusedSimpArgs false
open Go.RowKit
attribute [local go_sem] wext_cell wext_frozen wext_heap alloc_cell alloc_frozen alloc_heap setCell_cell objCell_cells objFrozen_cells
open Go.Proofs Go.RowKit Go.ChangeShapes Go.WideShapes Go.ChangeAt

def stepD : Dsc := .row [.int .i64, .int .u64, .int .u64]
def pathD : Dsc := .row [.slice stepD, .int .i64, .row [.bool, .bool, .bool], .int .i64, .int .u64]
def deedD : Dsc := .row [.int .i64, .int .i64, .int .i64, .int .u64, pathD, .row [.int .i64, .int .u64, .row [.bool, .bool, .bool]], .row [.int .i64, .int .i64, .int .i64]]
def stpCells (s : Stp) : List Value := [.int .i64 s.1, .int .u64 s.2.1, .int .u64 s.2.2]
def stpOk (s : Stp) : Prop := 0 ≤ s.2.2 ∧ s.2.2 ≤ 18446744073709551615
theorem steps_of {W : World} {v : Value} (h : (Dsc.slice stepD).Is W [v]) : ∃ ds, ListAt W v 3 stpCells stpOk ds :=
  list_of (d := stepD) rfl (by decide) (fun _ => rfl) (fun cs hl hI => by
    match cs, hl with
    | [a, b, c], _ =>
      simp only [stepD, Dsc.Is, Dsc.IsAll, Dsc.size, Dsc.sizes, List.take_succ_cons, List.take_zero, List.drop_succ_cons, List.drop_zero, List.cons.injEq, and_true] at hI
      obtain ⟨⟨n0, rfl, w0⟩, ⟨n1, rfl, w1⟩, ⟨n2, rfl, w2⟩⟩ := hI
      exact ⟨(n0, n1, n2), bounds_u64 w2, rfl⟩) h
theorem StepsAt.list {W : World} {a : Option Addr} {n cap : Nat} {L : List Stp} (h : ListAt W (.slice a n cap) 3 stpCells stpOk L) : n = L.length ∧ StepsAt W a L ∧ L.length ≤ cap ∧ ∀ i, i < L.length → 0 ≤ (stpAt L i).2.2 ∧ (stpAt L i).2.2 ≤ 18446744073709551615 := by
  obtain ⟨a', cap', h1, h2, h3, h4, h5⟩ := h
  injection h1 with e1 e2 e3
  subst e1 e2 e3
  have e : ∀ i, i < L.length → L.getD i default = stpAt L i := fun i hi => by simp [stpAt, List.getD, hi]
  refine ⟨rfl, fun i hi => ?_, h2, fun i hi => by have := h4 i hi; rw [e i hi] at this; exact this⟩
  obtain ⟨g, o, k1, k2, k3⟩ := h5 i hi
  rw [e i hi] at k3
  exact ⟨g, o, k1, k2, by have := k3 0 _ rfl; simpa using this, k3 1 _ rfl, k3 2 _ rfl⟩
def okD (W : World) (d : PDeed) : Prop := (0 ≤ d.a ∧ d.a ≤ 18446744073709551615) ∧ (-9223372036854775808 ≤ d.k4 ∧ d.k4 ≤ 9223372036854775807) ∧ (-9223372036854775808 ≤ d.k3 ∧ d.k3 ≤ 9223372036854775807) ∧ (-9223372036854775808 ≤ d.k2 ∧ d.k2 ≤ 9223372036854775807) ∧
  StepsAt W d.wa d.L ∧ d.L.length ≤ d.wc ∧ ∀ i, i < d.L.length → 0 ≤ (stpAt d.L i).2.2 ∧ (stpAt d.L i).2.2 ≤ 18446744073709551615
theorem len19 {α : Type} {l : List α} (h : l.length = 19) : ∃ a b c d e f g i j k m n o p q r s t u, l = [a, b, c, d, e, f, g, i, j, k, m, n, o, p, q, r, s, t, u] := by
  match l, h with
  | [a, b, c, d, e, f, g, i, j, k, m, n, o, p, q, r, s, t, u], _ => exact ⟨a, b, c, d, e, f, g, i, j, k, m, n, o, p, q, r, s, t, u, rfl⟩
theorem deeds_of {W : World} {v : Value} (h : (Dsc.slice deedD).Is W [v]) : ∃ ds, ListAt W v 19 (fun d : PDeed => d.cells.toList) (okD W) ds :=
  list_of (d := deedD) rfl (by decide) (fun _ => rfl) (fun cs hl hI => by
    obtain ⟨a, b, c, d, e, f, g, i, j, k, m, n, o, p, q, r, s, t, u, rfl⟩ := len19 hl
    simp only [deedD, pathD, Dsc.Is, Dsc.IsAll, Dsc.size, Dsc.sizes, List.take_succ_cons, List.take_zero, List.drop_succ_cons, List.drop_zero, List.cons.injEq, and_true] at hI
    obtain ⟨⟨n0, rfl, w0⟩, ⟨n1, rfl, w1⟩, ⟨n2, rfl, w2⟩, ⟨n3, rfl, w3⟩, ⟨hs, ⟨n4, rfl, w4⟩, ⟨⟨b0, rfl⟩, ⟨b1, rfl⟩, ⟨b2, rfl⟩⟩, ⟨n5, rfl, w5⟩, ⟨n6, rfl, w6⟩⟩, ⟨⟨n7, rfl, w7⟩, ⟨n8, rfl, w8⟩, ⟨⟨b3, rfl⟩, ⟨b4, rfl⟩, ⟨b5, rfl⟩⟩⟩, ⟨⟨n9, rfl, w9⟩, ⟨n10, rfl, w10⟩, ⟨n11, rfl, w11⟩⟩⟩ := hI
    obtain ⟨L, hL⟩ := steps_of (by simpa only [Dsc.Is, List.cons.injEq, and_true] using hs)
    have hL0 := hL
    obtain ⟨a', cap', h1, -, -, -, -⟩ := hL0
    subst h1
    obtain ⟨-, k1, k2, k3⟩ := StepsAt.list hL
    exact ⟨⟨n0, n1, n2, n3, L, a', cap', n4, b0, b1, b2, n5, n6, n7, n8, b3, b4, b5, n9, n10, n11⟩, ⟨bounds_u64 w3, bounds_i64 w9, bounds_i64 w10, bounds_i64 w11, k1, k2, k3⟩, rfl⟩) h
def playsSize (W : World) (args : List Value) : Prop := ∀ g o len cap i b bl bc, args[1]? = some (.slice (some ⟨g, o, none⟩) len cap) → i < len → W.cell? ⟨g, o + i * 19 + 4, none⟩ = some (.slice b bl bc) → bc * 24 ≤ reachBytes
theorem pscPlays_walk (W : World) (args : List Value) (h : ArgsAre W [.int .i64, .slice deedD] args) (hz : playsSize W args) :
    Calls Try.prog 3 args.toArray W fun e w' => e = .returned (.bool true) ∧ Ext W w' := by
  obtain ⟨_, _, rfl, ⟨room, h2, hr⟩, v, _, rfl, hv, rfl⟩ := h
  simp only [List.cons.injEq, and_true] at h2
  subst h2
  have ⟨i0, i1⟩ := bounds_i64 hr
  obtain ⟨ds, hds⟩ := deeds_of hv
  obtain ⟨a, cap, rfl, g1, g2, g3, g4⟩ := hds
  refine pscPlays_c room _ ds W i0 i1 ⟨a, cap, rfl, g1, g2, fun _ _ => trivial, g4⟩ fun i hi => ?_
  obtain ⟨k1, k2, k3, k4, k5, k6, k7⟩ := g3 i hi
  obtain ⟨g, o, rfl, -, hc⟩ := g4 i hi
  have hsz := hz g o _ _ i _ _ _ rfl hi (hc 4 _ rfl)
  refine ⟨⟨k1, k2, k3, k4, ?_, k7⟩, k5⟩
  have : (dAtP ds i).L.length ≤ (dAtP ds i).wc := k6
  have h24 : (dAtP ds i).wc * 24 ≤ reachBytes := hsz
  unfold reachBytes at h24
  show (dAtP ds i).L.length ≤ _
  omega
theorem pscPlays_size {H : Type} {enc : TypeId × Value → H} (W : World) (args : List Value) (ds : List (DataW H)) (p : List MemPlace)
    (hA : DataW.TrodAll enc Try.prog W 0 (fun _ => true) true Try.f3.params.toList args ds p) (hR : (DataW.weightsEach Try.prog Try.f3.params.toList ds).all (· ≤ reachBytes) = true) : playsSize W args := by
  have hp : Try.f3.params.toList = [3, 22] := rfl
  rw [hp] at hA hR
  obtain ⟨v0, r0, d0, ds0, p0, q0, rfl, rfl, rfl, -, hA⟩ := trodAll_cons hA
  obtain ⟨v1, r1, d1, ds1, p1, q1, rfl, rfl, rfl, ⟨n1, h1⟩, hA⟩ := trodAll_cons hA
  simp only [DataW.weightsEach, List.all_append, Bool.and_eq_true] at hR
  obtain ⟨-, hR1, -⟩ := hR
  intro g o len cap i b bl bc hv hi hc
  simp only [List.getElem?_cons_succ, List.getElem?_cons_zero, Option.some.injEq] at hv
  subst hv
  have hD : Try.prog.cellsOf 44 = 19 := by kernel_rfl
  have hP : Try.prog.cellsOf 39 = 7 := by kernel_rfl
  have hb : Try.prog.bytesOf 105 = 24 := by kernel_rfl
  have hc1 : Try.prog.cellsOf 35 = 1 := by kernel_rfl
  obtain ⟨m, vs, y, hvs, hy, hyR⟩ := trod_elem (R := reachBytes) Try.underlying22 (by simpa [Value.cells] using h1) hi hR1
  rw [hD] at hvs
  have h4 := cells?_get hvs (i := 4) (by omega)
  have e4 : W.cell? ((⟨g, o, none⟩ : Addr).add (i * 19) |>.add 4) = some (.slice b bl bc) := by rw [Addr.add_mid, Addr.add_mid]; exact hc
  rw [e4] at h4
  obtain ⟨m2, z, hz, hzR⟩ := trod_field (j := 4) (R := reachBytes) Try.underlying44 rfl hy hyR
  have hz' : DataW.trod enc Try.prog W 0 (fun _ => true) true m2 39 ((vs.drop 4).take 7) = some z := by rw [← hP]; exact hz
  have hcons : ∃ cs, (vs.drop 4).take 7 = .slice b bl bc :: cs := by
    have hlt : 4 < vs.length := (List.getElem?_eq_some_iff.1 h4).1
    rw [List.drop_eq_getElem_cons hlt]
    have : vs[4] = .slice b bl bc := (List.getElem?_eq_some_iff.1 h4).2
    rw [this]
    exact ⟨_, rfl⟩
  obtain ⟨cs, hcs⟩ := hcons
  rw [hcs] at hz'
  rw [← hb]
  exact trod_head_reach (n := m2) (t := 39) (x := z) Try.underlying39 (List.toArray_eq_iff.1 rfl) (Eq.refl 0) hc1 Try.underlying35 hz' hzR

theorem pscPlaysDscs : okParams Try.prog [.int .i64, .slice deedD] Try.f3.params.toList = true := by kernel_rfl
set_option maxRecDepth 100000 in
theorem pscPlays_lifted (os : Os) (started : os.Started) (H : Type) (enc : TypeId × Value → H) :
    ReturnsInHanded {} Try.checked os 3 .any (Rows.pscPlaysSpec.pre6 enc Try.prog Try.f3 Rows.pscPlaysRow.domain false) (Rows.pscPlaysSpec.post enc Try.prog Try.f3 false true false false) :=
  law_lift_sizedW (C := Try.checked) (playsSize) [.int .i64, .slice deedD] (by kernel_rfl) started (by kernel_rfl) Try.func3
    (ChangeSpec.witness6 (enc := enc) (C := Try.checked) false ⟨#[], #[.int .i64 0, .slice none 0 0], []⟩ 8 (by kernel_rfl) (by kernel_rfl) (by kernel_rfl) (by kernel_rfl))
    (by kernel_rfl) pscPlaysDscs rfl Try.underlying4 rfl (fun ds h => by
      first
        | (obtain ⟨a, rfl⟩ := len1 h; rfl)
        | (obtain ⟨a, b, rfl⟩ := len2 h; rfl)
        | (obtain ⟨a, b, c, rfl⟩ := len3 h; rfl)
        | (obtain ⟨a, b, c, d, rfl⟩ := len4 h; rfl)) (fun W args ds p => pscPlays_size W args ds p) pscPlays_walk
theorem pscPlays_holds : Rows.PscPlaysSaid :=
  OpenClaim.holds_of_wide 3 Try.f3 rfl rfl rfl rfl rfl rfl rfl ⟨rfl, rfl, rfl, rfl, rfl⟩ rfl rfl rfl rfl rfl (by kernel_rfl) Try.func3 (by kernel_rfl)
    (of_decide_eq_true (by kernel_rfl)) (by unfold Func.isWrapper; first | (rw [if_pos (by decide +kernel)]; kernel_rfl) | (rw [if_neg (by decide +kernel)]; exact ⟨rfl, rfl⟩))
    (fun os started H enc _ => pscPlays_lifted os started H enc)
#print axioms pscPlays_holds
end Go.Proofs.Ytkfonacokamfiaa
