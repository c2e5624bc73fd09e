/- WalkTop: where a walk begins, any root's; whether any two paths are the same. -/
import Derived.Test.YtkoohedbbdgjjaaRWalkTop
namespace Go.Proofs.YtkoohedbbdgjjaaR
set_option linter.unusedVariables false
set_option linter.unusedSimpArgs false
open Go.RowKit
attribute [local go_sem] wext_cell wext_frozen wext_heap alloc_cell alloc_frozen alloc_heap setCell_cell objCell_cells objFrozen_cells
open Go.Proofs Go.RowKit Go.ChangeShapes Go.WideShapes Go.ChangeAt

def stepD : Dsc := .row [.int .i64, .int .u64, .int .u64]
def pathD : Dsc := .row [.slice stepD, .int .i64, .row [.bool, .bool, .bool], .int .i64, .int .u64]
def stpCells (s : Stp) : List Value := [.int .i64 s.1, .int .u64 s.2.1, .int .u64 s.2.2]
def stpOk (s : Stp) : Prop := 0 ≤ s.2.2 ∧ s.2.2 ≤ 18446744073709551615
theorem steps_of {W : World} {v : Value} (h : (Dsc.slice stepD).Is W [v]) : ∃ ds, ListAt W v 3 stpCells stpOk ds :=
  list_of (d := stepD) rfl (by decide) (fun _ => rfl) (fun cs hl hI => by
    match cs, hl with
    | [a, b, c], _ =>
      simp only [stepD, Dsc.Is, Dsc.IsAll, Dsc.size, Dsc.sizes, List.take_succ_cons, List.take_zero, List.drop_succ_cons, List.drop_zero, List.cons.injEq, and_true] at hI
      obtain ⟨⟨n0, rfl, w0⟩, ⟨n1, rfl, w1⟩, ⟨n2, rfl, w2⟩⟩ := hI
      exact ⟨(n0, n1, n2), bounds_u64 w2, rfl⟩) h
theorem StepsAt.list {W : World} {a : Option Addr} {n cap : Nat} {L : List Stp} (h : ListAt W (.slice a n cap) 3 stpCells stpOk L) : n = L.length ∧ StepsAt W a L ∧ L.length ≤ cap ∧ ∀ i, i < L.length → 0 ≤ (stpAt L i).2.2 ∧ (stpAt L i).2.2 ≤ 18446744073709551615 := by
  obtain ⟨a', cap', h1, h2, h3, h4, h5⟩ := h
  injection h1 with e1 e2 e3
  subst e1 e2 e3
  have e : ∀ i, i < L.length → L.getD i default = stpAt L i := fun i hi => by simp [stpAt, List.getD, hi]
  refine ⟨rfl, fun i hi => ?_, h2, fun i hi => by have := h4 i hi; rw [e i hi] at this; exact this⟩
  obtain ⟨g, o, k1, k2, k3⟩ := h5 i hi
  rw [e i hi] at k3
  exact ⟨g, o, k1, k2, by have := k3 0 _ rfl; simpa using this, k3 1 _ rfl, k3 2 _ rfl⟩
def walkTopSize (args : List Value) : Prop := ∀ j v a len cap cs, j = 1 ∨ j = 2 → args[j]? = some v → v = .agg (Value.slice a len cap :: cs).toArray → cap * 24 ≤ reachBytes
theorem path_of {W : World} {v : Value} (h : ArgIs W pathD v) (hz : ∀ a len cap cs, v = .agg (Value.slice a len cap :: cs).toArray → cap * 24 ≤ reachBytes) : ∃ (L : List Stp) (sa : Option Addr) (sc : Nat) (w : Int) (a b c : Bool) (l f : Int), v = .agg #[.slice sa L.length sc, .int .i64 w, .bool a, .bool b, .bool c, .int .i64 l, .int .u64 f] ∧
    StepsAt W sa L ∧ L.length ≤ 5864062014634 ∧ ∀ i, i < L.length → 0 ≤ (stpAt L i).2.2 ∧ (stpAt L i).2.2 ≤ 18446744073709551615 := by
  obtain ⟨cs, rfl, hl, hI⟩ := h
  simp [Dsc.sizes, Dsc.size] at hl
  match cs, hl with
  | [s, w, a, b, c, l, f], _ =>
    simp only [Dsc.Is, Dsc.IsAll, Dsc.size, Dsc.sizes, List.take_succ_cons, List.take_zero, List.drop_succ_cons, List.drop_zero, List.cons.injEq, and_true] at hI
    obtain ⟨hs, ⟨n0, rfl, -⟩, ⟨⟨b0, rfl⟩, ⟨b1, rfl⟩, ⟨b2, rfl⟩⟩, ⟨n1, rfl, -⟩, ⟨n2, rfl, -⟩⟩ := hI
    obtain ⟨L, hL⟩ := steps_of (by simpa only [Dsc.Is, List.cons.injEq, and_true] using hs)
    have hL0 := hL
    obtain ⟨a', cap', h1, -, -, -, -⟩ := hL0
    subst h1
    obtain ⟨-, k1, k2, k3⟩ := StepsAt.list hL
    have := hz _ _ _ _ rfl
    exact ⟨L, a', cap', n0, b0, b1, b2, n1, n2, rfl, k1, by unfold reachBytes at this; omega, k3⟩
theorem walkTop_walk (W : World) (args : List Value) (h : ArgsAre W [.int .u64, pathD, pathD] args) (hz : walkTopSize args) :
    Calls Try.prog 6 args.toArray W fun e w' => e = .returned (.bool true) ∧ Ext W w' := by
  obtain ⟨_, _, rfl, ⟨root, h2, hr⟩, v1, _, rfl, hv1, v2, _, rfl, hv2, rfl⟩ := h
  simp only [List.cons.injEq, and_true] at h2
  subst h2
  have ⟨i0, i1⟩ := bounds_u64 hr
  obtain ⟨L1, sa1, sc1, w1, a1, b1, c1, l1, f1, rfl, s1, t1, u1⟩ := path_of hv1 (fun a len cap cs e => hz 1 _ a len cap cs (.inl rfl) rfl e)
  obtain ⟨L2, sa2, sc2, w2, a2, b2, c2, l2, f2, rfl, s2, t2, u2⟩ := path_of hv2 (fun a len cap cs e => hz 2 _ a len cap cs (.inr rfl) rfl e)
  exact walkTop_c root i0 i1 L1 L2 w1 w2 a1 b1 c1 a2 b2 c2 l1 l2 f1 f2 sa1 sa2 sc1 sc2 W s1 s2 t1 t2 u1 u2
theorem walkTop_size {H : Type} {enc : TypeId × Value → H} (W : World) (args : List Value) (ds : List (DataW H)) (p : List MemPlace)
    (hA : DataW.TrodAll enc Try.prog W 0 (fun _ => true) true Try.f6.params.toList args ds p) (hR : (DataW.weightsEach Try.prog Try.f6.params.toList ds).all (· ≤ reachBytes) = true) : walkTopSize args := by
  have hp : Try.f6.params.toList = [27, 33, 33] := rfl
  rw [hp] at hA hR
  obtain ⟨v0, r0, d0, ds0, p0, q0, rfl, rfl, rfl, -, hA⟩ := trodAll_cons hA
  obtain ⟨v1, r1, d1, ds1, p1, q1, rfl, rfl, rfl, ⟨n1, h1⟩, hA⟩ := trodAll_cons hA
  obtain ⟨v2, r2, d2, ds2, p2, q2, rfl, rfl, rfl, ⟨n2, h2⟩, hA⟩ := trodAll_cons hA
  simp only [DataW.weightsEach, List.all_append, Bool.and_eq_true] at hR
  obtain ⟨-, hR1, hR2, -⟩ := hR
  have key : ∀ (v : Value) (d : DataW H) (pp : List MemPlace) (n : Nat), DataW.trod enc Try.prog W 0 (fun _ => true) true n 33 v.cells.toList = some (d, pp) → (d.weights Try.prog 33).all (· ≤ reachBytes) = true →
      ∀ a len cap cs, v = .agg (Value.slice a len cap :: cs).toArray → cap * 24 ≤ reachBytes := fun v d pp n h hw a len cap cs e => by
    subst e
    have hb : Try.prog.bytesOf 41 = 24 := by kernel_rfl
    have hc : Try.prog.cellsOf 29 = 1 := by kernel_rfl
    rw [← hb]
    exact trod_head_reach (n := n) (t := 33) (x := (d, pp)) Try.underlying33 (List.toArray_eq_iff.1 rfl) (Eq.refl 0) hc Try.underlying29 (by simpa [Value.cells] using h) hw
  intro j v a len cap cs hj hv e
  rcases hj with rfl | rfl
  · simp only [List.getElem?_cons_succ, List.getElem?_cons_zero, Option.some.injEq] at hv
    subst hv
    exact key _ _ _ _ h1 hR1 a len cap cs e
  · simp only [List.getElem?_cons_succ, List.getElem?_cons_zero, Option.some.injEq] at hv
    subst hv
    exact key _ _ _ _ h2 hR2 a len cap cs e

theorem walkTopDscs : okParams Try.prog [.int .u64, pathD, pathD] Try.f6.params.toList = true := by kernel_rfl
set_option maxRecDepth 100000 in
theorem walkTop_lifted (os : Os) (started : os.Started) (H : Type) (enc : TypeId × Value → H) :
    ReturnsInHanded {} Try.checked os 6 .any (Rows.walkTopSpec.pre6 enc Try.prog Try.f6 Rows.walkTopRow.domain false) (Rows.walkTopSpec.post enc Try.prog Try.f6 false true false false) :=
  law_lift_sized (C := Try.checked) (walkTopSize) [.int .u64, pathD, pathD] (by kernel_rfl) started (by kernel_rfl) Try.func6
    (ChangeSpec.witness6 (enc := enc) (C := Try.checked) false ⟨#[], #[.int .u64 0, .agg #[.slice none 0 0, .int .i64 0, .bool false, .bool false, .bool false, .int .i64 0, .int .u64 0], .agg #[.slice none 0 0, .int .i64 0, .bool false, .bool false, .bool false, .int .i64 0, .int .u64 0] ], []⟩ 8 (by kernel_rfl) (by kernel_rfl) (by kernel_rfl) (by kernel_rfl))
    (by kernel_rfl) walkTopDscs rfl Try.underlying4 rfl (fun ds h => by
      first
        | (obtain ⟨a, rfl⟩ := len1 h; rfl)
        | (obtain ⟨a, b, rfl⟩ := len2 h; rfl)
        | (obtain ⟨a, b, c, rfl⟩ := len3 h; rfl)
        | (obtain ⟨a, b, c, d, rfl⟩ := len4 h; rfl)) (fun W args ds p => walkTop_size W args ds p) walkTop_walk
theorem walkTop_holds : Rows.WalkTopSaid :=
  OpenClaim.holds_of_wide 6 Try.f6 rfl rfl rfl rfl rfl rfl rfl ⟨rfl, rfl, rfl, rfl, rfl⟩ rfl rfl rfl rfl rfl (by kernel_rfl) Try.func6 (by kernel_rfl)
    (of_decide_eq_true (by kernel_rfl)) (by unfold Func.isWrapper; first | (rw [if_pos (by decide +kernel)]; kernel_rfl) | (rw [if_neg (by decide +kernel)]; exact ⟨rfl, rfl⟩))
    (fun os started H enc _ => walkTop_lifted os started H enc)
#print axioms walkTop_holds
end Go.Proofs.YtkoohedbbdgjjaaR
