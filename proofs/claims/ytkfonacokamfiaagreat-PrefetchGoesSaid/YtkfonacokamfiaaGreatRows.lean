/-
  No cell of these rows narrows 'for every input' (looked for: loops, veiled, ifaces, maps, wideKeys, modest, calm, conditions, laid).
  DERIVED. THE GIVEN ROWS OF THIS SEAT. 2 by the template 'for every input the law returns true; each argument reads behind the call as it read before'; 0 by the template 'total and deterministic' (their statements: YtkfonacokamfiaaGreatTotals.lean).
  GIVEN WITH THE SEED: the statements are not yours to turn. If you find one false, say at which input.
  Laid BY PROGRAM, IN A SANDBOX (cutbox-rows.mjs): the forced cells as the released guide's own fill.sh prints them over the translation 564b409a02a7747e… (all of the seat's roots in one cut). By AI agents, Wed Nov 11 2026. No macro, syntax, notation, axiom, sorry.
-/
import Derived.Test.YtkfonacokamfiaaGreatChecked
import GoSem.Claim
import GoSem.ClaimJoined
import GoSem.ClaimMapViews
import Derived.JoinedTies
import Derived.KernelRfl
namespace Go.Proofs.YtkfonacokamfiaaGreat
/- THE CELL 'sum', in the pinned program and in every row, IS THE sha256 OF THE DUMP (.gsa) THAT YtkfonacokamfiaaGreatProg.lean LOADS. Nothing in Lean hashes anything: it is a label: what it is worth is what the hold of that sum in a sandbox is worth. -/
noncomputable def Tryz.pinned : Pinned := { name := "ytkfonacokamfiaagreat", sum := "564b409a02a7747e7b8048cadbddafd6e5f3d6d0d6b610c5297cadd11fdb447a", checked := Tryz.checked }
namespace Rows
def none {H : Type} : Left H := { results := [], args := [] }

/-- 'dormerlaw15.PrefetchPlans': WHATEVER THE INPUT: true; the input reads as it did. -/
def prefetchPlansSpec : ChangeSpec := { name := "prefetchPlans", fn := fun _ => fun
  | [d1, d2, d3] => { results := [.lit (.bool true)], args := [d1, d2, d3] }
  | _ => none }
def prefetchPlansRow : OpenClaim := { program := "ytkfonacokamfiaagreat", sum := "564b409a02a7747e7b8048cadbddafd6e5f3d6d0d6b610c5297cadd11fdb447a", func := "dormer/dormerlaw15.PrefetchPlans", spec := "prefetchPlans", unfollowed := true, recurses := true, plainKeys := false, apart := false }
def PrefetchPlansSaid : Prop := prefetchPlansRow.holds Tryz.pinned (OpenSpec.ofChange prefetchPlansSpec)

/-- ITS FALSE NEIGHBOUR: 'it returns false'. Refute it at one input. -/
def prefetchPlansWrong : ChangeSpec := { name := "prefetchPlans", fn := fun _ => fun
  | [d1, d2, d3] => { results := [.lit (.bool false)], args := [d1, d2, d3] }
  | _ => none }
def PrefetchPlansWrongFalsely : Prop := prefetchPlansRow.holds Tryz.pinned (OpenSpec.ofChange prefetchPlansWrong)

/-- 'dormerlaw15.PrefetchGoes': WHATEVER THE INPUT: true; the input reads as it did. -/
def prefetchGoesSpec : ChangeSpec := { name := "prefetchGoes", fn := fun _ => fun
  | [d1, d2, d3] => { results := [.lit (.bool true)], args := [d1, d2, d3] }
  | _ => none }
def prefetchGoesRow : OpenClaim := { program := "ytkfonacokamfiaagreat", sum := "564b409a02a7747e7b8048cadbddafd6e5f3d6d0d6b610c5297cadd11fdb447a", func := "dormer/dormerlaw15.PrefetchGoes", spec := "prefetchGoes", unfollowed := true, recurses := true, plainKeys := false, apart := false }
def PrefetchGoesSaid : Prop := prefetchGoesRow.holds Tryz.pinned (OpenSpec.ofChange prefetchGoesSpec)

/-- ITS FALSE NEIGHBOUR: 'it returns false'. Refute it at one input. -/
def prefetchGoesWrong : ChangeSpec := { name := "prefetchGoes", fn := fun _ => fun
  | [d1, d2, d3] => { results := [.lit (.bool false)], args := [d1, d2, d3] }
  | _ => none }
def PrefetchGoesWrongFalsely : Prop := prefetchGoesRow.holds Tryz.pinned (OpenSpec.ofChange prefetchGoesWrong)

/- THE SECOND FORM. 'bulk': how many values and letters a reading holds, each counted each time it is reached (what is shared counts as often as it is met; a slice's spare places count too). A statement '..UptoSaid' is the law's where the arguments, and the package variables that the reading takes, are together of bulk at most 1048576: NARROWER than '..Said'. Prove '..Said' where nothing that the law and all that it calls make is longer than what came in: it says more and counts as full. Else prove '..UptoSaid'. A law counts once. -/
mutual
def uptoBulk {H : Type} : DataW H → Nat
  | .lit (.string bytes) => bytes.length + 1
  | .lit _ => 1
  | .nil => 1
  | .ptr d => uptoBulk d + 1
  | .slice elems spare => uptoBulkAll elems + uptoBulkAll spare + 1
  | .agg parts => uptoBulkAll parts + 1
  | .iface _ d => uptoBulk d + 1
  | .map entries => uptoBulkEntries entries + 1
  | .held _ => 1
def uptoBulkAll {H : Type} : List (DataW H) → Nat
  | [] => 0
  | d :: r => uptoBulk d + uptoBulkAll r
def uptoBulkEntries {H : Type} : List (Lit × DataW H) → Nat
  | [] => 0
  | x :: r => uptoBulkEntry x + uptoBulkEntries r
def uptoBulkEntry {H : Type} : Lit × DataW H → Nat
  | (.string bytes, d) => bytes.length + uptoBulk d + 1
  | (_, d) => uptoBulk d + 1
 end
def uptoSmall : (H : Type) → List (DataW H) → Bool := fun _ ds => decide (uptoBulkAll ds ≤ 1048576)
def OpenSpec.upto (s : _root_.Go.ChangeSpec) : _root_.Go.OpenSpec := { _root_.Go.OpenSpec.ofChange s with cond := some uptoSmall }

/-- 'dormerlaw15.PrefetchPlans', WHERE WHAT IT READS IS OF BULK AT MOST 1048576: true; the input reads as it did. -/
def prefetchPlansUptoRow : OpenClaim := { program := "ytkfonacokamfiaagreat", sum := "564b409a02a7747e7b8048cadbddafd6e5f3d6d0d6b610c5297cadd11fdb447a", func := "dormer/dormerlaw15.PrefetchPlans", spec := "prefetchPlans", unfollowed := true, recurses := true, plainKeys := false, apart := false, narrowed := true }
def PrefetchPlansUptoSaid : Prop := prefetchPlansUptoRow.holds Tryz.pinned (OpenSpec.upto prefetchPlansSpec)

/-- 'dormerlaw15.PrefetchGoes', WHERE WHAT IT READS IS OF BULK AT MOST 1048576: true; the input reads as it did. -/
def prefetchGoesUptoRow : OpenClaim := { program := "ytkfonacokamfiaagreat", sum := "564b409a02a7747e7b8048cadbddafd6e5f3d6d0d6b610c5297cadd11fdb447a", func := "dormer/dormerlaw15.PrefetchGoes", spec := "prefetchGoes", unfollowed := true, recurses := true, plainKeys := false, apart := false, narrowed := true }
def PrefetchGoesUptoSaid : Prop := prefetchGoesUptoRow.holds Tryz.pinned (OpenSpec.upto prefetchGoesSpec)

end Rows
end Go.Proofs.YtkfonacokamfiaaGreat
