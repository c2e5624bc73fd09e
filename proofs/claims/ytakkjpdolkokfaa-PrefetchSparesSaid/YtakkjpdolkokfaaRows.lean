/-
  No cell of these rows narrows 'for every input' (looked for: loops, veiled, ifaces, maps, wideKeys, modest, calm, conditions, laid).
  DERIVED. THE GIVEN ROWS OF THIS SEAT. 4 by the template 'for every input the law returns true; each argument reads behind the call as it read before'; 0 by the template 'total and deterministic' (their statements: YtakkjpdolkokfaaTotals.lean).
  GIVEN WITH THE SEED: the statements are not yours to turn. If you find one false, say at which input.
  Laid BY PROGRAM, IN A SANDBOX (cutbox-rows.mjs): the forced cells as the released guide's own fill.sh prints them over the translation 15ea2c93306e7475… (all of the seat's roots in one cut). By AI agents, Wed Nov 11 2026. No macro, syntax, notation, axiom, sorry.
-/
import Derived.Test.YtakkjpdolkokfaaChecked
import GoSem.Claim
import GoSem.ClaimJoined
import GoSem.ClaimMapViews
import Derived.JoinedTies
import Derived.KernelRfl
namespace Go.Proofs.Ytakkjpdolkokfaa
/- THE CELL 'sum', in the pinned program and in every row, IS THE sha256 OF THE DUMP (.gsa) THAT YtakkjpdolkokfaaProg.lean LOADS. Nothing in Lean hashes anything: it is a label: what it is worth is what the hold of that sum in a sandbox is worth. -/
noncomputable def Try.pinned : Pinned := { name := "ytakkjpdolkokfaa", sum := "15ea2c93306e7475bfff1d22fbc9ebb25740a83b7b037e27475148da0a6b3974", checked := Try.checked }
namespace Rows
def none {H : Type} : Left H := { results := [], args := [] }

/-- 'dormerlaw11.PscPlays': WHATEVER THE INPUT: true; the input reads as it did. -/
def pscPlaysSpec : ChangeSpec := { name := "pscPlays", fn := fun _ => fun
  | [d1, d2] => { results := [.lit (.bool true)], args := [d1, d2] }
  | _ => none }
def pscPlaysRow : OpenClaim := { program := "ytakkjpdolkokfaa", sum := "15ea2c93306e7475bfff1d22fbc9ebb25740a83b7b037e27475148da0a6b3974", func := "dormer/dormerlaw11.PscPlays", spec := "pscPlays", plainKeys := false, apart := false }
def PscPlaysSaid : Prop := pscPlaysRow.holds Try.pinned (OpenSpec.ofChange pscPlaysSpec)

/-- ITS FALSE NEIGHBOUR: 'it returns false'. Refute it at one input. -/
def pscPlaysWrong : ChangeSpec := { name := "pscPlays", fn := fun _ => fun
  | [d1, d2] => { results := [.lit (.bool false)], args := [d1, d2] }
  | _ => none }
def PscPlaysWrongFalsely : Prop := pscPlaysRow.holds Try.pinned (OpenSpec.ofChange pscPlaysWrong)

/-- 'dormerlaw15.PrefetchPlan': WHATEVER THE INPUT: true; the input reads as it did. -/
def prefetchPlanSpec : ChangeSpec := { name := "prefetchPlan", fn := fun _ => fun
  | [d1, d2] => { results := [.lit (.bool true)], args := [d1, d2] }
  | _ => none }
def prefetchPlanRow : OpenClaim := { program := "ytakkjpdolkokfaa", sum := "15ea2c93306e7475bfff1d22fbc9ebb25740a83b7b037e27475148da0a6b3974", func := "dormer/dormerlaw15.PrefetchPlan", spec := "prefetchPlan", unfollowed := true, recurses := true, plainKeys := false, apart := false }
def PrefetchPlanSaid : Prop := prefetchPlanRow.holds Try.pinned (OpenSpec.ofChange prefetchPlanSpec)

/-- ITS FALSE NEIGHBOUR: 'it returns false'. Refute it at one input. -/
def prefetchPlanWrong : ChangeSpec := { name := "prefetchPlan", fn := fun _ => fun
  | [d1, d2] => { results := [.lit (.bool false)], args := [d1, d2] }
  | _ => none }
def PrefetchPlanWrongFalsely : Prop := prefetchPlanRow.holds Try.pinned (OpenSpec.ofChange prefetchPlanWrong)

/-- 'dormerlaw15.PrefetchAgain': WHATEVER THE INPUT: true; the input reads as it did. -/
def prefetchAgainSpec : ChangeSpec := { name := "prefetchAgain", fn := fun _ => fun
  | [d1, d2, d3] => { results := [.lit (.bool true)], args := [d1, d2, d3] }
  | _ => none }
def prefetchAgainRow : OpenClaim := { program := "ytakkjpdolkokfaa", sum := "15ea2c93306e7475bfff1d22fbc9ebb25740a83b7b037e27475148da0a6b3974", func := "dormer/dormerlaw15.PrefetchAgain", spec := "prefetchAgain", unfollowed := true, recurses := true, plainKeys := false, apart := false }
def PrefetchAgainSaid : Prop := prefetchAgainRow.holds Try.pinned (OpenSpec.ofChange prefetchAgainSpec)

/-- ITS FALSE NEIGHBOUR: 'it returns false'. Refute it at one input. -/
def prefetchAgainWrong : ChangeSpec := { name := "prefetchAgain", fn := fun _ => fun
  | [d1, d2, d3] => { results := [.lit (.bool false)], args := [d1, d2, d3] }
  | _ => none }
def PrefetchAgainWrongFalsely : Prop := prefetchAgainRow.holds Try.pinned (OpenSpec.ofChange prefetchAgainWrong)

/-- 'dormerlaw15.PrefetchSpares': WHATEVER THE INPUT: true; the input reads as it did. -/
def prefetchSparesSpec : ChangeSpec := { name := "prefetchSpares", fn := fun _ => fun
  | [d1, d2, d3] => { results := [.lit (.bool true)], args := [d1, d2, d3] }
  | _ => none }
def prefetchSparesRow : OpenClaim := { program := "ytakkjpdolkokfaa", sum := "15ea2c93306e7475bfff1d22fbc9ebb25740a83b7b037e27475148da0a6b3974", func := "dormer/dormerlaw15.PrefetchSpares", spec := "prefetchSpares", unfollowed := true, recurses := true, plainKeys := false, apart := false }
def PrefetchSparesSaid : Prop := prefetchSparesRow.holds Try.pinned (OpenSpec.ofChange prefetchSparesSpec)

/-- ITS FALSE NEIGHBOUR: 'it returns false'. Refute it at one input. -/
def prefetchSparesWrong : ChangeSpec := { name := "prefetchSpares", fn := fun _ => fun
  | [d1, d2, d3] => { results := [.lit (.bool false)], args := [d1, d2, d3] }
  | _ => none }
def PrefetchSparesWrongFalsely : Prop := prefetchSparesRow.holds Try.pinned (OpenSpec.ofChange prefetchSparesWrong)

/- THE SECOND FORM. 'bulk': how many values and letters a reading holds, each counted each time it is reached (what is shared counts as often as it is met; a slice's spare places count too). A statement '..UptoSaid' is the law's where the arguments, and the package variables that the reading takes, are together of bulk at most 1048576: NARROWER than '..Said'. Prove '..Said' where nothing that the law and all that it calls make is longer than what came in: it says more and counts as full. Else prove '..UptoSaid'. A law counts once. -/
mutual
def uptoBulk {H : Type} : DataW H → Nat
  | .lit (.string bytes) => bytes.length + 1
  | .lit _ => 1
  | .nil => 1
  | .ptr d => uptoBulk d + 1
  | .slice elems spare => uptoBulkAll elems + uptoBulkAll spare + 1
  | .agg parts => uptoBulkAll parts + 1
  | .iface _ d => uptoBulk d + 1
  | .map entries => uptoBulkEntries entries + 1
  | .held _ => 1
def uptoBulkAll {H : Type} : List (DataW H) → Nat
  | [] => 0
  | d :: r => uptoBulk d + uptoBulkAll r
def uptoBulkEntries {H : Type} : List (Lit × DataW H) → Nat
  | [] => 0
  | x :: r => uptoBulkEntry x + uptoBulkEntries r
def uptoBulkEntry {H : Type} : Lit × DataW H → Nat
  | (.string bytes, d) => bytes.length + uptoBulk d + 1
  | (_, d) => uptoBulk d + 1
 end
def uptoSmall : (H : Type) → List (DataW H) → Bool := fun _ ds => decide (uptoBulkAll ds ≤ 1048576)
def OpenSpec.upto (s : _root_.Go.ChangeSpec) : _root_.Go.OpenSpec := { _root_.Go.OpenSpec.ofChange s with cond := some uptoSmall }

/-- 'dormerlaw11.PscPlays', WHERE WHAT IT READS IS OF BULK AT MOST 1048576: true; the input reads as it did. -/
def pscPlaysUptoRow : OpenClaim := { program := "ytakkjpdolkokfaa", sum := "15ea2c93306e7475bfff1d22fbc9ebb25740a83b7b037e27475148da0a6b3974", func := "dormer/dormerlaw11.PscPlays", spec := "pscPlays", plainKeys := false, apart := false, narrowed := true }
def PscPlaysUptoSaid : Prop := pscPlaysUptoRow.holds Try.pinned (OpenSpec.upto pscPlaysSpec)

/-- 'dormerlaw15.PrefetchPlan', WHERE WHAT IT READS IS OF BULK AT MOST 1048576: true; the input reads as it did. -/
def prefetchPlanUptoRow : OpenClaim := { program := "ytakkjpdolkokfaa", sum := "15ea2c93306e7475bfff1d22fbc9ebb25740a83b7b037e27475148da0a6b3974", func := "dormer/dormerlaw15.PrefetchPlan", spec := "prefetchPlan", unfollowed := true, recurses := true, plainKeys := false, apart := false, narrowed := true }
def PrefetchPlanUptoSaid : Prop := prefetchPlanUptoRow.holds Try.pinned (OpenSpec.upto prefetchPlanSpec)

/-- 'dormerlaw15.PrefetchAgain', WHERE WHAT IT READS IS OF BULK AT MOST 1048576: true; the input reads as it did. -/
def prefetchAgainUptoRow : OpenClaim := { program := "ytakkjpdolkokfaa", sum := "15ea2c93306e7475bfff1d22fbc9ebb25740a83b7b037e27475148da0a6b3974", func := "dormer/dormerlaw15.PrefetchAgain", spec := "prefetchAgain", unfollowed := true, recurses := true, plainKeys := false, apart := false, narrowed := true }
def PrefetchAgainUptoSaid : Prop := prefetchAgainUptoRow.holds Try.pinned (OpenSpec.upto prefetchAgainSpec)

/-- 'dormerlaw15.PrefetchSpares', WHERE WHAT IT READS IS OF BULK AT MOST 1048576: true; the input reads as it did. -/
def prefetchSparesUptoRow : OpenClaim := { program := "ytakkjpdolkokfaa", sum := "15ea2c93306e7475bfff1d22fbc9ebb25740a83b7b037e27475148da0a6b3974", func := "dormer/dormerlaw15.PrefetchSpares", spec := "prefetchSpares", unfollowed := true, recurses := true, plainKeys := false, apart := false, narrowed := true }
def PrefetchSparesUptoSaid : Prop := prefetchSparesUptoRow.holds Try.pinned (OpenSpec.upto prefetchSparesSpec)

end Rows
end Go.Proofs.Ytakkjpdolkokfaa
