/-
  No cell of these rows narrows 'for every input' (looked for: loops, veiled, ifaces, maps, wideKeys, modest, calm, conditions, laid).
  DERIVED. THE GIVEN ROWS OF THIS SEAT. 10 by the template 'for every input the law returns true; each argument reads behind the call as it read before'; 0 by the template 'total and deterministic' (their statements: YtfaekfdngkpkdaaTotals.lean).
  GIVEN WITH THE SEED: the statements are not yours to turn. If you find one false, say at which input.
  Laid BY PROGRAM, IN A SANDBOX (cutbox-rows.mjs): the forced cells as the released guide's own fill.sh prints them over the translation 367c07cd256b7f1f… (all of the seat's roots in one cut). By AI agents, Wed Nov 11 2026. No macro, syntax, notation, axiom, sorry.
-/
import Derived.Test.YtfaekfdngkpkdaaChecked
import GoSem.Claim
import GoSem.ClaimJoined
import GoSem.ClaimMapViews
import Derived.JoinedTies
import Derived.KernelRfl
namespace Go.Proofs.Ytfaekfdngkpkdaa
/- THE CELL 'sum', in the pinned program and in every row, IS THE sha256 OF THE DUMP (.gsa) THAT YtfaekfdngkpkdaaProg.lean LOADS. Nothing in Lean hashes anything: it is a label: what it is worth is what the hold of that sum in a sandbox is worth. -/
noncomputable def Try.pinned : Pinned := { name := "ytfaekfdngkpkdaa", sum := "367c07cd256b7f1f790166a8c1ce604873542591497487e5eb8fc76ea0b77f67", checked := Try.checked }
namespace Rows
def none {H : Type} : Left H := { results := [], args := [] }

/-- 'dormerlaw08.WalkGoes': WHATEVER THE INPUT: true; the input reads as it did. -/
def walkGoesSpec : ChangeSpec := { name := "walkGoes", fn := fun _ => fun
  | [d1, d2, d3] => { results := [.lit (.bool true)], args := [d1, d2, d3] }
  | _ => none }
def walkGoesRow : OpenClaim := { program := "ytfaekfdngkpkdaa", sum := "367c07cd256b7f1f790166a8c1ce604873542591497487e5eb8fc76ea0b77f67", func := "dormer/dormerlaw08.WalkGoes", spec := "walkGoes", plainKeys := false, apart := false }
def WalkGoesSaid : Prop := walkGoesRow.holds Try.pinned (OpenSpec.ofChange walkGoesSpec)

/-- ITS FALSE NEIGHBOUR: 'it returns false'. Refute it at one input. -/
def walkGoesWrong : ChangeSpec := { name := "walkGoes", fn := fun _ => fun
  | [d1, d2, d3] => { results := [.lit (.bool false)], args := [d1, d2, d3] }
  | _ => none }
def WalkGoesWrongFalsely : Prop := walkGoesRow.holds Try.pinned (OpenSpec.ofChange walkGoesWrong)

/-- 'dormerlaw11.PscGoes': WHATEVER THE INPUT: true; the input reads as it did. -/
def pscGoesSpec : ChangeSpec := { name := "pscGoes", fn := fun _ => fun
  | [d1, d2, d3] => { results := [.lit (.bool true)], args := [d1, d2, d3] }
  | _ => none }
def pscGoesRow : OpenClaim := { program := "ytfaekfdngkpkdaa", sum := "367c07cd256b7f1f790166a8c1ce604873542591497487e5eb8fc76ea0b77f67", func := "dormer/dormerlaw11.PscGoes", spec := "pscGoes", plainKeys := false, apart := false }
def PscGoesSaid : Prop := pscGoesRow.holds Try.pinned (OpenSpec.ofChange pscGoesSpec)

/-- ITS FALSE NEIGHBOUR: 'it returns false'. Refute it at one input. -/
def pscGoesWrong : ChangeSpec := { name := "pscGoes", fn := fun _ => fun
  | [d1, d2, d3] => { results := [.lit (.bool false)], args := [d1, d2, d3] }
  | _ => none }
def PscGoesWrongFalsely : Prop := pscGoesRow.holds Try.pinned (OpenSpec.ofChange pscGoesWrong)

/-- 'dormerlaw11.PscFills': WHATEVER THE INPUT: true; the input reads as it did. -/
def pscFillsSpec : ChangeSpec := { name := "pscFills", fn := fun _ => fun
  | [d1, d2, d3] => { results := [.lit (.bool true)], args := [d1, d2, d3] }
  | _ => none }
def pscFillsRow : OpenClaim := { program := "ytfaekfdngkpkdaa", sum := "367c07cd256b7f1f790166a8c1ce604873542591497487e5eb8fc76ea0b77f67", func := "dormer/dormerlaw11.PscFills", spec := "pscFills", plainKeys := false, apart := false }
def PscFillsSaid : Prop := pscFillsRow.holds Try.pinned (OpenSpec.ofChange pscFillsSpec)

/-- ITS FALSE NEIGHBOUR: 'it returns false'. Refute it at one input. -/
def pscFillsWrong : ChangeSpec := { name := "pscFills", fn := fun _ => fun
  | [d1, d2, d3] => { results := [.lit (.bool false)], args := [d1, d2, d3] }
  | _ => none }
def PscFillsWrongFalsely : Prop := pscFillsRow.holds Try.pinned (OpenSpec.ofChange pscFillsWrong)

/-- 'dormerlaw11.PscApart': WHATEVER THE INPUT: true; the input reads as it did. -/
def pscApartSpec : ChangeSpec := { name := "pscApart", fn := fun _ => fun
  | [d1, d2, d3] => { results := [.lit (.bool true)], args := [d1, d2, d3] }
  | _ => none }
def pscApartRow : OpenClaim := { program := "ytfaekfdngkpkdaa", sum := "367c07cd256b7f1f790166a8c1ce604873542591497487e5eb8fc76ea0b77f67", func := "dormer/dormerlaw11.PscApart", spec := "pscApart", plainKeys := false, apart := false }
def PscApartSaid : Prop := pscApartRow.holds Try.pinned (OpenSpec.ofChange pscApartSpec)

/-- ITS FALSE NEIGHBOUR: 'it returns false'. Refute it at one input. -/
def pscApartWrong : ChangeSpec := { name := "pscApart", fn := fun _ => fun
  | [d1, d2, d3] => { results := [.lit (.bool false)], args := [d1, d2, d3] }
  | _ => none }
def PscApartWrongFalsely : Prop := pscApartRow.holds Try.pinned (OpenSpec.ofChange pscApartWrong)

/-- 'dormerlaw11.PscDrops': WHATEVER THE INPUT: true; the input reads as it did. -/
def pscDropsSpec : ChangeSpec := { name := "pscDrops", fn := fun _ => fun
  | [d1, d2, d3] => { results := [.lit (.bool true)], args := [d1, d2, d3] }
  | _ => none }
def pscDropsRow : OpenClaim := { program := "ytfaekfdngkpkdaa", sum := "367c07cd256b7f1f790166a8c1ce604873542591497487e5eb8fc76ea0b77f67", func := "dormer/dormerlaw11.PscDrops", spec := "pscDrops", plainKeys := false, apart := false }
def PscDropsSaid : Prop := pscDropsRow.holds Try.pinned (OpenSpec.ofChange pscDropsSpec)

/-- ITS FALSE NEIGHBOUR: 'it returns false'. Refute it at one input. -/
def pscDropsWrong : ChangeSpec := { name := "pscDrops", fn := fun _ => fun
  | [d1, d2, d3] => { results := [.lit (.bool false)], args := [d1, d2, d3] }
  | _ => none }
def PscDropsWrongFalsely : Prop := pscDropsRow.holds Try.pinned (OpenSpec.ofChange pscDropsWrong)

/-- 'dormerlaw11.PscPlays': WHATEVER THE INPUT: true; the input reads as it did. -/
def pscPlaysSpec : ChangeSpec := { name := "pscPlays", fn := fun _ => fun
  | [d1, d2] => { results := [.lit (.bool true)], args := [d1, d2] }
  | _ => none }
def pscPlaysRow : OpenClaim := { program := "ytfaekfdngkpkdaa", sum := "367c07cd256b7f1f790166a8c1ce604873542591497487e5eb8fc76ea0b77f67", func := "dormer/dormerlaw11.PscPlays", spec := "pscPlays", plainKeys := false, apart := false }
def PscPlaysSaid : Prop := pscPlaysRow.holds Try.pinned (OpenSpec.ofChange pscPlaysSpec)

/-- ITS FALSE NEIGHBOUR: 'it returns false'. Refute it at one input. -/
def pscPlaysWrong : ChangeSpec := { name := "pscPlays", fn := fun _ => fun
  | [d1, d2] => { results := [.lit (.bool false)], args := [d1, d2] }
  | _ => none }
def PscPlaysWrongFalsely : Prop := pscPlaysRow.holds Try.pinned (OpenSpec.ofChange pscPlaysWrong)

/-- 'dormerlaw11.PscRoom': WHATEVER THE INPUT: true; the input reads as it did. -/
def pscRoomSpec : ChangeSpec := { name := "pscRoom", fn := fun _ => fun
  | [d1, d2, d3] => { results := [.lit (.bool true)], args := [d1, d2, d3] }
  | _ => none }
def pscRoomRow : OpenClaim := { program := "ytfaekfdngkpkdaa", sum := "367c07cd256b7f1f790166a8c1ce604873542591497487e5eb8fc76ea0b77f67", func := "dormer/dormerlaw11.PscRoom", spec := "pscRoom", plainKeys := false, apart := false }
def PscRoomSaid : Prop := pscRoomRow.holds Try.pinned (OpenSpec.ofChange pscRoomSpec)

/-- ITS FALSE NEIGHBOUR: 'it returns false'. Refute it at one input. -/
def pscRoomWrong : ChangeSpec := { name := "pscRoom", fn := fun _ => fun
  | [d1, d2, d3] => { results := [.lit (.bool false)], args := [d1, d2, d3] }
  | _ => none }
def PscRoomWrongFalsely : Prop := pscRoomRow.holds Try.pinned (OpenSpec.ofChange pscRoomWrong)

/-- 'dormerlaw15.PrefetchPlan': WHATEVER THE INPUT: true; the input reads as it did. -/
def prefetchPlanSpec : ChangeSpec := { name := "prefetchPlan", fn := fun _ => fun
  | [d1, d2] => { results := [.lit (.bool true)], args := [d1, d2] }
  | _ => none }
def prefetchPlanRow : OpenClaim := { program := "ytfaekfdngkpkdaa", sum := "367c07cd256b7f1f790166a8c1ce604873542591497487e5eb8fc76ea0b77f67", func := "dormer/dormerlaw15.PrefetchPlan", spec := "prefetchPlan", unfollowed := true, recurses := true, plainKeys := false, apart := false }
def PrefetchPlanSaid : Prop := prefetchPlanRow.holds Try.pinned (OpenSpec.ofChange prefetchPlanSpec)

/-- ITS FALSE NEIGHBOUR: 'it returns false'. Refute it at one input. -/
def prefetchPlanWrong : ChangeSpec := { name := "prefetchPlan", fn := fun _ => fun
  | [d1, d2] => { results := [.lit (.bool false)], args := [d1, d2] }
  | _ => none }
def PrefetchPlanWrongFalsely : Prop := prefetchPlanRow.holds Try.pinned (OpenSpec.ofChange prefetchPlanWrong)

/-- 'dormerlaw15.PrefetchAgain': WHATEVER THE INPUT: true; the input reads as it did. -/
def prefetchAgainSpec : ChangeSpec := { name := "prefetchAgain", fn := fun _ => fun
  | [d1, d2, d3] => { results := [.lit (.bool true)], args := [d1, d2, d3] }
  | _ => none }
def prefetchAgainRow : OpenClaim := { program := "ytfaekfdngkpkdaa", sum := "367c07cd256b7f1f790166a8c1ce604873542591497487e5eb8fc76ea0b77f67", func := "dormer/dormerlaw15.PrefetchAgain", spec := "prefetchAgain", unfollowed := true, recurses := true, plainKeys := false, apart := false }
def PrefetchAgainSaid : Prop := prefetchAgainRow.holds Try.pinned (OpenSpec.ofChange prefetchAgainSpec)

/-- ITS FALSE NEIGHBOUR: 'it returns false'. Refute it at one input. -/
def prefetchAgainWrong : ChangeSpec := { name := "prefetchAgain", fn := fun _ => fun
  | [d1, d2, d3] => { results := [.lit (.bool false)], args := [d1, d2, d3] }
  | _ => none }
def PrefetchAgainWrongFalsely : Prop := prefetchAgainRow.holds Try.pinned (OpenSpec.ofChange prefetchAgainWrong)

/-- 'dormerlaw15.PrefetchSpares': WHATEVER THE INPUT: true; the input reads as it did. -/
def prefetchSparesSpec : ChangeSpec := { name := "prefetchSpares", fn := fun _ => fun
  | [d1, d2, d3] => { results := [.lit (.bool true)], args := [d1, d2, d3] }
  | _ => none }
def prefetchSparesRow : OpenClaim := { program := "ytfaekfdngkpkdaa", sum := "367c07cd256b7f1f790166a8c1ce604873542591497487e5eb8fc76ea0b77f67", func := "dormer/dormerlaw15.PrefetchSpares", spec := "prefetchSpares", unfollowed := true, recurses := true, plainKeys := false, apart := false }
def PrefetchSparesSaid : Prop := prefetchSparesRow.holds Try.pinned (OpenSpec.ofChange prefetchSparesSpec)

/-- ITS FALSE NEIGHBOUR: 'it returns false'. Refute it at one input. -/
def prefetchSparesWrong : ChangeSpec := { name := "prefetchSpares", fn := fun _ => fun
  | [d1, d2, d3] => { results := [.lit (.bool false)], args := [d1, d2, d3] }
  | _ => none }
def PrefetchSparesWrongFalsely : Prop := prefetchSparesRow.holds Try.pinned (OpenSpec.ofChange prefetchSparesWrong)

/- THE SECOND FORM. 'bulk': how many values and letters a reading holds, each counted each time it is reached (what is shared counts as often as it is met; a slice's spare places count too). A statement '..UptoSaid' is the law's where the arguments, and the package variables that the reading takes, are together of bulk at most 1048576: NARROWER than '..Said'. Prove '..Said' where nothing that the law and all that it calls make is longer than what came in: it says more and counts as full. Else prove '..UptoSaid'. A law counts once. -/
mutual
def uptoBulk {H : Type} : DataW H → Nat
  | .lit (.string bytes) => bytes.length + 1
  | .lit _ => 1
  | .nil => 1
  | .ptr d => uptoBulk d + 1
  | .slice elems spare => uptoBulkAll elems + uptoBulkAll spare + 1
  | .agg parts => uptoBulkAll parts + 1
  | .iface _ d => uptoBulk d + 1
  | .map entries => uptoBulkEntries entries + 1
  | .held _ => 1
def uptoBulkAll {H : Type} : List (DataW H) → Nat
  | [] => 0
  | d :: r => uptoBulk d + uptoBulkAll r
def uptoBulkEntries {H : Type} : List (Lit × DataW H) → Nat
  | [] => 0
  | x :: r => uptoBulkEntry x + uptoBulkEntries r
def uptoBulkEntry {H : Type} : Lit × DataW H → Nat
  | (.string bytes, d) => bytes.length + uptoBulk d + 1
  | (_, d) => uptoBulk d + 1
 end
def uptoSmall : (H : Type) → List (DataW H) → Bool := fun _ ds => decide (uptoBulkAll ds ≤ 1048576)
def OpenSpec.upto (s : _root_.Go.ChangeSpec) : _root_.Go.OpenSpec := { _root_.Go.OpenSpec.ofChange s with cond := some uptoSmall }

/-- 'dormerlaw08.WalkGoes', WHERE WHAT IT READS IS OF BULK AT MOST 1048576: true; the input reads as it did. -/
def walkGoesUptoRow : OpenClaim := { program := "ytfaekfdngkpkdaa", sum := "367c07cd256b7f1f790166a8c1ce604873542591497487e5eb8fc76ea0b77f67", func := "dormer/dormerlaw08.WalkGoes", spec := "walkGoes", plainKeys := false, apart := false, narrowed := true }
def WalkGoesUptoSaid : Prop := walkGoesUptoRow.holds Try.pinned (OpenSpec.upto walkGoesSpec)

/-- 'dormerlaw11.PscGoes', WHERE WHAT IT READS IS OF BULK AT MOST 1048576: true; the input reads as it did. -/
def pscGoesUptoRow : OpenClaim := { program := "ytfaekfdngkpkdaa", sum := "367c07cd256b7f1f790166a8c1ce604873542591497487e5eb8fc76ea0b77f67", func := "dormer/dormerlaw11.PscGoes", spec := "pscGoes", plainKeys := false, apart := false, narrowed := true }
def PscGoesUptoSaid : Prop := pscGoesUptoRow.holds Try.pinned (OpenSpec.upto pscGoesSpec)

/-- 'dormerlaw11.PscFills', WHERE WHAT IT READS IS OF BULK AT MOST 1048576: true; the input reads as it did. -/
def pscFillsUptoRow : OpenClaim := { program := "ytfaekfdngkpkdaa", sum := "367c07cd256b7f1f790166a8c1ce604873542591497487e5eb8fc76ea0b77f67", func := "dormer/dormerlaw11.PscFills", spec := "pscFills", plainKeys := false, apart := false, narrowed := true }
def PscFillsUptoSaid : Prop := pscFillsUptoRow.holds Try.pinned (OpenSpec.upto pscFillsSpec)

/-- 'dormerlaw11.PscApart', WHERE WHAT IT READS IS OF BULK AT MOST 1048576: true; the input reads as it did. -/
def pscApartUptoRow : OpenClaim := { program := "ytfaekfdngkpkdaa", sum := "367c07cd256b7f1f790166a8c1ce604873542591497487e5eb8fc76ea0b77f67", func := "dormer/dormerlaw11.PscApart", spec := "pscApart", plainKeys := false, apart := false, narrowed := true }
def PscApartUptoSaid : Prop := pscApartUptoRow.holds Try.pinned (OpenSpec.upto pscApartSpec)

/-- 'dormerlaw11.PscDrops', WHERE WHAT IT READS IS OF BULK AT MOST 1048576: true; the input reads as it did. -/
def pscDropsUptoRow : OpenClaim := { program := "ytfaekfdngkpkdaa", sum := "367c07cd256b7f1f790166a8c1ce604873542591497487e5eb8fc76ea0b77f67", func := "dormer/dormerlaw11.PscDrops", spec := "pscDrops", plainKeys := false, apart := false, narrowed := true }
def PscDropsUptoSaid : Prop := pscDropsUptoRow.holds Try.pinned (OpenSpec.upto pscDropsSpec)

/-- 'dormerlaw11.PscPlays', WHERE WHAT IT READS IS OF BULK AT MOST 1048576: true; the input reads as it did. -/
def pscPlaysUptoRow : OpenClaim := { program := "ytfaekfdngkpkdaa", sum := "367c07cd256b7f1f790166a8c1ce604873542591497487e5eb8fc76ea0b77f67", func := "dormer/dormerlaw11.PscPlays", spec := "pscPlays", plainKeys := false, apart := false, narrowed := true }
def PscPlaysUptoSaid : Prop := pscPlaysUptoRow.holds Try.pinned (OpenSpec.upto pscPlaysSpec)

/-- 'dormerlaw11.PscRoom', WHERE WHAT IT READS IS OF BULK AT MOST 1048576: true; the input reads as it did. -/
def pscRoomUptoRow : OpenClaim := { program := "ytfaekfdngkpkdaa", sum := "367c07cd256b7f1f790166a8c1ce604873542591497487e5eb8fc76ea0b77f67", func := "dormer/dormerlaw11.PscRoom", spec := "pscRoom", plainKeys := false, apart := false, narrowed := true }
def PscRoomUptoSaid : Prop := pscRoomUptoRow.holds Try.pinned (OpenSpec.upto pscRoomSpec)

/-- 'dormerlaw15.PrefetchPlan', WHERE WHAT IT READS IS OF BULK AT MOST 1048576: true; the input reads as it did. -/
def prefetchPlanUptoRow : OpenClaim := { program := "ytfaekfdngkpkdaa", sum := "367c07cd256b7f1f790166a8c1ce604873542591497487e5eb8fc76ea0b77f67", func := "dormer/dormerlaw15.PrefetchPlan", spec := "prefetchPlan", unfollowed := true, recurses := true, plainKeys := false, apart := false, narrowed := true }
def PrefetchPlanUptoSaid : Prop := prefetchPlanUptoRow.holds Try.pinned (OpenSpec.upto prefetchPlanSpec)

/-- 'dormerlaw15.PrefetchAgain', WHERE WHAT IT READS IS OF BULK AT MOST 1048576: true; the input reads as it did. -/
def prefetchAgainUptoRow : OpenClaim := { program := "ytfaekfdngkpkdaa", sum := "367c07cd256b7f1f790166a8c1ce604873542591497487e5eb8fc76ea0b77f67", func := "dormer/dormerlaw15.PrefetchAgain", spec := "prefetchAgain", unfollowed := true, recurses := true, plainKeys := false, apart := false, narrowed := true }
def PrefetchAgainUptoSaid : Prop := prefetchAgainUptoRow.holds Try.pinned (OpenSpec.upto prefetchAgainSpec)

/-- 'dormerlaw15.PrefetchSpares', WHERE WHAT IT READS IS OF BULK AT MOST 1048576: true; the input reads as it did. -/
def prefetchSparesUptoRow : OpenClaim := { program := "ytfaekfdngkpkdaa", sum := "367c07cd256b7f1f790166a8c1ce604873542591497487e5eb8fc76ea0b77f67", func := "dormer/dormerlaw15.PrefetchSpares", spec := "prefetchSpares", unfollowed := true, recurses := true, plainKeys := false, apart := false, narrowed := true }
def PrefetchSparesUptoSaid : Prop := prefetchSparesUptoRow.holds Try.pinned (OpenSpec.upto prefetchSparesSpec)

end Rows
end Go.Proofs.Ytfaekfdngkpkdaa
