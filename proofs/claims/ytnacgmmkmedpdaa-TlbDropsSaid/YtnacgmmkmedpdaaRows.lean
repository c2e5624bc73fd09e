/-
  No cell of these rows narrows 'for every input' (looked for: loops, veiled, ifaces, maps, wideKeys, modest, calm, conditions, laid).
  DERIVED. THE GIVEN ROWS OF THIS SEAT. 18 by the template 'for every input the law returns true; each argument reads behind the call as it read before'; 0 by the template 'total and deterministic' (their statements: YtnacgmmkmedpdaaTotals.lean).
  GIVEN WITH THE SEED: the statements are not yours to turn. If you find one false, say at which input.
  Laid BY PROGRAM, IN A SANDBOX (cutbox-rows.mjs): the forced cells as the released guide's own fill.sh prints them over the translation d91670144d2903df… (all of the seat's roots in one cut). By AI agents, Wed Nov 11 2026. No macro, syntax, notation, axiom, sorry.
-/
import Derived.Test.YtnacgmmkmedpdaaChecked
import GoSem.Claim
import GoSem.ClaimJoined
import GoSem.ClaimMapViews
import Derived.JoinedTies
import Derived.KernelRfl
namespace Go.Proofs.Ytnacgmmkmedpdaa
/- THE CELL 'sum', in the pinned program and in every row, IS THE sha256 OF THE DUMP (.gsa) THAT YtnacgmmkmedpdaaProg.lean LOADS. Nothing in Lean hashes anything: it is a label: what it is worth is what the hold of that sum in a sandbox is worth. -/
noncomputable def Try.pinned : Pinned := { name := "ytnacgmmkmedpdaa", sum := "d91670144d2903df23805bf6581481d109aeefefad4a71beedb906c4833d2a51", checked := Try.checked }
namespace Rows
def none {H : Type} : Left H := { results := [], args := [] }

/-- 'dormerlaw10.CacheRoom': WHATEVER THE INPUT: true; the input reads as it did. -/
def cacheRoomSpec : ChangeSpec := { name := "cacheRoom", fn := fun _ => fun
  | [d1, d2] => { results := [.lit (.bool true)], args := [d1, d2] }
  | _ => none }
def cacheRoomRow : OpenClaim := { program := "ytnacgmmkmedpdaa", sum := "d91670144d2903df23805bf6581481d109aeefefad4a71beedb906c4833d2a51", func := "dormer/dormerlaw10.CacheRoom", spec := "cacheRoom", plainKeys := false, apart := false }
def CacheRoomSaid : Prop := cacheRoomRow.holds Try.pinned (OpenSpec.ofChange cacheRoomSpec)

/-- ITS FALSE NEIGHBOUR: 'it returns false'. Refute it at one input. -/
def cacheRoomWrong : ChangeSpec := { name := "cacheRoom", fn := fun _ => fun
  | [d1, d2] => { results := [.lit (.bool false)], args := [d1, d2] }
  | _ => none }
def CacheRoomWrongFalsely : Prop := cacheRoomRow.holds Try.pinned (OpenSpec.ofChange cacheRoomWrong)

/-- 'dormerlaw10.CacheDrops': WHATEVER THE INPUT: true; the input reads as it did. -/
def cacheDropsSpec : ChangeSpec := { name := "cacheDrops", fn := fun _ => fun
  | [d1, d2, d3] => { results := [.lit (.bool true)], args := [d1, d2, d3] }
  | _ => none }
def cacheDropsRow : OpenClaim := { program := "ytnacgmmkmedpdaa", sum := "d91670144d2903df23805bf6581481d109aeefefad4a71beedb906c4833d2a51", func := "dormer/dormerlaw10.CacheDrops", spec := "cacheDrops", plainKeys := false, apart := false }
def CacheDropsSaid : Prop := cacheDropsRow.holds Try.pinned (OpenSpec.ofChange cacheDropsSpec)

/-- ITS FALSE NEIGHBOUR: 'it returns false'. Refute it at one input. -/
def cacheDropsWrong : ChangeSpec := { name := "cacheDrops", fn := fun _ => fun
  | [d1, d2, d3] => { results := [.lit (.bool false)], args := [d1, d2, d3] }
  | _ => none }
def CacheDropsWrongFalsely : Prop := cacheDropsRow.holds Try.pinned (OpenSpec.ofChange cacheDropsWrong)

/-- 'dormerlaw10.CacheEvicts': WHATEVER THE INPUT: true; the input reads as it did. -/
def cacheEvictsSpec : ChangeSpec := { name := "cacheEvicts", fn := fun _ => fun
  | [d1, d2, d3] => { results := [.lit (.bool true)], args := [d1, d2, d3] }
  | _ => none }
def cacheEvictsRow : OpenClaim := { program := "ytnacgmmkmedpdaa", sum := "d91670144d2903df23805bf6581481d109aeefefad4a71beedb906c4833d2a51", func := "dormer/dormerlaw10.CacheEvicts", spec := "cacheEvicts", plainKeys := false, apart := false }
def CacheEvictsSaid : Prop := cacheEvictsRow.holds Try.pinned (OpenSpec.ofChange cacheEvictsSpec)

/-- ITS FALSE NEIGHBOUR: 'it returns false'. Refute it at one input. -/
def cacheEvictsWrong : ChangeSpec := { name := "cacheEvicts", fn := fun _ => fun
  | [d1, d2, d3] => { results := [.lit (.bool false)], args := [d1, d2, d3] }
  | _ => none }
def CacheEvictsWrongFalsely : Prop := cacheEvictsRow.holds Try.pinned (OpenSpec.ofChange cacheEvictsWrong)

/-- 'dormerlaw10.CachePlays': WHATEVER THE INPUT: true; the input reads as it did. -/
def cachePlaysSpec : ChangeSpec := { name := "cachePlays", fn := fun _ => fun
  | [d1, d2] => { results := [.lit (.bool true)], args := [d1, d2] }
  | _ => none }
def cachePlaysRow : OpenClaim := { program := "ytnacgmmkmedpdaa", sum := "d91670144d2903df23805bf6581481d109aeefefad4a71beedb906c4833d2a51", func := "dormer/dormerlaw10.CachePlays", spec := "cachePlays", plainKeys := false, apart := false }
def CachePlaysSaid : Prop := cachePlaysRow.holds Try.pinned (OpenSpec.ofChange cachePlaysSpec)

/-- ITS FALSE NEIGHBOUR: 'it returns false'. Refute it at one input. -/
def cachePlaysWrong : ChangeSpec := { name := "cachePlays", fn := fun _ => fun
  | [d1, d2] => { results := [.lit (.bool false)], args := [d1, d2] }
  | _ => none }
def CachePlaysWrongFalsely : Prop := cachePlaysRow.holds Try.pinned (OpenSpec.ofChange cachePlaysWrong)

/-- 'dormerlaw10.CachePuts': WHATEVER THE INPUT: true; the input reads as it did. -/
def cachePutsSpec : ChangeSpec := { name := "cachePuts", fn := fun _ => fun
  | [d1, d2, d3] => { results := [.lit (.bool true)], args := [d1, d2, d3] }
  | _ => none }
def cachePutsRow : OpenClaim := { program := "ytnacgmmkmedpdaa", sum := "d91670144d2903df23805bf6581481d109aeefefad4a71beedb906c4833d2a51", func := "dormer/dormerlaw10.CachePuts", spec := "cachePuts", plainKeys := false, apart := false }
def CachePutsSaid : Prop := cachePutsRow.holds Try.pinned (OpenSpec.ofChange cachePutsSpec)

/-- ITS FALSE NEIGHBOUR: 'it returns false'. Refute it at one input. -/
def cachePutsWrong : ChangeSpec := { name := "cachePuts", fn := fun _ => fun
  | [d1, d2, d3] => { results := [.lit (.bool false)], args := [d1, d2, d3] }
  | _ => none }
def CachePutsWrongFalsely : Prop := cachePutsRow.holds Try.pinned (OpenSpec.ofChange cachePutsWrong)

/-- 'dormerlaw10.CacheNobody': WHATEVER THE INPUT: true; the input reads as it did. -/
def cacheNobodySpec : ChangeSpec := { name := "cacheNobody", fn := fun _ => fun
  | [d] => { results := [.lit (.bool true)], args := [d] }
  | _ => none }
def cacheNobodyRow : OpenClaim := { program := "ytnacgmmkmedpdaa", sum := "d91670144d2903df23805bf6581481d109aeefefad4a71beedb906c4833d2a51", func := "dormer/dormerlaw10.CacheNobody", spec := "cacheNobody", plainKeys := false, apart := false }
def CacheNobodySaid : Prop := cacheNobodyRow.holds Try.pinned (OpenSpec.ofChange cacheNobodySpec)

/-- ITS FALSE NEIGHBOUR: 'it returns false'. Refute it at one input. -/
def cacheNobodyWrong : ChangeSpec := { name := "cacheNobody", fn := fun _ => fun
  | [d] => { results := [.lit (.bool false)], args := [d] }
  | _ => none }
def CacheNobodyWrongFalsely : Prop := cacheNobodyRow.holds Try.pinned (OpenSpec.ofChange cacheNobodyWrong)

/-- 'dormerlaw13.TlbPlays': WHATEVER THE INPUT: true; the input reads as it did. -/
def tlbPlaysSpec : ChangeSpec := { name := "tlbPlays", fn := fun _ => fun
  | [d1, d2] => { results := [.lit (.bool true)], args := [d1, d2] }
  | _ => none }
def tlbPlaysRow : OpenClaim := { program := "ytnacgmmkmedpdaa", sum := "d91670144d2903df23805bf6581481d109aeefefad4a71beedb906c4833d2a51", func := "dormer/dormerlaw13.TlbPlays", spec := "tlbPlays", plainKeys := false, apart := false }
def TlbPlaysSaid : Prop := tlbPlaysRow.holds Try.pinned (OpenSpec.ofChange tlbPlaysSpec)

/-- ITS FALSE NEIGHBOUR: 'it returns false'. Refute it at one input. -/
def tlbPlaysWrong : ChangeSpec := { name := "tlbPlays", fn := fun _ => fun
  | [d1, d2] => { results := [.lit (.bool false)], args := [d1, d2] }
  | _ => none }
def TlbPlaysWrongFalsely : Prop := tlbPlaysRow.holds Try.pinned (OpenSpec.ofChange tlbPlaysWrong)

/-- 'dormerlaw13.TlbSmall': WHATEVER THE INPUT: true; the input reads as it did. -/
def tlbSmallSpec : ChangeSpec := { name := "tlbSmall", fn := fun _ => fun
  | [d1, d2] => { results := [.lit (.bool true)], args := [d1, d2] }
  | _ => none }
def tlbSmallRow : OpenClaim := { program := "ytnacgmmkmedpdaa", sum := "d91670144d2903df23805bf6581481d109aeefefad4a71beedb906c4833d2a51", func := "dormer/dormerlaw13.TlbSmall", spec := "tlbSmall", plainKeys := false, apart := false }
def TlbSmallSaid : Prop := tlbSmallRow.holds Try.pinned (OpenSpec.ofChange tlbSmallSpec)

/-- ITS FALSE NEIGHBOUR: 'it returns false'. Refute it at one input. -/
def tlbSmallWrong : ChangeSpec := { name := "tlbSmall", fn := fun _ => fun
  | [d1, d2] => { results := [.lit (.bool false)], args := [d1, d2] }
  | _ => none }
def TlbSmallWrongFalsely : Prop := tlbSmallRow.holds Try.pinned (OpenSpec.ofChange tlbSmallWrong)

/-- 'dormerlaw13.TlbGreat': WHATEVER THE INPUT: true; the input reads as it did. -/
def tlbGreatSpec : ChangeSpec := { name := "tlbGreat", fn := fun _ => fun
  | [d1, d2, d3] => { results := [.lit (.bool true)], args := [d1, d2, d3] }
  | _ => none }
def tlbGreatRow : OpenClaim := { program := "ytnacgmmkmedpdaa", sum := "d91670144d2903df23805bf6581481d109aeefefad4a71beedb906c4833d2a51", func := "dormer/dormerlaw13.TlbGreat", spec := "tlbGreat", plainKeys := false, apart := false }
def TlbGreatSaid : Prop := tlbGreatRow.holds Try.pinned (OpenSpec.ofChange tlbGreatSpec)

/-- ITS FALSE NEIGHBOUR: 'it returns false'. Refute it at one input. -/
def tlbGreatWrong : ChangeSpec := { name := "tlbGreat", fn := fun _ => fun
  | [d1, d2, d3] => { results := [.lit (.bool false)], args := [d1, d2, d3] }
  | _ => none }
def TlbGreatWrongFalsely : Prop := tlbGreatRow.holds Try.pinned (OpenSpec.ofChange tlbGreatWrong)

/-- 'dormerlaw13.TlbDrops': WHATEVER THE INPUT: true; the input reads as it did. -/
def tlbDropsSpec : ChangeSpec := { name := "tlbDrops", fn := fun _ => fun
  | [d1, d2, d3] => { results := [.lit (.bool true)], args := [d1, d2, d3] }
  | _ => none }
def tlbDropsRow : OpenClaim := { program := "ytnacgmmkmedpdaa", sum := "d91670144d2903df23805bf6581481d109aeefefad4a71beedb906c4833d2a51", func := "dormer/dormerlaw13.TlbDrops", spec := "tlbDrops", plainKeys := false, apart := false }
def TlbDropsSaid : Prop := tlbDropsRow.holds Try.pinned (OpenSpec.ofChange tlbDropsSpec)

/-- ITS FALSE NEIGHBOUR: 'it returns false'. Refute it at one input. -/
def tlbDropsWrong : ChangeSpec := { name := "tlbDrops", fn := fun _ => fun
  | [d1, d2, d3] => { results := [.lit (.bool false)], args := [d1, d2, d3] }
  | _ => none }
def TlbDropsWrongFalsely : Prop := tlbDropsRow.holds Try.pinned (OpenSpec.ofChange tlbDropsWrong)

/-- 'dormerlaw13.TlbOf': WHATEVER THE INPUT: true; the input reads as it did. -/
def tlbOfSpec : ChangeSpec := { name := "tlbOf", fn := fun _ => fun
  | [d1, d2, d3] => { results := [.lit (.bool true)], args := [d1, d2, d3] }
  | _ => none }
def tlbOfRow : OpenClaim := { program := "ytnacgmmkmedpdaa", sum := "d91670144d2903df23805bf6581481d109aeefefad4a71beedb906c4833d2a51", func := "dormer/dormerlaw13.TlbOf", spec := "tlbOf", plainKeys := false, apart := false }
def TlbOfSaid : Prop := tlbOfRow.holds Try.pinned (OpenSpec.ofChange tlbOfSpec)

/-- ITS FALSE NEIGHBOUR: 'it returns false'. Refute it at one input. -/
def tlbOfWrong : ChangeSpec := { name := "tlbOf", fn := fun _ => fun
  | [d1, d2, d3] => { results := [.lit (.bool false)], args := [d1, d2, d3] }
  | _ => none }
def TlbOfWrongFalsely : Prop := tlbOfRow.holds Try.pinned (OpenSpec.ofChange tlbOfWrong)

/-- 'dormerlaw13.TlbRoom': WHATEVER THE INPUT: true; the input reads as it did. -/
def tlbRoomSpec : ChangeSpec := { name := "tlbRoom", fn := fun _ => fun
  | [d1, d2, d3] => { results := [.lit (.bool true)], args := [d1, d2, d3] }
  | _ => none }
def tlbRoomRow : OpenClaim := { program := "ytnacgmmkmedpdaa", sum := "d91670144d2903df23805bf6581481d109aeefefad4a71beedb906c4833d2a51", func := "dormer/dormerlaw13.TlbRoom", spec := "tlbRoom", plainKeys := false, apart := false }
def TlbRoomSaid : Prop := tlbRoomRow.holds Try.pinned (OpenSpec.ofChange tlbRoomSpec)

/-- ITS FALSE NEIGHBOUR: 'it returns false'. Refute it at one input. -/
def tlbRoomWrong : ChangeSpec := { name := "tlbRoom", fn := fun _ => fun
  | [d1, d2, d3] => { results := [.lit (.bool false)], args := [d1, d2, d3] }
  | _ => none }
def TlbRoomWrongFalsely : Prop := tlbRoomRow.holds Try.pinned (OpenSpec.ofChange tlbRoomWrong)

/-- 'dormerlaw11.PscGoes': WHATEVER THE INPUT: true; the input reads as it did. -/
def pscGoesSpec : ChangeSpec := { name := "pscGoes", fn := fun _ => fun
  | [d1, d2, d3] => { results := [.lit (.bool true)], args := [d1, d2, d3] }
  | _ => none }
def pscGoesRow : OpenClaim := { program := "ytnacgmmkmedpdaa", sum := "d91670144d2903df23805bf6581481d109aeefefad4a71beedb906c4833d2a51", func := "dormer/dormerlaw11.PscGoes", spec := "pscGoes", plainKeys := false, apart := false }
def PscGoesSaid : Prop := pscGoesRow.holds Try.pinned (OpenSpec.ofChange pscGoesSpec)

/-- ITS FALSE NEIGHBOUR: 'it returns false'. Refute it at one input. -/
def pscGoesWrong : ChangeSpec := { name := "pscGoes", fn := fun _ => fun
  | [d1, d2, d3] => { results := [.lit (.bool false)], args := [d1, d2, d3] }
  | _ => none }
def PscGoesWrongFalsely : Prop := pscGoesRow.holds Try.pinned (OpenSpec.ofChange pscGoesWrong)

/-- 'dormerlaw11.PscFills': WHATEVER THE INPUT: true; the input reads as it did. -/
def pscFillsSpec : ChangeSpec := { name := "pscFills", fn := fun _ => fun
  | [d1, d2, d3] => { results := [.lit (.bool true)], args := [d1, d2, d3] }
  | _ => none }
def pscFillsRow : OpenClaim := { program := "ytnacgmmkmedpdaa", sum := "d91670144d2903df23805bf6581481d109aeefefad4a71beedb906c4833d2a51", func := "dormer/dormerlaw11.PscFills", spec := "pscFills", plainKeys := false, apart := false }
def PscFillsSaid : Prop := pscFillsRow.holds Try.pinned (OpenSpec.ofChange pscFillsSpec)

/-- ITS FALSE NEIGHBOUR: 'it returns false'. Refute it at one input. -/
def pscFillsWrong : ChangeSpec := { name := "pscFills", fn := fun _ => fun
  | [d1, d2, d3] => { results := [.lit (.bool false)], args := [d1, d2, d3] }
  | _ => none }
def PscFillsWrongFalsely : Prop := pscFillsRow.holds Try.pinned (OpenSpec.ofChange pscFillsWrong)

/-- 'dormerlaw11.PscApart': WHATEVER THE INPUT: true; the input reads as it did. -/
def pscApartSpec : ChangeSpec := { name := "pscApart", fn := fun _ => fun
  | [d1, d2, d3] => { results := [.lit (.bool true)], args := [d1, d2, d3] }
  | _ => none }
def pscApartRow : OpenClaim := { program := "ytnacgmmkmedpdaa", sum := "d91670144d2903df23805bf6581481d109aeefefad4a71beedb906c4833d2a51", func := "dormer/dormerlaw11.PscApart", spec := "pscApart", plainKeys := false, apart := false }
def PscApartSaid : Prop := pscApartRow.holds Try.pinned (OpenSpec.ofChange pscApartSpec)

/-- ITS FALSE NEIGHBOUR: 'it returns false'. Refute it at one input. -/
def pscApartWrong : ChangeSpec := { name := "pscApart", fn := fun _ => fun
  | [d1, d2, d3] => { results := [.lit (.bool false)], args := [d1, d2, d3] }
  | _ => none }
def PscApartWrongFalsely : Prop := pscApartRow.holds Try.pinned (OpenSpec.ofChange pscApartWrong)

/-- 'dormerlaw11.PscDrops': WHATEVER THE INPUT: true; the input reads as it did. -/
def pscDropsSpec : ChangeSpec := { name := "pscDrops", fn := fun _ => fun
  | [d1, d2, d3] => { results := [.lit (.bool true)], args := [d1, d2, d3] }
  | _ => none }
def pscDropsRow : OpenClaim := { program := "ytnacgmmkmedpdaa", sum := "d91670144d2903df23805bf6581481d109aeefefad4a71beedb906c4833d2a51", func := "dormer/dormerlaw11.PscDrops", spec := "pscDrops", plainKeys := false, apart := false }
def PscDropsSaid : Prop := pscDropsRow.holds Try.pinned (OpenSpec.ofChange pscDropsSpec)

/-- ITS FALSE NEIGHBOUR: 'it returns false'. Refute it at one input. -/
def pscDropsWrong : ChangeSpec := { name := "pscDrops", fn := fun _ => fun
  | [d1, d2, d3] => { results := [.lit (.bool false)], args := [d1, d2, d3] }
  | _ => none }
def PscDropsWrongFalsely : Prop := pscDropsRow.holds Try.pinned (OpenSpec.ofChange pscDropsWrong)

/-- 'dormerlaw11.PscPlays': WHATEVER THE INPUT: true; the input reads as it did. -/
def pscPlaysSpec : ChangeSpec := { name := "pscPlays", fn := fun _ => fun
  | [d1, d2] => { results := [.lit (.bool true)], args := [d1, d2] }
  | _ => none }
def pscPlaysRow : OpenClaim := { program := "ytnacgmmkmedpdaa", sum := "d91670144d2903df23805bf6581481d109aeefefad4a71beedb906c4833d2a51", func := "dormer/dormerlaw11.PscPlays", spec := "pscPlays", plainKeys := false, apart := false }
def PscPlaysSaid : Prop := pscPlaysRow.holds Try.pinned (OpenSpec.ofChange pscPlaysSpec)

/-- ITS FALSE NEIGHBOUR: 'it returns false'. Refute it at one input. -/
def pscPlaysWrong : ChangeSpec := { name := "pscPlays", fn := fun _ => fun
  | [d1, d2] => { results := [.lit (.bool false)], args := [d1, d2] }
  | _ => none }
def PscPlaysWrongFalsely : Prop := pscPlaysRow.holds Try.pinned (OpenSpec.ofChange pscPlaysWrong)

/-- 'dormerlaw11.PscRoom': WHATEVER THE INPUT: true; the input reads as it did. -/
def pscRoomSpec : ChangeSpec := { name := "pscRoom", fn := fun _ => fun
  | [d1, d2, d3] => { results := [.lit (.bool true)], args := [d1, d2, d3] }
  | _ => none }
def pscRoomRow : OpenClaim := { program := "ytnacgmmkmedpdaa", sum := "d91670144d2903df23805bf6581481d109aeefefad4a71beedb906c4833d2a51", func := "dormer/dormerlaw11.PscRoom", spec := "pscRoom", plainKeys := false, apart := false }
def PscRoomSaid : Prop := pscRoomRow.holds Try.pinned (OpenSpec.ofChange pscRoomSpec)

/-- ITS FALSE NEIGHBOUR: 'it returns false'. Refute it at one input. -/
def pscRoomWrong : ChangeSpec := { name := "pscRoom", fn := fun _ => fun
  | [d1, d2, d3] => { results := [.lit (.bool false)], args := [d1, d2, d3] }
  | _ => none }
def PscRoomWrongFalsely : Prop := pscRoomRow.holds Try.pinned (OpenSpec.ofChange pscRoomWrong)

/- THE SECOND FORM. 'bulk': how many values and letters a reading holds, each counted each time it is reached (what is shared counts as often as it is met; a slice's spare places count too). A statement '..UptoSaid' is the law's where the arguments, and the package variables that the reading takes, are together of bulk at most 1048576: NARROWER than '..Said'. Prove '..Said' where nothing that the law and all that it calls make is longer than what came in: it says more and counts as full. Else prove '..UptoSaid'. A law counts once. -/
mutual
def uptoBulk {H : Type} : DataW H → Nat
  | .lit (.string bytes) => bytes.length + 1
  | .lit _ => 1
  | .nil => 1
  | .ptr d => uptoBulk d + 1
  | .slice elems spare => uptoBulkAll elems + uptoBulkAll spare + 1
  | .agg parts => uptoBulkAll parts + 1
  | .iface _ d => uptoBulk d + 1
  | .map entries => uptoBulkEntries entries + 1
  | .held _ => 1
def uptoBulkAll {H : Type} : List (DataW H) → Nat
  | [] => 0
  | d :: r => uptoBulk d + uptoBulkAll r
def uptoBulkEntries {H : Type} : List (Lit × DataW H) → Nat
  | [] => 0
  | x :: r => uptoBulkEntry x + uptoBulkEntries r
def uptoBulkEntry {H : Type} : Lit × DataW H → Nat
  | (.string bytes, d) => bytes.length + uptoBulk d + 1
  | (_, d) => uptoBulk d + 1
 end
def uptoSmall : (H : Type) → List (DataW H) → Bool := fun _ ds => decide (uptoBulkAll ds ≤ 1048576)
def OpenSpec.upto (s : _root_.Go.ChangeSpec) : _root_.Go.OpenSpec := { _root_.Go.OpenSpec.ofChange s with cond := some uptoSmall }

/-- 'dormerlaw10.CacheRoom', WHERE WHAT IT READS IS OF BULK AT MOST 1048576: true; the input reads as it did. -/
def cacheRoomUptoRow : OpenClaim := { program := "ytnacgmmkmedpdaa", sum := "d91670144d2903df23805bf6581481d109aeefefad4a71beedb906c4833d2a51", func := "dormer/dormerlaw10.CacheRoom", spec := "cacheRoom", plainKeys := false, apart := false, narrowed := true }
def CacheRoomUptoSaid : Prop := cacheRoomUptoRow.holds Try.pinned (OpenSpec.upto cacheRoomSpec)

/-- 'dormerlaw10.CacheDrops', WHERE WHAT IT READS IS OF BULK AT MOST 1048576: true; the input reads as it did. -/
def cacheDropsUptoRow : OpenClaim := { program := "ytnacgmmkmedpdaa", sum := "d91670144d2903df23805bf6581481d109aeefefad4a71beedb906c4833d2a51", func := "dormer/dormerlaw10.CacheDrops", spec := "cacheDrops", plainKeys := false, apart := false, narrowed := true }
def CacheDropsUptoSaid : Prop := cacheDropsUptoRow.holds Try.pinned (OpenSpec.upto cacheDropsSpec)

/-- 'dormerlaw10.CacheEvicts', WHERE WHAT IT READS IS OF BULK AT MOST 1048576: true; the input reads as it did. -/
def cacheEvictsUptoRow : OpenClaim := { program := "ytnacgmmkmedpdaa", sum := "d91670144d2903df23805bf6581481d109aeefefad4a71beedb906c4833d2a51", func := "dormer/dormerlaw10.CacheEvicts", spec := "cacheEvicts", plainKeys := false, apart := false, narrowed := true }
def CacheEvictsUptoSaid : Prop := cacheEvictsUptoRow.holds Try.pinned (OpenSpec.upto cacheEvictsSpec)

/-- 'dormerlaw10.CachePlays', WHERE WHAT IT READS IS OF BULK AT MOST 1048576: true; the input reads as it did. -/
def cachePlaysUptoRow : OpenClaim := { program := "ytnacgmmkmedpdaa", sum := "d91670144d2903df23805bf6581481d109aeefefad4a71beedb906c4833d2a51", func := "dormer/dormerlaw10.CachePlays", spec := "cachePlays", plainKeys := false, apart := false, narrowed := true }
def CachePlaysUptoSaid : Prop := cachePlaysUptoRow.holds Try.pinned (OpenSpec.upto cachePlaysSpec)

/-- 'dormerlaw10.CachePuts', WHERE WHAT IT READS IS OF BULK AT MOST 1048576: true; the input reads as it did. -/
def cachePutsUptoRow : OpenClaim := { program := "ytnacgmmkmedpdaa", sum := "d91670144d2903df23805bf6581481d109aeefefad4a71beedb906c4833d2a51", func := "dormer/dormerlaw10.CachePuts", spec := "cachePuts", plainKeys := false, apart := false, narrowed := true }
def CachePutsUptoSaid : Prop := cachePutsUptoRow.holds Try.pinned (OpenSpec.upto cachePutsSpec)

/-- 'dormerlaw10.CacheNobody', WHERE WHAT IT READS IS OF BULK AT MOST 1048576: true; the input reads as it did. -/
def cacheNobodyUptoRow : OpenClaim := { program := "ytnacgmmkmedpdaa", sum := "d91670144d2903df23805bf6581481d109aeefefad4a71beedb906c4833d2a51", func := "dormer/dormerlaw10.CacheNobody", spec := "cacheNobody", plainKeys := false, apart := false, narrowed := true }
def CacheNobodyUptoSaid : Prop := cacheNobodyUptoRow.holds Try.pinned (OpenSpec.upto cacheNobodySpec)

/-- 'dormerlaw13.TlbPlays', WHERE WHAT IT READS IS OF BULK AT MOST 1048576: true; the input reads as it did. -/
def tlbPlaysUptoRow : OpenClaim := { program := "ytnacgmmkmedpdaa", sum := "d91670144d2903df23805bf6581481d109aeefefad4a71beedb906c4833d2a51", func := "dormer/dormerlaw13.TlbPlays", spec := "tlbPlays", plainKeys := false, apart := false, narrowed := true }
def TlbPlaysUptoSaid : Prop := tlbPlaysUptoRow.holds Try.pinned (OpenSpec.upto tlbPlaysSpec)

/-- 'dormerlaw13.TlbSmall', WHERE WHAT IT READS IS OF BULK AT MOST 1048576: true; the input reads as it did. -/
def tlbSmallUptoRow : OpenClaim := { program := "ytnacgmmkmedpdaa", sum := "d91670144d2903df23805bf6581481d109aeefefad4a71beedb906c4833d2a51", func := "dormer/dormerlaw13.TlbSmall", spec := "tlbSmall", plainKeys := false, apart := false, narrowed := true }
def TlbSmallUptoSaid : Prop := tlbSmallUptoRow.holds Try.pinned (OpenSpec.upto tlbSmallSpec)

/-- 'dormerlaw13.TlbGreat', WHERE WHAT IT READS IS OF BULK AT MOST 1048576: true; the input reads as it did. -/
def tlbGreatUptoRow : OpenClaim := { program := "ytnacgmmkmedpdaa", sum := "d91670144d2903df23805bf6581481d109aeefefad4a71beedb906c4833d2a51", func := "dormer/dormerlaw13.TlbGreat", spec := "tlbGreat", plainKeys := false, apart := false, narrowed := true }
def TlbGreatUptoSaid : Prop := tlbGreatUptoRow.holds Try.pinned (OpenSpec.upto tlbGreatSpec)

/-- 'dormerlaw13.TlbDrops', WHERE WHAT IT READS IS OF BULK AT MOST 1048576: true; the input reads as it did. -/
def tlbDropsUptoRow : OpenClaim := { program := "ytnacgmmkmedpdaa", sum := "d91670144d2903df23805bf6581481d109aeefefad4a71beedb906c4833d2a51", func := "dormer/dormerlaw13.TlbDrops", spec := "tlbDrops", plainKeys := false, apart := false, narrowed := true }
def TlbDropsUptoSaid : Prop := tlbDropsUptoRow.holds Try.pinned (OpenSpec.upto tlbDropsSpec)

/-- 'dormerlaw13.TlbOf', WHERE WHAT IT READS IS OF BULK AT MOST 1048576: true; the input reads as it did. -/
def tlbOfUptoRow : OpenClaim := { program := "ytnacgmmkmedpdaa", sum := "d91670144d2903df23805bf6581481d109aeefefad4a71beedb906c4833d2a51", func := "dormer/dormerlaw13.TlbOf", spec := "tlbOf", plainKeys := false, apart := false, narrowed := true }
def TlbOfUptoSaid : Prop := tlbOfUptoRow.holds Try.pinned (OpenSpec.upto tlbOfSpec)

/-- 'dormerlaw13.TlbRoom', WHERE WHAT IT READS IS OF BULK AT MOST 1048576: true; the input reads as it did. -/
def tlbRoomUptoRow : OpenClaim := { program := "ytnacgmmkmedpdaa", sum := "d91670144d2903df23805bf6581481d109aeefefad4a71beedb906c4833d2a51", func := "dormer/dormerlaw13.TlbRoom", spec := "tlbRoom", plainKeys := false, apart := false, narrowed := true }
def TlbRoomUptoSaid : Prop := tlbRoomUptoRow.holds Try.pinned (OpenSpec.upto tlbRoomSpec)

/-- 'dormerlaw11.PscGoes', WHERE WHAT IT READS IS OF BULK AT MOST 1048576: true; the input reads as it did. -/
def pscGoesUptoRow : OpenClaim := { program := "ytnacgmmkmedpdaa", sum := "d91670144d2903df23805bf6581481d109aeefefad4a71beedb906c4833d2a51", func := "dormer/dormerlaw11.PscGoes", spec := "pscGoes", plainKeys := false, apart := false, narrowed := true }
def PscGoesUptoSaid : Prop := pscGoesUptoRow.holds Try.pinned (OpenSpec.upto pscGoesSpec)

/-- 'dormerlaw11.PscFills', WHERE WHAT IT READS IS OF BULK AT MOST 1048576: true; the input reads as it did. -/
def pscFillsUptoRow : OpenClaim := { program := "ytnacgmmkmedpdaa", sum := "d91670144d2903df23805bf6581481d109aeefefad4a71beedb906c4833d2a51", func := "dormer/dormerlaw11.PscFills", spec := "pscFills", plainKeys := false, apart := false, narrowed := true }
def PscFillsUptoSaid : Prop := pscFillsUptoRow.holds Try.pinned (OpenSpec.upto pscFillsSpec)

/-- 'dormerlaw11.PscApart', WHERE WHAT IT READS IS OF BULK AT MOST 1048576: true; the input reads as it did. -/
def pscApartUptoRow : OpenClaim := { program := "ytnacgmmkmedpdaa", sum := "d91670144d2903df23805bf6581481d109aeefefad4a71beedb906c4833d2a51", func := "dormer/dormerlaw11.PscApart", spec := "pscApart", plainKeys := false, apart := false, narrowed := true }
def PscApartUptoSaid : Prop := pscApartUptoRow.holds Try.pinned (OpenSpec.upto pscApartSpec)

/-- 'dormerlaw11.PscDrops', WHERE WHAT IT READS IS OF BULK AT MOST 1048576: true; the input reads as it did. -/
def pscDropsUptoRow : OpenClaim := { program := "ytnacgmmkmedpdaa", sum := "d91670144d2903df23805bf6581481d109aeefefad4a71beedb906c4833d2a51", func := "dormer/dormerlaw11.PscDrops", spec := "pscDrops", plainKeys := false, apart := false, narrowed := true }
def PscDropsUptoSaid : Prop := pscDropsUptoRow.holds Try.pinned (OpenSpec.upto pscDropsSpec)

/-- 'dormerlaw11.PscPlays', WHERE WHAT IT READS IS OF BULK AT MOST 1048576: true; the input reads as it did. -/
def pscPlaysUptoRow : OpenClaim := { program := "ytnacgmmkmedpdaa", sum := "d91670144d2903df23805bf6581481d109aeefefad4a71beedb906c4833d2a51", func := "dormer/dormerlaw11.PscPlays", spec := "pscPlays", plainKeys := false, apart := false, narrowed := true }
def PscPlaysUptoSaid : Prop := pscPlaysUptoRow.holds Try.pinned (OpenSpec.upto pscPlaysSpec)

/-- 'dormerlaw11.PscRoom', WHERE WHAT IT READS IS OF BULK AT MOST 1048576: true; the input reads as it did. -/
def pscRoomUptoRow : OpenClaim := { program := "ytnacgmmkmedpdaa", sum := "d91670144d2903df23805bf6581481d109aeefefad4a71beedb906c4833d2a51", func := "dormer/dormerlaw11.PscRoom", spec := "pscRoom", plainKeys := false, apart := false, narrowed := true }
def PscRoomUptoSaid : Prop := pscRoomUptoRow.holds Try.pinned (OpenSpec.upto pscRoomSpec)

end Rows
end Go.Proofs.Ytnacgmmkmedpdaa
