/-
  DERIVED. GIVEN WITH THE SEED: THE CARDS: each row of YtaobmiphnpkoiaaDoorRows.lean that lists a variable, with what it lists TIED to the program's text (the seventh form; the later family's looks); each row that meets fmt, with fmt's text TOLD by the authors' own Lean function (tested against real Go, not proved from fmt's source: count such statements apart). THE CARD IS WHAT COUNTS. Prove the row's statement (the work); the ties are given (YtaobmiphnpkoiaaDoorTie.lean); close each card by the builder's one call (the guide's Derived/Test/ToyasCard.lean, 'card_holds'). Laid BY PROGRAM, IN A SANDBOX (cutbox-door.mjs). By AI agents, Wed Nov 11 2026. No macro, syntax, notation, axiom, sorry.
-/
import Derived.Test.YtaobmiphnpkoiaaDoorRows
import GoSem.ClaimSeven
namespace Go.Proofs.YtaobmiphnpkoiaaDoor
namespace Rows

/-- THE TIED CARD OF 'dormerlaw07.FaultPages'. -/
def faultPagesCard : Claim7 := { stood := { row := faultPagesRow, standIns := [], harness := (true, "c4a850e76fc703c490bb9adaaf9a44107451773221f761565fdede5900b37ffe"), looks := true }, kinds := [], alts := [], laidByText := true, laidKinds := [.data, .data, .data, .handle], laidTests := true, laidLooks := .later }
def FaultPagesCardSaid : Prop := Claim7.holds Tryd.pinned (.plain (OpenSpec.ofChange faultPagesSpec)) faultPagesCard

/-- THE SECOND FORM's CARD OF 'dormerlaw07.FaultPages'. -/
def faultPagesUptoCard : Claim7 := { stood := { row := faultPagesUptoRow, standIns := [], harness := (true, "c4a850e76fc703c490bb9adaaf9a44107451773221f761565fdede5900b37ffe"), looks := true }, kinds := [], alts := [], laidByText := true, laidKinds := [.data, .data, .data, .handle], laidTests := true, laidLooks := .later }
def FaultPagesUptoCardSaid : Prop := Claim7.holds Tryd.pinned (.plain (OpenSpec.upto faultPagesSpec)) faultPagesUptoCard
end Rows
end Go.Proofs.YtaobmiphnpkoiaaDoor
