/-
  DERIVED. GIVEN WITH THE SEED: THE CARDS: each row of YtjlgfkhkjfiadaaDoorRows.lean that lists a variable, with what it lists TIED to the program's text (the seventh form; the later family's looks); each row that meets fmt, with fmt's text TOLD by the authors' own Lean function (tested against real Go, not proved from fmt's source: count such statements apart). THE CARD IS WHAT COUNTS. Prove the row's statement (the work); the ties are given (YtjlgfkhkjfiadaaDoorTie.lean); close each card by the builder's one call (the guide's Derived/Test/ToyasCard.lean, 'card_holds'). Laid BY PROGRAM, IN A SANDBOX (cutbox-door.mjs). By AI agents, Wed Nov 11 2026. No macro, syntax, notation, axiom, sorry.
-/
import Derived.Test.YtjlgfkhkjfiadaaDoorRows
import GoSem.ClaimSeven
namespace Go.Proofs.YtjlgfkhkjfiadaaDoor
namespace Rows

/-- THE TIED CARD OF 'dormerlaw07.FaultFound'. -/
def faultFoundCard : Claim7 := { stood := { row := faultFoundRow, standIns := [], harness := (true, "4e9dc70909bd60f885d576b482dfc0a7ba19cab486a539b4cf15752227904aa9"), looks := true }, kinds := [], alts := [], laidByText := true, laidKinds := [.handle], laidTests := true, laidLooks := .later }
def FaultFoundCardSaid : Prop := Claim7.holds Tryd.pinned (.plain (OpenSpec.ofChange faultFoundSpec)) faultFoundCard

/-- THE TIED CARD OF 'dormerlaw07.FaultGP'. -/
def faultGPCard : Claim7 := { stood := { row := faultGPRow, standIns := [], harness := (true, "4e9dc70909bd60f885d576b482dfc0a7ba19cab486a539b4cf15752227904aa9"), looks := true }, kinds := [], alts := [], laidByText := true, laidKinds := [.handle], laidTests := true, laidLooks := .later }
def FaultGPCardSaid : Prop := Claim7.holds Tryd.pinned (.plain (OpenSpec.ofChange faultGPSpec)) faultGPCard

/-- THE TIED CARD OF 'dormerlaw17.PieceCuts'. -/
def pieceCutsCard : Claim7 := { stood := { row := pieceCutsRow, standIns := [], harness := (true, "4e9dc70909bd60f885d576b482dfc0a7ba19cab486a539b4cf15752227904aa9"), looks := true }, kinds := [], alts := [], laidByText := true, laidKinds := [.handle], laidTests := true, laidLooks := .later }
def PieceCutsCardSaid : Prop := Claim7.holds Tryd.pinned (.plain (OpenSpec.ofChange pieceCutsSpec)) pieceCutsCard

/-- THE TIED CARD OF 'dormerlaw17.PieceFaults'. -/
def pieceFaultsCard : Claim7 := { stood := { row := pieceFaultsRow, standIns := [], harness := (true, "4e9dc70909bd60f885d576b482dfc0a7ba19cab486a539b4cf15752227904aa9"), looks := true }, kinds := [], alts := [], laidByText := true, laidKinds := [.handle], laidTests := true, laidLooks := .later }
def PieceFaultsCardSaid : Prop := Claim7.holds Tryd.pinned (.plain (OpenSpec.ofChange pieceFaultsSpec)) pieceFaultsCard

/-- THE TIED CARD OF 'dormerlaw07.FaultKinds'. -/
def faultKindsCard : Claim7 := { stood := { row := faultKindsRow, standIns := [], harness := (true, "4e9dc70909bd60f885d576b482dfc0a7ba19cab486a539b4cf15752227904aa9"), looks := true }, kinds := [], alts := [], laidByText := true, laidKinds := [.handle], laidTests := true, laidLooks := .later }
def FaultKindsCardSaid : Prop := Claim7.holds Tryd.pinned (.plain (OpenSpec.ofChange faultKindsSpec)) faultKindsCard

/-- THE TIED CARD OF 'dormerlaw07.FaultPages'. -/
def faultPagesCard : Claim7 := { stood := { row := faultPagesRow, standIns := [], harness := (true, "4e9dc70909bd60f885d576b482dfc0a7ba19cab486a539b4cf15752227904aa9"), looks := true }, kinds := [], alts := [], laidByText := true, laidKinds := [.data, .data, .data, .handle], laidTests := true, laidLooks := .later }
def FaultPagesCardSaid : Prop := Claim7.holds Tryd.pinned (.plain (OpenSpec.ofChange faultPagesSpec)) faultPagesCard

/-- THE TIED CARD OF 'dormerlaw07.FaultWords'. -/
def faultWordsCard : Claim7 := { stood := { row := faultWordsRow, standIns := [], harness := (true, "4e9dc70909bd60f885d576b482dfc0a7ba19cab486a539b4cf15752227904aa9"), looks := true }, kinds := [], alts := [], laidByText := true, laidKinds := [.handle], laidTests := true, laidLooks := .later }
def FaultWordsCardSaid : Prop := Claim7.holds Tryd.pinned (.plain (OpenSpec.ofChange faultWordsSpec)) faultWordsCard

/-- THE TIED CARD OF 'dormerlaw07.FaultNone'. -/
def faultNoneCard : Claim7 := { stood := { row := faultNoneRow, standIns := [], harness := (true, "4e9dc70909bd60f885d576b482dfc0a7ba19cab486a539b4cf15752227904aa9"), looks := true }, kinds := [], alts := [], laidByText := true, laidKinds := [.handle], laidTests := true, laidLooks := .later }
def FaultNoneCardSaid : Prop := Claim7.holds Tryd.pinned (.plain (OpenSpec.ofChange faultNoneSpec)) faultNoneCard

/-- THE SECOND FORM's CARD OF 'dormerlaw07.FaultFound'. -/
def faultFoundUptoCard : Claim7 := { stood := { row := faultFoundUptoRow, standIns := [], harness := (true, "4e9dc70909bd60f885d576b482dfc0a7ba19cab486a539b4cf15752227904aa9"), looks := true }, kinds := [], alts := [], laidByText := true, laidKinds := [.handle], laidTests := true, laidLooks := .later }
def FaultFoundUptoCardSaid : Prop := Claim7.holds Tryd.pinned (.plain (OpenSpec.upto faultFoundSpec)) faultFoundUptoCard

/-- THE SECOND FORM's CARD OF 'dormerlaw07.FaultGP'. -/
def faultGPUptoCard : Claim7 := { stood := { row := faultGPUptoRow, standIns := [], harness := (true, "4e9dc70909bd60f885d576b482dfc0a7ba19cab486a539b4cf15752227904aa9"), looks := true }, kinds := [], alts := [], laidByText := true, laidKinds := [.handle], laidTests := true, laidLooks := .later }
def FaultGPUptoCardSaid : Prop := Claim7.holds Tryd.pinned (.plain (OpenSpec.upto faultGPSpec)) faultGPUptoCard

/-- THE SECOND FORM's CARD OF 'dormerlaw17.PieceCuts'. -/
def pieceCutsUptoCard : Claim7 := { stood := { row := pieceCutsUptoRow, standIns := [], harness := (true, "4e9dc70909bd60f885d576b482dfc0a7ba19cab486a539b4cf15752227904aa9"), looks := true }, kinds := [], alts := [], laidByText := true, laidKinds := [.handle], laidTests := true, laidLooks := .later }
def PieceCutsUptoCardSaid : Prop := Claim7.holds Tryd.pinned (.plain (OpenSpec.upto pieceCutsSpec)) pieceCutsUptoCard

/-- THE SECOND FORM's CARD OF 'dormerlaw17.PieceFaults'. -/
def pieceFaultsUptoCard : Claim7 := { stood := { row := pieceFaultsUptoRow, standIns := [], harness := (true, "4e9dc70909bd60f885d576b482dfc0a7ba19cab486a539b4cf15752227904aa9"), looks := true }, kinds := [], alts := [], laidByText := true, laidKinds := [.handle], laidTests := true, laidLooks := .later }
def PieceFaultsUptoCardSaid : Prop := Claim7.holds Tryd.pinned (.plain (OpenSpec.upto pieceFaultsSpec)) pieceFaultsUptoCard

/-- THE SECOND FORM's CARD OF 'dormerlaw07.FaultKinds'. -/
def faultKindsUptoCard : Claim7 := { stood := { row := faultKindsUptoRow, standIns := [], harness := (true, "4e9dc70909bd60f885d576b482dfc0a7ba19cab486a539b4cf15752227904aa9"), looks := true }, kinds := [], alts := [], laidByText := true, laidKinds := [.handle], laidTests := true, laidLooks := .later }
def FaultKindsUptoCardSaid : Prop := Claim7.holds Tryd.pinned (.plain (OpenSpec.upto faultKindsSpec)) faultKindsUptoCard

/-- THE SECOND FORM's CARD OF 'dormerlaw07.FaultPages'. -/
def faultPagesUptoCard : Claim7 := { stood := { row := faultPagesUptoRow, standIns := [], harness := (true, "4e9dc70909bd60f885d576b482dfc0a7ba19cab486a539b4cf15752227904aa9"), looks := true }, kinds := [], alts := [], laidByText := true, laidKinds := [.data, .data, .data, .handle], laidTests := true, laidLooks := .later }
def FaultPagesUptoCardSaid : Prop := Claim7.holds Tryd.pinned (.plain (OpenSpec.upto faultPagesSpec)) faultPagesUptoCard

/-- THE SECOND FORM's CARD OF 'dormerlaw07.FaultWords'. -/
def faultWordsUptoCard : Claim7 := { stood := { row := faultWordsUptoRow, standIns := [], harness := (true, "4e9dc70909bd60f885d576b482dfc0a7ba19cab486a539b4cf15752227904aa9"), looks := true }, kinds := [], alts := [], laidByText := true, laidKinds := [.handle], laidTests := true, laidLooks := .later }
def FaultWordsUptoCardSaid : Prop := Claim7.holds Tryd.pinned (.plain (OpenSpec.upto faultWordsSpec)) faultWordsUptoCard

/-- THE SECOND FORM's CARD OF 'dormerlaw07.FaultNone'. -/
def faultNoneUptoCard : Claim7 := { stood := { row := faultNoneUptoRow, standIns := [], harness := (true, "4e9dc70909bd60f885d576b482dfc0a7ba19cab486a539b4cf15752227904aa9"), looks := true }, kinds := [], alts := [], laidByText := true, laidKinds := [.handle], laidTests := true, laidLooks := .later }
def FaultNoneUptoCardSaid : Prop := Claim7.holds Tryd.pinned (.plain (OpenSpec.upto faultNoneSpec)) faultNoneUptoCard
end Rows
end Go.Proofs.YtjlgfkhkjfiadaaDoor
