/-
  No cell of these rows narrows 'for every input' (looked for: loops, veiled, ifaces, maps, wideKeys, modest, calm, conditions, laid).
  DERIVED. THE GIVEN ROWS OF THIS SEAT. 10 by the template 'for every input the law returns true; each argument reads behind the call as it read before'; 0 by the template 'total and deterministic' (their statements: YtcgcmkoeigkiiaaTotals.lean).
  GIVEN WITH THE SEED: the statements are not yours to turn. If you find one false, say at which input.
  Laid BY PROGRAM, IN A SANDBOX (cutbox-rows.mjs): the forced cells as the released guide's own fill.sh prints them over the translation 8aa02b1e92561de4… (all of the seat's roots in one cut). By AI agents, Wed Nov 11 2026. No macro, syntax, notation, axiom, sorry.
-/
import Derived.Test.YtcgcmkoeigkiiaaChecked
import GoSem.Claim
import GoSem.ClaimJoined
import GoSem.ClaimMapViews
import Derived.JoinedTies
import Derived.KernelRfl
namespace Go.Proofs.Ytcgcmkoeigkiiaa
/- THE CELL 'sum', in the pinned program and in every row, IS THE sha256 OF THE DUMP (.gsa) THAT YtcgcmkoeigkiiaaProg.lean LOADS. Nothing in Lean hashes anything: it is a label: what it is worth is what the hold of that sum in a sandbox is worth. -/
noncomputable def Try.pinned : Pinned := { name := "ytcgcmkoeigkiiaa", sum := "8aa02b1e92561de4adec8aa758e731ceea8deb3988f2e170e5da265bcc1aad82", checked := Try.checked }
namespace Rows
def none {H : Type} : Left H := { results := [], args := [] }

/-- 'dormerlaw06.RightCodes': WHATEVER THE INPUT: true; the input reads as it did. -/
def rightCodesSpec : ChangeSpec := { name := "rightCodes", fn := fun _ => fun
  | [d1, d2, d3] => { results := [.lit (.bool true)], args := [d1, d2, d3] }
  | _ => none }
def rightCodesRow : OpenClaim := { program := "ytcgcmkoeigkiiaa", sum := "8aa02b1e92561de4adec8aa758e731ceea8deb3988f2e170e5da265bcc1aad82", func := "dormer/dormerlaw06.RightCodes", spec := "rightCodes", apart := false }
def RightCodesSaid : Prop := rightCodesRow.holds Try.pinned (OpenSpec.ofChange rightCodesSpec)

/-- ITS FALSE NEIGHBOUR: 'it returns false'. Refute it at one input. -/
def rightCodesWrong : ChangeSpec := { name := "rightCodes", fn := fun _ => fun
  | [d1, d2, d3] => { results := [.lit (.bool false)], args := [d1, d2, d3] }
  | _ => none }
def RightCodesWrongFalsely : Prop := rightCodesRow.holds Try.pinned (OpenSpec.ofChange rightCodesWrong)

/-- 'dormerlaw06.RightKeeps': WHATEVER THE INPUT: true; the input reads as it did. -/
def rightKeepsSpec : ChangeSpec := { name := "rightKeeps", fn := fun _ => fun
  | [d1, d2, d3] => { results := [.lit (.bool true)], args := [d1, d2, d3] }
  | _ => none }
def rightKeepsRow : OpenClaim := { program := "ytcgcmkoeigkiiaa", sum := "8aa02b1e92561de4adec8aa758e731ceea8deb3988f2e170e5da265bcc1aad82", func := "dormer/dormerlaw06.RightKeeps", spec := "rightKeeps", apart := false }
def RightKeepsSaid : Prop := rightKeepsRow.holds Try.pinned (OpenSpec.ofChange rightKeepsSpec)

/-- ITS FALSE NEIGHBOUR: 'it returns false'. Refute it at one input. -/
def rightKeepsWrong : ChangeSpec := { name := "rightKeeps", fn := fun _ => fun
  | [d1, d2, d3] => { results := [.lit (.bool false)], args := [d1, d2, d3] }
  | _ => none }
def RightKeepsWrongFalsely : Prop := rightKeepsRow.holds Try.pinned (OpenSpec.ofChange rightKeepsWrong)

/-- 'dormerlaw06.RightSums': WHATEVER THE INPUT: true; the input reads as it did. -/
def rightSumsSpec : ChangeSpec := { name := "rightSums", fn := fun _ => fun
  | [d1, d2, d3] => { results := [.lit (.bool true)], args := [d1, d2, d3] }
  | _ => none }
def rightSumsRow : OpenClaim := { program := "ytcgcmkoeigkiiaa", sum := "8aa02b1e92561de4adec8aa758e731ceea8deb3988f2e170e5da265bcc1aad82", func := "dormer/dormerlaw06.RightSums", spec := "rightSums", apart := false }
def RightSumsSaid : Prop := rightSumsRow.holds Try.pinned (OpenSpec.ofChange rightSumsSpec)

/-- ITS FALSE NEIGHBOUR: 'it returns false'. Refute it at one input. -/
def rightSumsWrong : ChangeSpec := { name := "rightSums", fn := fun _ => fun
  | [d1, d2, d3] => { results := [.lit (.bool false)], args := [d1, d2, d3] }
  | _ => none }
def RightSumsWrongFalsely : Prop := rightSumsRow.holds Try.pinned (OpenSpec.ofChange rightSumsWrong)

/-- 'dormerlaw06.RightTells': WHATEVER THE INPUT: true; the input reads as it did. -/
def rightTellsSpec : ChangeSpec := { name := "rightTells", fn := fun _ => fun
  | [d1, d2, d3] => { results := [.lit (.bool true)], args := [d1, d2, d3] }
  | _ => none }
def rightTellsRow : OpenClaim := { program := "ytcgcmkoeigkiiaa", sum := "8aa02b1e92561de4adec8aa758e731ceea8deb3988f2e170e5da265bcc1aad82", func := "dormer/dormerlaw06.RightTells", spec := "rightTells", apart := false }
def RightTellsSaid : Prop := rightTellsRow.holds Try.pinned (OpenSpec.ofChange rightTellsSpec)

/-- ITS FALSE NEIGHBOUR: 'it returns false'. Refute it at one input. -/
def rightTellsWrong : ChangeSpec := { name := "rightTells", fn := fun _ => fun
  | [d1, d2, d3] => { results := [.lit (.bool false)], args := [d1, d2, d3] }
  | _ => none }
def RightTellsWrongFalsely : Prop := rightTellsRow.holds Try.pinned (OpenSpec.ofChange rightTellsWrong)

/-- 'dormerlaw06.RightOrder': WHATEVER THE INPUT: true; the input reads as it did. -/
def rightOrderSpec : ChangeSpec := { name := "rightOrder", fn := fun _ => fun
  | [d1, d2, d3] => { results := [.lit (.bool true)], args := [d1, d2, d3] }
  | _ => none }
def rightOrderRow : OpenClaim := { program := "ytcgcmkoeigkiiaa", sum := "8aa02b1e92561de4adec8aa758e731ceea8deb3988f2e170e5da265bcc1aad82", func := "dormer/dormerlaw06.RightOrder", spec := "rightOrder", apart := false }
def RightOrderSaid : Prop := rightOrderRow.holds Try.pinned (OpenSpec.ofChange rightOrderSpec)

/-- ITS FALSE NEIGHBOUR: 'it returns false'. Refute it at one input. -/
def rightOrderWrong : ChangeSpec := { name := "rightOrder", fn := fun _ => fun
  | [d1, d2, d3] => { results := [.lit (.bool false)], args := [d1, d2, d3] }
  | _ => none }
def RightOrderWrongFalsely : Prop := rightOrderRow.holds Try.pinned (OpenSpec.ofChange rightOrderWrong)

/-- 'dormerlaw06.RightUsers': WHATEVER THE INPUT: true; the input reads as it did. -/
def rightUsersSpec : ChangeSpec := { name := "rightUsers", fn := fun _ => fun
  | [d1, d2, d3] => { results := [.lit (.bool true)], args := [d1, d2, d3] }
  | _ => none }
def rightUsersRow : OpenClaim := { program := "ytcgcmkoeigkiiaa", sum := "8aa02b1e92561de4adec8aa758e731ceea8deb3988f2e170e5da265bcc1aad82", func := "dormer/dormerlaw06.RightUsers", spec := "rightUsers", apart := false }
def RightUsersSaid : Prop := rightUsersRow.holds Try.pinned (OpenSpec.ofChange rightUsersSpec)

/-- ITS FALSE NEIGHBOUR: 'it returns false'. Refute it at one input. -/
def rightUsersWrong : ChangeSpec := { name := "rightUsers", fn := fun _ => fun
  | [d1, d2, d3] => { results := [.lit (.bool false)], args := [d1, d2, d3] }
  | _ => none }
def RightUsersWrongFalsely : Prop := rightUsersRow.holds Try.pinned (OpenSpec.ofChange rightUsersWrong)

/-- 'dormerlaw17.PieceTells': WHATEVER THE INPUT: true; the input reads as it did. -/
def pieceTellsSpec : ChangeSpec := { name := "pieceTells", fn := fun _ => fun
  | [d1, d2, d3] => { results := [.lit (.bool true)], args := [d1, d2, d3] }
  | _ => none }
def pieceTellsRow : OpenClaim := { program := "ytcgcmkoeigkiiaa", sum := "8aa02b1e92561de4adec8aa758e731ceea8deb3988f2e170e5da265bcc1aad82", func := "dormer/dormerlaw17.PieceTells", spec := "pieceTells", apart := false }
def PieceTellsSaid : Prop := pieceTellsRow.holds Try.pinned (OpenSpec.ofChange pieceTellsSpec)

/-- ITS FALSE NEIGHBOUR: 'it returns false'. Refute it at one input. -/
def pieceTellsWrong : ChangeSpec := { name := "pieceTells", fn := fun _ => fun
  | [d1, d2, d3] => { results := [.lit (.bool false)], args := [d1, d2, d3] }
  | _ => none }
def PieceTellsWrongFalsely : Prop := pieceTellsRow.holds Try.pinned (OpenSpec.ofChange pieceTellsWrong)

/-- 'dormerlaw17.PieceAll': WHATEVER THE INPUT: true; the input reads as it did. -/
def pieceAllSpec : ChangeSpec := { name := "pieceAll", fn := fun _ => fun
  | [d1, d2] => { results := [.lit (.bool true)], args := [d1, d2] }
  | _ => none }
def pieceAllRow : OpenClaim := { program := "ytcgcmkoeigkiiaa", sum := "8aa02b1e92561de4adec8aa758e731ceea8deb3988f2e170e5da265bcc1aad82", func := "dormer/dormerlaw17.PieceAll", spec := "pieceAll", apart := false }
def PieceAllSaid : Prop := pieceAllRow.holds Try.pinned (OpenSpec.ofChange pieceAllSpec)

/-- ITS FALSE NEIGHBOUR: 'it returns false'. Refute it at one input. -/
def pieceAllWrong : ChangeSpec := { name := "pieceAll", fn := fun _ => fun
  | [d1, d2] => { results := [.lit (.bool false)], args := [d1, d2] }
  | _ => none }
def PieceAllWrongFalsely : Prop := pieceAllRow.holds Try.pinned (OpenSpec.ofChange pieceAllWrong)

/-- 'dormerlaw17.PieceSlots': WHATEVER THE INPUT: true; the input reads as it did. -/
def pieceSlotsSpec : ChangeSpec := { name := "pieceSlots", fn := fun _ => fun
  | [d1, d2] => { results := [.lit (.bool true)], args := [d1, d2] }
  | _ => none }
def pieceSlotsRow : OpenClaim := { program := "ytcgcmkoeigkiiaa", sum := "8aa02b1e92561de4adec8aa758e731ceea8deb3988f2e170e5da265bcc1aad82", func := "dormer/dormerlaw17.PieceSlots", spec := "pieceSlots", apart := false }
def PieceSlotsSaid : Prop := pieceSlotsRow.holds Try.pinned (OpenSpec.ofChange pieceSlotsSpec)

/-- ITS FALSE NEIGHBOUR: 'it returns false'. Refute it at one input. -/
def pieceSlotsWrong : ChangeSpec := { name := "pieceSlots", fn := fun _ => fun
  | [d1, d2] => { results := [.lit (.bool false)], args := [d1, d2] }
  | _ => none }
def PieceSlotsWrongFalsely : Prop := pieceSlotsRow.holds Try.pinned (OpenSpec.ofChange pieceSlotsWrong)

/-- 'dormerlaw17.PieceAlone': WHATEVER THE INPUT: true; the input reads as it did. -/
def pieceAloneSpec : ChangeSpec := { name := "pieceAlone", fn := fun _ => fun
  | [d1, d2] => { results := [.lit (.bool true)], args := [d1, d2] }
  | _ => none }
def pieceAloneRow : OpenClaim := { program := "ytcgcmkoeigkiiaa", sum := "8aa02b1e92561de4adec8aa758e731ceea8deb3988f2e170e5da265bcc1aad82", func := "dormer/dormerlaw17.PieceAlone", spec := "pieceAlone", apart := false }
def PieceAloneSaid : Prop := pieceAloneRow.holds Try.pinned (OpenSpec.ofChange pieceAloneSpec)

/-- ITS FALSE NEIGHBOUR: 'it returns false'. Refute it at one input. -/
def pieceAloneWrong : ChangeSpec := { name := "pieceAlone", fn := fun _ => fun
  | [d1, d2] => { results := [.lit (.bool false)], args := [d1, d2] }
  | _ => none }
def PieceAloneWrongFalsely : Prop := pieceAloneRow.holds Try.pinned (OpenSpec.ofChange pieceAloneWrong)

/- THE SECOND FORM. 'bulk': how many values and letters a reading holds, each counted each time it is reached (what is shared counts as often as it is met; a slice's spare places count too). A statement '..UptoSaid' is the law's where the arguments, and the package variables that the reading takes, are together of bulk at most 1048576: NARROWER than '..Said'. Prove '..Said' where nothing that the law and all that it calls make is longer than what came in: it says more and counts as full. Else prove '..UptoSaid'. A law counts once. -/
mutual
def uptoBulk {H : Type} : DataW H → Nat
  | .lit (.string bytes) => bytes.length + 1
  | .lit _ => 1
  | .nil => 1
  | .ptr d => uptoBulk d + 1
  | .slice elems spare => uptoBulkAll elems + uptoBulkAll spare + 1
  | .agg parts => uptoBulkAll parts + 1
  | .iface _ d => uptoBulk d + 1
  | .map entries => uptoBulkEntries entries + 1
  | .held _ => 1
def uptoBulkAll {H : Type} : List (DataW H) → Nat
  | [] => 0
  | d :: r => uptoBulk d + uptoBulkAll r
def uptoBulkEntries {H : Type} : List (Lit × DataW H) → Nat
  | [] => 0
  | x :: r => uptoBulkEntry x + uptoBulkEntries r
def uptoBulkEntry {H : Type} : Lit × DataW H → Nat
  | (.string bytes, d) => bytes.length + uptoBulk d + 1
  | (_, d) => uptoBulk d + 1
 end
def uptoSmall : (H : Type) → List (DataW H) → Bool := fun _ ds => decide (uptoBulkAll ds ≤ 1048576)
def OpenSpec.upto (s : _root_.Go.ChangeSpec) : _root_.Go.OpenSpec := { _root_.Go.OpenSpec.ofChange s with cond := some uptoSmall }

/-- 'dormerlaw06.RightCodes', WHERE WHAT IT READS IS OF BULK AT MOST 1048576: true; the input reads as it did. -/
def rightCodesUptoRow : OpenClaim := { program := "ytcgcmkoeigkiiaa", sum := "8aa02b1e92561de4adec8aa758e731ceea8deb3988f2e170e5da265bcc1aad82", func := "dormer/dormerlaw06.RightCodes", spec := "rightCodes", apart := false, narrowed := true }
def RightCodesUptoSaid : Prop := rightCodesUptoRow.holds Try.pinned (OpenSpec.upto rightCodesSpec)

/-- 'dormerlaw06.RightKeeps', WHERE WHAT IT READS IS OF BULK AT MOST 1048576: true; the input reads as it did. -/
def rightKeepsUptoRow : OpenClaim := { program := "ytcgcmkoeigkiiaa", sum := "8aa02b1e92561de4adec8aa758e731ceea8deb3988f2e170e5da265bcc1aad82", func := "dormer/dormerlaw06.RightKeeps", spec := "rightKeeps", apart := false, narrowed := true }
def RightKeepsUptoSaid : Prop := rightKeepsUptoRow.holds Try.pinned (OpenSpec.upto rightKeepsSpec)

/-- 'dormerlaw06.RightSums', WHERE WHAT IT READS IS OF BULK AT MOST 1048576: true; the input reads as it did. -/
def rightSumsUptoRow : OpenClaim := { program := "ytcgcmkoeigkiiaa", sum := "8aa02b1e92561de4adec8aa758e731ceea8deb3988f2e170e5da265bcc1aad82", func := "dormer/dormerlaw06.RightSums", spec := "rightSums", apart := false, narrowed := true }
def RightSumsUptoSaid : Prop := rightSumsUptoRow.holds Try.pinned (OpenSpec.upto rightSumsSpec)

/-- 'dormerlaw06.RightTells', WHERE WHAT IT READS IS OF BULK AT MOST 1048576: true; the input reads as it did. -/
def rightTellsUptoRow : OpenClaim := { program := "ytcgcmkoeigkiiaa", sum := "8aa02b1e92561de4adec8aa758e731ceea8deb3988f2e170e5da265bcc1aad82", func := "dormer/dormerlaw06.RightTells", spec := "rightTells", apart := false, narrowed := true }
def RightTellsUptoSaid : Prop := rightTellsUptoRow.holds Try.pinned (OpenSpec.upto rightTellsSpec)

/-- 'dormerlaw06.RightOrder', WHERE WHAT IT READS IS OF BULK AT MOST 1048576: true; the input reads as it did. -/
def rightOrderUptoRow : OpenClaim := { program := "ytcgcmkoeigkiiaa", sum := "8aa02b1e92561de4adec8aa758e731ceea8deb3988f2e170e5da265bcc1aad82", func := "dormer/dormerlaw06.RightOrder", spec := "rightOrder", apart := false, narrowed := true }
def RightOrderUptoSaid : Prop := rightOrderUptoRow.holds Try.pinned (OpenSpec.upto rightOrderSpec)

/-- 'dormerlaw06.RightUsers', WHERE WHAT IT READS IS OF BULK AT MOST 1048576: true; the input reads as it did. -/
def rightUsersUptoRow : OpenClaim := { program := "ytcgcmkoeigkiiaa", sum := "8aa02b1e92561de4adec8aa758e731ceea8deb3988f2e170e5da265bcc1aad82", func := "dormer/dormerlaw06.RightUsers", spec := "rightUsers", apart := false, narrowed := true }
def RightUsersUptoSaid : Prop := rightUsersUptoRow.holds Try.pinned (OpenSpec.upto rightUsersSpec)

/-- 'dormerlaw17.PieceTells', WHERE WHAT IT READS IS OF BULK AT MOST 1048576: true; the input reads as it did. -/
def pieceTellsUptoRow : OpenClaim := { program := "ytcgcmkoeigkiiaa", sum := "8aa02b1e92561de4adec8aa758e731ceea8deb3988f2e170e5da265bcc1aad82", func := "dormer/dormerlaw17.PieceTells", spec := "pieceTells", apart := false, narrowed := true }
def PieceTellsUptoSaid : Prop := pieceTellsUptoRow.holds Try.pinned (OpenSpec.upto pieceTellsSpec)

/-- 'dormerlaw17.PieceAll', WHERE WHAT IT READS IS OF BULK AT MOST 1048576: true; the input reads as it did. -/
def pieceAllUptoRow : OpenClaim := { program := "ytcgcmkoeigkiiaa", sum := "8aa02b1e92561de4adec8aa758e731ceea8deb3988f2e170e5da265bcc1aad82", func := "dormer/dormerlaw17.PieceAll", spec := "pieceAll", apart := false, narrowed := true }
def PieceAllUptoSaid : Prop := pieceAllUptoRow.holds Try.pinned (OpenSpec.upto pieceAllSpec)

/-- 'dormerlaw17.PieceSlots', WHERE WHAT IT READS IS OF BULK AT MOST 1048576: true; the input reads as it did. -/
def pieceSlotsUptoRow : OpenClaim := { program := "ytcgcmkoeigkiiaa", sum := "8aa02b1e92561de4adec8aa758e731ceea8deb3988f2e170e5da265bcc1aad82", func := "dormer/dormerlaw17.PieceSlots", spec := "pieceSlots", apart := false, narrowed := true }
def PieceSlotsUptoSaid : Prop := pieceSlotsUptoRow.holds Try.pinned (OpenSpec.upto pieceSlotsSpec)

/-- 'dormerlaw17.PieceAlone', WHERE WHAT IT READS IS OF BULK AT MOST 1048576: true; the input reads as it did. -/
def pieceAloneUptoRow : OpenClaim := { program := "ytcgcmkoeigkiiaa", sum := "8aa02b1e92561de4adec8aa758e731ceea8deb3988f2e170e5da265bcc1aad82", func := "dormer/dormerlaw17.PieceAlone", spec := "pieceAlone", apart := false, narrowed := true }
def PieceAloneUptoSaid : Prop := pieceAloneUptoRow.holds Try.pinned (OpenSpec.upto pieceAloneSpec)

end Rows
end Go.Proofs.Ytcgcmkoeigkiiaa
