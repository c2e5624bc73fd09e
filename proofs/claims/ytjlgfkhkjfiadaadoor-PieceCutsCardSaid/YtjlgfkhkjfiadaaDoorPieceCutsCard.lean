/- PieceCuts: any bytes' pieces are the document's, or the fault is: for every input. The tied card: the listed package-level variables hold at the start what the program lays in them. -/
import Derived.Test.YtjlgfkhkjfiadaaDoorPieceCuts
import Derived.Test.YtjlgfkhkjfiadaaDoorCard
namespace Go.Proofs.YtjlgfkhkjfiadaaDoor
open Go
theorem pieceCuts_params : (Tryd.f5.params.toList.all fun t => !Tryd.prog.wantsStandIn t) = true := by kernel_rfl
theorem pieceCutsCard_holds : Rows.PieceCutsCardSaid :=
  Claim7.holds_tied_plain_at .later [] [.handle] true Rows.pieceCutsCard.stood.harness true
    pieceCuts_holds (fun _ h => by cases h) (by kernel_rfl) (fun _ h => by cases h) pieceCuts_row_tie rfl ⟨rfl, rfl⟩ (by kernel_rfl) rfl
    (fun f fn hf hfn => by
      obtain rfl : f = 5 := (Option.some.inj ((show Tryd.prog.funcNamed "dormer/dormerlaw17.PieceCuts" = some 5 by kernel_rfl).symm.trans hf)).symm
      obtain rfl : fn = Tryd.f5 := (Option.some.inj (Tryd.func5.symm.trans hfn)).symm
      exact ⟨by kernel_rfl, stands_all pieceCuts_params⟩)
    (by kernel_rfl)
#print axioms pieceCutsCard_holds
end Go.Proofs.YtjlgfkhkjfiadaaDoor
