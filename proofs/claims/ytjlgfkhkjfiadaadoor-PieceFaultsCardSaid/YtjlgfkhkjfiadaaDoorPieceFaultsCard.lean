/- PieceFaults: no bytes, and more than eight, fault; so do bytes that run out of either half of the addresses: for every number and address. The tied card: the listed package-level variables hold at the start what the program lays in them. -/
import Derived.Test.YtjlgfkhkjfiadaaDoorPieceFaults
import Derived.Test.YtjlgfkhkjfiadaaDoorCard
namespace Go.Proofs.YtjlgfkhkjfiadaaDoor
open Go
theorem pieceFaults_params : (Tryd.f6.params.toList.all fun t => !Tryd.prog.wantsStandIn t) = true := by kernel_rfl
theorem pieceFaultsCard_holds : Rows.PieceFaultsCardSaid :=
  Claim7.holds_tied_plain_at .later [] [.handle] true Rows.pieceFaultsCard.stood.harness true
    pieceFaults_holds (fun _ h => by cases h) (by kernel_rfl) (fun _ h => by cases h) pieceFaults_row_tie rfl ⟨rfl, rfl⟩ (by kernel_rfl) rfl
    (fun f fn hf hfn => by
      obtain rfl : f = 6 := (Option.some.inj ((show Tryd.prog.funcNamed "dormer/dormerlaw17.PieceFaults" = some 6 by kernel_rfl).symm.trans hf)).symm
      obtain rfl : fn = Tryd.f6 := (Option.some.inj (Tryd.func6.symm.trans hfn)).symm
      exact ⟨by kernel_rfl, stands_all pieceFaults_params⟩)
    (by kernel_rfl)
#print axioms pieceFaultsCard_holds
end Go.Proofs.YtjlgfkhkjfiadaaDoor
