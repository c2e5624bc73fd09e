/- FaultFound: whatever is wrapped around a fault, it is found, with its address and code; it is not another one: for every address, code and list of words. The tied card: the listed package-level variables hold at the start what the program lays in them. -/
import Derived.Test.YtjlgfkhkjfiadaaDoorFaultFound
import Derived.Test.YtjlgfkhkjfiadaaDoorCard
namespace Go.Proofs.YtjlgfkhkjfiadaaDoor
open Go
theorem faultFound_params : (Tryd.f3.params.toList.all fun t => !Tryd.prog.wantsStandIn t) = true := by kernel_rfl
theorem faultFoundCard_holds : Rows.FaultFoundCardSaid :=
  Claim7.holds_tied_plain_at .later [] [.handle] true Rows.faultFoundCard.stood.harness true
    faultFound_holds (fun _ h => by cases h) (by kernel_rfl) (fun _ h => by cases h) faultFound_row_tie rfl ⟨rfl, rfl⟩ (by kernel_rfl) rfl
    (fun f fn hf hfn => by
      obtain rfl : f = 3 := (Option.some.inj ((show Tryd.prog.funcNamed "dormer/dormerlaw07.FaultFound" = some 3 by kernel_rfl).symm.trans hf)).symm
      obtain rfl : fn = Tryd.f3 := (Option.some.inj (Tryd.func3.symm.trans hfn)).symm
      exact ⟨by kernel_rfl, stands_all faultFound_params⟩)
    (by kernel_rfl)
#print axioms faultFoundCard_holds
end Go.Proofs.YtjlgfkhkjfiadaaDoor
