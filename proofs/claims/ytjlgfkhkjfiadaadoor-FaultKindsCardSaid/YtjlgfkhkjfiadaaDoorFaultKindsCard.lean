/- FaultKinds: an error's number is its own, whatever is wrapped around it; of an error that has none it is ErrArg; of two that were joined both are found, and the first one's number is told: for every input. The tied card: the listed package-level variables hold at the start what the program lays in them. -/
import Derived.Test.YtjlgfkhkjfiadaaDoorFaultKinds
import Derived.Test.YtjlgfkhkjfiadaaDoorCard
namespace Go.Proofs.YtjlgfkhkjfiadaaDoor
open Go
theorem faultKinds_params : (Tryd.f7.params.toList.all fun t => !Tryd.prog.wantsStandIn t) = true := by kernel_rfl
theorem faultKindsCard_holds : Rows.FaultKindsCardSaid :=
  Claim7.holds_tied_plain_at .later [] [.handle] true Rows.faultKindsCard.stood.harness true
    faultKinds_holds (fun _ h => by cases h) (by kernel_rfl) (fun _ h => by cases h) faultKinds_row_tie rfl ⟨rfl, rfl⟩ (by kernel_rfl) rfl
    (fun f fn hf hfn => by
      obtain rfl : f = 7 := (Option.some.inj ((show Tryd.prog.funcNamed "dormer/dormerlaw07.FaultKinds" = some 7 by kernel_rfl).symm.trans hf)).symm
      obtain rfl : fn = Tryd.f7 := (Option.some.inj (Tryd.func7.symm.trans hfn)).symm
      exact ⟨by kernel_rfl, stands_all faultKinds_params⟩)
    (by kernel_rfl)
#print axioms faultKindsCard_holds
end Go.Proofs.YtjlgfkhkjfiadaaDoor
