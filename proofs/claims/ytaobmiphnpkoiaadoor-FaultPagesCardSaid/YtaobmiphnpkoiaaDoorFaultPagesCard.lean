/- FaultPages: a Page wraps the page fault's number, and says its words; two are the same just if both their fields are: the tied card. No condition. -/
import Derived.Test.YtaobmiphnpkoiaaDoorFaultPagesRow
import Derived.Test.YtaobmiphnpkoiaaDoorCard
namespace Go.Proofs.YtaobmiphnpkoiaaDoor
open Go
theorem faultPages_params : (Tryd.f3.params.toList.all fun t => !Tryd.prog.wantsStandIn t) = true := by kernel_rfl
theorem faultPagesCard_holds : Rows.FaultPagesCardSaid :=
  Claim7.holds_tied_plain_at .later [] [.data, .data, .data, .handle] true Rows.faultPagesCard.stood.harness true
    faultPages_holds (fun _ h => by cases h) (by kernel_rfl) (fun _ h => by cases h) faultPages_row_tie rfl ⟨rfl, rfl⟩ (by kernel_rfl) rfl
    (fun f fn hf hfn => by
      obtain rfl : f = 3 := (Option.some.inj ((show Tryd.prog.funcNamed "dormer/dormerlaw07.FaultPages" = some 3 by kernel_rfl).symm.trans hf)).symm
      obtain rfl : fn = Tryd.f3 := (Option.some.inj (Tryd.func3.symm.trans hfn)).symm
      exact ⟨by kernel_rfl, stands_all faultPages_params⟩)
    (by kernel_rfl)
#print axioms faultPagesCard_holds
end Go.Proofs.YtaobmiphnpkoiaaDoor
