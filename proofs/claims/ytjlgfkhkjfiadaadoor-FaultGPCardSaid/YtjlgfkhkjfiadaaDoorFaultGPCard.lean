/- FaultGP: whatever is wrapped around a general protection fault, it is found; it is no page fault: for all words. The tied card: the listed package-level variables hold at the start what the program lays in them. -/
import Derived.Test.YtjlgfkhkjfiadaaDoorFaultGP
import Derived.Test.YtjlgfkhkjfiadaaDoorCard
namespace Go.Proofs.YtjlgfkhkjfiadaaDoor
open Go
theorem faultGP_params : (Tryd.f4.params.toList.all fun t => !Tryd.prog.wantsStandIn t) = true := by kernel_rfl
theorem faultGPCard_holds : Rows.FaultGPCardSaid :=
  Claim7.holds_tied_plain_at .later [] [.handle] true Rows.faultGPCard.stood.harness true
    faultGP_holds (fun _ h => by cases h) (by kernel_rfl) (fun _ h => by cases h) faultGP_row_tie rfl ⟨rfl, rfl⟩ (by kernel_rfl) rfl
    (fun f fn hf hfn => by
      obtain rfl : f = 4 := (Option.some.inj ((show Tryd.prog.funcNamed "dormer/dormerlaw07.FaultGP" = some 4 by kernel_rfl).symm.trans hf)).symm
      obtain rfl : fn = Tryd.f4 := (Option.some.inj (Tryd.func4.symm.trans hfn)).symm
      exact ⟨by kernel_rfl, stands_all faultGP_params⟩)
    (by kernel_rfl)
#print axioms faultGPCard_holds
end Go.Proofs.YtjlgfkhkjfiadaaDoor
