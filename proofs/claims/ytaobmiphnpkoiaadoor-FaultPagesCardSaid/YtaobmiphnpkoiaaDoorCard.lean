/- What the tied cards of this seat want. -/
import Derived.Test.YtaobmiphnpkoiaaDoorCards
import Derived.Test.YtaobmiphnpkoiaaDoorTie
import Derived.SevenTiedAt
namespace Go.Proofs.YtaobmiphnpkoiaaDoor
open Go
theorem stands_all {ps : Array TypeId} (h : (ps.toList.all fun t => !Tryd.prog.wantsStandIn t) = true) : ∀ (j : Nat) t, ps[j]? = some t → Tryd.prog.wantsStandIn t = false := by
  intro j t ht
  have hm : t ∈ ps.toList := by
    rw [← Array.getElem?_toList] at ht
    exact List.mem_of_getElem? ht
  have := List.all_eq_true.1 h t hm
  simpa using this
end Go.Proofs.YtaobmiphnpkoiaaDoor
