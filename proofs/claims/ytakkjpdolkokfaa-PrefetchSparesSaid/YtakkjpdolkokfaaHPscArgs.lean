/- Psc's laws: numbers that a slice holds. -/
import Derived.Test.YtakkjpdolkokfaaPln31
namespace Go.Proofs.Ytakkjpdolkokfaa
set_option linter.unusedVariables false
set_option linter.unusedSimpArgs false
open Go.RowKit
attribute [local go_sem] wext_cell wext_frozen wext_heap alloc_cell alloc_frozen alloc_heap setCell_cell objCell_cells objFrozen_cells
open Go.Proofs
theorem u32s_of {W : World} {v : Value} (h : (Dsc.slice (.int .u32)).Is W [v]) : ∃ ns, ListAt W v 1 U32.cells U32.ok ns :=
  list_of (d := .int .u32) rfl (by decide) (fun _ => rfl) (fun cs hl hI => by
    obtain ⟨n, rfl, hn⟩ := hI
    exact ⟨n, bounds_u32 hn, rfl⟩) h
end Go.Proofs.Ytakkjpdolkokfaa
