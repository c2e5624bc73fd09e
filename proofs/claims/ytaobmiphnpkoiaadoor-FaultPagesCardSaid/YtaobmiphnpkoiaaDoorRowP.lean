/- What the four listed variables of FaultPages give a walk; and a world in which they are laid. -/
import Derived.Test.YtaobmiphnpkoiaaDoorRowL
import Derived.Test.YtaobmiphnpkoiaaDoorItoa
import Derived.Test.YtaobmiphnpkoiaaDoorFmtB
import Derived.Stop.LaidErr
namespace Go.Proofs.YtaobmiphnpkoiaaDoor
open Go.RowKit Go.ChangeShapes Go.WideShapes Go.ChangeAt

def tab32 : List Int := [0, 1, 28, 2, 29, 14, 24, 3, 30, 22, 20, 15, 25, 17, 4, 8, 31, 27, 13, 23, 21, 19, 16, 7, 26, 12, 18, 6, 11, 5, 10, 9]
def tab64 : List Int := [0, 1, 56, 2, 57, 49, 28, 3, 61, 58, 42, 50, 38, 29, 17, 4, 62, 47, 59, 36, 45, 43, 51, 22, 53, 39, 33, 30, 24, 18, 12, 5, 63, 55, 48, 27, 60, 41, 37, 16, 46, 35, 44, 21, 52, 32, 23, 11, 54, 26, 40, 15, 34, 20, 31, 10, 25, 14, 19, 9, 13, 8, 7, 6]
def tabP : List Int := [1, 10, 100, 1000, 10000, 100000, 1000000, 10000000, 100000000, 1000000000, 10000000000, 100000000000, 1000000000000, 10000000000000, 100000000000000, 1000000000000000, 10000000000000000, 100000000000000000, 1000000000000000000, 10000000000000000000]
theorem data64 : (Rows.laid_math_bits_deBruijn64tab : DataW Unit) = Lib.tabData .u8 tab64 := by kernel_rfl
theorem dataP : (Rows.laid_internal_strconv_uint64pow10 : DataW Unit) = Lib.tabData .u64 Lib.pow10Tab := by kernel_rfl
/-- What the listed variables give a walk. -/
theorem parts_of_laid {W : World} (h : laidMetH Tryd.prog Rows.faultPagesRow.laid W) : Glob W ∧ TzAt W ∧ PowAt W := by
  have h' : laidMet Tryd.prog [("math/bits.deBruijn32tab", Rows.laid_math_bits_deBruijn32tab), ("math/bits.deBruijn64tab", Rows.laid_math_bits_deBruijn64tab), ("internal/strconv.uint64pow10", Rows.laid_internal_strconv_uint64pow10)] W ∧ handlesMet Tryd.prog [("errors.errorType", Rows.laid_errors_errorType)] W := h
  obtain ⟨h1, h2⟩ := h'
  have h3 := h1.tail
  have h4 := h3.tail
  rw [data64] at h3
  rw [dataP] at h4
  refine ⟨glob_of_laid (show laidMet Tryd.prog [] W ∧ handlesMet Tryd.prog [("errors.errorType", Rows.laid_errors_errorType)] W from ⟨laidMet_nil _ _, h2⟩), ?_, ?_⟩
  · have h5 := Lib.tabIs_of_head (P := Tryd.prog) (g := 3) (t := 95) (e := 5) (n := 64) (by kernel_rfl) (by kernel_rfl) Tryd.underlying95 Tryd.underlying5 (by kernel_rfl) (by kernel_rfl) h3
    have h6 := h5.cell (g := 3) (by kernel_rfl) 15 (by decide)
    exact h6
  · exact Lib.tabIs_of_head (P := Tryd.prog) (g := 1) (t := 87) (e := 22) (n := 20) (by kernel_rfl) (by kernel_rfl) Tryd.underlying87 Tryd.underlying22 (by kernel_rfl) (by kernel_rfl) h4

def layCells (h : Array Obj) (g : Nat) (cs : Array Value) : Array Obj := h.modify g fun
  | .cells _ t frozen => .cells cs t frozen
  | o => o
/-- A world in which the variables are laid. -/
noncomputable def laidWorldP (os : Os) : World :=
  let w0 := World.holding Tryd.prog os ⟨#[], #[], []⟩
  { w0 with heap := layCells (layCells (layCells (layCells w0.heap 0 #[.iface 64 (.agg #[.pointer (some ⟨4, 29, none⟩)])])
      2 (tab32.map fun z => Value.int .u8 z).toArray) 3 (tab64.map fun z => Value.int .u8 z).toArray) 1 (tabP.map fun z => Value.int .u64 z).toArray }
end Go.Proofs.YtaobmiphnpkoiaaDoor
