/- The variables that print's rows list (the table of powers of ten, math/bits' two): what the walks ask of them (PowAt), and a world for the witness. -/
import Derived.Test.YthlfeiiolafonaaDoorRows
import Derived.Test.YthlfeiiolafonaaDoorPrintW
import Derived.LaidMore
import Derived.LaidLaws
import Derived.Lib.LaidTab
import Derived.Stop.LaidErr
import Derived.ProofKit
import Derived.Deep.DeepHandedRow
set_option linter.unusedVariables false
set_option linter.unusedSimpArgs false
namespace Go.Proofs.YthlfeiiolafonaaDoor
open Go.ChangeShapes Go.WideShapes Go.ChangeAt Go.RowKit

abbrev printList : List (String × DataW Unit) := Rows.printSamesUptoRow.laid
theorem powData : (Rows.laid_internal_strconv_uint64pow10 : DataW Unit) = Lib.tabData .u64 Lib.pow10Tab := by kernel_rfl
theorem powAt_of {W : World} (h : laidMetH Tryd.prog printList W) : PowAt W.heap.size W := by
  have h0 : laidMet Tryd.prog printList W := by
    have := h
    rw [MakeChecks.laidMetH_plain _ _ _ (by kernel_rfl)] at this
    exact this
  have h1 : laidMet Tryd.prog (("internal/strconv.uint64pow10", Lib.tabData .u64 Lib.pow10Tab) :: []) W := by
    have := h0.tail.tail
    rwa [powData] at this
  have h2 := Lib.tabIs_of_head (g := 1) (t := 106) (e := 90) (n := 20) (by kernel_rfl) (by kernel_rfl) Tryd.underlying106 Tryd.underlying90 (by kernel_rfl) (by kernel_rfl) h1
  refine ⟨h2, fun g hg => ?_⟩
  have hc := h2.cell hg 0 (by rw [Lib.pow10Tab_length]; decide)
  exact World.block_lt_of_cell? W _ hc
/-- the cells of a listed table of whole numbers -/
def tabCells : DataW Unit → Array Value
  | .agg ds => (ds.map fun
      | .lit (.int k n) => Value.int k n
      | _ => .nilIface).toArray
  | _ => #[]
/-- a world for the witness: the settled one, the tables holding what their initialisers lay -/
noncomputable def printWorld (os : Os) : World :=
  let w0 := World.holding Tryd.prog os ⟨#[], #[], []⟩
  { w0 with heap := ((w0.heap.modify 2 (fun
      | .cells _ t frozen => .cells (tabCells Rows.laid_math_bits_deBruijn32tab) t frozen
      | o => o)).modify 3 (fun
      | .cells _ t frozen => .cells (tabCells Rows.laid_math_bits_deBruijn64tab) t frozen
      | o => o)).modify 1 (fun
      | .cells _ t frozen => .cells (tabCells Rows.laid_internal_strconv_uint64pow10) t frozen
      | o => o) }
set_option maxRecDepth 100000 in
theorem print_met (os : Os) (args : Array Value) : laidMetH Tryd.prog printList ((printWorld os).forCall (fun _ _ => 0) ⟨#[], args, []⟩).memory := by
  exact laidMetH_of_parts3 (fuel := 8) (laidMet_of_run' 8 (by kernel_rfl) (by kernel_rfl)) (by kernel_rfl) (by kernel_rfl)
end Go.Proofs.YthlfeiiolafonaaDoor
