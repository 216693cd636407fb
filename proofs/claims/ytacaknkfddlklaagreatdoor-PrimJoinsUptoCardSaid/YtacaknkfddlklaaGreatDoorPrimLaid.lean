/- The variables that prim's rows list: what the walks ask of them, and a world for the witness. -/
import Derived.Test.YtacaknkfddlklaaGreatDoorRows
import Derived.Test.YtacaknkfddlklaaGreatDoorCodeLaid
import Derived.LaidMore
import Derived.LaidLaws
import Derived.Deep.DeepHandedRow
import Derived.ProofKit
set_option linter.unusedVariables false
set_option linter.unusedSimpArgs false
namespace Go.Proofs.YtacaknkfddlklaaGreatDoor
open Go.ChangeShapes Go.WideShapes Go.ChangeAt Go.RowKit

abbrev primList : List (String × DataW Unit) := Rows.primTakesRow.laid
theorem codeLaid_prim {W : World} (hL : laidMetH Tryz.prog primList W) : CodeLaid W :=
  codeLaid_of (rest := [("scruple/hash.rounds", Rows.laid_scruple_hash_rounds)]) ⟨hL.choose, hL.choose_spec.1⟩
/-- the cells of a listed table of whole numbers -/
def tabCells : DataW Unit → Array Value
  | .agg ds => (ds.map fun
      | .lit (.int k n) => Value.int k n
      | _ => .nilIface).toArray
  | _ => #[]
/-- a world for the witness: the settled one, the tables holding what their initialisers lay -/
noncomputable def primWorld (os : Os) : World :=
  let w0 := World.holding Tryz.prog os ⟨#[], #[], []⟩
  { w0 with heap := ((w0.heap.modify 1 (fun
      | .cells _ t frozen => .cells namesCells t frozen
      | o => o)).modify 0 (fun
      | .cells _ t frozen => .cells numbersCells t frozen
      | o => o)).modify 3 (fun
      | .cells _ t frozen => .cells (tabCells Rows.laid_scruple_hash_rounds) t frozen
      | o => o) }
set_option maxRecDepth 100000 in
theorem prim_met (os : Os) (args : Array Value) : laidMetH Tryz.prog primList ((primWorld os).forCall (fun _ _ => 0) ⟨#[], args, []⟩).memory := by
  first
  | exact laidMetH_of_parts3 (fuel := 8) (laidMet_of_run' 8 (by kernel_rfl) (by kernel_rfl)) (by kernel_rfl) (by kernel_rfl)
  | exact laidMet_of_run' 8 (by kernel_rfl) (by kernel_rfl)
end Go.Proofs.YtacaknkfddlklaaGreatDoor
