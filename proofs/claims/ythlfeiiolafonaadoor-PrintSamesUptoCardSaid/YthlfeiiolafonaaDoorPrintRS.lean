/- Contracts of the reference's tabs, block, behind, statement. Printed by gen_rs.py. -/
import Derived.Test.YthlfeiiolafonaaDoorPrintRW
import Derived.Test.YthlfeiiolafonaaDoorWSB
set_option linter.unusedVariables false
set_option linter.unusedSimpArgs false
namespace Go.Proofs.YthlfeiiolafonaaDoor
open Go.RowKit Go.IntWalk Go.Sort

theorem str_grown {m : Nat} {w : World} {v : Value} {l : List UInt8} (h : RowB m w v l) (d : Nat) (os : Array Obj) : (convert 41 9 v).run Tryd.prog (grow (redrawn w d) os) = .ok (.string ⟨l.toArray⟩) (grow (redrawn w d) os) := (h.below (below_regrown w d os)).toStr
end Go.Proofs.YthlfeiiolafonaaDoor
