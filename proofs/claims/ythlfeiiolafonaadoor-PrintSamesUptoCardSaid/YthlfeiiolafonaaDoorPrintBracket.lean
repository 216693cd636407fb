/- Contract of the reference's bracket. -/
import Derived.Test.YthlfeiiolafonaaDoorPrintRefLeaf
set_option linter.unusedVariables false
set_option linter.unusedSimpArgs false
namespace Go.Proofs.YthlfeiiolafonaaDoor
open Go.RowKit Go.IntWalk

theorem below_undrew {w w1 : World} (h : Below w.drew.heap.size w.drew w1) : Below w.heap.size w w1 := ⟨h.os, h.tape, h.output, h.size, h.block⟩
end Go.Proofs.YthlfeiiolafonaaDoor
