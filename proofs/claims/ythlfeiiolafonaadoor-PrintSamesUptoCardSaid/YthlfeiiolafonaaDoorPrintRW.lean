/- Contracts of the reference's join, part, expr. Printed by gen_rw.py. -/
import Derived.Test.YthlfeiiolafonaaDoorPrintWE
import Derived.Test.YthlfeiiolafonaaDoorRefLitB
import Derived.Test.YthlfeiiolafonaaDoorPrintBracket
import Derived.Test.YthlfeiiolafonaaDoorLexQuote
import Derived.Lib.QuietBelow
import Derived.BigQuiet
set_option linter.unusedVariables false
set_option linter.unusedSimpArgs false
namespace Go.Proofs.YthlfeiiolafonaaDoor
open Go.RowKit Go.IntWalk Go.Sort

theorem ret_str {a : ByteArray} {l : List UInt8} (h : a.data.toList = l) : Ending.returned (.string a) = .returned (.string ⟨l.toArray⟩) := by
  subst h
  rfl
end Go.Proofs.YthlfeiiolafonaaDoor
