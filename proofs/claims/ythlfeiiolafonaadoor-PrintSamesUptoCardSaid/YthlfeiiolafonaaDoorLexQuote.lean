/- Contract of the reference's Quote: it makes quoteS of the text's bytes too. -/
import Derived.Test.YthlfeiiolafonaaDoorLexQuoteP
set_option linter.unusedVariables false
set_option linter.unusedSimpArgs false
namespace Go.Proofs.YthlfeiiolafonaaDoor
open Go.RowKit

end Go.Proofs.YthlfeiiolafonaaDoor
