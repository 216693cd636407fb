/-
  DERIVED. GIVEN WITH THE SEED: THE CARDS: each row of YtgnoiliaidfepaaDoorRows.lean that lists a variable, with what it lists TIED to the program's text (the seventh form; the later family's looks); each row that meets fmt, with fmt's text TOLD by the authors' own Lean function (tested against real Go, not proved from fmt's source: count such statements apart). THE CARD IS WHAT COUNTS. Prove the row's statement (the work); the ties are given (YtgnoiliaidfepaaDoorTie.lean); close each card by the builder's one call (the guide's Derived/Test/ToyasCard.lean, 'card_holds'). Laid BY PROGRAM, IN A SANDBOX (cutbox-door.mjs). By AI agents, Wed Nov 11 2026. No macro, syntax, notation, axiom, sorry.
-/
import Derived.Test.YtgnoiliaidfepaaDoorRows
import GoSem.ClaimSeven
namespace Go.Proofs.YtgnoiliaidfepaaDoor
namespace Rows

/-- THE TIED CARD OF 'scruplelaw19.CheckBuiltins'. -/
def checkBuiltinsCard : Claim7 := { stood := { row := checkBuiltinsRow, standIns := [], harness := (true, "b89d3e7bae6af7c519582574922eea80c3f3d5b188532237abfc825aef122ee8"), looks := true }, kinds := [], alts := [], laidByText := true, laidKinds := [.data, .data], laidTests := true, laidLooks := .later }
def CheckBuiltinsCardSaid : Prop := Claim7.holds Tryd.pinned (.plain (OpenSpec.ofChange checkBuiltinsSpec)) checkBuiltinsCard

/-- THE TIED CARD OF 'scruplelaw18.PrintSames'. -/
def printSamesCard : Claim7 := { stood := { row := printSamesRow, standIns := [], harness := (true, "b89d3e7bae6af7c519582574922eea80c3f3d5b188532237abfc825aef122ee8"), looks := true }, kinds := [], alts := [], laidByText := true, laidKinds := [.data, .data, .data], laidTests := true, laidLooks := .later }
def PrintSamesCardSaid : Prop := Claim7.holds Tryd.pinned (.plain (OpenSpec.ofChange printSamesSpec)) printSamesCard

/-- THE TIED CARD OF 'scruplelaw16.LexReads'. -/
def lexReadsCard : Claim7 := { stood := { row := lexReadsRow, standIns := [], harness := (true, "b89d3e7bae6af7c519582574922eea80c3f3d5b188532237abfc825aef122ee8"), looks := true }, kinds := [], alts := [], laidByText := true, laidKinds := [.data, .data, .data, .data, .sentinel, .sentinel, .pinned], laidTests := true, laidLooks := .later }
def LexReadsCardSaid : Prop := Claim7.holds Tryd.pinned (.plain (OpenSpec.ofChange lexReadsSpec)) lexReadsCard

/-- THE TIED CARD OF 'scruplelaw16.LexAhead'. -/
def lexAheadCard : Claim7 := { stood := { row := lexAheadRow, standIns := [], harness := (true, "b89d3e7bae6af7c519582574922eea80c3f3d5b188532237abfc825aef122ee8"), looks := true }, kinds := [], alts := [], laidByText := true, laidKinds := [.data, .data, .data, .data, .sentinel, .sentinel, .pinned], laidTests := true, laidLooks := .later }
def LexAheadCardSaid : Prop := Claim7.holds Tryd.pinned (.plain (OpenSpec.ofChange lexAheadSpec)) lexAheadCard

/-- THE TIED CARD OF 'scruplelaw16.LexBack'. -/
def lexBackCard : Claim7 := { stood := { row := lexBackRow, standIns := [], harness := (true, "b89d3e7bae6af7c519582574922eea80c3f3d5b188532237abfc825aef122ee8"), looks := true }, kinds := [], alts := [], laidByText := true, laidKinds := [.data, .data, .data, .data, .sentinel, .sentinel, .pinned], laidTests := true, laidLooks := .later }
def LexBackCardSaid : Prop := Claim7.holds Tryd.pinned (.plain (OpenSpec.ofChange lexBackSpec)) lexBackCard

/-- THE TIED CARD OF 'scruplelaw16.LexAgain'. -/
def lexAgainCard : Claim7 := { stood := { row := lexAgainRow, standIns := [], harness := (true, "b89d3e7bae6af7c519582574922eea80c3f3d5b188532237abfc825aef122ee8"), looks := true }, kinds := [], alts := [], laidByText := true, laidKinds := [.data, .data, .data, .data, .sentinel, .sentinel, .pinned], laidTests := true, laidLooks := .later }
def LexAgainCardSaid : Prop := Claim7.holds Tryd.pinned (.plain (OpenSpec.ofChange lexAgainSpec)) lexAgainCard

/-- THE SECOND FORM's CARD OF 'scruplelaw19.CheckBuiltins'. -/
def checkBuiltinsUptoCard : Claim7 := { stood := { row := checkBuiltinsUptoRow, standIns := [], harness := (true, "b89d3e7bae6af7c519582574922eea80c3f3d5b188532237abfc825aef122ee8"), looks := true }, kinds := [], alts := [], laidByText := true, laidKinds := [.data, .data], laidTests := true, laidLooks := .later }
def CheckBuiltinsUptoCardSaid : Prop := Claim7.holds Tryd.pinned (.plain (OpenSpec.upto checkBuiltinsSpec)) checkBuiltinsUptoCard

/-- THE SECOND FORM's CARD OF 'scruplelaw18.PrintSames'. -/
def printSamesUptoCard : Claim7 := { stood := { row := printSamesUptoRow, standIns := [], harness := (true, "b89d3e7bae6af7c519582574922eea80c3f3d5b188532237abfc825aef122ee8"), looks := true }, kinds := [], alts := [], laidByText := true, laidKinds := [.data, .data, .data], laidTests := true, laidLooks := .later }
def PrintSamesUptoCardSaid : Prop := Claim7.holds Tryd.pinned (.plain (OpenSpec.upto printSamesSpec)) printSamesUptoCard

/-- THE SECOND FORM's CARD OF 'scruplelaw16.LexReads'. -/
def lexReadsUptoCard : Claim7 := { stood := { row := lexReadsUptoRow, standIns := [], harness := (true, "b89d3e7bae6af7c519582574922eea80c3f3d5b188532237abfc825aef122ee8"), looks := true }, kinds := [], alts := [], laidByText := true, laidKinds := [.data, .data, .data, .data, .sentinel, .sentinel, .pinned], laidTests := true, laidLooks := .later }
def LexReadsUptoCardSaid : Prop := Claim7.holds Tryd.pinned (.plain (OpenSpec.upto lexReadsSpec)) lexReadsUptoCard

/-- THE SECOND FORM's CARD OF 'scruplelaw16.LexAhead'. -/
def lexAheadUptoCard : Claim7 := { stood := { row := lexAheadUptoRow, standIns := [], harness := (true, "b89d3e7bae6af7c519582574922eea80c3f3d5b188532237abfc825aef122ee8"), looks := true }, kinds := [], alts := [], laidByText := true, laidKinds := [.data, .data, .data, .data, .sentinel, .sentinel, .pinned], laidTests := true, laidLooks := .later }
def LexAheadUptoCardSaid : Prop := Claim7.holds Tryd.pinned (.plain (OpenSpec.upto lexAheadSpec)) lexAheadUptoCard

/-- THE SECOND FORM's CARD OF 'scruplelaw16.LexBack'. -/
def lexBackUptoCard : Claim7 := { stood := { row := lexBackUptoRow, standIns := [], harness := (true, "b89d3e7bae6af7c519582574922eea80c3f3d5b188532237abfc825aef122ee8"), looks := true }, kinds := [], alts := [], laidByText := true, laidKinds := [.data, .data, .data, .data, .sentinel, .sentinel, .pinned], laidTests := true, laidLooks := .later }
def LexBackUptoCardSaid : Prop := Claim7.holds Tryd.pinned (.plain (OpenSpec.upto lexBackSpec)) lexBackUptoCard

/-- THE SECOND FORM's CARD OF 'scruplelaw16.LexAgain'. -/
def lexAgainUptoCard : Claim7 := { stood := { row := lexAgainUptoRow, standIns := [], harness := (true, "b89d3e7bae6af7c519582574922eea80c3f3d5b188532237abfc825aef122ee8"), looks := true }, kinds := [], alts := [], laidByText := true, laidKinds := [.data, .data, .data, .data, .sentinel, .sentinel, .pinned], laidTests := true, laidLooks := .later }
def LexAgainUptoCardSaid : Prop := Claim7.holds Tryd.pinned (.plain (OpenSpec.upto lexAgainSpec)) lexAgainUptoCard
end Rows
end Go.Proofs.YtgnoiliaidfepaaDoor
