/-
  DERIVED. GIVEN WITH THE SEED: THE CARDS: each row of YtlnhhffhmeekoaaGreatDoorRows.lean that lists a variable, with what it lists TIED to the program's text (the seventh form; the later family's looks); each row that meets fmt, with fmt's text TOLD by the authors' own Lean function (tested against real Go, not proved from fmt's source: count such statements apart). THE CARD IS WHAT COUNTS. Prove the row's statement (the work); the ties are given (YtlnhhffhmeekoaaGreatDoorTie.lean); close each card by the builder's one call (the guide's Derived/Test/ToyasCard.lean, 'card_holds'). Laid BY PROGRAM, IN A SANDBOX (cutbox-door.mjs). By AI agents, Wed Nov 11 2026. No macro, syntax, notation, axiom, sorry.
-/
import Derived.Test.YtlnhhffhmeekoaaGreatDoorRows
import GoSem.ClaimSeven
namespace Go.Proofs.YtlnhhffhmeekoaaGreatDoor
namespace Rows

/-- THE TIED CARD OF 'scruplelaw17.ParseExprs'. -/
def parseExprsCard : Claim7 := { stood := { row := parseExprsRow, standIns := [], harness := (true, "3bd69c4d1c3546ca78116880a632746f77129181231dec30ab07458b9a03f682"), looks := true }, kinds := [], alts := [], laidByText := true, laidKinds := [.data, .data, .data, .data, .sentinel, .sentinel, .pinned], laidTests := true, laidLooks := .later }
def ParseExprsCardSaid : Prop := Claim7.holds Tryz.pinned (.plain (OpenSpec.ofChange parseExprsSpec)) parseExprsCard

/-- THE TIED CARD OF 'scruplelaw17.ParseReads'. -/
def parseReadsCard : Claim7 := { stood := { row := parseReadsRow, standIns := [], harness := (true, "3bd69c4d1c3546ca78116880a632746f77129181231dec30ab07458b9a03f682"), looks := true }, kinds := [], alts := [], laidByText := true, laidKinds := [.data, .data, .data, .data, .sentinel, .sentinel, .pinned], laidTests := true, laidLooks := .later }
def ParseReadsCardSaid : Prop := Claim7.holds Tryz.pinned (.plain (OpenSpec.ofChange parseReadsSpec)) parseReadsCard

/-- THE TIED CARD OF 'scruplelaw17.ParseWithin'. -/
def parseWithinCard : Claim7 := { stood := { row := parseWithinRow, standIns := [], harness := (true, "3bd69c4d1c3546ca78116880a632746f77129181231dec30ab07458b9a03f682"), looks := true }, kinds := [], alts := [], laidByText := true, laidKinds := [.data, .data, .data, .data, .sentinel, .sentinel, .pinned], laidTests := true, laidLooks := .later }
def ParseWithinCardSaid : Prop := Claim7.holds Tryz.pinned (.plain (OpenSpec.ofChange parseWithinSpec)) parseWithinCard

/-- THE TIED CARD OF 'scruplelaw17.ParseStops'. -/
def parseStopsCard : Claim7 := { stood := { row := parseStopsRow, standIns := [], harness := (true, "3bd69c4d1c3546ca78116880a632746f77129181231dec30ab07458b9a03f682"), looks := true }, kinds := [], alts := [], laidByText := true, laidKinds := [.data, .data, .data, .data, .sentinel, .sentinel, .pinned], laidTests := true, laidLooks := .later }
def ParseStopsCardSaid : Prop := Claim7.holds Tryz.pinned (.plain (OpenSpec.ofChange parseStopsSpec)) parseStopsCard

/-- THE TIED CARD OF 'scruplelaw17.ParseDeep'. -/
def parseDeepCard : Claim7 := { stood := { row := parseDeepRow, standIns := [], harness := (true, "3bd69c4d1c3546ca78116880a632746f77129181231dec30ab07458b9a03f682"), looks := true }, kinds := [], alts := [], laidByText := true, laidKinds := [.data, .data, .data, .data, .sentinel, .sentinel, .pinned], laidTests := true, laidLooks := .later }
def ParseDeepCardSaid : Prop := Claim7.holds Tryz.pinned (.plain (OpenSpec.ofChange parseDeepSpec)) parseDeepCard

/-- THE TIED CARD OF 'scruplelaw18.PrintExprs'. -/
def printExprsCard : Claim7 := { stood := { row := printExprsRow, standIns := [], harness := (true, "3bd69c4d1c3546ca78116880a632746f77129181231dec30ab07458b9a03f682"), looks := true }, kinds := [], alts := [], laidByText := true, laidKinds := [.data, .data, .data, .data, .sentinel, .sentinel, .pinned], laidTests := true, laidLooks := .later }
def PrintExprsCardSaid : Prop := Claim7.holds Tryz.pinned (.plain (OpenSpec.ofChange printExprsSpec)) printExprsCard

/-- THE TIED CARD OF 'scruplelaw18.PrintBack'. -/
def printBackCard : Claim7 := { stood := { row := printBackRow, standIns := [], harness := (true, "3bd69c4d1c3546ca78116880a632746f77129181231dec30ab07458b9a03f682"), looks := true }, kinds := [], alts := [], laidByText := true, laidKinds := [.data, .data, .data, .data, .sentinel, .sentinel, .pinned], laidTests := true, laidLooks := .later }
def PrintBackCardSaid : Prop := Claim7.holds Tryz.pinned (.plain (OpenSpec.ofChange printBackSpec)) printBackCard

/-- THE TIED CARD OF 'scruplelaw18.PrintRead'. -/
def printReadCard : Claim7 := { stood := { row := printReadRow, standIns := [], harness := (true, "3bd69c4d1c3546ca78116880a632746f77129181231dec30ab07458b9a03f682"), looks := true }, kinds := [], alts := [], laidByText := true, laidKinds := [.data, .data, .data, .data, .sentinel, .sentinel, .pinned], laidTests := true, laidLooks := .later }
def PrintReadCardSaid : Prop := Claim7.holds Tryz.pinned (.plain (OpenSpec.ofChange printReadSpec)) printReadCard

/-- THE SECOND FORM's CARD OF 'scruplelaw17.ParseExprs'. -/
def parseExprsUptoCard : Claim7 := { stood := { row := parseExprsUptoRow, standIns := [], harness := (true, "3bd69c4d1c3546ca78116880a632746f77129181231dec30ab07458b9a03f682"), looks := true }, kinds := [], alts := [], laidByText := true, laidKinds := [.data, .data, .data, .data, .sentinel, .sentinel, .pinned], laidTests := true, laidLooks := .later }
def ParseExprsUptoCardSaid : Prop := Claim7.holds Tryz.pinned (.plain (OpenSpec.upto parseExprsSpec)) parseExprsUptoCard

/-- THE SECOND FORM's CARD OF 'scruplelaw17.ParseReads'. -/
def parseReadsUptoCard : Claim7 := { stood := { row := parseReadsUptoRow, standIns := [], harness := (true, "3bd69c4d1c3546ca78116880a632746f77129181231dec30ab07458b9a03f682"), looks := true }, kinds := [], alts := [], laidByText := true, laidKinds := [.data, .data, .data, .data, .sentinel, .sentinel, .pinned], laidTests := true, laidLooks := .later }
def ParseReadsUptoCardSaid : Prop := Claim7.holds Tryz.pinned (.plain (OpenSpec.upto parseReadsSpec)) parseReadsUptoCard

/-- THE SECOND FORM's CARD OF 'scruplelaw17.ParseWithin'. -/
def parseWithinUptoCard : Claim7 := { stood := { row := parseWithinUptoRow, standIns := [], harness := (true, "3bd69c4d1c3546ca78116880a632746f77129181231dec30ab07458b9a03f682"), looks := true }, kinds := [], alts := [], laidByText := true, laidKinds := [.data, .data, .data, .data, .sentinel, .sentinel, .pinned], laidTests := true, laidLooks := .later }
def ParseWithinUptoCardSaid : Prop := Claim7.holds Tryz.pinned (.plain (OpenSpec.upto parseWithinSpec)) parseWithinUptoCard

/-- THE SECOND FORM's CARD OF 'scruplelaw17.ParseStops'. -/
def parseStopsUptoCard : Claim7 := { stood := { row := parseStopsUptoRow, standIns := [], harness := (true, "3bd69c4d1c3546ca78116880a632746f77129181231dec30ab07458b9a03f682"), looks := true }, kinds := [], alts := [], laidByText := true, laidKinds := [.data, .data, .data, .data, .sentinel, .sentinel, .pinned], laidTests := true, laidLooks := .later }
def ParseStopsUptoCardSaid : Prop := Claim7.holds Tryz.pinned (.plain (OpenSpec.upto parseStopsSpec)) parseStopsUptoCard

/-- THE SECOND FORM's CARD OF 'scruplelaw17.ParseDeep'. -/
def parseDeepUptoCard : Claim7 := { stood := { row := parseDeepUptoRow, standIns := [], harness := (true, "3bd69c4d1c3546ca78116880a632746f77129181231dec30ab07458b9a03f682"), looks := true }, kinds := [], alts := [], laidByText := true, laidKinds := [.data, .data, .data, .data, .sentinel, .sentinel, .pinned], laidTests := true, laidLooks := .later }
def ParseDeepUptoCardSaid : Prop := Claim7.holds Tryz.pinned (.plain (OpenSpec.upto parseDeepSpec)) parseDeepUptoCard

/-- THE SECOND FORM's CARD OF 'scruplelaw18.PrintExprs'. -/
def printExprsUptoCard : Claim7 := { stood := { row := printExprsUptoRow, standIns := [], harness := (true, "3bd69c4d1c3546ca78116880a632746f77129181231dec30ab07458b9a03f682"), looks := true }, kinds := [], alts := [], laidByText := true, laidKinds := [.data, .data, .data, .data, .sentinel, .sentinel, .pinned], laidTests := true, laidLooks := .later }
def PrintExprsUptoCardSaid : Prop := Claim7.holds Tryz.pinned (.plain (OpenSpec.upto printExprsSpec)) printExprsUptoCard

/-- THE SECOND FORM's CARD OF 'scruplelaw18.PrintBack'. -/
def printBackUptoCard : Claim7 := { stood := { row := printBackUptoRow, standIns := [], harness := (true, "3bd69c4d1c3546ca78116880a632746f77129181231dec30ab07458b9a03f682"), looks := true }, kinds := [], alts := [], laidByText := true, laidKinds := [.data, .data, .data, .data, .sentinel, .sentinel, .pinned], laidTests := true, laidLooks := .later }
def PrintBackUptoCardSaid : Prop := Claim7.holds Tryz.pinned (.plain (OpenSpec.upto printBackSpec)) printBackUptoCard

/-- THE SECOND FORM's CARD OF 'scruplelaw18.PrintRead'. -/
def printReadUptoCard : Claim7 := { stood := { row := printReadUptoRow, standIns := [], harness := (true, "3bd69c4d1c3546ca78116880a632746f77129181231dec30ab07458b9a03f682"), looks := true }, kinds := [], alts := [], laidByText := true, laidKinds := [.data, .data, .data, .data, .sentinel, .sentinel, .pinned], laidTests := true, laidLooks := .later }
def PrintReadUptoCardSaid : Prop := Claim7.holds Tryz.pinned (.plain (OpenSpec.upto printReadSpec)) printReadUptoCard
end Rows
end Go.Proofs.YtlnhhffhmeekoaaGreatDoor
