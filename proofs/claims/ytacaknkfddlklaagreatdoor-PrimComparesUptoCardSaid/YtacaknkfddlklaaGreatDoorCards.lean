/-
  DERIVED. GIVEN WITH THE SEED: THE CARDS: each row of YtacaknkfddlklaaGreatDoorRows.lean that lists a variable, with what it lists TIED to the program's text (the seventh form; the later family's looks); each row that meets fmt, with fmt's text TOLD by the authors' own Lean function (tested against real Go, not proved from fmt's source: count such statements apart). THE CARD IS WHAT COUNTS. Prove the row's statement (the work); the ties are given (YtacaknkfddlklaaGreatDoorTie.lean); close each card by the builder's one call (the guide's Derived/Test/ToyasCard.lean, 'card_holds'). Laid BY PROGRAM, IN A SANDBOX (cutbox-door.mjs). By AI agents, Wed Nov 11 2026. No macro, syntax, notation, axiom, sorry.
-/
import Derived.Test.YtacaknkfddlklaaGreatDoorRows
import GoSem.ClaimSeven
namespace Go.Proofs.YtacaknkfddlklaaGreatDoor
namespace Rows

/-- THE TIED CARD OF 'scruplelaw13.PrimDoes'. -/
def primDoesCard : Claim7 := { stood := { row := primDoesRow, standIns := [], harness := (true, "c503c7b8ffa2fe06413ba1f3b0c21fe95d6f9857cf5b9b5607dea9ceffe3e29d"), looks := false }, kinds := [], alts := [], laidByText := true, laidKinds := [.data, .data, .data], laidTests := true, laidLooks := .later }
def PrimDoesCardSaid : Prop := Claim7.holds Tryz.pinned (.plain (OpenSpec.ofChange primDoesSpec)) primDoesCard

/-- THE TIED CARD OF 'scruplelaw13.PrimTakes'. -/
def primTakesCard : Claim7 := { stood := { row := primTakesRow, standIns := [], harness := (true, "c503c7b8ffa2fe06413ba1f3b0c21fe95d6f9857cf5b9b5607dea9ceffe3e29d"), looks := false }, kinds := [], alts := [], laidByText := true, laidKinds := [.data, .data, .data], laidTests := true, laidLooks := .later }
def PrimTakesCardSaid : Prop := Claim7.holds Tryz.pinned (.plain (OpenSpec.ofChange primTakesSpec)) primTakesCard

/-- THE TIED CARD OF 'scruplelaw13.PrimRight'. -/
def primRightCard : Claim7 := { stood := { row := primRightRow, standIns := [], harness := (true, "c503c7b8ffa2fe06413ba1f3b0c21fe95d6f9857cf5b9b5607dea9ceffe3e29d"), looks := false }, kinds := [], alts := [], laidByText := true, laidKinds := [.data, .data, .data], laidTests := true, laidLooks := .later }
def PrimRightCardSaid : Prop := Claim7.holds Tryz.pinned (.plain (OpenSpec.ofChange primRightSpec)) primRightCard

/-- THE TIED CARD OF 'scruplelaw13.PrimCompares'. -/
def primComparesCard : Claim7 := { stood := { row := primComparesRow, standIns := [], harness := (true, "c503c7b8ffa2fe06413ba1f3b0c21fe95d6f9857cf5b9b5607dea9ceffe3e29d"), looks := false }, kinds := [], alts := [], laidByText := true, laidKinds := [.data, .data, .data], laidTests := true, laidLooks := .later }
def PrimComparesCardSaid : Prop := Claim7.holds Tryz.pinned (.plain (OpenSpec.ofChange primComparesSpec)) primComparesCard

/-- THE TIED CARD OF 'scruplelaw13.PrimJoins'. -/
def primJoinsCard : Claim7 := { stood := { row := primJoinsRow, standIns := [], harness := (true, "c503c7b8ffa2fe06413ba1f3b0c21fe95d6f9857cf5b9b5607dea9ceffe3e29d"), looks := false }, kinds := [], alts := [], laidByText := true, laidKinds := [.data, .data, .data], laidTests := true, laidLooks := .later }
def PrimJoinsCardSaid : Prop := Claim7.holds Tryz.pinned (.plain (OpenSpec.ofChange primJoinsSpec)) primJoinsCard

/-- THE TIED CARD OF 'scruplelaw13.PrimRounds'. -/
def primRoundsCard : Claim7 := { stood := { row := primRoundsRow, standIns := [], harness := (true, "c503c7b8ffa2fe06413ba1f3b0c21fe95d6f9857cf5b9b5607dea9ceffe3e29d"), looks := false }, kinds := [], alts := [], laidByText := true, laidKinds := [.data, .data, .data], laidTests := true, laidLooks := .later }
def PrimRoundsCardSaid : Prop := Claim7.holds Tryz.pinned (.plain (OpenSpec.ofChange primRoundsSpec)) primRoundsCard

/-- THE SECOND FORM's CARD OF 'scruplelaw13.PrimDoes'. -/
def primDoesUptoCard : Claim7 := { stood := { row := primDoesUptoRow, standIns := [], harness := (true, "c503c7b8ffa2fe06413ba1f3b0c21fe95d6f9857cf5b9b5607dea9ceffe3e29d"), looks := false }, kinds := [], alts := [], laidByText := true, laidKinds := [.data, .data, .data], laidTests := true, laidLooks := .later }
def PrimDoesUptoCardSaid : Prop := Claim7.holds Tryz.pinned (.plain (OpenSpec.upto primDoesSpec)) primDoesUptoCard

/-- THE SECOND FORM's CARD OF 'scruplelaw13.PrimTakes'. -/
def primTakesUptoCard : Claim7 := { stood := { row := primTakesUptoRow, standIns := [], harness := (true, "c503c7b8ffa2fe06413ba1f3b0c21fe95d6f9857cf5b9b5607dea9ceffe3e29d"), looks := false }, kinds := [], alts := [], laidByText := true, laidKinds := [.data, .data, .data], laidTests := true, laidLooks := .later }
def PrimTakesUptoCardSaid : Prop := Claim7.holds Tryz.pinned (.plain (OpenSpec.upto primTakesSpec)) primTakesUptoCard

/-- THE SECOND FORM's CARD OF 'scruplelaw13.PrimRight'. -/
def primRightUptoCard : Claim7 := { stood := { row := primRightUptoRow, standIns := [], harness := (true, "c503c7b8ffa2fe06413ba1f3b0c21fe95d6f9857cf5b9b5607dea9ceffe3e29d"), looks := false }, kinds := [], alts := [], laidByText := true, laidKinds := [.data, .data, .data], laidTests := true, laidLooks := .later }
def PrimRightUptoCardSaid : Prop := Claim7.holds Tryz.pinned (.plain (OpenSpec.upto primRightSpec)) primRightUptoCard

/-- THE SECOND FORM's CARD OF 'scruplelaw13.PrimCompares'. -/
def primComparesUptoCard : Claim7 := { stood := { row := primComparesUptoRow, standIns := [], harness := (true, "c503c7b8ffa2fe06413ba1f3b0c21fe95d6f9857cf5b9b5607dea9ceffe3e29d"), looks := false }, kinds := [], alts := [], laidByText := true, laidKinds := [.data, .data, .data], laidTests := true, laidLooks := .later }
def PrimComparesUptoCardSaid : Prop := Claim7.holds Tryz.pinned (.plain (OpenSpec.upto primComparesSpec)) primComparesUptoCard

/-- THE SECOND FORM's CARD OF 'scruplelaw13.PrimJoins'. -/
def primJoinsUptoCard : Claim7 := { stood := { row := primJoinsUptoRow, standIns := [], harness := (true, "c503c7b8ffa2fe06413ba1f3b0c21fe95d6f9857cf5b9b5607dea9ceffe3e29d"), looks := false }, kinds := [], alts := [], laidByText := true, laidKinds := [.data, .data, .data], laidTests := true, laidLooks := .later }
def PrimJoinsUptoCardSaid : Prop := Claim7.holds Tryz.pinned (.plain (OpenSpec.upto primJoinsSpec)) primJoinsUptoCard

/-- THE SECOND FORM's CARD OF 'scruplelaw13.PrimRounds'. -/
def primRoundsUptoCard : Claim7 := { stood := { row := primRoundsUptoRow, standIns := [], harness := (true, "c503c7b8ffa2fe06413ba1f3b0c21fe95d6f9857cf5b9b5607dea9ceffe3e29d"), looks := false }, kinds := [], alts := [], laidByText := true, laidKinds := [.data, .data, .data], laidTests := true, laidLooks := .later }
def PrimRoundsUptoCardSaid : Prop := Claim7.holds Tryz.pinned (.plain (OpenSpec.upto primRoundsSpec)) primRoundsUptoCard
end Rows
end Go.Proofs.YtacaknkfddlklaaGreatDoor
