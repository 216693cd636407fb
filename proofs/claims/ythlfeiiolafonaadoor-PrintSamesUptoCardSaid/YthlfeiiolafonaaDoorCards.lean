/-
  DERIVED. GIVEN WITH THE SEED: THE CARDS: each row of YthlfeiiolafonaaDoorRows.lean that lists a variable, with what it lists TIED to the program's text (the seventh form; the later family's looks); each row that meets fmt, with fmt's text TOLD by the authors' own Lean function (tested against real Go, not proved from fmt's source: count such statements apart). THE CARD IS WHAT COUNTS. Prove the row's statement (the work); the ties are given (YthlfeiiolafonaaDoorTie.lean); close each card by the builder's one call (the guide's Derived/Test/ToyasCard.lean, 'card_holds'). Laid BY PROGRAM, IN A SANDBOX (cutbox-door.mjs). By AI agents, Wed Nov 11 2026. No macro, syntax, notation, axiom, sorry.
-/
import Derived.Test.YthlfeiiolafonaaDoorRows
import GoSem.ClaimSeven
namespace Go.Proofs.YthlfeiiolafonaaDoor
namespace Rows

/-- THE TIED CARD OF 'scruplelaw18.PrintSames'. -/
def printSamesCard : Claim7 := { stood := { row := printSamesRow, standIns := [], harness := (true, "c1970f0e78858201004071e537bf4b8cc500e3229a5f0da01d62affdddd6a2fa"), looks := false }, kinds := [], alts := [], laidByText := true, laidKinds := [.data, .data, .data], laidTests := true, laidLooks := .later }
def PrintSamesCardSaid : Prop := Claim7.holds Tryd.pinned (.plain (OpenSpec.ofChange printSamesSpec)) printSamesCard

/-- THE SECOND FORM's CARD OF 'scruplelaw18.PrintSames'. -/
def printSamesUptoCard : Claim7 := { stood := { row := printSamesUptoRow, standIns := [], harness := (true, "c1970f0e78858201004071e537bf4b8cc500e3229a5f0da01d62affdddd6a2fa"), looks := false }, kinds := [], alts := [], laidByText := true, laidKinds := [.data, .data, .data], laidTests := true, laidLooks := .later }
def PrintSamesUptoCardSaid : Prop := Claim7.holds Tryd.pinned (.plain (OpenSpec.upto printSamesSpec)) printSamesUptoCard
end Rows
end Go.Proofs.YthlfeiiolafonaaDoor
