/-
  DERIVED. GIVEN WITH THE SEED: THE CARDS: each row of YthlfeiiolafonaaGreatDoorRows.lean that lists a variable, with what it lists TIED to the program's text (the seventh form; the later family's looks); each row that meets fmt, with fmt's text TOLD by the authors' own Lean function (tested against real Go, not proved from fmt's source: count such statements apart). THE CARD IS WHAT COUNTS. Prove the row's statement (the work); the ties are given (YthlfeiiolafonaaGreatDoorTie.lean); close each card by the builder's one call (the guide's Derived/Test/ToyasCard.lean, 'card_holds'). Laid BY PROGRAM, IN A SANDBOX (cutbox-door.mjs). By AI agents, Wed Nov 11 2026. No macro, syntax, notation, axiom, sorry.
-/
import Derived.Test.YthlfeiiolafonaaGreatDoorRows
import GoSem.ClaimSeven
namespace Go.Proofs.YthlfeiiolafonaaGreatDoor
namespace Rows

/-- THE TIED CARD OF 'scruplelaw18.PrintTrees'. -/
def printTreesCard : Claim7 := { stood := { row := printTreesRow, standIns := [], harness := (true, "c3d15477c0a50bff076642ee93882d972f001ab1074e92e59082b3fd2d4fff5c"), looks := false }, kinds := [], alts := [], laidByText := true, laidKinds := [.data, .data, .data], laidTests := true, laidLooks := .later }
def PrintTreesCardSaid : Prop := Claim7.holds Tryz.pinned (.plain (OpenSpec.ofChange printTreesSpec)) printTreesCard

/-- THE TIED CARD OF 'scruplelaw18.PrintApart'. -/
def printApartCard : Claim7 := { stood := { row := printApartRow, standIns := [], harness := (true, "c3d15477c0a50bff076642ee93882d972f001ab1074e92e59082b3fd2d4fff5c"), looks := false }, kinds := [], alts := [], laidByText := true, laidKinds := [.data, .data, .data], laidTests := true, laidLooks := .later }
def PrintApartCardSaid : Prop := Claim7.holds Tryz.pinned (.plain (OpenSpec.ofChange printApartSpec)) printApartCard

/-- THE SECOND FORM's CARD OF 'scruplelaw18.PrintTrees'. -/
def printTreesUptoCard : Claim7 := { stood := { row := printTreesUptoRow, standIns := [], harness := (true, "c3d15477c0a50bff076642ee93882d972f001ab1074e92e59082b3fd2d4fff5c"), looks := false }, kinds := [], alts := [], laidByText := true, laidKinds := [.data, .data, .data], laidTests := true, laidLooks := .later }
def PrintTreesUptoCardSaid : Prop := Claim7.holds Tryz.pinned (.plain (OpenSpec.upto printTreesSpec)) printTreesUptoCard

/-- THE SECOND FORM's CARD OF 'scruplelaw18.PrintApart'. -/
def printApartUptoCard : Claim7 := { stood := { row := printApartUptoRow, standIns := [], harness := (true, "c3d15477c0a50bff076642ee93882d972f001ab1074e92e59082b3fd2d4fff5c"), looks := false }, kinds := [], alts := [], laidByText := true, laidKinds := [.data, .data, .data], laidTests := true, laidLooks := .later }
def PrintApartUptoCardSaid : Prop := Claim7.holds Tryz.pinned (.plain (OpenSpec.upto printApartSpec)) printApartUptoCard
end Rows
end Go.Proofs.YthlfeiiolafonaaGreatDoor
