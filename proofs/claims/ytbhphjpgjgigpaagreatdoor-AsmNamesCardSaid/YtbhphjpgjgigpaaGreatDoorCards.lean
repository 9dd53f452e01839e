/-
  DERIVED. GIVEN WITH THE SEED: THE CARDS: each row of YtbhphjpgjgigpaaGreatDoorRows.lean that lists a variable, with what it lists TIED to the program's text (the seventh form; the later family's looks); each row that meets fmt, with fmt's text TOLD by the authors' own Lean function (tested against real Go, not proved from fmt's source: count such statements apart). THE CARD IS WHAT COUNTS. Prove the row's statement (the work); the ties are given (YtbhphjpgjgigpaaGreatDoorTie.lean); close each card by the builder's one call (the guide's Derived/Test/ToyasCard.lean, 'card_holds'). Laid BY PROGRAM, IN A SANDBOX (cutbox-door.mjs). By AI agents, Wed Nov 11 2026. No macro, syntax, notation, axiom, sorry.
-/
import Derived.Test.YtbhphjpgjgigpaaGreatDoorRows
import GoSem.ClaimSeven
namespace Go.Proofs.YtbhphjpgjgigpaaGreatDoor
namespace Rows

/-- THE TIED CARD OF 'letterpresslaw5.AsmOrder'. -/
def asmOrderCard : Claim7 := { stood := { row := asmOrderRow, standIns := [], harness := (true, "c5f3de71d74dc82b9d3ef4694be575d6d29378b07c26e3e3845c65fe3e6ce152"), looks := true }, kinds := [], alts := [], laidByText := true, laidKinds := [.data, .data, .data, .data, .sentinel, .sentinel, .listed, .data, .pinned], laidTests := true, laidLooks := .later }
def AsmOrderCardSaid : Prop := Claim7.holds Tryz.pinned (.plain (OpenSpec.ofChange asmOrderSpec)) asmOrderCard

/-- THE TIED CARD OF 'letterpresslaw5.AsmParts'. -/
def asmPartsCard : Claim7 := { stood := { row := asmPartsRow, standIns := [], harness := (true, "c5f3de71d74dc82b9d3ef4694be575d6d29378b07c26e3e3845c65fe3e6ce152"), looks := true }, kinds := [], alts := [], laidByText := true, laidKinds := [.data, .data, .data, .data, .sentinel, .sentinel, .listed, .data, .pinned], laidTests := true, laidLooks := .later }
def AsmPartsCardSaid : Prop := Claim7.holds Tryz.pinned (.plain (OpenSpec.ofChange asmPartsSpec)) asmPartsCard

/-- THE TIED CARD OF 'letterpresslaw5.AsmNames'. -/
def asmNamesCard : Claim7 := { stood := { row := asmNamesRow, standIns := [], harness := (true, "c5f3de71d74dc82b9d3ef4694be575d6d29378b07c26e3e3845c65fe3e6ce152"), looks := true }, kinds := [], alts := [], laidByText := true, laidKinds := [.data, .data, .data, .data, .sentinel, .sentinel, .listed, .data, .pinned], laidTests := true, laidLooks := .later }
def AsmNamesCardSaid : Prop := Claim7.holds Tryz.pinned (.plain (OpenSpec.ofChange asmNamesSpec)) asmNamesCard

/-- THE SECOND FORM's CARD OF 'letterpresslaw5.AsmOrder'. -/
def asmOrderUptoCard : Claim7 := { stood := { row := asmOrderUptoRow, standIns := [], harness := (true, "c5f3de71d74dc82b9d3ef4694be575d6d29378b07c26e3e3845c65fe3e6ce152"), looks := true }, kinds := [], alts := [], laidByText := true, laidKinds := [.data, .data, .data, .data, .sentinel, .sentinel, .listed, .data, .pinned], laidTests := true, laidLooks := .later }
def AsmOrderUptoCardSaid : Prop := Claim7.holds Tryz.pinned (.plain (OpenSpec.upto asmOrderSpec)) asmOrderUptoCard

/-- THE SECOND FORM's CARD OF 'letterpresslaw5.AsmParts'. -/
def asmPartsUptoCard : Claim7 := { stood := { row := asmPartsUptoRow, standIns := [], harness := (true, "c5f3de71d74dc82b9d3ef4694be575d6d29378b07c26e3e3845c65fe3e6ce152"), looks := true }, kinds := [], alts := [], laidByText := true, laidKinds := [.data, .data, .data, .data, .sentinel, .sentinel, .listed, .data, .pinned], laidTests := true, laidLooks := .later }
def AsmPartsUptoCardSaid : Prop := Claim7.holds Tryz.pinned (.plain (OpenSpec.upto asmPartsSpec)) asmPartsUptoCard

/-- THE SECOND FORM's CARD OF 'letterpresslaw5.AsmNames'. -/
def asmNamesUptoCard : Claim7 := { stood := { row := asmNamesUptoRow, standIns := [], harness := (true, "c5f3de71d74dc82b9d3ef4694be575d6d29378b07c26e3e3845c65fe3e6ce152"), looks := true }, kinds := [], alts := [], laidByText := true, laidKinds := [.data, .data, .data, .data, .sentinel, .sentinel, .listed, .data, .pinned], laidTests := true, laidLooks := .later }
def AsmNamesUptoCardSaid : Prop := Claim7.holds Tryz.pinned (.plain (OpenSpec.upto asmNamesSpec)) asmNamesUptoCard
end Rows
end Go.Proofs.YtbhphjpgjgigpaaGreatDoor
