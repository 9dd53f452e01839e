/-
  DERIVED. GIVEN WITH THE SEED: THE CARDS: each row of YthigmipcadhnkaaGreatDoorRows.lean that lists a variable, with what it lists TIED to the program's text (the seventh form; the later family's looks); each row that meets fmt, with fmt's text TOLD by the authors' own Lean function (tested against real Go, not proved from fmt's source: count such statements apart). THE CARD IS WHAT COUNTS. Prove the row's statement (the work); the ties are given (YthigmipcadhnkaaGreatDoorTie.lean); close each card by the builder's one call (the guide's Derived/Test/ToyasCard.lean, 'card_holds'). Laid BY PROGRAM, IN A SANDBOX (cutbox-door.mjs). By AI agents, Wed Nov 11 2026. No macro, syntax, notation, axiom, sorry.
-/
import Derived.Test.YthigmipcadhnkaaGreatDoorRows
import GoSem.ClaimSeven
namespace Go.Proofs.YthigmipcadhnkaaGreatDoor
namespace Rows

/-- THE TIED CARD OF 'letterpresslaw5.AsmOrder'. -/
def asmOrderCard : Claim7 := { stood := { row := asmOrderRow, standIns := [], harness := (true, "3a74b95ef9194efd57e8426e5842d51907e22407cc0aef6217cc0ed7c738cb5f"), looks := true }, kinds := [], alts := [], laidByText := true, laidKinds := [.data, .data, .data, .data, .sentinel, .sentinel, .listed, .data, .pinned], laidTests := true, laidLooks := .later }
def AsmOrderCardSaid : Prop := Claim7.holds Tryz.pinned (.plain (OpenSpec.ofChange asmOrderSpec)) asmOrderCard

/-- THE TIED CARD OF 'letterpresslaw5.AsmData'. -/
def asmDataCard : Claim7 := { stood := { row := asmDataRow, standIns := [], harness := (true, "3a74b95ef9194efd57e8426e5842d51907e22407cc0aef6217cc0ed7c738cb5f"), looks := true }, kinds := [], alts := [], laidByText := true, laidKinds := [.data, .data, .data, .data, .sentinel, .sentinel, .listed, .data, .pinned], laidTests := true, laidLooks := .later }
def AsmDataCardSaid : Prop := Claim7.holds Tryz.pinned (.plain (OpenSpec.ofChange asmDataSpec)) asmDataCard

/-- THE TIED CARD OF 'letterpresslaw5.AsmAligns'. -/
def asmAlignsCard : Claim7 := { stood := { row := asmAlignsRow, standIns := [], harness := (true, "3a74b95ef9194efd57e8426e5842d51907e22407cc0aef6217cc0ed7c738cb5f"), looks := true }, kinds := [], alts := [], laidByText := true, laidKinds := [.data, .data, .data, .data, .sentinel, .sentinel, .listed, .data, .pinned], laidTests := true, laidLooks := .later }
def AsmAlignsCardSaid : Prop := Claim7.holds Tryz.pinned (.plain (OpenSpec.ofChange asmAlignsSpec)) asmAlignsCard

/-- THE SECOND FORM's CARD OF 'letterpresslaw5.AsmOrder'. -/
def asmOrderUptoCard : Claim7 := { stood := { row := asmOrderUptoRow, standIns := [], harness := (true, "3a74b95ef9194efd57e8426e5842d51907e22407cc0aef6217cc0ed7c738cb5f"), looks := true }, kinds := [], alts := [], laidByText := true, laidKinds := [.data, .data, .data, .data, .sentinel, .sentinel, .listed, .data, .pinned], laidTests := true, laidLooks := .later }
def AsmOrderUptoCardSaid : Prop := Claim7.holds Tryz.pinned (.plain (OpenSpec.upto asmOrderSpec)) asmOrderUptoCard

/-- THE SECOND FORM's CARD OF 'letterpresslaw5.AsmData'. -/
def asmDataUptoCard : Claim7 := { stood := { row := asmDataUptoRow, standIns := [], harness := (true, "3a74b95ef9194efd57e8426e5842d51907e22407cc0aef6217cc0ed7c738cb5f"), looks := true }, kinds := [], alts := [], laidByText := true, laidKinds := [.data, .data, .data, .data, .sentinel, .sentinel, .listed, .data, .pinned], laidTests := true, laidLooks := .later }
def AsmDataUptoCardSaid : Prop := Claim7.holds Tryz.pinned (.plain (OpenSpec.upto asmDataSpec)) asmDataUptoCard

/-- THE SECOND FORM's CARD OF 'letterpresslaw5.AsmAligns'. -/
def asmAlignsUptoCard : Claim7 := { stood := { row := asmAlignsUptoRow, standIns := [], harness := (true, "3a74b95ef9194efd57e8426e5842d51907e22407cc0aef6217cc0ed7c738cb5f"), looks := true }, kinds := [], alts := [], laidByText := true, laidKinds := [.data, .data, .data, .data, .sentinel, .sentinel, .listed, .data, .pinned], laidTests := true, laidLooks := .later }
def AsmAlignsUptoCardSaid : Prop := Claim7.holds Tryz.pinned (.plain (OpenSpec.upto asmAlignsSpec)) asmAlignsUptoCard
end Rows
end Go.Proofs.YthigmipcadhnkaaGreatDoor
