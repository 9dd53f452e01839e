/-
  DERIVED. GIVEN WITH THE SEED: THE CARDS: each row of YtgkmmcdhhkllnaaGreatDoorRows.lean that lists a variable, with what it lists TIED to the program's text (the seventh form; the later family's looks); each row that meets fmt, with fmt's text TOLD by the authors' own Lean function (tested against real Go, not proved from fmt's source: count such statements apart). THE CARD IS WHAT COUNTS. Prove the row's statement (the work); the ties are given (YtgkmmcdhhkllnaaGreatDoorTie.lean); close each card by the builder's one call (the guide's Derived/Test/ToyasCard.lean, 'card_holds'). Laid BY PROGRAM, IN A SANDBOX (cutbox-door.mjs). By AI agents, Wed Nov 11 2026. No macro, syntax, notation, axiom, sorry.
-/
import Derived.Test.YtgkmmcdhhkllnaaGreatDoorRows
import GoSem.ClaimSeven
namespace Go.Proofs.YtgkmmcdhhkllnaaGreatDoor
namespace Rows

/-- THE TIED CARD OF 'letterpresslaw8.IncrAgain'. -/
def incrAgainCard : Claim7 := { stood := { row := incrAgainRow, standIns := [], harness := (true, "0358375d37ee16f40d26fa407f435674847bc95fa8e5d8a89f48d6a4ec8d8ab0"), looks := true }, kinds := [], alts := [], laidByText := true, laidKinds := [.data, .data, .data, .data, .sentinel, .sentinel, .listed, .data, .pinned], laidTests := true, laidLooks := .later }
def IncrAgainCardSaid : Prop := Claim7.holds Tryz.pinned (.plain (OpenSpec.ofChange incrAgainSpec)) incrAgainCard

/-- THE TIED CARD OF 'letterpresslaw9.WorkSame'. -/
def workSameCard : Claim7 := { stood := { row := workSameRow, standIns := [], harness := (true, "0358375d37ee16f40d26fa407f435674847bc95fa8e5d8a89f48d6a4ec8d8ab0"), looks := true }, kinds := [], alts := [], laidByText := true, laidKinds := [.data, .data, .data, .data, .sentinel, .sentinel, .listed, .data, .pinned], laidTests := true, laidLooks := .later }
def WorkSameCardSaid : Prop := Claim7.holds Tryz.pinned (.plain (OpenSpec.ofChange workSameSpec)) workSameCard

/-- THE TIED CARD OF 'letterpresslaw9.WorkEmpty'. -/
def workEmptyCard : Claim7 := { stood := { row := workEmptyRow, standIns := [], harness := (true, "0358375d37ee16f40d26fa407f435674847bc95fa8e5d8a89f48d6a4ec8d8ab0"), looks := true }, kinds := [], alts := [], laidByText := true, laidKinds := [.data, .data, .data, .data, .sentinel, .sentinel, .listed, .data, .pinned], laidTests := true, laidLooks := .later }
def WorkEmptyCardSaid : Prop := Claim7.holds Tryz.pinned (.plain (OpenSpec.ofChange workEmptySpec)) workEmptyCard

/-- THE SECOND FORM's CARD OF 'letterpresslaw8.IncrAgain'. -/
def incrAgainUptoCard : Claim7 := { stood := { row := incrAgainUptoRow, standIns := [], harness := (true, "0358375d37ee16f40d26fa407f435674847bc95fa8e5d8a89f48d6a4ec8d8ab0"), looks := true }, kinds := [], alts := [], laidByText := true, laidKinds := [.data, .data, .data, .data, .sentinel, .sentinel, .listed, .data, .pinned], laidTests := true, laidLooks := .later }
def IncrAgainUptoCardSaid : Prop := Claim7.holds Tryz.pinned (.plain (OpenSpec.upto incrAgainSpec)) incrAgainUptoCard

/-- THE SECOND FORM's CARD OF 'letterpresslaw9.WorkSame'. -/
def workSameUptoCard : Claim7 := { stood := { row := workSameUptoRow, standIns := [], harness := (true, "0358375d37ee16f40d26fa407f435674847bc95fa8e5d8a89f48d6a4ec8d8ab0"), looks := true }, kinds := [], alts := [], laidByText := true, laidKinds := [.data, .data, .data, .data, .sentinel, .sentinel, .listed, .data, .pinned], laidTests := true, laidLooks := .later }
def WorkSameUptoCardSaid : Prop := Claim7.holds Tryz.pinned (.plain (OpenSpec.upto workSameSpec)) workSameUptoCard

/-- THE SECOND FORM's CARD OF 'letterpresslaw9.WorkEmpty'. -/
def workEmptyUptoCard : Claim7 := { stood := { row := workEmptyUptoRow, standIns := [], harness := (true, "0358375d37ee16f40d26fa407f435674847bc95fa8e5d8a89f48d6a4ec8d8ab0"), looks := true }, kinds := [], alts := [], laidByText := true, laidKinds := [.data, .data, .data, .data, .sentinel, .sentinel, .listed, .data, .pinned], laidTests := true, laidLooks := .later }
def WorkEmptyUptoCardSaid : Prop := Claim7.holds Tryz.pinned (.plain (OpenSpec.upto workEmptySpec)) workEmptyUptoCard
end Rows
end Go.Proofs.YtgkmmcdhhkllnaaGreatDoor
