/-
  DERIVED. GIVEN WITH THE SEED: THE CARDS: each row of YtiddcelpooenfaaGreatDoorRows.lean that lists a variable, with what it lists TIED to the program's text (the seventh form; the later family's looks); each row that meets fmt, with fmt's text TOLD by the authors' own Lean function (tested against real Go, not proved from fmt's source: count such statements apart). THE CARD IS WHAT COUNTS. Prove the row's statement (the work); the ties are given (YtiddcelpooenfaaGreatDoorTie.lean); close each card by the builder's one call (the guide's Derived/Test/ToyasCard.lean, 'card_holds'). Laid BY PROGRAM, IN A SANDBOX (cutbox-door.mjs). By AI agents, Wed Nov 11 2026. No macro, syntax, notation, axiom, sorry.
-/
import Derived.Test.YtiddcelpooenfaaGreatDoorRows
import GoSem.ClaimSeven
namespace Go.Proofs.YtiddcelpooenfaaGreatDoor
namespace Rows

/-- THE TIED CARD OF 'letterpresslaw5.AsmAligns'. -/
def asmAlignsCard : Claim7 := { stood := { row := asmAlignsRow, standIns := [], harness := (true, "53c1e1a947c6d1cb063833dbd88ce08e2853452f29877b104ba353878fa6ce82"), looks := true }, kinds := [], alts := [], laidByText := true, laidKinds := [.data, .data, .data, .data, .sentinel, .sentinel, .listed, .data, .pinned], laidTests := true, laidLooks := .later }
def AsmAlignsCardSaid : Prop := Claim7.holds Tryz.pinned (.plain (OpenSpec.ofChange asmAlignsSpec)) asmAlignsCard

/-- THE TIED CARD OF 'letterpresslaw8.IncrSyms'. -/
def incrSymsCard : Claim7 := { stood := { row := incrSymsRow, standIns := [], harness := (true, "53c1e1a947c6d1cb063833dbd88ce08e2853452f29877b104ba353878fa6ce82"), looks := true }, kinds := [], alts := [], laidByText := true, laidKinds := [.data, .data, .data, .data, .sentinel, .sentinel, .listed, .data, .pinned], laidTests := true, laidLooks := .later }
def IncrSymsCardSaid : Prop := Claim7.holds Tryz.pinned (.plain (OpenSpec.ofChange incrSymsSpec)) incrSymsCard

/-- THE SECOND FORM's CARD OF 'letterpresslaw5.AsmAligns'. -/
def asmAlignsUptoCard : Claim7 := { stood := { row := asmAlignsUptoRow, standIns := [], harness := (true, "53c1e1a947c6d1cb063833dbd88ce08e2853452f29877b104ba353878fa6ce82"), looks := true }, kinds := [], alts := [], laidByText := true, laidKinds := [.data, .data, .data, .data, .sentinel, .sentinel, .listed, .data, .pinned], laidTests := true, laidLooks := .later }
def AsmAlignsUptoCardSaid : Prop := Claim7.holds Tryz.pinned (.plain (OpenSpec.upto asmAlignsSpec)) asmAlignsUptoCard

/-- THE SECOND FORM's CARD OF 'letterpresslaw8.IncrSyms'. -/
def incrSymsUptoCard : Claim7 := { stood := { row := incrSymsUptoRow, standIns := [], harness := (true, "53c1e1a947c6d1cb063833dbd88ce08e2853452f29877b104ba353878fa6ce82"), looks := true }, kinds := [], alts := [], laidByText := true, laidKinds := [.data, .data, .data, .data, .sentinel, .sentinel, .listed, .data, .pinned], laidTests := true, laidLooks := .later }
def IncrSymsUptoCardSaid : Prop := Claim7.holds Tryz.pinned (.plain (OpenSpec.upto incrSymsSpec)) incrSymsUptoCard
end Rows
end Go.Proofs.YtiddcelpooenfaaGreatDoor
