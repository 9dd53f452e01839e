/-
  DERIVED. GIVEN WITH THE SEED: THE CARDS: each row of YtlikeadfohahdaaGreatDoorRows.lean that lists a variable, with what it lists TIED to the program's text (the seventh form; the later family's looks); each row that meets fmt, with fmt's text TOLD by the authors' own Lean function (tested against real Go, not proved from fmt's source: count such statements apart). THE CARD IS WHAT COUNTS. Prove the row's statement (the work); the ties are given (YtlikeadfohahdaaGreatDoorTie.lean); close each card by the builder's one call (the guide's Derived/Test/ToyasCard.lean, 'card_holds'). Laid BY PROGRAM, IN A SANDBOX (cutbox-door.mjs). By AI agents, Wed Nov 11 2026. No macro, syntax, notation, axiom, sorry.
-/
import Derived.Test.YtlikeadfohahdaaGreatDoorRows
import GoSem.ClaimSeven
namespace Go.Proofs.YtlikeadfohahdaaGreatDoor
namespace Rows

/-- THE TIED CARD OF 'letterpresslaw9.WorkNames'. -/
def workNamesCard : Claim7 := { stood := { row := workNamesRow, standIns := [], harness := (true, "eb7336d676ba82451cfc043e42db5e8e4b1dcf0afe2660924bda474536d529da"), looks := true }, kinds := [], alts := [], laidByText := true, laidKinds := [.data, .data, .data, .data, .sentinel, .sentinel, .listed, .data, .pinned], laidTests := true, laidLooks := .later }
def WorkNamesCardSaid : Prop := Claim7.holds Tryz.pinned (.plain (OpenSpec.ofChange workNamesSpec)) workNamesCard

/-- THE TIED CARD OF 'letterpresslaw9.WorkSame'. -/
def workSameCard : Claim7 := { stood := { row := workSameRow, standIns := [], harness := (true, "eb7336d676ba82451cfc043e42db5e8e4b1dcf0afe2660924bda474536d529da"), looks := true }, kinds := [], alts := [], laidByText := true, laidKinds := [.data, .data, .data, .data, .sentinel, .sentinel, .listed, .data, .pinned], laidTests := true, laidLooks := .later }
def WorkSameCardSaid : Prop := Claim7.holds Tryz.pinned (.plain (OpenSpec.ofChange workSameSpec)) workSameCard

/-- THE TIED CARD OF 'letterpresslaw9.WorkEmpty'. -/
def workEmptyCard : Claim7 := { stood := { row := workEmptyRow, standIns := [], harness := (true, "eb7336d676ba82451cfc043e42db5e8e4b1dcf0afe2660924bda474536d529da"), looks := true }, kinds := [], alts := [], laidByText := true, laidKinds := [.data, .data, .data, .data, .sentinel, .sentinel, .listed, .data, .pinned], laidTests := true, laidLooks := .later }
def WorkEmptyCardSaid : Prop := Claim7.holds Tryz.pinned (.plain (OpenSpec.ofChange workEmptySpec)) workEmptyCard

/-- THE SECOND FORM's CARD OF 'letterpresslaw9.WorkNames'. -/
def workNamesUptoCard : Claim7 := { stood := { row := workNamesUptoRow, standIns := [], harness := (true, "eb7336d676ba82451cfc043e42db5e8e4b1dcf0afe2660924bda474536d529da"), looks := true }, kinds := [], alts := [], laidByText := true, laidKinds := [.data, .data, .data, .data, .sentinel, .sentinel, .listed, .data, .pinned], laidTests := true, laidLooks := .later }
def WorkNamesUptoCardSaid : Prop := Claim7.holds Tryz.pinned (.plain (OpenSpec.upto workNamesSpec)) workNamesUptoCard

/-- THE SECOND FORM's CARD OF 'letterpresslaw9.WorkSame'. -/
def workSameUptoCard : Claim7 := { stood := { row := workSameUptoRow, standIns := [], harness := (true, "eb7336d676ba82451cfc043e42db5e8e4b1dcf0afe2660924bda474536d529da"), looks := true }, kinds := [], alts := [], laidByText := true, laidKinds := [.data, .data, .data, .data, .sentinel, .sentinel, .listed, .data, .pinned], laidTests := true, laidLooks := .later }
def WorkSameUptoCardSaid : Prop := Claim7.holds Tryz.pinned (.plain (OpenSpec.upto workSameSpec)) workSameUptoCard

/-- THE SECOND FORM's CARD OF 'letterpresslaw9.WorkEmpty'. -/
def workEmptyUptoCard : Claim7 := { stood := { row := workEmptyUptoRow, standIns := [], harness := (true, "eb7336d676ba82451cfc043e42db5e8e4b1dcf0afe2660924bda474536d529da"), looks := true }, kinds := [], alts := [], laidByText := true, laidKinds := [.data, .data, .data, .data, .sentinel, .sentinel, .listed, .data, .pinned], laidTests := true, laidLooks := .later }
def WorkEmptyUptoCardSaid : Prop := Claim7.holds Tryz.pinned (.plain (OpenSpec.upto workEmptySpec)) workEmptyUptoCard
end Rows
end Go.Proofs.YtlikeadfohahdaaGreatDoor
