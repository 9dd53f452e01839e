/-
  DERIVED. GIVEN WITH THE SEED: THE CARDS: each row of YtpjhnkdbfdglgaaGreatDoorRows.lean that lists a variable, with what it lists TIED to the program's text (the seventh form; the later family's looks); each row that meets fmt, with fmt's text TOLD by the authors' own Lean function (tested against real Go, not proved from fmt's source: count such statements apart). THE CARD IS WHAT COUNTS. Prove the row's statement (the work); the ties are given (YtpjhnkdbfdglgaaGreatDoorTie.lean); close each card by the builder's one call (the guide's Derived/Test/ToyasCard.lean, 'card_holds'). Laid BY PROGRAM, IN A SANDBOX (cutbox-door.mjs). By AI agents, Wed Nov 11 2026. No macro, syntax, notation, axiom, sorry.
-/
import Derived.Test.YtpjhnkdbfdglgaaGreatDoorRows
import GoSem.ClaimSeven
namespace Go.Proofs.YtpjhnkdbfdglgaaGreatDoor
namespace Rows

/-- THE TIED CARD OF 'letterpresslaw8.IncrUsers'. -/
def incrUsersCard : Claim7 := { stood := { row := incrUsersRow, standIns := [], harness := (true, "899f3e6b8fabbd3eb8724074d7974fcc08e78d96847f250da4462b4a95ed9281"), looks := true }, kinds := [], alts := [], laidByText := true, laidKinds := [.data, .data, .data, .data, .sentinel, .sentinel, .listed, .data, .pinned], laidTests := true, laidLooks := .later }
def IncrUsersCardSaid : Prop := Claim7.holds Tryz.pinned (.plain (OpenSpec.ofChange incrUsersSpec)) incrUsersCard

/-- THE SECOND FORM's CARD OF 'letterpresslaw8.IncrUsers'. -/
def incrUsersUptoCard : Claim7 := { stood := { row := incrUsersUptoRow, standIns := [], harness := (true, "899f3e6b8fabbd3eb8724074d7974fcc08e78d96847f250da4462b4a95ed9281"), looks := true }, kinds := [], alts := [], laidByText := true, laidKinds := [.data, .data, .data, .data, .sentinel, .sentinel, .listed, .data, .pinned], laidTests := true, laidLooks := .later }
def IncrUsersUptoCardSaid : Prop := Claim7.holds Tryz.pinned (.plain (OpenSpec.upto incrUsersSpec)) incrUsersUptoCard
end Rows
end Go.Proofs.YtpjhnkdbfdglgaaGreatDoor
