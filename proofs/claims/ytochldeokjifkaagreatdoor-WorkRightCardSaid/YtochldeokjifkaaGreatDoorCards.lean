/-
  DERIVED. GIVEN WITH THE SEED: THE CARDS: each row of YtochldeokjifkaaGreatDoorRows.lean that lists a variable, with what it lists TIED to the program's text (the seventh form; the later family's looks); each row that meets fmt, with fmt's text TOLD by the authors' own Lean function (tested against real Go, not proved from fmt's source: count such statements apart). THE CARD IS WHAT COUNTS. Prove the row's statement (the work); the ties are given (YtochldeokjifkaaGreatDoorTie.lean); close each card by the builder's one call (the guide's Derived/Test/ToyasCard.lean, 'card_holds'). Laid BY PROGRAM, IN A SANDBOX (cutbox-door.mjs). By AI agents, Wed Nov 11 2026. No macro, syntax, notation, axiom, sorry.
-/
import Derived.Test.YtochldeokjifkaaGreatDoorRows
import GoSem.ClaimSeven
namespace Go.Proofs.YtochldeokjifkaaGreatDoor
namespace Rows

/-- THE TIED CARD OF 'letterpresslaw9.WorkRight'. -/
def workRightCard : Claim7 := { stood := { row := workRightRow, standIns := [], harness := (true, "c8346e79a6983d9af2ed98fccc1342407704f35c386fde88aac8c1ad073c0501"), looks := true }, kinds := [], alts := [], laidByText := true, laidKinds := [.data, .data, .data, .data, .sentinel, .sentinel, .listed, .data, .pinned], laidTests := true, laidLooks := .later }
def WorkRightCardSaid : Prop := Claim7.holds Tryz.pinned (.plain (OpenSpec.ofChange workRightSpec)) workRightCard

/-- THE TIED CARD OF 'letterpresslaw9.WorkShows'. -/
def workShowsCard : Claim7 := { stood := { row := workShowsRow, standIns := [], harness := (true, "c8346e79a6983d9af2ed98fccc1342407704f35c386fde88aac8c1ad073c0501"), looks := true }, kinds := [], alts := [], laidByText := true, laidKinds := [.data, .data, .data, .data, .sentinel, .sentinel, .listed, .data, .pinned], laidTests := true, laidLooks := .later }
def WorkShowsCardSaid : Prop := Claim7.holds Tryz.pinned (.plain (OpenSpec.ofChange workShowsSpec)) workShowsCard

/-- THE TIED CARD OF 'letterpresslaw9.WorkLimits'. -/
def workLimitsCard : Claim7 := { stood := { row := workLimitsRow, standIns := [], harness := (true, "c8346e79a6983d9af2ed98fccc1342407704f35c386fde88aac8c1ad073c0501"), looks := true }, kinds := [], alts := [], laidByText := true, laidKinds := [.data, .data, .data, .data, .sentinel, .sentinel, .listed, .data, .pinned], laidTests := true, laidLooks := .later }
def WorkLimitsCardSaid : Prop := Claim7.holds Tryz.pinned (.plain (OpenSpec.ofChange workLimitsSpec)) workLimitsCard

/-- THE TIED CARD OF 'letterpresslaw9.WorkTwice'. -/
def workTwiceCard : Claim7 := { stood := { row := workTwiceRow, standIns := [], harness := (true, "c8346e79a6983d9af2ed98fccc1342407704f35c386fde88aac8c1ad073c0501"), looks := true }, kinds := [], alts := [], laidByText := true, laidKinds := [.data, .data, .data, .data, .sentinel, .sentinel, .listed, .data, .pinned], laidTests := true, laidLooks := .later }
def WorkTwiceCardSaid : Prop := Claim7.holds Tryz.pinned (.plain (OpenSpec.ofChange workTwiceSpec)) workTwiceCard

/-- THE TIED CARD OF 'letterpresslaw9.WorkKnown'. -/
def workKnownCard : Claim7 := { stood := { row := workKnownRow, standIns := [], harness := (true, "c8346e79a6983d9af2ed98fccc1342407704f35c386fde88aac8c1ad073c0501"), looks := true }, kinds := [], alts := [], laidByText := true, laidKinds := [.data, .data, .data, .data, .sentinel, .sentinel, .listed, .data, .pinned], laidTests := true, laidLooks := .later }
def WorkKnownCardSaid : Prop := Claim7.holds Tryz.pinned (.plain (OpenSpec.ofChange workKnownSpec)) workKnownCard

/-- THE SECOND FORM's CARD OF 'letterpresslaw9.WorkRight'. -/
def workRightUptoCard : Claim7 := { stood := { row := workRightUptoRow, standIns := [], harness := (true, "c8346e79a6983d9af2ed98fccc1342407704f35c386fde88aac8c1ad073c0501"), looks := true }, kinds := [], alts := [], laidByText := true, laidKinds := [.data, .data, .data, .data, .sentinel, .sentinel, .listed, .data, .pinned], laidTests := true, laidLooks := .later }
def WorkRightUptoCardSaid : Prop := Claim7.holds Tryz.pinned (.plain (OpenSpec.upto workRightSpec)) workRightUptoCard

/-- THE SECOND FORM's CARD OF 'letterpresslaw9.WorkShows'. -/
def workShowsUptoCard : Claim7 := { stood := { row := workShowsUptoRow, standIns := [], harness := (true, "c8346e79a6983d9af2ed98fccc1342407704f35c386fde88aac8c1ad073c0501"), looks := true }, kinds := [], alts := [], laidByText := true, laidKinds := [.data, .data, .data, .data, .sentinel, .sentinel, .listed, .data, .pinned], laidTests := true, laidLooks := .later }
def WorkShowsUptoCardSaid : Prop := Claim7.holds Tryz.pinned (.plain (OpenSpec.upto workShowsSpec)) workShowsUptoCard

/-- THE SECOND FORM's CARD OF 'letterpresslaw9.WorkLimits'. -/
def workLimitsUptoCard : Claim7 := { stood := { row := workLimitsUptoRow, standIns := [], harness := (true, "c8346e79a6983d9af2ed98fccc1342407704f35c386fde88aac8c1ad073c0501"), looks := true }, kinds := [], alts := [], laidByText := true, laidKinds := [.data, .data, .data, .data, .sentinel, .sentinel, .listed, .data, .pinned], laidTests := true, laidLooks := .later }
def WorkLimitsUptoCardSaid : Prop := Claim7.holds Tryz.pinned (.plain (OpenSpec.upto workLimitsSpec)) workLimitsUptoCard

/-- THE SECOND FORM's CARD OF 'letterpresslaw9.WorkTwice'. -/
def workTwiceUptoCard : Claim7 := { stood := { row := workTwiceUptoRow, standIns := [], harness := (true, "c8346e79a6983d9af2ed98fccc1342407704f35c386fde88aac8c1ad073c0501"), looks := true }, kinds := [], alts := [], laidByText := true, laidKinds := [.data, .data, .data, .data, .sentinel, .sentinel, .listed, .data, .pinned], laidTests := true, laidLooks := .later }
def WorkTwiceUptoCardSaid : Prop := Claim7.holds Tryz.pinned (.plain (OpenSpec.upto workTwiceSpec)) workTwiceUptoCard

/-- THE SECOND FORM's CARD OF 'letterpresslaw9.WorkKnown'. -/
def workKnownUptoCard : Claim7 := { stood := { row := workKnownUptoRow, standIns := [], harness := (true, "c8346e79a6983d9af2ed98fccc1342407704f35c386fde88aac8c1ad073c0501"), looks := true }, kinds := [], alts := [], laidByText := true, laidKinds := [.data, .data, .data, .data, .sentinel, .sentinel, .listed, .data, .pinned], laidTests := true, laidLooks := .later }
def WorkKnownUptoCardSaid : Prop := Claim7.holds Tryz.pinned (.plain (OpenSpec.upto workKnownSpec)) workKnownUptoCard
end Rows
end Go.Proofs.YtochldeokjifkaaGreatDoor
