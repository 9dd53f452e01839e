/-
  DERIVED. GIVEN WITH THE SEED: THE CARDS: each row of YtmocchnodigmlaaGreatDoorRows.lean that lists a variable, with what it lists TIED to the program's text (the seventh form; the later family's looks); each row that meets fmt, with fmt's text TOLD by the authors' own Lean function (tested against real Go, not proved from fmt's source: count such statements apart). THE CARD IS WHAT COUNTS. Prove the row's statement (the work); the ties are given (YtmocchnodigmlaaGreatDoorTie.lean); close each card by the builder's one call (the guide's Derived/Test/ToyasCard.lean, 'card_holds'). Laid BY PROGRAM, IN A SANDBOX (cutbox-door.mjs). By AI agents, Wed Nov 11 2026. No macro, syntax, notation, axiom, sorry.
-/
import Derived.Test.YtmocchnodigmlaaGreatDoorRows
import GoSem.ClaimSeven
namespace Go.Proofs.YtmocchnodigmlaaGreatDoor
namespace Rows

/-- THE TIED CARD OF 'letterpresslaw5.AsmEdge'. -/
def asmEdgeCard : Claim7 := { stood := { row := asmEdgeRow, standIns := [], harness := (true, "7bd44990efb0b29af475dec93ffb0a9352301b22e22a0d95fcae26eff360837b"), looks := true }, kinds := [], alts := [], laidByText := true, laidKinds := [.data, .data, .data, .data, .sentinel, .sentinel, .listed, .data, .pinned], laidTests := true, laidLooks := .later }
def AsmEdgeCardSaid : Prop := Claim7.holds Tryz.pinned (.plain (OpenSpec.ofChange asmEdgeSpec)) asmEdgeCard

/-- THE TIED CARD OF 'letterpresslaw5.AsmErrs'. -/
def asmErrsCard : Claim7 := { stood := { row := asmErrsRow, standIns := [], harness := (true, "7bd44990efb0b29af475dec93ffb0a9352301b22e22a0d95fcae26eff360837b"), looks := true }, kinds := [], alts := [], laidByText := true, laidKinds := [.data, .data, .data, .data, .sentinel, .sentinel, .listed, .data, .pinned], laidTests := true, laidLooks := .later }
def AsmErrsCardSaid : Prop := Claim7.holds Tryz.pinned (.plain (OpenSpec.ofChange asmErrsSpec)) asmErrsCard

/-- THE TIED CARD OF 'letterpresslaw5.AsmEqus'. -/
def asmEqusCard : Claim7 := { stood := { row := asmEqusRow, standIns := [], harness := (true, "7bd44990efb0b29af475dec93ffb0a9352301b22e22a0d95fcae26eff360837b"), looks := true }, kinds := [], alts := [], laidByText := true, laidKinds := [.data, .data, .data, .data, .sentinel, .sentinel, .listed, .data, .pinned], laidTests := true, laidLooks := .later }
def AsmEqusCardSaid : Prop := Claim7.holds Tryz.pinned (.plain (OpenSpec.ofChange asmEqusSpec)) asmEqusCard

/-- THE TIED CARD OF 'letterpresslaw5.AsmData'. -/
def asmDataCard : Claim7 := { stood := { row := asmDataRow, standIns := [], harness := (true, "7bd44990efb0b29af475dec93ffb0a9352301b22e22a0d95fcae26eff360837b"), looks := true }, kinds := [], alts := [], laidByText := true, laidKinds := [.data, .data, .data, .data, .sentinel, .sentinel, .listed, .data, .pinned], laidTests := true, laidLooks := .later }
def AsmDataCardSaid : Prop := Claim7.holds Tryz.pinned (.plain (OpenSpec.ofChange asmDataSpec)) asmDataCard

/-- THE TIED CARD OF 'letterpresslaw5.AsmLarge'. -/
def asmLargeCard : Claim7 := { stood := { row := asmLargeRow, standIns := [], harness := (true, "7bd44990efb0b29af475dec93ffb0a9352301b22e22a0d95fcae26eff360837b"), looks := true }, kinds := [], alts := [], laidByText := true, laidKinds := [.data, .data, .data, .data, .sentinel, .sentinel, .listed, .data, .pinned], laidTests := true, laidLooks := .later }
def AsmLargeCardSaid : Prop := Claim7.holds Tryz.pinned (.plain (OpenSpec.ofChange asmLargeSpec)) asmLargeCard

/-- THE TIED CARD OF 'letterpresslaw5.AsmAligns'. -/
def asmAlignsCard : Claim7 := { stood := { row := asmAlignsRow, standIns := [], harness := (true, "7bd44990efb0b29af475dec93ffb0a9352301b22e22a0d95fcae26eff360837b"), looks := true }, kinds := [], alts := [], laidByText := true, laidKinds := [.data, .data, .data, .data, .sentinel, .sentinel, .listed, .data, .pinned], laidTests := true, laidLooks := .later }
def AsmAlignsCardSaid : Prop := Claim7.holds Tryz.pinned (.plain (OpenSpec.ofChange asmAlignsSpec)) asmAlignsCard

/-- THE SECOND FORM's CARD OF 'letterpresslaw5.AsmEdge'. -/
def asmEdgeUptoCard : Claim7 := { stood := { row := asmEdgeUptoRow, standIns := [], harness := (true, "7bd44990efb0b29af475dec93ffb0a9352301b22e22a0d95fcae26eff360837b"), looks := true }, kinds := [], alts := [], laidByText := true, laidKinds := [.data, .data, .data, .data, .sentinel, .sentinel, .listed, .data, .pinned], laidTests := true, laidLooks := .later }
def AsmEdgeUptoCardSaid : Prop := Claim7.holds Tryz.pinned (.plain (OpenSpec.upto asmEdgeSpec)) asmEdgeUptoCard

/-- THE SECOND FORM's CARD OF 'letterpresslaw5.AsmErrs'. -/
def asmErrsUptoCard : Claim7 := { stood := { row := asmErrsUptoRow, standIns := [], harness := (true, "7bd44990efb0b29af475dec93ffb0a9352301b22e22a0d95fcae26eff360837b"), looks := true }, kinds := [], alts := [], laidByText := true, laidKinds := [.data, .data, .data, .data, .sentinel, .sentinel, .listed, .data, .pinned], laidTests := true, laidLooks := .later }
def AsmErrsUptoCardSaid : Prop := Claim7.holds Tryz.pinned (.plain (OpenSpec.upto asmErrsSpec)) asmErrsUptoCard

/-- THE SECOND FORM's CARD OF 'letterpresslaw5.AsmEqus'. -/
def asmEqusUptoCard : Claim7 := { stood := { row := asmEqusUptoRow, standIns := [], harness := (true, "7bd44990efb0b29af475dec93ffb0a9352301b22e22a0d95fcae26eff360837b"), looks := true }, kinds := [], alts := [], laidByText := true, laidKinds := [.data, .data, .data, .data, .sentinel, .sentinel, .listed, .data, .pinned], laidTests := true, laidLooks := .later }
def AsmEqusUptoCardSaid : Prop := Claim7.holds Tryz.pinned (.plain (OpenSpec.upto asmEqusSpec)) asmEqusUptoCard

/-- THE SECOND FORM's CARD OF 'letterpresslaw5.AsmData'. -/
def asmDataUptoCard : Claim7 := { stood := { row := asmDataUptoRow, standIns := [], harness := (true, "7bd44990efb0b29af475dec93ffb0a9352301b22e22a0d95fcae26eff360837b"), looks := true }, kinds := [], alts := [], laidByText := true, laidKinds := [.data, .data, .data, .data, .sentinel, .sentinel, .listed, .data, .pinned], laidTests := true, laidLooks := .later }
def AsmDataUptoCardSaid : Prop := Claim7.holds Tryz.pinned (.plain (OpenSpec.upto asmDataSpec)) asmDataUptoCard

/-- THE SECOND FORM's CARD OF 'letterpresslaw5.AsmLarge'. -/
def asmLargeUptoCard : Claim7 := { stood := { row := asmLargeUptoRow, standIns := [], harness := (true, "7bd44990efb0b29af475dec93ffb0a9352301b22e22a0d95fcae26eff360837b"), looks := true }, kinds := [], alts := [], laidByText := true, laidKinds := [.data, .data, .data, .data, .sentinel, .sentinel, .listed, .data, .pinned], laidTests := true, laidLooks := .later }
def AsmLargeUptoCardSaid : Prop := Claim7.holds Tryz.pinned (.plain (OpenSpec.upto asmLargeSpec)) asmLargeUptoCard

/-- THE SECOND FORM's CARD OF 'letterpresslaw5.AsmAligns'. -/
def asmAlignsUptoCard : Claim7 := { stood := { row := asmAlignsUptoRow, standIns := [], harness := (true, "7bd44990efb0b29af475dec93ffb0a9352301b22e22a0d95fcae26eff360837b"), looks := true }, kinds := [], alts := [], laidByText := true, laidKinds := [.data, .data, .data, .data, .sentinel, .sentinel, .listed, .data, .pinned], laidTests := true, laidLooks := .later }
def AsmAlignsUptoCardSaid : Prop := Claim7.holds Tryz.pinned (.plain (OpenSpec.upto asmAlignsSpec)) asmAlignsUptoCard
end Rows
end Go.Proofs.YtmocchnodigmlaaGreatDoor
