/-
  DERIVED. GIVEN WITH THE SEED: THE CARDS: each row of YtamfimhaimaeiaaGreatDoorRows.lean that lists a variable, with what it lists TIED to the program's text (the seventh form; the later family's looks); each row that meets fmt, with fmt's text TOLD by the authors' own Lean function (tested against real Go, not proved from fmt's source: count such statements apart). THE CARD IS WHAT COUNTS. Prove the row's statement (the work); the ties are given (YtamfimhaimaeiaaGreatDoorTie.lean); close each card by the builder's one call (the guide's Derived/Test/ToyasCard.lean, 'card_holds'). Laid BY PROGRAM, IN A SANDBOX (cutbox-door.mjs). By AI agents, Wed Nov 11 2026. No macro, syntax, notation, axiom, sorry.
-/
import Derived.Test.YtamfimhaimaeiaaGreatDoorRows
import GoSem.ClaimSeven
namespace Go.Proofs.YtamfimhaimaeiaaGreatDoor
namespace Rows

/-- THE TIED CARD OF 'letterpresslaw10.TxnNames'. -/
def txnNamesCard : Claim7 := { stood := { row := txnNamesRow, standIns := [], harness := (true, "341fd494268da961784e4dbe367479ba6d99e55059f4520ee78c108698aa9448"), looks := true }, kinds := [], alts := [], laidByText := true, laidKinds := [.data, .data, .data, .data, .sentinel, .sentinel, .listed, .data, .pinned], laidTests := true, laidLooks := .later }
def TxnNamesCardSaid : Prop := Claim7.holds Tryz.pinned (.plain (OpenSpec.ofChange txnNamesSpec)) txnNamesCard

/-- THE TIED CARD OF 'letterpresslaw10.TxnBlind'. -/
def txnBlindCard : Claim7 := { stood := { row := txnBlindRow, standIns := [], harness := (true, "341fd494268da961784e4dbe367479ba6d99e55059f4520ee78c108698aa9448"), looks := true }, kinds := [], alts := [], laidByText := true, laidKinds := [.data, .data, .data, .data, .sentinel, .sentinel, .listed, .data, .pinned], laidTests := true, laidLooks := .later }
def TxnBlindCardSaid : Prop := Claim7.holds Tryz.pinned (.plain (OpenSpec.ofChange txnBlindSpec)) txnBlindCard

/-- THE TIED CARD OF 'letterpresslaw10.TxnGone'. -/
def txnGoneCard : Claim7 := { stood := { row := txnGoneRow, standIns := [], harness := (true, "341fd494268da961784e4dbe367479ba6d99e55059f4520ee78c108698aa9448"), looks := true }, kinds := [], alts := [], laidByText := true, laidKinds := [.data, .data, .data, .data, .sentinel, .sentinel, .listed, .data, .pinned], laidTests := true, laidLooks := .later }
def TxnGoneCardSaid : Prop := Claim7.holds Tryz.pinned (.plain (OpenSpec.ofChange txnGoneSpec)) txnGoneCard

/-- THE TIED CARD OF 'letterpresslaw10.TxnBad'. -/
def txnBadCard : Claim7 := { stood := { row := txnBadRow, standIns := [], harness := (true, "341fd494268da961784e4dbe367479ba6d99e55059f4520ee78c108698aa9448"), looks := true }, kinds := [], alts := [], laidByText := true, laidKinds := [.data, .data, .data, .data, .sentinel, .sentinel, .listed, .data, .pinned], laidTests := true, laidLooks := .later }
def TxnBadCardSaid : Prop := Claim7.holds Tryz.pinned (.plain (OpenSpec.ofChange txnBadSpec)) txnBadCard

/-- THE TIED CARD OF 'letterpresslaw10.TxnHolds'. -/
def txnHoldsCard : Claim7 := { stood := { row := txnHoldsRow, standIns := [], harness := (true, "341fd494268da961784e4dbe367479ba6d99e55059f4520ee78c108698aa9448"), looks := true }, kinds := [], alts := [], laidByText := true, laidKinds := [.data, .data, .data, .data, .sentinel, .sentinel, .listed, .data, .pinned], laidTests := true, laidLooks := .later }
def TxnHoldsCardSaid : Prop := Claim7.holds Tryz.pinned (.plain (OpenSpec.ofChange txnHoldsSpec)) txnHoldsCard

/-- THE SECOND FORM's CARD OF 'letterpresslaw10.TxnNames'. -/
def txnNamesUptoCard : Claim7 := { stood := { row := txnNamesUptoRow, standIns := [], harness := (true, "341fd494268da961784e4dbe367479ba6d99e55059f4520ee78c108698aa9448"), looks := true }, kinds := [], alts := [], laidByText := true, laidKinds := [.data, .data, .data, .data, .sentinel, .sentinel, .listed, .data, .pinned], laidTests := true, laidLooks := .later }
def TxnNamesUptoCardSaid : Prop := Claim7.holds Tryz.pinned (.plain (OpenSpec.upto txnNamesSpec)) txnNamesUptoCard

/-- THE SECOND FORM's CARD OF 'letterpresslaw10.TxnBlind'. -/
def txnBlindUptoCard : Claim7 := { stood := { row := txnBlindUptoRow, standIns := [], harness := (true, "341fd494268da961784e4dbe367479ba6d99e55059f4520ee78c108698aa9448"), looks := true }, kinds := [], alts := [], laidByText := true, laidKinds := [.data, .data, .data, .data, .sentinel, .sentinel, .listed, .data, .pinned], laidTests := true, laidLooks := .later }
def TxnBlindUptoCardSaid : Prop := Claim7.holds Tryz.pinned (.plain (OpenSpec.upto txnBlindSpec)) txnBlindUptoCard

/-- THE SECOND FORM's CARD OF 'letterpresslaw10.TxnGone'. -/
def txnGoneUptoCard : Claim7 := { stood := { row := txnGoneUptoRow, standIns := [], harness := (true, "341fd494268da961784e4dbe367479ba6d99e55059f4520ee78c108698aa9448"), looks := true }, kinds := [], alts := [], laidByText := true, laidKinds := [.data, .data, .data, .data, .sentinel, .sentinel, .listed, .data, .pinned], laidTests := true, laidLooks := .later }
def TxnGoneUptoCardSaid : Prop := Claim7.holds Tryz.pinned (.plain (OpenSpec.upto txnGoneSpec)) txnGoneUptoCard

/-- THE SECOND FORM's CARD OF 'letterpresslaw10.TxnBad'. -/
def txnBadUptoCard : Claim7 := { stood := { row := txnBadUptoRow, standIns := [], harness := (true, "341fd494268da961784e4dbe367479ba6d99e55059f4520ee78c108698aa9448"), looks := true }, kinds := [], alts := [], laidByText := true, laidKinds := [.data, .data, .data, .data, .sentinel, .sentinel, .listed, .data, .pinned], laidTests := true, laidLooks := .later }
def TxnBadUptoCardSaid : Prop := Claim7.holds Tryz.pinned (.plain (OpenSpec.upto txnBadSpec)) txnBadUptoCard

/-- THE SECOND FORM's CARD OF 'letterpresslaw10.TxnHolds'. -/
def txnHoldsUptoCard : Claim7 := { stood := { row := txnHoldsUptoRow, standIns := [], harness := (true, "341fd494268da961784e4dbe367479ba6d99e55059f4520ee78c108698aa9448"), looks := true }, kinds := [], alts := [], laidByText := true, laidKinds := [.data, .data, .data, .data, .sentinel, .sentinel, .listed, .data, .pinned], laidTests := true, laidLooks := .later }
def TxnHoldsUptoCardSaid : Prop := Claim7.holds Tryz.pinned (.plain (OpenSpec.upto txnHoldsSpec)) txnHoldsUptoCard
end Rows
end Go.Proofs.YtamfimhaimaeiaaGreatDoor
