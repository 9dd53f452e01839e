/-
  DERIVED. GIVEN WITH THE SEED: THE CARDS: each row of YtlhidlhmochanaaGreatDoorRows.lean that lists a variable, with what it lists TIED to the program's text (the seventh form; the later family's looks); each row that meets fmt, with fmt's text TOLD by the authors' own Lean function (tested against real Go, not proved from fmt's source: count such statements apart). THE CARD IS WHAT COUNTS. Prove the row's statement (the work); the ties are given (YtlhidlhmochanaaGreatDoorTie.lean); close each card by the builder's one call (the guide's Derived/Test/ToyasCard.lean, 'card_holds'). Laid BY PROGRAM, IN A SANDBOX (cutbox-door.mjs). By AI agents, Wed Nov 11 2026. No macro, syntax, notation, axiom, sorry.
-/
import Derived.Test.YtlhidlhmochanaaGreatDoorRows
import GoSem.ClaimSeven
namespace Go.Proofs.YtlhidlhmochanaaGreatDoor
namespace Rows

/-- THE TIED CARD OF 'letterpresslaw5.AsmEdge'. -/
def asmEdgeCard : Claim7 := { stood := { row := asmEdgeRow, standIns := [], harness := (true, "2d77970679ca8f62bdcda5216f3f161a2a34a47a12a98662d9c78628ea70d2c6"), looks := true }, kinds := [], alts := [], laidByText := true, laidKinds := [.data, .data, .data, .data, .sentinel, .sentinel, .listed, .data, .pinned], laidTests := true, laidLooks := .later }
def AsmEdgeCardSaid : Prop := Claim7.holds Tryz.pinned (.plain (OpenSpec.ofChange asmEdgeSpec)) asmEdgeCard

/-- THE TIED CARD OF 'letterpresslaw5.AsmEqus'. -/
def asmEqusCard : Claim7 := { stood := { row := asmEqusRow, standIns := [], harness := (true, "2d77970679ca8f62bdcda5216f3f161a2a34a47a12a98662d9c78628ea70d2c6"), looks := true }, kinds := [], alts := [], laidByText := true, laidKinds := [.data, .data, .data, .data, .sentinel, .sentinel, .listed, .data, .pinned], laidTests := true, laidLooks := .later }
def AsmEqusCardSaid : Prop := Claim7.holds Tryz.pinned (.plain (OpenSpec.ofChange asmEqusSpec)) asmEqusCard

/-- THE TIED CARD OF 'letterpresslaw5.AsmOrder'. -/
def asmOrderCard : Claim7 := { stood := { row := asmOrderRow, standIns := [], harness := (true, "2d77970679ca8f62bdcda5216f3f161a2a34a47a12a98662d9c78628ea70d2c6"), looks := true }, kinds := [], alts := [], laidByText := true, laidKinds := [.data, .data, .data, .data, .sentinel, .sentinel, .listed, .data, .pinned], laidTests := true, laidLooks := .later }
def AsmOrderCardSaid : Prop := Claim7.holds Tryz.pinned (.plain (OpenSpec.ofChange asmOrderSpec)) asmOrderCard

/-- THE TIED CARD OF 'letterpresslaw5.AsmData'. -/
def asmDataCard : Claim7 := { stood := { row := asmDataRow, standIns := [], harness := (true, "2d77970679ca8f62bdcda5216f3f161a2a34a47a12a98662d9c78628ea70d2c6"), looks := true }, kinds := [], alts := [], laidByText := true, laidKinds := [.data, .data, .data, .data, .sentinel, .sentinel, .listed, .data, .pinned], laidTests := true, laidLooks := .later }
def AsmDataCardSaid : Prop := Claim7.holds Tryz.pinned (.plain (OpenSpec.ofChange asmDataSpec)) asmDataCard

/-- THE TIED CARD OF 'letterpresslaw5.AsmParts'. -/
def asmPartsCard : Claim7 := { stood := { row := asmPartsRow, standIns := [], harness := (true, "2d77970679ca8f62bdcda5216f3f161a2a34a47a12a98662d9c78628ea70d2c6"), looks := true }, kinds := [], alts := [], laidByText := true, laidKinds := [.data, .data, .data, .data, .sentinel, .sentinel, .listed, .data, .pinned], laidTests := true, laidLooks := .later }
def AsmPartsCardSaid : Prop := Claim7.holds Tryz.pinned (.plain (OpenSpec.ofChange asmPartsSpec)) asmPartsCard

/-- THE TIED CARD OF 'letterpresslaw5.AsmNames'. -/
def asmNamesCard : Claim7 := { stood := { row := asmNamesRow, standIns := [], harness := (true, "2d77970679ca8f62bdcda5216f3f161a2a34a47a12a98662d9c78628ea70d2c6"), looks := true }, kinds := [], alts := [], laidByText := true, laidKinds := [.data, .data, .data, .data, .sentinel, .sentinel, .listed, .data, .pinned], laidTests := true, laidLooks := .later }
def AsmNamesCardSaid : Prop := Claim7.holds Tryz.pinned (.plain (OpenSpec.ofChange asmNamesSpec)) asmNamesCard

/-- THE TIED CARD OF 'letterpresslaw5.AsmShared'. -/
def asmSharedCard : Claim7 := { stood := { row := asmSharedRow, standIns := [], harness := (true, "2d77970679ca8f62bdcda5216f3f161a2a34a47a12a98662d9c78628ea70d2c6"), looks := true }, kinds := [], alts := [], laidByText := true, laidKinds := [.data, .data, .data, .data, .sentinel, .sentinel, .listed, .data, .pinned], laidTests := true, laidLooks := .later }
def AsmSharedCardSaid : Prop := Claim7.holds Tryz.pinned (.plain (OpenSpec.ofChange asmSharedSpec)) asmSharedCard

/-- THE TIED CARD OF 'letterpresslaw5.AsmBehind'. -/
def asmBehindCard : Claim7 := { stood := { row := asmBehindRow, standIns := [], harness := (true, "2d77970679ca8f62bdcda5216f3f161a2a34a47a12a98662d9c78628ea70d2c6"), looks := true }, kinds := [], alts := [], laidByText := true, laidKinds := [.data, .data, .data, .data, .sentinel, .sentinel, .listed, .data, .pinned], laidTests := true, laidLooks := .later }
def AsmBehindCardSaid : Prop := Claim7.holds Tryz.pinned (.plain (OpenSpec.ofChange asmBehindSpec)) asmBehindCard

/-- THE TIED CARD OF 'letterpresslaw5.AsmOwn'. -/
def asmOwnCard : Claim7 := { stood := { row := asmOwnRow, standIns := [], harness := (true, "2d77970679ca8f62bdcda5216f3f161a2a34a47a12a98662d9c78628ea70d2c6"), looks := true }, kinds := [], alts := [], laidByText := true, laidKinds := [.data, .data, .data, .data, .sentinel, .sentinel, .listed, .data, .pinned], laidTests := true, laidLooks := .later }
def AsmOwnCardSaid : Prop := Claim7.holds Tryz.pinned (.plain (OpenSpec.ofChange asmOwnSpec)) asmOwnCard

/-- THE TIED CARD OF 'letterpresslaw5.AsmAll'. -/
def asmAllCard : Claim7 := { stood := { row := asmAllRow, standIns := [], harness := (true, "2d77970679ca8f62bdcda5216f3f161a2a34a47a12a98662d9c78628ea70d2c6"), looks := true }, kinds := [], alts := [], laidByText := true, laidKinds := [.data, .data, .data, .data, .sentinel, .sentinel, .listed, .data, .pinned], laidTests := true, laidLooks := .later }
def AsmAllCardSaid : Prop := Claim7.holds Tryz.pinned (.plain (OpenSpec.ofChange asmAllSpec)) asmAllCard

/-- THE TIED CARD OF 'letterpresslaw5.AsmGood'. -/
def asmGoodCard : Claim7 := { stood := { row := asmGoodRow, standIns := [], harness := (true, "2d77970679ca8f62bdcda5216f3f161a2a34a47a12a98662d9c78628ea70d2c6"), looks := true }, kinds := [], alts := [], laidByText := true, laidKinds := [.data, .data, .data, .data, .sentinel, .sentinel, .listed, .data, .pinned], laidTests := true, laidLooks := .later }
def AsmGoodCardSaid : Prop := Claim7.holds Tryz.pinned (.plain (OpenSpec.ofChange asmGoodSpec)) asmGoodCard

/-- THE TIED CARD OF 'letterpresslaw5.AsmBranches'. -/
def asmBranchesCard : Claim7 := { stood := { row := asmBranchesRow, standIns := [], harness := (true, "2d77970679ca8f62bdcda5216f3f161a2a34a47a12a98662d9c78628ea70d2c6"), looks := true }, kinds := [], alts := [], laidByText := true, laidKinds := [.data, .data, .data, .data, .sentinel, .sentinel, .listed, .data, .pinned], laidTests := true, laidLooks := .later }
def AsmBranchesCardSaid : Prop := Claim7.holds Tryz.pinned (.plain (OpenSpec.ofChange asmBranchesSpec)) asmBranchesCard

/-- THE TIED CARD OF 'letterpresslaw5.AsmAligns'. -/
def asmAlignsCard : Claim7 := { stood := { row := asmAlignsRow, standIns := [], harness := (true, "2d77970679ca8f62bdcda5216f3f161a2a34a47a12a98662d9c78628ea70d2c6"), looks := true }, kinds := [], alts := [], laidByText := true, laidKinds := [.data, .data, .data, .data, .sentinel, .sentinel, .listed, .data, .pinned], laidTests := true, laidLooks := .later }
def AsmAlignsCardSaid : Prop := Claim7.holds Tryz.pinned (.plain (OpenSpec.ofChange asmAlignsSpec)) asmAlignsCard

/-- THE SECOND FORM's CARD OF 'letterpresslaw5.AsmEdge'. -/
def asmEdgeUptoCard : Claim7 := { stood := { row := asmEdgeUptoRow, standIns := [], harness := (true, "2d77970679ca8f62bdcda5216f3f161a2a34a47a12a98662d9c78628ea70d2c6"), looks := true }, kinds := [], alts := [], laidByText := true, laidKinds := [.data, .data, .data, .data, .sentinel, .sentinel, .listed, .data, .pinned], laidTests := true, laidLooks := .later }
def AsmEdgeUptoCardSaid : Prop := Claim7.holds Tryz.pinned (.plain (OpenSpec.upto asmEdgeSpec)) asmEdgeUptoCard

/-- THE SECOND FORM's CARD OF 'letterpresslaw5.AsmEqus'. -/
def asmEqusUptoCard : Claim7 := { stood := { row := asmEqusUptoRow, standIns := [], harness := (true, "2d77970679ca8f62bdcda5216f3f161a2a34a47a12a98662d9c78628ea70d2c6"), looks := true }, kinds := [], alts := [], laidByText := true, laidKinds := [.data, .data, .data, .data, .sentinel, .sentinel, .listed, .data, .pinned], laidTests := true, laidLooks := .later }
def AsmEqusUptoCardSaid : Prop := Claim7.holds Tryz.pinned (.plain (OpenSpec.upto asmEqusSpec)) asmEqusUptoCard

/-- THE SECOND FORM's CARD OF 'letterpresslaw5.AsmOrder'. -/
def asmOrderUptoCard : Claim7 := { stood := { row := asmOrderUptoRow, standIns := [], harness := (true, "2d77970679ca8f62bdcda5216f3f161a2a34a47a12a98662d9c78628ea70d2c6"), looks := true }, kinds := [], alts := [], laidByText := true, laidKinds := [.data, .data, .data, .data, .sentinel, .sentinel, .listed, .data, .pinned], laidTests := true, laidLooks := .later }
def AsmOrderUptoCardSaid : Prop := Claim7.holds Tryz.pinned (.plain (OpenSpec.upto asmOrderSpec)) asmOrderUptoCard

/-- THE SECOND FORM's CARD OF 'letterpresslaw5.AsmData'. -/
def asmDataUptoCard : Claim7 := { stood := { row := asmDataUptoRow, standIns := [], harness := (true, "2d77970679ca8f62bdcda5216f3f161a2a34a47a12a98662d9c78628ea70d2c6"), looks := true }, kinds := [], alts := [], laidByText := true, laidKinds := [.data, .data, .data, .data, .sentinel, .sentinel, .listed, .data, .pinned], laidTests := true, laidLooks := .later }
def AsmDataUptoCardSaid : Prop := Claim7.holds Tryz.pinned (.plain (OpenSpec.upto asmDataSpec)) asmDataUptoCard

/-- THE SECOND FORM's CARD OF 'letterpresslaw5.AsmParts'. -/
def asmPartsUptoCard : Claim7 := { stood := { row := asmPartsUptoRow, standIns := [], harness := (true, "2d77970679ca8f62bdcda5216f3f161a2a34a47a12a98662d9c78628ea70d2c6"), looks := true }, kinds := [], alts := [], laidByText := true, laidKinds := [.data, .data, .data, .data, .sentinel, .sentinel, .listed, .data, .pinned], laidTests := true, laidLooks := .later }
def AsmPartsUptoCardSaid : Prop := Claim7.holds Tryz.pinned (.plain (OpenSpec.upto asmPartsSpec)) asmPartsUptoCard

/-- THE SECOND FORM's CARD OF 'letterpresslaw5.AsmNames'. -/
def asmNamesUptoCard : Claim7 := { stood := { row := asmNamesUptoRow, standIns := [], harness := (true, "2d77970679ca8f62bdcda5216f3f161a2a34a47a12a98662d9c78628ea70d2c6"), looks := true }, kinds := [], alts := [], laidByText := true, laidKinds := [.data, .data, .data, .data, .sentinel, .sentinel, .listed, .data, .pinned], laidTests := true, laidLooks := .later }
def AsmNamesUptoCardSaid : Prop := Claim7.holds Tryz.pinned (.plain (OpenSpec.upto asmNamesSpec)) asmNamesUptoCard

/-- THE SECOND FORM's CARD OF 'letterpresslaw5.AsmShared'. -/
def asmSharedUptoCard : Claim7 := { stood := { row := asmSharedUptoRow, standIns := [], harness := (true, "2d77970679ca8f62bdcda5216f3f161a2a34a47a12a98662d9c78628ea70d2c6"), looks := true }, kinds := [], alts := [], laidByText := true, laidKinds := [.data, .data, .data, .data, .sentinel, .sentinel, .listed, .data, .pinned], laidTests := true, laidLooks := .later }
def AsmSharedUptoCardSaid : Prop := Claim7.holds Tryz.pinned (.plain (OpenSpec.upto asmSharedSpec)) asmSharedUptoCard

/-- THE SECOND FORM's CARD OF 'letterpresslaw5.AsmBehind'. -/
def asmBehindUptoCard : Claim7 := { stood := { row := asmBehindUptoRow, standIns := [], harness := (true, "2d77970679ca8f62bdcda5216f3f161a2a34a47a12a98662d9c78628ea70d2c6"), looks := true }, kinds := [], alts := [], laidByText := true, laidKinds := [.data, .data, .data, .data, .sentinel, .sentinel, .listed, .data, .pinned], laidTests := true, laidLooks := .later }
def AsmBehindUptoCardSaid : Prop := Claim7.holds Tryz.pinned (.plain (OpenSpec.upto asmBehindSpec)) asmBehindUptoCard

/-- THE SECOND FORM's CARD OF 'letterpresslaw5.AsmOwn'. -/
def asmOwnUptoCard : Claim7 := { stood := { row := asmOwnUptoRow, standIns := [], harness := (true, "2d77970679ca8f62bdcda5216f3f161a2a34a47a12a98662d9c78628ea70d2c6"), looks := true }, kinds := [], alts := [], laidByText := true, laidKinds := [.data, .data, .data, .data, .sentinel, .sentinel, .listed, .data, .pinned], laidTests := true, laidLooks := .later }
def AsmOwnUptoCardSaid : Prop := Claim7.holds Tryz.pinned (.plain (OpenSpec.upto asmOwnSpec)) asmOwnUptoCard

/-- THE SECOND FORM's CARD OF 'letterpresslaw5.AsmAll'. -/
def asmAllUptoCard : Claim7 := { stood := { row := asmAllUptoRow, standIns := [], harness := (true, "2d77970679ca8f62bdcda5216f3f161a2a34a47a12a98662d9c78628ea70d2c6"), looks := true }, kinds := [], alts := [], laidByText := true, laidKinds := [.data, .data, .data, .data, .sentinel, .sentinel, .listed, .data, .pinned], laidTests := true, laidLooks := .later }
def AsmAllUptoCardSaid : Prop := Claim7.holds Tryz.pinned (.plain (OpenSpec.upto asmAllSpec)) asmAllUptoCard

/-- THE SECOND FORM's CARD OF 'letterpresslaw5.AsmGood'. -/
def asmGoodUptoCard : Claim7 := { stood := { row := asmGoodUptoRow, standIns := [], harness := (true, "2d77970679ca8f62bdcda5216f3f161a2a34a47a12a98662d9c78628ea70d2c6"), looks := true }, kinds := [], alts := [], laidByText := true, laidKinds := [.data, .data, .data, .data, .sentinel, .sentinel, .listed, .data, .pinned], laidTests := true, laidLooks := .later }
def AsmGoodUptoCardSaid : Prop := Claim7.holds Tryz.pinned (.plain (OpenSpec.upto asmGoodSpec)) asmGoodUptoCard

/-- THE SECOND FORM's CARD OF 'letterpresslaw5.AsmBranches'. -/
def asmBranchesUptoCard : Claim7 := { stood := { row := asmBranchesUptoRow, standIns := [], harness := (true, "2d77970679ca8f62bdcda5216f3f161a2a34a47a12a98662d9c78628ea70d2c6"), looks := true }, kinds := [], alts := [], laidByText := true, laidKinds := [.data, .data, .data, .data, .sentinel, .sentinel, .listed, .data, .pinned], laidTests := true, laidLooks := .later }
def AsmBranchesUptoCardSaid : Prop := Claim7.holds Tryz.pinned (.plain (OpenSpec.upto asmBranchesSpec)) asmBranchesUptoCard

/-- THE SECOND FORM's CARD OF 'letterpresslaw5.AsmAligns'. -/
def asmAlignsUptoCard : Claim7 := { stood := { row := asmAlignsUptoRow, standIns := [], harness := (true, "2d77970679ca8f62bdcda5216f3f161a2a34a47a12a98662d9c78628ea70d2c6"), looks := true }, kinds := [], alts := [], laidByText := true, laidKinds := [.data, .data, .data, .data, .sentinel, .sentinel, .listed, .data, .pinned], laidTests := true, laidLooks := .later }
def AsmAlignsUptoCardSaid : Prop := Claim7.holds Tryz.pinned (.plain (OpenSpec.upto asmAlignsSpec)) asmAlignsUptoCard
end Rows
end Go.Proofs.YtlhidlhmochanaaGreatDoor
