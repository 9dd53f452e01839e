import Derived.Test.YthigmipcadhnkaaGreatDoorSDD
import Derived.Test.YthigmipcadhnkaaGreatDoorAL18toAL19
import Derived.Test.YthigmipcadhnkaaGreatDoorTie
import Derived.Test.YthigmipcadhnkaaGreatDoorCards
import Derived.LaidMore
import Derived.Lay
import Derived.Stop.Joined
import Derived.JoinedOf
set_option linter.all false
set_option autoImplicit true
set_option relaxedAutoImplicit true
set_option maxRecDepth 100000
set_option maxHeartbeats 0
namespace Go.Proofs.YthigmipcadhnkaaGreatDoor
open Go Go.Proofs.YthigmipcadhnkaaGreatDoor.AL Go.RowKit Go.ChangeShapes Go.WideShapes Go.ChangeAt
theorem card_wf : Rows.asmDataRow.wfByText (OpenSpec.ofChange Rows.asmDataSpec) = true := by kernel_rfl
theorem card_main : Tryz.pinned.checked.prog.mainIs = some (true, "3a74b95ef9194efd57e8426e5842d51907e22407cc0aef6217cc0ed7c738cb5f".toList) := by kernel_rfl
theorem card_goes : false = Rows.asmDataRow.goesBy Tryz.pinned.checked.prog := by kernel_rfl
theorem card_named : Tryz.prog.funcNamed "letterpress/letterpresslaw5.AsmData" = some 4 := by kernel_rfl
theorem card_looks : true = Tryz.pinned.checked.prog.looks [] := by kernel_rfl
theorem card_all : ([3, 3].all fun u => !Tryz.prog.wantsStandIn u) = true := by kernel_rfl
end Go.Proofs.YthigmipcadhnkaaGreatDoor
