import Derived.Test.YtlhidlhmochanaaGreatDoorSDE
import Derived.Test.YtlhidlhmochanaaGreatDoorAL18toAL19
import Derived.Test.YtlhidlhmochanaaGreatDoorTie
import Derived.Test.YtlhidlhmochanaaGreatDoorCards
import Derived.LaidMore
import Derived.Lay
import Derived.Stop.Joined
import Derived.JoinedOf
set_option linter.all false
set_option autoImplicit true
set_option relaxedAutoImplicit true
set_option maxRecDepth 100000
set_option maxHeartbeats 0
namespace Go.Proofs.YtlhidlhmochanaaGreatDoor
open Go Go.Proofs.YtlhidlhmochanaaGreatDoor.AL Go.RowKit Go.ChangeShapes Go.WideShapes Go.ChangeAt
theorem card_wf : Rows.asmEdgeRow.wfByText (OpenSpec.ofChange Rows.asmEdgeSpec) = true := by kernel_rfl
theorem card_main : Tryz.pinned.checked.prog.mainIs = some (true, "2d77970679ca8f62bdcda5216f3f161a2a34a47a12a98662d9c78628ea70d2c6".toList) := by kernel_rfl
theorem card_goes : false = Rows.asmEdgeRow.goesBy Tryz.pinned.checked.prog := by kernel_rfl
theorem card_named : Tryz.prog.funcNamed "letterpress/letterpresslaw5.AsmEdge" = some 3 := by kernel_rfl
theorem card_looks : true = Tryz.pinned.checked.prog.looks [] := by kernel_rfl
theorem card_all : ([3, 4, 3].all fun u => !Tryz.prog.wantsStandIn u) = true := by kernel_rfl
end Go.Proofs.YtlhidlhmochanaaGreatDoor
