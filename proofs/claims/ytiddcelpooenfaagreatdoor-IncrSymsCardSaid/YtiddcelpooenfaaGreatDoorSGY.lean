import Derived.Test.YtiddcelpooenfaaGreatDoorSDY
import Derived.Test.YtiddcelpooenfaaGreatDoorAL32toAL34
import Derived.Test.YtiddcelpooenfaaGreatDoorTie
import Derived.Test.YtiddcelpooenfaaGreatDoorCards
import Derived.LaidMore
import Derived.Lay
import Derived.Stop.Joined
import Derived.JoinedOf
import Derived.Carry
import Derived.ChangeMaps5
set_option linter.all false
set_option autoImplicit true
set_option relaxedAutoImplicit true
set_option maxRecDepth 100000
set_option maxHeartbeats 0
namespace Go.Proofs.YtiddcelpooenfaaGreatDoor
open Go Go.Proofs.YtiddcelpooenfaaGreatDoor.AL Go.RowKit Go.ChangeShapes Go.WideShapes Go.ChangeAt
theorem card_wf : Rows.incrSymsRow.wfByText (OpenSpec.ofChange Rows.incrSymsSpec) = true := by kernel_rfl
theorem card_main : Tryz.pinned.checked.prog.mainIs = some (true, "53c1e1a947c6d1cb063833dbd88ce08e2853452f29877b104ba353878fa6ce82".toList) := by kernel_rfl
theorem card_goes : false = Rows.incrSymsRow.goesBy Tryz.pinned.checked.prog := by kernel_rfl
theorem card_named : Tryz.prog.funcNamed "letterpress/letterpresslaw8.IncrSyms" = some 4 := by kernel_rfl
theorem card_looks : true = Tryz.pinned.checked.prog.looks [] := by kernel_rfl
theorem card_all : ([3, 3, 3].all fun u => !Tryz.prog.wantsStandIn u) = true := by kernel_rfl
end Go.Proofs.YtiddcelpooenfaaGreatDoor
