import Derived.Test.YtbhphjpgjgigpaaGreatDoorSDN
import Derived.Test.YtbhphjpgjgigpaaGreatDoorAL32toAL34
import Derived.Test.YtbhphjpgjgigpaaGreatDoorTie
import Derived.Test.YtbhphjpgjgigpaaGreatDoorCards
import Derived.LaidMore
import Derived.Lay
import Derived.Stop.Joined
import Derived.JoinedOf
import Derived.Carry
import Derived.ChangeMaps5
set_option linter.all false
set_option autoImplicit true
set_option relaxedAutoImplicit true
set_option maxRecDepth 100000
set_option maxHeartbeats 0
namespace Go.Proofs.YtbhphjpgjgigpaaGreatDoor
open Go Go.Proofs.YtbhphjpgjgigpaaGreatDoor.AL Go.RowKit Go.ChangeShapes Go.WideShapes Go.ChangeAt
theorem SX:Rows.asmNamesRow.wfByText (OpenSpec.ofChange Rows.asmNamesSpec)=true:=by kernel_rfl
theorem Ot : Tryz.pinned.checked.prog.mainIs = some (true, "c5f3de71d74dc82b9d3ef4694be575d6d29378b07c26e3e3845c65fe3e6ce152".toList) := by kernel_rfl
theorem NJ:false=Rows.asmNamesRow.goesBy Tryz.pinned.checked.prog:=by kernel_rfl
theorem card_named : Tryz.prog.funcNamed "letterpress/letterpresslaw5.AsmNames" = some 5 := by kernel_rfl
theorem Kt:true=Tryz.pinned.checked.prog.looks []:=by kernel_rfl
theorem Ry:([23,23].all fun u=>!Tryz.prog.wantsStandIn u)=true:=by kernel_rfl
end Go.Proofs.YtbhphjpgjgigpaaGreatDoor
