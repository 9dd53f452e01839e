import Derived.Test.YtgkmmcdhhkllnaaGreatDoorSDE
import Derived.Test.YtgkmmcdhhkllnaaGreatDoorAL32toAL34
import Derived.Test.YtgkmmcdhhkllnaaGreatDoorTie
import Derived.Test.YtgkmmcdhhkllnaaGreatDoorCards
import Derived.LaidMore
import Derived.Lay
import Derived.Stop.Joined
import Derived.JoinedOf
import Derived.Carry
import Derived.ChangeMaps5
set_option linter.all false
set_option autoImplicit true
set_option relaxedAutoImplicit true
set_option maxRecDepth 100000
set_option maxHeartbeats 0
namespace Go.Proofs.YtgkmmcdhhkllnaaGreatDoor
open Go Go.Proofs.YtgkmmcdhhkllnaaGreatDoor.AL Go.RowKit Go.ChangeShapes Go.WideShapes Go.ChangeAt
theorem abg:Rows.workEmptyRow.wfByText (OpenSpec.ofChange Rows.workEmptySpec)=true:=by kernel_rfl
theorem VC : Tryz.pinned.checked.prog.mainIs = some (true, "0358375d37ee16f40d26fa407f435674847bc95fa8e5d8a89f48d6a4ec8d8ab0".toList) := by kernel_rfl
theorem V2:false=Rows.workEmptyRow.goesBy Tryz.pinned.checked.prog:=by kernel_rfl
theorem card_named : Tryz.prog.funcNamed "letterpress/letterpresslaw9.WorkEmpty" = some 5 := by kernel_rfl
theorem Sg:true=Tryz.pinned.checked.prog.looks []:=by kernel_rfl
theorem Zw:([23,22].all fun u=>!Tryz.prog.wantsStandIn u)=true:=by kernel_rfl
end Go.Proofs.YtgkmmcdhhkllnaaGreatDoor
