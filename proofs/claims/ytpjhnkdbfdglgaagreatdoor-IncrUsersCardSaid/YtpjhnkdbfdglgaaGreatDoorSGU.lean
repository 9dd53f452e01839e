import Derived.Test.YtpjhnkdbfdglgaaGreatDoorSDU
import Derived.Test.YtpjhnkdbfdglgaaGreatDoorAL32toAL34
import Derived.Test.YtpjhnkdbfdglgaaGreatDoorTie
import Derived.Test.YtpjhnkdbfdglgaaGreatDoorCards
import Derived.LaidMore
import Derived.Lay
import Derived.Stop.Joined
import Derived.JoinedOf
import Derived.Carry
import Derived.ChangeMaps5
set_option linter.all false
set_option autoImplicit true
set_option relaxedAutoImplicit true
set_option maxRecDepth 100000
set_option maxHeartbeats 0
namespace Go.Proofs.YtpjhnkdbfdglgaaGreatDoor
open Go Go.Proofs.YtpjhnkdbfdglgaaGreatDoor.AL Go.RowKit Go.ChangeShapes Go.WideShapes Go.ChangeAt
theorem card_wf : Rows.incrUsersRow.wfByText (OpenSpec.ofChange Rows.incrUsersSpec) = true := by kernel_rfl
theorem card_main : Tryz.pinned.checked.prog.mainIs = some (true, "899f3e6b8fabbd3eb8724074d7974fcc08e78d96847f250da4462b4a95ed9281".toList) := by kernel_rfl
theorem card_goes : false = Rows.incrUsersRow.goesBy Tryz.pinned.checked.prog := by kernel_rfl
theorem card_named : Tryz.prog.funcNamed "letterpress/letterpresslaw8.IncrUsers" = some 3 := by kernel_rfl
theorem card_looks : true = Tryz.pinned.checked.prog.looks [] := by kernel_rfl
theorem card_all : ([3].all fun u => !Tryz.prog.wantsStandIn u) = true := by kernel_rfl
end Go.Proofs.YtpjhnkdbfdglgaaGreatDoor
