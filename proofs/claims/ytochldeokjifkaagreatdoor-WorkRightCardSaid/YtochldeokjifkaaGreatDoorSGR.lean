import Derived.Test.YtochldeokjifkaaGreatDoorSDR
import Derived.Test.YtochldeokjifkaaGreatDoorAL32toAL34
import Derived.Test.YtochldeokjifkaaGreatDoorTie
import Derived.Test.YtochldeokjifkaaGreatDoorCards
import Derived.LaidMore
import Derived.Lay
import Derived.Stop.Joined
import Derived.JoinedOf
import Derived.Carry
import Derived.ChangeMaps5
set_option linter.all false
set_option autoImplicit true
set_option relaxedAutoImplicit true
set_option maxRecDepth 100000
set_option maxHeartbeats 0
namespace Go.Proofs.YtochldeokjifkaaGreatDoor
open Go Go.Proofs.YtochldeokjifkaaGreatDoor.AL Go.RowKit Go.ChangeShapes Go.WideShapes Go.ChangeAt
theorem card_wf : Rows.workRightRow.wfByText (OpenSpec.ofChange Rows.workRightSpec) = true := by kernel_rfl
theorem card_main : Tryz.pinned.checked.prog.mainIs = some (true, "c8346e79a6983d9af2ed98fccc1342407704f35c386fde88aac8c1ad073c0501".toList) := by kernel_rfl
theorem card_goes : false = Rows.workRightRow.goesBy Tryz.pinned.checked.prog := by kernel_rfl
theorem card_named : Tryz.prog.funcNamed "letterpress/letterpresslaw9.WorkRight" = some 3 := by kernel_rfl
theorem card_looks : true = Tryz.pinned.checked.prog.looks [] := by kernel_rfl
theorem card_all : ([23, 3, 3, 3, 9].all fun u => !Tryz.prog.wantsStandIn u) = true := by kernel_rfl
end Go.Proofs.YtochldeokjifkaaGreatDoor
