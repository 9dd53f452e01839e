import Derived.Test.YtlikeadfohahdaaGreatDoorSDN
import Derived.Test.YtlikeadfohahdaaGreatDoorAL32toAL34
import Derived.Test.YtlikeadfohahdaaGreatDoorTie
import Derived.Test.YtlikeadfohahdaaGreatDoorCards
import Derived.LaidMore
import Derived.Lay
import Derived.Stop.Joined
import Derived.JoinedOf
import Derived.Carry
import Derived.ChangeMaps5
set_option linter.all false
set_option autoImplicit true
set_option relaxedAutoImplicit true
set_option maxRecDepth 100000
set_option maxHeartbeats 0
namespace Go.Proofs.YtlikeadfohahdaaGreatDoor
open Go Go.Proofs.YtlikeadfohahdaaGreatDoor.AL Go.RowKit Go.ChangeShapes Go.WideShapes Go.ChangeAt
theorem card_wf : Rows.workNamesRow.wfByText (OpenSpec.ofChange Rows.workNamesSpec) = true := by kernel_rfl
theorem card_main : Tryz.pinned.checked.prog.mainIs = some (true, "eb7336d676ba82451cfc043e42db5e8e4b1dcf0afe2660924bda474536d529da".toList) := by kernel_rfl
theorem card_goes : false = Rows.workNamesRow.goesBy Tryz.pinned.checked.prog := by kernel_rfl
theorem card_named : Tryz.prog.funcNamed "letterpress/letterpresslaw9.WorkNames" = some 3 := by kernel_rfl
theorem card_looks : true = Tryz.pinned.checked.prog.looks [] := by kernel_rfl
theorem card_all : ([22].all fun u => !Tryz.prog.wantsStandIn u) = true := by kernel_rfl
end Go.Proofs.YtlikeadfohahdaaGreatDoor
