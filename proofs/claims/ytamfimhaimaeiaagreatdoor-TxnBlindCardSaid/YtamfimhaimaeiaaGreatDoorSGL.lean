import Derived.Test.YtamfimhaimaeiaaGreatDoorSDL
import Derived.Test.YtamfimhaimaeiaaGreatDoorAL32toAL34
import Derived.Test.YtamfimhaimaeiaaGreatDoorTie
import Derived.Test.YtamfimhaimaeiaaGreatDoorCards
import Derived.LaidMore
import Derived.Lay
import Derived.Stop.Joined
import Derived.JoinedOf
import Derived.Carry
import Derived.ChangeMaps5
set_option linter.all false
set_option autoImplicit true
set_option relaxedAutoImplicit true
set_option maxRecDepth 100000
set_option maxHeartbeats 0
namespace Go.Proofs.YtamfimhaimaeiaaGreatDoor
open Go Go.Proofs.YtamfimhaimaeiaaGreatDoor.AL Go.RowKit Go.ChangeShapes Go.WideShapes Go.ChangeAt
theorem card_wf : Rows.txnBlindRow.wfByText (OpenSpec.ofChange Rows.txnBlindSpec) = true := by kernel_rfl
theorem card_main : Tryz.pinned.checked.prog.mainIs = some (true, "341fd494268da961784e4dbe367479ba6d99e55059f4520ee78c108698aa9448".toList) := by kernel_rfl
theorem card_goes : false = Rows.txnBlindRow.goesBy Tryz.pinned.checked.prog := by kernel_rfl
theorem card_named : Tryz.prog.funcNamed "letterpress/letterpresslaw10.TxnBlind" = some 4 := by kernel_rfl
theorem card_looks : true = Tryz.pinned.checked.prog.looks [] := by kernel_rfl
theorem card_all : ([22, 9, 9].all fun u => !Tryz.prog.wantsStandIn u) = true := by kernel_rfl
end Go.Proofs.YtamfimhaimaeiaaGreatDoor
