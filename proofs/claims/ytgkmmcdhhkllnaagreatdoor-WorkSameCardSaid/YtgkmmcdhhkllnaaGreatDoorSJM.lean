import Derived.Test.YtgkmmcdhhkllnaaGreatDoorSDM
import Derived.Test.YtgkmmcdhhkllnaaGreatDoorAL32toAL34
import Derived.Test.YtgkmmcdhhkllnaaGreatDoorTie
import Derived.Test.YtgkmmcdhhkllnaaGreatDoorCards
import Derived.LaidMore
import Derived.Lay
import Derived.Stop.Joined
import Derived.JoinedOf
import Derived.Carry
import Derived.ChangeMaps5
set_option linter.all false
set_option autoImplicit true
set_option relaxedAutoImplicit true
set_option maxRecDepth 100000
set_option maxHeartbeats 0
namespace Go.Proofs.YtgkmmcdhhkllnaaGreatDoor
open Go Go.Proofs.YtgkmmcdhhkllnaaGreatDoor.AL Go.RowKit Go.ChangeShapes Go.WideShapes Go.ChangeAt
theorem Wr:(Rows.workSameRow.inPlace==Tryz.prog.inPlace 4)=true:=by kernel_rfl
theorem aaS:(Rows.workSameRow.named==Tryz.prog.varsNamed 4)=true:=by kernel_rfl
theorem RT:(Rows.workSameRow.recurses==Tryz.prog.recurses 4)=true:=by kernel_rfl
theorem MS:(Rows.workSameRow.unfollowed==Tryz.prog.unfollowed 4)=true:=by kernel_rfl
theorem XG:(Rows.workSameRow.lifted==Tryz.prog.liftsFinal)=true:=by kernel_rfl
theorem OE:(Rows.workSameRow.plainKeys==Tryz.prog.plainKeys)=true:=by kernel_rfl
theorem adx:OpenClaim.wf (OpenSpec.ofChange Rows.workSameSpec) Rows.workSameRow=true:=by kernel_rfl
theorem jf:joinedFacts Tryz.prog 4 Tryz.f4 Rows.workSameSpec Rows.workSameRow=true:=by
 unfold joinedFacts
 repeat' (with_reducible apply adA)
 all_goals with_reducible first|exact Wr|exact aaS|exact RT|exact MS|exact XG|exact OE|exact adx|exact Uy|exact acR|kernel_rfl
end Go.Proofs.YtgkmmcdhhkllnaaGreatDoor
