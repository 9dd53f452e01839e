import Derived.Test.YtgkmmcdhhkllnaaGreatDoorSDE
import Derived.Test.YtgkmmcdhhkllnaaGreatDoorAL32toAL34
import Derived.Test.YtgkmmcdhhkllnaaGreatDoorTie
import Derived.Test.YtgkmmcdhhkllnaaGreatDoorCards
import Derived.LaidMore
import Derived.Lay
import Derived.Stop.Joined
import Derived.JoinedOf
import Derived.Carry
import Derived.ChangeMaps5
set_option linter.all false
set_option autoImplicit true
set_option relaxedAutoImplicit true
set_option maxRecDepth 100000
set_option maxHeartbeats 0
namespace Go.Proofs.YtgkmmcdhhkllnaaGreatDoor
open Go Go.Proofs.YtgkmmcdhhkllnaaGreatDoor.AL Go.RowKit Go.ChangeShapes Go.WideShapes Go.ChangeAt
theorem UO:(Rows.workEmptyRow.inPlace==Tryz.prog.inPlace 5)=true:=by kernel_rfl
theorem Z3:(Rows.workEmptyRow.named==Tryz.prog.varsNamed 5)=true:=by kernel_rfl
theorem QU:(Rows.workEmptyRow.recurses==Tryz.prog.recurses 5)=true:=by kernel_rfl
theorem LD:(Rows.workEmptyRow.unfollowed==Tryz.prog.unfollowed 5)=true:=by kernel_rfl
theorem Yp:(Rows.workEmptyRow.lifted==Tryz.prog.liftsFinal)=true:=by kernel_rfl
theorem OI:(Rows.workEmptyRow.plainKeys==Tryz.prog.plainKeys)=true:=by kernel_rfl
theorem adl:OpenClaim.wf (OpenSpec.ofChange Rows.workEmptySpec) Rows.workEmptyRow=true:=by kernel_rfl
theorem jf:joinedFacts Tryz.prog 5 Tryz.f5 Rows.workEmptySpec Rows.workEmptyRow=true:=by
 unfold joinedFacts
 repeat' (with_reducible apply ads)
 all_goals with_reducible first|exact UO|exact Z3|exact QU|exact LD|exact Yp|exact OI|exact adl|exact TJ|exact acA|kernel_rfl
end Go.Proofs.YtgkmmcdhhkllnaaGreatDoor
