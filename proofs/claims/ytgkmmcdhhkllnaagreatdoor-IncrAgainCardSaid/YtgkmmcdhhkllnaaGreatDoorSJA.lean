import Derived.Test.YtgkmmcdhhkllnaaGreatDoorSDA
import Derived.Test.YtgkmmcdhhkllnaaGreatDoorAL32toAL34
import Derived.Test.YtgkmmcdhhkllnaaGreatDoorTie
import Derived.Test.YtgkmmcdhhkllnaaGreatDoorCards
import Derived.LaidMore
import Derived.Lay
import Derived.Stop.Joined
import Derived.JoinedOf
import Derived.Carry
import Derived.ChangeMaps5
set_option linter.all false
set_option autoImplicit true
set_option relaxedAutoImplicit true
set_option maxRecDepth 100000
set_option maxHeartbeats 0
namespace Go.Proofs.YtgkmmcdhhkllnaaGreatDoor
open Go Go.Proofs.YtgkmmcdhhkllnaaGreatDoor.AL Go.RowKit Go.ChangeShapes Go.WideShapes Go.ChangeAt
theorem Ui:(Rows.incrAgainRow.inPlace==Tryz.prog.inPlace 3)=true:=by kernel_rfl
theorem aad:(Rows.incrAgainRow.named==Tryz.prog.varsNamed 3)=true:=by kernel_rfl
theorem Qd:(Rows.incrAgainRow.recurses==Tryz.prog.recurses 3)=true:=by kernel_rfl
theorem MO:(Rows.incrAgainRow.unfollowed==Tryz.prog.unfollowed 3)=true:=by kernel_rfl
theorem YH:(Rows.incrAgainRow.lifted==Tryz.prog.liftsFinal)=true:=by kernel_rfl
theorem NW:(Rows.incrAgainRow.plainKeys==Tryz.prog.plainKeys)=true:=by kernel_rfl
theorem acx:OpenClaim.wf (OpenSpec.ofChange Rows.incrAgainSpec) Rows.incrAgainRow=true:=by kernel_rfl
theorem jf:joinedFacts Tryz.prog 3 Tryz.f3 Rows.incrAgainSpec Rows.incrAgainRow=true:=by
 unfold joinedFacts
 repeat' (with_reducible apply acu)
 all_goals with_reducible first|exact Ui|exact aad|exact Qd|exact MO|exact YH|exact NW|exact acx|exact SU|exact abf|kernel_rfl
end Go.Proofs.YtgkmmcdhhkllnaaGreatDoor
