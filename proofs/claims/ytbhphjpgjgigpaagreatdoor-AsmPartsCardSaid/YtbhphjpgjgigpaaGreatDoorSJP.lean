import Derived.Test.YtbhphjpgjgigpaaGreatDoorSDP
import Derived.Test.YtbhphjpgjgigpaaGreatDoorAL32toAL34
import Derived.Test.YtbhphjpgjgigpaaGreatDoorTie
import Derived.Test.YtbhphjpgjgigpaaGreatDoorCards
import Derived.LaidMore
import Derived.Lay
import Derived.Stop.Joined
import Derived.JoinedOf
import Derived.Carry
import Derived.ChangeMaps5
set_option linter.all false
set_option autoImplicit true
set_option relaxedAutoImplicit true
set_option maxRecDepth 100000
set_option maxHeartbeats 0
namespace Go.Proofs.YtbhphjpgjgigpaaGreatDoor
open Go Go.Proofs.YtbhphjpgjgigpaaGreatDoor.AL Go.RowKit Go.ChangeShapes Go.WideShapes Go.ChangeAt
theorem Nu:(Rows.asmPartsRow.inPlace==Tryz.prog.inPlace 4)=true:=by kernel_rfl
theorem Sv:(Rows.asmPartsRow.named==Tryz.prog.varsNamed 4)=true:=by kernel_rfl
theorem K5:(Rows.asmPartsRow.recurses==Tryz.prog.recurses 4)=true:=by kernel_rfl
theorem EC:(Rows.asmPartsRow.unfollowed==Tryz.prog.unfollowed 4)=true:=by kernel_rfl
theorem Pe:(Rows.asmPartsRow.lifted==Tryz.prog.liftsFinal)=true:=by kernel_rfl
theorem GU:(Rows.asmPartsRow.plainKeys==Tryz.prog.plainKeys)=true:=by kernel_rfl
theorem Uz:OpenClaim.wf (OpenSpec.ofChange Rows.asmPartsSpec) Rows.asmPartsRow=true:=by kernel_rfl
theorem jf:joinedFacts Tryz.prog 4 Tryz.f4 Rows.asmPartsSpec Rows.asmPartsRow=true:=by
 unfold joinedFacts
 repeat' (with_reducible apply UG)
 all_goals with_reducible first|exact Nu|exact Sv|exact K5|exact EC|exact Pe|exact GU|exact Uz|exact LC|exact TI|kernel_rfl
end Go.Proofs.YtbhphjpgjgigpaaGreatDoor
