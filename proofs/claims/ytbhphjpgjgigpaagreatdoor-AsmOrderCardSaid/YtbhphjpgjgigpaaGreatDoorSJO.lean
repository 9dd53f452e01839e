import Derived.Test.YtbhphjpgjgigpaaGreatDoorSDO
import Derived.Test.YtbhphjpgjgigpaaGreatDoorAL32toAL34
import Derived.Test.YtbhphjpgjgigpaaGreatDoorTie
import Derived.Test.YtbhphjpgjgigpaaGreatDoorCards
import Derived.LaidMore
import Derived.Lay
import Derived.Stop.Joined
import Derived.JoinedOf
import Derived.Carry
import Derived.ChangeMaps5
set_option linter.all false
set_option autoImplicit true
set_option relaxedAutoImplicit true
set_option maxRecDepth 100000
set_option maxHeartbeats 0
namespace Go.Proofs.YtbhphjpgjgigpaaGreatDoor
open Go Go.Proofs.YtbhphjpgjgigpaaGreatDoor.AL Go.RowKit Go.ChangeShapes Go.WideShapes Go.ChangeAt
theorem UA:(Rows.asmOrderRow.inPlace==Tryz.prog.inPlace 3)=true:=by kernel_rfl
theorem Y3:(Rows.asmOrderRow.named==Tryz.prog.varsNamed 3)=true:=by kernel_rfl
theorem PY:(Rows.asmOrderRow.recurses==Tryz.prog.recurses 3)=true:=by kernel_rfl
theorem LD:(Rows.asmOrderRow.unfollowed==Tryz.prog.unfollowed 3)=true:=by kernel_rfl
theorem Xp:(Rows.asmOrderRow.lifted==Tryz.prog.liftsFinal)=true:=by kernel_rfl
theorem NQ:(Rows.asmOrderRow.plainKeys==Tryz.prog.plainKeys)=true:=by kernel_rfl
theorem abm:OpenClaim.wf (OpenSpec.ofChange Rows.asmOrderSpec) Rows.asmOrderRow=true:=by kernel_rfl
theorem jf:joinedFacts Tryz.prog 3 Tryz.f3 Rows.asmOrderSpec Rows.asmOrderRow=true:=by
 unfold joinedFacts
 repeat' (with_reducible apply abj)
 all_goals with_reducible first|exact UA|exact Y3|exact PY|exact LD|exact Xp|exact NQ|exact abm|exact Q8|exact aaG|kernel_rfl
end Go.Proofs.YtbhphjpgjgigpaaGreatDoor
