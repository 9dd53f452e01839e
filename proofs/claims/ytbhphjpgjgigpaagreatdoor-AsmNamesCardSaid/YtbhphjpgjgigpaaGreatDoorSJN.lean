import Derived.Test.YtbhphjpgjgigpaaGreatDoorSDN
import Derived.Test.YtbhphjpgjgigpaaGreatDoorAL32toAL34
import Derived.Test.YtbhphjpgjgigpaaGreatDoorTie
import Derived.Test.YtbhphjpgjgigpaaGreatDoorCards
import Derived.LaidMore
import Derived.Lay
import Derived.Stop.Joined
import Derived.JoinedOf
import Derived.Carry
import Derived.ChangeMaps5
set_option linter.all false
set_option autoImplicit true
set_option relaxedAutoImplicit true
set_option maxRecDepth 100000
set_option maxHeartbeats 0
namespace Go.Proofs.YtbhphjpgjgigpaaGreatDoor
open Go Go.Proofs.YtbhphjpgjgigpaaGreatDoor.AL Go.RowKit Go.ChangeShapes Go.WideShapes Go.ChangeAt
theorem Oi:(Rows.asmNamesRow.inPlace==Tryz.prog.inPlace 5)=true:=by kernel_rfl
theorem SE:(Rows.asmNamesRow.named==Tryz.prog.varsNamed 5)=true:=by kernel_rfl
theorem JJ:(Rows.asmNamesRow.recurses==Tryz.prog.recurses 5)=true:=by kernel_rfl
theorem Ff:(Rows.asmNamesRow.unfollowed==Tryz.prog.unfollowed 5)=true:=by kernel_rfl
theorem Qf:(Rows.asmNamesRow.lifted==Tryz.prog.liftsFinal)=true:=by kernel_rfl
theorem Jm:(Rows.asmNamesRow.plainKeys==Tryz.prog.plainKeys)=true:=by kernel_rfl
theorem Ve:OpenClaim.wf (OpenSpec.ofChange Rows.asmNamesSpec) Rows.asmNamesRow=true:=by kernel_rfl
theorem jf:joinedFacts Tryz.prog 5 Tryz.f5 Rows.asmNamesSpec Rows.asmNamesRow=true:=by
 unfold joinedFacts
 repeat' (with_reducible apply Vd)
 all_goals with_reducible first|exact Oi|exact SE|exact JJ|exact Ff|exact Qf|exact Jm|exact Ve|exact Mc|exact Uf|kernel_rfl
end Go.Proofs.YtbhphjpgjgigpaaGreatDoor
