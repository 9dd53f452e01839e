import Derived.Test.YtlikeadfohahdaaGreatDoorSDN
import Derived.Test.YtlikeadfohahdaaGreatDoorAL32toAL34
import Derived.Test.YtlikeadfohahdaaGreatDoorTie
import Derived.Test.YtlikeadfohahdaaGreatDoorCards
import Derived.LaidMore
import Derived.Lay
import Derived.Stop.Joined
import Derived.JoinedOf
import Derived.Carry
import Derived.ChangeMaps5
set_option linter.all false
set_option autoImplicit true
set_option relaxedAutoImplicit true
set_option maxRecDepth 100000
set_option maxHeartbeats 0
namespace Go.Proofs.YtlikeadfohahdaaGreatDoor
open Go Go.Proofs.YtlikeadfohahdaaGreatDoor.AL Go.RowKit Go.ChangeShapes Go.WideShapes Go.ChangeAt
theorem jfInPlace : (Rows.workNamesRow.inPlace == Tryz.prog.inPlace 3) = true := by kernel_rfl
theorem jfNamed : (Rows.workNamesRow.named == Tryz.prog.varsNamed 3) = true := by kernel_rfl
theorem jfRecurses : (Rows.workNamesRow.recurses == Tryz.prog.recurses 3) = true := by kernel_rfl
theorem jfUnfollowed : (Rows.workNamesRow.unfollowed == Tryz.prog.unfollowed 3) = true := by kernel_rfl
theorem jfLifted : (Rows.workNamesRow.lifted == Tryz.prog.liftsFinal) = true := by kernel_rfl
theorem jfPlainKeys : (Rows.workNamesRow.plainKeys == Tryz.prog.plainKeys) = true := by kernel_rfl
theorem jfWf : OpenClaim.wf (OpenSpec.ofChange Rows.workNamesSpec) Rows.workNamesRow = true := by kernel_rfl
theorem jf : joinedFacts Tryz.prog 3 Tryz.f3 Rows.workNamesSpec Rows.workNamesRow = true := by
  unfold joinedFacts
  repeat' (with_reducible apply bAnd)
  all_goals with_reducible first | exact jfInPlace | exact jfNamed | exact jfRecurses | exact jfUnfollowed | exact jfLifted | exact jfPlainKeys | exact jfWf | exact laidOut | exact jfMaps | kernel_rfl
end Go.Proofs.YtlikeadfohahdaaGreatDoor
