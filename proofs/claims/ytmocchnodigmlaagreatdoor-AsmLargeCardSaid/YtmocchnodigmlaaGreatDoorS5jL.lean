import Derived.Test.YtmocchnodigmlaaGreatDoorS5dL
import Derived.Test.YtmocchnodigmlaaGreatDoorAL19
import Derived.Test.YtmocchnodigmlaaGreatDoorTie
import Derived.Test.YtmocchnodigmlaaGreatDoorCards
import Derived.LaidMore
import Derived.Lay
import Derived.Stop.Joined
import Derived.JoinedOf
set_option linter.all false
set_option autoImplicit true
set_option relaxedAutoImplicit true
set_option linter.unusedVariables false
set_option maxRecDepth 100000
set_option maxHeartbeats 0
namespace Go.Proofs.YtmocchnodigmlaaGreatDoor
open Go Go.Proofs.YtmocchnodigmlaaGreatDoor.AL Go.RowKit Go.ChangeShapes Go.WideShapes Go.ChangeAt
theorem jfInPlace : (Rows.asmLargeRow.inPlace == Tryz.prog.inPlace 7) = true := by kernel_rfl
theorem jfNamed : (Rows.asmLargeRow.named == Tryz.prog.varsNamed 7) = true := by kernel_rfl
theorem jfRecurses : (Rows.asmLargeRow.recurses == Tryz.prog.recurses 7) = true := by kernel_rfl
theorem jfUnfollowed : (Rows.asmLargeRow.unfollowed == Tryz.prog.unfollowed 7) = true := by kernel_rfl
theorem jfLifted : (Rows.asmLargeRow.lifted == Tryz.prog.liftsFinal) = true := by kernel_rfl
theorem jfPlainKeys : (Rows.asmLargeRow.plainKeys == Tryz.prog.plainKeys) = true := by kernel_rfl
theorem jfWf : OpenClaim.wf (OpenSpec.ofChange Rows.asmLargeSpec) Rows.asmLargeRow = true := by kernel_rfl
theorem jf : joinedFacts Tryz.prog 7 Tryz.f7 Rows.asmLargeSpec Rows.asmLargeRow = true := by
  unfold joinedFacts
  repeat' (with_reducible apply bAnd)
  all_goals with_reducible first | exact jfInPlace | exact jfNamed | exact jfRecurses | exact jfUnfollowed | exact jfLifted | exact jfPlainKeys | exact jfWf | exact laidOut | exact jfMaps | kernel_rfl
end Go.Proofs.YtmocchnodigmlaaGreatDoor
