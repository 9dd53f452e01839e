import Derived.Test.YthekegghphkddaaGreatDoorS10d
import Derived.Test.YthekegghphkddaaGreatDoorAL19
import Derived.Test.YthekegghphkddaaGreatDoorTie
import Derived.Test.YthekegghphkddaaGreatDoorCards
import Derived.LaidMore
import Derived.Lay
import Derived.Stop.Joined
import Derived.JoinedOf
set_option linter.all false
set_option autoImplicit true
set_option relaxedAutoImplicit true
set_option linter.unusedVariables false
set_option maxRecDepth 100000
set_option maxHeartbeats 0
namespace Go.Proofs.YthekegghphkddaaGreatDoor
open Go Go.Proofs.YthekegghphkddaaGreatDoor.AL Go.RowKit Go.ChangeShapes Go.WideShapes Go.ChangeAt
theorem jfInPlace : (Rows.txnBusyRow.inPlace == Tryz.prog.inPlace 4) = true := by kernel_rfl
theorem jfNamed : (Rows.txnBusyRow.named == Tryz.prog.varsNamed 4) = true := by kernel_rfl
theorem jfRecurses : (Rows.txnBusyRow.recurses == Tryz.prog.recurses 4) = true := by kernel_rfl
theorem jfUnfollowed : (Rows.txnBusyRow.unfollowed == Tryz.prog.unfollowed 4) = true := by kernel_rfl
theorem jfLifted : (Rows.txnBusyRow.lifted == Tryz.prog.liftsFinal) = true := by kernel_rfl
theorem jfPlainKeys : (Rows.txnBusyRow.plainKeys == Tryz.prog.plainKeys) = true := by kernel_rfl
theorem jfWf : OpenClaim.wf (OpenSpec.ofChange Rows.txnBusySpec) Rows.txnBusyRow = true := by kernel_rfl
theorem jf : joinedFacts Tryz.prog 4 Tryz.f4 Rows.txnBusySpec Rows.txnBusyRow = true := by
  unfold joinedFacts
  repeat' (with_reducible apply bAnd)
  all_goals with_reducible first | exact jfInPlace | exact jfNamed | exact jfRecurses | exact jfUnfollowed | exact jfLifted | exact jfPlainKeys | exact jfWf | exact laidOut | exact jfMaps | kernel_rfl
end Go.Proofs.YthekegghphkddaaGreatDoor
