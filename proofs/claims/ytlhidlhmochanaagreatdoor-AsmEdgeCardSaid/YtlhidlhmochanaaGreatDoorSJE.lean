import Derived.Test.YtlhidlhmochanaaGreatDoorSDE
import Derived.Test.YtlhidlhmochanaaGreatDoorAL18toAL19
import Derived.Test.YtlhidlhmochanaaGreatDoorTie
import Derived.Test.YtlhidlhmochanaaGreatDoorCards
import Derived.LaidMore
import Derived.Lay
import Derived.Stop.Joined
import Derived.JoinedOf
set_option linter.all false
set_option autoImplicit true
set_option relaxedAutoImplicit true
set_option maxRecDepth 100000
set_option maxHeartbeats 0
namespace Go.Proofs.YtlhidlhmochanaaGreatDoor
open Go Go.Proofs.YtlhidlhmochanaaGreatDoor.AL Go.RowKit Go.ChangeShapes Go.WideShapes Go.ChangeAt
theorem jfInPlace : (Rows.asmEdgeRow.inPlace == Tryz.prog.inPlace 3) = true := by kernel_rfl
theorem jfNamed : (Rows.asmEdgeRow.named == Tryz.prog.varsNamed 3) = true := by kernel_rfl
theorem jfRecurses : (Rows.asmEdgeRow.recurses == Tryz.prog.recurses 3) = true := by kernel_rfl
theorem jfUnfollowed : (Rows.asmEdgeRow.unfollowed == Tryz.prog.unfollowed 3) = true := by kernel_rfl
theorem jfLifted : (Rows.asmEdgeRow.lifted == Tryz.prog.liftsFinal) = true := by kernel_rfl
theorem jfPlainKeys : (Rows.asmEdgeRow.plainKeys == Tryz.prog.plainKeys) = true := by kernel_rfl
theorem jfWf : OpenClaim.wf (OpenSpec.ofChange Rows.asmEdgeSpec) Rows.asmEdgeRow = true := by kernel_rfl
theorem jf : joinedFacts Tryz.prog 3 Tryz.f3 Rows.asmEdgeSpec Rows.asmEdgeRow = true := by
  unfold joinedFacts
  repeat' (with_reducible apply bAnd)
  all_goals with_reducible first | exact jfInPlace | exact jfNamed | exact jfRecurses | exact jfUnfollowed | exact jfLifted | exact jfPlainKeys | exact jfWf | exact laidOut | exact jfMaps | kernel_rfl
end Go.Proofs.YtlhidlhmochanaaGreatDoor
