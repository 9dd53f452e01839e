import Derived.Test.YthigmipcadhnkaaGreatDoorSDD
import Derived.Test.YthigmipcadhnkaaGreatDoorAL18toAL19
import Derived.Test.YthigmipcadhnkaaGreatDoorTie
import Derived.Test.YthigmipcadhnkaaGreatDoorCards
import Derived.LaidMore
import Derived.Lay
import Derived.Stop.Joined
import Derived.JoinedOf
set_option linter.all false
set_option autoImplicit true
set_option relaxedAutoImplicit true
set_option maxRecDepth 100000
set_option maxHeartbeats 0
namespace Go.Proofs.YthigmipcadhnkaaGreatDoor
open Go Go.Proofs.YthigmipcadhnkaaGreatDoor.AL Go.RowKit Go.ChangeShapes Go.WideShapes Go.ChangeAt
theorem jfInPlace : (Rows.asmDataRow.inPlace == Tryz.prog.inPlace 4) = true := by kernel_rfl
theorem jfNamed : (Rows.asmDataRow.named == Tryz.prog.varsNamed 4) = true := by kernel_rfl
theorem jfRecurses : (Rows.asmDataRow.recurses == Tryz.prog.recurses 4) = true := by kernel_rfl
theorem jfUnfollowed : (Rows.asmDataRow.unfollowed == Tryz.prog.unfollowed 4) = true := by kernel_rfl
theorem jfLifted : (Rows.asmDataRow.lifted == Tryz.prog.liftsFinal) = true := by kernel_rfl
theorem jfPlainKeys : (Rows.asmDataRow.plainKeys == Tryz.prog.plainKeys) = true := by kernel_rfl
theorem jfWf : OpenClaim.wf (OpenSpec.ofChange Rows.asmDataSpec) Rows.asmDataRow = true := by kernel_rfl
theorem jf : joinedFacts Tryz.prog 4 Tryz.f4 Rows.asmDataSpec Rows.asmDataRow = true := by
  unfold joinedFacts
  repeat' (with_reducible apply bAnd)
  all_goals with_reducible first | exact jfInPlace | exact jfNamed | exact jfRecurses | exact jfUnfollowed | exact jfLifted | exact jfPlainKeys | exact jfWf | exact laidOut | exact jfMaps | kernel_rfl
end Go.Proofs.YthigmipcadhnkaaGreatDoor
