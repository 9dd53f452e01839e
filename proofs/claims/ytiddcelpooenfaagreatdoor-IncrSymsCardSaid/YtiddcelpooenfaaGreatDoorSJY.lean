import Derived.Test.YtiddcelpooenfaaGreatDoorSDY
import Derived.Test.YtiddcelpooenfaaGreatDoorAL32toAL34
import Derived.Test.YtiddcelpooenfaaGreatDoorTie
import Derived.Test.YtiddcelpooenfaaGreatDoorCards
import Derived.LaidMore
import Derived.Lay
import Derived.Stop.Joined
import Derived.JoinedOf
import Derived.Carry
import Derived.ChangeMaps5
set_option linter.all false
set_option autoImplicit true
set_option relaxedAutoImplicit true
set_option maxRecDepth 100000
set_option maxHeartbeats 0
namespace Go.Proofs.YtiddcelpooenfaaGreatDoor
open Go Go.Proofs.YtiddcelpooenfaaGreatDoor.AL Go.RowKit Go.ChangeShapes Go.WideShapes Go.ChangeAt
theorem jfInPlace : (Rows.incrSymsRow.inPlace == Tryz.prog.inPlace 4) = true := by kernel_rfl
theorem jfNamed : (Rows.incrSymsRow.named == Tryz.prog.varsNamed 4) = true := by kernel_rfl
theorem jfRecurses : (Rows.incrSymsRow.recurses == Tryz.prog.recurses 4) = true := by kernel_rfl
theorem jfUnfollowed : (Rows.incrSymsRow.unfollowed == Tryz.prog.unfollowed 4) = true := by kernel_rfl
theorem jfLifted : (Rows.incrSymsRow.lifted == Tryz.prog.liftsFinal) = true := by kernel_rfl
theorem jfPlainKeys : (Rows.incrSymsRow.plainKeys == Tryz.prog.plainKeys) = true := by kernel_rfl
theorem jfWf : OpenClaim.wf (OpenSpec.ofChange Rows.incrSymsSpec) Rows.incrSymsRow = true := by kernel_rfl
theorem jf : joinedFacts Tryz.prog 4 Tryz.f4 Rows.incrSymsSpec Rows.incrSymsRow = true := by
  unfold joinedFacts
  repeat' (with_reducible apply bAnd)
  all_goals with_reducible first | exact jfInPlace | exact jfNamed | exact jfRecurses | exact jfUnfollowed | exact jfLifted | exact jfPlainKeys | exact jfWf | exact laidOut | exact jfMaps | kernel_rfl
end Go.Proofs.YtiddcelpooenfaaGreatDoor
