import Derived.Test.YtamfimhaimaeiaaGreatDoorSDL
import Derived.Test.YtamfimhaimaeiaaGreatDoorAL32toAL34
import Derived.Test.YtamfimhaimaeiaaGreatDoorTie
import Derived.Test.YtamfimhaimaeiaaGreatDoorCards
import Derived.LaidMore
import Derived.Lay
import Derived.Stop.Joined
import Derived.JoinedOf
import Derived.Carry
import Derived.ChangeMaps5
set_option linter.all false
set_option autoImplicit true
set_option relaxedAutoImplicit true
set_option maxRecDepth 100000
set_option maxHeartbeats 0
namespace Go.Proofs.YtamfimhaimaeiaaGreatDoor
open Go Go.Proofs.YtamfimhaimaeiaaGreatDoor.AL Go.RowKit Go.ChangeShapes Go.WideShapes Go.ChangeAt
theorem jfInPlace : (Rows.txnBlindRow.inPlace == Tryz.prog.inPlace 4) = true := by kernel_rfl
theorem jfNamed : (Rows.txnBlindRow.named == Tryz.prog.varsNamed 4) = true := by kernel_rfl
theorem jfRecurses : (Rows.txnBlindRow.recurses == Tryz.prog.recurses 4) = true := by kernel_rfl
theorem jfUnfollowed : (Rows.txnBlindRow.unfollowed == Tryz.prog.unfollowed 4) = true := by kernel_rfl
theorem jfLifted : (Rows.txnBlindRow.lifted == Tryz.prog.liftsFinal) = true := by kernel_rfl
theorem jfPlainKeys : (Rows.txnBlindRow.plainKeys == Tryz.prog.plainKeys) = true := by kernel_rfl
theorem jfWf : OpenClaim.wf (OpenSpec.ofChange Rows.txnBlindSpec) Rows.txnBlindRow = true := by kernel_rfl
theorem jf : joinedFacts Tryz.prog 4 Tryz.f4 Rows.txnBlindSpec Rows.txnBlindRow = true := by
  unfold joinedFacts
  repeat' (with_reducible apply bAnd)
  all_goals with_reducible first | exact jfInPlace | exact jfNamed | exact jfRecurses | exact jfUnfollowed | exact jfLifted | exact jfPlainKeys | exact jfWf | exact laidOut | exact jfMaps | kernel_rfl
end Go.Proofs.YtamfimhaimaeiaaGreatDoor
