import Derived.Test.YthekegghphkddaaGreatDoorS10b
import Derived.Test.YthekegghphkddaaGreatDoorAL19
import Derived.Test.YthekegghphkddaaGreatDoorTie
import Derived.Test.YthekegghphkddaaGreatDoorCards
import Derived.LaidMore
import Derived.Lay
import Derived.Stop.Joined
import Derived.JoinedOf
set_option linter.all false
set_option autoImplicit true
set_option relaxedAutoImplicit true
set_option linter.unusedVariables false
set_option maxRecDepth 100000
set_option maxHeartbeats 0
namespace Go.Proofs.YthekegghphkddaaGreatDoor
open Go Go.Proofs.YthekegghphkddaaGreatDoor.AL Go.RowKit Go.ChangeShapes Go.WideShapes Go.ChangeAt
theorem own : ownKnob Tryz.prog.godebug = none := by kernel_rfl
theorem laidOut : laidOutB Tryz.prog = true := by kernel_rfl
theorem jfMaps : mapsRowed Tryz.prog = true := by kernel_rfl
abbrev theLaid := Rows.txnBusyRow.laid
theorem laid_plain : (theLaid.all fun x => x.2.handleName?.isNone) = true := by kernel_rfl
theorem laid_witness (os : Os) (args : Array Value) : laidMetH Tryz.prog theLaid ((World.laidAll Tryz.prog os theLaid).forCall (fun _ _ => 0) ⟨#[], args, []⟩).memory := by
  rw [MakeChecks.laidMetH_plain _ _ _ laid_plain]; exact laidMet_laidAll _ (by kernel_rfl) (by kernel_rfl)
theorem bAnd {a b : Bool} (ha : a = true) (hb : b = true) : (a && b) = true := by rw [ha, hb]; rfl
end Go.Proofs.YthekegghphkddaaGreatDoor
