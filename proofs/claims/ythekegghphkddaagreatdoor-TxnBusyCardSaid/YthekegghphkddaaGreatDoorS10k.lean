import Derived.Test.YthekegghphkddaaGreatDoorS10b
set_option linter.all false
set_option autoImplicit true
set_option relaxedAutoImplicit true
set_option maxRecDepth 100000
set_option maxHeartbeats 0
namespace Go.Proofs.YthekegghphkddaaGreatDoor.AL
noncomputable section
open Go.Proofs
theorem busy_run (a b : Int) : runG Pg tb0 sp10 100 4 [I a, I b] .leaf 0 kTrue = true := by kernel_rfl
end
end Go.Proofs.YthekegghphkddaaGreatDoor.AL
