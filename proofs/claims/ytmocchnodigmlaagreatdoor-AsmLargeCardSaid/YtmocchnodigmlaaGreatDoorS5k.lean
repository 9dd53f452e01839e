import Derived.Test.YtmocchnodigmlaaGreatDoorS5a
set_option linter.all false
set_option autoImplicit true
set_option relaxedAutoImplicit true
set_option maxRecDepth 100000
set_option maxHeartbeats 0
namespace Go.Proofs.YtmocchnodigmlaaGreatDoor.AL
noncomputable section
open Go.Proofs
theorem known_run : runG Pg tb5 (sp5 []) 100 9 [] .leaf 0 (kTrueN 757) = true := by kernel_rfl
end
end Go.Proofs.YtmocchnodigmlaaGreatDoor.AL
