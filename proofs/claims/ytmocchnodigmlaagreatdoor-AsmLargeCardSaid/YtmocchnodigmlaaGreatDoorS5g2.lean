import Derived.Test.YtmocchnodigmlaaGreatDoorS5a
set_option linter.all false
set_option autoImplicit true
set_option relaxedAutoImplicit true
set_option maxRecDepth 100000
set_option maxHeartbeats 0
namespace Go.Proofs.YtmocchnodigmlaaGreatDoor.AL
noncomputable section
open Go.Proofs
theorem large_run2 : runG Pg tb5 (spFirst 9 757 (sp5 [(0, 12, 2)])) 100 7 [.sym 0] .leaf 0 kTrue = true := by kernel_rfl
theorem large_run5 : runG Pg tb5 (spFirst 9 757 (sp5 [(0, 12, 5)])) 100 7 [.sym 0] .leaf 0 kTrue = true := by kernel_rfl
theorem large_run8 : runG Pg tb5 (spFirst 9 757 (sp5 [(0, 12, 8)])) 100 7 [.sym 0] .leaf 0 kTrue = true := by kernel_rfl
theorem large_run11 : runG Pg tb5 (spFirst 9 757 (sp5 [(0, 12, 11)])) 100 7 [.sym 0] .leaf 0 kTrue = true := by kernel_rfl
end
end Go.Proofs.YtmocchnodigmlaaGreatDoor.AL
