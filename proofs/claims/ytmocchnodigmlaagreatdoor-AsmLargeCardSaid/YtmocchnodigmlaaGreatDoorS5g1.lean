import Derived.Test.YtmocchnodigmlaaGreatDoorS5a
set_option linter.all false
set_option autoImplicit true
set_option relaxedAutoImplicit true
set_option maxRecDepth 100000
set_option maxHeartbeats 0
namespace Go.Proofs.YtmocchnodigmlaaGreatDoor.AL
noncomputable section
open Go.Proofs
theorem large_run1 : runG Pg tb5 (spFirst 9 757 (sp5 [(0, 12, 1)])) 100 7 [.sym 0] .leaf 0 kTrue = true := by kernel_rfl
theorem large_run4 : runG Pg tb5 (spFirst 9 757 (sp5 [(0, 12, 4)])) 100 7 [.sym 0] .leaf 0 kTrue = true := by kernel_rfl
theorem large_run7 : runG Pg tb5 (spFirst 9 757 (sp5 [(0, 12, 7)])) 100 7 [.sym 0] .leaf 0 kTrue = true := by kernel_rfl
theorem large_run10 : runG Pg tb5 (spFirst 9 757 (sp5 [(0, 12, 10)])) 100 7 [.sym 0] .leaf 0 kTrue = true := by kernel_rfl
end
end Go.Proofs.YtmocchnodigmlaaGreatDoor.AL
