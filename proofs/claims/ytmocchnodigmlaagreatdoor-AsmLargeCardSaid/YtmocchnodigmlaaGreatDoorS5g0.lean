import Derived.Test.YtmocchnodigmlaaGreatDoorS5a
set_option linter.all false
set_option autoImplicit true
set_option relaxedAutoImplicit true
set_option maxRecDepth 100000
set_option maxHeartbeats 0
namespace Go.Proofs.YtmocchnodigmlaaGreatDoor.AL
noncomputable section
open Go.Proofs
theorem large_run0 : runG Pg tb5 (spFirst 9 757 (sp5 [(0, 12, 0)])) 100 7 [.sym 0] .leaf 0 kTrue = true := by kernel_rfl
theorem large_run3 : runG Pg tb5 (spFirst 9 757 (sp5 [(0, 12, 3)])) 100 7 [.sym 0] .leaf 0 kTrue = true := by kernel_rfl
theorem large_run6 : runG Pg tb5 (spFirst 9 757 (sp5 [(0, 12, 6)])) 100 7 [.sym 0] .leaf 0 kTrue = true := by kernel_rfl
theorem large_run9 : runG Pg tb5 (spFirst 9 757 (sp5 [(0, 12, 9)])) 100 7 [.sym 0] .leaf 0 kTrue = true := by kernel_rfl
end
end Go.Proofs.YtmocchnodigmlaaGreatDoor.AL
