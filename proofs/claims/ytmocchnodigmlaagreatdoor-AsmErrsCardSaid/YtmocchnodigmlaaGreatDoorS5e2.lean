import Derived.Test.YtmocchnodigmlaaGreatDoorS5a
set_option linter.all false
set_option autoImplicit true
set_option relaxedAutoImplicit true
set_option maxRecDepth 100000
set_option maxHeartbeats 0
namespace Go.Proofs.YtmocchnodigmlaaGreatDoor.AL
noncomputable section
open Go.Proofs
theorem errs_run2 : runG Pg tb5 (spFirst 9 757 (sp5 [(0, 26, 2)])) 100 4 [.sym 0] .leaf 0 kTrue = true := by kernel_rfl
theorem errs_run6 : runG Pg tb5 (spFirst 9 757 (sp5 [(0, 26, 6)])) 100 4 [.sym 0] .leaf 0 kTrue = true := by kernel_rfl
theorem errs_run10 : runG Pg tb5 (spFirst 9 757 (sp5 [(0, 26, 10)])) 100 4 [.sym 0] .leaf 0 kTrue = true := by kernel_rfl
theorem errs_run14 : runG Pg tb5 (spFirst 9 757 (sp5 [(0, 26, 14)])) 100 4 [.sym 0] .leaf 0 kTrue = true := by kernel_rfl
theorem errs_run18 : runG Pg tb5 (spFirst 9 757 (sp5 [(0, 26, 18)])) 100 4 [.sym 0] .leaf 0 kTrue = true := by kernel_rfl
theorem errs_run22 : runG Pg tb5 (spFirst 9 757 (sp5 [(0, 26, 22)])) 100 4 [.sym 0] .leaf 0 kTrue = true := by kernel_rfl
end
end Go.Proofs.YtmocchnodigmlaaGreatDoor.AL
