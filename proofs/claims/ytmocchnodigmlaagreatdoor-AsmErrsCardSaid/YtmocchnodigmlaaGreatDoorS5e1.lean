import Derived.Test.YtmocchnodigmlaaGreatDoorS5a
set_option linter.all false
set_option autoImplicit true
set_option relaxedAutoImplicit true
set_option maxRecDepth 100000
set_option maxHeartbeats 0
namespace Go.Proofs.YtmocchnodigmlaaGreatDoor.AL
noncomputable section
open Go.Proofs
theorem errs_run1 : runG Pg tb5 (spFirst 9 757 (sp5 [(0, 26, 1)])) 100 4 [.sym 0] .leaf 0 kTrue = true := by kernel_rfl
theorem errs_run5 : runG Pg tb5 (spFirst 9 757 (sp5 [(0, 26, 5)])) 100 4 [.sym 0] .leaf 0 kTrue = true := by kernel_rfl
theorem errs_run9 : runG Pg tb5 (spFirst 9 757 (sp5 [(0, 26, 9)])) 100 4 [.sym 0] .leaf 0 kTrue = true := by kernel_rfl
theorem errs_run13 : runG Pg tb5 (spFirst 9 757 (sp5 [(0, 26, 13)])) 100 4 [.sym 0] .leaf 0 kTrue = true := by kernel_rfl
theorem errs_run17 : runG Pg tb5 (spFirst 9 757 (sp5 [(0, 26, 17)])) 100 4 [.sym 0] .leaf 0 kTrue = true := by kernel_rfl
theorem errs_run21 : runG Pg tb5 (spFirst 9 757 (sp5 [(0, 26, 21)])) 100 4 [.sym 0] .leaf 0 kTrue = true := by kernel_rfl
theorem errs_run25 : runG Pg tb5 (spFirst 9 757 (sp5 [(0, 26, 25)])) 100 4 [.sym 0] .leaf 0 kTrue = true := by kernel_rfl
end
end Go.Proofs.YtmocchnodigmlaaGreatDoor.AL
