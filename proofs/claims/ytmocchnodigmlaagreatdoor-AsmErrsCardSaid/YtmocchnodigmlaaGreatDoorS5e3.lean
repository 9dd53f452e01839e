import Derived.Test.YtmocchnodigmlaaGreatDoorS5a
set_option linter.all false
set_option autoImplicit true
set_option relaxedAutoImplicit true
set_option maxRecDepth 100000
set_option maxHeartbeats 0
namespace Go.Proofs.YtmocchnodigmlaaGreatDoor.AL
noncomputable section
open Go.Proofs
theorem errs_run3 : runG Pg tb5 (spFirst 9 757 (sp5 [(0, 26, 3)])) 100 4 [.sym 0] .leaf 0 kTrue = true := by kernel_rfl
theorem errs_run7 : runG Pg tb5 (spFirst 9 757 (sp5 [(0, 26, 7)])) 100 4 [.sym 0] .leaf 0 kTrue = true := by kernel_rfl
theorem errs_run11 : runG Pg tb5 (spFirst 9 757 (sp5 [(0, 26, 11)])) 100 4 [.sym 0] .leaf 0 kTrue = true := by kernel_rfl
theorem errs_run15 : runG Pg tb5 (spFirst 9 757 (sp5 [(0, 26, 15)])) 100 4 [.sym 0] .leaf 0 kTrue = true := by kernel_rfl
theorem errs_run19 : runG Pg tb5 (spFirst 9 757 (sp5 [(0, 26, 19)])) 100 4 [.sym 0] .leaf 0 kTrue = true := by kernel_rfl
theorem errs_run23 : runG Pg tb5 (spFirst 9 757 (sp5 [(0, 26, 23)])) 100 4 [.sym 0] .leaf 0 kTrue = true := by kernel_rfl
end
end Go.Proofs.YtmocchnodigmlaaGreatDoor.AL
