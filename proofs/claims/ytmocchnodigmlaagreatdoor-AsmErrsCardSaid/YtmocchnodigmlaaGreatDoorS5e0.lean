import Derived.Test.YtmocchnodigmlaaGreatDoorS5a
set_option linter.all false
set_option autoImplicit true
set_option relaxedAutoImplicit true
set_option maxRecDepth 100000
set_option maxHeartbeats 0
namespace Go.Proofs.YtmocchnodigmlaaGreatDoor.AL
noncomputable section
open Go.Proofs
theorem errs_run0 : runG Pg tb5 (spFirst 9 757 (sp5 [(0, 26, 0)])) 100 4 [.sym 0] .leaf 0 kTrue = true := by kernel_rfl
theorem errs_run4 : runG Pg tb5 (spFirst 9 757 (sp5 [(0, 26, 4)])) 100 4 [.sym 0] .leaf 0 kTrue = true := by kernel_rfl
theorem errs_run8 : runG Pg tb5 (spFirst 9 757 (sp5 [(0, 26, 8)])) 100 4 [.sym 0] .leaf 0 kTrue = true := by kernel_rfl
theorem errs_run12 : runG Pg tb5 (spFirst 9 757 (sp5 [(0, 26, 12)])) 100 4 [.sym 0] .leaf 0 kTrue = true := by kernel_rfl
theorem errs_run16 : runG Pg tb5 (spFirst 9 757 (sp5 [(0, 26, 16)])) 100 4 [.sym 0] .leaf 0 kTrue = true := by kernel_rfl
theorem errs_run20 : runG Pg tb5 (spFirst 9 757 (sp5 [(0, 26, 20)])) 100 4 [.sym 0] .leaf 0 kTrue = true := by kernel_rfl
theorem errs_run24 : runG Pg tb5 (spFirst 9 757 (sp5 [(0, 26, 24)])) 100 4 [.sym 0] .leaf 0 kTrue = true := by kernel_rfl
end
end Go.Proofs.YtmocchnodigmlaaGreatDoor.AL
