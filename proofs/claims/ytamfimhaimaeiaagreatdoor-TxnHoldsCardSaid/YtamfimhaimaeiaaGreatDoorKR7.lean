import Derived.Test.YtamfimhaimaeiaaGreatDoorAI4toRL
set_option linter.all false
set_option autoImplicit true
set_option relaxedAutoImplicit true
set_option maxRecDepth 100000
set_option maxHeartbeats 0
namespace Go.Proofs.YtamfimhaimaeiaaGreatDoor.AL
noncomputable section
theorem ho_false14 : runG Pg tb5 (spL [(0, 20, 14)]) 100 7 [.sym 0, B false] .leaf 0 kTrue = true := by kernel_rfl
theorem ho_false15 : runG Pg tb5 (spL [(0, 20, 15)]) 100 7 [.sym 0, B false] .leaf 0 kTrue = true := by kernel_rfl
theorem ho_true14 : runG Pg tb5 (spL [(0, 20, 14)]) 100 7 [.sym 0, B true] .leaf 0 kTrue = true := by kernel_rfl
theorem ho_true15 : runG Pg tb5 (spL [(0, 20, 15)]) 100 7 [.sym 0, B true] .leaf 0 kTrue = true := by kernel_rfl
end
end Go.Proofs.YtamfimhaimaeiaaGreatDoor.AL
