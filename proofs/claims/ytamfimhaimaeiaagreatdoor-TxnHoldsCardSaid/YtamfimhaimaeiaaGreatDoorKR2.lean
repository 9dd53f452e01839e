import Derived.Test.YtamfimhaimaeiaaGreatDoorAI4toRL
set_option linter.all false
set_option autoImplicit true
set_option relaxedAutoImplicit true
set_option maxRecDepth 100000
set_option maxHeartbeats 0
namespace Go.Proofs.YtamfimhaimaeiaaGreatDoor.AL
noncomputable section
theorem ho_false4 : runG Pg tb5 (spL [(0, 20, 4)]) 100 7 [.sym 0, B false] .leaf 0 kTrue = true := by kernel_rfl
theorem ho_false5 : runG Pg tb5 (spL [(0, 20, 5)]) 100 7 [.sym 0, B false] .leaf 0 kTrue = true := by kernel_rfl
theorem ho_true4 : runG Pg tb5 (spL [(0, 20, 4)]) 100 7 [.sym 0, B true] .leaf 0 kTrue = true := by kernel_rfl
theorem ho_true5 : runG Pg tb5 (spL [(0, 20, 5)]) 100 7 [.sym 0, B true] .leaf 0 kTrue = true := by kernel_rfl
end
end Go.Proofs.YtamfimhaimaeiaaGreatDoor.AL
