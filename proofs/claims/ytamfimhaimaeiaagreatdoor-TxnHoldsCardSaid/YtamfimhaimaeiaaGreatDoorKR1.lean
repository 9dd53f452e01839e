import Derived.Test.YtamfimhaimaeiaaGreatDoorAI4toRL
set_option linter.all false
set_option autoImplicit true
set_option relaxedAutoImplicit true
set_option maxRecDepth 100000
set_option maxHeartbeats 0
namespace Go.Proofs.YtamfimhaimaeiaaGreatDoor.AL
noncomputable section
theorem ho_false2 : runG Pg tb5 (spL [(0, 20, 2)]) 100 7 [.sym 0, B false] .leaf 0 kTrue = true := by kernel_rfl
theorem ho_false3 : runG Pg tb5 (spL [(0, 20, 3)]) 100 7 [.sym 0, B false] .leaf 0 kTrue = true := by kernel_rfl
theorem ho_true2 : runG Pg tb5 (spL [(0, 20, 2)]) 100 7 [.sym 0, B true] .leaf 0 kTrue = true := by kernel_rfl
theorem ho_true3 : runG Pg tb5 (spL [(0, 20, 3)]) 100 7 [.sym 0, B true] .leaf 0 kTrue = true := by kernel_rfl
end
end Go.Proofs.YtamfimhaimaeiaaGreatDoor.AL
