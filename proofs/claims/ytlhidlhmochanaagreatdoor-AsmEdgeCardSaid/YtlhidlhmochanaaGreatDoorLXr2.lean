import Derived.Test.YtlhidlhmochanaaGreatDoorFLtoLX0
import Derived.KernelRfl
set_option linter.all false
set_option autoImplicit true
set_option relaxedAutoImplicit true
set_option maxRecDepth 100000
namespace Go.Proofs.YtlhidlhmochanaaGreatDoor.AL
noncomputable section
section
variable [Tabs]
theorem edge_2f0 : edgeAll 0 75 false [98, 99, 32, 48, 44, 32, 51, 44, 32] = true := by kernel_rfl
theorem edge_2f75 : edgeAll 75 75 false [98, 99, 32, 48, 44, 32, 51, 44, 32] = true := by kernel_rfl
theorem edge_2f150 : edgeAll 150 75 false [98, 99, 32, 48, 44, 32, 51, 44, 32] = true := by kernel_rfl
theorem edge_2f225 : edgeAll 225 75 false [98, 99, 32, 48, 44, 32, 51, 44, 32] = true := by kernel_rfl
theorem edge_2t0 : edgeAll 0 75 true [98, 99, 32, 48, 44, 32, 51, 44, 32] = true := by kernel_rfl
theorem edge_2t75 : edgeAll 75 75 true [98, 99, 32, 48, 44, 32, 51, 44, 32] = true := by kernel_rfl
theorem edge_2t150 : edgeAll 150 75 true [98, 99, 32, 48, 44, 32, 51, 44, 32] = true := by kernel_rfl
theorem edge_2t225 : edgeAll 225 75 true [98, 99, 32, 48, 44, 32, 51, 44, 32] = true := by kernel_rfl
end
end
end Go.Proofs.YtlhidlhmochanaaGreatDoor.AL
