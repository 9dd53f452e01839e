import Derived.Test.YtlhidlhmochanaaGreatDoorFLtoLX0
import Derived.KernelRfl
set_option linter.all false
set_option autoImplicit true
set_option relaxedAutoImplicit true
set_option maxRecDepth 100000
namespace Go.Proofs.YtlhidlhmochanaaGreatDoor.AL
noncomputable section
section
variable [Tabs]
theorem edge_1f0 : edgeAll 0 75 false [98, 108, 32] = true := by kernel_rfl
theorem edge_1f75 : edgeAll 75 75 false [98, 108, 32] = true := by kernel_rfl
theorem edge_1f150 : edgeAll 150 75 false [98, 108, 32] = true := by kernel_rfl
theorem edge_1f225 : edgeAll 225 75 false [98, 108, 32] = true := by kernel_rfl
theorem edge_1t0 : edgeAll 0 75 true [98, 108, 32] = true := by kernel_rfl
theorem edge_1t75 : edgeAll 75 75 true [98, 108, 32] = true := by kernel_rfl
theorem edge_1t150 : edgeAll 150 75 true [98, 108, 32] = true := by kernel_rfl
theorem edge_1t225 : edgeAll 225 75 true [98, 108, 32] = true := by kernel_rfl
end
end
end Go.Proofs.YtlhidlhmochanaaGreatDoor.AL
