import Derived.Test.YtamfimhaimaeiaaGreatDoorF5A
set_option linter.all false
set_option autoImplicit true
set_option relaxedAutoImplicit true
set_option maxRecDepth 100000
namespace Go.Proofs.YtamfimhaimaeiaaGreatDoor.AL
noncomputable section
open Go.Proofs
variable [Tabs]
end
end Go.Proofs.YtamfimhaimaeiaaGreatDoor.AL
