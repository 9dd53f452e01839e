import Derived.Test.YtgkmmcdhhkllnaaGreatDoorAL26
import Derived.Test.YtgkmmcdhhkllnaaGreatDoorAL13toAL19
set_option linter.all false
set_option autoImplicit true
set_option relaxedAutoImplicit true
set_option maxRecDepth 100000
namespace Go.Proofs.YtgkmmcdhhkllnaaGreatDoor.AL
section
variable [Tabs]
section
variable {P:Program}
end
end
section
variable [Tabs]
