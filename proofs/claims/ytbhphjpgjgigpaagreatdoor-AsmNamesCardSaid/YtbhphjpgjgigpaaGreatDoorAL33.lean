import Derived.Test.YtbhphjpgjgigpaaGreatDoorAL24toAL26
import Derived.Test.YtbhphjpgjgigpaaGreatDoorAL13toAL19
set_option linter.all false
set_option autoImplicit true
set_option relaxedAutoImplicit true
set_option maxRecDepth 100000
namespace Go.Proofs.YtbhphjpgjgigpaaGreatDoor.AL
section
variable [Tabs]
section
variable {P:Program}
end
end
section
variable [Tabs]
