import Derived.Test.YtochldeokjifkaaGreatDoorAL26
import Derived.Test.YtochldeokjifkaaGreatDoorAL18toAL19
set_option linter.all false
set_option autoImplicit true
set_option relaxedAutoImplicit true
set_option maxRecDepth 100000
namespace Go.Proofs.YtochldeokjifkaaGreatDoor.AL
section
variable [Tabs]
section
variable {P : Program}
end
end
section
variable [Tabs]
end
end Go.Proofs.YtochldeokjifkaaGreatDoor.AL
