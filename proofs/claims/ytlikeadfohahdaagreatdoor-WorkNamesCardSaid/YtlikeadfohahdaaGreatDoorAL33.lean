import Derived.Test.YtlikeadfohahdaaGreatDoorAL26
import Derived.Test.YtlikeadfohahdaaGreatDoorAL18toAL19
set_option linter.all false
set_option autoImplicit true
set_option relaxedAutoImplicit true
set_option maxRecDepth 100000
namespace Go.Proofs.YtlikeadfohahdaaGreatDoor.AL
section
variable [Tabs]
section
variable {P : Program}
end
end
section
variable [Tabs]
end
end Go.Proofs.YtlikeadfohahdaaGreatDoor.AL
