import Derived.Test.YtamfimhaimaeiaaGreatDoorAL26
import Derived.Test.YtamfimhaimaeiaaGreatDoorAL18toAL19
set_option linter.all false
set_option autoImplicit true
set_option relaxedAutoImplicit true
set_option maxRecDepth 100000
namespace Go.Proofs.YtamfimhaimaeiaaGreatDoor.AL
section
variable [Tabs]
section
variable {P : Program}
end
end
section
variable [Tabs]
end
end Go.Proofs.YtamfimhaimaeiaaGreatDoor.AL
