/- Steps. -/
import Derived.Test.YtdickhgiahcnaaaGreatDoorNP43
import Derived.Test.YtdickhgiahcnaaaGreatDoorNP44
import Derived.Sort.Walk13a
set_option linter.all false
set_option maxRecDepth 99999
set_option maxHeartbeats 0
open Go.SL

