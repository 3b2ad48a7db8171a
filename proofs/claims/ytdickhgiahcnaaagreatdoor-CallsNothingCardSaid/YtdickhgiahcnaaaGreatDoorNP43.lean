/- Steps. -/
import Derived.Test.YtdickhgiahcnaaaGreatDoorNP36
import Derived.Test.YtdickhgiahcnaaaGreatDoorNP15
import Derived.Sort.Walk7
set_option linter.all false
set_option maxRecDepth 99999
set_option maxHeartbeats 0
open Go.SL

