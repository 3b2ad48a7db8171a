/- Steps. -/
import Derived.Test.YtebfaobobccikaaGreatDoorLP34
import Derived.Test.YtebfaobobccikaaGreatDoorLP15
import Derived.Sort.Walk7
set_option linter.all false
set_option maxRecDepth 99999
set_option maxHeartbeats 0
open Go.SL

