/- Steps. -/
import Derived.Test.YtebfaobobccikaaGreatDoorSP43
import Derived.Test.YtebfaobobccikaaGreatDoorSP44
import Derived.Sort.Walk13a
set_option linter.all false
set_option maxRecDepth 99999
set_option maxHeartbeats 0
open Go.SL

