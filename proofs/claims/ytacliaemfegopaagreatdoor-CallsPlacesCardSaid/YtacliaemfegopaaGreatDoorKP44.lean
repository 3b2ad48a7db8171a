/- Steps. -/
import Derived.Test.YtacliaemfegopaaGreatDoorKP42
import Derived.Test.YtacliaemfegopaaGreatDoorKP43
import Derived.Sort.Walk13a
set_option linter.all false
set_option maxRecDepth 99999
set_option maxHeartbeats 0
open Go.SL

