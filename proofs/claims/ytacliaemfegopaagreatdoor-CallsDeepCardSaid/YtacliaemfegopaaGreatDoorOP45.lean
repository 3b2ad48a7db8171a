/- Steps. -/
import Derived.Test.YtacliaemfegopaaGreatDoorOP43
import Derived.Test.YtacliaemfegopaaGreatDoorOP44
import Derived.Sort.Walk13a
set_option linter.all false
set_option maxRecDepth 99999
set_option maxHeartbeats 0
open Go.SL

