/- Steps. -/
import Derived.Test.YtacliaemfegopaaGreatDoorKP35
import Derived.Test.YtacliaemfegopaaGreatDoorKP15
import Derived.Sort.Walk7
set_option linter.all false
set_option maxRecDepth 99999
set_option maxHeartbeats 0
open Go.SL

