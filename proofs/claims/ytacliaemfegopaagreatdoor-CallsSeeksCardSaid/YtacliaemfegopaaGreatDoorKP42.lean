/- Steps. -/
import Derived.Test.YtacliaemfegopaaGreatDoorKP35
import Derived.Test.YtacliaemfegopaaGreatDoorKP15
import Derived.Sort.Walk7
set_option linter.unusedVariables false
set_option linter.unusedSimpArgs false
set_option maxRecDepth 100000
set_option maxHeartbeats 40000000
open Go.Proofs Go.SL

