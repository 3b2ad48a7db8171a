/- Steps. -/
import Derived.Test.YtacliaemfegopaaGreatDoorKP42
import Derived.Test.YtacliaemfegopaaGreatDoorKP43
import Derived.Sort.Walk13a
set_option linter.unusedVariables false
set_option linter.unusedSimpArgs false
set_option maxRecDepth 100000
set_option maxHeartbeats 40000000
open Go.Proofs Go.SL

