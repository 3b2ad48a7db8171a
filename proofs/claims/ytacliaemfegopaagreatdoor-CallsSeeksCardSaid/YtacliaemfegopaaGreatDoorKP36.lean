/- Steps. -/
import Derived.Test.YtacliaemfegopaaGreatDoorKP20
import Derived.Deep.QuietTactic
set_option linter.unusedVariables false
set_option linter.unusedSimpArgs false
set_option maxRecDepth 100000
set_option maxHeartbeats 40000000
open Go.Proofs Go.SL

