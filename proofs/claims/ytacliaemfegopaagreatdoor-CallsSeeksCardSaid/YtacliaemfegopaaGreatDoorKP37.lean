/- Steps. -/
import Derived.Test.YtacliaemfegopaaGreatDoorKP19
import Derived.Test.YtacliaemfegopaaGreatDoorKP9
import Derived.BigQuiet
import Derived.Deep.QuietTactic
import Derived.Deep.DeepCutAuto
import Derived.Deep.CutBlock
import Derived.Deep.CutRange
set_option linter.unusedVariables false
set_option linter.unusedSimpArgs false
set_option maxRecDepth 100000
set_option maxHeartbeats 40000000
open Go.Proofs Go.SL

