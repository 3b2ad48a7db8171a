/- Steps. -/
import Derived.Test.YtdickhgiahcnaaaGreatDoorNP36
import Derived.Deep.DeepCutAuto
import Derived.Deep.CutBlock
import Derived.Deep.CutRange
set_option linter.all false
set_option maxRecDepth 99999
set_option maxHeartbeats 0
open Go.SL

