/- Steps. -/
import Derived.Test.YtdickhgiahcnaaaGreatDoorNP35
import Derived.Sort.AssemblyPlain
import Derived.Deep.QuietTactic
set_option linter.all false
set_option maxRecDepth 99999
set_option maxHeartbeats 0
open Go.SL

