/- The laws of layer 8: block, fresh, writes: the walks. -/
import Derived.Test.YtlfooilcngjeiaaGreatHk
namespace Go.Proofs.YtlfooilcngjeiaaGreat
set_option linter.unusedVariables false
set_option linter.unusedSimpArgs false
open Go.RowKit Go.SL
end Go.Proofs.YtlfooilcngjeiaaGreat
