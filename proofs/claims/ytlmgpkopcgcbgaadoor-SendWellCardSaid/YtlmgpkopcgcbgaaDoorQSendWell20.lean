/- What the proof needs, part 20: The reference's numbers. -/
import Derived.Test.YtlmgpkopcgcbgaaDoorQSendWell10
import Derived.Test.YtlmgpkopcgcbgaaDoorQSendWell11
import Derived.Lib.AtoiAll
/- The reference's numbers. -/
namespace Go.Abs.F
open Go Go.Abs
set_option maxRecDepth 10000
set_option maxHeartbeats 20000000
set_option linter.unusedSimpArgs false
set_option linter.unusedVariables false
variable {w0 : World}
/-! numbers read back -/
end Go.Abs.F
