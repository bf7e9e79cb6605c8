/- What the proof needs, part 22: Layer 7: a session that is none. -/
import Derived.Test.YtlmgpkopcgcbgaaDoorQSendWell17
import Derived.Test.YtlmgpkopcgcbgaaDoorQSendWell18
import Derived.Shelf.Vars
import Derived.Test.YtlmgpkopcgcbgaaDoorRows
/- Layer 7: a session that is none. -/
namespace Go.Abs.F
open Go Go.Abs
set_option maxRecDepth 10000
set_option maxHeartbeats 20000000
set_option linter.unusedSimpArgs false
set_option linter.unusedVariables false
variable {w0 : World}
theorem maxLen_of {W : World} (h : W.ShapedOpen P) : MaxLen W :=
  Go.Proofs.cell_of_shapedOpen_int (zero := #[.int .i64 0]) (t := 3) h (by decide +kernel) (by kernel_rfl) (by kernel_rfl) (by kernel_rfl) (by kernel_rfl) (by kernel_rfl)
end Go.Abs.F
