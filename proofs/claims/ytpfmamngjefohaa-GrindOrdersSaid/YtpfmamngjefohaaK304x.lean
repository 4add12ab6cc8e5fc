import Derived.Test.YtpfmamngjefohaaKO2
import Derived.Test.YtpfmamngjefohaaK303x
set_option linter.all false
set_option linter.unusedVariables false
set_option linter.unusedSimpArgs false
set_option linter.unusedSectionVars false
namespace Go.Abs
open Go.Proofs
/-! CheckStrokes of the reference -/
end Go.Abs
