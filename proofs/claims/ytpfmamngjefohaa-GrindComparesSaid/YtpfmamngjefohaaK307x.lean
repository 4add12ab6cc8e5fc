import Derived.Test.YtpfmamngjefohaaK306x
set_option linter.all false
set_option linter.unusedVariables false
set_option linter.unusedSimpArgs false
set_option linter.unusedSectionVars false
namespace Go.Abs
open Go.Proofs
/-! find -/
end Go.Abs
