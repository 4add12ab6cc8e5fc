import Derived.Test.YtpfmamngjefohaaK37x
set_option linter.all false
set_option linter.unusedVariables false
set_option linter.unusedSimpArgs false
set_option linter.unusedSectionVars false
namespace Go.Abs
open Go.Proofs
/-! Shortest, without the sequence -/
end Go.Abs
