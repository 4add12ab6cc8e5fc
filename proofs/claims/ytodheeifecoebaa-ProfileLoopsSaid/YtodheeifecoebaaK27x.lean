import Derived.Test.YtodheeifecoebaaK25x
import Derived.Test.YtodheeifecoebaaK24x
set_option linter.all false
set_option linter.unusedVariables false
set_option linter.unusedSimpArgs false
set_option linter.unusedSectionVars false
namespace Go.Abs
open Go.Proofs
/-! a function value is asked of one number after the other -/
end Go.Abs
