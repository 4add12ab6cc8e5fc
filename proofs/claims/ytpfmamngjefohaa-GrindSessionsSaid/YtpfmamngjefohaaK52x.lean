import Derived.Test.YtpfmamngjefohaaK30x
import Derived.Test.YtpfmamngjefohaaK51
set_option linter.all false
set_option linter.unusedVariables false
set_option linter.unusedSimpArgs false
set_option linter.unusedSectionVars false
namespace Go.Abs
open Go.Proofs
/-! try: the look at a sequence that is there -/
end Go.Abs
namespace Go.Abs
open Go.Proofs
/-! try: the look where there is one already -/
end Go.Abs
namespace Go.Abs
open Go.Proofs
/-! try: the look where there is one already -/
end Go.Abs
namespace Go.Abs
open Go.Proofs
/-! try: the look, all cases -/
end Go.Abs
namespace Go.Abs
open Go.Proofs
/-! try: one round -/
end Go.Abs
namespace Go.Abs
open Go.Proofs
/-! try -/
end Go.Abs
