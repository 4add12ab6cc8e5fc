import Derived.Test.YtpfmamngjefohaaK30x
set_option linter.all false
set_option linter.unusedVariables false
set_option linter.unusedSimpArgs false
set_option linter.unusedSectionVars false
namespace Go.Abs
open Go.Proofs
/-! best: one round -/
/- a grit that is too coarse -/
end Go.Abs
namespace Go.Abs
open Go.Proofs
end Go.Abs
namespace Go.Abs
open Go.Proofs
end Go.Abs
namespace Go.Abs
open Go.Proofs
end Go.Abs
namespace Go.Abs
open Go.Proofs
/-! best -/
end Go.Abs
namespace Go.Abs
open Go.Proofs
/-! Shortest -/
end Go.Abs
namespace Go.Abs
open Go.Proofs
/-! Shortest, without the sequence -/
end Go.Abs
