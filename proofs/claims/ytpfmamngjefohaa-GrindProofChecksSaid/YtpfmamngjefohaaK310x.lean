import Derived.Test.YtpfmamngjefohaaK309x
set_option linter.all false
set_option linter.unusedVariables false
set_option linter.unusedSimpArgs false
set_option linter.unusedSectionVars false
namespace Go.Abs
open Go.Proofs
/-! sessions -/
structure Ss where
  mi : ByteArray
  st : ByteArray
  mn : Int
def ss0 : Ss := ⟨⟨#[]⟩, ⟨#[]⟩, 0⟩
/-! the limits, the copy -/
end Go.Abs
namespace Go.Abs
open Go.Proofs
/-! sessions: the closures, CheckSessions of the reference -/
end Go.Abs
