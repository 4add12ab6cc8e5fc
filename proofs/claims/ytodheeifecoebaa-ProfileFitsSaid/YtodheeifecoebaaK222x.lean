import Derived.Test.YtodheeifecoebaaK221x
set_option linter.all false
set_option linter.unusedVariables false
set_option linter.unusedSimpArgs false
set_option linter.unusedSectionVars false
namespace Go.Abs
open Go.Proofs
/-! Misfit of both sides -/
section
variable {n s : Nat} {nil : Bool} {rows : List (Bool × List Int)}
end
end Go.Abs
