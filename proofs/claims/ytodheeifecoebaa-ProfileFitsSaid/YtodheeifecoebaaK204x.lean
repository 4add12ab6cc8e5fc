import Derived.Test.YtodheeifecoebaaK203x
set_option linter.all false
set_option linter.unusedVariables false
set_option linter.unusedSimpArgs false
set_option linter.unusedSectionVars false
namespace Go.Abs
open Go.Proofs
/-! lists of fractions -/
def pl (f : Nat → Int × Int) (k : Nat) : List (Int × Int) := (List.range k).map f
/-! the specification's rest and mirror -/
end Go.Abs
