import Derived.Test.YtodheeifecoebaaAbs21
set_option linter.all false
set_option linter.unusedVariables false
set_option linter.unusedSimpArgs false
set_option linter.unusedSectionVars false
namespace Go.Abs
/-! sums, and lists told by a function of their numbers: nothing of the program here -/
def mk (n : Nat) (f : Nat → Int) : List Int := (List.range n).map f
/-! turned maps: V t i is what turn t shows at sector i; s sectors a turn -/
end Go.Abs
