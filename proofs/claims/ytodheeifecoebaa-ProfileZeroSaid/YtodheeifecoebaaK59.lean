import Derived.Test.YtodheeifecoebaaK34
import Derived.Test.YtodheeifecoebaaK40x
import Derived.Test.YtodheeifecoebaaRows
set_option linter.all false
set_option linter.unusedVariables false
set_option linter.unusedSimpArgs false
set_option linter.unusedSectionVars false
namespace Go.Abs
open Go.ChangeShapes Go.WideShapes Go.RowKit Go.Proofs
section
variable {H : Type} {enc : TypeId × Value → H} {w : World} {base : Nat}
end
end Go.Abs
