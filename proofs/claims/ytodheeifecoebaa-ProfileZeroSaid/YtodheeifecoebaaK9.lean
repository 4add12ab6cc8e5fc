import Derived.Test.YtodheeifecoebaaK8
set_option linter.all false
set_option linter.unusedVariables false
set_option linter.unusedSimpArgs false
set_option linter.unusedSectionVars false
namespace Go.Abs
open Go.Proofs
theorem r19 : rcall Try.prog muts noPrim itA 3000 19 [] [] = some (bl true, []) := by kernel_rfl
theorem k19 : Fn Try.prog 19 [] (bl true) [] := rcall_ok (noPrim_ok _) itA_ok r19
end Go.Abs
