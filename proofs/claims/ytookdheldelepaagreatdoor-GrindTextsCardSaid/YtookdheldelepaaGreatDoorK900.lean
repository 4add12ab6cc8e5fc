import Derived.Test.YtookdheldelepaaGreatDoorPCmin
set_option linter.all false
set_option linter.unusedVariables false
set_option linter.unusedSimpArgs false
set_option linter.unusedSectionVars false
namespace Go.Abs
open Go.Proofs
set_option maxRecDepth 100000 in
theorem r5 : rcall Tryz.prog muts noPrim noIters 3000 5 [] [] = some (bl true, []) := by kernel_rfl
theorem k5 : Fn Tryz.prog 5 [] (bl true) [] := rcall_ok (noPrim_ok _) (noIters_ok _) r5
end Go.Abs
