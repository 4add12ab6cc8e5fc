import Derived.Test.YtpfmamngjefohaaPCmin
set_option linter.all false
set_option linter.unusedVariables false
set_option linter.unusedSimpArgs false
set_option linter.unusedSectionVars false
namespace Go.Abs
open Go.Proofs
theorem r13 : rcall Try.prog muts noPrim noIters 3000 13 [] [] = some (bl true, []) := by kernel_rfl
theorem k13 : Fn Try.prog 13 [] (bl true) [] := rcall_ok (noPrim_ok _) (noIters_ok _) r13
end Go.Abs
