import Derived.Test.YtpfmamngjefohaaK15
set_option linter.all false
set_option linter.unusedVariables false
set_option linter.unusedSimpArgs false
set_option linter.unusedSectionVars false
namespace Go.Proofs.Ytpfmamngjefohaa
open Go.ChangeShapes Go.WideShapes Go.ChangeAt Go.RowKit
theorem mayEnter_eq : Program.mayEnter Try.prog = true := by
  unfold Program.mayEnter
  rw [order_list]
  kernel_rfl
theorem liftsFinal_eq : Program.liftsFinal Try.prog = false := by
  unfold Program.liftsFinal Program.headLifts
  rw [order_list]
  kernel_rfl
end Go.Proofs.Ytpfmamngjefohaa
