import Derived.Test.YtpfmamngjefohaaRows
import Derived.WalkKit
import Derived.ProofKit
set_option linter.all false
set_option linter.unusedVariables false
set_option linter.unusedSimpArgs false
set_option linter.unusedSectionVars false
namespace Go.Proofs.Ytpfmamngjefohaa
open Go.ChangeShapes Go.WideShapes Go.ChangeAt Go.RowKit
def signs : List Nat := [104, 97, 114, 110, 101, 115, 115, 32, 49, 53, 50, 102, 53, 100, 50, 53, 52, 57, 51, 102, 49, 100, 54, 56, 57, 55, 102, 54, 101, 100, 101, 97, 101, 99, 100, 101, 48, 49, 55, 100, 51, 51, 49, 55, 102, 51, 51, 101, 99, 100, 51, 55, 55, 52, 55, 97, 49, 98, 49, 48, 57, 50, 97, 97, 48, 52, 99, 102, 98, 54, 48, 55, 32, 99, 117, 116, 32, 97, 116, 32, 115, 112, 101, 99, 117, 108, 117, 109, 47, 115, 112, 101, 99, 117, 108, 117, 109, 108, 97, 119, 48, 52, 46, 71, 114, 105, 110, 100, 68, 101, 101, 112, 101, 114, 32, 115, 112, 101, 99, 117, 108, 117, 109, 47, 115, 112, 101, 99, 117, 108, 117, 109, 108, 97, 119, 48, 52, 46, 71, 114, 105, 110, 100, 67, 111, 109, 112, 97, 114, 101, 115, 32, 115, 112, 101, 99, 117, 108, 117, 109, 47, 115, 112, 101, 99, 117, 108, 117, 109, 108, 97, 119, 48, 52, 46, 71, 114, 105, 110, 100, 83, 101, 115, 115, 105, 111, 110, 115, 32, 115, 112, 101, 99, 117, 108, 117, 109, 47, 115, 112, 101, 99, 117, 108, 117, 109, 108, 97, 119, 48, 52, 46, 71, 114, 105, 110, 100, 80, 108, 97, 110, 67, 104, 101, 99, 107, 115, 32, 115, 112, 101, 99, 117, 108, 117, 109, 47, 115, 112, 101, 99, 117, 108, 117, 109, 108, 97, 119, 48, 52, 46, 71, 114, 105, 110, 100, 71, 114, 105, 116, 115, 32, 115, 112, 101, 99, 117, 108, 117, 109, 47, 115, 112, 101, 99, 117, 108, 117, 109, 108, 97, 119, 48, 52, 46, 71, 114, 105, 110, 100, 80, 114, 111, 111, 102, 67, 104, 101, 99, 107, 115, 32, 115, 112, 101, 99, 117, 108, 117, 109, 47, 115, 112, 101, 99, 117, 108, 117, 109, 108, 97, 119, 48, 52, 46, 71, 114, 105, 110, 100, 83, 101, 113, 117, 101, 110, 99, 101, 115, 32, 115, 112, 101, 99, 117, 108, 117, 109, 47, 115, 112, 101, 99, 117, 108, 117, 109, 108, 97, 119, 48, 52, 46, 71, 114, 105, 110, 100, 83, 104, 111, 114, 116, 101, 115, 116, 32, 115, 112, 101, 99, 117, 108, 117, 109, 47, 115, 112, 101, 99, 117, 108, 117, 109, 108, 97, 119, 48, 52, 46, 71, 114, 105, 110, 100, 65, 100, 100, 115, 32, 115, 112, 101, 99, 117, 108, 117, 109, 47, 115, 112, 101, 99, 117, 108, 117, 109, 108, 97, 119, 48, 52, 46, 71, 114, 105, 110, 100, 79, 114, 100, 101, 114, 115]
theorem order_eq : Try.prog.initOrder = String.ofList (signs.map Char.ofNat) := by kernel_rfl
theorem order_list : Try.prog.initOrder.toList = signs.map Char.ofNat := by rw [order_eq, String.toList_ofList]
end Go.Proofs.Ytpfmamngjefohaa
namespace Go.Proofs.Ytpfmamngjefohaa
open Go.ChangeShapes Go.WideShapes Go.ChangeAt Go.RowKit
theorem mayEnter_eq : Program.mayEnter Try.prog = true := by
  unfold Program.mayEnter
  rw [order_list]
  kernel_rfl
theorem liftsFinal_eq : Program.liftsFinal Try.prog = false := by
  unfold Program.liftsFinal Program.headLifts
  rw [order_list]
  kernel_rfl
end Go.Proofs.Ytpfmamngjefohaa
