import Derived.Test.YtdedhipkncagjaaRows
import Derived.WalkKit
import Derived.ProofKit
set_option linter.all false
set_option linter.unusedVariables false
set_option linter.unusedSimpArgs false
set_option linter.unusedSectionVars false
namespace Go.Proofs.Ytdedhipkncagjaa
open Go.ChangeShapes Go.WideShapes Go.ChangeAt Go.RowKit
def signs : List Nat := [104, 97, 114, 110, 101, 115, 115, 32, 50, 54, 50, 48, 49, 100, 97, 98, 53, 50, 97, 50, 51, 49, 53, 48, 100, 51, 49, 55, 49, 48, 98, 101, 52, 48, 100, 97, 54, 55, 97, 55, 54, 99, 100, 49, 101, 49, 48, 98, 101, 50, 99, 56, 53, 53, 55, 48, 56, 98, 54, 101, 50, 97, 101, 101, 102, 98, 48, 50, 49, 98, 97, 53, 32, 99, 117, 116, 32, 97, 116, 32, 115, 112, 101, 99, 117, 108, 117, 109, 47, 115, 112, 101, 99, 117, 108, 117, 109, 116, 111, 112, 46, 84, 111, 112, 84, 104, 114, 101, 101, 65, 110, 115, 119, 101, 114, 115, 32, 115, 112, 101, 99, 117, 108, 117, 109, 47, 115, 112, 101, 99, 117, 108, 117, 109, 116, 111, 112, 46, 84, 111, 112, 78, 101, 118, 101, 114, 68, 105, 103, 115]
theorem order_eq : Try.prog.initOrder = String.ofList (signs.map Char.ofNat) := by kernel_rfl
theorem order_list : Try.prog.initOrder.toList = signs.map Char.ofNat := by rw [order_eq, String.toList_ofList]
end Go.Proofs.Ytdedhipkncagjaa
namespace Go.Proofs.Ytdedhipkncagjaa
open Go.ChangeShapes Go.WideShapes Go.ChangeAt Go.RowKit
theorem mayEnter_eq : Program.mayEnter Try.prog = true := by
  unfold Program.mayEnter
  rw [order_list]
  kernel_rfl
theorem liftsFinal_eq : Program.liftsFinal Try.prog = false := by
  unfold Program.liftsFinal Program.headLifts
  rw [order_list]
  kernel_rfl
end Go.Proofs.Ytdedhipkncagjaa
