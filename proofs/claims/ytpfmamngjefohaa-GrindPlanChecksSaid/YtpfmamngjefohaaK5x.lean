import Derived.Test.YtpfmamngjefohaaK9
import Derived.Test.YtpfmamngjefohaaK4x
import Derived.Test.YtpfmamngjefohaaK6x
import Derived.Test.YtpfmamngjefohaaKO1
import Derived.Test.YtpfmamngjefohaaRows
set_option linter.all false
set_option linter.unusedVariables false
set_option linter.unusedSimpArgs false
set_option linter.unusedSectionVars false
namespace Go.Abs
open Go.Proofs
/-! CheckGrits of the reference -/
end Go.Abs
namespace Go.Abs
open Go.Proofs
/-! the program's CheckGrits -/
structure J45 (l : List Gr) (k : Nat) (H : List Blk) : Prop where
  m : ∃ es, H[0]? = some (.obj (.smap .str es)) ∧ Seen (fun b => ∃ j, j < k ∧ eqT (l.getD j gr0).nm b = true) es
end Go.Abs
namespace Go.Abs
open Go.Proofs
end Go.Abs
namespace Go.Abs
open Go.Proofs
/-! StepMinutes; law 7 -/
theorem rfyL0 (h : Nat → Blk) (d : Nat) (x : Value) : rfy h d (.lit x) = .lit x := by cases d <;> rfl
end Go.Abs
namespace Go.Abs
open Go.Proofs
/-! GrindGrits -/
end Go.Abs
namespace Go.Abs
open Go.ChangeShapes Go.WideShapes Go.RowKit
/-! opening structs -/
section
variable {H : Type} {enc : TypeId × Value → H} {P : Program} {w : World} {base : Nat}
end
end Go.Abs
namespace Go.Abs
open Go.ChangeShapes Go.WideShapes Go.RowKit Go.Proofs
/-! grits opened -/
section
variable {H : Type} {enc : TypeId × Value → H} {w : World} {base : Nat}
theorem cells3' : Try.prog.cellsOf 3 = 1 := by kernel_rfl
theorem cells9' : Try.prog.cellsOf 9 = 1 := by kernel_rfl
end
end Go.Abs
