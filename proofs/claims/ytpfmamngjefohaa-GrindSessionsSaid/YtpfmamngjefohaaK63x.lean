import Derived.Test.YtpfmamngjefohaaK9
import Derived.Test.YtpfmamngjefohaaK4x
import Derived.Test.YtpfmamngjefohaaK30x
import Derived.Test.YtpfmamngjefohaaK58
import Derived.Test.YtpfmamngjefohaaK210
import Derived.Test.YtpfmamngjefohaaK211
import Derived.Test.YtpfmamngjefohaaK32x
import Derived.Test.YtpfmamngjefohaaK64
set_option linter.all false
set_option linter.unusedVariables false
set_option linter.unusedSimpArgs false
set_option linter.unusedSectionVars false
namespace Go.Abs
open Go.Proofs
/-! Shortest of the reference -/
theorem SB.rds {id i : Nat} {H : List Blk} {b : Bool} {q : List Int} (h : H[i]? = some (.cells b false 1 (q.map fun x => [i64 x]))) : rfy (hget H) 1 (.lsl i 0 q.length) = ints false q := by
  unfold rfy
  rw [hget_some' h]
  dsimp only
  rw [if_pos (by simp), List.drop_zero, List.take_of_length_le (by simp)]
  simp [List.map_map, Function.comp_def, rfy]
end Go.Abs
namespace Go.Abs
open Go.Proofs
/-! GrindShortest: calls with nil -/
end Go.Abs
namespace Go.Abs
open Go.Proofs
/-! GrindShortest -/
end Go.Abs
