import Derived.Test.YtpfmamngjefohaaK30x
import Derived.Test.YtpfmamngjefohaaK51
set_option linter.all false
set_option linter.unusedVariables false
set_option linter.unusedSimpArgs false
set_option linter.unusedSectionVars false
namespace Go.Abs
open Go.Proofs
/-! try: the look at a sequence that is there -/
end Go.Abs
namespace Go.Abs
open Go.Proofs
/-! try: the look where there is one already -/
end Go.Abs
namespace Go.Abs
open Go.Proofs
/-! try: the look where there is one already -/
end Go.Abs
namespace Go.Abs
open Go.Proofs
/-! try: the look, all cases -/
end Go.Abs
namespace Go.Abs
open Go.Proofs
/-! try: one round -/
end Go.Abs
namespace Go.Abs
open Go.Proofs
/-! try -/
end Go.Abs
namespace Go.Abs
open Go.Proofs
/-! try, by induction on the depth -/
theorem SB.lt {id : Nat} {o : Pol} {H : List Blk} (h : SB id o H) : id < H.length := by
  cases o with
  | none => exact (List.getElem?_eq_some_iff.1 h).1
  | some x => obtain ⟨_, _, h1, _⟩ := h; exact (List.getElem?_eq_some_iff.1 h1).1
end Go.Abs
namespace Go.Abs
open Go.Proofs
/-! try: the first call, whose sequence is nil -/
end Go.Abs
namespace Go.Abs
open Go.Proofs
/-! try: a round of the first call -/
end Go.Abs
namespace Go.Abs
open Go.Proofs
/-! try: the first call -/
end Go.Abs
