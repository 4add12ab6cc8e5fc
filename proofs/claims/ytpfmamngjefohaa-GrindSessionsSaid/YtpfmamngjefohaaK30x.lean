import Derived.Test.YtpfmamngjefohaaK9
import Derived.Test.YtpfmamngjefohaaK20x
set_option linter.all false
set_option linter.unusedVariables false
set_option linter.unusedSimpArgs false
set_option linter.unusedSectionVars false
namespace Go.Abs
open Go.Proofs
/-! sequences compared -/
def cmpI (a b : Int) : Int := if a < b then -1 else if b < a then 1 else 0
def cme (p q : List Int) (k : Nat) : Int := cmpI (p.getD k 0) (q.getD k 0)
def cmpL (p q : List Int) : Int := fe (cme p q) p.length
end Go.Abs
namespace Go.Abs
open Go.Proofs
/-! CheckSequence of the reference -/
end Go.Abs
namespace Go.Abs
open Go.Proofs
/-! CheckSequence -/
end Go.Abs
namespace Go.Abs
open Go.Proofs
/-! GrindSequences -/
end Go.Abs
namespace Go.Abs
open Go.Proofs
/-! the best sequence -/
abbrev Pol := Option (List Int × Int)
def GOk (l : List Gr) : Prop := ∀ k, k < l.length → (0 ≤ (l.getD k gr0).dm ∧ (l.getD k gr0).dm ≤ 1000000) ∧ 1 ≤ (l.getD k gr0).rt ∧ (l.getD k gr0).rt ≤ 100000
end Go.Abs
