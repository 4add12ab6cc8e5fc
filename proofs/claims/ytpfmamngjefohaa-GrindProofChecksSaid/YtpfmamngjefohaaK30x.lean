import Derived.Test.YtpfmamngjefohaaK9
import Derived.Test.YtpfmamngjefohaaK20x
set_option linter.all false
set_option linter.unusedVariables false
set_option linter.unusedSimpArgs false
set_option linter.unusedSectionVars false
namespace Go.Abs
open Go.Proofs
/-! sequences compared -/
def cmpI (a b : Int) : Int := if a < b then -1 else if b < a then 1 else 0
def cme (p q : List Int) (k : Nat) : Int := cmpI (p.getD k 0) (q.getD k 0)
def cmpL (p q : List Int) : Int := fe (cme p q) p.length
end Go.Abs
namespace Go.Abs
open Go.Proofs
/-! CheckSequence of the reference -/
end Go.Abs
namespace Go.Abs
open Go.Proofs
/-! CheckSequence -/
end Go.Abs
namespace Go.Abs
open Go.Proofs
/-! GrindSequences -/
end Go.Abs
namespace Go.Abs
open Go.Proofs
/-! the best sequence -/
abbrev Pol := Option (List Int × Int)
def GOk (l : List Gr) : Prop := ∀ k, k < l.length → (0 ≤ (l.getD k gr0).dm ∧ (l.getD k gr0).dm ≤ 1000000) ∧ 1 ≤ (l.getD k gr0).rt ∧ (l.getD k gr0).rt ≤ 100000
end Go.Abs
namespace Go.Abs
open Go.Proofs
/-! best: one round -/
/- a grit that is too coarse -/
end Go.Abs
namespace Go.Abs
open Go.Proofs
end Go.Abs
namespace Go.Abs
open Go.Proofs
end Go.Abs
namespace Go.Abs
open Go.Proofs
end Go.Abs
namespace Go.Abs
open Go.Proofs
/-! best -/
end Go.Abs
namespace Go.Abs
open Go.Proofs
/-! Shortest -/
end Go.Abs
namespace Go.Abs
open Go.Proofs
/-! Shortest, without the sequence -/
end Go.Abs
namespace Go.Abs
open Go.Proofs
/-! before of the reference; equal lists -/
theorem cmpI_lt {a b : Int} : decide (cmpI a b < 0) = decide (a < b) := by
  unfold cmpI
  by_cases h : a < b
  · rw [if_pos h]; simp [h]
  · rw [if_neg h]
    by_cases h2 : b < a
    · rw [if_pos h2]; simp [h]
    · rw [if_neg h2]; simp [h]
theorem cmpI_zero {a b : Int} : cmpI a b = 0 ↔ a = b := by
  unfold cmpI
  by_cases h : a < b
  · rw [if_pos h]; simp; omega
  · rw [if_neg h]
    by_cases h2 : b < a
    · rw [if_pos h2]; simp; omega
    · rw [if_neg h2]; simp; omega
end Go.Abs
