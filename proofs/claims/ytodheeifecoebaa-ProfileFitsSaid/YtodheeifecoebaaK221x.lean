import Derived.Test.YtodheeifecoebaaK210
import Derived.Test.YtodheeifecoebaaK209x
set_option linter.all false
set_option linter.unusedVariables false
set_option linter.unusedSimpArgs false
set_option linter.unusedSectionVars false
namespace Go.Abs
open Go.Proofs
/-! MirrorPart, RestPart; lists of fractions compared -/
/-! errors are handed on -/
section
variable {S e : Int} {b : Bool} {n : Nat} {E : List (List AV)}
end
/-! what a valid set of maps is -/
structure TmOk (n s : Nat) (rows : List (Bool × List Int)) : Prop where
  hk : 1 ≤ rows.length ∧ rows.length ≤ 12
  hn : rows.length * s = n
  hn2 : 1 ≤ n ∧ n ≤ 24
  hr : ∀ t, t < rows.length → (rowN rows t).2.length = n
  hb : ∀ t i, t < rows.length → i < n → -100000 ≤ V rows t i ∧ V rows t i ≤ 100000
section
variable {n s : Nat} {nil : Bool} {rows : List (Bool × List Int)}
end
end Go.Abs
