import Derived.Test.YtodheeifecoebaaK204x
set_option linter.all false
set_option linter.unusedVariables false
set_option linter.unusedSimpArgs false
set_option linter.unusedSectionVars false
namespace Go.Abs
open Go.Proofs
/-! split: the rest and the mirror's part -/
theorem set_ints (xs : List Int) (i : Nat) (v : Int) : (xs.map fun x => [i64 x]).set i [i64 v] = (xs.set i v).map fun x => [i64 x] := by rw [List.map_set]
abbrev iB (xs : List Int) : Blk := .cells true false 1 (xs.map fun x => [i64 x])
section
variable {n s : Nat} {nil : Bool} {rows : List (Bool × List Int)}
end
end Go.Abs
