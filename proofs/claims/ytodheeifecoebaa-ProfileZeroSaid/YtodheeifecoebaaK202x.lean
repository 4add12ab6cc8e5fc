import Derived.Test.YtodheeifecoebaaK201
import Derived.Test.YtodheeifecoebaaPCmin
import Derived.Test.YtodheeifecoebaaK1x
set_option linter.all false
set_option linter.unusedVariables false
set_option linter.unusedSimpArgs false
set_option linter.unusedSectionVars false
namespace Go.Abs
open Go.Proofs
/-! turned maps in memory; the specification's sums; the greatest common divisor; fractions in lowest terms -/
abbrev rws (rows : List (Bool × List Int)) : List (List AV) := rows.map fun r => [ints r.1 r.2]
abbrev tmV (S : Int) (nil : Bool) (rows : List (Bool × List Int)) : AV := .agg [i64 S, .sl nil 1 (rows.map fun r => [ints r.1 r.2])]
def rowN (rows : List (Bool × List Int)) (t : Nat) : Bool × List Int := rows.getD t (true, [])
def V (rows : List (Bool × List Int)) (t i : Nat) : Int := (rowN rows t).2.getD i 0
theorem rws_get {rows : List (Bool × List Int)} {t : Nat} (h : t < rows.length) : (rows.map fun r => [ints r.1 r.2]).getD t [] = [ints (rowN rows t).1 (rowN rows t).2] := by
  simp [rowN, List.getD_eq_getElem?_getD, h]
theorem plain_rws (rows : List (Bool × List Int)) : plainR (rows.map fun r => [ints r.1 r.2]) = true := plainR_map _ (fun r => by simp [plainL]) rows
theorem renR_rws (ρ : Nat → Option Nat) (rows : List (Bool × List Int)) : renR ρ (rows.map fun r => [ints r.1 r.2]) = rows.map fun r => [ints r.1 r.2] := renR_plain ρ _ (plain_rws rows)
theorem plain_tm (S : Int) (nil : Bool) (rows : List (Bool × List Int)) : plainL [tmV S nil rows] = true := by simp only [plainL, plain, plain_rws]; rfl
end Go.Abs
