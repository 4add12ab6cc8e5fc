import Derived.Test.YtodheeifecoebaaK1x
import Derived.Test.YtodheeifecoebaaK20x
set_option linter.all false
set_option linter.unusedVariables false
set_option linter.unusedSimpArgs false
set_option linter.unusedSectionVars false
namespace Go.Abs
open Go.Proofs
/-! readings and arcs -/
structure Rd where
  a : Int
  b : Int
  lo : Int
  hi : Int
structure Ar where
  f : Int
  t : Int
  len : Int
  sg : Int
abbrev rrow (r : Rd) : List AV := [i64 r.a, i64 r.b, i64 r.lo, i64 r.hi]
abbrev arow (r : Ar) : List AV := [i64 r.f, i64 r.t, i64 r.len, i64 r.sg]
def rows4 (l : List Rd) : List (List AV) := l.map rrow
def arows (l : List Ar) : List (List AV) := l.map arow
@[simp] theorem plainR_rows4 (l : List Rd) : plainR (rows4 l) = true := plainR_map _ (fun _ => rfl) l
@[simp] theorem plainR_arows (l : List Ar) : plainR (arows l) = true := plainR_map _ (fun _ => rfl) l
end Go.Abs
