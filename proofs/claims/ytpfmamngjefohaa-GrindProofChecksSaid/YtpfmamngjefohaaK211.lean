import Derived.Test.YtpfmamngjefohaaK9
import Derived.Test.YtpfmamngjefohaaK4x
import Derived.Test.YtpfmamngjefohaaK30x
import Derived.Test.YtpfmamngjefohaaK52x
import Derived.Test.YtpfmamngjefohaaK210
import Derived.Test.YtpfmamngjefohaaK64
set_option linter.all false
set_option linter.unusedVariables false
set_option linter.unusedSimpArgs false
set_option linter.unusedSectionVars false
namespace Go.Abs
/-! reading lists of numbers -/
theorem rfy_iB {H : List Blk} {id n d : Nat} {own : Bool} {xs : List Int} (h : H[id]? = some (.cells own false 1 (xs.map fun x => [i64 x]))) (hl : xs.length = n) : rfy (hget H) (d + 1) (.lsl id 0 n) = ints false xs := by
  subst hl
  unfold rfy
  rw [hget_some' h]
  dsimp only
  rw [if_pos (by simp), List.drop_zero, List.take_of_length_le (by simp)]
  rw [List.map_map]
  refine congrArg (AV.sl false 1) (List.map_congr_left fun g _ => ?_)
  cases d <;> simp [rfy]
theorem rfy_plain (h : Nat → Blk) {v : AV} (hp : plain v = true) : ∀ d, rfy h d v = v
  | 0 => rfl
  | d + 1 => by
    have ih := rfy_plain h hp d
    rw [rfy_up d v (by rw [ih]; exact hp), ih]
theorem rds_plain {d : Nat} {H : List Blk} {v : AV} (hp : plain v = true) : Rds d H v v := ⟨rfy_plain _ hp d, hp⟩
theorem rL2 {d e : Nat} {H : List Blk} {v w v' w' : AV} (h : Rds d H v w) (h' : Rds e H v' w') (hd6 : d ≤ 6) (he6 : e ≤ 6) : rfyL (hget H) [v, v'] = [w, w'] := by
  simp only [rfyL, List.map_cons, List.map_nil, h.six hd6, h'.six he6]
theorem rL3 {d1 d2 d3 : Nat} {H : List Blk} {v1 v2 v3 w1 w2 w3 : AV} (h1 : Rds d1 H v1 w1) (h2 : Rds d2 H v2 w2) (h3 : Rds d3 H v3 w3) (e1 : d1 ≤ 6) (e2 : d2 ≤ 6) (e3 : d3 ≤ 6) : rfyL (hget H) [v1, v2, v3] = [w1, w2, w3] := by
  simp only [rfyL, List.map_cons, List.map_nil, h1.six e1, h2.six e2, h3.six e3]
end Go.Abs
namespace Go.Abs
open Go.Proofs
/-! Shortest of the reference -/
theorem SB.rds {id i : Nat} {H : List Blk} {b : Bool} {q : List Int} (h : H[i]? = some (.cells b false 1 (q.map fun x => [i64 x]))) : rfy (hget H) 1 (.lsl i 0 q.length) = ints false q := by
  unfold rfy
  rw [hget_some' h]
  dsimp only
  rw [if_pos (by simp), List.drop_zero, List.take_of_length_le (by simp)]
  simp [List.map_map, Function.comp_def, rfy]
end Go.Abs
namespace Go.Abs
open Go.Proofs
/-! GrindShortest: calls with nil -/
end Go.Abs
namespace Go.Abs
open Go.Proofs
/-! GrindShortest -/
end Go.Abs
