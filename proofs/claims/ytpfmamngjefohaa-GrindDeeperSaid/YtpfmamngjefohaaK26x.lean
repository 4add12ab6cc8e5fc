import Derived.Test.YtpfmamngjefohaaK9
import Derived.Test.YtpfmamngjefohaaK21x
import Derived.Test.YtpfmamngjefohaaK22x
set_option linter.all false
set_option linter.unusedVariables false
set_option linter.unusedSimpArgs false
set_option linter.unusedSectionVars false
namespace Go.Abs
open Go.Proofs
/-! GrindSequences -/
theorem iR_take (q : List Int) : List.take q.length (q.map fun x => [i64 x]) = q.map fun x => [i64 x] := List.take_of_length_le (by simp)
theorem iR_rfy (h : Nat → Blk) (d : Nat) (q : List Int) : List.map (fun r => List.map (rfy h d) r) (q.map fun x => [i64 x]) = q.map fun x => [i64 x] := by
  rw [List.map_map]
  exact List.map_congr_left fun g _ => by simp only [Function.comp, List.map_cons, List.map_nil, rfyL0]
theorem iR_lids (h : Nat → Blk) (d : Nat) (q : List Int) : (q.map fun x => [i64 x]).flatMap (fun r => r.flatMap (lids h d)) = [] := by
  rw [List.flatMap_eq_nil_iff]
  intro r hr
  obtain ⟨g, _, rfl⟩ := List.mem_map.1 hr
  simp [lids0]
end Go.Abs
