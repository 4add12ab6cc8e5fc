/- GrindShortest: for every list of grits and every pair of depths, the statement GrindShortest returns true: Shortest returns the sequence with the fewest minutes that the reference finds by trying all, or the same error, and CheckSequence accepts it with its minutes. No condition: it holds for every input of the row. -/
import Derived.Test.YtpfmamngjefohaaK15
import Derived.Test.YtpfmamngjefohaaK25
set_option linter.all false
set_option linter.unusedVariables false
set_option linter.unusedSimpArgs false
set_option linter.unusedSectionVars false
namespace Go.Proofs.Ytpfmamngjefohaa.grindShortest
open Go.ChangeShapes Go.WideShapes Go.ChangeAt Go.RowKit
theorem closed : joinedFacts Try.prog 10 Try.f10 Rows.grindShortestSpec Rows.grindShortestRow = true := by
  unfold joinedFacts
  rw [mayEnter_eq, liftsFinal_eq]
  kernel_rfl
set_option maxRecDepth 100000 in
set_option maxHeartbeats 4000000 in
theorem over : Rows.grindShortestRow.holds Try.pinned (OpenSpec.ofChange Rows.grindShortestSpec) :=
  OpenClaim.holds_of_wide 10 Try.f10 rfl rfl rfl rfl rfl rfl rfl ⟨rfl, rfl, rfl, rfl, rfl⟩ rfl rfl rfl rfl rfl (by kernel_rfl) Try.func10 closed
    (of_decide_eq_true (by kernel_rfl)) (by unfold Func.isWrapper; first | (rw [if_pos (by decide +kernel)]; kernel_rfl) | (rw [if_neg (by decide +kernel)]; exact ⟨rfl, rfl⟩))
    (fun os started H enc _ => lifted os started H enc)
theorem proved : Rows.GrindShortestSaid := over
end Go.Proofs.Ytpfmamngjefohaa.grindShortest
