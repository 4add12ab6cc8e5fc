/- Proved: GrindPlanChecksSaid: for every input the law speculumlaw04.GrindPlanChecks returns true, and each argument reads afterwards as it read before. No condition. -/
import Derived.Test.YtpfmamngjefohaaK16
import Derived.Test.YtpfmamngjefohaaK340
set_option linter.all false
set_option linter.unusedVariables false
set_option linter.unusedSimpArgs false
set_option linter.unusedSectionVars false
namespace Go.Proofs.Ytpfmamngjefohaa.grindPlanChecks
open Go.ChangeShapes Go.WideShapes Go.ChangeAt Go.RowKit
theorem closed : joinedFacts Try.prog 6 Try.f6 Rows.grindPlanChecksSpec Rows.grindPlanChecksRow = true := by
  unfold joinedFacts
  rw [mayEnter_eq, liftsFinal_eq]
  kernel_rfl
set_option maxRecDepth 100000 in
set_option maxHeartbeats 4000000 in
theorem over : Rows.grindPlanChecksRow.holds Try.pinned (OpenSpec.ofChange Rows.grindPlanChecksSpec) :=
  OpenClaim.holds_of_wide 6 Try.f6 rfl rfl rfl rfl rfl rfl rfl ⟨rfl, rfl, rfl, rfl, rfl⟩ rfl rfl rfl rfl rfl (by kernel_rfl) Try.func6 closed
    (of_decide_eq_true (by kernel_rfl)) (by unfold Func.isWrapper; first | (rw [if_pos (by decide +kernel)]; kernel_rfl) | (rw [if_neg (by decide +kernel)]; exact ⟨rfl, rfl⟩))
    (fun os started H enc _ => lifted os started H enc)
theorem proved : Rows.GrindPlanChecksSaid := over
end Go.Proofs.Ytpfmamngjefohaa.grindPlanChecks
