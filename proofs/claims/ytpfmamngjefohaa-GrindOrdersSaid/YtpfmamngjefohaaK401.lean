/- Proved: GrindOrdersSaid: for every input the law speculumlaw04.GrindOrders returns true, and each argument reads afterwards as it read before. No condition. -/
import Derived.Test.YtpfmamngjefohaaK15
import Derived.Test.YtpfmamngjefohaaK399
set_option linter.all false
set_option linter.unusedVariables false
set_option linter.unusedSimpArgs false
set_option linter.unusedSectionVars false
namespace Go.Proofs.Ytpfmamngjefohaa.grindOrders
open Go.ChangeShapes Go.WideShapes Go.ChangeAt Go.RowKit
theorem closed : joinedFacts Try.prog 12 Try.f12 Rows.grindOrdersSpec Rows.grindOrdersRow = true := by
  unfold joinedFacts
  rw [mayEnter_eq, liftsFinal_eq]
  kernel_rfl
set_option maxRecDepth 100000 in
set_option maxHeartbeats 4000000 in
theorem over : Rows.grindOrdersRow.holds Try.pinned (OpenSpec.ofChange Rows.grindOrdersSpec) :=
  OpenClaim.holds_of_wide 12 Try.f12 rfl rfl rfl rfl rfl rfl rfl ⟨rfl, rfl, rfl, rfl, rfl⟩ rfl rfl rfl rfl rfl (by kernel_rfl) Try.func12 closed
    (of_decide_eq_true (by kernel_rfl)) (by unfold Func.isWrapper; first | (rw [if_pos (by decide +kernel)]; kernel_rfl) | (rw [if_neg (by decide +kernel)]; exact ⟨rfl, rfl⟩))
    (fun os started H enc _ => lifted os started H enc)
theorem proved : Rows.GrindOrdersSaid := over
end Go.Proofs.Ytpfmamngjefohaa.grindOrders
