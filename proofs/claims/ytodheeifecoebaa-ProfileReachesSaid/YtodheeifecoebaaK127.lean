/- Proved: ProfileReachesSaid: for every input the law speculumlaw05.ProfileReaches returns true, and each argument reads afterwards as it read before. No condition. -/
import Derived.Test.YtodheeifecoebaaKSb
import Derived.Test.YtodheeifecoebaaK126
set_option linter.all false
set_option linter.unusedVariables false
set_option linter.unusedSimpArgs false
set_option linter.unusedSectionVars false
namespace Go.Proofs.Ytodheeifecoebaa.profileReaches
open Go.ChangeShapes Go.WideShapes Go.ChangeAt Go.RowKit
theorem closed : joinedFacts Try.prog 18 Try.f18 Rows.profileReachesSpec Rows.profileReachesRow = true := by
  unfold joinedFacts
  rw [mayEnter_eq, liftsFinal_eq]
  kernel_rfl
set_option maxRecDepth 100000 in
set_option maxHeartbeats 4000000 in
theorem over : Rows.profileReachesRow.holds Try.pinned (OpenSpec.ofChange Rows.profileReachesSpec) :=
  OpenClaim.holds_of_wide 18 Try.f18 rfl rfl rfl rfl rfl rfl rfl ⟨rfl, rfl, rfl, rfl, rfl⟩ rfl rfl rfl rfl rfl (by kernel_rfl) Try.func18 closed
    (of_decide_eq_true (by kernel_rfl)) (by unfold Func.isWrapper; first | (rw [if_pos (by decide +kernel)]; kernel_rfl) | (rw [if_neg (by decide +kernel)]; exact ⟨rfl, rfl⟩))
    (fun os started H enc _ => lifted os started H enc)
theorem proved : Rows.ProfileReachesSaid := over
end Go.Proofs.Ytodheeifecoebaa.profileReaches
