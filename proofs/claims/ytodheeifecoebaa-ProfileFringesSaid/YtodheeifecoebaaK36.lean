/- Proved: ProfileFringesSaid: for every input the law speculumlaw05.ProfileFringes returns true, and each argument reads afterwards as it read before. No condition. -/
import Derived.Test.YtodheeifecoebaaK16
import Derived.Test.YtodheeifecoebaaK35
set_option linter.all false
set_option linter.unusedVariables false
set_option linter.unusedSimpArgs false
set_option linter.unusedSectionVars false
namespace Go.Proofs.Ytodheeifecoebaa.profileFringes
open Go.ChangeShapes Go.WideShapes Go.ChangeAt Go.RowKit
theorem closed : joinedFacts Try.prog 13 Try.f13 Rows.profileFringesSpec Rows.profileFringesRow = true := by
  unfold joinedFacts
  rw [mayEnter_eq, liftsFinal_eq]
  kernel_rfl
set_option maxRecDepth 100000 in
set_option maxHeartbeats 4000000 in
theorem over : Rows.profileFringesRow.holds Try.pinned (OpenSpec.ofChange Rows.profileFringesSpec) :=
  OpenClaim.holds_of_wide 13 Try.f13 rfl rfl rfl rfl rfl rfl rfl ⟨rfl, rfl, rfl, rfl, rfl⟩ rfl rfl rfl rfl rfl (by kernel_rfl) Try.func13 closed
    (of_decide_eq_true (by kernel_rfl)) (by unfold Func.isWrapper; first | (rw [if_pos (by decide +kernel)]; kernel_rfl) | (rw [if_neg (by decide +kernel)]; exact ⟨rfl, rfl⟩))
    (fun os started H enc _ => lifted os started H enc)
theorem proved : Rows.ProfileFringesSaid := over
end Go.Proofs.Ytodheeifecoebaa.profileFringes
