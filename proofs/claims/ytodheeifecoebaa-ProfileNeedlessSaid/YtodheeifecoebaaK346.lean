/- Proved: ProfileNeedlessSaid: for every input the law speculumlaw05.ProfileNeedless returns true, and each argument reads afterwards as it read before. No condition. -/
import Derived.Test.YtodheeifecoebaaK15
import Derived.Test.YtodheeifecoebaaK11
set_option linter.all false
set_option linter.unusedVariables false
set_option linter.unusedSimpArgs false
set_option linter.unusedSectionVars false
namespace Go.Proofs.Ytodheeifecoebaa.profileNeedless
open Go.ChangeShapes Go.WideShapes Go.ChangeAt Go.RowKit
theorem closed : joinedFacts Try.prog 15 Try.f15 Rows.profileNeedlessSpec Rows.profileNeedlessRow = true := by
  unfold joinedFacts
  rw [mayEnter_eq, liftsFinal_eq]
  kernel_rfl
set_option maxRecDepth 100000 in
set_option maxHeartbeats 4000000 in
theorem over : Rows.profileNeedlessRow.holds Try.pinned (OpenSpec.ofChange Rows.profileNeedlessSpec) :=
  OpenClaim.holds_of_wide 15 Try.f15 rfl rfl rfl rfl rfl rfl rfl ⟨rfl, rfl, rfl, rfl, rfl⟩ rfl rfl rfl rfl rfl (by kernel_rfl) Try.func15 closed
    (of_decide_eq_true (by kernel_rfl)) (by unfold Func.isWrapper; first | (rw [if_pos (by decide +kernel)]; kernel_rfl) | (rw [if_neg (by decide +kernel)]; exact ⟨rfl, rfl⟩))
    (fun os started H enc _ => lifted os started H enc)
theorem proved : Rows.ProfileNeedlessSaid := over
end Go.Proofs.Ytodheeifecoebaa.profileNeedless
