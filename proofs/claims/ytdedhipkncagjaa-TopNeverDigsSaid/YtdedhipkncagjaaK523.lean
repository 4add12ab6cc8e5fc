/- Proved: TopNeverDigsSaid: for every input the law speculumtop.TopNeverDigs returns true, and each argument reads afterwards as it read before. No condition. -/
import Derived.Test.YtdedhipkncagjaaK15
import Derived.Test.YtdedhipkncagjaaK522
set_option linter.all false
set_option linter.unusedVariables false
set_option linter.unusedSimpArgs false
set_option linter.unusedSectionVars false
namespace Go.Proofs.Ytdedhipkncagjaa.topNeverDigs
open Go.ChangeShapes Go.WideShapes Go.ChangeAt Go.RowKit
theorem closed : joinedFacts Try.prog 4 Try.f4 Rows.topNeverDigsSpec Rows.topNeverDigsRow = true := by
  unfold joinedFacts
  rw [mayEnter_eq, liftsFinal_eq]
  kernel_rfl
set_option maxRecDepth 100000 in
set_option maxHeartbeats 4000000 in
theorem over : Rows.topNeverDigsRow.holds Try.pinned (OpenSpec.ofChange Rows.topNeverDigsSpec) :=
  OpenClaim.holds_of_wide 4 Try.f4 rfl rfl rfl rfl rfl rfl rfl ⟨rfl, rfl, rfl, rfl, rfl⟩ rfl rfl rfl rfl rfl (by kernel_rfl) Try.func4 closed
    (of_decide_eq_true (by kernel_rfl)) (by unfold Func.isWrapper; first | (rw [if_pos (by decide +kernel)]; kernel_rfl) | (rw [if_neg (by decide +kernel)]; exact ⟨rfl, rfl⟩))
    (fun os started H enc _ => lifted os started H enc)
theorem proved : Rows.TopNeverDigsSaid := over
end Go.Proofs.Ytdedhipkncagjaa.topNeverDigs
