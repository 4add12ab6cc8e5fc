/- The law TopThreeAnswers holds as stated: of any profile that keeps all readings, an accepted enclosure means that it meets the tolerance, a refused one that it does not, and a zone that is said to decide does so. Conditions: none beyond the statement's own. -/
import Derived.Test.YtdedhipkncagjaaK15
import Derived.Test.YtdedhipkncagjaaK560
set_option linter.all false
set_option linter.unusedVariables false
set_option linter.unusedSimpArgs false
set_option linter.unusedSectionVars false
namespace Go.Proofs.Ytdedhipkncagjaa.topThreeAnswers
open Go.ChangeShapes Go.WideShapes Go.ChangeAt Go.RowKit
theorem closed : joinedFacts Try.prog 3 Try.f3 Rows.topThreeAnswersSpec Rows.topThreeAnswersRow = true := by
  unfold joinedFacts
  rw [mayEnter_eq, liftsFinal_eq]
  kernel_rfl
set_option maxRecDepth 100000 in
set_option maxHeartbeats 4000000 in
theorem over : Rows.topThreeAnswersRow.holds Try.pinned (OpenSpec.ofChange Rows.topThreeAnswersSpec) :=
  OpenClaim.holds_of_wide 3 Try.f3 rfl rfl rfl rfl rfl rfl rfl ⟨rfl, rfl, rfl, rfl, rfl⟩ rfl rfl rfl rfl rfl (by kernel_rfl) Try.func3 closed
    (of_decide_eq_true (by kernel_rfl)) (by unfold Func.isWrapper; first | (rw [if_pos (by decide +kernel)]; kernel_rfl) | (rw [if_neg (by decide +kernel)]; exact ⟨rfl, rfl⟩))
    (fun os started H enc _ => lifted os started H enc)
theorem proved : Rows.TopThreeAnswersSaid := over
end Go.Proofs.Ytdedhipkncagjaa.topThreeAnswers
