import Derived.Test.YtodheeifecoebaaK25x
set_option linter.all false
set_option linter.unusedVariables false
set_option linter.unusedSimpArgs false
set_option linter.unusedSectionVars false
namespace Go.Abs
open Go.Proofs
theorem besideB_symm (w a b : Int) : besideB w b a = besideB w a b := by
  unfold besideB lo2 hi2
  by_cases h : a < b
  · have h2 : ¬ b < a := by omega
    simp [h, h2]
  · by_cases h2 : b < a
    · simp [h, h2]
    · have : a = b := by omega
      subst this; rfl
theorem thereB_r {ph : List Int} {c : Int} (h : thereB ph c = true) : 0 ≤ c ∧ c < ph.length := by
  unfold thereB at h; simp only [decide_eq_true_eq] at h; omega
end Go.Abs
