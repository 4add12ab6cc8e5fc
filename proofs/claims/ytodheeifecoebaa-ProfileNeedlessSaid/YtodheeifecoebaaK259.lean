import Derived.Test.YtodheeifecoebaaAbs21
set_option linter.all false
set_option linter.unusedVariables false
set_option linter.unusedSimpArgs false
set_option linter.unusedSectionVars false
namespace Go.Abs
/-! looking into H ++ Y -/
theorem cells_sub {H X : List Blk} {N : Nat} (hN : H.length = N) : (∀ Y, (H ++ Y)[N]? = Y[0]?) ∧ (∀ Y j, (H ++ Y)[N + j]? = Y[j]?) ∧ (∀ Y v, (H ++ Y).set N v = H ++ Y.set 0 v) ∧ (∀ Y j v, (H ++ Y).set (N + j) v = H ++ Y.set j v) := by
  subst hN
  refine ⟨fun Y => ?_, fun Y j => ?_, fun Y v => ?_, fun Y j v => ?_⟩
  · rw [List.getElem?_append_right (Nat.le_refl _), Nat.sub_self]
  · rw [List.getElem?_append_right (by omega), Nat.add_sub_cancel_left]
  · rw [List.set_append_right _ _ (Nat.le_refl _), Nat.sub_self]
  · rw [List.set_append_right _ _ (by omega), Nat.add_sub_cancel_left]
end Go.Abs
