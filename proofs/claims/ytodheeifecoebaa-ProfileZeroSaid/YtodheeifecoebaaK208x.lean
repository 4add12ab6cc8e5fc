import Derived.Test.YtodheeifecoebaaK207x
set_option linter.all false
set_option linter.unusedVariables false
set_option linter.unusedSimpArgs false
set_option linter.unusedSectionVars false
namespace Go.Abs
open Go.Proofs
/-! CopyLists, Turned: what they yield reads as the lists -/
def otB (rows : List (Bool × List Int)) (k : Nat) : List (List AV) := (List.range k).map fun i => [AV.lsl (3 * i + 2) 0 (rowN rows i).2.length]
theorem otB_len (rows : List (Bool × List Int)) (k : Nat) : (otB rows k).length = k := by simp [otB]
structure I78 (rows : List (Bool × List Int)) (k : Nat) (H : List Blk) : Prop where
  l : H.length = 3 * k
  r : ∀ i, i < k → ∃ o, H[3 * i + 2]? = some (.cells o false 1 ((rowN rows i).2.map fun x => [i64 x]))
  t : k ≠ 0 → H[3 * k - 2]? = some (.cells true false 1 (otB rows k))
theorem cells_sub {H X : List Blk} {N : Nat} (hN : H.length = N) : (∀ Y, (H ++ Y)[N]? = Y[0]?) ∧ (∀ Y j, (H ++ Y)[N + j]? = Y[j]?) ∧ (∀ Y v, (H ++ Y).set N v = H ++ Y.set 0 v) ∧ (∀ Y j v, (H ++ Y).set (N + j) v = H ++ Y.set j v) := by
  subst hN
  refine ⟨fun Y => ?_, fun Y j => ?_, fun Y v => ?_, fun Y j v => ?_⟩
  · rw [List.getElem?_append_right (Nat.le_refl _), Nat.sub_self]
  · rw [List.getElem?_append_right (by omega), Nat.add_sub_cancel_left]
  · rw [List.set_append_right _ _ (Nat.le_refl _), Nat.sub_self]
  · rw [List.set_append_right _ _ (by omega), Nat.add_sub_cancel_left]
end Go.Abs
