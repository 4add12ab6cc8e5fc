import Derived.Test.YtodheeifecoebaaK206x
set_option linter.all false
set_option linter.unusedVariables false
set_option linter.unusedSimpArgs false
set_option linter.unusedSectionVars false
namespace Go.Abs
open Go.Proofs
/-! the specification's CheckTurned; Light -/
theorem checkT_ok {S : Int} {rows : List (Bool × List Int)} (h : checkT S rows = 0) : ∃ n s : Nat, S = n ∧ (1 ≤ rows.length ∧ rows.length ≤ 12) ∧ rows.length * s = n ∧ (1 ≤ n ∧ n ≤ 24) ∧ (∀ t, t < rows.length → (rowN rows t).2.length = n) ∧ (∀ t i, t < rows.length → i < n → -100000 ≤ V rows t i ∧ V rows t i ≤ 100000) := by
  unfold checkT at h
  split at h
  · simp at h
  rename_i h1
  split at h
  · simp at h
  rename_i h2
  split at h
  · simp at h
  rename_i h3
  split at h
  · simp at h
  rename_i h4
  split at h
  · simp at h
  rename_i h5
  have hk : 1 ≤ rows.length := by omega
  obtain ⟨n, rfl⟩ : ∃ n : Nat, S = n := ⟨S.toNat, by omega⟩
  simp only [Bool.not_eq_true] at h4 h5
  have hrow : ∀ t, t < rows.length → (rowN rows t).2.length = n := fun t ht => by
    have := any_rowN h4 ht
    simp only [bne_eq_false_iff_eq] at this
    omega
  have hm : n % rows.length = 0 := by
    have h6 : ((n : Nat) : Int).tmod ((rows.length : Nat) : Int) = ((n % rows.length : Nat) : Int) := (Int.ofNat_tmod _ _).symm
    omega
  refine ⟨n, n / rows.length, rfl, by omega, ?_, by omega, hrow, fun t i ht hi => ?_⟩
  · have := Nat.div_add_mod n rows.length; omega
  · have h6 := any_rowN h5 ht
    rw [List.any_eq_false] at h6
    have h7 := h6 (V rows t i) (by
      unfold V
      rw [List.getD_eq_getElem?_getD, List.getElem?_eq_getElem (by rw [hrow t ht]; exact hi)]
      exact List.getElem_mem _)
    unfold outB at h7
    simp only [Bool.not_eq_true', Bool.not_eq_false, Bool.and_eq_true, decide_eq_true_eq] at h7
    omega
end Go.Abs
