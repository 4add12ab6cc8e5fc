import Derived.Test.YtpfmamngjefohaaK38
import Derived.Test.YtpfmamngjefohaaK39x
set_option linter.all false
set_option linter.unusedVariables false
set_option linter.unusedSimpArgs false
set_option linter.unusedSectionVars false
namespace Go.Abs
open Go.Proofs
/-! grits but for the first -/
theorem gErr_tail {g : Gr} {t : List Gr} {k : Nat} (h : gErr (g :: t) (k + 1) = 0) : gErr t k = 0 := by
  unfold gErr at h ⊢
  rw [List.getD_cons_succ] at h
  cases h1 : nmB (t.getD k gr0).nm with
  | false => rw [h1] at h; simp at h
  | true =>
    rw [h1, if_neg (by simp)] at h
    rw [if_neg (by simp)]
    cases h2 : gDup t k with
    | true =>
      exfalso
      have : gDup (g :: t) (k + 1) = true := by
        unfold gDup at h2 ⊢
        obtain ⟨j, h3, h4⟩ := of_decide_eq_true h2
        exact decide_eq_true ⟨j + 1, by omega, by rw [List.getD_cons_succ, List.getD_cons_succ]; exact h4⟩
      rw [this, if_pos rfl] at h
      simp at h
    | false =>
      rw [if_neg (by simp)]
      cases h3 : gRng (t.getD k gr0) with
      | true => rw [if_neg (by simp)]
      | false =>
        exfalso
        rw [h3] at h
        cases h4 : gDup (g :: t) (k + 1) <;> (rw [h4] at h; simp at h)
theorem gErs_zero {l : List Gr} : ∀ n, (∀ k, k < n → gErr l k = 0) → gErs l n = 0
  | 0, _ => rfl
  | n + 1, h => gErs_next (gErs_zero n fun k hk => h k (by omega)) (h n (by omega))
theorem gE_tail {g : Gr} {t : List Gr} (h : gE (g :: t) = 0) : gE t = 0 := by
  have h12 := (gE_ok h).1
  simp at h12
  unfold gE at h ⊢
  rw [if_neg (by simp; omega)] at h
  rw [if_neg (by omega)]
  exact gErs_zero _ fun k hk => gErr_tail (gErs_all h (k + 1) (by simp; omega))
theorem gErr_vals (l : List Gr) (k : Nat) : gErr l k ≠ 12 := by
  unfold gErr
  split
  · simp
  · split
    · simp
    · split <;> simp
theorem gErs_vals (l : List Gr) : ∀ n, gErs l n ≠ 12
  | 0 => by simp [gErs]
  | n + 1 => by
    simp only [gErs]
    split
    · exact gErs_vals l n
    · exact gErr_vals l n
theorem gE_ne12 (l : List Gr) : gE l ≠ 12 := by
  unfold gE
  split
  · simp
  · exact gErs_vals l _
end Go.Abs
