import Derived.Test.YtpfmamngjefohaaK9
import Derived.Test.YtpfmamngjefohaaK8x
set_option linter.all false
set_option linter.unusedVariables false
set_option linter.unusedSimpArgs false
set_option linter.unusedSectionVars false
namespace Go.Abs
open Go.Proofs
/-! StepMinutes; law 7 -/
theorem gR_take (l : List Gr) : List.take l.length (gR l) = gR l := List.take_of_length_le (by rw [gR_len]; exact Nat.le_refl _)
theorem rfyL0 (h : Nat → Blk) (d : Nat) (x : Value) : rfy h d (.lit x) = .lit x := by cases d <;> rfl
theorem gR_rfy (h : Nat → Blk) (d : Nat) (l : List Gr) : List.map (fun r => List.map (rfy h d) r) (gR l) = gR l := by
  unfold gR
  rw [List.map_map]
  exact List.map_congr_left fun g _ => by simp only [Function.comp, List.map_cons, List.map_nil, rfyL0]
theorem lids0 (h : Nat → Blk) (d : Nat) (x : Value) : lids h d (.lit x) = [] := by cases d <;> rfl
theorem gR_lids (h : Nat → Blk) (d : Nat) (l : List Gr) : (gR l).flatMap (fun r => r.flatMap (lids h d)) = [] := by
  rw [List.flatMap_eq_nil_iff]
  intro r hr
  unfold gR at hr
  obtain ⟨g, _, rfl⟩ := List.mem_map.1 hr
  simp [lids0]
theorem gErs_all {l : List Gr} : ∀ {n : Nat}, gErs l n = 0 → ∀ k, k < n → gErr l k = 0
  | 0, _, k, hk => by omega
  | n + 1, h, k, hk => by
    simp only [gErs] at h
    by_cases h0 : gErs l n ≠ 0
    · rw [if_pos h0] at h; exact (h0 h).elim
    · rw [if_neg h0] at h
      rcases Nat.lt_succ_iff_lt_or_eq.1 hk with h1 | rfl
      · exact gErs_all (by simpa using h0) k h1
      · exact h
theorem gE_ok {l : List Gr} (h : gE l = 0) : l.length ≤ 12 ∧ ∀ k, k < l.length → (0 ≤ (l.getD k gr0).dm ∧ (l.getD k gr0).dm ≤ 1000000) ∧ 1 ≤ (l.getD k gr0).rt ∧ (l.getD k gr0).rt ≤ 100000 := by
  unfold gE at h
  by_cases h12 : l.length > 12
  · rw [if_pos h12] at h; simp at h
  · rw [if_neg h12] at h
    refine ⟨by omega, fun k hk => ?_⟩
    have h1 := gErs_all h k hk
    unfold gErr at h1
    split at h1
    · simp at h1
    · split at h1
      · simp at h1
      · split at h1
        · simp at h1
        · rename_i h2
          unfold gRng at h2
          simp only [Bool.not_eq_false, Bool.and_eq_true, decide_eq_true_eq] at h2
          exact h2
end Go.Abs
namespace Go.Abs
open Go.Proofs
/-! GrindGrits -/
end Go.Abs
