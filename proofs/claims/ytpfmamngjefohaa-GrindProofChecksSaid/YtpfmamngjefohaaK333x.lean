import Derived.Test.YtpfmamngjefohaaK313
set_option linter.all false
set_option linter.unusedVariables false
set_option linter.unusedSimpArgs false
set_option linter.unusedSectionVars false
namespace Go.Abs
open Go.Proofs
/-! CheckPlan -/
structure DOk (n : Nat) (lo hi : List Int) : Prop where
  l1 : lo.length = n
  l2 : hi.length = n
  r1 : ∀ z, z < n → 0 ≤ lo.getD z 0 ∧ lo.getD z 0 ≤ 10000
  r2 : ∀ z, z < n → 0 ≤ hi.getD z 0 ∧ hi.getD z 0 ≤ 10000
  le : ∀ z, z < n → lo.getD z 0 ≤ hi.getD z 0
theorem dmE_ok {n : Nat} {lo hi : List Int} (h : dmE n lo hi = 0) : DOk n lo hi := by
  unfold dmE at h
  split at h
  · simp at h
  rename_i h1
  have each : ∀ z, z < n → (0 ≤ lo.getD z 0 ∧ lo.getD z 0 ≤ 10000) ∧ (0 ≤ hi.getD z 0 ∧ hi.getD z 0 ≤ 10000) ∧ lo.getD z 0 ≤ hi.getD z 0 := fun z hz => by
    have := fe_all h z hz
    unfold dEr at this
    split at this
    · simp at this
    rename_i g1
    split at this
    · simp at this
    rename_i g2
    unfold inD at g1
    simp only [Bool.not_eq_false, Bool.and_eq_true, decide_eq_true_eq] at g1
    simp only [decide_eq_true_eq] at g2
    omega
  simp only [Bool.or_eq_true, bne_iff_ne, not_or, Decidable.not_not] at h1
  exact ⟨by omega, by omega, fun z hz => (each z hz).1, fun z hz => (each z hz).2.1, fun z hz => (each z hz).2.2⟩
end Go.Abs
namespace Go.Abs
open Go.Proofs
/-! CheckPlan of the reference -/
end Go.Abs
namespace Go.Abs
open Go.Proofs
/-! WearBy -/
def outR (W : List Int) (den : Int) (k : Nat) : List (List AV) := (List.range k).map fun z => [i64 (W.getD z 0 / den), i64 (ceil (W.getD z 0) den)]
structure I37 (H0 : List Blk) (W : List Int) (den : Int) (k : Nat) (H : List Blk) : Prop where
  n : H.length = H0.length + 2 * k
  s : ∀ i, i < H0.length → H[i]? = H0[i]?
  t : k ≠ 0 → H[H0.length + 2 * k - 1]? = some (.cells true false 2 (outR W den k))
theorem I37.fin {H0 F : List Blk} {W : List Int} {den : Int} {k : Nat} (hF : F.length = H0.length + 2 * k) (hs : ∀ i, i < H0.length → F[i]? = H0[i]?) (a : Blk) : I37 H0 W den (k + 1) (F ++ [a, .cells true false 2 (outR W den (k + 1))]) := by
  refine ⟨by simp [hF]; omega, fun i hi => ?_, fun _ => ?_⟩
  · rw [List.getElem?_append_left (by omega)]; exact hs i hi
  · rw [show H0.length + 2 * (k + 1) - 1 = F.length + 1 by omega, List.getElem?_append_right (by omega), Nat.add_sub_cancel_left]; rfl
end Go.Abs
