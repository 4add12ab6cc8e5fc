import Derived.Test.YtookdheldelepaaGreatDoorKP15x
set_option linter.all false
set_option linter.unusedVariables false
set_option linter.unusedSimpArgs false
set_option linter.unusedSectionVars false
namespace Go.Abs
open Go.Proofs
theorem fm_back {x : Se} (h1 : nmB x.1 = true) (h2 : nmB x.2.1 = true) (h3 : -9999999 ≤ x.2.2 ∧ x.2.2 ≤ 9999999) : psS (pieces (fmB x) ⟨#[32]⟩) = some x := by
  obtain ⟨a, b, n⟩ := x
  dsimp only at h1 h2 h3
  have e : pieces (fmB (a, b, n)) ⟨#[32]⟩ = [a, b, itoaB n] := by
    refine map_data_inj ?_
    rw [pieces_cut]
    show cutL 32 (fmB (a, b, n)).data.toList = _
    have ed : (fmB (a, b, n)).data.toList = fmL (a, b, n) := by simp [fmB]
    rw [ed]
    unfold fmL
    rw [cutL_app _ (nm_no h1 rfl), cutL_app _ (nm_no h2 rfl)]
    have h5 : (32 : UInt8) ∉ Lib.itoa n := by have := itoa_no (v := n) (c := 32) (by unfold isD; decide) (by decide); simpa using this
    rw [cutL_no h5]
    simp
  rw [e]
  unfold psS
  dsimp only
  rw [rdI_itoa (by omega) (by omega)]
  rfl
end Go.Abs
