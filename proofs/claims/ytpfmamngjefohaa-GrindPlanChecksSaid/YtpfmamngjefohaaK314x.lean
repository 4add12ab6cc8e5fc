import Derived.Test.YtpfmamngjefohaaK9
import Derived.Test.YtpfmamngjefohaaK313
set_option linter.all false
set_option linter.unusedVariables false
set_option linter.unusedSimpArgs false
set_option linter.unusedSectionVars false
namespace Go.Abs
open Go.Proofs
/-! WearOf of the reference -/
def gz (A : Nat → Int) (c : Int) (w : Nat → Int) (z : Nat) : Nat → Int := fun y => if y < z then A y + c * w y else A y
theorem gz_set {n z : Nat} (A : Nat → Int) (c : Int) (w : Nat → Int) : (fR n (gz A c w z)).set z [i64 (A z + c * w z)] = fR n (gz A c w (z + 1)) := by
  rw [fR_set]
  refine fR_congr fun y hy => ?_
  unfold gz
  by_cases h1 : y = z
  · subst h1; rw [if_pos rfl, if_pos (by omega)]
  · rw [if_neg h1]
    by_cases h2 : y < z
    · rw [if_pos h2, if_pos (by omega)]
    · rw [if_neg h2, if_neg (by omega)]
theorem gz_at (A : Nat → Int) (c : Int) (w : Nat → Int) (z : Nat) : gz A c w z z = A z := by unfold gz; rw [if_neg (by omega)]
theorem gz_end {n : Nat} (A : Nat → Int) (c : Int) (w : Nat → Int) : fR n (gz A c w n) = fR n fun y => A y + c * w y := fR_congr fun y hy => by unfold gz; rw [if_pos hy]
theorem gz_zero (n : Nat) (A : Nat → Int) (c : Int) (w : Nat → Int) : fR n (gz A c w 0) = fR n A := fR_congr fun y hy => by unfold gz; rw [if_neg (by omega)]
end Go.Abs
namespace Go.Abs
open Go.Proofs
/-! worn -/
end Go.Abs
namespace Go.Abs
open Go.Proofs
/-! WearOf -/
end Go.Abs
namespace Go.Abs
open Go.Proofs
/-! GrindSessions -/
end Go.Abs
namespace Go.Abs
open Go.Proofs
/-! GrindSessions: all cases -/
theorem lgB_bd {l : List Sk} (h : lgB l = true) : l.length ≤ 15 ∧ ∀ k, k < l.length → (l.getD k sk0).nm.size ≤ 30 ∧ (l.getD k sk0).wr.length ≤ 43 := by
  unfold lgB at h
  simp only [Bool.and_eq_true, Bool.or_eq_true, decide_eq_true_eq] at h
  refine ⟨by omega, fun k hk => ?_⟩
  have := all_getSk.1 h.2 k hk
  unfold lgS at this
  simp only [Bool.and_eq_true, Bool.or_eq_true, decide_eq_true_eq] at this
  omega
end Go.Abs
