import Derived.Test.YtodheeifecoebaaK8
import Derived.Test.YtodheeifecoebaaK40x
set_option linter.all false
set_option linter.unusedVariables false
set_option linter.unusedSimpArgs false
set_option linter.unusedSectionVars false
namespace Go.Abs
open Go.Proofs
abbrev far : Int := 1099511627776
noncomputable def rep1 (z : Nat) : Bool := match rcall Try.prog muts noPrim itA 400 143 [.sl false 1 [[i64 far]], i64 z] [] with
  | some (.lsl 0 0 n, [.cells true false 1 r]) => decide (n = z) && decide (unI r = some (List.replicate z far))
  | _ => false
theorem rep1_ok {z : Nat} (h : rep1 z = true) : Fn Try.prog 143 [ints false [far], i64 z] (.lsl 0 0 z) [.cells true false 1 ((List.replicate z far).map fun x => [i64 x])] := by
  unfold rep1 at h
  split at h
  · rename_i n r hr
    simp only [Bool.and_eq_true, decide_eq_true_eq] at h
    obtain ⟨h1, h2⟩ := h
    rw [unI_ok h2, h1] at hr
    exact rcall_ok (noPrim_ok _) itA_ok hr
  · simp at h
theorem rep_all : (List.range 41).all (fun z => z == 0 || rep1 z) = true := by kernel_rfl
theorem k143 (z : Nat) (hz : 1 ≤ z ∧ z ≤ 40) : Fn Try.prog 143 [ints false [far], i64 z] (.lsl 0 0 z) [.cells true false 1 ((List.replicate z far).map fun x => [i64 x])] := by
  have h := List.all_eq_true.1 rep_all z (by simp; omega)
  simp only [Bool.or_eq_true, beq_iff_eq] at h
  rcases h with h | h
  · omega
  · exact rep1_ok h
end Go.Abs
