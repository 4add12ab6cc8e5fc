import Derived.Test.YtodheeifecoebaaK8
import Derived.Test.YtodheeifecoebaaK43x
import Derived.Test.YtodheeifecoebaaK42x
import Derived.Test.YtodheeifecoebaaK70a
import Derived.Test.YtodheeifecoebaaK55x
set_option linter.all false
set_option linter.unusedVariables false
set_option linter.unusedSimpArgs false
set_option linter.unusedSectionVars false
namespace Go.Abs
open Go.Proofs
theorem r19 : rcall Try.prog muts noPrim itA 3000 19 [] [] = some (bl true, []) := by kernel_rfl
theorem k19 : Fn Try.prog 19 [] (bl true) [] := rcall_ok (noPrim_ok _) itA_ok r19
end Go.Abs
namespace Go.Abs
open Go.Proofs
end Go.Abs
namespace Go.Abs
open Go.Proofs
end Go.Abs
namespace Go.Abs
open Go.Proofs
/-! what a table holds at the end -/
theorem arcs_get (l : List Rd) : ∀ n, n ≤ l.length → ∀ i, i < n → ∃ k m, k < (arcsL l n).length ∧ m < (arcsL l n).length ∧ (arcsL l n).getD k ar0 = ⟨(l.getD i rd0).a, (l.getD i rd0).b, (l.getD i rd0).hi, (i : Int) + 1⟩ ∧ (arcsL l n).getD m ar0 = ⟨(l.getD i rd0).b, (l.getD i rd0).a, -(l.getD i rd0).lo, -(i : Int) - 1⟩
  | 0, _, i, hi => by omega
  | n + 1, hn, i, hi => by
    have hl := arcsL_len l n
    have hl2 := arcsL_len l (n + 1)
    have e : arcsL l (n + 1) = arcsL l n ++ [⟨(l.getD n rd0).a, (l.getD n rd0).b, (l.getD n rd0).hi, (n : Int) + 1⟩, ⟨(l.getD n rd0).b, (l.getD n rd0).a, -(l.getD n rd0).lo, -(n : Int) - 1⟩] := rfl
    by_cases hin : i < n
    · obtain ⟨k, m, h1, h2, h3, h4⟩ := arcs_get l n (by omega) i hin
      refine ⟨k, m, by omega, by omega, ?_, ?_⟩
      · rw [e, List.getD_eq_getElem?_getD, List.getElem?_append_left h1, ← List.getD_eq_getElem?_getD, h3]
      · rw [e, List.getD_eq_getElem?_getD, List.getElem?_append_left h2, ← List.getD_eq_getElem?_getD, h4]
    · have : i = n := by omega
      subst this
      refine ⟨2 * i, 2 * i + 1, by omega, by omega, ?_, ?_⟩
      · rw [e, List.getD_eq_getElem?_getD, List.getElem?_append_right (by omega), hl, show 2 * i - 2 * i = 0 by omega]; rfl
      · rw [e, List.getD_eq_getElem?_getD, List.getElem?_append_right (by omega), hl, show 2 * i + 1 - 2 * i = 1 by omega]; rfl
end Go.Abs
