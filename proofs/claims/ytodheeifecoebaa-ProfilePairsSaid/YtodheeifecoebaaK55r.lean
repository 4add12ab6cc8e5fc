import Derived.Test.YtodheeifecoebaaK54x
import Derived.Test.YtodheeifecoebaaK46x
import Derived.Test.YtodheeifecoebaaK47
set_option linter.all false
set_option linter.unusedVariables false
set_option linter.unusedSimpArgs false
set_option linter.unusedSectionVars false
namespace Go.Abs
open Go.Proofs
theorem plain_tbl (M : List (List Int)) : plain (tblV M) = true := plainR_map _ (fun r => by simp [plainL]) M
theorem rest_bound {A : List Ar} {z : Nat} (hA : okAr A z) (hn : A.length ≤ 200) (hnil : ∃ r, r ≤ z ∧ (rnds A z (r + 1)).at_ < 0) (hz : z ≤ 40) : ∃ P : Nat → Int, (∀ k, k < A.length → P (A.getD k ar0).t.toNat ≤ P (A.getD k ar0).f.toNat + (A.getD k ar0).len) ∧ ∀ v, v < z → -10000000000 ≤ P v ∧ P v ≤ 10000000000 := by
  obtain ⟨r, hr, h⟩ := hnil
  refine ⟨fun v => (rnds A z r).h.getD v 0, fun k hk => rest_pot hA h k hk, fun v _ => ?_⟩
  have := (rnds_ok hA hn r).hr v
  dsimp only
  omega
theorem k95n {nil : Bool} {l : List Rd} {A : List Ar} {z : Nat} (hl : l.length ≤ 100) (hrd : okRd l) (hz : 1 ≤ z ∧ z ≤ 40) (he : A = arcsL l l.length) (hA : okAr A z) (hnil : ∃ r, r ≤ z ∧ (rnds A z (r + 1)).at_ < 0) : Fn Try.prog 95 [i64 z, rdgs nil l] (.sl true 0 []) [] := by
  by_cases hx : A = []
  · have : l = [] := by
      have := arcsL_len l l.length
      rw [← he, hx] at this
      cases l with
      | nil => rfl
      | cons a b => simp at this
    subst this
    exact k95z hz
  · refine k95 hl hrd hz he hA hx (fun _ _ _ => ⟨rfl, rfl⟩) (fun h => ?_)
    obtain ⟨r, hr, h2⟩ := hnil
    have := h r hr
    omega
end Go.Abs
