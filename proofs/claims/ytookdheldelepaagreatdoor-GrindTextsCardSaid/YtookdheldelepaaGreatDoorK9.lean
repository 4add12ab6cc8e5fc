import Derived.Test.YtookdheldelepaaGreatDoorPCmin
import Derived.Test.YtookdheldelepaaGreatDoorK2x
set_option linter.all false
set_option linter.unusedVariables false
set_option linter.unusedSimpArgs false
set_option linter.unusedSectionVars false
namespace Go.Abs
open Go.Proofs
end Go.Abs
namespace Go.Abs
open Go.Proofs
/-! grits -/
structure Gr where
  nm : ByteArray
  dm : Int
  rt : Int
def gr0 : Gr := ⟨⟨#[]⟩, 0, 0⟩
/-- the first number of which something is true, or -1 -/
def fstP (p : Nat → Bool) (n : Nat) : Int := match (List.range n).find? p with
  | some k => k
  | none => -1
theorem fstP_no {p : Nat → Bool} {n : Nat} (h : ∀ j, j < n → p j = false) : fstP p n = -1 := by
  unfold fstP
  rw [List.find?_eq_none.2 fun j hj => by rw [h j (List.mem_range.1 hj)]; simp]
theorem fstP_at {p : Nat → Bool} {n k : Nat} (hk : k < n) (hp : p k = true) (h : ∀ j, j < k → p j = false) : fstP p n = k := by
  unfold fstP
  have : (List.range n).find? p = some k := by
    rw [List.find?_range_eq_some]
    exact ⟨hp, by simpa using hk, fun j hj => by simpa using h j hj⟩
  rw [this]
theorem fstP_cases (p : Nat → Bool) (n : Nat) : (fstP p n = -1 ∧ ∀ j, j < n → p j = false) ∨ ∃ k, k < n ∧ fstP p n = k ∧ p k = true ∧ ∀ j, j < k → p j = false := by
  by_cases h : ∀ j, j < n → p j = false
  · exact .inl ⟨fstP_no h, h⟩
  · have : ∃ k, k < n ∧ p k = true ∧ ∀ j, j < k → p j = false := by
      have hex : ∃ j, j < n ∧ p j = true := by
        rcases Classical.not_forall.1 h with ⟨j, hj⟩
        rcases Classical.not_imp.1 hj with ⟨h1, h2⟩
        exact ⟨j, h1, by simpa using h2⟩
      obtain ⟨j, hj, hpj⟩ := hex
      induction j using Nat.strongRecOn with
      | _ j ih =>
        by_cases hm : ∃ i, i < j ∧ p i = true
        · obtain ⟨i, hi, hpi⟩ := hm
          exact ih i hi (by omega) hpi
        · exact ⟨j, hj, hpj, fun i hi => by
            cases hpi : p i with
            | false => rfl
            | true => exact (hm ⟨i, hi, hpi⟩).elim⟩
    obtain ⟨k, h1, h2, h300⟩ := this
    exact .inr ⟨k, h1, fstP_at h1 h2 h300, h2, h300⟩
def eqT (a b : ByteArray) : Bool := a.data.toList == b.data.toList
theorem eqT_bin (a b : ByteArray) : (a.toList == b.toList) = eqT a b := by unfold eqT; rw [ByteArray.toList_eq, ByteArray.toList_eq]
theorem eqT_refl (b : ByteArray) : eqT b b = true := by simp [eqT]
end Go.Abs
namespace Go.Abs
open Go.Proofs
/-! grits: small functions -/
/-! Ceil, minutes -/
/-- rounded up -/
def ceil (n d : Int) : Int := -((-n) / d)
end Go.Abs
namespace Go.Abs
open Go.Proofs
/-! CheckGrits of the reference -/
end Go.Abs
