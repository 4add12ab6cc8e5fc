import Derived.Test.YtodheeifecoebaaK81x
set_option linter.all false
set_option linter.unusedVariables false
set_option linter.unusedSimpArgs false
set_option linter.unusedSectionVars false
namespace Go.Abs
open Go.Proofs
/-! the circle that the search finds is accepted -/
theorem arc_sg {l : List Rd} {j : Nat} (hj : j < (arcsL l l.length).length) : arcOf l ((arcsL l l.length).getD j ar0).sg = (arcsL l l.length).getD j ar0 ∧ badC l.length ((arcsL l l.length).getD j ar0).sg = false := by
  obtain ⟨i, hi, h | h⟩ := getD_arcs l l.length (Nat.le_refl _) j hj
  · rw [h]
    refine ⟨?_, ?_⟩
    · have e : ((i : Int) + 1 - 1).toNat = i := by omega
      rw [arcOf, if_pos (by dsimp only; omega)]; dsimp only; rw [e]
    · unfold badC; simp; omega
  · rw [h]
    refine ⟨?_, ?_⟩
    · have e : (-(-(i : Int) - 1) - 1).toNat = i := by omega
      rw [arcOf, if_neg (by dsimp only; omega)]; dsimp only; rw [e]
    · unfold badC; simp; omega
theorem sgs_get (b : List Ar) (u : Int) : ∀ p k, k < p → (sgs b u p).getD k 0 = (b.getD (bk b u k).toNat ar0).sg
  | 0, k, h => by omega
  | p + 1, k, h => by
    have hl := sgs_len b u p
    unfold sgs
    by_cases hk : k < p
    · rw [List.getD_eq_getElem?_getD, List.getElem?_append_left (by omega), ← List.getD_eq_getElem?_getD, sgs_get b u p k hk]
    · have : k = p := by omega
      subst this
      rw [List.getD_eq_getElem?_getD, List.getElem?_append_right (by omega), hl, Nat.sub_self]; rfl
theorem rev_get {xs : List Int} {i : Nat} (h : i < xs.length) : xs.reverse.getD i 0 = xs.getD (xs.length - 1 - i) 0 := by
  simp [List.getD, List.getElem?_reverse h]
theorem circ_acc {l : List Rd} {b : List Ar} {u : Int} {p : Nat} (hp : 1 ≤ p ∧ p ≤ 40) (hend : bk b u p = u) (hsum : csum b u p < 0)
    (harc : ∀ k, (b.getD (bk b u k).toNat ar0).t = bk b u k ∧ ∃ j, j < (arcsL l l.length).length ∧ (arcsL l l.length).getD j ar0 = b.getD (bk b u k).toNat ar0) :
    (checkCl l (sgs b u p).reverse).2 = 0 := by
  have hsl := sgs_len b u p
  have hrl : (sgs b u p).reverse.length = p := by rw [List.length_reverse, hsl]
  have hget : ∀ i, i < p → (sgs b u p).reverse.getD i 0 = (b.getD (bk b u (p - 1 - i)).toNat ar0).sg := fun i hi => by
    rw [rev_get (by omega), hsl, sgs_get b u p _ (by omega)]
  have harcOf : ∀ i, i < p → arcOf l ((sgs b u p).reverse.getD i 0) = b.getD (bk b u (p - 1 - i)).toNat ar0 := fun i hi => by
    obtain ⟨_, j, hj, he⟩ := harc (p - 1 - i)
    rw [hget i hi, ← he]
    exact (arc_sg hj).1
  have hany : (sgs b u p).reverse.any (badC l.length) = false := by
    rw [List.any_eq_false]
    intro x hx
    obtain ⟨i, hi, rfl⟩ := List.getElem_of_mem hx
    have h1 := hget i (by omega)
    rw [List.getD_eq_getElem?_getD, List.getElem?_eq_getElem hi] at h1
    have h2 : (sgs b u p).reverse[i] = (b.getD (bk b u (p - 1 - i)).toNat ar0).sg := h1
    obtain ⟨_, j, hj, he⟩ := harc (p - 1 - i)
    rw [h2, ← he, (arc_sg hj).2]; simp
  have hchain : chainC l (sgs b u p).reverse := by
    intro i hi
    rw [hrl] at hi
    rw [harcOf i hi]
    have ef : (b.getD (bk b u (p - 1 - i)).toNat ar0).f = bk b u (p - 1 - i + 1) := rfl
    rw [ef]
    cases i with
    | zero =>
      have e1 : prv l (sgs b u p).reverse 0 = arcOf l ((sgs b u p).reverse.getD (p - 1) 0) := by rw [prv, hrl]
      rw [e1, harcOf (p - 1) (by omega), show p - 1 - (p - 1) = 0 by omega, (harc 0).1, show p - 1 - 0 + 1 = p by omega, hend]
      rfl
    | succ k =>
      have e1 : prv l (sgs b u p).reverse (k + 1) = arcOf l ((sgs b u p).reverse.getD k 0) := rfl
      rw [e1, harcOf k (by omega), (harc (p - 1 - k)).1, show p - 1 - (k + 1) + 1 = p - 1 - k by omega]
  have hs : ∀ k, k ≤ p → sumC l (sgs b u p).reverse k = csum b u p - csum b u (p - k) := by
    intro k
    induction k with
    | zero => intro _; simp [sumC]
    | succ k ih =>
      intro hk
      have h1 := ih (by omega)
      have e1 : sumC l (sgs b u p).reverse (k + 1) = sumC l (sgs b u p).reverse k + (arcOf l ((sgs b u p).reverse.getD k 0)).len := rfl
      have e2 : csum b u (p - k) = csum b u (p - (k + 1)) + (b.getD (bk b u (p - 1 - k)).toNat ar0).len := by
        rw [show p - k = (p - (k + 1)) + 1 by omega, show p - 1 - k = p - (k + 1) by omega]; rfl
      rw [e1, harcOf k (by omega), h1, e2]; omega
  have h0 : csum b u 0 = 0 := rfl
  have hst := hs p (Nat.le_refl _)
  rw [Nat.sub_self, h0] at hst
  unfold checkCl
  rw [hrl, if_neg (by omega), if_neg (by rw [hany]; simp), if_neg (fun h => h hchain), if_neg (by omega)]
end Go.Abs
