import Derived.Test.YtodheeifecoebaaK117x
set_option linter.all false
set_option linter.unusedVariables false
set_option linter.unusedSimpArgs false
set_option linter.unusedSectionVars false
namespace Go.Abs
open Go.Proofs
/-! one more reading never makes the enclosure wider -/
theorem Wk.more {A A' : List Ar} (h : ∀ k, k < A.length → k < A'.length ∧ A'.getD k ar0 = A.getD k ar0) {vs : List Nat} {i j : Nat} {c : Int} (hw : Wk A vs i j c) : Wk A' vs i j c := by
  induction hw with
  | arc hk => rw [← (h _ hk).2]; exact Wk.arc (h _ hk).1
  | cons hk hw ih => rw [← (h _ hk).2] at ih ⊢; exact Wk.cons (h _ hk).1 ih
theorem arcsL_pre (l : List Rd) (r : Rd) : ∀ n, n ≤ l.length → arcsL (l ++ [r]) n = arcsL l n
  | 0, _ => rfl
  | n + 1, h => by
    unfold arcsL
    have e : (l ++ [r]).getD n rd0 = l.getD n rd0 := by rw [List.getD_eq_getElem?_getD, List.getElem?_append_left (by omega), ← List.getD_eq_getElem?_getD]
    rw [arcsL_pre l r n (by omega), e]
theorem arcs_pre (l : List Rd) (r : Rd) : ∀ k, k < (arcsL l l.length).length → k < (arcsL (l ++ [r]) (l ++ [r]).length).length ∧ (arcsL (l ++ [r]) (l ++ [r]).length).getD k ar0 = (arcsL l l.length).getD k ar0 := fun k hk => by
  have h1 : (l ++ [r]).length = l.length + 1 := by simp
  have h2 := arcsL_len l l.length
  have h3 := arcsL_len (l ++ [r]) (l.length + 1)
  rw [h1]
  refine ⟨by omega, ?_⟩
  have e : arcsL (l ++ [r]) (l.length + 1) = arcsL (l ++ [r]) l.length ++ _ := rfl
  rw [e, arcsL_pre l r _ (Nat.le_refl _), List.getD_eq_getElem?_getD, List.getElem?_append_left hk, ← List.getD_eq_getElem?_getD]
theorem more_le {z : Nat} {l : List Rd} {r : Rd} (h : checkR z l = 0) (hr : ∃ k, k ≤ z ∧ (rnds (arcsL l l.length) z (k + 1)).at_ < 0) (hw : ((tabM (arcsL l l.length) z).getD 0 []).any isFar = false)
    (h' : checkR z (l ++ [r]) = 0) (hr' : ∃ k, k ≤ z ∧ (rnds (arcsL (l ++ [r]) (l ++ [r]).length) z (k + 1)).at_ < 0) :
    Sq z (tabM (arcsL (l ++ [r]) (l ++ [r]).length) z) ∧ ∀ i j, i < z → j < z → mget (tabM (arcsL (l ++ [r]) (l ++ [r]).length) z) i j ≤ mget (tabM (arcsL l l.length) z) i j ∧ -41000000 ≤ mget (tabM (arcsL (l ++ [r]) (l ++ [r]).length) z) i j ∧ mget (tabM (arcsL (l ++ [r]) (l ++ [r]).length) z) i j ≤ 41000000 := by
  have hfin := all_fin h hr hw
  obtain ⟨hz, hl, hrd⟩ := checkR_ok h
  obtain ⟨hA, hN, hok⟩ := arcs_ok hrd
  have hn : (arcsL l l.length).length ≤ 200 := by have := arcsL_len l l.length; omega
  obtain ⟨P, hP1, hP2⟩ := rest_bound hA hn hr (by omega)
  have hS := tab_stt hA hN (by omega) hP1 hP2
  obtain ⟨hz', hl', hrd'⟩ := checkR_ok h'
  obtain ⟨hA', hN', hok'⟩ := arcs_ok hrd'
  have hn' : (arcsL (l ++ [r]) (l ++ [r]).length).length ≤ 200 := by have := arcsL_len (l ++ [r]) (l ++ [r]).length; omega
  obtain ⟨P', hP1', hP2'⟩ := rest_bound hA' hn' hr' (by omega)
  have hS' := tab_stt hA' hN' (by omega) hP1' hP2'
  have hpre := arcs_pre l r
  have hfar : far = 1099511627776 := rfl
  generalize tabM (arcsL l l.length) z = M at *
  generalize tabM (arcsL (l ++ [r]) (l ++ [r]).length) z = M' at *
  refine ⟨hS'.sq, fun i j hi hj => ?_⟩
  have hle : mget M' i j ≤ mget M i j := by
    by_cases hij : i = j
    · subst hij; rw [hS.dg i hi, hS'.dg i hi]; omega
    · obtain ⟨vs, hv, hwk⟩ := hS.ex i j hi hj hij (by have := hfin i j hi hj; omega)
      exact hS'.optAll hA' (by omega) hj (hwk.more hpre) hv
  have := hfin i j hi hj
  rcases hS'.bd hA' (Nat.le_refl _) (by omega) hi hj with h1 | h1
  · omega
  · exact ⟨hle, h1⟩
def gsum (M M' : List (List Int)) : Nat → Int
  | 0 => 0
  | k + 1 => gsum M M' k + ((mget M 0 k - -(mget M k 0)) - (mget M' 0 k - -(mget M' k 0)))
theorem gsum_r {z : Nat} {M M' : List (List Int)} (hz : 1 ≤ z) (h : ∀ i j, i < z → j < z → -41000000 ≤ mget M i j ∧ mget M i j ≤ 41000000) (h' : ∀ i j, i < z → j < z → mget M' i j ≤ mget M i j ∧ -41000000 ≤ mget M' i j ∧ mget M' i j ≤ 41000000) : ∀ k : Nat, k ≤ z → 0 ≤ gsum M M' k ∧ gsum M M' k ≤ 200000000 * k
  | 0, _ => by simp [gsum]
  | k + 1, hk => by
    have h1 := gsum_r hz h h' k (by omega)
    have h2 := h 0 k (by omega) (by omega)
    have h3 := h k 0 (by omega) (by omega)
    have h4 := h' 0 k (by omega) (by omega)
    have h5 := h' k 0 (by omega) (by omega)
    unfold gsum
    omega
end Go.Abs
