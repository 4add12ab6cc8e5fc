import Derived.Test.YtodheeifecoebaaK57
import Derived.Test.YtodheeifecoebaaKSa
set_option linter.all false
set_option linter.unusedVariables false
set_option linter.unusedSimpArgs false
set_option linter.unusedSectionVars false
namespace Go.Abs
open Go.Proofs
/-! what a table holds at the end -/
theorem arcs_get (l : List Rd) : ∀ n, n ≤ l.length → ∀ i, i < n → ∃ k m, k < (arcsL l n).length ∧ m < (arcsL l n).length ∧ (arcsL l n).getD k ar0 = ⟨(l.getD i rd0).a, (l.getD i rd0).b, (l.getD i rd0).hi, (i : Int) + 1⟩ ∧ (arcsL l n).getD m ar0 = ⟨(l.getD i rd0).b, (l.getD i rd0).a, -(l.getD i rd0).lo, -(i : Int) - 1⟩
  | 0, _, i, hi => by omega
  | n + 1, hn, i, hi => by
    have hl := arcsL_len l n
    have hl2 := arcsL_len l (n + 1)
    have e : arcsL l (n + 1) = arcsL l n ++ [⟨(l.getD n rd0).a, (l.getD n rd0).b, (l.getD n rd0).hi, (n : Int) + 1⟩, ⟨(l.getD n rd0).b, (l.getD n rd0).a, -(l.getD n rd0).lo, -(n : Int) - 1⟩] := rfl
    by_cases hin : i < n
    · obtain ⟨k, m, h1, h2, h3, h4⟩ := arcs_get l n (by omega) i hin
      refine ⟨k, m, by omega, by omega, ?_, ?_⟩
      · rw [e, List.getD_eq_getElem?_getD, List.getElem?_append_left h1, ← List.getD_eq_getElem?_getD, h3]
      · rw [e, List.getD_eq_getElem?_getD, List.getElem?_append_left h2, ← List.getD_eq_getElem?_getD, h4]
    · have : i = n := by omega
      subst this
      refine ⟨2 * i, 2 * i + 1, by omega, by omega, ?_, ?_⟩
      · rw [e, List.getD_eq_getElem?_getD, List.getElem?_append_right (by omega), hl, show 2 * i - 2 * i = 0 by omega]; rfl
      · rw [e, List.getD_eq_getElem?_getD, List.getElem?_append_right (by omega), hl, show 2 * i + 1 - 2 * i = 1 by omega]; rfl
def highL (M : List (List Int)) : Nat → List Int
  | 0 => []
  | k + 1 => highL M k ++ [mget M 0 k]
def lowL (M : List (List Int)) : Nat → List Int
  | 0 => []
  | k + 1 => lowL M k ++ [-(mget M k 0)]
theorem highL_len (M : List (List Int)) : ∀ k, (highL M k).length = k
  | 0 => rfl
  | k + 1 => by unfold highL; simp [highL_len M k]
theorem lowL_len (M : List (List Int)) : ∀ k, (lowL M k).length = k
  | 0 => rfl
  | k + 1 => by unfold lowL; simp [lowL_len M k]
theorem highL_get (M : List (List Int)) : ∀ n k, k < n → (highL M n).getD k 0 = mget M 0 k
  | 0, k, hk => by omega
  | n + 1, k, hk => by
    have hl := highL_len M n
    unfold highL
    rw [List.getD_eq_getElem?_getD]
    by_cases h : k < n
    · rw [List.getElem?_append_left (by omega), ← List.getD_eq_getElem?_getD]; exact highL_get M n k h
    · have : k = n := by omega
      subst this
      rw [List.getElem?_append_right (by omega), hl]; simp
theorem lowL_get (M : List (List Int)) : ∀ n k, k < n → (lowL M n).getD k 0 = -(mget M k 0)
  | 0, k, hk => by omega
  | n + 1, k, hk => by
    have hl := lowL_len M n
    unfold lowL
    rw [List.getD_eq_getElem?_getD]
    by_cases h : k < n
    · rw [List.getElem?_append_left (by omega), ← List.getD_eq_getElem?_getD]; exact lowL_get M n k h
    · have : k = n := by omega
      subst this
      rw [List.getElem?_append_right (by omega), hl]; simp
theorem brk_zero {ys : List Int} : ∀ {l : List Rd} {k : Int}, (∀ i, i < l.length → keepsB (l.getD i rd0) ys = true) → brk ys l k = (0, 0)
  | [], _, _ => rfl
  | r :: rs, k, h => by
    unfold brk
    rw [if_pos (show keepsB r ys = true from h 0 (by simp))]
    exact brk_zero fun i hi => h (i + 1) (by simpa using hi)
theorem ht_zero {z : Nat} {l : List Rd} {ys : List Int} (h1 : ys.length = z) (h2 : ∀ k, k < z → -100000000 ≤ ys.getD k 0 ∧ ys.getD k 0 ≤ 100000000) (h3 : ∀ i, i < l.length → keepsB (l.getD i rd0) ys = true) : checkHt z l ys = (0, 0) := by
  unfold checkHt
  rw [if_neg (by omega)]
  have : ys.any hBad = false := by
    rw [List.any_eq_false]
    intro x hx
    obtain ⟨k, hk, rfl⟩ := List.getElem_of_mem hx
    have := h2 k (by omega)
    simp [List.getD, hk] at this
    unfold hBad
    simp
    omega
  rw [this]
  exact brk_zero h3
theorem ends_ok {z : Nat} {l : List Rd} (h : checkR z l = 0) (hr : ∃ r, r ≤ z ∧ (rnds (arcsL l l.length) z (r + 1)).at_ < 0) (hw : ((tabM (arcsL l l.length) z).getD 0 []).any isFar = false) :
    mget (tabM (arcsL l l.length) z) 0 0 = 0 ∧ (∀ k, k < z → -41000000 ≤ mget (tabM (arcsL l l.length) z) 0 k ∧ mget (tabM (arcsL l l.length) z) 0 k ≤ 41000000 ∧ -41000000 ≤ mget (tabM (arcsL l l.length) z) k 0 ∧ mget (tabM (arcsL l l.length) z) k 0 ≤ 41000000) ∧
    checkHt z l (highL (tabM (arcsL l l.length) z) z) = (0, 0) ∧ checkHt z l (lowL (tabM (arcsL l l.length) z) z) = (0, 0) := by
  obtain ⟨hz, hl, hrd⟩ := checkR_ok h
  obtain ⟨hA, hN, hok⟩ := arcs_ok hrd
  have hn : (arcsL l l.length).length ≤ 200 := by have := arcsL_len l l.length; omega
  obtain ⟨P, hP1, hP2⟩ := rest_bound hA hn hr (by omega)
  have hS := tab_stt hA hN (by omega) hP1 hP2
  have h2 := arcs_two l
  have hag := arcs_get l l.length (Nat.le_refl _)
  have hro := rdErr_ok hrd
  have hfar : far = 1099511627776 := rfl
  generalize tabM (arcsL l l.length) z = M at *
  have hrow : ∀ k, k < z → mget M 0 k < far := fun k hk => by
    have h3 := hS.hi 0 k (by omega) hk
    rw [List.any_eq_false] at hw
    have hk2 : k < (M.getD 0 []).length := by rw [hS.sq.hr 0 (by omega)]; exact hk
    have h4 := hw (mget M 0 k) (by unfold mget; rw [List.getD_eq_getElem?_getD (l := M.getD 0 []), List.getElem?_eq_getElem hk2]; exact List.getElem_mem hk2)
    unfold isFar at h4
    simp at h4
    omega
  have hcol : ∀ k, k < z → mget M k 0 < far := fun k hk => hS.back hA h2 (by omega) (by omega) hk (hrow k hk)
  have hb : ∀ k, k < z → -41000000 ≤ mget M 0 k ∧ mget M 0 k ≤ 41000000 ∧ -41000000 ≤ mget M k 0 ∧ mget M k 0 ≤ 41000000 := fun k hk => by
    have h3 := hS.bound hA (by omega) (by omega) hk (hrow k hk)
    have h4 := hS.bound hA (by omega) hk (by omega) (hcol k hk)
    have h5 := hS.cl k 0 0 hk (by omega) (by omega) (hrow k hk) (hcol k hk)
    rw [hS.dg 0 (by omega)] at h5
    omega
  have harc : ∀ k, k < (arcsL l l.length).length → mget M 0 ((arcsL l l.length).getD k ar0).t.toNat ≤ mget M 0 ((arcsL l l.length).getD k ar0).f.toNat + ((arcsL l l.length).getD k ar0).len ∧ mget M ((arcsL l l.length).getD k ar0).f.toNat 0 ≤ ((arcsL l l.length).getD k ar0).len + mget M ((arcsL l l.length).getD k ar0).t.toNat 0 := fun k hk => by
    have hAk := hA k hk
    have hf : ((arcsL l l.length).getD k ar0).f.toNat < z := by omega
    have ht : ((arcsL l l.length).getD k ar0).t.toNat < z := by omega
    have h3 := hS.opt [] _ _ _ hf ht List.nodup_nil (fun v hv => by simp at hv) (Wk.arc hk)
    have h4 := hS.cl _ 0 _ hf (by omega) ht (hrow _ hf) (by omega)
    have h5 := hS.cl _ _ 0 ht hf (by omega) (by omega) (hcol _ ht)
    omega
  refine ⟨hS.dg 0 (by omega), hb, ht_zero (highL_len M z) (fun k hk => by rw [highL_get M z k hk]; have := hb k hk; omega) fun i hi => ?_, ht_zero (lowL_len M z) (fun k hk => by rw [lowL_get M z k hk]; have := hb k hk; omega) fun i hi => ?_⟩
  · obtain ⟨k, m, hk, hm, e1, e2⟩ := hag i hi
    have a1 := (harc k hk).1
    have a2 := (harc m hm).1
    rw [e1] at a1
    rw [e2] at a2
    dsimp only at a1 a2
    have hi2 := hro i hi
    unfold keepsB
    rw [highL_get M z _ (by omega), highL_get M z _ (by omega)]
    simp only [Bool.and_eq_true, decide_eq_true_eq]
    omega
  · obtain ⟨k, m, hk, hm, e1, e2⟩ := hag i hi
    have a1 := (harc k hk).2
    have a2 := (harc m hm).2
    rw [e1] at a1
    rw [e2] at a2
    dsimp only at a1 a2
    have hi2 := hro i hi
    unfold keepsB
    rw [lowL_get M z _ (by omega), lowL_get M z _ (by omega)]
    simp only [Bool.and_eq_true, decide_eq_true_eq]
    omega
end Go.Abs
