import Derived.Test.YtodheeifecoebaaK55x
import Derived.Test.YtodheeifecoebaaK56x
import Derived.Test.YtodheeifecoebaaK9
set_option linter.all false
set_option linter.unusedVariables false
set_option linter.unusedSimpArgs false
set_option linter.unusedSectionVars false
namespace Go.Abs
open Go.Proofs
/-- heights that keep all readings keep all arcs -/
theorem brk_all {ys : List Int} : ∀ {l : List Rd} {k : Int}, brk ys l k = (0, 0) → ∀ i, i < l.length → keepsB (l.getD i rd0) ys = true
  | [], _, _, i, hi => by simp at hi
  | r :: rs, k, h, i, hi => by
    unfold brk at h
    split at h
    · rename_i hk
      cases i with
      | zero => exact hk
      | succ i => exact brk_all h i (by simpa using hi)
    · simp at h
theorem ht_ok {z : Int} {l : List Rd} {ys : List Int} (h : (checkHt z l ys).2 = 0) : (ys.length : Int) = z ∧ ys.any hBad = false ∧ ∀ i, i < l.length → keepsB (l.getD i rd0) ys = true := by
  unfold checkHt at h
  split at h
  · simp at h
  · split at h
    · simp at h
    · rename_i h1 h2
      have hb : brk ys l 0 = (0, 0) := by
        have : ∀ (l : List Rd) (k : Int), (brk ys l k).2 = 0 → brk ys l k = (0, 0) := by
          intro l
          induction l with
          | nil => intro k _; rfl
          | cons r rs ih =>
            intro k h
            unfold brk at h ⊢
            split at h
            · rename_i hk; rw [if_pos hk]; exact ih _ h
            · simp at h
        exact this l 0 h
      exact ⟨by omega, by simpa using h2, brk_all hb⟩
theorem ht_fst {z : Int} {l : List Rd} {ys : List Int} (h : (checkHt z l ys).2 = 0) : checkHt z l ys = (0, 0) := by
  unfold checkHt at h ⊢
  split at h
  · simp at h
  · split at h
    · simp at h
    · rename_i h1 h2
      rw [if_neg h1, if_neg h2]
      have : ∀ (l : List Rd) (k : Int), (brk ys l k).2 = 0 → brk ys l k = (0, 0) := by
        intro l
        induction l with
        | nil => intro k _; rfl
        | cons r rs ih =>
          intro k h
          unfold brk at h ⊢
          split at h
          · rename_i hk; rw [if_pos hk]; exact ih _ h
          · simp at h
      exact this l 0 h
theorem keeps_pot {l : List Rd} {ys : List Int} (h : ∀ i, i < l.length → keepsB (l.getD i rd0) ys = true) : ∀ k, k < (arcsL l l.length).length → ys.getD ((arcsL l l.length).getD k ar0).t.toNat 0 ≤ ys.getD ((arcsL l l.length).getD k ar0).f.toNat 0 + ((arcsL l l.length).getD k ar0).len := by
  intro k hk
  obtain ⟨i, hi, h2⟩ := getD_arcs l l.length (Nat.le_refl _) k hk
  have h3 := h i hi
  unfold keepsB at h3
  simp only [Bool.and_eq_true, decide_eq_true_eq] at h3
  rcases h2 with h2 | h2
  · rw [h2]; dsimp only; omega
  · rw [h2]; dsimp only; omega
theorem enc_get (M : List (List Int)) : ∀ n k, k < n → (enc M n).getD k (0, 0) = (-(mget M k 0), mget M 0 k)
  | 0, k, hk => by omega
  | n + 1, k, hk => by
    have hl := enc_len M n
    unfold enc
    rw [List.getD_eq_getElem?_getD]
    by_cases h : k < n
    · rw [List.getElem?_append_left (by omega), ← List.getD_eq_getElem?_getD]; exact enc_get M n k h
    · have : k = n := by omega
      subst this
      rw [List.getElem?_append_right (by omega), hl]; simp
theorem erows_get {xs : List (Int × Int)} {k : Nat} (h : k < xs.length) : (erows xs).getD k [] = [i64 (xs.getD k (0, 0)).1, i64 (xs.getD k (0, 0)).2] := by simp [erows, List.getD, h]
/-- heights that keep the readings: the search comes to rest, and the enclosure holds them -/
theorem ht_enc {z : Nat} {l : List Rd} {ys : List Int} (h : checkR z l = 0) (h2 : (checkHt z l ys).2 = 0) : (∃ r, r ≤ z ∧ (rnds (arcsL l l.length) z (r + 1)).at_ < 0) ∧
    ∀ k, k < z → -(mget (tabM (arcsL l l.length) z) k 0) ≤ ys.getD k 0 - ys.getD 0 0 ∧ ys.getD k 0 - ys.getD 0 0 ≤ mget (tabM (arcsL l l.length) z) 0 k := by
  obtain ⟨hz, hl, hrd⟩ := checkR_ok h
  obtain ⟨hA, hN, hok⟩ := arcs_ok hrd
  obtain ⟨hyl, hyb, hyk⟩ := ht_ok h2
  have hp := keeps_pot hyk
  have hn : (arcsL l l.length).length ≤ 200 := by have := arcsL_len l l.length; omega
  refine ⟨⟨z, Nat.le_refl _, pot_no_circle hA hN hn (by omega) (P := fun v => ys.getD v.toNat 0) fun k hk => hp k hk⟩, fun k hk => ?_⟩
  have hb : ∀ v, v < z → -10000000000 ≤ ys.getD v 0 ∧ ys.getD v 0 ≤ 10000000000 := fun v _ => by have := hBad_get hyb v; omega
  have hlb : Lb z (fun v => ys.getD v 0) (tabM (arcsL l l.length) z) := ((iniM_lb hb).arM hA hp _ (Nat.le_refl _)).fwK z (Nat.le_refl _)
  have h3 := hlb.lo 0 k (by omega) hk
  have h4 := hlb.lo k 0 hk (by omega)
  omega
end Go.Abs
