import Derived.Test.YtodheeifecoebaaK234x
set_option linter.all false
set_option linter.unusedVariables false
set_option linter.unusedSimpArgs false
set_option linter.unusedSectionVars false
namespace Go.Abs
open Go.Proofs
/-! the program's fit is accepted -/
theorem sm_nn {f : Nat → Int} : ∀ n, (∀ i, i < n → 0 ≤ f i) → 0 ≤ sm f n
  | 0, _ => Int.le_refl _
  | n + 1, h => by
    have h1 := sm_nn n fun i hi => h i (by omega)
    have h2 := h n (by omega)
    unfold sm; omega
theorem sm_nz {f : Nat → Int} : ∀ n, (∀ i, i < n → 0 ≤ f i) → sm f n = 0 → ∀ i, i < n → f i = 0
  | 0, _, _, i, hi => by omega
  | n + 1, h, e, i, hi => by
    have h1 := sm_nn n fun i hi => h i (by omega)
    have h2 := h n (by omega)
    unfold sm at e
    by_cases hin : i = n
    · rw [hin]; omega
    · exact sm_nz n (fun i hi => h i (by omega)) (by omega) i (by omega)
theorem sq_nn (x : Int) : 0 ≤ x * x := by
  rcases Int.le_total 0 x with h | h
  · exact Int.mul_nonneg h h
  · have := Int.mul_nonneg (show 0 ≤ -x by omega) (show 0 ≤ -x by omega)
    rwa [Int.neg_mul_neg] at this
/-- Cauchy and Schwarz -/
theorem cs_le (a b : Nat → Int) (n : Nat) : sm (fun i => a i * b i) n * sm (fun i => a i * b i) n ≤ sm (fun i => a i * a i) n * sm (fun i => b i * b i) n := by
  have hBn := sm_nn n fun i _ => sq_nn (b i)
  have key : sm (fun i => (sm (fun i => b i * b i) n * a i - sm (fun i => a i * b i) n * b i) * (sm (fun i => b i * b i) n * a i - sm (fun i => a i * b i) n * b i)) n
      = sm (fun i => b i * b i) n * (sm (fun i => a i * a i) n * sm (fun i => b i * b i) n - sm (fun i => a i * b i) n * sm (fun i => a i * b i) n) := by
    generalize hB : sm (fun i => b i * b i) n = B
    generalize hC : sm (fun i => a i * b i) n = C
    have e : ∀ i, (B * a i - C * b i) * (B * a i - C * b i) = (B * B) * (a i * a i) - (2 * (B * C)) * (a i * b i) + (C * C) * (b i * b i) := fun i => by grind
    rw [sm_congr n fun i _ => e i, sm_add, sm_sub, sm_mul, sm_mul, sm_mul, hB, hC]
    grind
  have hk := sm_nn n fun i _ => sq_nn (sm (fun i => b i * b i) n * a i - sm (fun i => a i * b i) n * b i)
  rw [key] at hk
  generalize hB : sm (fun i => b i * b i) n = B at *
  by_cases h0 : B = 0
  · have hz := sm_nz n (fun i _ => sq_nn (b i)) (by rw [hB]; exact h0)
    have e : sm (fun i => a i * b i) n = 0 := by
      rw [sm_congr (g := fun _ => 0) n fun i hi => by
        have := hz i hi
        have hb : b i = 0 := by rcases Int.mul_eq_zero.1 this with h | h <;> exact h
        rw [hb]; simp]
      exact sm_zero n
    rw [e, h0]; simp
  · have hpos : 0 < B := by omega
    have := Int.nonneg_of_mul_nonneg_right (a := B) hk hpos
    omega
theorem gfP_dvd (N : List Int) (D : Int) : ∀ k, gfP N D k ∣ D ∧ ∀ j, j < k → gfP N D k ∣ N.getD j 0
  | 0 => ⟨Int.dvd_refl _, fun j hj => by omega⟩
  | k + 1 => by
    obtain ⟨h1, h2⟩ := gfP_dvd N D k
    have a : gfP N D (k + 1) ∣ N.getD k 0 := Int.gcd_dvd_left ..
    have b : gfP N D (k + 1) ∣ gfP N D k := Int.gcd_dvd_right ..
    refine ⟨Int.dvd_trans b h1, fun j hj => ?_⟩
    by_cases hjk : j = k
    · rw [hjk]; exact a
    · exact Int.dvd_trans b (h2 j (by omega))
theorem gfP_pos {N : List Int} {D : Int} (hD : 0 < D) : ∀ k, 0 < gfP N D k
  | 0 => hD
  | k + 1 => by
    have := gfP_bd (N := N) (D := D) (by omega) (k + 1)
    have e : gfP N D (k + 1) = (Int.gcd (N.getD k 0) (gfP N D k) : Int) := rfl
    omega
theorem gfP_scale {N N' : List Int} {D D' g : Int} (hg : 0 < g) (hD : D = g * D') : ∀ k, (∀ j, j < k → N.getD j 0 = g * N'.getD j 0) → gfP N D k = g * gfP N' D' k
  | 0, _ => hD
  | k + 1, h => by
    have ih := gfP_scale (N := N) (N' := N') hg hD k fun j hj => h j (by omega)
    show (Int.gcd (N.getD k 0) (gfP N D k) : Int) = g * (Int.gcd (N'.getD k 0) (gfP N' D' k) : Int)
    rw [ih, h k (by omega), Int.gcd_mul_left, Int.natCast_mul, Int.natAbs_of_nonneg (by omega)]
section
variable {rows : List (Bool × List Int)} {h : List Int}
theorem fP_comm (rows : List (Bool × List Int)) (n i j : Nat) : fP rows n i j = fP rows n j i := sm_congr n fun k _ => Int.mul_comm ..
theorem fD_pos (hD : fD rows h ≠ 0) : 0 < fD rows h := by
  have h1 := cs_le (fun i => (rowN rows 0).2.getD i 0) (fun i => (rowN rows 1).2.getD i 0) h.length
  have h2 := sm_nn h.length fun i _ => sq_nn ((rowN rows 0).2.getD i 0)
  unfold fD at hD ⊢
  unfold fP dotN at hD ⊢
  split at hD
  · rename_i h3
    rw [if_pos h3]; omega
  · rename_i h3
    rw [if_neg h3]; omega
/-- the numbers solve the equations -/
theorem rm_zero (o : FtOk rows h) {k : Nat} (hk : k < rows.length) : rmF rows h (fN rows h) (fD rows h) k rows.length = 0 := by
  have hk2 := o.hk
  have hc := fP_comm rows h.length 1 0
  by_cases h2 : rows.length = 2
  · unfold rmF fN fD
    rw [if_pos h2, if_pos h2, h2]
    simp only [sm, List.getD_cons_zero, List.getD_cons_succ]
    have : k = 0 ∨ k = 1 := by omega
    rcases this with rfl | rfl
    · grind
    · rw [hc]; grind
  · have h1 : rows.length = 1 := by omega
    have : k = 0 := by omega
    subst this
    unfold rmF fN fD
    rw [if_neg h2, if_neg h2, h1]
    simp only [sm, List.getD_cons_zero]
    grind
theorem fit_ok (hc : checkF rows h = 0) (hD : fD rows h ≠ 0) : chkF rows h (dvL (fN rows h) (gfP (fN rows h) (fD rows h) (fN rows h).length)) ((fD rows h).tdiv (gfP (fN rows h) (fD rows h) (fN rows h).length)) = 0 := by
  have o := checkF_ok hc
  have hDp := fD_pos hD
  obtain ⟨hNl, hNb⟩ := o.N
  have hDb := o.D
  have hz := fun k hk => rm_zero o (k := k) hk
  have hk2 := o.hk
  obtain ⟨d1, d2⟩ := gfP_dvd (fN rows h) (fD rows h) (fN rows h).length
  have hg := gfP_pos (N := fN rows h) hDp (fN rows h).length
  generalize hG : gfP (fN rows h) (fD rows h) (fN rows h).length = g at *
  have eD : fD rows h = g * (fD rows h).tdiv g := (Int.mul_tdiv_cancel' d1).symm
  have eN : ∀ j, j < (fN rows h).length → (fN rows h).getD j 0 = g * (dvL (fN rows h) g).getD j 0 := fun j hj => by
    rw [dvL_get hj]; exact (Int.mul_tdiv_cancel' (d2 j hj)).symm
  have hl := dvL_len (fN rows h) g
  have hs := gfP_scale (N := fN rows h) (N' := dvL (fN rows h) g) hg eD (fN rows h).length eN
  rw [hG] at hs
  have hone : gfP (dvL (fN rows h) g) ((fD rows h).tdiv g) (fN rows h).length = 1 := by
    generalize gfP (dvL (fN rows h) g) ((fD rows h).tdiv g) (fN rows h).length = x at hs
    have : g * x = g * 1 := by omega
    exact Int.eq_of_mul_eq_mul_left (by omega) this
  have hrm : ∀ k, k < rows.length → rmF rows h (dvL (fN rows h) g) ((fD rows h).tdiv g) k rows.length = 0 := fun k hk => by
    have e : g * rmF rows h (dvL (fN rows h) g) ((fD rows h).tdiv g) k rows.length = rmF rows h (fN rows h) (fD rows h) k rows.length := by
      unfold rmF
      rw [Int.mul_sub, ← sm_mul, ← Int.mul_assoc, ← eD]
      congr 1
      exact sm_congr _ fun m hm => by rw [← Int.mul_assoc, ← eN m (by omega)]
    rw [hz k hk] at e
    rcases Int.mul_eq_zero.1 e with h1 | h1
    · omega
    · exact h1
  have hD1 : 1 ≤ (fD rows h).tdiv g := by
    rcases Int.lt_or_le 0 ((fD rows h).tdiv g) with h1 | h1
    · omega
    · have := Int.mul_nonneg (show 0 ≤ g by omega) (show 0 ≤ -(fD rows h).tdiv g by omega)
      rw [Int.mul_neg] at this
      omega
  have hD2 := tdivI_bd (g := g) hDb
  unfold chkF
  rw [if_neg (by omega), if_neg (by omega), if_neg ?_, hl, if_neg (by rw [hone]; simp), if_neg]
  · rw [any_range_f (fun j hj => by rw [hrm j hj]; rfl)]; simp
  · rw [Bool.not_eq_true, List.any_eq_false]
    intro x hx
    obtain ⟨j, hj, rfl⟩ := List.getElem_of_mem hx
    have h1 := dvL_get (N := fN rows h) (g := g) (k := j) (by omega)
    rw [List.getD_eq_getElem?_getD, List.getElem?_eq_getElem hj] at h1
    simp only [Option.getD_some] at h1
    rw [h1]
    have h2 := tdivI_bd (g := g) (hNb j (by omega))
    unfold outB
    rw [decide_eq_true h2.1, decide_eq_true h2.2]; simp
end
end Go.Abs
