import Derived.Test.YtodheeifecoebaaK200
import Derived.Test.YtodheeifecoebaaK260
set_option linter.all false
set_option linter.unusedVariables false
set_option linter.unusedSimpArgs false
set_option linter.unusedSectionVars false
namespace Go.Abs
/-! FORESTS: the ways back, and the loop that two neighbours close -/
section
variable {n : Nat} {th : Nat → Bool} {ed : Nat → Nat → Bool} {st : Nat → Nat → Int} {ph : Nat → Int} {o : List Nat} {h fr : Nat → Int}
/-- the way from a cell back to the first one -/
structure Ch (th : Nat → Bool) (ed : Nat → Nat → Bool) (st : Nat → Nat → Int) (o : List Nat) (h fr : Nat → Int) (X : List Nat) : Prop where
  ne : 1 ≤ X.length
  nx : ∀ i, i + 1 < X.length → fr (X.getD i 0) = (X.getD (i + 1) 0 : Nat) ∧ ed (X.getD (i + 1) 0) (X.getD i 0) = true ∧ h (X.getD i 0) = h (X.getD (i + 1) 0) + st (X.getD (i + 1) 0) (X.getD i 0)
  rt : fr (X.getD (X.length - 1) 0) = -1 ∧ Rt th ed (X.getD (X.length - 1) 0)
  on : ∀ i, i < X.length → X.getD i 0 ∈ o
theorem getD_cons (a : Nat) (l : List Nat) (i : Nat) : (a :: l).getD (i + 1) 0 = l.getD i 0 := rfl
theorem Fo.chain (hf : Fo n th ed st ph o h fr) {c : Nat} (hc : c ∈ o) : ∃ X, Ch th ed st o h fr X ∧ X.getD 0 0 = c ∧ X.length ≤ o.length := by
  have key : ∀ (i : Nat) (x : Nat), o[i]? = some x → ∃ X, Ch th ed st o h fr X ∧ X.getD 0 0 = x ∧ X.length ≤ i + 1 := by
    intro i
    induction i using Nat.strongRecOn with
    | _ i ih =>
      intro x hx
      have hxo := List.mem_of_getElem? hx
      rcases hf.tr i x hx with ⟨h1, h2, h3⟩ | ⟨j, a, h1, h2, h3, h4, h5⟩
      · exact ⟨[x], ⟨Nat.le_refl _, fun i hi => by simp at hi, ⟨h1, h3⟩, fun i hi => by
          have : i = 0 := by simp at hi; omega
          subst this; exact hxo⟩, rfl, by simp⟩
      · obtain ⟨X, hX, hX0, hXl⟩ := ih j h1 a h2
        refine ⟨x :: X, ⟨by simp, fun i hi => ?_, ?_, fun i hi => ?_⟩, rfl, by simp; omega⟩
        · cases i with
          | zero => rw [getD_cons, hX0]; exact ⟨h3, h4, h5⟩
          | succ i => rw [getD_cons, getD_cons]; exact hX.nx i (by simp at hi; omega)
        · have := hX.ne
          rw [List.length_cons, show X.length + 1 - 1 = (X.length - 1) + 1 by omega, getD_cons]; exact hX.rt
        · cases i with
          | zero => exact hxo
          | succ i => rw [getD_cons]; exact hX.on i (by simp at hi; omega)
  obtain ⟨i, hi, hic⟩ := List.mem_iff_getElem.1 hc
  obtain ⟨X, hX, h0, hl⟩ := key i c (by rw [List.getElem?_eq_getElem hi, hic])
  exact ⟨X, hX, h0, by omega⟩
/-- from a cell on, ways are one way -/
theorem Ch.tail {X Y : List Nat} (hX : Ch th ed st o h fr X) (hY : Ch th ed st o h fr Y) {i j : Nat} (hi : i < X.length) (hj : j < Y.length) (he : X.getD i 0 = Y.getD j 0) : ∀ d, i + d < X.length → j + d < Y.length ∧ X.getD (i + d) 0 = Y.getD (j + d) 0
  | 0, _ => ⟨hj, he⟩
  | d + 1, hd => by
    obtain ⟨h1, h2⟩ := Ch.tail hX hY hi hj he d (by omega)
    have h3 := (hX.nx (i + d) (by omega)).1
    by_cases h4 : j + d + 1 < Y.length
    · have h5 := (hY.nx (j + d) h4).1
      rw [h2, h5] at h3
      exact ⟨h4, (Int.ofNat.inj h3).symm⟩
    · have h5 := hY.rt.1
      rw [show Y.length - 1 = j + d by omega, ← h2, h3] at h5
      omega
theorem Ch.rest {X Y : List Nat} (hX : Ch th ed st o h fr X) (hY : Ch th ed st o h fr Y) {i j : Nat} (hi : i < X.length) (hj : j < Y.length) (he : X.getD i 0 = Y.getD j 0) : X.length - i = Y.length - j := by
  have h1 := (Ch.tail hX hY hi hj he (X.length - 1 - i) (by omega)).1
  have h2 := (Ch.tail hY hX hj hi he.symm (Y.length - 1 - j) (by omega)).1
  omega
theorem Ch.nd {X : List Nat} (hX : Ch th ed st o h fr X) {i j : Nat} (hi : i < X.length) (hj : j < X.length) (he : X.getD i 0 = X.getD j 0) : i = j := by
  have := Ch.rest hX hX hi hj he
  omega
/-- both ways end at the same cell -/
theorem Ch.one (hs : ∀ a b, ed a b = ed b a) {X Y : List Nat} (hX : Ch th ed st o h fr X) (hY : Ch th ed st o h fr Y) (he : ed (X.getD 0 0) (Y.getD 0 0) = true) : X.getD (X.length - 1) 0 = Y.getD (Y.length - 1) 0 := by
  have cn : ∀ {Z : List Nat}, Ch th ed st o h fr Z → ∀ i, i < Z.length → Cn ed (Z.getD (Z.length - 1) 0) (Z.getD (Z.length - 1 - i) 0) := fun {Z} hZ i => by
    induction i with
    | zero => intro _; exact .refl _
    | succ i ih =>
      intro hi
      have h1 := (hZ.nx (Z.length - 1 - (i + 1)) (by omega)).2.1
      rw [show Z.length - 1 - (i + 1) + 1 = Z.length - 1 - i by omega] at h1
      exact (ih (by omega)).step h1
  have h1 := cn hX (X.length - 1) (by have := hX.ne; omega)
  have h2 := cn hY (Y.length - 1) (by have := hY.ne; omega)
  rw [Nat.sub_self] at h1 h2
  have h3 := (h1.step he).trans (h2.symm hs)
  have r1 := hX.rt.2
  have r2 := hY.rt.2
  rcases Nat.lt_trichotomy (X.getD (X.length - 1) 0) (Y.getD (Y.length - 1) 0) with hlt | heq | hgt
  · exact (r2.2 _ hlt r1.1 h3).elim
  · exact heq
  · exact (r1.2 _ hgt r2.1 (h3.symm hs)).elim
/-- the loop, what both have in common left out -/
def lpL (X Y : List Nat) (t : Nat) : List Nat := X.take (X.length - t) ++ (Y.take (Y.length - t - 1)).reverse
theorem lpL_len {X Y : List Nat} {t : Nat} : (lpL X Y t).length = (X.length - t) + (Y.length - t - 1) := by simp [lpL]; omega
theorem lpL_x {X Y : List Nat} {t k : Nat} (hk : k < X.length - t) : (lpL X Y t).getD k 0 = X.getD k 0 := by
  unfold lpL
  rw [List.getD_eq_getElem?_getD, List.getElem?_append_left (by simp; omega), List.getElem?_take, if_pos hk, List.getD_eq_getElem?_getD]
theorem lpL_y {X Y : List Nat} {t k : Nat} (hx : t ≤ X.length) (hk : k < Y.length - t - 1) : (lpL X Y t).getD (X.length - t + k) 0 = Y.getD (Y.length - t - 1 - 1 - k) 0 := by
  unfold lpL
  have hl : (X.take (X.length - t)).length = X.length - t := by simp
  have hl2 : (Y.take (Y.length - t - 1)).length = Y.length - t - 1 := by simp; omega
  rw [List.getD_eq_getElem?_getD, List.getElem?_append_right (by omega), hl, Nat.add_sub_cancel_left, List.getElem?_reverse (by omega), hl2, List.getElem?_take, if_pos (by omega), List.getD_eq_getElem?_getD]
/-- a walk that keeps to heights but for its last step does not close -/
theorem walk_sum {Z : Nat → Nat} {h : Nat → Int} (m : Nat) (hz : ∀ k, k < m → st (Z k) (Z (k + 1)) = h (Z (k + 1)) - h (Z k)) : sm (fun k => st (Z k) (Z (k + 1))) m = h (Z m) - h (Z 0) := by
  induction m with
  | zero => simp [sm]
  | succ m ih =>
    show sm (fun k => st (Z k) (Z (k + 1))) m + st (Z m) (Z (m + 1)) = _
    rw [ih fun k hk => hz k (by omega), hz m (by omega)]; omega
theorem loop_ok (hg : Gr n th ed st) (hf : Fo n th ed st ph o h fr) {X Y : List Nat} (hX : Ch th ed st o h fr X) (hY : Ch th ed st o h fr Y) {t : Nat} (hx : t < X.length) (hy : t < Y.length)
    (hc : X.getD (X.length - 1 - t) 0 = Y.getD (Y.length - 1 - t) 0) (hexit : ¬(1 < X.length - t ∧ 1 < Y.length - t ∧ X.getD (X.length - t - 2) 0 = Y.getD (Y.length - t - 2) 0))
    (he : ed (X.getD 0 0) (Y.getD 0 0) = true) (hbad : h (Y.getD 0 0) - h (X.getD 0 0) ≠ st (X.getD 0 0) (Y.getD 0 0)) :
    (2 ≤ (lpL X Y t).length ∧ (lpL X Y t).length ≤ n) ∧ (∀ k, k < (lpL X Y t).length → (lpL X Y t).getD k 0 < n ∧ th ((lpL X Y t).getD k 0) = true) ∧
    (∀ k, k < (lpL X Y t).length → ed ((lpL X Y t).getD k 0) ((lpL X Y t).getD ((k + 1) % (lpL X Y t).length) 0) = true) ∧
    sm (fun k => st ((lpL X Y t).getD k 0) ((lpL X Y t).getD ((k + 1) % (lpL X Y t).length) 0)) (lpL X Y t).length ≠ 0 := by
  have hne : X.getD 0 0 ≠ Y.getD 0 0 := fun e => by
    have h1 := hg.anti _ _ he
    rw [e] at h1 hbad
    omega
  have hlen := lpL_len (X := X) (Y := Y) (t := t)
  have gx := fun k hk => lpL_x (X := X) (Y := Y) (t := t) (k := k) hk
  have gy := fun k hk => lpL_y (X := X) (Y := Y) (t := t) (k := k) (by omega) hk
  -- the step from one to the next
  have hstep : ∀ k, k + 1 < (lpL X Y t).length → ed ((lpL X Y t).getD k 0) ((lpL X Y t).getD (k + 1) 0) = true ∧ st ((lpL X Y t).getD k 0) ((lpL X Y t).getD (k + 1) 0) = h ((lpL X Y t).getD (k + 1) 0) - h ((lpL X Y t).getD k 0) := fun k hk => by
    by_cases h1 : k + 1 < X.length - t
    · rw [gx k (by omega), gx (k + 1) h1]
      obtain ⟨_, e2, e3⟩ := hX.nx k (by omega)
      refine ⟨by rw [hg.sym]; exact e2, ?_⟩
      rw [hg.anti _ _ e2]; omega
    · have hY1 : ∀ d, d < Y.length - t - 1 → ed (Y.getD (d + 1) 0) (Y.getD d 0) = true ∧ st (Y.getD (d + 1) 0) (Y.getD d 0) = h (Y.getD d 0) - h (Y.getD (d + 1) 0) := fun d hd => by
        obtain ⟨_, e2, e3⟩ := hY.nx d (by omega)
        exact ⟨e2, by omega⟩
      by_cases h2 : k + 1 = X.length - t
      · have e1 := gy 0 (by omega)
        rw [gx k (by omega), h2, show X.length - t = X.length - t + 0 by omega, e1]
        have h3 := hY1 (Y.length - t - 1 - 1) (by omega)
        rw [show Y.length - t - 1 - 1 + 1 = Y.length - 1 - t by omega, ← hc, show X.length - 1 - t = k by omega] at h3
        exact h3
      · obtain ⟨u, rfl⟩ : ∃ u, k = X.length - t + u := ⟨k - (X.length - t), by omega⟩
        rw [gy u (by omega), Nat.add_assoc, gy (u + 1) (by omega)]
        have h3 := hY1 (Y.length - t - 1 - 1 - (u + 1)) (by omega)
        rw [show Y.length - t - 1 - 1 - (u + 1) + 1 = Y.length - t - 1 - 1 - u by omega] at h3
        exact h3
  have hfst : (lpL X Y t).getD 0 0 = X.getD 0 0 := gx 0 (by omega)
  have hlst : (lpL X Y t).getD ((lpL X Y t).length - 1) 0 = Y.getD 0 0 := by
    by_cases hq : Y.length - t - 1 = 0
    · rw [hlen, hq, gx _ (by omega), show X.length - t + 0 - 1 = X.length - 1 - t by omega, hc, show Y.length - 1 - t = 0 by omega]
    · rw [hlen, show X.length - t + (Y.length - t - 1) - 1 = X.length - t + (Y.length - t - 1 - 1) by omega, gy _ (by omega), Nat.sub_self]
  have hl2 : 2 ≤ (lpL X Y t).length := by
    rcases Nat.lt_or_ge (lpL X Y t).length 2 with hlt | hge
    · exfalso
      rw [show (lpL X Y t).length - 1 = 0 by omega, hfst] at hlst
      exact hne hlst
    · exact hge
  have hno : ∀ i j, i < X.length - t → j < Y.length - t - 1 → X.getD i 0 ≠ Y.getD j 0 := fun i j hi hj e => by
    have h1 := Ch.rest hX hY (by omega) (by omega) e
    have h2 := (Ch.tail hX hY (by omega) (by omega) e (X.length - t - 2 - i) (by omega)).2
    refine hexit ⟨by omega, by omega, ?_⟩
    rw [show i + (X.length - t - 2 - i) = X.length - t - 2 by omega, show j + (X.length - t - 2 - i) = Y.length - t - 2 by omega] at h2
    exact h2
  have hon : ∀ k, k < (lpL X Y t).length → (lpL X Y t).getD k 0 ∈ o := fun k hk => by
    by_cases h1 : k < X.length - t
    · rw [gx k h1]; exact hX.on k (by omega)
    · obtain ⟨u, rfl⟩ : ∃ u, k = X.length - t + u := ⟨k - (X.length - t), by omega⟩
      rw [gy u (by omega)]; exact hY.on _ (by omega)
  have hnd : (lpL X Y t).Nodup := by
    unfold List.Nodup
    rw [List.pairwise_iff_getElem]
    intro i j hi hj hij e
    have key : ∀ i j, i < j → j < (lpL X Y t).length → (lpL X Y t).getD i 0 ≠ (lpL X Y t).getD j 0 := fun i j hij hj e => by
      by_cases h1 : i < X.length - t
      · rw [gx i h1] at e
        by_cases h2 : j < X.length - t
        · rw [gx j h2] at e
          have := Ch.nd hX (by omega) (by omega) e; omega
        · obtain ⟨u, rfl⟩ : ∃ u, j = X.length - t + u := ⟨j - (X.length - t), by omega⟩
          rw [gy u (by omega)] at e
          exact hno _ _ h1 (by omega) e
      · obtain ⟨u, rfl⟩ : ∃ u, i = X.length - t + u := ⟨i - (X.length - t), by omega⟩
        obtain ⟨v, rfl⟩ : ∃ v, j = X.length - t + v := ⟨j - (X.length - t), by omega⟩
        rw [gy u (by omega), gy v (by omega)] at e
        have := Ch.nd hY (by omega) (by omega) e; omega
    exact key i j hij hj (by rw [List.getD_eq_getElem?_getD, List.getD_eq_getElem?_getD, List.getElem?_eq_getElem hi, List.getElem?_eq_getElem hj, e])
  refine ⟨⟨hl2, nodupLe n _ hnd fun v hv => ?_⟩, fun k hk => hf.inn _ (hon k hk), fun k hk => ?_, ?_⟩
  · obtain ⟨i, hi, rfl⟩ := List.mem_iff_getElem.1 hv
    have := hon i hi
    rw [List.getD_eq_getElem?_getD, List.getElem?_eq_getElem hi] at this
    exact (hf.inn _ this).1
  · by_cases h1 : k + 1 < (lpL X Y t).length
    · rw [Nat.mod_eq_of_lt h1]; exact (hstep k h1).1
    · rw [show k + 1 = (lpL X Y t).length by omega, Nat.mod_self, hfst, show k = (lpL X Y t).length - 1 by omega, hlst, hg.sym]; exact he
  · obtain ⟨m, hm⟩ : ∃ m, (lpL X Y t).length = m + 1 := ⟨(lpL X Y t).length - 1, by omega⟩
    rw [hm]
    show sm _ m + _ ≠ 0
    have h1 := walk_sum (st := st) (Z := fun k => (lpL X Y t).getD k 0) (h := h) m fun k hk => (hstep k (by omega)).2
    have h2 : sm (fun k => st ((lpL X Y t).getD k 0) ((lpL X Y t).getD ((k + 1) % (m + 1)) 0)) m = sm (fun k => st ((lpL X Y t).getD k 0) ((lpL X Y t).getD (k + 1) 0)) m := sm_congr m fun k hk => by rw [Nat.mod_eq_of_lt (by omega)]
    rw [h2, h1]
    dsimp only
    rw [Nat.mod_self, show m = (lpL X Y t).length - 1 by omega, hlst, hfst, hg.anti _ _ he]
    omega
end
end Go.Abs
