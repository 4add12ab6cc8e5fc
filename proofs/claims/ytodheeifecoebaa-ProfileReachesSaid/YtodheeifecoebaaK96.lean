import Derived.Test.YtodheeifecoebaaK95x
set_option linter.all false
set_option linter.unusedVariables false
set_option linter.unusedSimpArgs false
set_option linter.unusedSectionVars false
namespace Go.Abs
open Go.Proofs
theorem arM_bd {z : Nat} {A : List Ar} (hA : okAr A z) : ∀ k, k ≤ A.length → Sq z (arM A (iniM z) k) ∧ Bd z (arM A (iniM z) k)
  | 0, _ => ⟨iniM_sq z, fun i j hi hj => by
      show mget (iniM z) i j = far ∨ (-400000000 ≤ mget (iniM z) i j ∧ mget (iniM z) i j ≤ 400000000)
      rw [iniM_mget hi hj]; split
      · right; omega
      · left; rfl⟩
  | k + 1, hk => by
    obtain ⟨h1, h2⟩ := arM_bd hA k (by omega)
    have hAk := hA k (by omega)
    have hf : (A.getD k ar0).f.toNat < z := by omega
    have ht : (A.getD k ar0).t.toNat < z := by omega
    have hfar : far = 1099511627776 := rfl
    unfold arM
    refine ⟨h1.mset _ _ _, fun i j hi hj => ?_⟩
    rw [mget_mset h1 hf ht]
    have b1 := h2 i j hi hj
    have b2 := h2 _ _ hf ht
    split
    · omega
    · exact b1
theorem arcs_idx' (l : List Rd) : ∀ n, n ≤ l.length → ∀ i, i < n → (arcsL l n).getD (2 * i) ar0 = ⟨(l.getD i rd0).a, (l.getD i rd0).b, (l.getD i rd0).hi, (i : Int) + 1⟩ ∧ (arcsL l n).getD (2 * i + 1) ar0 = ⟨(l.getD i rd0).b, (l.getD i rd0).a, -(l.getD i rd0).lo, -(i : Int) - 1⟩
  | 0, _, i, hi => by omega
  | n + 1, hn, i, hi => by
    have hl := arcsL_len l n
    have e : arcsL l (n + 1) = arcsL l n ++ [⟨(l.getD n rd0).a, (l.getD n rd0).b, (l.getD n rd0).hi, (n : Int) + 1⟩, ⟨(l.getD n rd0).b, (l.getD n rd0).a, -(l.getD n rd0).lo, -(n : Int) - 1⟩] := rfl
    by_cases hin : i < n
    · obtain ⟨h1, h2⟩ := arcs_idx' l n (by omega) i hin
      constructor
      · rw [e, List.getD_eq_getElem?_getD, List.getElem?_append_left (by omega), ← List.getD_eq_getElem?_getD, h1]
      · rw [e, List.getD_eq_getElem?_getD, List.getElem?_append_left (by omega), ← List.getD_eq_getElem?_getD, h2]
    · have : i = n := by omega
      subst this
      constructor
      · rw [e, List.getD_eq_getElem?_getD, List.getElem?_append_right (by omega), hl, show 2 * i - 2 * i = 0 by omega]; rfl
      · rw [e, List.getD_eq_getElem?_getD, List.getElem?_append_right (by omega), hl, show 2 * i + 1 - 2 * i = 1 by omega]; rfl
theorem rv_min {x y : Int} (hx : x = far ∨ (-400000000 ≤ x ∧ x ≤ 400000000)) (hy : -1000000 ≤ y ∧ y ≤ 1000000) : rv (min x y) = min (rv x) y := by
  have hfar : far = 1099511627776 := rfl
  have hF : FAR = 1000000000000 := rfl
  unfold rv
  rcases hx with h | h
  · rw [if_pos (by omega), if_neg (by omega)]; omega
  · rw [if_pos (by omega), if_pos (by omega)]
/-- one reading: two arcs -/
theorem toR_arM {z : Nat} {l : List Rd} (hA : okAr (arcsL l l.length) z) (hN : neAr (arcsL l l.length)) {k : Nat} (hk : k < l.length) :
    mset (mset (toR (arM (arcsL l l.length) (iniM z) (2 * k))) (l.getD k rd0).a.toNat (l.getD k rd0).b.toNat (min (mget (toR (arM (arcsL l l.length) (iniM z) (2 * k))) (l.getD k rd0).a.toNat (l.getD k rd0).b.toNat) (l.getD k rd0).hi)) (l.getD k rd0).b.toNat (l.getD k rd0).a.toNat (min (mget (toR (arM (arcsL l l.length) (iniM z) (2 * k))) (l.getD k rd0).b.toNat (l.getD k rd0).a.toNat) (-(l.getD k rd0).lo)) = toR (arM (arcsL l l.length) (iniM z) (2 * (k + 1))) := by
  have hal := arcsL_len l l.length
  obtain ⟨h1, h2⟩ := arM_bd hA (2 * k) (by omega)
  obtain ⟨h3, h4⟩ := arM_bd hA (2 * k + 1) (by omega)
  have e1 := arcs_idx' l l.length (Nat.le_refl _) k hk
  have hA1 := hA (2 * k) (by omega)
  have hA2 := hA (2 * k + 1) (by omega)
  have hN1 := hN (2 * k) (by omega)
  rw [e1.1] at hA1 hN1
  rw [e1.2] at hA2
  dsimp only at hA1 hA2 hN1
  have haz : (l.getD k rd0).a.toNat < z := by omega
  have hbz : (l.getD k rd0).b.toNat < z := by omega
  have s1 : arM (arcsL l l.length) (iniM z) (2 * k + 1) = mset (arM (arcsL l l.length) (iniM z) (2 * k)) (l.getD k rd0).a.toNat (l.getD k rd0).b.toNat (min (mget (arM (arcsL l l.length) (iniM z) (2 * k)) (l.getD k rd0).a.toNat (l.getD k rd0).b.toNat) (l.getD k rd0).hi) := by
    show mset _ _ _ _ = _
    rw [e1.1]
  have s2 : arM (arcsL l l.length) (iniM z) (2 * (k + 1)) = mset (arM (arcsL l l.length) (iniM z) (2 * k + 1)) (l.getD k rd0).b.toNat (l.getD k rd0).a.toNat (min (mget (arM (arcsL l l.length) (iniM z) (2 * k + 1)) (l.getD k rd0).b.toNat (l.getD k rd0).a.toNat) (-(l.getD k rd0).lo)) := by
    have e3 : arM (arcsL l l.length) (iniM z) (2 * k + 1 + 1) = mset (arM (arcsL l l.length) (iniM z) (2 * k + 1)) ((arcsL l l.length).getD (2 * k + 1) ar0).f.toNat ((arcsL l l.length).getD (2 * k + 1) ar0).t.toNat (min (mget (arM (arcsL l l.length) (iniM z) (2 * k + 1)) ((arcsL l l.length).getD (2 * k + 1) ar0).f.toNat ((arcsL l l.length).getD (2 * k + 1) ar0).t.toNat) ((arcsL l l.length).getD (2 * k + 1) ar0).len) := rfl
    rw [show 2 * (k + 1) = 2 * k + 1 + 1 by omega, e3, e1.2]
  have hba : mget (arM (arcsL l l.length) (iniM z) (2 * k + 1)) (l.getD k rd0).b.toNat (l.getD k rd0).a.toNat = mget (arM (arcsL l l.length) (iniM z) (2 * k)) (l.getD k rd0).b.toNat (l.getD k rd0).a.toNat := by
    rw [s1, mget_mset h1 haz hbz, if_neg (fun h => by omega)]
  rw [s2, toR_set _ _ _ _ (by rw [h3.hl]; exact hbz), hba, rv_min (h2 _ _ hbz haz) (by omega), s1, toR_set _ _ _ _ (by rw [h1.hl]; exact haz), rv_min (h2 _ _ haz hbz) (by omega), toR_get h1 haz hbz, toR_get h1 hbz haz]
theorem pos_rng {n j : Nat} (h : j < n) : pos (List.range n) j = some j := by
  have : ∀ (n s j : Nat), j < n → pos (List.range' s n) (s + j) = some j := by
    intro n
    induction n with
    | zero => intro s j h; omega
    | succ n ih =>
      intro s j h
      simp only [List.range'_succ, pos]
      cases j with
      | zero => simp
      | succ j =>
        have := ih (s + 1) j (by omega)
        rw [show s + 1 + j = s + (j + 1) by omega] at this
        rw [if_neg (by omega), this]
        rfl
  have h2 := this n 0 j h
  rwa [Nat.zero_add, ← List.range_eq_range'] at h2
theorem leave_tq {z : Nat} {M : List (List Int)} {H : List Blk} (hH : IsQ z M H) (hs : Sq z M) : (List.range (z + 1)).map (fun id => renB (keepρ 0 (List.range (z + 1))) (hget H id)) = tabB M z := by
  refine List.ext_getElem? fun i => ?_
  cases i with
  | zero =>
    have e : hget H 0 = .cells true false 1 ((List.range z).map fun i => [AV.lsl (1 + i) 0 z]) := by unfold hget; rw [hH.t]; rfl
    simp only [List.range_succ_eq_map, List.map_cons, List.getElem?_cons_zero, e, tabB]
    refine congrArg some ?_
    simp only [renB]
    refine congrArg (Blk.cells true false 1) ?_
    have hren : ∀ l : List Nat, (∀ x ∈ l, x < z) → renR (keepρ 0 (List.range (z + 1))) (l.map fun i => [AV.lsl (1 + i) 0 z]) = l.map fun i => [AV.lsl (1 + i) 0 z] := by
      intro l
      induction l with
      | nil => intro _; rfl
      | cons x l ih =>
        intro hl
        have hx := hl x (by simp)
        have hp : keepρ 0 (List.range (z + 1)) (1 + x) = some (1 + x) := by
          unfold keepρ
          rw [if_neg (by omega), pos_rng (by omega)]
          simp
        simp only [List.map_cons, renR, renL, ren, hp, ih (fun y hy => hl y (by simp [hy]))]
    have := hren (List.range z) (fun x hx => List.mem_range.1 hx)
    simpa [List.range_succ_eq_map] using this
  | succ i =>
    simp only [tabB, List.getElem?_cons_succ, List.getElem?_map]
    by_cases hi : i < z
    · have h1 : (List.range (z + 1))[i + 1]? = some (i + 1) := by simp [hi]
      have h2 : M[i]? = some (M.getD i []) := by simp [List.getD, hs.hl, hi]
      rw [h1, h2]
      simp only [Option.map_some]
      refine congrArg some ?_
      have e : hget H (i + 1) = .cells true false 1 ((M.getD i []).map fun x => [i64 x]) := by
        unfold hget; rw [show i + 1 = 1 + i by omega, hH.r i hi]; rfl
      rw [e]
      simp only [renB, renR_ints, rowB]
    · have h1 : (List.range (z + 1))[i + 1]? = none := by simp; omega
      have h2 : M[i]? = none := by simp [hs.hl]; omega
      rw [h1, h2]; rfl
end Go.Abs
