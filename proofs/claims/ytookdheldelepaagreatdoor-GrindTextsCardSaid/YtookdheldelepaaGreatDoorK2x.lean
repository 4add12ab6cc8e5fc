import Derived.Test.YtookdheldelepaaGreatDoorPCmin
import Derived.Test.YtookdheldelepaaGreatDoorK1x
set_option linter.all false
set_option linter.unusedVariables false
set_option linter.unusedSimpArgs false
set_option linter.unusedSectionVars false
namespace Go.Abs
open Go.Proofs
/-! the program's isName -/
def badAt (k : Nat) (y : Int) : Prop := ¬((97 ≤ y ∧ y ≤ 122) ∨ (65 ≤ y ∧ y ≤ 90)) ∧ (k = 0 ∨ (y ≠ 45 ∧ (y < 48 ∨ 57 < y)))
theorem badAt_z {y : Int} : badAt 0 y ↔ isLt y = false := by
  unfold badAt isLt
  simp only [Bool.or_eq_false_iff, Bool.and_eq_false_iff, decide_eq_false_iff_not]
  constructor
  · rintro ⟨h1, _⟩; exact ⟨by omega, by omega⟩
  · rintro ⟨h1, h2⟩; exact ⟨by omega, .inl trivial⟩
theorem badAt_s {k : Nat} {y : Int} (hk : k ≠ 0) : badAt k y ↔ okCh y = false := by
  unfold badAt okCh isLt isDg
  simp only [Bool.or_eq_false_iff, Bool.and_eq_false_iff, decide_eq_false_iff_not]
  constructor
  · rintro ⟨h1, h2⟩; exact ⟨⟨⟨by omega, by omega⟩, by omega⟩, by omega⟩
  · rintro ⟨⟨⟨h1, h2⟩, h300⟩, h301⟩; exact ⟨by omega, .inr ⟨by omega, by omega⟩⟩
theorem nm_bad {b : ByteArray} {k : Nat} (hk : k < b.size) (h : badAt k ((nums b).getD k 0)) : nmB b = false := by
  unfold nmB
  rw [nmL_eq]
  by_cases h0 : k = 0
  · subst h0
    rw [badAt_z.1 h]; simp
  · have h1 := (badAt_s h0).1 h
    cases ha : (nums b).all okCh with
    | false => simp
    | true => rw [all_nx.1 ha k (by rw [nums_len]; exact hk)] at h1; simp at h1
theorem nm_good {b : ByteArray} (h : ∀ k, k < b.size → ¬badAt k ((nums b).getD k 0)) : nmB b = (decide (b.size ≠ 0) && decide (b.size ≤ 12)) := by
  unfold nmB
  rw [nmL_eq, nums_len]
  by_cases h0 : b.size = 0
  · rw [h0]; rfl
  · have h1 : isLt ((nums b).getD 0 0) = true := by
      have := h 0 (by omega)
      rw [badAt_z] at this
      simpa using this
    have h2 : (nums b).all okCh = true := all_nx.2 fun k hk => by
      rw [nums_len] at hk
      by_cases hk0 : k = 0
      · subst hk0; unfold okCh; rw [h1]; rfl
      · have := h k hk
        rw [badAt_s hk0] at this
        simpa using this
    rw [h1, h2]
    simp [h0]
set_option maxHeartbeats 8000000 in
theorem k32 (b : ByteArray) (hl : b.size < 1000000) : Fn Tryz.prog 32 [tx b] (bl (nmB b)) [] := by
  refine fn_of e32 ?_
  have hcv : (b.data.toList.map fun c => [AV.lit (.int .u8 (c.toNat : Int))]) = (nums b).map fun x => [u8 x] := by unfold nums; rw [List.map_map]; rfl
  have hll : ((nums b).map fun x => [u8 x]).length = b.size := by rw [List.length_map, nums_len]
  have hbad := fun k hk h => nm_bad (b := b) (k := k) hk h
  have hgood := nm_good (b := b)
  have hne : (b.toList == (⟨#[]⟩ : ByteArray).toList) = decide (b.size = 0) := by
    rw [ByteArray.toList_eq, ByteArray.toList_eq]
    show (b.data.toList == []) = _
    have h1 : b.data.toList.length = b.size := by rw [Array.length_toList]; rfl
    cases hb : b.data.toList with
    | nil => rw [hb] at h1; simp at h1; rw [← h1]; rfl
    | cons c r => rw [hb] at h1; simp at h1; rw [← h1]; simp
  replace hbad := PLift.up hbad
  replace hgood := PLift.up hgood
  generalize nmB b = R at *
  unfold c32
  repeat' (first | (with_reducible first | refine T_seq ?_ | refine T_reg ?_ | refine T_skip ?_ | refine T_exit ?_ | refine T_block ?_ | refine T_cond_t rfl ?_ | refine T_cond_f rfl ?_ | refine T_ret ?_ | refine leave_of (.inr rfl) _ rfl ?_ | refine leave_of (.inl rfl) _ rfl ?_ | refine wif_intro ?_ (fun hc => ?_) | refine And.intro ?_ ?_ | intro hc) | simp (maxSteps := 4000000) only [wops_nil, wops_cons, wstep_none, wrun_mv, wrun_cvB, wrun_len, wop, aop, ev, look, put_some, writes, ores_some, ores_map, ores_bind, thenK, intV, lenOf, hget, List.map_cons, List.map_nil, List.length_nil, List.append_nil, List.replicate_zero, List.zipIdx_cons, List.zipIdx_nil, Option.pure_def, Option.bind_eq_bind, if_true, if_false, Nat.reduceEqDiff, Nat.zero_add, reduceCtorEq, eq_self, *] | simp (disch := omega) only [getD_ints, wrapI] | omega)
  refine T_for [0, 7, 8, 9] (fun k => ⟨[(0, tx b), (7, .sl false 1 ((nums b).map fun x => [u8 x])), (8, i64 b.size), (9, i64 k)], []⟩) b.size (fun k => ∀ j, j < k → ¬badAt j ((nums b).getD j 0)) 0 ?_ (fun j hj => by omega) (Nat.zero_le _) ?_
  · simp [St.only, get_mk, look]
  clear hcv
  intro k hk hI
  by_cases hkn : k < b.size
  · have g1 : ((nums b).map fun x => [u8 x]).getD k [] = [u8 ((nums b).getD k 0)] := by
      rw [List.getD_eq_getElem?_getD, List.getElem?_map, List.getD_eq_getElem?_getD, List.getElem?_eq_getElem (by rw [nums_len]; exact hkn)]; rfl
    have hI2 : ¬badAt k ((nums b).getD k 0) → ∀ j, j < k + 1 → ¬badAt j ((nums b).getD j 0) := fun h j hj => by
      rcases Nat.lt_succ_iff_lt_or_eq.1 hj with h' | rfl
      · exact hI j h'
      · exact h
    have hB := hbad.down k hkn
    replace hI2 := PLift.up hI2
    replace hB := PLift.up hB
    clear hI hbad hgood hne
    generalize (nums b).map (fun x => [u8 x]) = L at *
    have hy : ∃ y, y = (nums b).getD k 0 := ⟨_, rfl⟩
    obtain ⟨y, hy⟩ := hy
    rw [← hy] at hI2 hB g1
    clear hy
    unfold c32l0
    repeat' (first | (with_reducible first | refine T_seq ?_ | refine T_reg ?_ | refine T_skip ?_ | refine T_exit ?_ | refine T_block ?_ | refine T_cond_t rfl ?_ | refine T_cond_f rfl ?_ | ((first | refine T_cond rfl (fun hc => ?_) (fun hc => ?_) | refine wguard_split (fun hc => ?_) (fun hc => ?_)) <;> have hd := hc <;> (try simp (disch := omega) only [wrapI] at hd) <;> have hs := hd <;> (try simp only [Bool.not_eq_true', Bool.not_eq_false', decide_eq_true_eq, decide_eq_false_iff_not, beq_iff_eq, bne_iff_ne, beq_eq_false_iff_ne, bne_eq_false_iff_eq, Bool.not_true, Bool.not_false, gt_iff_lt, ge_iff_le, Int.not_lt, Int.not_le, ne_eq] at hd) <;> (try simp at hs)) | refine T_ret ?_ | refine leave_of (.inr rfl) _ rfl ?_ | refine leave_of (.inl rfl) _ rfl ?_ | refine wif_intro ?_ (fun hc => ?_) | refine And.intro ?_ ?_ | intro hc) | simp (maxSteps := 4000000) only [wops_nil, wops_cons, wstep_none, wstep_some, wguard_true, wguard_ff, wguard_tf, wguard_ft, wguard_undef, wrun_mv, wrun_pick, wrun_bin, wrun_not, wrun_load, wrun_iaddrS, wrun_lenS, get_mk, wop, aop, ev, look, put_some, writes, ores_some, ores_ite_none, binV, thenK, blockK, boolV, intV, value, cut, hget, mkAgg, tupOf, List.length_cons, List.length_nil, List.take_succ_cons, List.take_nil, List.drop_zero, List.append_nil, List.replicate_zero, Option.map_some, if_true, if_false, Nat.reduceEqDiff, Nat.zero_add, reduceCtorEq, Bool.not_true, Bool.not_false, Bool.false_eq_true, eq_self, true_and, and_true, and_self, decide_true, beq_self_eq_true, ren, Int.toNat_natCast, *] | simp (disch := omega) only [wrapI] | omega)
    all_goals first | exact hI2.down (by unfold badAt; omega) _ (by assumption) | exact congrArg bl (hB.down (by unfold badAt; omega)).symm | (simp [St.only, get_mk, look]; done) | (exfalso; omega)
  · have hke : k = b.size := by omega
    subst hke
    have hg := hgood.down hI
    clear hI hbad hgood
    rw [hg]
    clear hg
    by_cases h0 : b.size = 0
    · rw [h0] at hne
      have hd : (decide (b.size ≠ 0) && decide (b.size ≤ 12)) = false := by rw [h0]; rfl
      rw [hd]
      have hne' : (b.toList == (⟨#[]⟩ : ByteArray).toList) = true := hne
      clear hne hd
      unfold c32l0
      repeat' (first | (with_reducible first | refine T_seq ?_ | refine T_reg ?_ | refine T_skip ?_ | refine T_exit ?_ | refine T_block ?_ | refine T_cond_t rfl ?_ | refine T_cond_f rfl ?_ | refine T_ret ?_ | refine leave_of (.inr rfl) _ rfl ?_ | refine leave_of (.inl rfl) _ rfl ?_ | refine wif_intro ?_ (fun hc => ?_) | refine And.intro ?_ ?_ | intro hc) | simp (maxSteps := 4000000) only [wops_nil, wops_cons, wstep_none, wstep_some, wguard_ft, wrun_mv, wrun_pick, wrun_bin, get_mk, wop, aop, ev, look, put_some, writes, ores_some, binV, thenK, blockK, tupOf, List.length_nil, List.append_nil, List.replicate_zero, Option.map_some, if_true, if_false, Nat.reduceEqDiff, Nat.zero_add, reduceCtorEq, Bool.not_true, Bool.false_eq_true, eq_self, false_and, ren, Nat.not_lt_zero, Int.toNat_natCast, *] | simp (disch := omega) only [getD_ints, wrapI] | omega)
      all_goals first | rfl
    · have hd0 : decide (b.size ≠ 0) = true := decide_eq_true h0
      rw [hd0]
      have hne' : (b.toList == (⟨#[]⟩ : ByteArray).toList) = false := by rw [hne]; exact decide_eq_false h0
      have e1 : decide ((b.size : Int) ≤ 12) = decide (b.size ≤ 12) := by rw [decide_eq_decide]; omega
      clear hne hd0
      unfold c32l0
      repeat' (first | (with_reducible first | refine T_seq ?_ | refine T_reg ?_ | refine T_skip ?_ | refine T_exit ?_ | refine T_block ?_ | refine T_cond_t rfl ?_ | refine T_cond_f rfl ?_ | ((first | refine T_cond rfl (fun hc => ?_) (fun hc => ?_) | refine wguard_split (fun hc => ?_) (fun hc => ?_)) <;> have hd := hc <;> (try simp (disch := omega) only [wrapI] at hd) <;> have hs := hd <;> (try simp only [decide_eq_true_eq, decide_eq_false_iff_not, Int.not_lt] at hd) <;> (try simp at hs)) | refine T_ret ?_ | refine leave_of (.inr rfl) _ rfl ?_ | refine leave_of (.inl rfl) _ rfl ?_ | refine wif_intro ?_ (fun hc => ?_) | refine And.intro ?_ ?_ | intro hc) | simp (maxSteps := 4000000) only [wops_nil, wops_cons, wstep_none, wstep_some, wguard_true, wrun_mv, wrun_pick, wrun_bin, wrun_lenS, get_mk, wop, aop, ev, look, put_some, writes, ores_some, binV, thenK, blockK, intV, tupOf, List.length_nil, List.append_nil, List.replicate_zero, Option.map_some, if_true, if_false, Nat.reduceEqDiff, reduceCtorEq, Bool.not_false, Bool.true_and, eq_self, false_and, ren, Int.toNat_natCast, *] | simp (disch := omega) only [getD_ints, wrapI] | omega)
      all_goals first | rfl | (simp; done)
end Go.Abs
