import Derived.Test.YtpfmamngjefohaaK9
set_option linter.all false
set_option linter.unusedVariables false
set_option linter.unusedSimpArgs false
set_option linter.unusedSectionVars false
namespace Go.Abs
open Go.Proofs
/-! grits: small functions -/
set_option maxHeartbeats 8000000 in
theorem k53 (nil : Bool) (xs : List Int) (hl : xs.length < 1000000) : Fn Try.prog 53 [ints nil xs] (.lsl 0 0 xs.length) [.cells true false 1 (xs.map fun x => [i64 x])] := by
  refine fn_of e53 ?_
  have hll : (xs.map fun x => [i64 x]).length = xs.length := by simp
  unfold c53
  repeat' (first
    | with_reducible first
      | refine T_seq ?_
      | refine T_reg ?_
      | refine T_skip ?_
      | refine T_exit ?_
      | refine T_block ?_
      | refine T_cond_t rfl ?_
      | refine T_cond_f rfl ?_
      | ((first | refine T_cond rfl (fun hc => ?_) (fun hc => ?_) | refine wguard_split (fun hc => ?_) (fun hc => ?_)) <;> have hd := hc <;> (try simp (disch := omega) only [wrapI] at hd) <;> have hs := hd <;> (try simp only [Bool.not_eq_true', Bool.not_eq_false', Bool.and_eq_true, Bool.and_eq_false_iff, Bool.or_eq_true, Bool.or_eq_false_iff, decide_eq_true_eq, decide_eq_false_iff_not, beq_iff_eq, bne_iff_ne, beq_eq_false_iff_ne, bne_eq_false_iff_eq, Bool.not_true, Bool.not_false, gt_iff_lt, ge_iff_le, Int.not_lt, Int.not_le, ne_eq, Decidable.not_not] at hd) <;> (try simp at hs))
      | refine T_ret ?_
      | refine leave_ids (.inr rfl) _ [1] rfl (by simp) (by simp) ?_
      | refine leave_ids (.inl rfl) _ [1] rfl (by simp) (by simp) ?_
      | refine leaveA_of (.inr rfl) _ rfl ?_
      | refine leaveA_of (.inl rfl) _ rfl ?_
      | refine wif_intro ?_ (fun hc => ?_)
      | refine And.intro ?_ ?_
      | intro hc
    | simp (maxSteps := 4000000) only [wops_nil, wops_cons, wstep_none, wrun_mv, wrun_bslice, wrun_app, get_mk, wop, aop, ev, look, put_some, writes, ores_some, ores_ite_none, thenK, elsOf, szOk, hget, fillA, tupOf, List.flatten_nil, rowsOf, List.map_cons, List.map_nil, List.length_nil, List.getElem?_cons_zero, List.getElem?_cons_succ, List.set_cons_zero, List.set_cons_succ, List.take_nil, List.drop_nil, List.nil_append, List.append_nil, List.replicate_zero, List.replicate_succ, List.zipIdx_cons, List.zipIdx_nil, Option.getD_some, Option.map_some, Option.map_none, if_true, if_false, Nat.reduceEqDiff, Nat.add_zero, Nat.zero_add, Nat.sub_self, Nat.mul_one, Nat.le_refl, reduceCtorEq, Bool.false_and, Bool.or_true, eq_self, true_and, beq_self_eq_true, ren, renB, renO, keepρ, pos, Nat.not_lt_zero, renR_ints, *]
    | simp (disch := omega) only [getD_ints, wrapI]
    | omega)
  all_goals first | rfl
/-! Ceil, minutes -/
theorem fdiv_quo {n d : Int} (h : 0 < d) : n / d = if n.tmod d < 0 then n.tdiv d - 1 else n.tdiv d := by
  have h1 := Int.mul_tdiv_add_tmod n d
  have h2 := Int.mul_ediv_add_emod n d
  have h3 := Int.emod_nonneg n (by omega : d ≠ 0)
  have h4 := Int.emod_lt_of_pos n h
  by_cases hn : 0 ≤ n
  · rw [if_neg (by have := Int.tmod_nonneg d hn; omega)]
    exact (Int.tdiv_eq_ediv_of_nonneg hn).symm
  · have hnp : n.tmod d ≤ 0 := by
      have h1 := Int.tmod_nonneg d (show 0 ≤ -n by omega)
      rw [Int.neg_tmod] at h1
      omega
    by_cases hm : n.tmod d = 0
    · rw [if_neg (by omega)]
      have hd : d ∣ n := Int.dvd_of_tmod_eq_zero hm
      exact (Int.tdiv_eq_ediv_of_dvd hd).symm
    · have h5 : n.tmod d < 0 := by omega
      have h6 : -d < n.tmod d := by have := Int.lt_tmod_of_pos n h; omega
      rw [if_pos h5]
      have h7 : d * (n / d) + n % d = d * n.tdiv d + n.tmod d := by rw [h1, h2]
      have h8 : d * (n / d - n.tdiv d + 1) = d + (n.tmod d - n % d) := by
        rw [Int.mul_add, Int.mul_sub, Int.mul_one]; omega
      have h9 : n / d - n.tdiv d + 1 = 0 := by
        rcases Int.lt_trichotomy (n / d - n.tdiv d + 1) 0 with hlt | heq | hgt
        · have : d * (n / d - n.tdiv d + 1) ≤ d * (-1) := Int.mul_le_mul_of_nonneg_left (by omega) (by omega)
          omega
        · exact heq
        · have : d * 1 ≤ d * (n / d - n.tdiv d + 1) := Int.mul_le_mul_of_nonneg_left (by omega) (by omega)
          omega
      omega
set_option maxHeartbeats 8000000 in
theorem k83 (n d : Int) (hn : -4611686018427387904 ≤ n ∧ n ≤ 4611686018427387904) (hd : 1 ≤ d ∧ d ≤ 4611686018427387904) : Fn Try.prog 83 [i64 n, i64 d] (i64 (n / d)) [] := by
  refine fn_of e83 ?_
  have h0 : (d = 0) = False := by simp; omega
  have hq : -4611686018427387904 ≤ n.tdiv d ∧ n.tdiv d ≤ 4611686018427387904 := by
    rcases (by omega : n < 0 ∨ 0 ≤ n) with h | h
    · have h1 : (-n).tdiv d ≤ -n := Int.tdiv_le_self d (by omega)
      have h2 : 0 ≤ (-n).tdiv d := Int.tdiv_nonneg (by omega) (by omega)
      rw [Int.neg_tdiv] at h1 h2
      omega
    · have h1 := Int.tdiv_le_self d h
      have h2 := Int.tdiv_nonneg h (show 0 ≤ d by omega)
      omega
  have hf := fdiv_quo (n := n) (d := d) (by omega)
  have ew : IntKind.i64.wrap (n.tdiv d) = n.tdiv d := wrapI (by omega) (by omega)
  have ew2 : IntKind.i64.wrap (n.tdiv d - 1) = n.tdiv d - 1 := wrapI (by omega) (by omega)
  unfold c83
  by_cases hm : n.tmod d < 0
  · rw [hf, if_pos hm]
    have d1 : decide (n.tmod d < 0) = true := decide_eq_true hm
    clear hf hm
    repeat' (first
      | with_reducible first
        | refine T_seq ?_
        | refine T_reg ?_
        | refine T_skip ?_
        | refine T_exit ?_
        | refine T_block ?_
        | refine T_cond_t rfl ?_
        | refine T_cond_f rfl ?_
        | ((first | refine T_cond rfl (fun hc => ?_) (fun hc => ?_) | refine wguard_split (fun hc => ?_) (fun hc => ?_)) <;> have hd := hc <;> (try simp (disch := omega) only [wrapI] at hd) <;> have hs := hd <;> (try simp only [Bool.not_eq_true', Bool.not_eq_false', Bool.and_eq_true, Bool.and_eq_false_iff, Bool.or_eq_true, Bool.or_eq_false_iff, decide_eq_true_eq, decide_eq_false_iff_not, beq_iff_eq, bne_iff_ne, beq_eq_false_iff_ne, bne_eq_false_iff_eq, Bool.not_true, Bool.not_false, gt_iff_lt, ge_iff_le, Int.not_lt, Int.not_le, ne_eq, Decidable.not_not] at hd) <;> (try simp at hs))
        | refine T_ret ?_
        | refine leave_of (.inr rfl) _ rfl ?_
        | refine leave_of (.inl rfl) _ rfl ?_
        | refine leaveA_of (.inr rfl) _ rfl ?_
        | refine leaveA_of (.inl rfl) _ rfl ?_
        | refine wif_intro ?_ (fun hc => ?_)
        | refine And.intro ?_ ?_
        | intro hc
      | simp (maxSteps := 4000000) only [wops_nil, wops_cons, wstep_none, wrun_mv, wrun_bin, get_mk, wop, aop, ev, look, put_some, writes, ores_some, binV, thenK, tupOf, List.map_cons, List.map_nil, List.length_nil, List.append_nil, List.replicate_zero, List.zipIdx_cons, List.zipIdx_nil, Option.map_some, if_true, if_false, Nat.reduceEqDiff, Nat.reduceAdd, Nat.zero_add, Nat.zero_ne_one, reduceCtorEq, eq_self, ren, *]
      | simp (disch := omega) only [getD_ints, wrapI]
      | omega)
    all_goals first | rfl
  · rw [hf, if_neg hm]
    have d1 : decide (n.tmod d < 0) = false := decide_eq_false hm
    clear hf hm
    repeat' (first
      | with_reducible first
        | refine T_seq ?_
        | refine T_reg ?_
        | refine T_skip ?_
        | refine T_exit ?_
        | refine T_block ?_
        | refine T_cond_t rfl ?_
        | refine T_cond_f rfl ?_
        | ((first | refine T_cond rfl (fun hc => ?_) (fun hc => ?_) | refine wguard_split (fun hc => ?_) (fun hc => ?_)) <;> have hd := hc <;> (try simp (disch := omega) only [wrapI] at hd) <;> have hs := hd <;> (try simp only [Bool.not_eq_true', Bool.not_eq_false', Bool.and_eq_true, Bool.and_eq_false_iff, Bool.or_eq_true, Bool.or_eq_false_iff, decide_eq_true_eq, decide_eq_false_iff_not, beq_iff_eq, bne_iff_ne, beq_eq_false_iff_ne, bne_eq_false_iff_eq, Bool.not_true, Bool.not_false, gt_iff_lt, ge_iff_le, Int.not_lt, Int.not_le, ne_eq, Decidable.not_not] at hd) <;> (try simp at hs))
        | refine T_ret ?_
        | refine leave_of (.inr rfl) _ rfl ?_
        | refine leave_of (.inl rfl) _ rfl ?_
        | refine leaveA_of (.inr rfl) _ rfl ?_
        | refine leaveA_of (.inl rfl) _ rfl ?_
        | refine wif_intro ?_ (fun hc => ?_)
        | refine And.intro ?_ ?_
        | intro hc
      | simp (maxSteps := 4000000) only [wops_nil, wops_cons, wstep_none, wrun_mv, wrun_bin, get_mk, wop, aop, ev, look, put_some, writes, ores_some, binV, thenK, tupOf, List.map_cons, List.map_nil, List.length_nil, List.append_nil, List.replicate_zero, List.zipIdx_cons, List.zipIdx_nil, Option.map_some, if_true, if_false, Nat.reduceEqDiff, Nat.reduceAdd, Nat.zero_add, Nat.zero_ne_one, reduceCtorEq, eq_self, ren, *]
      | simp (disch := omega) only [getD_ints, wrapI]
      | omega)
    all_goals first | rfl
/-- rounded up -/
def ceil (n d : Int) : Int := -((-n) / d)
end Go.Abs
