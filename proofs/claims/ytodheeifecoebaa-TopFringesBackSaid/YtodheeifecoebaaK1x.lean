import Derived.Test.YtodheeifecoebaaPCmin
set_option linter.all false
set_option linter.unusedVariables false
set_option linter.unusedSimpArgs false
set_option linter.unusedSectionVars false
namespace Go.Abs
open Go.Proofs
theorem take_rfy (h : Nat → Blk) (xs : List Int) : List.take xs.length (List.map ((fun r => List.map (rfy h 5) r) ∘ fun x => [i64 x]) xs) = List.map (fun x => [i64 x]) xs := by
  rw [List.take_of_length_le (by simp)]; exact List.map_congr_left fun x _ => rfl
set_option maxHeartbeats 8000000 in
theorem k32 (n lo hi : Int) : Fn Try.prog 32 [i64 n, i64 lo, i64 hi] (bl (decide (lo ≤ n) && decide (n ≤ hi))) [] := by
  refine fn_of e32 ?_
  unfold c32
  repeat' (first
    | with_reducible first
      | refine T_seq ?_
      | refine T_reg ?_
      | refine T_skip ?_
      | refine T_exit ?_
      | refine T_block ?_
      | refine T_cond_t rfl ?_
      | refine T_cond_f rfl ?_
      | ((first | refine T_cond rfl (fun hc => ?_) (fun hc => ?_) | refine wguard_split (fun hc => ?_) (fun hc => ?_)) <;> have hd := hc <;> (try simp (disch := omega) only [wrapI] at hd) <;> have hs := hd <;> (try simp only [decide_eq_true_eq, decide_eq_false_iff_not, Bool.not_true, ge_iff_le, Int.not_le] at hd) <;> (try simp at hs))
      | refine T_ret ?_
      | refine leave_of (.inr rfl) _ rfl ?_
      | refine leave_of (.inl rfl) _ rfl ?_
      | refine leaveA_of (.inr rfl) _ rfl ?_
      | refine leaveA_of (.inl rfl) _ rfl ?_
      | refine wif_intro ?_ (fun hc => ?_)
      | refine And.intro ?_ ?_
      | intro hc
    | simp (maxSteps := 4000000) only [wops_nil, wops_cons, wstep_none, wstep_some, wguard_true, wguard_ft, wrun_mv, wrun_pick, wrun_bin, get_mk, wop, aop, ev, look, put_some, writes, ores_some, binV, thenK, tupOf, List.map_cons, List.map_nil, List.length_nil, List.append_nil, List.replicate_zero, List.zipIdx_cons, List.zipIdx_nil, Option.map_some, if_true, if_false, Nat.reduceEqDiff, Nat.reduceAdd, Nat.zero_add, Nat.zero_ne_one, reduceCtorEq, Bool.not_true, Bool.true_and, Bool.false_and, Bool.false_eq_true, eq_self, decide_true, ren, *]
    | simp (disch := omega) only [getD_ints, wrapI]
    | omega)
  all_goals simp_all
set_option maxHeartbeats 8000000 in
theorem k92 (n lo hi : Int) : Fn Try.prog 92 [i64 n, i64 lo, i64 hi] (bl (decide (lo ≤ n) && decide (n ≤ hi))) [] := by
  refine fn_of e92 ?_
  unfold c92
  repeat' (first
    | with_reducible first
      | refine T_seq ?_
      | refine T_reg ?_
      | refine T_skip ?_
      | refine T_exit ?_
      | refine T_block ?_
      | refine T_cond_t rfl ?_
      | refine T_cond_f rfl ?_
      | ((first | refine T_cond rfl (fun hc => ?_) (fun hc => ?_) | refine wguard_split (fun hc => ?_) (fun hc => ?_)) <;> have hd := hc <;> (try simp (disch := omega) only [wrapI] at hd) <;> have hs := hd <;> (try simp only [decide_eq_true_eq, decide_eq_false_iff_not, Bool.not_true, Int.not_le] at hd) <;> (try simp at hs))
      | refine T_ret ?_
      | refine leave_of (.inr rfl) _ rfl ?_
      | refine leave_of (.inl rfl) _ rfl ?_
      | refine leaveA_of (.inr rfl) _ rfl ?_
      | refine leaveA_of (.inl rfl) _ rfl ?_
      | refine wif_intro ?_ (fun hc => ?_)
      | refine And.intro ?_ ?_
      | intro hc
    | simp (maxSteps := 4000000) only [wops_nil, wops_cons, wstep_none, wstep_some, wguard_true, wguard_ft, wrun_mv, wrun_pick, wrun_bin, get_mk, wop, aop, ev, look, put_some, writes, ores_some, binV, thenK, tupOf, List.map_cons, List.map_nil, List.length_nil, List.append_nil, List.replicate_zero, List.zipIdx_cons, List.zipIdx_nil, Option.map_some, if_true, if_false, Nat.reduceEqDiff, Nat.reduceAdd, Nat.zero_add, Nat.zero_ne_one, reduceCtorEq, Bool.not_true, Bool.true_and, Bool.false_and, Bool.false_eq_true, eq_self, decide_true, ren, *]
    | simp (disch := omega) only [getD_ints, wrapI]
    | omega)
  all_goals simp_all
theorem tmod_np {n : Int} (d : Int) (h : n ≤ 0) : n.tmod d ≤ 0 := by
  have h1 := Int.tmod_nonneg d (show 0 ≤ -n by omega)
  rw [Int.neg_tmod] at h1
  omega
theorem fdiv_quo {n d : Int} (h : 0 < d) : n / d = if n.tmod d < 0 then n.tdiv d - 1 else n.tdiv d := by
  have h1 := Int.mul_tdiv_add_tmod n d
  have h2 := Int.mul_ediv_add_emod n d
  have h3 := Int.emod_nonneg n (by omega : d ≠ 0)
  have h4 := Int.emod_lt_of_pos n h
  by_cases hn : 0 ≤ n
  · rw [if_neg (by have := Int.tmod_nonneg d hn; omega)]
    exact (Int.tdiv_eq_ediv_of_nonneg hn).symm
  · by_cases hm : n.tmod d = 0
    · rw [if_neg (by omega)]
      have hd : d ∣ n := Int.dvd_of_tmod_eq_zero hm
      exact (Int.tdiv_eq_ediv_of_dvd hd).symm
    · have h5 : n.tmod d < 0 := by
        have := tmod_np d (by omega : n ≤ 0)
        omega
      have h6 : -d < n.tmod d := by have := Int.lt_tmod_of_pos n h; omega
      rw [if_pos h5]
      have h7 : d * (n / d - (n.tdiv d - 1)) = n.tmod d + d - n % d := by
        rw [Int.mul_sub, Int.mul_sub]; omega
      have h8 : -d < d * (n / d - (n.tdiv d - 1)) := by omega
      have h9 : d * (n / d - (n.tdiv d - 1)) < d := by omega
      have h10 : n / d - (n.tdiv d - 1) = 0 := by
        rcases Int.lt_trichotomy (n / d - (n.tdiv d - 1)) 0 with h | h | h
        · have : d * (n / d - (n.tdiv d - 1)) ≤ d * (-1) := Int.mul_le_mul_of_nonneg_left (by omega) (by omega)
          omega
        · exact h
        · have : d * 1 ≤ d * (n / d - (n.tdiv d - 1)) := Int.mul_le_mul_of_nonneg_left (by omega) (by omega)
          omega
      omega
theorem quo_range {n d : Int} (h : 0 < d) (h2 : -9223372036854775807 ≤ n) (h3 : n ≤ 9223372036854775807) : -9223372036854775807 ≤ n.tdiv d ∧ n.tdiv d ≤ 9223372036854775807 := by
  have h1 : (n.tdiv d).natAbs ≤ n.natAbs := by
    rw [Int.natAbs_tdiv]; exact Nat.div_le_self _ _
  omega
end Go.Abs
