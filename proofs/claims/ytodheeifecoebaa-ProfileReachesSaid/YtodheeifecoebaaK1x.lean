import Derived.Test.YtodheeifecoebaaPCmin
set_option linter.all false
set_option linter.unusedVariables false
set_option linter.unusedSimpArgs false
set_option linter.unusedSectionVars false
namespace Go.Abs
open Go.Proofs
theorem take_rfy (h : Nat → Blk) (xs : List Int) : List.take xs.length (List.map ((fun r => List.map (rfy h 5) r) ∘ fun x => [i64 x]) xs) = List.map (fun x => [i64 x]) xs := by
  rw [List.take_of_length_le (by simp)]; exact List.map_congr_left fun x _ => rfl
set_option maxHeartbeats 8000000 in
theorem k32 (n lo hi : Int) : Fn Try.prog 32 [i64 n, i64 lo, i64 hi] (bl (decide (lo ≤ n) && decide (n ≤ hi))) [] := by
  refine fn_of e32 ?_
  unfold c32
  repeat' (first
    | with_reducible first
      | refine T_seq ?_
      | refine T_reg ?_
      | refine T_skip ?_
      | refine T_exit ?_
      | refine T_block ?_
      | refine T_cond_t rfl ?_
      | refine T_cond_f rfl ?_
      | ((first | refine T_cond rfl (fun hc => ?_) (fun hc => ?_) | refine wguard_split (fun hc => ?_) (fun hc => ?_)) <;> have hd := hc <;> (try simp (disch := omega) only [wrapI] at hd) <;> have hs := hd <;> (try simp only [decide_eq_true_eq, decide_eq_false_iff_not, Bool.not_true, ge_iff_le, Int.not_le] at hd) <;> (try simp at hs))
      | refine T_ret ?_
      | refine leave_of (.inr rfl) _ rfl ?_
      | refine leave_of (.inl rfl) _ rfl ?_
      | refine leaveA_of (.inr rfl) _ rfl ?_
      | refine leaveA_of (.inl rfl) _ rfl ?_
      | refine wif_intro ?_ (fun hc => ?_)
      | refine And.intro ?_ ?_
      | intro hc
    | simp (maxSteps := 4000000) only [wops_nil, wops_cons, wstep_none, wstep_some, wguard_true, wguard_ft, wrun_mv, wrun_pick, wrun_bin, get_mk, wop, aop, ev, look, put_some, writes, ores_some, binV, thenK, tupOf, List.map_cons, List.map_nil, List.length_nil, List.append_nil, List.replicate_zero, List.zipIdx_cons, List.zipIdx_nil, Option.map_some, if_true, if_false, Nat.reduceEqDiff, Nat.reduceAdd, Nat.zero_add, Nat.zero_ne_one, reduceCtorEq, Bool.not_true, Bool.true_and, Bool.false_and, Bool.false_eq_true, eq_self, decide_true, ren, *]
    | simp (disch := omega) only [getD_ints, wrapI]
    | omega)
  all_goals simp_all
set_option maxHeartbeats 8000000 in
theorem k92 (n lo hi : Int) : Fn Try.prog 92 [i64 n, i64 lo, i64 hi] (bl (decide (lo ≤ n) && decide (n ≤ hi))) [] := by
  refine fn_of e92 ?_
  unfold c92
  repeat' (first
    | with_reducible first
      | refine T_seq ?_
      | refine T_reg ?_
      | refine T_skip ?_
      | refine T_exit ?_
      | refine T_block ?_
      | refine T_cond_t rfl ?_
      | refine T_cond_f rfl ?_
      | ((first | refine T_cond rfl (fun hc => ?_) (fun hc => ?_) | refine wguard_split (fun hc => ?_) (fun hc => ?_)) <;> have hd := hc <;> (try simp (disch := omega) only [wrapI] at hd) <;> have hs := hd <;> (try simp only [decide_eq_true_eq, decide_eq_false_iff_not, Bool.not_true, Int.not_le] at hd) <;> (try simp at hs))
      | refine T_ret ?_
      | refine leave_of (.inr rfl) _ rfl ?_
      | refine leave_of (.inl rfl) _ rfl ?_
      | refine leaveA_of (.inr rfl) _ rfl ?_
      | refine leaveA_of (.inl rfl) _ rfl ?_
      | refine wif_intro ?_ (fun hc => ?_)
      | refine And.intro ?_ ?_
      | intro hc
    | simp (maxSteps := 4000000) only [wops_nil, wops_cons, wstep_none, wstep_some, wguard_true, wguard_ft, wrun_mv, wrun_pick, wrun_bin, get_mk, wop, aop, ev, look, put_some, writes, ores_some, binV, thenK, tupOf, List.map_cons, List.map_nil, List.length_nil, List.append_nil, List.replicate_zero, List.zipIdx_cons, List.zipIdx_nil, Option.map_some, if_true, if_false, Nat.reduceEqDiff, Nat.reduceAdd, Nat.zero_add, Nat.zero_ne_one, reduceCtorEq, Bool.not_true, Bool.true_and, Bool.false_and, Bool.false_eq_true, eq_self, decide_true, ren, *]
    | simp (disch := omega) only [getD_ints, wrapI]
    | omega)
  all_goals simp_all
set_option maxHeartbeats 8000000 in
theorem k93 (n : Int) : Fn Try.prog 93 [i64 n] (bl (decide (-1000000 ≤ n) && decide (n ≤ 1000000))) [] := by
  refine fn_of e93 ?_
  unfold c93
  repeat' (first
    | with_reducible first
      | refine T_seq ?_
      | refine T_reg ?_
      | refine T_skip ?_
      | refine T_exit ?_
      | refine T_block ?_
      | refine T_cond_t rfl ?_
      | refine T_cond_f rfl ?_
      | (show wcall _ false (.lit (.func (.func 32) _ _)) _ _ _ _; refine wcall_fn (k32 _ _ _) rfl (by simp [plainL, plain]) ?_)
      | ((first | refine T_cond rfl (fun hc => ?_) (fun hc => ?_) | refine wguard_split (fun hc => ?_) (fun hc => ?_)) <;> have hd := hc <;> (try simp (disch := omega) only [wrapI] at hd) <;> have hs := hd <;> (try simp only [Bool.not_eq_true', Bool.not_eq_false', Bool.and_eq_true, Bool.and_eq_false_iff, Bool.or_eq_true, Bool.or_eq_false_iff, decide_eq_true_eq, decide_eq_false_iff_not, beq_iff_eq, bne_iff_ne, beq_eq_false_iff_ne, bne_eq_false_iff_eq, Bool.not_true, Bool.not_false, gt_iff_lt, ge_iff_le, Int.not_lt, Int.not_le, ne_eq, Decidable.not_not] at hd) <;> (try simp at hs))
      | refine T_ret ?_
      | refine leave_of (.inr rfl) _ rfl ?_
      | refine leave_of (.inl rfl) _ rfl ?_
      | refine leaveA_of (.inr rfl) _ rfl ?_
      | refine leaveA_of (.inl rfl) _ rfl ?_
      | refine wif_intro ?_ (fun hc => ?_)
      | refine And.intro ?_ ?_
      | intro hc
    | simp (maxSteps := 4000000) only [wops_nil, wops_cons, wstep_none, wrun_call, wrun_mv, get_mk, wop, aop, ev, look, put_some, writes, ores_some, thenK, tupOf, List.map_cons, List.map_nil, List.length_nil, List.append_nil, List.replicate_zero, List.zipIdx_cons, List.zipIdx_nil, if_true, if_false, Nat.reduceEqDiff, Nat.zero_add, reduceCtorEq, eq_self, Int.reduceNeg, freeze, lidsL, lids, List.flatMap_cons, List.flatMap_nil, ren, *]
    | simp (disch := omega) only [getD_ints, wrapI]
    | (with_reducible show wcall _ false (.lit (.func (.func 32) _ _)) _ _ _ _; refine wcall_fn (k32 _ _ _) ?_ ?_ ?_; (next => simp [rfyL, rfy, hget, ints, take_rfy]); (next => simp [plainL, plain, plainR]))
    | omega)
theorem tmod_np {n : Int} (d : Int) (h : n ≤ 0) : n.tmod d ≤ 0 := by
  have h1 := Int.tmod_nonneg d (show 0 ≤ -n by omega)
  rw [Int.neg_tmod] at h1
  omega
theorem fdiv_quo {n d : Int} (h : 0 < d) : n / d = if n.tmod d < 0 then n.tdiv d - 1 else n.tdiv d := by
  have h1 := Int.mul_tdiv_add_tmod n d
  have h2 := Int.mul_ediv_add_emod n d
  have h3 := Int.emod_nonneg n (by omega : d ≠ 0)
  have h4 := Int.emod_lt_of_pos n h
  by_cases hn : 0 ≤ n
  · rw [if_neg (by have := Int.tmod_nonneg d hn; omega)]
    exact (Int.tdiv_eq_ediv_of_nonneg hn).symm
  · by_cases hm : n.tmod d = 0
    · rw [if_neg (by omega)]
      have hd : d ∣ n := Int.dvd_of_tmod_eq_zero hm
      exact (Int.tdiv_eq_ediv_of_dvd hd).symm
    · have h5 : n.tmod d < 0 := by
        have := tmod_np d (by omega : n ≤ 0)
        omega
      have h6 : -d < n.tmod d := by have := Int.lt_tmod_of_pos n h; omega
      rw [if_pos h5]
      have h7 : d * (n / d - (n.tdiv d - 1)) = n.tmod d + d - n % d := by
        rw [Int.mul_sub, Int.mul_sub]; omega
      have h8 : -d < d * (n / d - (n.tdiv d - 1)) := by omega
      have h9 : d * (n / d - (n.tdiv d - 1)) < d := by omega
      have h10 : n / d - (n.tdiv d - 1) = 0 := by
        rcases Int.lt_trichotomy (n / d - (n.tdiv d - 1)) 0 with h | h | h
        · have : d * (n / d - (n.tdiv d - 1)) ≤ d * (-1) := Int.mul_le_mul_of_nonneg_left (by omega) (by omega)
          omega
        · exact h
        · have : d * 1 ≤ d * (n / d - (n.tdiv d - 1)) := Int.mul_le_mul_of_nonneg_left (by omega) (by omega)
          omega
      omega
theorem quo_range {n d : Int} (h : 0 < d) (h2 : -9223372036854775807 ≤ n) (h3 : n ≤ 9223372036854775807) : -9223372036854775807 ≤ n.tdiv d ∧ n.tdiv d ≤ 9223372036854775807 := by
  have h1 : (n.tdiv d).natAbs ≤ n.natAbs := by
    rw [Int.natAbs_tdiv]; exact Nat.div_le_self _ _
  omega
set_option maxHeartbeats 8000000 in
theorem k126 (n by_ : Int) (h1 : 0 < by_) (h2 : -9223372036854775806 ≤ n) (h3 : n ≤ 9223372036854775807) : Fn Try.prog 126 [i64 n, i64 by_] (i64 (n / by_)) [] := by
  refine fn_of e126 ?_
  unfold c126
  obtain ⟨q1, q2⟩ := quo_range h1 (by omega) h3
  have hq : (n.tdiv by_).natAbs ≤ n.natAbs := by rw [Int.natAbs_tdiv]; exact Nat.div_le_self _ _
  repeat' (first
    | with_reducible first
      | refine T_seq ?_
      | refine T_reg ?_
      | refine T_skip ?_
      | refine T_exit ?_
      | refine T_block ?_
      | refine T_cond_t rfl ?_
      | refine T_cond_f rfl ?_
      | ((first | refine T_cond rfl (fun hc => ?_) (fun hc => ?_) | refine wguard_split (fun hc => ?_) (fun hc => ?_)) <;> have hd := hc <;> (try simp (disch := omega) only [wrapI] at hd) <;> have hs := hd <;> (try simp only [decide_eq_true_eq, decide_eq_false_iff_not, bne_iff_ne, bne_eq_false_iff_eq, Bool.not_true, Int.not_lt, ne_eq] at hd) <;> (try simp at hs))
      | refine T_ret ?_
      | refine leave_of (.inr rfl) _ rfl ?_
      | refine leave_of (.inl rfl) _ rfl ?_
      | refine leaveA_of (.inr rfl) _ rfl ?_
      | refine leaveA_of (.inl rfl) _ rfl ?_
      | refine wif_intro ?_ (fun hc => ?_)
      | refine And.intro ?_ ?_
      | intro hc
    | simp (maxSteps := 4000000) only [wops_nil, wops_cons, wstep_none, wstep_some, wguard_true, wrun_mv, wrun_pick, wrun_bin, get_mk, wop, aop, ev, look, put_some, writes, ores_some, ores_none_ite, ores_map, binV, thenK, tupOf, List.map_cons, List.map_nil, List.length_nil, List.append_nil, List.replicate_zero, List.zipIdx_cons, List.zipIdx_nil, Option.map_some, if_true, if_false, Nat.reduceEqDiff, Nat.reduceAdd, Nat.zero_add, Nat.zero_ne_one, reduceCtorEq, Bool.not_true, Bool.false_eq_true, eq_self, decide_true, ren, *]
    | simp (disch := omega) only [wrapI]
    | omega)
  all_goals rw [fdiv_quo h1]
  · have : n.tmod by_ < 0 := by
      have := tmod_np by_ (by omega : n ≤ 0)
      simp_all; omega
    rw [if_pos this]
  · have : 0 ≤ n.tmod by_ := Int.tmod_nonneg by_ (by omega)
    rw [if_neg (by omega)]
  · simp_all
set_option maxHeartbeats 8000000 in
theorem k127 (n by_ : Int) (h1 : 0 < by_) (h2 : -9223372036854775806 ≤ n) (h3 : n ≤ 9223372036854775807) : Fn Try.prog 127 [i64 n, i64 by_] (i64 (n / by_)) [] := by
  refine fn_of e127 ?_
  unfold c127
  obtain ⟨q1, q2⟩ := quo_range h1 (by omega) h3
  have hq : (n.tdiv by_).natAbs ≤ n.natAbs := by rw [Int.natAbs_tdiv]; exact Nat.div_le_self _ _
  repeat' (first
    | with_reducible first
      | refine T_seq ?_
      | refine T_reg ?_
      | refine T_skip ?_
      | refine T_exit ?_
      | refine T_block ?_
      | refine T_cond_t rfl ?_
      | refine T_cond_f rfl ?_
      | ((first | refine T_cond rfl (fun hc => ?_) (fun hc => ?_) | refine wguard_split (fun hc => ?_) (fun hc => ?_)) <;> have hd := hc <;> (try simp (disch := omega) only [wrapI] at hd) <;> have hs := hd <;> (try simp only [decide_eq_true_eq, decide_eq_false_iff_not, Int.not_lt] at hd) <;> (try simp at hs))
      | refine T_ret ?_
      | refine leave_of (.inr rfl) _ rfl ?_
      | refine leave_of (.inl rfl) _ rfl ?_
      | refine leaveA_of (.inr rfl) _ rfl ?_
      | refine leaveA_of (.inl rfl) _ rfl ?_
      | refine wif_intro ?_ (fun hc => ?_)
      | refine And.intro ?_ ?_
      | intro hc
    | simp (maxSteps := 4000000) only [wops_nil, wops_cons, wstep_none, wrun_mv, wrun_bin, get_mk, wop, aop, ev, look, put_some, writes, ores_some, ores_none_ite, ores_map, binV, thenK, tupOf, List.map_cons, List.map_nil, List.length_nil, List.append_nil, List.replicate_zero, List.zipIdx_cons, List.zipIdx_nil, Option.map_some, if_true, if_false, Nat.reduceEqDiff, Nat.reduceAdd, Nat.zero_add, Nat.zero_ne_one, reduceCtorEq, eq_self, decide_true, ren, *]
    | simp (disch := omega) only [wrapI]
    | omega)
  all_goals rw [fdiv_quo h1]
  · rw [if_pos (by omega)]
  · rw [if_neg (by omega)]
set_option maxHeartbeats 8000000 in
theorem k128 (n by_ : Int) (h1 : 0 < by_) (h2 : -9223372036854775806 ≤ n) (h3 : n ≤ 9223372036854775806) : Fn Try.prog 128 [i64 n, i64 by_] (i64 (-(-n / by_))) [] := by
  have h4 : (-n / by_).natAbs ≤ n.natAbs + 1 := by
    rw [fdiv_quo h1]
    have hq : ((-n).tdiv by_).natAbs ≤ n.natAbs := by rw [Int.natAbs_tdiv, Int.natAbs_neg]; exact Nat.div_le_self _ _
    split <;> omega
  have e0 : ∀ x : Int, 0 - x = -x := fun x => by omega
  refine fn_of e128 ?_
  unfold c128
  repeat' (first
    | with_reducible first
      | refine T_seq ?_
      | refine T_reg ?_
      | refine T_skip ?_
      | refine T_exit ?_
      | refine T_block ?_
      | refine T_cond_t rfl ?_
      | refine T_cond_f rfl ?_
      | (show wcall _ false (.lit (.func (.func 127) _ _)) _ _ _ _; refine wcall_fn (k127 _ _ h1 (by omega) (by omega)) rfl (by simp [plainL, plain]) ?_)
      | ((first | refine T_cond rfl (fun hc => ?_) (fun hc => ?_) | refine wguard_split (fun hc => ?_) (fun hc => ?_)) <;> have hd := hc <;> (try simp (disch := omega) only [wrapI] at hd) <;> have hs := hd <;> (try simp only [Bool.not_eq_true', Bool.not_eq_false', Bool.and_eq_true, Bool.and_eq_false_iff, Bool.or_eq_true, Bool.or_eq_false_iff, decide_eq_true_eq, decide_eq_false_iff_not, beq_iff_eq, bne_iff_ne, beq_eq_false_iff_ne, bne_eq_false_iff_eq, Bool.not_true, Bool.not_false, gt_iff_lt, ge_iff_le, Int.not_lt, Int.not_le, ne_eq, Decidable.not_not] at hd) <;> (try simp at hs))
      | refine T_ret ?_
      | refine leave_of (.inr rfl) _ rfl ?_
      | refine leave_of (.inl rfl) _ rfl ?_
      | refine leaveA_of (.inr rfl) _ rfl ?_
      | refine leaveA_of (.inl rfl) _ rfl ?_
      | refine wif_intro ?_ (fun hc => ?_)
      | refine And.intro ?_ ?_
      | intro hc
    | simp (maxSteps := 4000000) only [wops_nil, wops_cons, wstep_none, wrun_call, wrun_mv, wrun_neg, get_mk, wop, aop, ev, look, put_some, writes, ores_some, thenK, tupOf, List.map_cons, List.map_nil, List.length_nil, List.append_nil, List.replicate_zero, List.zipIdx_cons, List.zipIdx_nil, if_true, if_false, Nat.reduceEqDiff, Nat.reduceAdd, Nat.zero_add, Nat.zero_ne_one, reduceCtorEq, eq_self, freeze, lidsL, lids, List.flatMap_cons, List.flatMap_nil, ren, *]
    | simp (disch := omega) only [wrapI]
    | (with_reducible show wcall _ false (.lit (.func (.func 127) _ _)) _ _ _ _; refine wcall_fn (k127 _ _ h1 (by omega) (by omega)) ?_ ?_ ?_; (next => simp [rfyL, rfy, hget, ints, take_rfy, e0]); (next => simp [plainL, plain, plainR, e0]))
    | omega)
end Go.Abs
