import Derived.Test.YtdedhipkncagjaaK302x
set_option linter.all false
set_option linter.unusedVariables false
set_option linter.unusedSimpArgs false
set_option linter.unusedSectionVars false
namespace Go.Abs
open Go.Proofs
/-! figures: heights, wear, sessions -/
set_option maxHeartbeats 8000000 in
theorem k58 (n lo hi : Int) : Fn Try.prog 58 [i64 n, i64 lo, i64 hi] (bl (decide (lo ≤ n) && decide (n ≤ hi))) [] := by
  refine fn_of e58 ?_
  cases a1 : decide (lo ≤ n) <;> cases a2 : decide (n ≤ hi) <;> unfold c58
  repeat' (first | (with_reducible first | refine T_seq ?_ | refine T_reg ?_ | refine T_skip ?_ | refine T_exit ?_ | refine T_block ?_ | refine T_cond_t rfl ?_ | refine T_cond_f rfl ?_ | refine T_ret ?_ | refine leave_of (.inr rfl) _ rfl ?_ | refine leave_of (.inl rfl) _ rfl ?_ | refine leaveA_of (.inr rfl) _ rfl ?_ | refine leaveA_of (.inl rfl) _ rfl ?_ | refine wif_intro ?_ (fun hc => ?_) | refine And.intro ?_ ?_ | intro hc) | simp (maxSteps := 4000000) only [wops_nil, wops_cons, wstep_none, wstep_some, wguard_true, wguard_ft, wrun_mv, wrun_pick, wrun_bin, get_mk, wop, aop, ev, look, put_some, writes, ores_some, binV, thenK, tupOf, List.map_cons, List.map_nil, List.length_nil, List.append_nil, List.replicate_zero, List.zipIdx_cons, List.zipIdx_nil, Option.map_some, if_true, if_false, Nat.reduceEqDiff, Nat.reduceAdd, Nat.zero_add, Nat.zero_ne_one, reduceCtorEq, Bool.and_true, Bool.and_false, Bool.false_eq_true, eq_self, ren, *] | simp (disch := omega) only [getD_ints, wrapI] | omega)
  all_goals first | rfl
def hB (x : Int) : Bool := decide (-100000 ≤ x) && decide (x ≤ 100000)
structure FOk (xs : List Int) : Prop where
  l : 1 ≤ xs.length ∧ xs.length ≤ 40
  r : ∀ k, k < xs.length → -100000 ≤ xs.getD k 0 ∧ xs.getD k 0 ≤ 100000
def hEr (xs : List Int) (z : Nat) : Int := if hB (xs.getD z 0) = false then 2 else 0
def hE (xs : List Int) : Int := if (decide (1 ≤ (xs.length : Int)) && decide ((xs.length : Int) ≤ 40)) = false then 10 else fe (hEr xs) xs.length
set_option maxHeartbeats 8000000 in
theorem k25 (n : Int) : Fn Try.prog 25 [i64 n] (bl (hB n)) [] := by
  refine fn_of e25 ?_
  have h10 := k10 n (-100000) 100000
  unfold hB
  cases a1 : (decide (-100000 ≤ n) && decide (n ≤ 100000)) with
  | true =>
    rw [a1] at h10
    unfold c25
    repeat' (first | (with_reducible first | refine T_seq ?_ | refine T_reg ?_ | refine T_skip ?_ | refine T_exit ?_ | refine T_block ?_ | refine T_cond_t rfl ?_ | refine T_cond_f rfl ?_ | (show wcall _ false (.lit (.func (.func 10) _ _)) _ _ _ _; refine wcall_fn (h10) rfl (by simp [plainL, plain]) ?_) | refine T_ret ?_ | refine leave_of (.inr rfl) _ rfl ?_ | refine leave_of (.inl rfl) _ rfl ?_ | refine leaveA_of (.inr rfl) _ rfl ?_ | refine leaveA_of (.inl rfl) _ rfl ?_ | refine wif_intro ?_ (fun hc => ?_) | refine And.intro ?_ ?_ | intro hc) | simp (maxSteps := 4000000) only [wops_nil, wops_cons, wstep_none, wrun_call, wrun_mv, get_mk, wop, aop, ev, look, put_some, writes, ores_some, thenK, tupOf, List.map_cons, List.map_nil, List.length_nil, List.append_nil, List.replicate_zero, List.zipIdx_cons, List.zipIdx_nil, if_true, if_false, Nat.reduceEqDiff, Nat.zero_add, reduceCtorEq, eq_self, Int.reduceNeg, freeze, lidsL, lids, List.flatMap_cons, List.flatMap_nil, ren, *] | simp (disch := omega) only [getD_ints, wrapI] | (with_reducible show wcall _ false (.lit (.func (.func 10) _ _)) _ _ _ _; refine wcall_fn (h10) ?_ ?_ ?_; (next => simp [rfyL, rfy, hget, ints, take_rfy]); (next => simp [plainL, plain, plainR])) | omega)
    all_goals first | rfl
  | false =>
    rw [a1] at h10
    unfold c25
    repeat' (first | (with_reducible first | refine T_seq ?_ | refine T_reg ?_ | refine T_skip ?_ | refine T_exit ?_ | refine T_block ?_ | refine T_cond_t rfl ?_ | refine T_cond_f rfl ?_ | (show wcall _ false (.lit (.func (.func 10) _ _)) _ _ _ _; refine wcall_fn (h10) rfl (by simp [plainL, plain]) ?_) | refine T_ret ?_ | refine leave_of (.inr rfl) _ rfl ?_ | refine leave_of (.inl rfl) _ rfl ?_ | refine leaveA_of (.inr rfl) _ rfl ?_ | refine leaveA_of (.inl rfl) _ rfl ?_ | refine wif_intro ?_ (fun hc => ?_) | refine And.intro ?_ ?_ | intro hc) | simp (maxSteps := 4000000) only [wops_nil, wops_cons, wstep_none, wrun_call, wrun_mv, get_mk, wop, aop, ev, look, put_some, writes, ores_some, thenK, tupOf, List.map_cons, List.map_nil, List.length_nil, List.append_nil, List.replicate_zero, List.zipIdx_cons, List.zipIdx_nil, if_true, if_false, Nat.reduceEqDiff, Nat.zero_add, reduceCtorEq, eq_self, Int.reduceNeg, freeze, lidsL, lids, List.flatMap_cons, List.flatMap_nil, ren, *] | simp (disch := omega) only [getD_ints, wrapI] | (with_reducible show wcall _ false (.lit (.func (.func 10) _ _)) _ _ _ _; refine wcall_fn (h10) ?_ ?_ ?_; (next => simp [rfyL, rfy, hget, ints, take_rfy]); (next => simp [plainL, plain, plainR])) | omega)
    all_goals first | rfl
def outH (n : Int) : Bool := !(decide (-100000 ≤ n) && decide (n ≤ 100000))
set_option maxHeartbeats 8000000 in
theorem k57 (n : Int) : Fn Try.prog 57 [i64 n] (bl (outH n)) [] := by
  refine fn_of e57 ?_
  have h58 := k58 n (-100000) 100000
  unfold outH
  cases a1 : (decide (-100000 ≤ n) && decide (n ≤ 100000)) with
  | true =>
    rw [a1] at h58
    unfold c57
    repeat' (first | (with_reducible first | refine T_seq ?_ | refine T_reg ?_ | refine T_skip ?_ | refine T_exit ?_ | refine T_block ?_ | refine T_cond_t rfl ?_ | refine T_cond_f rfl ?_ | (show wcall _ false (.lit (.func (.func 58) _ _)) _ _ _ _; refine wcall_fn (h58) rfl (by simp [plainL, plain]) ?_) | refine T_ret ?_ | refine leave_of (.inr rfl) _ rfl ?_ | refine leave_of (.inl rfl) _ rfl ?_ | refine leaveA_of (.inr rfl) _ rfl ?_ | refine leaveA_of (.inl rfl) _ rfl ?_ | refine wif_intro ?_ (fun hc => ?_) | refine And.intro ?_ ?_ | intro hc) | simp (maxSteps := 4000000) only [wops_nil, wops_cons, wstep_none, wrun_call, wrun_mv, wrun_not, get_mk, wop, aop, ev, look, put_some, writes, ores_some, thenK, boolV, tupOf, List.map_cons, List.map_nil, List.length_nil, List.append_nil, List.replicate_zero, List.zipIdx_cons, List.zipIdx_nil, if_true, if_false, Nat.reduceEqDiff, Nat.zero_add, reduceCtorEq, Bool.not_true, eq_self, Int.reduceNeg, freeze, lidsL, lids, List.flatMap_cons, List.flatMap_nil, ren, *] | simp (disch := omega) only [getD_ints, wrapI] | (with_reducible show wcall _ false (.lit (.func (.func 58) _ _)) _ _ _ _; refine wcall_fn (h58) ?_ ?_ ?_; (next => simp [rfyL, rfy, hget, ints, take_rfy]); (next => simp [plainL, plain, plainR])) | omega)
    all_goals first | rfl
  | false =>
    rw [a1] at h58
    unfold c57
    repeat' (first | (with_reducible first | refine T_seq ?_ | refine T_reg ?_ | refine T_skip ?_ | refine T_exit ?_ | refine T_block ?_ | refine T_cond_t rfl ?_ | refine T_cond_f rfl ?_ | (show wcall _ false (.lit (.func (.func 58) _ _)) _ _ _ _; refine wcall_fn (h58) rfl (by simp [plainL, plain]) ?_) | refine T_ret ?_ | refine leave_of (.inr rfl) _ rfl ?_ | refine leave_of (.inl rfl) _ rfl ?_ | refine leaveA_of (.inr rfl) _ rfl ?_ | refine leaveA_of (.inl rfl) _ rfl ?_ | refine wif_intro ?_ (fun hc => ?_) | refine And.intro ?_ ?_ | intro hc) | simp (maxSteps := 4000000) only [wops_nil, wops_cons, wstep_none, wrun_call, wrun_mv, wrun_not, get_mk, wop, aop, ev, look, put_some, writes, ores_some, thenK, boolV, tupOf, List.map_cons, List.map_nil, List.length_nil, List.append_nil, List.replicate_zero, List.zipIdx_cons, List.zipIdx_nil, if_true, if_false, Nat.reduceEqDiff, Nat.zero_add, reduceCtorEq, Bool.not_false, eq_self, Int.reduceNeg, freeze, lidsL, lids, List.flatMap_cons, List.flatMap_nil, ren, *] | simp (disch := omega) only [getD_ints, wrapI] | (with_reducible show wcall _ false (.lit (.func (.func 58) _ _)) _ _ _ _; refine wcall_fn (h58) ?_ ?_ ?_; (next => simp [rfyL, rfy, hget, ints, take_rfy]); (next => simp [plainL, plain, plainR])) | omega)
    all_goals first | rfl
theorem any_no {p : Int → Bool} {xs : List Int} (h : ∀ k, k < xs.length → p (xs.getD k 0) = false) : xs.any p = false := by
  rw [List.any_eq_false]
  intro x hx
  obtain ⟨k, hk, rfl⟩ := List.mem_iff_getElem.1 hx
  have := h k hk
  rw [List.getD_eq_getElem?_getD, List.getElem?_eq_getElem hk] at this
  simp at this
  rw [this]; simp
set_option maxHeartbeats 8000000 in
theorem k28 (nil : Bool) (xs : List Int) (h : FOk xs) : Fn Try.prog 28 [ints nil xs] (i64 0) [] := by
  refine fn_of e28 ?_
  have hll := (by simp : (xs.map fun x => [i64 x]).length = xs.length)
  have hl := h.l
  have h58 := k58 (xs.length : Int) 1 40
  have a1 : (decide (1 ≤ (xs.length : Int)) && decide ((xs.length : Int) ≤ 40)) = true := by simp; omega
  rw [a1] at h58
  have h53 := k53f k57 nil xs (by omega)
  rw [any_no (p := outH) (fun k hk => by
    have := h.r k hk
    have a : decide (-100000 ≤ xs.getD k 0) = true := decide_eq_true this.1
    have b : decide (xs.getD k 0 ≤ 100000) = true := decide_eq_true this.2
    unfold outH; rw [a, b]; rfl)] at h53
  replace h53 := PLift.up h53
  have h56 : Fn Try.prog 56 [i64 (xs.length : Int)] (bl true) [] := by
    refine fn_of e56 ?_
    clear h53
    unfold c56
    repeat' (first | (with_reducible first | refine T_seq ?_ | refine T_reg ?_ | refine T_skip ?_ | refine T_exit ?_ | refine T_block ?_ | refine T_cond_t rfl ?_ | refine T_cond_f rfl ?_ | (show wcall _ false (.lit (.func (.func 58) _ _)) _ _ _ _; refine wcall_fn (h58) rfl (by simp [plainL, plain]) ?_) | refine T_ret ?_ | refine leave_of (.inr rfl) _ rfl ?_ | refine leave_of (.inl rfl) _ rfl ?_ | refine leaveA_of (.inr rfl) _ rfl ?_ | refine leaveA_of (.inl rfl) _ rfl ?_ | refine wif_intro ?_ (fun hc => ?_) | refine And.intro ?_ ?_ | intro hc) | simp (maxSteps := 4000000) only [wops_nil, wops_cons, wstep_none, wrun_call, wrun_mv, get_mk, wop, aop, ev, look, put_some, writes, ores_some, thenK, tupOf, List.map_cons, List.map_nil, List.length_nil, List.append_nil, List.replicate_zero, List.zipIdx_cons, List.zipIdx_nil, if_true, if_false, Nat.reduceEqDiff, Nat.zero_add, reduceCtorEq, eq_self, freeze, lidsL, lids, List.flatMap_cons, List.flatMap_nil, ren, *] | simp (disch := omega) only [getD_ints, wrapI] | (with_reducible show wcall _ false (.lit (.func (.func 58) _ _)) _ _ _ _; refine wcall_fn (h58) ?_ ?_ ?_; (next => simp [rfyL, rfy, hget, ints, take_rfy]); (next => simp [plainL, plain, plainR])) | omega)
    all_goals first | rfl
  clear a1 h
  unfold c28
  repeat' (first | (with_reducible first | refine T_seq ?_ | refine T_reg ?_ | refine T_skip ?_ | refine T_exit ?_ | refine T_block ?_ | refine T_cond_t rfl ?_ | refine T_cond_f rfl ?_ | (show wcall _ false (.lit (.func (.func 56) _ _)) _ _ _ _; refine wcall_fn (h56) rfl (by simp [plainL, plain]) ?_) | refine T_ret ?_ | refine wif_intro ?_ (fun hc => ?_) | refine And.intro ?_ ?_ | intro hc) | simp (maxSteps := 4000000) only [wops_nil, wops_cons, wstep_none, wrun_call, wrun_mv, wrun_not, wrun_len, wop, aop, ev, look, put_some, writes, ores_some, ores_map, ores_bind, thenK, boolV, intV, lenOf, hget, List.map_cons, List.map_nil, List.length_nil, List.append_nil, List.replicate_zero, List.zipIdx_cons, List.zipIdx_nil, Option.pure_def, Option.bind_eq_bind, if_true, if_false, Nat.reduceEqDiff, Nat.zero_add, reduceCtorEq, Bool.not_true, eq_self, freeze, lidsL, lids, List.flatMap_cons, List.flatMap_nil, ren, *] | simp (disch := omega) only [getD_ints, wrapI] | (with_reducible show wcall _ false (.lit (.func (.func 56) _ _)) _ _ _ _; refine wcall_fn (h56) ?_ ?_ ?_; (next => simp [rfyL, rfy, hget, ints, take_rfy]); (next => simp [plainL, plain, plainR])) | omega)
  refine wcall_rawfn h53.down (by simp [plainL, plain]) ?_
  clear h53
  repeat' (first | (with_reducible first | refine T_seq ?_ | refine T_reg ?_ | refine T_skip ?_ | refine T_exit ?_ | refine T_block ?_ | refine T_cond_t rfl ?_ | refine T_cond_f rfl ?_ | refine T_ret ?_ | refine leave_of (.inr rfl) _ rfl ?_ | refine leave_of (.inl rfl) _ rfl ?_ | refine leaveA_of (.inr rfl) _ rfl ?_ | refine leaveA_of (.inl rfl) _ rfl ?_ | refine wif_intro ?_ (fun hc => ?_) | refine And.intro ?_ ?_ | intro hc) | simp (maxSteps := 4000000) only [wops_nil, wops_cons, wstep_none, wrun_mv, get_mk, wop, aop, ev, look, put_some, writes, ores_some, thenK, tupOf, List.length_nil, List.append_nil, List.replicate_zero, if_true, if_false, Nat.reduceEqDiff, reduceCtorEq, eq_self, ren, *] | simp (disch := omega) only [getD_ints, wrapI] | omega)
  all_goals first | rfl
end Go.Abs
