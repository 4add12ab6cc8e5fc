import Derived.Test.YtodheeifecoebaaK269x
import Derived.Test.YtodheeifecoebaaK289
set_option linter.all false
set_option linter.unusedVariables false
set_option linter.unusedSimpArgs false
set_option linter.unusedSectionVars false
namespace Go.Abs
open Go.Proofs
/-! CheckLoop and Unwrap of a map that is not right -/
set_option maxHeartbeats 8000000 in
theorem k47e (w : Int) (nil nl : Bool) (ph l : List Int) (hl : ph.length < 1000000) (hc : checkFr w ph ≠ 0) : Fn Try.prog 47 [fmap w nil ph, ints nl l] (.tup [i64 0, i64 (checkFr w ph)]) [] := by
  refine fn_of e47 ?_
  have h62 := k62 w nil ph (by omega)
  have hd1 : (checkFr w ph != 0) = true := by simp only [bne_iff_ne]; exact hc
  clear hc
  generalize checkFr w ph = c at *
  unfold c47
  repeat' (first
    | ((with_reducible refine T_calm ?_ ?_); rfl)
    | with_reducible first
      | refine T_seq ?_
      | refine T_reg ?_
      | refine T_draw ?_
      | refine T_skip ?_
      | refine T_exit ?_
      | refine T_block ?_
      | refine T_cond_t rfl ?_
      | refine T_cond_f rfl ?_
      | refine wdW_cons rfl ?_
      | (show wcall _ false (.lit (.func (.func 62) _ _)) _ _ _ _; refine wcall_fn (h62) rfl (by simp [plainL, plain]) ?_)
      | (show wcallX _ false (.lit (.func (.func 62) _ _)) _ _ _ _; refine wcallX_fn (h62) rfl (by simp [plainL, plain, plainR]) ?_)
      | ((first | refine T_cond rfl (fun hc => ?_) (fun hc => ?_) | refine wguard_split (fun hc => ?_) (fun hc => ?_) | refine wguardX_split (fun hc => ?_) (fun hc => ?_)) <;> have hd := hc <;> (try simp (disch := omega) only [wrapI] at hd) <;> have hs := hd <;> (try simp only [Bool.not_eq_true', Bool.not_eq_false', Bool.and_eq_true, Bool.and_eq_false_iff, Bool.or_eq_true, Bool.or_eq_false_iff, decide_eq_true_eq, decide_eq_false_iff_not, beq_iff_eq, bne_iff_ne, beq_eq_false_iff_ne, bne_eq_false_iff_eq, Bool.not_true, Bool.not_false, gt_iff_lt, ge_iff_le, Int.not_lt, Int.not_le, ne_eq, Decidable.not_not] at hd) <;> (try simp at hs))
      | refine T_ret ?_
      | refine leave_of (.inr rfl) _ rfl ?_
      | refine leave_of (.inl rfl) _ rfl ?_
      | refine leaveA_of (.inr rfl) _ rfl ?_
      | refine leaveA_of (.inl rfl) _ rfl ?_
      | refine wif_intro ?_ (fun hc => ?_)
      | refine And.intro ?_ ?_
      | intro hc
    | simp (maxSteps := 4000000) only [wops_nil, wops_cons, wstep_none, wrun_call, wrun_mv, wrun_bin, wrun_load, wrun_box, get_mk, wop, aop, ev, look, put_some, writes, ores_some, binV, thenK, value, cut, hget, AV.parts, isOne, toLits, mkAgg, tupOf, List.map_cons, List.map_nil, List.length_cons, List.length_nil, List.getElem?_cons_zero, List.set_cons_zero, List.take_succ_cons, List.take_nil, List.drop_zero, List.nil_append, List.append_nil, List.replicate_zero, List.replicate_succ, List.getD_cons_zero, List.zipIdx_cons, List.zipIdx_nil, List.all_cons, List.all_nil, Option.getD_some, Option.map_some, Option.map_none, if_true, if_false, Nat.reduceEqDiff, Nat.reduceAdd, Nat.add_zero, Nat.zero_add, reduceCtorEq, Bool.and_true, eq_self, true_and, and_self, freeze, lidsL, lids, List.flatMap_cons, List.flatMap_nil, List.all_cons, ren, renL, *]
    | simp (disch := omega) only [getD_ints, wrapI]
    | (with_reducible show wcall _ false (.lit (.func (.func 62) _ _)) _ _ _ _; refine wcall_fn (h62) ?_ ?_ ?_; (next => simp [rfyL, rfy, hget, ints, take_rfy]); (next => simp [plainL, plain, plainR]))
    | (with_reducible show wcallX _ false (.lit (.func (.func 62) _ _)) _ _ _ _; refine wcallX_fn (h62) ?_ ?_ ?_; (next => simp [rfyL, rfy, hget, ints, take_rfy]); (next => simp [plainL, plain, plainR]))
    | omega)
  all_goals first | rfl
end Go.Abs
namespace Go.Abs
open Go.Proofs
/-! law 7 -/
set_option maxHeartbeats 8000000 in
theorem k41u (w : Int) (nil : Bool) (xs : List Int) : Fn Try.prog 41 [fmap w nil xs] (bl (smallB xs.length)) [] := by
  refine fn_of e41 ?_
  unfold c41
  repeat' (first
    | with_reducible first
      | refine T_seq ?_
      | refine T_reg ?_
      | refine T_skip ?_
      | refine T_exit ?_
      | refine T_block ?_
      | refine T_cond_t rfl ?_
      | refine T_cond_f rfl ?_
      | ((first | refine T_cond rfl (fun hc => ?_) (fun hc => ?_) | refine wguard_split (fun hc => ?_) (fun hc => ?_)) <;> have hd := hc <;> (try simp (disch := omega) only [wrapI] at hd) <;> have hs := hd <;> (try simp only [decide_eq_true_eq, decide_eq_false_iff_not, Bool.not_true, Bool.not_false, gt_iff_lt, Int.not_lt, Int.not_le] at hd) <;> (try simp at hs))
      | refine T_ret ?_
      | refine leave_of (.inr rfl) _ rfl ?_
      | refine leave_of (.inl rfl) _ rfl ?_
      | refine leaveA_of (.inr rfl) _ rfl ?_
      | refine leaveA_of (.inl rfl) _ rfl ?_
      | refine wif_intro ?_ (fun hc => ?_)
      | refine And.intro ?_ ?_
      | intro hc
    | simp (maxSteps := 4000000) only [wops_nil, wops_cons, wstep_none, wstep_some, wguard_true, wguard_ff, wguard_tf, wguard_ft, wguard_undef, wrun_mv, wrun_pick, wrun_bin, wrun_load, wrun_faddr, wrun_len, wrun_box, get_mk, wop, aop, ev, look, put_some, writes, ores_some, ores_map, ores_bind, binV, thenK, intV, lenOf, value, cut, hget, AV.parts, isOne, mkAgg, tupOf, List.map_cons, List.map_nil, List.length_cons, List.length_nil, List.getElem?_cons_zero, List.set_cons_zero, List.take_succ_cons, List.take_nil, List.drop_succ_cons, List.drop_zero, List.nil_append, List.append_nil, List.replicate_zero, List.replicate_succ, List.getD_cons_zero, List.zipIdx_cons, List.zipIdx_nil, List.all_cons, List.all_nil, List.length_map, Option.pure_def, Option.bind_eq_bind, Option.getD_some, Option.map_some, if_true, if_false, Nat.reduceEqDiff, Nat.reduceAdd, Nat.add_zero, Nat.zero_add, Nat.zero_ne_one, reduceCtorEq, Bool.not_true, Bool.and_true, Bool.false_eq_true, eq_self, true_and, and_self, decide_true, List.all_cons, ren, *]
    | simp (disch := omega) only [getD_ints, wrapI]
    | omega)
  all_goals unfold smallB
  all_goals first | rfl | omega | (exfalso; omega) | (refine congrArg bl ?_; rw [Bool.eq_iff_iff]; simp; done) | (refine congrArg bl ?_; rw [Bool.eq_iff_iff]; simp; omega) | (simp_all; done) | (simp_all; omega) | ((repeat' split) <;> first | rfl | omega | (exfalso; omega) | (refine congrArg bl ?_; rw [Bool.eq_iff_iff]; simp; done) | (refine congrArg bl ?_; rw [Bool.eq_iff_iff]; simp; omega) | (simp_all; done) | (simp_all; omega))
end Go.Abs
