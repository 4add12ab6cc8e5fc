import Derived.Test.YtodheeifecoebaaK29x
set_option linter.all false
set_option linter.unusedVariables false
set_option linter.unusedSimpArgs false
set_option linter.unusedSectionVars false
namespace Go.Abs
open Go.Proofs
/-! CheckLoop of both sides -/
def chkLp (w : Int) (ph l : List Int) : Int × Int := if (loopSum w ph l).2 = 0 ∧ (loopSum w ph l).1 = 0 then (0, 22) else loopSum w ph l
set_option maxHeartbeats 8000000 in
theorem k46 (w : Int) (nil nl : Bool) (ph l : List Int) (hl : ph.length < 1000000) (hll : l.length < 1000000) (hp : okPh ph) (hw : 1 ≤ w ∧ w ≤ 1000000) : Fn Try.prog 46 [fmap w nil ph, ints nl l] (.tup [i64 (chkLp w ph l).1, i64 (chkLp w ph l).2]) [] := by
  refine fn_of e46 ?_
  have h110 := k110 w nil nl ph l hl hll hp hw
  unfold chkLp
  generalize loopSum w ph l = q at *
  obtain ⟨s, e⟩ := q
  dsimp only at *
  unfold c46
  by_cases h1 : e = 0
  · subst h1
    by_cases h2 : s = 0
    · subst h2
      rw [if_pos ⟨rfl, rfl⟩]
      repeat' (first
        | with_reducible first
          | refine T_seq ?_
          | refine T_reg ?_
          | refine T_skip ?_
          | refine T_exit ?_
          | refine T_block ?_
          | refine T_cond_t rfl ?_
          | refine T_cond_f rfl ?_
          | (show wcall _ false (.lit (.func (.func 110) _ _)) _ _ _ _; refine wcall_fn (h110) rfl (by simp [plainL, plain, plainR_ints]) ?_)
          | ((first | refine T_cond rfl (fun hc => ?_) (fun hc => ?_) | refine wguard_split (fun hc => ?_) (fun hc => ?_)) <;> have hd := hc <;> (try simp (disch := omega) only [wrapI] at hd) <;> have hs := hd <;> (try simp only [Bool.not_eq_true', Bool.not_eq_false', Bool.and_eq_true, Bool.and_eq_false_iff, Bool.or_eq_true, Bool.or_eq_false_iff, decide_eq_true_eq, decide_eq_false_iff_not, beq_iff_eq, bne_iff_ne, beq_eq_false_iff_ne, bne_eq_false_iff_eq, Bool.not_true, Bool.not_false, gt_iff_lt, ge_iff_le, Int.not_lt, Int.not_le, ne_eq, Decidable.not_not] at hd) <;> (try simp at hs))
          | refine T_ret ?_
          | refine leave_of (.inr rfl) _ rfl ?_
          | refine leave_of (.inl rfl) _ rfl ?_
          | refine leaveA_of (.inr rfl) _ rfl ?_
          | refine leaveA_of (.inl rfl) _ rfl ?_
          | refine wif_intro ?_ (fun hc => ?_)
          | refine And.intro ?_ ?_
          | intro hc
        | simp (maxSteps := 4000000) only [wops_nil, wops_cons, wstep_none, wstep_some, wguard_true, wrun_call, wrun_mv, wrun_pick, wrun_bin, wrun_ext, wrun_load, wrun_box, get_mk, wop, aop, ev, look, put_some, writes, ores_some, binV, thenK, value, cut, hget, AV.parts, isOne, toLits, mkAgg, tupOf, List.map_cons, List.map_nil, List.length_cons, List.length_nil, List.getElem?_cons_zero, List.getElem?_cons_succ, List.set_cons_zero, List.take_succ_cons, List.take_nil, List.drop_zero, List.nil_append, List.append_nil, List.replicate_zero, List.replicate_succ, List.getD_cons_zero, List.zipIdx_cons, List.zipIdx_nil, List.all_cons, List.all_nil, Option.getD_some, Option.map_some, Option.map_none, if_true, if_false, Nat.reduceEqDiff, Nat.reduceAdd, Nat.add_zero, Nat.zero_add, Nat.zero_ne_one, reduceCtorEq, Bool.and_true, eq_self, true_and, and_self, beq_self_eq_true, freeze, lidsL, lids, List.flatMap_cons, List.flatMap_nil, List.all_cons, ren, renL, *]
        | simp (disch := omega) only [getD_ints, wrapI]
        | (with_reducible show wcall _ false (.lit (.func (.func 110) _ _)) _ _ _ _; refine wcall_fn (h110) ?_ ?_ ?_; (next => simp [rfyL, rfy, hget, ints, take_rfy, renR_ints, plainR_ints]); (next => simp [plainL, plain, plainR, renR_ints, plainR_ints]))
        | omega)
      all_goals first | rfl
    · rw [if_neg (fun h => h2 h.2)]
      have c1 : (s == 0) = false := by simp only [beq_eq_false_iff_ne]; exact h2
      clear h2
      repeat' (first
        | with_reducible first
          | refine T_seq ?_
          | refine T_reg ?_
          | refine T_skip ?_
          | refine T_exit ?_
          | refine T_block ?_
          | refine T_cond_t rfl ?_
          | refine T_cond_f rfl ?_
          | (show wcall _ false (.lit (.func (.func 110) _ _)) _ _ _ _; refine wcall_fn (h110) rfl (by simp [plainL, plain, plainR_ints]) ?_)
          | ((first | refine T_cond rfl (fun hc => ?_) (fun hc => ?_) | refine wguard_split (fun hc => ?_) (fun hc => ?_)) <;> have hd := hc <;> (try simp (disch := omega) only [wrapI] at hd) <;> have hs := hd <;> (try simp only [Bool.not_eq_true', Bool.not_eq_false', Bool.and_eq_true, Bool.and_eq_false_iff, Bool.or_eq_true, Bool.or_eq_false_iff, decide_eq_true_eq, decide_eq_false_iff_not, beq_iff_eq, bne_iff_ne, beq_eq_false_iff_ne, bne_eq_false_iff_eq, Bool.not_true, Bool.not_false, gt_iff_lt, ge_iff_le, Int.not_lt, Int.not_le, ne_eq, Decidable.not_not] at hd) <;> (try simp at hs))
          | refine T_ret ?_
          | refine leave_of (.inr rfl) _ rfl ?_
          | refine leave_of (.inl rfl) _ rfl ?_
          | refine leaveA_of (.inr rfl) _ rfl ?_
          | refine leaveA_of (.inl rfl) _ rfl ?_
          | refine wif_intro ?_ (fun hc => ?_)
          | refine And.intro ?_ ?_
          | intro hc
        | simp (maxSteps := 4000000) only [wops_nil, wops_cons, wstep_none, wstep_some, wguard_true, wrun_call, wrun_mv, wrun_pick, wrun_bin, wrun_ext, wrun_load, wrun_box, get_mk, wop, aop, ev, look, put_some, writes, ores_some, binV, thenK, value, cut, hget, AV.parts, isOne, toLits, mkAgg, tupOf, List.map_cons, List.map_nil, List.length_cons, List.length_nil, List.getElem?_cons_zero, List.getElem?_cons_succ, List.set_cons_zero, List.take_succ_cons, List.take_nil, List.drop_zero, List.nil_append, List.append_nil, List.replicate_zero, List.replicate_succ, List.getD_cons_zero, List.zipIdx_cons, List.zipIdx_nil, List.all_cons, List.all_nil, Option.getD_some, Option.map_some, Option.map_none, if_true, if_false, Nat.reduceEqDiff, Nat.reduceAdd, Nat.add_zero, Nat.zero_add, Nat.zero_ne_one, reduceCtorEq, Bool.and_true, eq_self, true_and, and_self, beq_self_eq_true, freeze, lidsL, lids, List.flatMap_cons, List.flatMap_nil, List.all_cons, ren, renL, *]
        | simp (disch := omega) only [getD_ints, wrapI]
        | (with_reducible show wcall _ false (.lit (.func (.func 110) _ _)) _ _ _ _; refine wcall_fn (h110) ?_ ?_ ?_; (next => simp [rfyL, rfy, hget, ints, take_rfy, renR_ints, plainR_ints]); (next => simp [plainL, plain, plainR, renR_ints, plainR_ints]))
        | omega)
      all_goals first | rfl
  · rw [if_neg (fun h => h1 h.1)]
    have c1 : (e == 0) = false := by simp only [beq_eq_false_iff_ne]; exact h1
    clear h1
    repeat' (first
      | with_reducible first
        | refine T_seq ?_
        | refine T_reg ?_
        | refine T_skip ?_
        | refine T_exit ?_
        | refine T_block ?_
        | refine T_cond_t rfl ?_
        | refine T_cond_f rfl ?_
        | (show wcall _ false (.lit (.func (.func 110) _ _)) _ _ _ _; refine wcall_fn (h110) rfl (by simp [plainL, plain, plainR_ints]) ?_)
        | ((first | refine T_cond rfl (fun hc => ?_) (fun hc => ?_) | refine wguard_split (fun hc => ?_) (fun hc => ?_)) <;> have hd := hc <;> (try simp (disch := omega) only [wrapI] at hd) <;> have hs := hd <;> (try simp only [Bool.not_eq_true', Bool.not_eq_false', Bool.and_eq_true, Bool.and_eq_false_iff, Bool.or_eq_true, Bool.or_eq_false_iff, decide_eq_true_eq, decide_eq_false_iff_not, beq_iff_eq, bne_iff_ne, beq_eq_false_iff_ne, bne_eq_false_iff_eq, Bool.not_true, Bool.not_false, gt_iff_lt, ge_iff_le, Int.not_lt, Int.not_le, ne_eq, Decidable.not_not] at hd) <;> (try simp at hs))
        | refine T_ret ?_
        | refine leave_of (.inr rfl) _ rfl ?_
        | refine leave_of (.inl rfl) _ rfl ?_
        | refine leaveA_of (.inr rfl) _ rfl ?_
        | refine leaveA_of (.inl rfl) _ rfl ?_
        | refine wif_intro ?_ (fun hc => ?_)
        | refine And.intro ?_ ?_
        | intro hc
      | simp (maxSteps := 4000000) only [wops_nil, wops_cons, wstep_none, wstep_some, wguard_ft, wrun_call, wrun_mv, wrun_pick, wrun_bin, wrun_ext, wrun_load, wrun_box, get_mk, wop, aop, ev, look, put_some, writes, ores_some, binV, thenK, value, cut, hget, AV.parts, isOne, toLits, mkAgg, tupOf, List.map_cons, List.map_nil, List.length_cons, List.length_nil, List.getElem?_cons_zero, List.getElem?_cons_succ, List.set_cons_zero, List.take_succ_cons, List.take_nil, List.drop_zero, List.nil_append, List.append_nil, List.replicate_zero, List.replicate_succ, List.getD_cons_zero, List.zipIdx_cons, List.zipIdx_nil, List.all_cons, List.all_nil, Option.getD_some, Option.map_some, Option.map_none, if_true, if_false, Nat.reduceEqDiff, Nat.reduceAdd, Nat.add_zero, Nat.zero_add, Nat.zero_ne_one, reduceCtorEq, Bool.and_true, Bool.false_eq_true, eq_self, true_and, and_self, freeze, lidsL, lids, List.flatMap_cons, List.flatMap_nil, List.all_cons, ren, renL, *]
      | simp (disch := omega) only [getD_ints, wrapI]
      | (with_reducible show wcall _ false (.lit (.func (.func 110) _ _)) _ _ _ _; refine wcall_fn (h110) ?_ ?_ ?_; (next => simp [rfyL, rfy, hget, ints, take_rfy, renR_ints, plainR_ints]); (next => simp [plainL, plain, plainR, renR_ints, plainR_ints]))
      | omega)
    all_goals first | rfl
end Go.Abs
