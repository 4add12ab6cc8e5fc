import Derived.Test.YtodheeifecoebaaK206x
set_option linter.all false
set_option linter.unusedVariables false
set_option linter.unusedSimpArgs false
set_option linter.unusedSectionVars false
namespace Go.Abs
open Go.Proofs
/-! the specification's CheckTurned; Light -/
theorem drop_getI {xs : List Int} {k : Nat} (h : k < xs.length) : xs.drop k = xs.getD k 0 :: xs.drop (k + 1) := by
  rw [List.drop_eq_getElem_cons h]; simp [List.getD, h]
set_option maxHeartbeats 8000000 in
theorem k36 {S : Int} {nil : Bool} {rows : List (Bool × List Int)} (hl : rows.length < 1000000) :
    Fn Try.prog 36 [tmV S nil rows] (i64 (checkT S rows)) [] := by
  refine fn_of e36 ?_
  have hl2 : (rows.map fun r => [ints r.1 r.2]).length = rows.length := by simp
  unfold checkT
  by_cases h1 : ¬(1 ≤ S ∧ S ≤ 24)
  · rw [if_pos h1]
    unfold c36
    repeat' (first
      | ((with_reducible refine T_calm ?_ ?_); rfl)
      | with_reducible first
        | refine T_seq ?_
        | refine T_reg ?_
        | refine T_draw ?_
        | refine T_skip ?_
        | refine T_exit ?_
        | refine T_block ?_
        | refine T_cond_t rfl ?_
        | refine T_cond_f rfl ?_
        | refine wdW_cons rfl ?_
        | (show wcall _ false (.lit (.func (.func 32) _ _)) _ _ _ _; refine wcall_fn (k32 _ _ _) rfl (by simp [plainL, plain]) ?_)
        | (show wcallX _ false (.lit (.func (.func 32) _ _)) _ _ _ _; refine wcallX_fn (k32 _ _ _) rfl (by simp [plainL, plain, plainR, renR_rws]) ?_)
        | ((first | refine T_cond rfl (fun hc => ?_) (fun hc => ?_) | refine wguard_split (fun hc => ?_) (fun hc => ?_) | refine wguardX_split (fun hc => ?_) (fun hc => ?_)) <;> have hd := hc <;> (try simp (disch := omega) only [wrapI] at hd) <;> have hs := hd <;> (try simp only [Bool.not_eq_true', Bool.not_eq_false', Bool.and_eq_true, Bool.and_eq_false_iff, decide_eq_true_eq, decide_eq_false_iff_not, bne_iff_ne, bne_eq_false_iff_eq, Bool.not_false, Int.not_le, ne_eq] at hd) <;> (try simp at hs))
        | refine T_ret ?_
        | refine leave_of (.inr rfl) _ rfl ?_
        | refine leave_of (.inl rfl) _ rfl ?_
        | refine leaveA_of (.inr rfl) _ rfl ?_
        | refine leaveA_of (.inl rfl) _ rfl ?_
        | refine wif_intro ?_ (fun hc => ?_)
        | refine And.intro ?_ ?_
        | intro hc
      | simp (maxSteps := 4000000) only [wops_nil, wops_cons, wstep_none, wstep_some, wguard_ff, wguard_tf, wrun_call, wrun_mv, wrun_pick, wrun_bin, wrun_not, wrun_load, wrun_faddr, wrun_len, wrun_box, get_mk, wop, aop, ev, look, put_some, writes, ores_some, ores_none_ite, ores_map, ores_bind, binV, thenK, boolV, intV, lenOf, value, cut, hget, AV.parts, isOne, mkAgg, tupOf, List.map_cons, List.map_nil, List.length_cons, List.length_nil, List.getElem?_cons_zero, List.set_cons_zero, List.take_succ_cons, List.take_zero, List.take_nil, List.drop_succ_cons, List.drop_zero, List.nil_append, List.append_nil, List.replicate_zero, List.replicate_succ, List.getD_cons_zero, List.zipIdx_cons, List.zipIdx_nil, List.all_cons, List.all_nil, Option.pure_def, Option.bind_eq_bind, Option.getD_some, Option.map_some, if_true, if_false, Nat.reduceEqDiff, Nat.reduceAdd, Nat.add_zero, Nat.zero_add, Nat.zero_ne_one, reduceCtorEq, Bool.not_true, Bool.not_false, Bool.and_true, Bool.false_eq_true, eq_self, true_and, and_self, decide_true, freeze, lidsL, lids, List.flatMap_cons, List.flatMap_nil, List.all_cons, ren, *]
      | simp (disch := omega) only [getD_ints, wrapI]
      | (with_reducible show wcall _ false (.lit (.func (.func 32) _ _)) _ _ _ _; refine wcall_fn (k32 _ _ _) ?_ ?_ ?_; (next => simp [rfyL, rfy, hget, ints, take_rfy, renR_rws]); (next => simp [plainL, plain, plainR, renR_rws]))
      | (with_reducible show wcallX _ false (.lit (.func (.func 32) _ _)) _ _ _ _; refine wcallX_fn (k32 _ _ _) ?_ ?_ ?_; (next => simp [rfyL, rfy, hget, ints, take_rfy, renR_rws]); (next => simp [plainL, plain, plainR, renR_rws]))
      | omega)
    all_goals first | rfl
  rw [if_neg h1]
  by_cases h2 : ¬(1 ≤ rows.length ∧ rows.length ≤ 12)
  · rw [if_pos h2]
    unfold c36
    repeat' (first
      | ((with_reducible refine T_calm ?_ ?_); rfl)
      | with_reducible first
        | refine T_seq ?_
        | refine T_reg ?_
        | refine T_draw ?_
        | refine T_skip ?_
        | refine T_exit ?_
        | refine T_block ?_
        | refine T_cond_t rfl ?_
        | refine T_cond_f rfl ?_
        | refine wdW_cons rfl ?_
        | (show wcall _ false (.lit (.func (.func 32) _ _)) _ _ _ _; refine wcall_fn (k32 _ _ _) rfl (by simp [plainL, plain]) ?_)
        | (show wcallX _ false (.lit (.func (.func 32) _ _)) _ _ _ _; refine wcallX_fn (k32 _ _ _) rfl (by simp [plainL, plain, plainR, renR_rws]) ?_)
        | ((first | refine T_cond rfl (fun hc => ?_) (fun hc => ?_) | refine wguard_split (fun hc => ?_) (fun hc => ?_) | refine wguardX_split (fun hc => ?_) (fun hc => ?_)) <;> have hd := hc <;> (try simp (disch := omega) only [wrapI] at hd) <;> have hs := hd <;> (try simp only [Bool.not_eq_true', Bool.not_eq_false', Bool.and_eq_true, Bool.and_eq_false_iff, decide_eq_true_eq, decide_eq_false_iff_not, bne_iff_ne, bne_eq_false_iff_eq, Bool.not_false, Int.not_le, ne_eq] at hd) <;> (try simp at hs))
        | refine T_ret ?_
        | refine leave_of (.inr rfl) _ rfl ?_
        | refine leave_of (.inl rfl) _ rfl ?_
        | refine leaveA_of (.inr rfl) _ rfl ?_
        | refine leaveA_of (.inl rfl) _ rfl ?_
        | refine wif_intro ?_ (fun hc => ?_)
        | refine And.intro ?_ ?_
        | intro hc
      | simp (maxSteps := 4000000) only [wops_nil, wops_cons, wstep_none, wstep_some, wguard_ff, wguard_tf, wrun_call, wrun_mv, wrun_pick, wrun_bin, wrun_not, wrun_load, wrun_faddr, wrun_len, wrun_box, get_mk, wop, aop, ev, look, put_some, writes, ores_some, ores_none_ite, ores_map, ores_bind, binV, thenK, boolV, intV, lenOf, value, cut, hget, AV.parts, isOne, mkAgg, tupOf, List.map_cons, List.map_nil, List.length_cons, List.length_nil, List.getElem?_cons_zero, List.set_cons_zero, List.take_succ_cons, List.take_zero, List.take_nil, List.drop_succ_cons, List.drop_zero, List.nil_append, List.append_nil, List.replicate_zero, List.replicate_succ, List.getD_cons_zero, List.zipIdx_cons, List.zipIdx_nil, List.all_cons, List.all_nil, Option.pure_def, Option.bind_eq_bind, Option.getD_some, Option.map_some, if_true, if_false, Nat.reduceEqDiff, Nat.reduceAdd, Nat.add_zero, Nat.zero_add, Nat.zero_ne_one, reduceCtorEq, Bool.not_true, Bool.not_false, Bool.and_true, Bool.false_eq_true, eq_self, true_and, and_self, decide_true, freeze, lidsL, lids, List.flatMap_cons, List.flatMap_nil, List.all_cons, ren, *]
      | simp (disch := omega) only [getD_ints, wrapI]
      | (with_reducible show wcall _ false (.lit (.func (.func 32) _ _)) _ _ _ _; refine wcall_fn (k32 _ _ _) ?_ ?_ ?_; (next => simp [rfyL, rfy, hget, ints, take_rfy, renR_rws]); (next => simp [plainL, plain, plainR, renR_rws]))
      | (with_reducible show wcallX _ false (.lit (.func (.func 32) _ _)) _ _ _ _; refine wcallX_fn (k32 _ _ _) ?_ ?_ ?_; (next => simp [rfyL, rfy, hget, ints, take_rfy, renR_rws]); (next => simp [plainL, plain, plainR, renR_rws]))
      | omega)
    all_goals first | rfl
  rw [if_neg h2]
  by_cases h3 : S.tmod rows.length ≠ 0
  · rw [if_pos h3]
    have h3b : (S.tmod rows.length != 0) = true := by simp only [bne_iff_ne]; exact h3
    unfold c36
    repeat' (first
      | ((with_reducible refine T_calm ?_ ?_); rfl)
      | with_reducible first
        | refine T_seq ?_
        | refine T_reg ?_
        | refine T_draw ?_
        | refine T_skip ?_
        | refine T_exit ?_
        | refine T_block ?_
        | refine T_cond_t rfl ?_
        | refine T_cond_f rfl ?_
        | refine wdW_cons rfl ?_
        | (show wcall _ false (.lit (.func (.func 32) _ _)) _ _ _ _; refine wcall_fn (k32 _ _ _) rfl (by simp [plainL, plain]) ?_)
        | (show wcallX _ false (.lit (.func (.func 32) _ _)) _ _ _ _; refine wcallX_fn (k32 _ _ _) rfl (by simp [plainL, plain, plainR, renR_rws]) ?_)
        | ((first | refine T_cond rfl (fun hc => ?_) (fun hc => ?_) | refine wguard_split (fun hc => ?_) (fun hc => ?_) | refine wguardX_split (fun hc => ?_) (fun hc => ?_)) <;> have hd := hc <;> (try simp (disch := omega) only [wrapI] at hd) <;> have hs := hd <;> (try simp only [Bool.not_eq_true', Bool.not_eq_false', Bool.and_eq_true, Bool.and_eq_false_iff, decide_eq_true_eq, decide_eq_false_iff_not, Bool.not_false, Int.not_le] at hd) <;> (try simp at hs))
        | refine T_ret ?_
        | refine leave_of (.inr rfl) _ rfl ?_
        | refine leave_of (.inl rfl) _ rfl ?_
        | refine leaveA_of (.inr rfl) _ rfl ?_
        | refine leaveA_of (.inl rfl) _ rfl ?_
        | refine wif_intro ?_ (fun hc => ?_)
        | refine And.intro ?_ ?_
        | intro hc
      | simp (maxSteps := 4000000) only [wops_nil, wops_cons, wstep_none, wstep_some, wguard_ff, wguard_tf, wrun_call, wrun_mv, wrun_pick, wrun_bin, wrun_not, wrun_load, wrun_faddr, wrun_len, wrun_box, get_mk, wop, aop, ev, look, put_some, writes, ores_some, ores_none_ite, ores_map, ores_bind, binV, thenK, boolV, intV, lenOf, value, cut, hget, AV.parts, isOne, mkAgg, tupOf, List.map_cons, List.map_nil, List.length_cons, List.length_nil, List.getElem?_cons_zero, List.set_cons_zero, List.take_succ_cons, List.take_zero, List.take_nil, List.drop_succ_cons, List.drop_zero, List.nil_append, List.append_nil, List.replicate_zero, List.replicate_succ, List.getD_cons_zero, List.zipIdx_cons, List.zipIdx_nil, List.all_cons, List.all_nil, Option.pure_def, Option.bind_eq_bind, Option.getD_some, Option.map_some, if_true, if_false, Nat.reduceEqDiff, Nat.reduceAdd, Nat.add_zero, Nat.zero_add, Nat.zero_ne_one, reduceCtorEq, Bool.not_true, Bool.not_false, Bool.and_true, Bool.false_eq_true, eq_self, true_and, and_self, decide_true, freeze, lidsL, lids, List.flatMap_cons, List.flatMap_nil, List.all_cons, ren, *]
      | simp (disch := omega) only [getD_ints, wrapI]
      | (with_reducible show wcall _ false (.lit (.func (.func 32) _ _)) _ _ _ _; refine wcall_fn (k32 _ _ _) ?_ ?_ ?_; (next => simp [rfyL, rfy, hget, ints, take_rfy, renR_rws]); (next => simp [plainL, plain, plainR, renR_rws]))
      | (with_reducible show wcallX _ false (.lit (.func (.func 32) _ _)) _ _ _ _; refine wcallX_fn (k32 _ _ _) ?_ ?_ ?_; (next => simp [rfyL, rfy, hget, ints, take_rfy, renR_rws]); (next => simp [plainL, plain, plainR, renR_rws]))
      | omega)
    all_goals first | rfl
  rw [if_neg h3]
  have h3b : (S.tmod rows.length != 0) = false := by simp only [bne_eq_false_iff_eq]; omega
  unfold c36
  repeat' (first
    | ((with_reducible refine T_calm ?_ ?_); rfl)
    | with_reducible first
      | refine T_seq ?_
      | refine T_reg ?_
      | refine T_draw ?_
      | refine T_skip ?_
      | refine T_exit ?_
      | refine T_block ?_
      | refine T_cond_t rfl ?_
      | refine T_cond_f rfl ?_
      | refine wdW_cons rfl ?_
      | (show wcall _ false (.lit (.func (.func 32) _ _)) _ _ _ _; refine wcall_fn (k32 _ _ _) rfl (by simp [plainL, plain]) ?_)
      | (show wcallX _ false (.lit (.func (.func 32) _ _)) _ _ _ _; refine wcallX_fn (k32 _ _ _) rfl (by simp [plainL, plain, plainR, renR_rws]) ?_)
      | ((first | refine T_cond rfl (fun hc => ?_) (fun hc => ?_) | refine wguard_split (fun hc => ?_) (fun hc => ?_) | refine wguardX_split (fun hc => ?_) (fun hc => ?_)) <;> have hd := hc <;> (try simp (disch := omega) only [wrapI] at hd) <;> have hs := hd <;> (try simp only [Bool.not_eq_true', Bool.not_eq_false', Bool.and_eq_true, Bool.and_eq_false_iff, decide_eq_true_eq, decide_eq_false_iff_not, Bool.not_false, Int.not_le] at hd) <;> (try simp at hs))
      | refine T_ret ?_
      | refine leave_of (.inr rfl) _ rfl ?_
      | refine leave_of (.inl rfl) _ rfl ?_
      | refine leaveA_of (.inr rfl) _ rfl ?_
      | refine leaveA_of (.inl rfl) _ rfl ?_
      | refine wif_intro ?_ (fun hc => ?_)
      | refine And.intro ?_ ?_
      | intro hc
    | simp (maxSteps := 4000000) only [wops_nil, wops_cons, wstep_none, wstep_some, wguard_ff, wguard_tf, wrun_call, wrun_mv, wrun_pick, wrun_bin, wrun_not, wrun_load, wrun_faddr, wrun_len, wrun_box, get_mk, wop, aop, ev, look, put_some, writes, ores_some, ores_none_ite, ores_map, ores_bind, binV, thenK, boolV, intV, lenOf, value, cut, hget, AV.parts, isOne, mkAgg, tupOf, List.map_cons, List.map_nil, List.length_cons, List.length_nil, List.getElem?_cons_zero, List.set_cons_zero, List.take_succ_cons, List.take_zero, List.take_nil, List.drop_succ_cons, List.drop_zero, List.nil_append, List.append_nil, List.replicate_zero, List.replicate_succ, List.getD_cons_zero, List.zipIdx_cons, List.zipIdx_nil, List.all_cons, List.all_nil, Option.pure_def, Option.bind_eq_bind, Option.getD_some, Option.map_some, if_true, if_false, Nat.reduceEqDiff, Nat.reduceAdd, Nat.add_zero, Nat.zero_add, Nat.zero_ne_one, reduceCtorEq, Bool.not_true, Bool.not_false, Bool.and_true, Bool.false_eq_true, eq_self, true_and, and_self, decide_true, freeze, lidsL, lids, List.flatMap_cons, List.flatMap_nil, List.all_cons, ren, *]
    | simp (disch := omega) only [getD_ints, wrapI]
    | (with_reducible show wcall _ false (.lit (.func (.func 32) _ _)) _ _ _ _; refine wcall_fn (k32 _ _ _) ?_ ?_ ?_; (next => simp [rfyL, rfy, hget, ints, take_rfy, renR_rws]); (next => simp [plainL, plain, plainR, renR_rws]))
    | (with_reducible show wcallX _ false (.lit (.func (.func 32) _ _)) _ _ _ _; refine wcallX_fn (k32 _ _ _) ?_ ?_ ?_; (next => simp [rfyL, rfy, hget, ints, take_rfy, renR_rws]); (next => simp [plainL, plain, plainR, renR_rws]))
    | omega)
  refine T_for [1, 3, 4] (fun t => ⟨[(1, .loc 0 0 0), (3, i64 rows.length), (4, i64 t)], [.cells true false 2 [[i64 S, .sl nil 1 (rows.map fun r => [ints r.1 r.2])]]]⟩) rows.length (fun t => (rows.drop t).any (fun r => ((r.2.length : Nat) : Int) != S) = rows.any (fun r => ((r.2.length : Nat) : Int) != S)) 0 ?_ rfl (Nat.zero_le _) ?_
  · simp [St.only, get_mk, look]
  intro t ht hI
  by_cases htn : t < rows.length
  · rw [drop_rowN htn, List.any_cons] at hI
    have h1 := rws_get htn
    cases hb : ((((rowN rows t).2.length : Nat) : Int) != S) with
    | true =>
      rw [hb, Bool.true_or] at hI
      rw [← hI, if_pos rfl]
      clear hI
      unfold c36l0
      repeat' (first
        | ((with_reducible refine T_calm ?_ ?_); rfl)
        | with_reducible first
          | refine T_seq ?_
          | refine T_reg ?_
          | refine T_draw ?_
          | refine T_skip ?_
          | refine T_exit ?_
          | refine T_block ?_
          | refine T_cond_t rfl ?_
          | refine T_cond_f rfl ?_
          | refine wdW_cons rfl ?_
          | ((first | refine T_cond rfl (fun hc => ?_) (fun hc => ?_) | refine wguard_split (fun hc => ?_) (fun hc => ?_) | refine wguardX_split (fun hc => ?_) (fun hc => ?_)) <;> have hd := hc <;> (try simp (disch := omega) only [wrapI] at hd) <;> have hs := hd <;> (try simp only [decide_eq_true_eq, decide_eq_false_iff_not, Int.not_lt] at hd) <;> (try simp at hs))
          | refine T_ret ?_
          | refine leave_of (.inr rfl) _ rfl ?_
          | refine leave_of (.inl rfl) _ rfl ?_
          | refine leaveA_of (.inr rfl) _ rfl ?_
          | refine leaveA_of (.inl rfl) _ rfl ?_
          | refine wif_intro ?_ (fun hc => ?_)
          | refine And.intro ?_ ?_
          | intro hc
        | simp (maxSteps := 4000000) only [wops_nil, wops_cons, wstep_none, wrun_mv, wrun_bin, wrun_load, wrun_faddr, wrun_iaddrS, wrun_len, get_mk, wop, aop, ev, look, put_some, writes, ores_some, ores_ite_none, ores_map, ores_bind, binV, thenK, blockK, intV, lenOf, value, cut, hget, mkAgg, tupOf, List.map_cons, List.map_nil, List.length_cons, List.length_nil, List.getElem?_cons_zero, List.take_succ_cons, List.take_zero, List.take_nil, List.drop_succ_cons, List.drop_zero, List.append_nil, List.replicate_zero, List.getD_cons_zero, List.length_map, Option.pure_def, Option.bind_eq_bind, Option.getD_some, Option.map_some, if_true, if_false, Nat.reduceEqDiff, Nat.add_zero, Nat.zero_add, reduceCtorEq, Bool.false_eq_true, eq_self, true_and, and_true, and_self, decide_true, ren, Int.toNat_natCast, *]
        | simp (disch := omega) only [getD_ints, wrapI]
        | omega)
      all_goals first | rfl
    | false =>
      rw [hb, Bool.false_or] at hI
      replace hI := And.intro hI trivial
      unfold c36l0
      repeat' (first
        | ((with_reducible refine T_calm ?_ ?_); rfl)
        | with_reducible first
          | refine T_seq ?_
          | refine T_reg ?_
          | refine T_draw ?_
          | refine T_skip ?_
          | refine T_exit ?_
          | refine T_block ?_
          | refine T_cond_t rfl ?_
          | refine T_cond_f rfl ?_
          | refine wdW_cons rfl ?_
          | ((first | refine T_cond rfl (fun hc => ?_) (fun hc => ?_) | refine wguard_split (fun hc => ?_) (fun hc => ?_) | refine wguardX_split (fun hc => ?_) (fun hc => ?_)) <;> have hd := hc <;> (try simp (disch := omega) only [wrapI] at hd) <;> have hs := hd <;> (try simp only [decide_eq_true_eq, decide_eq_false_iff_not, Int.not_lt] at hd) <;> (try simp at hs))
          | refine T_ret ?_
          | refine leave_of (.inr rfl) _ rfl ?_
          | refine leave_of (.inl rfl) _ rfl ?_
          | refine leaveA_of (.inr rfl) _ rfl ?_
          | refine leaveA_of (.inl rfl) _ rfl ?_
          | refine wif_intro ?_ (fun hc => ?_)
          | refine And.intro ?_ ?_
          | intro hc
        | simp (maxSteps := 4000000) only [wops_nil, wops_cons, wstep_none, wrun_mv, wrun_bin, wrun_load, wrun_faddr, wrun_iaddrS, wrun_len, wop, aop, ev, look, put_some, writes, ores_some, ores_ite_none, ores_map, ores_bind, binV, thenK, blockK, intV, lenOf, value, cut, hget, mkAgg, List.map_cons, List.map_nil, List.length_cons, List.length_nil, List.getElem?_cons_zero, List.take_succ_cons, List.take_zero, List.take_nil, List.drop_succ_cons, List.drop_zero, List.append_nil, List.replicate_zero, List.getD_cons_zero, List.length_map, Option.pure_def, Option.bind_eq_bind, Option.getD_some, Option.map_some, if_true, if_false, Nat.reduceEqDiff, Nat.add_zero, Nat.zero_add, reduceCtorEq, Bool.false_eq_true, eq_self, true_and, and_true, and_self, decide_true, Int.toNat_natCast, *]
        | simp (disch := omega) only [wrapI]
        | omega)
      all_goals first | exact hI.1 | (simp [St.only, get_mk, look]; done)
  · rw [List.drop_of_length_le (by omega)] at hI
    replace hI : rows.any (fun r => ((r.2.length : Nat) : Int) != S) = false := hI.symm
    rw [if_neg (by rw [hI]; simp)]
    have hrow : ∀ t, t < rows.length → (((rowN rows t).2.length : Nat) : Int) = S := fun t ht => by
      have := any_rowN hI ht; simpa using this
    clear hI
    have hte : t = rows.length := by omega
    subst hte
    replace hrow := And.intro hrow trivial
    unfold c36l0
    repeat' (first
      | ((with_reducible refine T_calm ?_ ?_); rfl)
      | with_reducible first
        | refine T_seq ?_
        | refine T_reg ?_
        | refine T_draw ?_
        | refine T_skip ?_
        | refine T_exit ?_
        | refine T_block ?_
        | refine T_cond_t rfl ?_
        | refine T_cond_f rfl ?_
        | refine wdW_cons rfl ?_
        | ((first | refine T_cond rfl (fun hc => ?_) (fun hc => ?_) | refine wguard_split (fun hc => ?_) (fun hc => ?_) | refine wguardX_split (fun hc => ?_) (fun hc => ?_)) <;> have hd := hc <;> (try simp (disch := omega) only [wrapI] at hd) <;> have hs := hd <;> (try simp only [decide_eq_true_eq, decide_eq_false_iff_not, Int.not_lt] at hd) <;> (try simp at hs))
        | refine T_ret ?_
        | refine leave_of (.inr rfl) _ rfl ?_
        | refine leave_of (.inl rfl) _ rfl ?_
        | refine leaveA_of (.inr rfl) _ rfl ?_
        | refine leaveA_of (.inl rfl) _ rfl ?_
        | refine wif_intro ?_ (fun hc => ?_)
        | refine And.intro ?_ ?_
        | intro hc
      | simp (maxSteps := 4000000) only [wops_nil, wops_cons, wstep_none, wrun_mv, wrun_bin, wop, aop, ev, look, put_some, writes, ores_some, binV, thenK, blockK, List.length_cons, List.length_nil, List.append_nil, List.replicate_zero, Option.map_some, if_true, if_false, Nat.reduceEqDiff, Nat.zero_add, reduceCtorEq, eq_self, false_and, *]
      | simp (disch := omega) only [getD_ints, wrapI]
      | omega)
    refine T_for [1, 3, 5] (fun t => ⟨[(1, .loc 0 0 0), (3, i64 rows.length), (5, i64 t)], [.cells true false 2 [[i64 S, .sl nil 1 (rows.map fun r => [ints r.1 r.2])]]]⟩) rows.length (fun t => (rows.drop t).any (fun r => r.2.any (outB 100000)) = rows.any (fun r => r.2.any (outB 100000))) 0 ?_ rfl (Nat.zero_le _) ?_
    · simp [St.only, get_mk, look]
    intro t ht hI
    by_cases htn : t < rows.length
    · rw [drop_rowN htn, List.any_cons] at hI
      have h1 := rws_get htn
      have he := hrow.1 t htn
      clear hrow
      generalize hA : rows.any (fun r => r.2.any (outB 100000)) = A at *
      replace hI := And.intro hI trivial
      unfold c36l2
      repeat' (first
        | ((with_reducible refine T_calm ?_ ?_); rfl)
        | with_reducible first
          | refine T_seq ?_
          | refine T_reg ?_
          | refine T_draw ?_
          | refine T_skip ?_
          | refine T_exit ?_
          | refine T_block ?_
          | refine T_cond_t rfl ?_
          | refine T_cond_f rfl ?_
          | refine wdW_cons rfl ?_
          | ((first | refine T_cond rfl (fun hc => ?_) (fun hc => ?_) | refine wguard_split (fun hc => ?_) (fun hc => ?_) | refine wguardX_split (fun hc => ?_) (fun hc => ?_)) <;> have hd := hc <;> (try simp (disch := omega) only [wrapI] at hd) <;> have hs := hd <;> (try simp only [decide_eq_true_eq, decide_eq_false_iff_not, Int.not_lt] at hd) <;> (try simp at hs))
          | refine T_ret ?_
          | refine leave_of (.inr rfl) _ rfl ?_
          | refine leave_of (.inl rfl) _ rfl ?_
          | refine leaveA_of (.inr rfl) _ rfl ?_
          | refine leaveA_of (.inl rfl) _ rfl ?_
          | refine wif_intro ?_ (fun hc => ?_)
          | refine And.intro ?_ ?_
          | intro hc
        | simp (maxSteps := 4000000) only [wops_nil, wops_cons, wstep_none, wrun_mv, wrun_bin, get_mk, wop, aop, ev, look, put_some, writes, ores_some, binV, thenK, blockK, tupOf, List.length_cons, List.length_nil, List.append_nil, List.replicate_zero, Option.map_some, if_true, if_false, Nat.reduceEqDiff, Nat.zero_add, reduceCtorEq, eq_self, true_and, decide_true, ren, *]
        | simp (disch := omega) only [getD_ints, wrapI]
        | omega)
      refine T_for [1, 3, 5, 6] (fun i => ⟨[(1, .loc 0 0 0), (3, i64 rows.length), (5, i64 t), (6, i64 i)], [.cells true false 2 [[i64 S, .sl nil 1 (rows.map fun r => [ints r.1 r.2])]]]⟩) (rowN rows t).2.length (fun i => ((rowN rows t).2.drop i).any (outB 100000) = (rowN rows t).2.any (outB 100000)) 0 ?_ rfl (Nat.zero_le _) ?_
      · simp [St.only, get_mk, look]
      intro i hi hJ
      by_cases hin : i < (rowN rows t).2.length
      · have g1 : ((rowN rows t).2.map fun x => [i64 x]).getD i [] = [i64 ((rowN rows t).2.getD i 0)] := getD_ints hin
        rw [drop_getI hin, List.any_cons] at hJ
        have ho : outB 100000 ((rowN rows t).2.getD i 0) = !(decide (-100000 ≤ (rowN rows t).2.getD i 0) && decide ((rowN rows t).2.getD i 0 ≤ 100000)) := rfl
        rw [ho] at hJ
        clear ho
        generalize (rowN rows t).2.getD i 0 = v at *
        have h32 := k32 v (-100000) 100000
        cases hb : (decide (-100000 ≤ v) && decide (v ≤ 100000)) with
        | true =>
          rw [hb] at h32 hJ
          rw [Bool.not_true, Bool.false_or] at hJ
          clear hb
          replace hJ := And.intro hJ trivial
          unfold c36l1
          repeat' (first
            | ((with_reducible refine T_calm ?_ ?_); rfl)
            | with_reducible first
              | refine T_seq ?_
              | refine T_reg ?_
              | refine T_draw ?_
              | refine T_skip ?_
              | refine T_exit ?_
              | refine T_block ?_
              | refine T_cond_t rfl ?_
              | refine T_cond_f rfl ?_
              | refine wdW_cons rfl ?_
              | (show wcall _ false (.lit (.func (.func 32) _ _)) _ _ _ _; refine wcall_fn (h32) rfl (by simp [plainL, plain]) ?_)
              | (show wcallX _ false (.lit (.func (.func 32) _ _)) _ _ _ _; refine wcallX_fn (h32) rfl (by simp [plainL, plain, plainR, Int.toNat_natCast]) ?_)
              | ((first | refine T_cond rfl (fun hc => ?_) (fun hc => ?_) | refine wguard_split (fun hc => ?_) (fun hc => ?_) | refine wguardX_split (fun hc => ?_) (fun hc => ?_)) <;> have hd := hc <;> (try simp (disch := omega) only [wrapI] at hd) <;> have hs := hd <;> (try simp only [decide_eq_true_eq, decide_eq_false_iff_not, Int.not_lt] at hd) <;> (try simp at hs))
              | refine T_ret ?_
              | refine leave_of (.inr rfl) _ rfl ?_
              | refine leave_of (.inl rfl) _ rfl ?_
              | refine leaveA_of (.inr rfl) _ rfl ?_
              | refine leaveA_of (.inl rfl) _ rfl ?_
              | refine wif_intro ?_ (fun hc => ?_)
              | refine And.intro ?_ ?_
              | intro hc
            | simp (maxSteps := 4000000) only [wops_nil, wops_cons, wstep_none, wrun_call, wrun_mv, wrun_bin, wrun_not, wrun_load, wrun_faddr, wrun_iaddrS, wop, aop, ev, look, put_some, writes, ores_some, ores_ite_none, binV, thenK, blockK, boolV, value, cut, hget, mkAgg, List.map_cons, List.map_nil, List.length_cons, List.length_nil, List.getElem?_cons_zero, List.take_succ_cons, List.take_zero, List.take_nil, List.drop_succ_cons, List.drop_zero, List.append_nil, List.replicate_zero, List.getD_cons_zero, List.length_map, Option.getD_some, Option.map_some, if_true, if_false, Nat.reduceEqDiff, Nat.add_zero, Nat.zero_add, reduceCtorEq, Bool.not_true, Bool.false_eq_true, eq_self, true_and, and_true, and_self, decide_true, Int.reduceNeg, freeze, lidsL, lids, List.flatMap_cons, List.flatMap_nil, ren, Int.toNat_natCast, *]
            | simp (disch := omega) only [wrapI]
            | (with_reducible show wcall _ false (.lit (.func (.func 32) _ _)) _ _ _ _; refine wcall_fn (h32) ?_ ?_ ?_; (next => simp [rfyL, rfy, hget, ints, take_rfy, Int.toNat_natCast]); (next => simp [plainL, plain, plainR, Int.toNat_natCast]))
            | (with_reducible show wcallX _ false (.lit (.func (.func 32) _ _)) _ _ _ _; refine wcallX_fn (h32) ?_ ?_ ?_; (next => simp [rfyL, rfy, hget, ints, take_rfy, Int.toNat_natCast]); (next => simp [plainL, plain, plainR, Int.toNat_natCast]))
            | omega)
          all_goals first | exact hJ.1 | (simp [St.only, get_mk, look]; done)
        | false =>
          rw [hb] at h32 hJ
          rw [Bool.not_false, Bool.true_or] at hJ
          rw [← hJ, Bool.true_or] at hI
          rw [← hI.1, if_pos rfl]
          clear hb hJ hI hA
          unfold c36l1
          repeat' (first
            | ((with_reducible refine T_calm ?_ ?_); rfl)
            | with_reducible first
              | refine T_seq ?_
              | refine T_reg ?_
              | refine T_draw ?_
              | refine T_skip ?_
              | refine T_exit ?_
              | refine T_block ?_
              | refine T_cond_t rfl ?_
              | refine T_cond_f rfl ?_
              | refine wdW_cons rfl ?_
              | (show wcall _ false (.lit (.func (.func 32) _ _)) _ _ _ _; refine wcall_fn (h32) rfl (by simp [plainL, plain]) ?_)
              | (show wcallX _ false (.lit (.func (.func 32) _ _)) _ _ _ _; refine wcallX_fn (h32) rfl (by simp [plainL, plain, plainR, Int.toNat_natCast]) ?_)
              | ((first | refine T_cond rfl (fun hc => ?_) (fun hc => ?_) | refine wguard_split (fun hc => ?_) (fun hc => ?_) | refine wguardX_split (fun hc => ?_) (fun hc => ?_)) <;> have hd := hc <;> (try simp (disch := omega) only [wrapI] at hd) <;> have hs := hd <;> (try simp only [decide_eq_true_eq, decide_eq_false_iff_not, Int.not_lt] at hd) <;> (try simp at hs))
              | refine T_ret ?_
              | refine leave_of (.inr rfl) _ rfl ?_
              | refine leave_of (.inl rfl) _ rfl ?_
              | refine leaveA_of (.inr rfl) _ rfl ?_
              | refine leaveA_of (.inl rfl) _ rfl ?_
              | refine wif_intro ?_ (fun hc => ?_)
              | refine And.intro ?_ ?_
              | intro hc
            | simp (maxSteps := 4000000) only [wops_nil, wops_cons, wstep_none, wrun_call, wrun_mv, wrun_bin, wrun_not, wrun_load, wrun_faddr, wrun_iaddrS, get_mk, wop, aop, ev, look, put_some, writes, ores_some, ores_ite_none, binV, thenK, blockK, boolV, value, cut, hget, mkAgg, tupOf, List.map_cons, List.map_nil, List.length_cons, List.length_nil, List.getElem?_cons_zero, List.take_succ_cons, List.take_zero, List.take_nil, List.drop_succ_cons, List.drop_zero, List.append_nil, List.replicate_zero, List.getD_cons_zero, List.length_map, Option.getD_some, Option.map_some, if_true, if_false, Nat.reduceEqDiff, Nat.add_zero, Nat.zero_add, reduceCtorEq, Bool.not_false, Bool.false_eq_true, eq_self, true_and, and_true, and_self, decide_true, Int.reduceNeg, freeze, lidsL, lids, List.flatMap_cons, List.flatMap_nil, ren, Int.toNat_natCast, *]
            | simp (disch := omega) only [wrapI]
            | (with_reducible show wcall _ false (.lit (.func (.func 32) _ _)) _ _ _ _; refine wcall_fn (h32) ?_ ?_ ?_; (next => simp [rfyL, rfy, hget, ints, take_rfy, Int.toNat_natCast]); (next => simp [plainL, plain, plainR, Int.toNat_natCast]))
            | (with_reducible show wcallX _ false (.lit (.func (.func 32) _ _)) _ _ _ _; refine wcallX_fn (h32) ?_ ?_ ?_; (next => simp [rfyL, rfy, hget, ints, take_rfy, Int.toNat_natCast]); (next => simp [plainL, plain, plainR, Int.toNat_natCast]))
            | omega)
          all_goals first | rfl
      · rw [List.drop_of_length_le (by omega)] at hJ
        replace hJ : (rowN rows t).2.any (outB 100000) = false := hJ.symm
        rw [hJ, Bool.false_or] at hI
        clear hJ
        unfold c36l1
        repeat' (first
          | ((with_reducible refine T_calm ?_ ?_); rfl)
          | with_reducible first
            | refine T_seq ?_
            | refine T_reg ?_
            | refine T_draw ?_
            | refine T_skip ?_
            | refine T_exit ?_
            | refine T_block ?_
            | refine T_cond_t rfl ?_
            | refine T_cond_f rfl ?_
            | refine wdW_cons rfl ?_
            | ((first | refine T_cond rfl (fun hc => ?_) (fun hc => ?_) | refine wguard_split (fun hc => ?_) (fun hc => ?_) | refine wguardX_split (fun hc => ?_) (fun hc => ?_)) <;> have hd := hc <;> (try simp (disch := omega) only [wrapI] at hd) <;> have hs := hd <;> (try simp only [decide_eq_true_eq, decide_eq_false_iff_not, Int.not_lt] at hd) <;> (try simp at hs))
            | refine T_ret ?_
            | refine leave_of (.inr rfl) _ rfl ?_
            | refine leave_of (.inl rfl) _ rfl ?_
            | refine leaveA_of (.inr rfl) _ rfl ?_
            | refine leaveA_of (.inl rfl) _ rfl ?_
            | refine wif_intro ?_ (fun hc => ?_)
            | refine And.intro ?_ ?_
            | intro hc
          | simp (maxSteps := 4000000) only [wops_nil, wops_cons, wstep_none, wrun_call, wrun_mv, wrun_bin, wrun_load, wrun_faddr, wrun_iaddrS, wop, aop, ev, look, put_some, writes, ores_some, ores_none, ores_ite_none, ores_map, binV, thenK, blockK, value, cut, hget, mkAgg, List.map_cons, List.map_nil, List.length_cons, List.length_nil, List.getElem?_cons_zero, List.take_succ_cons, List.take_zero, List.take_nil, List.drop_succ_cons, List.drop_zero, List.append_nil, List.replicate_zero, List.getD_cons_zero, List.length_map, Option.getD_some, Option.map_some, if_true, if_false, Nat.reduceEqDiff, Nat.add_zero, Nat.zero_add, reduceCtorEq, Bool.false_eq_true, eq_self, true_and, and_true, and_self, false_and, decide_true, Int.reduceNeg, Int.toNat_natCast, *]
          | simp (disch := omega) only [getD_ints, wrapI]
          | omega)
        all_goals first | (rw [hA]; exact hI.1) | exact hI.1 | (simp [St.only, get_mk, look]; done)
    · rw [List.drop_of_length_le (by omega)] at hI
      rw [← hI]
      clear hI hrow
      unfold c36l2
      repeat' (first
        | ((with_reducible refine T_calm ?_ ?_); rfl)
        | with_reducible first
          | refine T_seq ?_
          | refine T_reg ?_
          | refine T_draw ?_
          | refine T_skip ?_
          | refine T_exit ?_
          | refine T_block ?_
          | refine T_cond_t rfl ?_
          | refine T_cond_f rfl ?_
          | refine wdW_cons rfl ?_
          | ((first | refine T_cond rfl (fun hc => ?_) (fun hc => ?_) | refine wguard_split (fun hc => ?_) (fun hc => ?_) | refine wguardX_split (fun hc => ?_) (fun hc => ?_)) <;> have hd := hc <;> (try simp (disch := omega) only [wrapI] at hd) <;> have hs := hd <;> (try simp only [decide_eq_true_eq, decide_eq_false_iff_not, Int.not_lt] at hd) <;> (try simp at hs))
          | refine T_ret ?_
          | refine leave_of (.inr rfl) _ rfl ?_
          | refine leave_of (.inl rfl) _ rfl ?_
          | refine leaveA_of (.inr rfl) _ rfl ?_
          | refine leaveA_of (.inl rfl) _ rfl ?_
          | refine wif_intro ?_ (fun hc => ?_)
          | refine And.intro ?_ ?_
          | intro hc
        | simp (maxSteps := 4000000) only [wops_nil, wops_cons, wstep_none, wrun_mv, wrun_bin, get_mk, wop, aop, ev, look, put_some, writes, ores_some, binV, thenK, blockK, tupOf, List.length_cons, List.length_nil, List.append_nil, List.replicate_zero, Option.map_some, if_true, if_false, Nat.reduceEqDiff, Nat.zero_add, reduceCtorEq, eq_self, false_and, decide_true, ren, *]
        | simp (disch := omega) only [getD_ints, wrapI]
        | omega)
      all_goals first | rfl
/-- at most 15 turns of at most 30 sectors -/
def lightB (rows : List (Bool × List Int)) : Bool := decide (rows.length ≤ 15) && !(rows.any fun r => decide (30 < r.2.length))
set_option maxHeartbeats 8000000 in
theorem k33 {S : Int} {nil : Bool} {rows : List (Bool × List Int)} :
    Fn Try.prog 33 [tmV S nil rows] (bl (lightB rows)) [] := by
  refine fn_of e33 ?_
  have hl2 : (rows.map fun r => [ints r.1 r.2]).length = rows.length := by simp
  unfold lightB
  by_cases h1 : rows.length ≤ 15
  · simp only [h1, decide_true, Bool.true_and]
    unfold c33
    repeat' (first
      | with_reducible first
        | refine T_seq ?_
        | refine T_reg ?_
        | refine T_skip ?_
        | refine T_exit ?_
        | refine T_block ?_
        | refine T_cond_t rfl ?_
        | refine T_cond_f rfl ?_
        | ((first | refine T_cond rfl (fun hc => ?_) (fun hc => ?_) | refine wguard_split (fun hc => ?_) (fun hc => ?_)) <;> have hd := hc <;> (try simp (disch := omega) only [wrapI] at hd) <;> have hs := hd <;> (try simp only [decide_eq_true_eq, decide_eq_false_iff_not, gt_iff_lt, Int.not_lt] at hd) <;> (try simp at hs))
        | refine T_ret ?_
        | refine leave_of (.inr rfl) _ rfl ?_
        | refine leave_of (.inl rfl) _ rfl ?_
        | refine leaveA_of (.inr rfl) _ rfl ?_
        | refine leaveA_of (.inl rfl) _ rfl ?_
        | refine wif_intro ?_ (fun hc => ?_)
        | refine And.intro ?_ ?_
        | intro hc
      | simp (maxSteps := 4000000) only [wops_nil, wops_cons, wstep_none, wrun_mv, wrun_bin, wrun_load, wrun_faddr, wrun_len, wrun_box, get_mk, wop, aop, ev, look, put_some, writes, ores_some, ores_map, ores_bind, binV, thenK, intV, lenOf, value, cut, hget, AV.parts, isOne, mkAgg, tupOf, List.map_cons, List.map_nil, List.length_cons, List.length_nil, List.getElem?_cons_zero, List.set_cons_zero, List.take_succ_cons, List.take_nil, List.drop_succ_cons, List.drop_zero, List.nil_append, List.append_nil, List.replicate_zero, List.replicate_succ, List.getD_cons_zero, List.zipIdx_cons, List.zipIdx_nil, List.all_cons, List.all_nil, Option.pure_def, Option.bind_eq_bind, Option.getD_some, Option.map_some, if_true, if_false, Nat.reduceEqDiff, Nat.reduceAdd, Nat.add_zero, Nat.zero_add, Nat.zero_ne_one, reduceCtorEq, Bool.and_true, Bool.false_eq_true, eq_self, true_and, and_self, decide_true, List.all_cons, ren, *]
      | simp (disch := omega) only [getD_ints, wrapI]
      | omega)
    refine T_for [1, 3] (fun t => ⟨[(1, .loc 0 0 0), (3, i64 t)], [.cells true false 2 [[i64 S, .sl nil 1 (rows.map fun r => [ints r.1 r.2])]]]⟩) rows.length (fun t => (rows.drop t).any (fun r => decide (30 < r.2.length)) = rows.any (fun r => decide (30 < r.2.length))) 0 ?_ rfl (Nat.zero_le _) ?_
    · simp [St.only, get_mk, look]
    intro t ht hI
    by_cases htn : t < rows.length
    · rw [drop_rowN htn, List.any_cons] at hI
      have h1 := rws_get htn
      by_cases hb : 30 < (rowN rows t).2.length
      · simp only [hb, decide_true, Bool.true_or] at hI
        rw [← hI]
        clear hI
        unfold c33l0
        repeat' (first
          | with_reducible first
            | refine T_seq ?_
            | refine T_reg ?_
            | refine T_skip ?_
            | refine T_exit ?_
            | refine T_block ?_
            | refine T_cond_t rfl ?_
            | refine T_cond_f rfl ?_
            | ((first | refine T_cond rfl (fun hc => ?_) (fun hc => ?_) | refine wguard_split (fun hc => ?_) (fun hc => ?_)) <;> have hd := hc <;> (try simp (disch := omega) only [wrapI] at hd) <;> have hs := hd <;> (try simp only [decide_eq_true_eq, decide_eq_false_iff_not, gt_iff_lt, Int.not_lt] at hd) <;> (try simp at hs))
            | refine T_ret ?_
            | refine leave_of (.inr rfl) _ rfl ?_
            | refine leave_of (.inl rfl) _ rfl ?_
            | refine leaveA_of (.inr rfl) _ rfl ?_
            | refine leaveA_of (.inl rfl) _ rfl ?_
            | refine wif_intro ?_ (fun hc => ?_)
            | refine And.intro ?_ ?_
            | intro hc
          | simp (maxSteps := 4000000) only [wops_nil, wops_cons, wstep_none, wrun_mv, wrun_bin, wrun_load, wrun_faddr, wrun_iaddrS, wrun_len, get_mk, wop, aop, ev, look, put_some, writes, ores_some, ores_ite_none, ores_map, ores_bind, binV, thenK, blockK, intV, lenOf, value, cut, hget, mkAgg, tupOf, List.length_cons, List.length_nil, List.getElem?_cons_zero, List.take_succ_cons, List.take_nil, List.drop_succ_cons, List.drop_zero, List.append_nil, List.replicate_zero, List.getD_cons_zero, List.length_map, Option.pure_def, Option.bind_eq_bind, Option.getD_some, Option.map_some, if_true, if_false, Nat.reduceEqDiff, Nat.zero_add, reduceCtorEq, Bool.not_true, Bool.false_eq_true, eq_self, true_and, and_true, and_self, decide_true, ren, Int.toNat_natCast, *]
          | simp (disch := omega) only [wrapI]
          | omega)
        all_goals first | rfl
      · simp only [hb, decide_false, Bool.false_or] at hI
        replace hI := And.intro hI trivial
        unfold c33l0
        repeat' (first
          | with_reducible first
            | refine T_seq ?_
            | refine T_reg ?_
            | refine T_skip ?_
            | refine T_exit ?_
            | refine T_block ?_
            | refine T_cond_t rfl ?_
            | refine T_cond_f rfl ?_
            | ((first | refine T_cond rfl (fun hc => ?_) (fun hc => ?_) | refine wguard_split (fun hc => ?_) (fun hc => ?_)) <;> have hd := hc <;> (try simp (disch := omega) only [wrapI] at hd) <;> have hs := hd <;> (try simp only [decide_eq_true_eq, decide_eq_false_iff_not, gt_iff_lt, Int.not_lt] at hd) <;> (try simp at hs))
            | refine T_ret ?_
            | refine leave_of (.inr rfl) _ rfl ?_
            | refine leave_of (.inl rfl) _ rfl ?_
            | refine leaveA_of (.inr rfl) _ rfl ?_
            | refine leaveA_of (.inl rfl) _ rfl ?_
            | refine wif_intro ?_ (fun hc => ?_)
            | refine And.intro ?_ ?_
            | intro hc
          | simp (maxSteps := 4000000) only [wops_nil, wops_cons, wstep_none, wrun_mv, wrun_bin, wrun_load, wrun_faddr, wrun_iaddrS, wrun_len, get_mk, wop, aop, ev, look, put_some, writes, ores_some, ores_ite_none, ores_map, ores_bind, binV, thenK, blockK, intV, lenOf, value, cut, hget, mkAgg, tupOf, List.length_cons, List.length_nil, List.getElem?_cons_zero, List.take_succ_cons, List.take_nil, List.drop_succ_cons, List.drop_zero, List.append_nil, List.replicate_zero, List.getD_cons_zero, List.length_map, Option.pure_def, Option.bind_eq_bind, Option.getD_some, Option.map_some, if_true, if_false, Nat.reduceEqDiff, Nat.zero_add, reduceCtorEq, Bool.false_eq_true, eq_self, true_and, and_true, and_self, decide_true, ren, Int.toNat_natCast, *]
          | simp (disch := omega) only [wrapI]
          | omega)
        all_goals first | exact hI.1 | (simp [St.only, get_mk, look]; done)
    · rw [List.drop_of_length_le (by omega)] at hI
      rw [← hI]
      clear hI
      unfold c33l0
      repeat' (first
        | with_reducible first
          | refine T_seq ?_
          | refine T_reg ?_
          | refine T_skip ?_
          | refine T_exit ?_
          | refine T_block ?_
          | refine T_cond_t rfl ?_
          | refine T_cond_f rfl ?_
          | ((first | refine T_cond rfl (fun hc => ?_) (fun hc => ?_) | refine wguard_split (fun hc => ?_) (fun hc => ?_)) <;> have hd := hc <;> (try simp (disch := omega) only [wrapI] at hd) <;> have hs := hd <;> (try simp only [decide_eq_true_eq, decide_eq_false_iff_not, Int.not_lt] at hd) <;> (try simp at hs))
          | refine T_ret ?_
          | refine leave_of (.inr rfl) _ rfl ?_
          | refine leave_of (.inl rfl) _ rfl ?_
          | refine leaveA_of (.inr rfl) _ rfl ?_
          | refine leaveA_of (.inl rfl) _ rfl ?_
          | refine wif_intro ?_ (fun hc => ?_)
          | refine And.intro ?_ ?_
          | intro hc
        | simp (maxSteps := 4000000) only [wops_nil, wops_cons, wstep_none, wrun_mv, wrun_bin, wrun_load, wrun_faddr, wrun_iaddrS, wrun_len, get_mk, wop, aop, ev, look, put_some, writes, ores_some, ores_none, ores_ite_none, ores_map, ores_bind, binV, thenK, blockK, intV, lenOf, value, cut, hget, mkAgg, tupOf, List.length_cons, List.length_nil, List.getElem?_cons_zero, List.take_succ_cons, List.take_nil, List.drop_succ_cons, List.drop_zero, List.append_nil, List.replicate_zero, List.getD_cons_zero, Option.pure_def, Option.bind_eq_bind, Option.getD_some, Option.map_some, if_true, if_false, Nat.reduceEqDiff, Nat.zero_add, reduceCtorEq, Bool.false_eq_true, eq_self, and_true, and_self, false_and, decide_true, ren, Int.toNat_natCast, *]
        | simp (disch := omega) only [getD_ints]
        | omega)
      all_goals first | rfl
  · simp only [h1, decide_false, Bool.false_and]
    unfold c33
    repeat' (first
      | with_reducible first
        | refine T_seq ?_
        | refine T_reg ?_
        | refine T_skip ?_
        | refine T_exit ?_
        | refine T_block ?_
        | refine T_cond_t rfl ?_
        | refine T_cond_f rfl ?_
        | ((first | refine T_cond rfl (fun hc => ?_) (fun hc => ?_) | refine wguard_split (fun hc => ?_) (fun hc => ?_)) <;> have hd := hc <;> (try simp (disch := omega) only [wrapI] at hd) <;> have hs := hd <;> (try simp only [decide_eq_true_eq, decide_eq_false_iff_not, gt_iff_lt, Int.not_lt] at hd) <;> (try simp at hs))
        | refine T_ret ?_
        | refine leave_of (.inr rfl) _ rfl ?_
        | refine leave_of (.inl rfl) _ rfl ?_
        | refine leaveA_of (.inr rfl) _ rfl ?_
        | refine leaveA_of (.inl rfl) _ rfl ?_
        | refine wif_intro ?_ (fun hc => ?_)
        | refine And.intro ?_ ?_
        | intro hc
      | simp (maxSteps := 4000000) only [wops_nil, wops_cons, wstep_none, wrun_mv, wrun_bin, wrun_load, wrun_faddr, wrun_len, wrun_box, get_mk, wop, aop, ev, look, put_some, writes, ores_some, ores_map, ores_bind, binV, thenK, intV, lenOf, value, cut, hget, AV.parts, isOne, mkAgg, tupOf, List.map_cons, List.map_nil, List.length_cons, List.length_nil, List.getElem?_cons_zero, List.set_cons_zero, List.take_succ_cons, List.take_nil, List.drop_succ_cons, List.drop_zero, List.nil_append, List.append_nil, List.replicate_zero, List.replicate_succ, List.getD_cons_zero, List.zipIdx_cons, List.zipIdx_nil, List.all_cons, List.all_nil, Option.pure_def, Option.bind_eq_bind, Option.getD_some, Option.map_some, if_true, if_false, Nat.reduceEqDiff, Nat.reduceAdd, Nat.add_zero, Nat.zero_add, Nat.zero_ne_one, reduceCtorEq, Bool.and_true, Bool.false_eq_true, eq_self, true_and, and_self, decide_true, List.all_cons, ren, *]
      | simp (disch := omega) only [getD_ints, wrapI]
      | omega)
    all_goals first | rfl
theorem lightB_le {rows : List (Bool × List Int)} (h : lightB rows = true) : rows.length ≤ 15 ∧ ∀ t, t < rows.length → (rowN rows t).2.length ≤ 30 := by
  unfold lightB at h
  simp only [Bool.and_eq_true, decide_eq_true_eq, Bool.not_eq_true'] at h
  refine ⟨h.1, fun t ht => ?_⟩
  have := any_rowN h.2 ht
  simpa using this
theorem checkT_ok {S : Int} {rows : List (Bool × List Int)} (h : checkT S rows = 0) : ∃ n s : Nat, S = n ∧ (1 ≤ rows.length ∧ rows.length ≤ 12) ∧ rows.length * s = n ∧ (1 ≤ n ∧ n ≤ 24) ∧ (∀ t, t < rows.length → (rowN rows t).2.length = n) ∧ (∀ t i, t < rows.length → i < n → -100000 ≤ V rows t i ∧ V rows t i ≤ 100000) := by
  unfold checkT at h
  split at h
  · simp at h
  rename_i h1
  split at h
  · simp at h
  rename_i h2
  split at h
  · simp at h
  rename_i h3
  split at h
  · simp at h
  rename_i h4
  split at h
  · simp at h
  rename_i h5
  have hk : 1 ≤ rows.length := by omega
  obtain ⟨n, rfl⟩ : ∃ n : Nat, S = n := ⟨S.toNat, by omega⟩
  simp only [Bool.not_eq_true] at h4 h5
  have hrow : ∀ t, t < rows.length → (rowN rows t).2.length = n := fun t ht => by
    have := any_rowN h4 ht
    simp only [bne_eq_false_iff_eq] at this
    omega
  have hm : n % rows.length = 0 := by
    have h6 : ((n : Nat) : Int).tmod ((rows.length : Nat) : Int) = ((n % rows.length : Nat) : Int) := (Int.ofNat_tmod _ _).symm
    omega
  refine ⟨n, n / rows.length, rfl, by omega, ?_, by omega, hrow, fun t i ht hi => ?_⟩
  · have := Nat.div_add_mod n rows.length; omega
  · have h6 := any_rowN h5 ht
    rw [List.any_eq_false] at h6
    have h7 := h6 (V rows t i) (by
      unfold V
      rw [List.getD_eq_getElem?_getD, List.getElem?_eq_getElem (by rw [hrow t ht]; exact hi)]
      exact List.getElem_mem _)
    unfold outB at h7
    simp only [Bool.not_eq_true', Bool.not_eq_false, Bool.and_eq_true, decide_eq_true_eq] at h7
    omega
end Go.Abs
