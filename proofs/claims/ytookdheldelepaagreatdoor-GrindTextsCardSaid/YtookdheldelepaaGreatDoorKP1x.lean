import Derived.Test.YtookdheldelepaaGreatDoorKN4x
import Derived.Test.YtookdheldelepaaGreatDoorKN5x
set_option linter.all false
set_option linter.unusedVariables false
set_option linter.unusedSimpArgs false
set_option linter.unusedSectionVars false
namespace Go.Abs
open Go.Proofs
/-! the program's number -/
set_option maxHeartbeats 8000000 in
theorem k77t (w : ByteArray) : Fn Tryz.prog 77 [strV w, strV ⟨#[45]⟩] (strV (trB w)) [] := k77 w ⟨#[45]⟩
set_option maxHeartbeats 8000000 in
theorem k53 {w : ByteArray} (hs : w.size ≤ 1000000) : ∃ v b, Fn Tryz.prog 53 [strV w] (.tup [i64 v, bl b]) [] ∧ (b = false → rdI w = none) ∧ (b = true → rdI w = some v) := by
  have h77 := k77t w
  cases h : rdI w with
  | none =>
    rcases rdI_none h with h1 | ⟨v, h1, h2⟩
    · obtain ⟨v, h76⟩ := k76e (s := w) (by omega) h1
      refine ⟨v, false, fn_of e53 ?_, fun _ => rfl, by simp⟩
      clear h h1
      generalize trB w = t at *
      unfold c53
      repeat' (first | (with_reducible first | refine T_seq ?_ | refine T_reg ?_ | refine T_skip ?_ | refine T_exit ?_ | refine T_block ?_ | refine T_cond_t rfl ?_ | refine T_cond_f rfl ?_ | (show wcall _ false (.lit (.func (.func 76) _ _)) _ _ _ _; refine wcall_fn (h76) rfl (by simp [plainL, plain]) ?_) | refine T_ret ?_ | refine leave_of (.inr rfl) _ rfl ?_ | refine leave_of (.inl rfl) _ rfl ?_ | refine wif_intro ?_ (fun hc => ?_) | refine And.intro ?_ ?_ | intro hc) | simp (maxSteps := 4000000) only [wops_nil, wops_cons, wstep_none, wstep_some, wguard_ft, wrun_call, wrun_mv, wrun_pick, wrun_eqErr, wrun_ext, get_mk, wop, aop, ev, look, put_some, writes, ores_some, thenK, boolV, tupOf, List.map_cons, List.map_nil, List.length_nil, List.getElem?_cons_zero, List.getElem?_cons_succ, List.append_nil, List.replicate_zero, List.zipIdx_cons, List.zipIdx_nil, Option.map_some, if_true, if_false, Nat.reduceEqDiff, Nat.zero_add, reduceCtorEq, Bool.not_false, Bool.false_eq_true, eq_self, freeze, lidsL, lids, List.flatMap_cons, List.flatMap_nil, ren, renL, *] | simp (disch := omega) only [getD_ints, wrapI] | (with_reducible show wcall _ false (.lit (.func (.func 76) _ _)) _ _ _ _; refine wcall_fn (h76) ?_ ?_ ?_; (next => simp [rfyL, rfy, hget, ints, take_rfy]); (next => simp [plainL, plain, plainR])) | omega)
      all_goals first | rfl
    · have hv := atoi_rng h1
      have h76 := k76o (s := w) (by omega) h1
      have h39 := k39 v hv.1 hv.2
      rcases h2 with h2 | ⟨h2, h3⟩
      · refine ⟨v, false, fn_of e53 ?_, fun _ => rfl, by simp⟩
        clear h h1 hv
        generalize trB w = t at *
        unfold c53
        repeat' (first | (with_reducible first | refine T_seq ?_ | refine T_reg ?_ | refine T_skip ?_ | refine T_exit ?_ | refine T_block ?_ | refine T_cond_t rfl ?_ | refine T_cond_f rfl ?_ | (show wcall _ false (.lit (.func (.func 76) _ _)) _ _ _ _; refine wcall_fn (h76) rfl (by simp [plainL, plain]) ?_) | (show wcall _ false (.lit (.func (.func 39) _ _)) _ _ _ _; refine wcall_fn (h39) rfl (by simp [plainL, plain]) ?_) | refine T_ret ?_ | refine leave_of (.inr rfl) _ rfl ?_ | refine leave_of (.inl rfl) _ rfl ?_ | refine wif_intro ?_ (fun hc => ?_) | refine And.intro ?_ ?_ | intro hc) | simp (maxSteps := 4000000) only [wops_nil, wops_cons, wstep_none, wstep_some, wguard_true, wguard_ft, wrun_call, wrun_mv, wrun_pick, wrun_bin, wrun_eqErr, wrun_ext, get_mk, wop, aop, ev, look, put_some, writes, ores_some, binV, thenK, boolV, tupOf, List.map_cons, List.map_nil, List.length_nil, List.getElem?_cons_zero, List.getElem?_cons_succ, List.append_nil, List.replicate_zero, List.zipIdx_cons, List.zipIdx_nil, Option.map_some, if_true, if_false, Nat.reduceEqDiff, Nat.zero_add, reduceCtorEq, Bool.not_false, Bool.false_eq_true, eq_self, freeze, lidsL, lids, List.flatMap_cons, List.flatMap_nil, ren, renL, *] | simp (disch := omega) only [getD_ints, wrapI] | (with_reducible show wcall _ false (.lit (.func (.func 76) _ _)) _ _ _ _; refine wcall_fn (h76) ?_ ?_ ?_; (next => simp [rfyL, rfy, hget, ints, take_rfy]); (next => simp [plainL, plain, plainR])) | (with_reducible show wcall _ false (.lit (.func (.func 39) _ _)) _ _ _ _; refine wcall_fn (h39) ?_ ?_ ?_; (next => simp [rfyL, rfy, hget, ints, take_rfy]); (next => simp [plainL, plain, plainR])) | omega)
        all_goals first | rfl
      · refine ⟨v, false, fn_of e53 ?_, fun _ => rfl, by simp⟩
        clear h h1 hv
        generalize trB w = t at *
        have d : decide ((t.size : Int) ≤ 7) = false := decide_eq_false (by omega)
        unfold c53
        repeat' (first | (with_reducible first | refine T_seq ?_ | refine T_reg ?_ | refine T_skip ?_ | refine T_exit ?_ | refine T_block ?_ | refine T_cond_t rfl ?_ | refine T_cond_f rfl ?_ | (show wcall _ false (.lit (.func (.func 76) _ _)) _ _ _ _; refine wcall_fn (h76) rfl (by simp [plainL, plain]) ?_) | (show wcall _ false (.lit (.func (.func 39) _ _)) _ _ _ _; refine wcall_fn (h39) rfl (by simp [plainL, plain]) ?_) | (show wcall _ false (.lit (.func (.func 77) _ _)) _ _ _ _; refine wcall_fn (h77) rfl (by simp [plainL, plain]) ?_) | refine T_ret ?_ | refine leave_of (.inr rfl) _ rfl ?_ | refine leave_of (.inl rfl) _ rfl ?_ | refine wif_intro ?_ (fun hc => ?_) | refine And.intro ?_ ?_ | intro hc) | simp (maxSteps := 4000000) only [wops_nil, wops_cons, wstep_none, wstep_some, wguard_true, wrun_call, wrun_mv, wrun_pick, wrun_bin, wrun_eqErr, wrun_ext, wrun_lenS, get_mk, wop, aop, ev, look, put_some, writes, ores_some, binV, thenK, boolV, intV, tupOf, List.map_cons, List.map_nil, List.length_nil, List.getElem?_cons_zero, List.getElem?_cons_succ, List.append_nil, List.replicate_zero, List.zipIdx_cons, List.zipIdx_nil, Option.map_some, if_true, if_false, Nat.reduceEqDiff, Nat.zero_add, reduceCtorEq, Bool.not_false, eq_self, freeze, lidsL, lids, List.flatMap_cons, List.flatMap_nil, ren, renL, *] | simp (disch := omega) only [getD_ints, wrapI] | (with_reducible show wcall _ false (.lit (.func (.func 76) _ _)) _ _ _ _; refine wcall_fn (h76) ?_ ?_ ?_; (next => simp [rfyL, rfy, hget, ints, take_rfy]); (next => simp [plainL, plain, plainR])) | (with_reducible show wcall _ false (.lit (.func (.func 39) _ _)) _ _ _ _; refine wcall_fn (h39) ?_ ?_ ?_; (next => simp [rfyL, rfy, hget, ints, take_rfy]); (next => simp [plainL, plain, plainR])) | (with_reducible show wcall _ false (.lit (.func (.func 77) _ _)) _ _ _ _; refine wcall_fn (h77) ?_ ?_ ?_; (next => simp [rfyL, rfy, hget, ints, take_rfy]); (next => simp [plainL, plain, plainR])) | omega)
        all_goals first | rfl
  | some v =>
    obtain ⟨h1, h2, h3⟩ := rdI_some h
    have hv := atoi_rng h1
    have h76 := k76o (s := w) (by omega) h1
    have h39 := k39 v hv.1 hv.2
    refine ⟨v, true, fn_of e53 ?_, by simp, fun _ => rfl⟩
    clear h h1 hv
    generalize trB w = t at *
    have d : decide ((t.size : Int) ≤ 7) = true := decide_eq_true (by omega)
    unfold c53
    repeat' (first | (with_reducible first | refine T_seq ?_ | refine T_reg ?_ | refine T_skip ?_ | refine T_exit ?_ | refine T_block ?_ | refine T_cond_t rfl ?_ | refine T_cond_f rfl ?_ | (show wcall _ false (.lit (.func (.func 76) _ _)) _ _ _ _; refine wcall_fn (h76) rfl (by simp [plainL, plain]) ?_) | (show wcall _ false (.lit (.func (.func 39) _ _)) _ _ _ _; refine wcall_fn (h39) rfl (by simp [plainL, plain]) ?_) | (show wcall _ false (.lit (.func (.func 77) _ _)) _ _ _ _; refine wcall_fn (h77) rfl (by simp [plainL, plain]) ?_) | refine T_ret ?_ | refine leave_of (.inr rfl) _ rfl ?_ | refine leave_of (.inl rfl) _ rfl ?_ | refine wif_intro ?_ (fun hc => ?_) | refine And.intro ?_ ?_ | intro hc) | simp (maxSteps := 4000000) only [wops_nil, wops_cons, wstep_none, wstep_some, wguard_true, wrun_call, wrun_mv, wrun_pick, wrun_bin, wrun_eqErr, wrun_ext, wrun_lenS, get_mk, wop, aop, ev, look, put_some, writes, ores_some, binV, thenK, boolV, intV, tupOf, List.map_cons, List.map_nil, List.length_nil, List.getElem?_cons_zero, List.getElem?_cons_succ, List.append_nil, List.replicate_zero, List.zipIdx_cons, List.zipIdx_nil, Option.map_some, if_true, if_false, Nat.reduceEqDiff, Nat.zero_add, reduceCtorEq, Bool.not_false, eq_self, freeze, lidsL, lids, List.flatMap_cons, List.flatMap_nil, ren, renL, *] | simp (disch := omega) only [getD_ints, wrapI] | (with_reducible show wcall _ false (.lit (.func (.func 76) _ _)) _ _ _ _; refine wcall_fn (h76) ?_ ?_ ?_; (next => simp [rfyL, rfy, hget, ints, take_rfy]); (next => simp [plainL, plain, plainR])) | (with_reducible show wcall _ false (.lit (.func (.func 39) _ _)) _ _ _ _; refine wcall_fn (h39) ?_ ?_ ?_; (next => simp [rfyL, rfy, hget, ints, take_rfy]); (next => simp [plainL, plain, plainR])) | (with_reducible show wcall _ false (.lit (.func (.func 77) _ _)) _ _ _ _; refine wcall_fn (h77) ?_ ?_ ?_; (next => simp [rfyL, rfy, hget, ints, take_rfy]); (next => simp [plainL, plain, plainR])) | omega)
    all_goals first | rfl
end Go.Abs
