import Derived.Test.YtpfmamngjefohaaK314x
import Derived.Test.YtpfmamngjefohaaK336x
set_option linter.all false
set_option linter.unusedVariables false
set_option linter.unusedSimpArgs false
set_option linter.unusedSectionVars false
namespace Go.Abs
open Go.Proofs
/-! GrindPlanChecks -/
theorem outR_get (W : List Int) (den : Int) {n k : Nat} (h : k < n) : (outR W den n).getD k [] = [i64 (W.getD k 0 / den), i64 (ceil (W.getD k 0) den)] := by
  simp [outR, List.getD_eq_getElem?_getD, h]
set_option maxHeartbeats 8000000 in
theorem k40 (b1 b2 : Bool) (W : List Int) (den : Int) (n : Nat) (hn : n ≤ 1000) : Fn Try.prog 40 [.sl b1 2 (outR W den n), .sl b2 2 (outR W den n)] (bl true) [] := by
  refine fn_of e40 ?_
  have hl := outR_len W den n
  have d0 : ((n : Int) != (n : Int)) = false := by simp
  unfold c40
  repeat' (first
    | ((with_reducible refine T_calm ?_ ?_); rfl)
    | with_reducible first
      | refine T_seq ?_
      | refine T_reg ?_
      | refine T_draw ?_
      | refine T_skip ?_
      | refine T_exit ?_
      | refine T_block ?_
      | refine T_cond_t rfl ?_
      | refine T_cond_f rfl ?_
      | refine wdW_cons rfl ?_
      | ((first | refine T_cond rfl (fun hc => ?_) (fun hc => ?_) | refine wguard_split (fun hc => ?_) (fun hc => ?_) | refine wguardX_split (fun hc => ?_) (fun hc => ?_)) <;> have hd := hc <;> (try simp (disch := omega) only [wrapI] at hd) <;> have hs := hd <;> (try simp only [Bool.not_eq_true', Bool.not_eq_false', Bool.and_eq_true, Bool.and_eq_false_iff, Bool.or_eq_true, Bool.or_eq_false_iff, decide_eq_true_eq, decide_eq_false_iff_not, beq_iff_eq, bne_iff_ne, beq_eq_false_iff_ne, bne_eq_false_iff_eq, Bool.not_true, Bool.not_false, gt_iff_lt, ge_iff_le, Int.not_lt, Int.not_le, ne_eq, Decidable.not_not] at hd) <;> (try simp at hs))
      | refine T_ret ?_
      | refine leave_of (.inr rfl) _ rfl ?_
      | refine leave_of (.inl rfl) _ rfl ?_
      | refine leaveA_of (.inr rfl) _ rfl ?_
      | refine leaveA_of (.inl rfl) _ rfl ?_
      | refine wif_intro ?_ (fun hc => ?_)
      | refine And.intro ?_ ?_
      | intro hc
    | simp (maxSteps := 4000000) only [wops_nil, wops_cons, wstep_none, wrun_mv, wrun_bin, wrun_len, wop, aop, ev, look, put_some, writes, ores_some, ores_map, ores_bind, binV, thenK, intV, lenOf, hget, List.map_cons, List.map_nil, List.length_nil, List.append_nil, List.replicate_zero, List.zipIdx_cons, List.zipIdx_nil, Option.pure_def, Option.bind_eq_bind, Option.map_some, if_true, if_false, Nat.reduceEqDiff, Nat.reduceAdd, Nat.zero_add, Nat.zero_ne_one, reduceCtorEq, eq_self, *]
    | simp (disch := omega) only [getD_ints, wrapI]
    | omega)
  refine T_forP [0, 1, 5] (fun k => [(0, .sl b1 2 (outR W den n)), (1, .sl b2 2 (outR W den n)), (5, i64 k)]) n (fun k H => H = []) 0 ?_ rfl (Nat.zero_le _) ?_
  · simp [St.only, get_mk, look]
  clear d0
  intro k H hk hHe
  subst hHe
  by_cases hkn : k < n
  · have g := outR_get W den hkn
    generalize W.getD k 0 / den = q at *
    generalize ceil (W.getD k 0) den = c at *
    have d1 : (q == q) = true := by simp
    have d2 : (c == c) = true := by simp
    unfold c40l0
    repeat' (first
      | ((with_reducible refine T_calm ?_ ?_); rfl)
      | with_reducible first
        | refine T_seq ?_
        | refine T_reg ?_
        | refine T_draw ?_
        | refine T_skip ?_
        | refine T_exit ?_
        | refine T_block ?_
        | refine T_cond_t rfl ?_
        | refine T_cond_f rfl ?_
        | refine wdW_cons rfl ?_
        | ((first | refine T_cond rfl (fun hc => ?_) (fun hc => ?_) | refine wguard_split (fun hc => ?_) (fun hc => ?_) | refine wguardX_split (fun hc => ?_) (fun hc => ?_)) <;> have hd := hc <;> (try simp (disch := omega) only [wrapI] at hd) <;> have hs := hd <;> (try simp only [decide_eq_true_eq, decide_eq_false_iff_not, Int.not_lt] at hd) <;> (try simp at hs))
        | refine T_ret ?_
        | refine leave_of (.inr rfl) _ rfl ?_
        | refine leave_of (.inl rfl) _ rfl ?_
        | refine leaveA_of (.inr rfl) _ rfl ?_
        | refine leaveA_of (.inl rfl) _ rfl ?_
        | refine wif_intro ?_ (fun hc => ?_)
        | refine And.intro ?_ ?_
        | intro hc
      | simp (maxSteps := 4000000) only [wops_nil, wops_cons, wstep_none, wrun_mv, wrun_bin, wrun_eqAgg, wrun_load, wrun_iaddrS, wrun_len, get_mk, wop, aop, ev, look, put_some, writes, ores_some, ores_ite_none, ores_map, ores_bind, binV, thenK, blockK, boolV, intV, lenOf, value, cut, hget, toLits, mkAgg, tupOf, cellsEq, cellEq, List.map_cons, List.map_nil, List.length_cons, List.length_nil, List.take_succ_cons, List.take_nil, List.drop_zero, List.append_nil, List.replicate_zero, Option.pure_def, Option.bind_eq_bind, Option.map_some, if_true, if_false, Nat.reduceEqDiff, Nat.reduceAdd, Nat.zero_add, Nat.zero_ne_one, reduceCtorEq, Bool.not_true, eq_self, true_and, and_true, and_self, decide_true, beq_self_eq_true, ren, Int.toNat_natCast, *]
      | simp (disch := omega) only [wrapI]
      | omega)
    all_goals first | rfl | (simp [St.only, get_mk, look]; done)
  · have hke : k = n := by omega
    subst hke
    have hkk : decide ((k : Int) < (k : Int)) = false := by simp
    unfold c40l0
    repeat' (first
      | ((with_reducible refine T_calm ?_ ?_); rfl)
      | with_reducible first
        | refine T_seq ?_
        | refine T_reg ?_
        | refine T_draw ?_
        | refine T_skip ?_
        | refine T_exit ?_
        | refine T_block ?_
        | refine T_cond_t rfl ?_
        | refine T_cond_f rfl ?_
        | refine wdW_cons rfl ?_
        | ((first | refine T_cond rfl (fun hc => ?_) (fun hc => ?_) | refine wguard_split (fun hc => ?_) (fun hc => ?_) | refine wguardX_split (fun hc => ?_) (fun hc => ?_)) <;> have hd := hc <;> (try simp (disch := omega) only [wrapI] at hd) <;> have hs := hd <;> (try simp only [Bool.not_eq_true', Bool.not_eq_false', Bool.and_eq_true, Bool.and_eq_false_iff, Bool.or_eq_true, Bool.or_eq_false_iff, decide_eq_true_eq, decide_eq_false_iff_not, beq_iff_eq, bne_iff_ne, beq_eq_false_iff_ne, bne_eq_false_iff_eq, Bool.not_true, Bool.not_false, gt_iff_lt, ge_iff_le, Int.not_lt, Int.not_le, ne_eq, Decidable.not_not] at hd) <;> (try simp at hs))
        | refine T_ret ?_
        | refine leave_of (.inr rfl) _ rfl ?_
        | refine leave_of (.inl rfl) _ rfl ?_
        | refine leaveA_of (.inr rfl) _ rfl ?_
        | refine leaveA_of (.inl rfl) _ rfl ?_
        | refine wif_intro ?_ (fun hc => ?_)
        | refine And.intro ?_ ?_
        | intro hc
      | simp (maxSteps := 4000000) only [wops_nil, wops_cons, wstep_none, wrun_mv, wrun_bin, wrun_len, get_mk, wop, aop, ev, look, put_some, writes, ores_some, ores_map, ores_bind, binV, thenK, blockK, intV, lenOf, hget, tupOf, List.length_nil, List.append_nil, List.replicate_zero, Option.pure_def, Option.bind_eq_bind, Option.map_some, if_true, if_false, Nat.reduceEqDiff, reduceCtorEq, eq_self, false_and, ren, *]
      | simp (disch := omega) only [getD_ints, wrapI]
      | omega)
    all_goals first | rfl
theorem gv_dm (n1 n2 : Bool) (lo hi : List Int) (hlo : lo.length < 1000000) (hhi : hi.length < 1000000) : Gv 2 Try.prog 23 [dmV n1 lo n2 hi] [dmV false lo false hi] :=
  Gv.of_fn 2 (k23 n1 n2 lo hi hlo hhi) [.agg [.lsl 0 0 lo.length, .lsl 1 0 hi.length]] rfl (by
    show [AV.agg [rfy _ 1 (.lsl 0 0 lo.length), rfy _ 1 (.lsl 1 0 hi.length)]] = _
    rw [rfy_iB (H := [iC lo, iC hi]) (id := 0) rfl rfl, rfy_iB (H := [iC lo, iC hi]) (id := 1) rfl rfl]) (by simp [plainL, plain])
theorem gv_pl (n : Bool) (mi : List Int) (den : Int) (hmi : mi.length < 1000000) : Gv 2 Try.prog 24 [plV n mi den] [plV false mi den] :=
  Gv.of_fn 2 (k24 n mi den hmi) [.agg [.lsl 0 0 mi.length, i64 den]] rfl (by
    show [AV.agg [rfy _ 1 (.lsl 0 0 mi.length), i64 den]] = _
    rw [rfy_iB (H := [iC mi]) (id := 0) rfl rfl]) (by simp [plainL, plain])
set_option maxHeartbeats 8000000 in
theorem k6early (nil : Bool) (l : List Sk) (n1 : Bool) (lo : List Int) (n2 : Bool) (hi : List Int) (np : Bool) (mi : List Int) (den : Int) (hl : l.length ≤ 9223372036854775807) (h : lgB l = false ∨ (decide ((lo.length : Int) ≤ 43) && decide ((hi.length : Int) ≤ 43)) = false ∨ 15 < mi.length) : Fn Try.prog 6 [sts nil l, dmV n1 lo n2 hi, plV np mi den] (bl true) [] := by
  refine fn_of e6 ?_
  have h13 := k13
  have h18 := k18 nil l hl
  have h19 := k19 n1 n2 lo hi
  have hml := (by simp : (mi.map fun x => [i64 x]).length = mi.length)
  cases a1 : lgB l with
  | false =>
    rw [a1] at h18
    clear h a1 h19
    unfold c6
    repeat' (first
      | ((with_reducible refine T_calm ?_ ?_); rfl)
      | with_reducible first
        | refine T_seq ?_
        | refine T_reg ?_
        | refine T_draw ?_
        | refine T_skip ?_
        | refine T_exit ?_
        | refine T_block ?_
        | refine T_cond_t rfl ?_
        | refine T_cond_f rfl ?_
        | refine wdW_cons rfl ?_
        | (show wcall _ false (.lit (.func (.func 13) _ _)) _ _ _ _; refine wcall_fn (h13) rfl (by simp [plainL]) ?_)
        | (show wcallX _ false (.lit (.func (.func 13) _ _)) _ _ _ _; refine wcallX_fn (h13) rfl (by simp [plainL, plain, plainR, plainR_sk]) ?_)
        | (show wcall _ false (.lit (.func (.func 18) _ _)) _ _ _ _; refine wcall_fn (h18) rfl (by simp [plainL, plain, plainR_sk]) ?_)
        | (show wcallX _ false (.lit (.func (.func 18) _ _)) _ _ _ _; refine wcallX_fn (h18) rfl (by simp [plainL, plain, plainR, plainR_sk]) ?_)
        | ((first | refine T_cond rfl (fun hc => ?_) (fun hc => ?_) | refine wguard_split (fun hc => ?_) (fun hc => ?_) | refine wguardX_split (fun hc => ?_) (fun hc => ?_)) <;> have hd := hc <;> (try simp (disch := omega) only [wrapI] at hd) <;> have hs := hd <;> (try simp only [Bool.not_eq_true', Bool.not_eq_false', Bool.and_eq_true, Bool.and_eq_false_iff, Bool.or_eq_true, Bool.or_eq_false_iff, decide_eq_true_eq, decide_eq_false_iff_not, beq_iff_eq, bne_iff_ne, beq_eq_false_iff_ne, bne_eq_false_iff_eq, Bool.not_true, Bool.not_false, gt_iff_lt, ge_iff_le, Int.not_lt, Int.not_le, ne_eq, Decidable.not_not] at hd) <;> (try simp at hs))
        | refine T_ret ?_
        | refine leave_of (.inr rfl) _ rfl ?_
        | refine leave_of (.inl rfl) _ rfl ?_
        | refine leaveA_of (.inr rfl) _ rfl ?_
        | refine leaveA_of (.inl rfl) _ rfl ?_
        | refine wif_intro ?_ (fun hc => ?_)
        | refine And.intro ?_ ?_
        | intro hc
      | simp (maxSteps := 4000000) only [wops_nil, wops_cons, wstep_none, wstep_some, wguard_tf, wrun_call, wrun_mv, wrun_pick, wrun_not, wrun_box, get_mk, wop, aop, ev, look, put_some, writes, ores_some, thenK, boolV, AV.parts, isOne, tupOf, List.map_cons, List.map_nil, List.length_cons, List.length_nil, List.getElem?_cons_zero, List.getElem?_cons_succ, List.set_cons_zero, List.set_cons_succ, List.nil_append, List.append_nil, List.replicate_zero, List.replicate_succ, List.zipIdx_cons, List.zipIdx_nil, List.all_cons, List.all_nil, if_true, if_false, Nat.reduceEqDiff, Nat.reduceAdd, Nat.add_zero, Nat.zero_add, Nat.zero_ne_one, reduceCtorEq, Bool.not_true, Bool.not_false, Bool.and_true, eq_self, true_and, and_self, freeze, lidsL, lids, List.flatMap_cons, List.flatMap_nil, List.all_cons, ren, *]
      | simp (disch := omega) only [getD_ints, wrapI]
      | (with_reducible show wcall _ false (.lit (.func (.func 13) _ _)) _ _ _ _; refine wcall_fn (h13) ?_ ?_ ?_; (next => simp [rfyL, rfy, hget, ints, take_rfy, plainR_sk]); (next => simp [plainL, plain, plainR, plainR_sk]))
      | (with_reducible show wcallX _ false (.lit (.func (.func 13) _ _)) _ _ _ _; refine wcallX_fn (h13) ?_ ?_ ?_; (next => simp [rfyL, rfy, hget, ints, take_rfy, plainR_sk]); (next => simp [plainL, plain, plainR, plainR_sk]))
      | (with_reducible show wcall _ false (.lit (.func (.func 18) _ _)) _ _ _ _; refine wcall_fn (h18) ?_ ?_ ?_; (next => simp [rfyL, rfy, hget, ints, take_rfy, plainR_sk]); (next => simp [plainL, plain, plainR, plainR_sk]))
      | (with_reducible show wcallX _ false (.lit (.func (.func 18) _ _)) _ _ _ _; refine wcallX_fn (h18) ?_ ?_ ?_; (next => simp [rfyL, rfy, hget, ints, take_rfy, plainR_sk]); (next => simp [plainL, plain, plainR, plainR_sk]))
      | omega)
    all_goals first | rfl
  | true =>
    rw [a1] at h18
    replace h := h.resolve_left (by rw [a1]; simp)
    cases a2 : (decide ((lo.length : Int) ≤ 43) && decide ((hi.length : Int) ≤ 43)) with
    | false =>
      rw [a2] at h19
      clear h a1 a2
      unfold c6
      repeat' (first
        | ((with_reducible refine T_calm ?_ ?_); rfl)
        | with_reducible first
          | refine T_seq ?_
          | refine T_reg ?_
          | refine T_draw ?_
          | refine T_skip ?_
          | refine T_exit ?_
          | refine T_block ?_
          | refine T_cond_t rfl ?_
          | refine T_cond_f rfl ?_
          | refine wdW_cons rfl ?_
          | (show wcall _ false (.lit (.func (.func 13) _ _)) _ _ _ _; refine wcall_fn (h13) rfl (by simp [plainL]) ?_)
          | (show wcallX _ false (.lit (.func (.func 13) _ _)) _ _ _ _; refine wcallX_fn (h13) rfl (by simp [plainL, plain, plainR, plainR_sk]) ?_)
          | (show wcall _ false (.lit (.func (.func 18) _ _)) _ _ _ _; refine wcall_fn (h18) rfl (by simp [plainL, plain, plainR_sk]) ?_)
          | (show wcallX _ false (.lit (.func (.func 18) _ _)) _ _ _ _; refine wcallX_fn (h18) rfl (by simp [plainL, plain, plainR, plainR_sk]) ?_)
          | (show wcall _ false (.lit (.func (.func 19) _ _)) _ _ _ _; refine wcall_fn (h19) rfl (by simp [plainL, plain]) ?_)
          | (show wcallX _ false (.lit (.func (.func 19) _ _)) _ _ _ _; refine wcallX_fn (h19) rfl (by simp [plainL, plain, plainR, plainR_sk]) ?_)
          | ((first | refine T_cond rfl (fun hc => ?_) (fun hc => ?_) | refine wguard_split (fun hc => ?_) (fun hc => ?_) | refine wguardX_split (fun hc => ?_) (fun hc => ?_)) <;> have hd := hc <;> (try simp (disch := omega) only [wrapI] at hd) <;> have hs := hd <;> (try simp only [Bool.not_eq_true', Bool.not_eq_false', Bool.and_eq_true, Bool.and_eq_false_iff, Bool.or_eq_true, Bool.or_eq_false_iff, decide_eq_true_eq, decide_eq_false_iff_not, beq_iff_eq, bne_iff_ne, beq_eq_false_iff_ne, bne_eq_false_iff_eq, Bool.not_true, Bool.not_false, gt_iff_lt, ge_iff_le, Int.not_lt, Int.not_le, ne_eq, Decidable.not_not] at hd) <;> (try simp at hs))
          | refine T_ret ?_
          | refine leave_of (.inr rfl) _ rfl ?_
          | refine leave_of (.inl rfl) _ rfl ?_
          | refine leaveA_of (.inr rfl) _ rfl ?_
          | refine leaveA_of (.inl rfl) _ rfl ?_
          | refine wif_intro ?_ (fun hc => ?_)
          | refine And.intro ?_ ?_
          | intro hc
        | simp (maxSteps := 4000000) only [wops_nil, wops_cons, wstep_none, wstep_some, wguard_ff, wguard_tf, wrun_call, wrun_mv, wrun_pick, wrun_not, wrun_load, wrun_box, get_mk, wop, aop, ev, look, put_some, writes, ores_some, thenK, boolV, value, cut, hget, AV.parts, isOne, toLits, mkAgg, tupOf, List.map_cons, List.map_nil, List.length_cons, List.length_nil, List.getElem?_cons_zero, List.getElem?_cons_succ, List.set_cons_zero, List.set_cons_succ, List.take_succ_cons, List.take_nil, List.drop_zero, List.nil_append, List.append_nil, List.replicate_zero, List.replicate_succ, List.getD_cons_zero, List.zipIdx_cons, List.zipIdx_nil, List.all_cons, List.all_nil, Option.getD_some, Option.map_some, if_true, if_false, Nat.reduceEqDiff, Nat.reduceAdd, Nat.add_zero, Nat.zero_add, Nat.zero_ne_one, reduceCtorEq, Bool.not_true, Bool.not_false, Bool.and_true, Bool.false_eq_true, eq_self, true_and, and_self, freeze, lidsL, lids, List.flatMap_cons, List.flatMap_nil, List.all_cons, ren, *]
        | simp (disch := omega) only [getD_ints, wrapI]
        | (with_reducible show wcall _ false (.lit (.func (.func 13) _ _)) _ _ _ _; refine wcall_fn (h13) ?_ ?_ ?_; (next => simp [rfyL, rfy, hget, ints, take_rfy, plainR_sk]); (next => simp [plainL, plain, plainR, plainR_sk]))
        | (with_reducible show wcallX _ false (.lit (.func (.func 13) _ _)) _ _ _ _; refine wcallX_fn (h13) ?_ ?_ ?_; (next => simp [rfyL, rfy, hget, ints, take_rfy, plainR_sk]); (next => simp [plainL, plain, plainR, plainR_sk]))
        | (with_reducible show wcall _ false (.lit (.func (.func 18) _ _)) _ _ _ _; refine wcall_fn (h18) ?_ ?_ ?_; (next => simp [rfyL, rfy, hget, ints, take_rfy, plainR_sk]); (next => simp [plainL, plain, plainR, plainR_sk]))
        | (with_reducible show wcallX _ false (.lit (.func (.func 18) _ _)) _ _ _ _; refine wcallX_fn (h18) ?_ ?_ ?_; (next => simp [rfyL, rfy, hget, ints, take_rfy, plainR_sk]); (next => simp [plainL, plain, plainR, plainR_sk]))
        | (with_reducible show wcall _ false (.lit (.func (.func 19) _ _)) _ _ _ _; refine wcall_fn (h19) ?_ ?_ ?_; (next => simp [rfyL, rfy, hget, ints, take_rfy, plainR_sk]); (next => simp [plainL, plain, plainR, plainR_sk]))
        | (with_reducible show wcallX _ false (.lit (.func (.func 19) _ _)) _ _ _ _; refine wcallX_fn (h19) ?_ ?_ ?_; (next => simp [rfyL, rfy, hget, ints, take_rfy, plainR_sk]); (next => simp [plainL, plain, plainR, plainR_sk]))
        | omega)
      all_goals first | rfl
    | true =>
      rw [a2] at h19
      replace h := h.resolve_left (by rw [a2]; simp)
      have d1 : decide ((mi.length : Int) > 15) = true := decide_eq_true (by omega)
      clear h a1 a2
      unfold c6
      repeat' (first
        | ((with_reducible refine T_calm ?_ ?_); rfl)
        | with_reducible first
          | refine T_seq ?_
          | refine T_reg ?_
          | refine T_draw ?_
          | refine T_skip ?_
          | refine T_exit ?_
          | refine T_block ?_
          | refine T_cond_t rfl ?_
          | refine T_cond_f rfl ?_
          | refine wdW_cons rfl ?_
          | (show wcall _ false (.lit (.func (.func 13) _ _)) _ _ _ _; refine wcall_fn (h13) rfl (by simp [plainL]) ?_)
          | (show wcallX _ false (.lit (.func (.func 13) _ _)) _ _ _ _; refine wcallX_fn (h13) rfl (by simp [plainL, plain, plainR, plainR_sk]) ?_)
          | (show wcall _ false (.lit (.func (.func 18) _ _)) _ _ _ _; refine wcall_fn (h18) rfl (by simp [plainL, plain, plainR_sk]) ?_)
          | (show wcallX _ false (.lit (.func (.func 18) _ _)) _ _ _ _; refine wcallX_fn (h18) rfl (by simp [plainL, plain, plainR, plainR_sk]) ?_)
          | (show wcall _ false (.lit (.func (.func 19) _ _)) _ _ _ _; refine wcall_fn (h19) rfl (by simp [plainL, plain]) ?_)
          | (show wcallX _ false (.lit (.func (.func 19) _ _)) _ _ _ _; refine wcallX_fn (h19) rfl (by simp [plainL, plain, plainR, plainR_sk]) ?_)
          | ((first | refine T_cond rfl (fun hc => ?_) (fun hc => ?_) | refine wguard_split (fun hc => ?_) (fun hc => ?_) | refine wguardX_split (fun hc => ?_) (fun hc => ?_)) <;> have hd := hc <;> (try simp (disch := omega) only [wrapI] at hd) <;> have hs := hd <;> (try simp only [Bool.not_eq_true', Bool.not_eq_false', Bool.and_eq_true, Bool.and_eq_false_iff, Bool.or_eq_true, Bool.or_eq_false_iff, decide_eq_true_eq, decide_eq_false_iff_not, beq_iff_eq, bne_iff_ne, beq_eq_false_iff_ne, bne_eq_false_iff_eq, Bool.not_true, Bool.not_false, gt_iff_lt, ge_iff_le, Int.not_lt, Int.not_le, ne_eq, Decidable.not_not] at hd) <;> (try simp at hs))
          | refine T_ret ?_
          | refine leave_of (.inr rfl) _ rfl ?_
          | refine leave_of (.inl rfl) _ rfl ?_
          | refine leaveA_of (.inr rfl) _ rfl ?_
          | refine leaveA_of (.inl rfl) _ rfl ?_
          | refine wif_intro ?_ (fun hc => ?_)
          | refine And.intro ?_ ?_
          | intro hc
        | simp (maxSteps := 4000000) only [wops_nil, wops_cons, wstep_none, wstep_some, wguard_ff, wrun_call, wrun_mv, wrun_pick, wrun_bin, wrun_not, wrun_load, wrun_faddr, wrun_len, wrun_box, get_mk, wop, aop, ev, look, put_some, writes, ores_some, ores_map, ores_bind, binV, thenK, boolV, intV, lenOf, value, cut, hget, AV.parts, isOne, toLits, mkAgg, tupOf, List.map_cons, List.map_nil, List.length_cons, List.length_nil, List.getElem?_cons_zero, List.getElem?_cons_succ, List.set_cons_zero, List.set_cons_succ, List.take_succ_cons, List.take_zero, List.take_nil, List.drop_zero, List.nil_append, List.append_nil, List.replicate_zero, List.replicate_succ, List.getD_cons_zero, List.zipIdx_cons, List.zipIdx_nil, List.all_cons, List.all_nil, Option.pure_def, Option.bind_eq_bind, Option.getD_some, Option.map_some, if_true, if_false, Nat.reduceEqDiff, Nat.reduceAdd, Nat.add_zero, Nat.zero_add, Nat.zero_ne_one, reduceCtorEq, Bool.not_true, Bool.and_true, Bool.false_eq_true, eq_self, true_and, and_self, freeze, lidsL, lids, List.flatMap_cons, List.flatMap_nil, List.all_cons, ren, *]
        | simp (disch := omega) only [getD_ints, wrapI]
        | (with_reducible show wcall _ false (.lit (.func (.func 13) _ _)) _ _ _ _; refine wcall_fn (h13) ?_ ?_ ?_; (next => simp [rfyL, rfy, hget, ints, take_rfy, plainR_sk]); (next => simp [plainL, plain, plainR, plainR_sk]))
        | (with_reducible show wcallX _ false (.lit (.func (.func 13) _ _)) _ _ _ _; refine wcallX_fn (h13) ?_ ?_ ?_; (next => simp [rfyL, rfy, hget, ints, take_rfy, plainR_sk]); (next => simp [plainL, plain, plainR, plainR_sk]))
        | (with_reducible show wcall _ false (.lit (.func (.func 18) _ _)) _ _ _ _; refine wcall_fn (h18) ?_ ?_ ?_; (next => simp [rfyL, rfy, hget, ints, take_rfy, plainR_sk]); (next => simp [plainL, plain, plainR, plainR_sk]))
        | (with_reducible show wcallX _ false (.lit (.func (.func 18) _ _)) _ _ _ _; refine wcallX_fn (h18) ?_ ?_ ?_; (next => simp [rfyL, rfy, hget, ints, take_rfy, plainR_sk]); (next => simp [plainL, plain, plainR, plainR_sk]))
        | (with_reducible show wcall _ false (.lit (.func (.func 19) _ _)) _ _ _ _; refine wcall_fn (h19) ?_ ?_ ?_; (next => simp [rfyL, rfy, hget, ints, take_rfy, plainR_sk]); (next => simp [plainL, plain, plainR, plainR_sk]))
        | (with_reducible show wcallX _ false (.lit (.func (.func 19) _ _)) _ _ _ _; refine wcallX_fn (h19) ?_ ?_ ?_; (next => simp [rfyL, rfy, hget, ints, take_rfy, plainR_sk]); (next => simp [plainL, plain, plainR, plainR_sk]))
        | omega)
      all_goals first | rfl
set_option maxHeartbeats 8000000 in
theorem k6err {nil n1 n2 np : Bool} {l : List Sk} {lo hi mi : List Int} {den E N R x s D : Int} (hmi : mi.length ≤ 15) (h18 : Fn Try.prog 18 [sts nil l] (bl true) []) (h19 : Fn Try.prog 19 [dmV n1 lo n2 hi] (bl true) []) (h22 : Gv 2 Try.prog 22 [sts nil l] [cpS l]) (h23 : Gv 2 Try.prog 23 [dmV n1 lo n2 hi] [dmV false lo false hi]) (h24 : Gv 2 Try.prog 24 [plV np mi den] [plV false mi den])
    (h36 : Fn Try.prog 36 [cpS l, dmV false lo false hi, plV false mi den] (.tup [i64 N, i64 E]) []) (h37 : Gv 0 Try.prog 37 [cpS l, plV false mi den] [.sl true 0 [], i64 R]) (h38 : Fn Try.prog 38 [sts nil l] (.tup [i64 x, i64 s]) []) (h39 : s = 0 → Fn Try.prog 39 [sts nil l, plV np mi den] (i64 R) []) (h26 : Fn Try.prog 26 [sts nil l, dmV n1 lo n2 hi] (i64 D) []) (h42 : D = 0 → Fn Try.prog 42 [sts nil l, dmV n1 lo n2 hi, plV np mi den] (.tup [i64 N, i64 E]) []) (hD : D ≠ 0 → N = 0 ∧ E = D) (hR0 : R ≠ 0) (hsr : s ≠ 0 → R = s) : Fn Try.prog 6 [sts nil l, dmV n1 lo n2 hi, plV np mi den] (bl true) [] := by
  refine fn_of e6 ?_
  have h13 := k13
  have hml := (by simp : (mi.map fun x => [i64 x]).length = mi.length)
  have d1 : decide ((mi.length : Int) > 15) = false := decide_eq_false (by omega)
  have hp : plain (cpS l) = true := plain_cpS l
  have hEE : (E == E) = true := by simp
  have hNN : (N == N) = true := by simp
  have hRR : (R != R) = false := by simp
  replace h22 := And.intro h22 trivial
  replace h23 := And.intro h23 trivial
  replace h24 := And.intro h24 trivial
  replace h36 := And.intro h36 trivial
  replace h37 := And.intro h37 trivial
  replace h38 := And.intro h38 trivial
  replace h39 := PLift.up h39
  replace h26 := And.intro h26 trivial
  replace h42 := PLift.up h42
  replace hD := PLift.up hD
  have hRn : (R != 0) = true := by simp only [bne_iff_ne]; exact hR0
  replace hsr := PLift.up hsr
  clear hmi
  unfold c6
  repeat' (first
    | ((with_reducible refine T_calm ?_ ?_); rfl)
    | with_reducible first
      | refine T_seq ?_
      | refine T_reg ?_
      | refine T_draw ?_
      | refine T_skip ?_
      | refine T_exit ?_
      | refine T_block ?_
      | refine T_cond_t rfl ?_
      | refine T_cond_f rfl ?_
      | refine wdW_cons rfl ?_
      | (show wcall _ false (.lit (.func (.func 13) _ _)) _ _ _ _; refine wcall_fn (h13) rfl (by simp [plainL]) ?_)
      | (show wcallX _ false (.lit (.func (.func 13) _ _)) _ _ _ _; refine wcallX_fn (h13) rfl (by simp [plainL, plain, plainR, plainR_sk]) ?_)
      | (show wcall _ false (.lit (.func (.func 18) _ _)) _ _ _ _; refine wcall_fn (h18) rfl (by simp [plainL, plain, plainR_sk]) ?_)
      | (show wcallX _ false (.lit (.func (.func 18) _ _)) _ _ _ _; refine wcallX_fn (h18) rfl (by simp [plainL, plain, plainR, plainR_sk]) ?_)
      | (show wcall _ false (.lit (.func (.func 19) _ _)) _ _ _ _; refine wcall_fn (h19) rfl (by simp [plainL, plain]) ?_)
      | (show wcallX _ false (.lit (.func (.func 19) _ _)) _ _ _ _; refine wcallX_fn (h19) rfl (by simp [plainL, plain, plainR, plainR_sk]) ?_)
      | ((first | refine T_cond rfl (fun hc => ?_) (fun hc => ?_) | refine wguard_split (fun hc => ?_) (fun hc => ?_) | refine wguardX_split (fun hc => ?_) (fun hc => ?_)) <;> have hd := hc <;> (try simp (disch := omega) only [wrapI] at hd) <;> have hs := hd <;> (try simp only [Bool.not_eq_true', Bool.not_eq_false', Bool.and_eq_true, Bool.and_eq_false_iff, Bool.or_eq_true, Bool.or_eq_false_iff, decide_eq_true_eq, decide_eq_false_iff_not, beq_iff_eq, bne_iff_ne, beq_eq_false_iff_ne, bne_eq_false_iff_eq, Bool.not_true, Bool.not_false, gt_iff_lt, ge_iff_le, Int.not_lt, Int.not_le, ne_eq, Decidable.not_not] at hd) <;> (try simp at hs))
      | refine T_ret ?_
      | refine leave_of (.inr rfl) _ rfl ?_
      | refine leave_of (.inl rfl) _ rfl ?_
      | refine leaveA_of (.inr rfl) _ rfl ?_
      | refine leaveA_of (.inl rfl) _ rfl ?_
      | refine wif_intro ?_ (fun hc => ?_)
      | refine And.intro ?_ ?_
      | intro hc
    | simp (maxSteps := 4000000) only [wops_nil, wops_cons, wstep_none, wstep_some, wguard_ff, wrun_call, wrun_mv, wrun_pick, wrun_bin, wrun_not, wrun_load, wrun_faddr, wrun_len, wrun_box, wrunX_mv, wstepX_none, wrunX_call, wop, aop, ev, look, put_some, writes, ores_some, ores_map, ores_bind, binV, thenK, boolV, intV, lenOf, value, cut, hget, AV.parts, isOne, toLits, mkAgg, List.map_cons, List.map_nil, List.length_cons, List.length_nil, List.getElem?_cons_zero, List.getElem?_cons_succ, List.set_cons_zero, List.set_cons_succ, List.take_succ_cons, List.take_zero, List.take_nil, List.drop_zero, List.nil_append, List.append_nil, List.replicate_zero, List.replicate_succ, List.getD_cons_zero, List.zipIdx_cons, List.zipIdx_nil, List.all_cons, List.all_nil, Option.pure_def, Option.bind_eq_bind, Option.getD_some, Option.map_some, if_true, if_false, Nat.reduceEqDiff, Nat.reduceAdd, Nat.add_zero, Nat.zero_add, Nat.zero_ne_one, reduceCtorEq, Bool.not_true, Bool.and_true, Bool.false_eq_true, eq_self, true_and, and_self, freeze, lidsL, lids, List.flatMap_cons, List.flatMap_nil, List.all_cons, ren, *]
    | simp (disch := omega) only [getD_ints, wrapI]
    | (with_reducible show wcall _ false (.lit (.func (.func 13) _ _)) _ _ _ _; refine wcall_fn (h13) ?_ ?_ ?_; (next => simp [rfyL, rfy, hget, ints, take_rfy, plainR_sk]); (next => simp [plainL, plain, plainR, plainR_sk]))
    | (with_reducible show wcallX _ false (.lit (.func (.func 13) _ _)) _ _ _ _; refine wcallX_fn (h13) ?_ ?_ ?_; (next => simp [rfyL, rfy, hget, ints, take_rfy, plainR_sk]); (next => simp [plainL, plain, plainR, plainR_sk]))
    | (with_reducible show wcall _ false (.lit (.func (.func 18) _ _)) _ _ _ _; refine wcall_fn (h18) ?_ ?_ ?_; (next => simp [rfyL, rfy, hget, ints, take_rfy, plainR_sk]); (next => simp [plainL, plain, plainR, plainR_sk]))
    | (with_reducible show wcallX _ false (.lit (.func (.func 18) _ _)) _ _ _ _; refine wcallX_fn (h18) ?_ ?_ ?_; (next => simp [rfyL, rfy, hget, ints, take_rfy, plainR_sk]); (next => simp [plainL, plain, plainR, plainR_sk]))
    | (with_reducible show wcall _ false (.lit (.func (.func 19) _ _)) _ _ _ _; refine wcall_fn (h19) ?_ ?_ ?_; (next => simp [rfyL, rfy, hget, ints, take_rfy, plainR_sk]); (next => simp [plainL, plain, plainR, plainR_sk]))
    | (with_reducible show wcallX _ false (.lit (.func (.func 19) _ _)) _ _ _ _; refine wcallX_fn (h19) ?_ ?_ ?_; (next => simp [rfyL, rfy, hget, ints, take_rfy, plainR_sk]); (next => simp [plainL, plain, plainR, plainR_sk]))
    | omega)
  refine wcallX_E1 h22.1 rfl (by simp [plainL, plain, plainR_sk]) hp (rfy_plain _ hp 2) ?_
  intro v1 H1 hx1 hv1
  obtain ⟨q0, g0⟩ := hx1.cell (id := 0) rfl
  obtain ⟨q1, g1⟩ := hx1.cell (id := 1) rfl
  have y0 := (List.getElem?_eq_some_iff.1 g0).1
  have y1 := (List.getElem?_eq_some_iff.1 g1).1
  clear hx1
  repeat' (first
    | ((with_reducible refine T_calm ?_ ?_); rfl)
    | with_reducible first
      | refine T_seq ?_
      | refine T_reg ?_
      | refine T_draw ?_
      | refine T_skip ?_
      | refine T_exit ?_
      | refine T_block ?_
      | refine T_cond_t rfl ?_
      | refine T_cond_f rfl ?_
      | refine wdW_cons rfl ?_
      | ((first | refine T_cond rfl (fun hc => ?_) (fun hc => ?_) | refine wguard_split (fun hc => ?_) (fun hc => ?_) | refine wguardX_split (fun hc => ?_) (fun hc => ?_)) <;> have hd := hc <;> (try simp (disch := omega) only [wrapI] at hd) <;> have hs := hd <;> (try simp only [Bool.not_eq_true', Bool.not_eq_false', Bool.and_eq_true, Bool.and_eq_false_iff, Bool.or_eq_true, Bool.or_eq_false_iff, decide_eq_true_eq, decide_eq_false_iff_not, beq_iff_eq, bne_iff_ne, beq_eq_false_iff_ne, bne_eq_false_iff_eq, Bool.not_true, Bool.not_false, gt_iff_lt, ge_iff_le, Int.not_lt, Int.not_le, ne_eq, Decidable.not_not] at hd) <;> (try simp at hs))
      | refine T_ret ?_
      | refine leave_of (.inr rfl) _ rfl ?_
      | refine leave_of (.inl rfl) _ rfl ?_
      | refine leaveA_of (.inr rfl) _ rfl ?_
      | refine leaveA_of (.inl rfl) _ rfl ?_
      | refine wif_intro ?_ (fun hc => ?_)
      | refine And.intro ?_ ?_
      | intro hc
    | simp (maxSteps := 4000000) only [wrun_load, wrunX_load, wstepX_none, wrunX_call, wop, aop, ev, look, put_some, writes, ores_some, value, cut, hget, toLits, mkAgg, List.map_cons, List.map_nil, List.length_cons, List.length_nil, List.take_succ_cons, List.take_nil, List.drop_zero, List.getD_cons_zero, Option.getD_some, Option.map_some, if_true, if_false, Nat.reduceEqDiff, Nat.reduceAdd, Nat.zero_add, reduceCtorEq, eq_self, *]
    | simp (disch := omega) only [getD_ints, wrapI]
    | (with_reducible refine wdW_cons ?_ ?_; (next => simp [chk, foot, compatB, argsOf, St.get, target, ev, look, lidsL, hget, kind, AOp.isRaw, wids, wtops, tops, opds, topId, plainR_sk, y0, y1]; done))
    | omega)
  refine wcallX_E1 h23.1 rfl (by simp [plainL, plain]) (by simp [plain, plainL]) (rfy_plain _ (by simp [plain, plainL]) 2) ?_
  intro v2 H2 hx2 hv2
  obtain ⟨q2, g2⟩ := hx2.cell g0
  obtain ⟨q3, g3⟩ := hx2.cell g1
  have y2 := (List.getElem?_eq_some_iff.1 g2).1
  have y3 := (List.getElem?_eq_some_iff.1 g3).1
  replace hv1 := hv1.ext hx2
  clear hx2
  repeat' (first
    | ((with_reducible refine T_calm ?_ ?_); rfl)
    | with_reducible first
      | refine T_seq ?_
      | refine T_reg ?_
      | refine T_draw ?_
      | refine T_skip ?_
      | refine T_exit ?_
      | refine T_block ?_
      | refine T_cond_t rfl ?_
      | refine T_cond_f rfl ?_
      | refine wdW_cons rfl ?_
      | ((first | refine T_cond rfl (fun hc => ?_) (fun hc => ?_) | refine wguard_split (fun hc => ?_) (fun hc => ?_) | refine wguardX_split (fun hc => ?_) (fun hc => ?_)) <;> have hd := hc <;> (try simp (disch := omega) only [wrapI] at hd) <;> have hs := hd <;> (try simp only [Bool.not_eq_true', Bool.not_eq_false', Bool.and_eq_true, Bool.and_eq_false_iff, Bool.or_eq_true, Bool.or_eq_false_iff, decide_eq_true_eq, decide_eq_false_iff_not, beq_iff_eq, bne_iff_ne, beq_eq_false_iff_ne, bne_eq_false_iff_eq, Bool.not_true, Bool.not_false, gt_iff_lt, ge_iff_le, Int.not_lt, Int.not_le, ne_eq, Decidable.not_not] at hd) <;> (try simp at hs))
      | refine T_ret ?_
      | refine leave_of (.inr rfl) _ rfl ?_
      | refine leave_of (.inl rfl) _ rfl ?_
      | refine leaveA_of (.inr rfl) _ rfl ?_
      | refine leaveA_of (.inl rfl) _ rfl ?_
      | refine wif_intro ?_ (fun hc => ?_)
      | refine And.intro ?_ ?_
      | intro hc
    | simp (maxSteps := 4000000) only [wrun_load, wrunX_load, wstepX_none, wrunX_call, wop, aop, ev, look, put_some, writes, ores_some, value, cut, hget, toLits, mkAgg, List.map_cons, List.map_nil, List.length_cons, List.length_nil, List.take_succ_cons, List.take_nil, List.drop_zero, List.getD_cons_zero, Option.getD_some, Option.map_some, if_true, if_false, Nat.reduceEqDiff, Nat.reduceAdd, Nat.zero_add, reduceCtorEq, eq_self, *]
    | simp (disch := omega) only [getD_ints, wrapI]
    | (with_reducible refine wdW_cons ?_ ?_; (next => simp [chk, foot, compatB, argsOf, St.get, target, ev, look, lidsL, kind, AOp.isRaw, wids, tops, opds, topId, y1]; done))
    | omega)
  refine wcallX_E1 h24.1 rfl (by simp [plainL, plain]) (by simp [plain, plainL]) (rfy_plain _ (by simp [plain, plainL]) 2) ?_
  intro v3 H3 hx3 hv3
  obtain ⟨q4, g4⟩ := hx3.cell g2
  obtain ⟨q5, g5⟩ := hx3.cell g3
  have y4 := (List.getElem?_eq_some_iff.1 g4).1
  have y5 := (List.getElem?_eq_some_iff.1 g5).1
  replace hv1 := hv1.ext hx3
  replace hv2 := hv2.ext hx3
  clear hx3
  repeat' (first
    | ((with_reducible refine T_calm ?_ ?_); rfl)
    | with_reducible first
      | refine T_seq ?_
      | refine T_reg ?_
      | refine T_draw ?_
      | refine T_skip ?_
      | refine T_exit ?_
      | refine T_block ?_
      | refine T_cond_t rfl ?_
      | refine T_cond_f rfl ?_
      | refine wdW_cons rfl ?_
      | ((first | refine T_cond rfl (fun hc => ?_) (fun hc => ?_) | refine wguard_split (fun hc => ?_) (fun hc => ?_) | refine wguardX_split (fun hc => ?_) (fun hc => ?_)) <;> have hd := hc <;> (try simp (disch := omega) only [wrapI] at hd) <;> have hs := hd <;> (try simp only [Bool.not_eq_true', Bool.not_eq_false', Bool.and_eq_true, Bool.and_eq_false_iff, Bool.or_eq_true, Bool.or_eq_false_iff, decide_eq_true_eq, decide_eq_false_iff_not, beq_iff_eq, bne_iff_ne, beq_eq_false_iff_ne, bne_eq_false_iff_eq, Bool.not_true, Bool.not_false, gt_iff_lt, ge_iff_le, Int.not_lt, Int.not_le, ne_eq, Decidable.not_not] at hd) <;> (try simp at hs))
      | refine T_ret ?_
      | refine leave_of (.inr rfl) _ rfl ?_
      | refine leave_of (.inl rfl) _ rfl ?_
      | refine leaveA_of (.inr rfl) _ rfl ?_
      | refine leaveA_of (.inl rfl) _ rfl ?_
      | refine wif_intro ?_ (fun hc => ?_)
      | refine And.intro ?_ ?_
      | intro hc
    | simp (maxSteps := 4000000) only [wstepX_none, wrunX_call, ev, look, put_some, List.map_cons, List.map_nil, if_true, if_false, Nat.reduceEqDiff, reduceCtorEq, eq_self, *]
    | simp (disch := omega) only [getD_ints, wrapI]
    | (with_reducible refine wdW_cons ?_ ?_; (next => simp [chk, foot, compatB, argsOf, St.get, target, ev, look, lidsL, hget, kind, AOp.isRaw, wids, wtops, tops, opds, topId, plainR_sk, y0, y1, y2, y3, y4, y5]; done))
    | omega)
  refine wcallX_E0 h36.1 rfl (rL3 hv1 hv2 hv3 (by omega) (by omega) (by omega)) (by simp [plainL, plain, hp]) ?_
  intro H4 hx4
  obtain ⟨q6, g6⟩ := hx4.cell g4
  obtain ⟨q7, g7⟩ := hx4.cell g5
  have y6 := (List.getElem?_eq_some_iff.1 g6).1
  have y7 := (List.getElem?_eq_some_iff.1 g7).1
  clear hx4 hv1 hv2 hv3 g0 g1 g2 g3 g4 g5 h23 h36 y0 y1 y2 y3 y4 y5
  repeat' (first
    | ((with_reducible refine T_calm ?_ ?_); rfl)
    | with_reducible first
      | refine T_seq ?_
      | refine T_reg ?_
      | refine T_draw ?_
      | refine T_skip ?_
      | refine T_exit ?_
      | refine T_block ?_
      | refine T_cond_t rfl ?_
      | refine T_cond_f rfl ?_
      | refine wdW_cons rfl ?_
      | ((first | refine T_cond rfl (fun hc => ?_) (fun hc => ?_) | refine wguard_split (fun hc => ?_) (fun hc => ?_) | refine wguardX_split (fun hc => ?_) (fun hc => ?_)) <;> have hd := hc <;> (try simp (disch := omega) only [wrapI] at hd) <;> have hs := hd <;> (try simp only [Bool.not_eq_true', Bool.not_eq_false', Bool.and_eq_true, Bool.and_eq_false_iff, Bool.or_eq_true, Bool.or_eq_false_iff, decide_eq_true_eq, decide_eq_false_iff_not, beq_iff_eq, bne_iff_ne, beq_eq_false_iff_ne, bne_eq_false_iff_eq, Bool.not_true, Bool.not_false, gt_iff_lt, ge_iff_le, Int.not_lt, Int.not_le, ne_eq, Decidable.not_not] at hd) <;> (try simp at hs))
      | refine T_ret ?_
      | refine leave_of (.inr rfl) _ rfl ?_
      | refine leave_of (.inl rfl) _ rfl ?_
      | refine leaveA_of (.inr rfl) _ rfl ?_
      | refine leaveA_of (.inl rfl) _ rfl ?_
      | refine wif_intro ?_ (fun hc => ?_)
      | refine And.intro ?_ ?_
      | intro hc
    | simp (maxSteps := 4000000) only [wrun_mv, wrun_ext, wrunX_mv, wrunX_ext, wdW_nil, wstepX_none, wrunX_call, wop, aop, ev, look, put_some, writes, ores_some, thenK, List.map_cons, List.map_nil, List.getElem?_cons_zero, List.getElem?_cons_succ, List.append_nil, List.replicate_zero, Option.map_some, if_true, if_false, Nat.reduceEqDiff, reduceCtorEq, eq_self, *]
    | simp (disch := omega) only [getD_ints, wrapI]
    | (with_reducible refine wdW_cons ?_ ?_; (next => simp [chk, foot, compatB, argsOf, St.get, target, ev, look, lidsL, hget, kind, AOp.isRaw, wids, wtops, tops, opds, topId, plainR_sk, y6, y7]; done))
    | omega)
  refine wcallX_E1 h22.1 rfl (by simp [plainL, plain, plainR_sk]) hp (rfy_plain _ hp 2) ?_
  intro v4 H5 hx5 hv4
  obtain ⟨q8, g8⟩ := hx5.cell g6
  obtain ⟨q9, g9⟩ := hx5.cell g7
  have y8 := (List.getElem?_eq_some_iff.1 g8).1
  have y9 := (List.getElem?_eq_some_iff.1 g9).1
  clear hx5
  repeat' (first
    | ((with_reducible refine T_calm ?_ ?_); rfl)
    | with_reducible first
      | refine T_seq ?_
      | refine T_reg ?_
      | refine T_draw ?_
      | refine T_skip ?_
      | refine T_exit ?_
      | refine T_block ?_
      | refine T_cond_t rfl ?_
      | refine T_cond_f rfl ?_
      | refine wdW_cons rfl ?_
      | ((first | refine T_cond rfl (fun hc => ?_) (fun hc => ?_) | refine wguard_split (fun hc => ?_) (fun hc => ?_) | refine wguardX_split (fun hc => ?_) (fun hc => ?_)) <;> have hd := hc <;> (try simp (disch := omega) only [wrapI] at hd) <;> have hs := hd <;> (try simp only [Bool.not_eq_true', Bool.not_eq_false', Bool.and_eq_true, Bool.and_eq_false_iff, Bool.or_eq_true, Bool.or_eq_false_iff, decide_eq_true_eq, decide_eq_false_iff_not, beq_iff_eq, bne_iff_ne, beq_eq_false_iff_ne, bne_eq_false_iff_eq, Bool.not_true, Bool.not_false, gt_iff_lt, ge_iff_le, Int.not_lt, Int.not_le, ne_eq, Decidable.not_not] at hd) <;> (try simp at hs))
      | refine T_ret ?_
      | refine leave_of (.inr rfl) _ rfl ?_
      | refine leave_of (.inl rfl) _ rfl ?_
      | refine leaveA_of (.inr rfl) _ rfl ?_
      | refine leaveA_of (.inl rfl) _ rfl ?_
      | refine wif_intro ?_ (fun hc => ?_)
      | refine And.intro ?_ ?_
      | intro hc
    | simp (maxSteps := 4000000) only [wrun_load, wrunX_load, wstepX_none, wrunX_call, wop, aop, ev, look, put_some, writes, ores_some, value, cut, hget, toLits, mkAgg, List.map_cons, List.map_nil, List.length_cons, List.length_nil, List.take_succ_cons, List.take_nil, List.drop_zero, List.getD_cons_zero, Option.getD_some, Option.map_some, if_true, if_false, Nat.reduceEqDiff, Nat.reduceAdd, Nat.zero_add, reduceCtorEq, eq_self, *]
    | simp (disch := omega) only [getD_ints, wrapI]
    | (with_reducible refine wdW_cons ?_ ?_; (next => simp [chk, foot, compatB, argsOf, St.get, target, ev, look, lidsL, kind, AOp.isRaw, wids, tops, opds, topId, y7]; done))
    | omega)
  refine wcallX_E1 h24.1 rfl (by simp [plainL, plain]) (by simp [plain, plainL]) (rfy_plain _ (by simp [plain, plainL]) 2) ?_
  intro v5 H6 hx6 hv5
  obtain ⟨qa, ga⟩ := hx6.cell g8
  obtain ⟨qb, gb⟩ := hx6.cell g9
  have ya := (List.getElem?_eq_some_iff.1 ga).1
  have yb := (List.getElem?_eq_some_iff.1 gb).1
  replace hv4 := hv4.ext hx6
  clear hx6
  repeat' (first
    | ((with_reducible refine T_calm ?_ ?_); rfl)
    | with_reducible first
      | refine T_seq ?_
      | refine T_reg ?_
      | refine T_draw ?_
      | refine T_skip ?_
      | refine T_exit ?_
      | refine T_block ?_
      | refine T_cond_t rfl ?_
      | refine T_cond_f rfl ?_
      | refine wdW_cons rfl ?_
      | ((first | refine T_cond rfl (fun hc => ?_) (fun hc => ?_) | refine wguard_split (fun hc => ?_) (fun hc => ?_) | refine wguardX_split (fun hc => ?_) (fun hc => ?_)) <;> have hd := hc <;> (try simp (disch := omega) only [wrapI] at hd) <;> have hs := hd <;> (try simp only [Bool.not_eq_true', Bool.not_eq_false', Bool.and_eq_true, Bool.and_eq_false_iff, Bool.or_eq_true, Bool.or_eq_false_iff, decide_eq_true_eq, decide_eq_false_iff_not, beq_iff_eq, bne_iff_ne, beq_eq_false_iff_ne, bne_eq_false_iff_eq, Bool.not_true, Bool.not_false, gt_iff_lt, ge_iff_le, Int.not_lt, Int.not_le, ne_eq, Decidable.not_not] at hd) <;> (try simp at hs))
      | refine T_ret ?_
      | refine leave_of (.inr rfl) _ rfl ?_
      | refine leave_of (.inl rfl) _ rfl ?_
      | refine leaveA_of (.inr rfl) _ rfl ?_
      | refine leaveA_of (.inl rfl) _ rfl ?_
      | refine wif_intro ?_ (fun hc => ?_)
      | refine And.intro ?_ ?_
      | intro hc
    | simp (maxSteps := 4000000) only [wstepX_none, wrunX_call, ev, look, put_some, List.map_cons, List.map_nil, if_true, if_false, Nat.reduceEqDiff, reduceCtorEq, eq_self, *]
    | simp (disch := omega) only [getD_ints, wrapI]
    | (with_reducible refine wdW_cons ?_ ?_; (next => simp [chk, foot, compatB, argsOf, St.get, target, ev, look, lidsL, hget, kind, AOp.isRaw, wids, wtops, tops, opds, topId, plainR_sk, y6, y7, y8, y9, ya, yb]; done))
    | omega)
  refine wcallX_E2 h37.1 (rL2 hv4 hv5 (by omega) (by omega)) (by simp [plainL, plain, hp]) (by simp [plainL, plain, plainR]) ⟨rfl, rfl⟩ ?_
  intro v6 v7 H7 hx7 h6 h7
  have := h7.lit; subst this
  have : v6 = .sl true 0 [] := h6.1
  subst this
  obtain ⟨qc, gc⟩ := hx7.cell ga
  obtain ⟨qd, gd⟩ := hx7.cell gb
  have yc := (List.getElem?_eq_some_iff.1 gc).1
  have yd := (List.getElem?_eq_some_iff.1 gd).1
  clear hx7 h6 h7 hv4 hv5 g6 g7 g8 g9 ga gb h22 h24 h37 y6 y7 y8 y9 ya yb
  repeat' (first
    | ((with_reducible refine T_calm ?_ ?_); rfl)
    | with_reducible first
      | refine T_seq ?_
      | refine T_reg ?_
      | refine T_draw ?_
      | refine T_skip ?_
      | refine T_exit ?_
      | refine T_block ?_
      | refine T_cond_t rfl ?_
      | refine T_cond_f rfl ?_
      | refine wdW_cons rfl ?_
      | ((first | refine T_cond rfl (fun hc => ?_) (fun hc => ?_) | refine wguard_split (fun hc => ?_) (fun hc => ?_) | refine wguardX_split (fun hc => ?_) (fun hc => ?_)) <;> have hd := hc <;> (try simp (disch := omega) only [wrapI] at hd) <;> have hs := hd <;> (try simp only [Bool.not_eq_true', Bool.not_eq_false', Bool.and_eq_true, Bool.and_eq_false_iff, Bool.or_eq_true, Bool.or_eq_false_iff, decide_eq_true_eq, decide_eq_false_iff_not, beq_iff_eq, bne_iff_ne, beq_eq_false_iff_ne, bne_eq_false_iff_eq, Bool.not_true, Bool.not_false, gt_iff_lt, ge_iff_le, Int.not_lt, Int.not_le, ne_eq, Decidable.not_not] at hd) <;> (try simp at hs))
      | refine T_ret ?_
      | refine leave_of (.inr rfl) _ rfl ?_
      | refine leave_of (.inl rfl) _ rfl ?_
      | refine leaveA_of (.inr rfl) _ rfl ?_
      | refine leaveA_of (.inl rfl) _ rfl ?_
      | refine wif_intro ?_ (fun hc => ?_)
      | refine And.intro ?_ ?_
      | intro hc
    | simp (maxSteps := 4000000) only [wops_cons, wstep_none, wrun_call, wrun_mv, wrun_ext, wrunX_mv, wrunX_ext, wdW_nil, wstepX_none, wop, aop, ev, look, put_some, writes, ores_some, thenK, List.map_cons, List.map_nil, List.getElem?_cons_zero, List.getElem?_cons_succ, List.append_nil, List.replicate_zero, Option.map_some, if_true, if_false, Nat.reduceEqDiff, reduceCtorEq, eq_self, *]
    | simp (disch := omega) only [getD_ints, wrapI]
    | (with_reducible refine wdW_cons ?_ ?_; (next => simp [chk, foot, compatB, argsOf, St.get, target, ev, look, lidsL, hget, kind, AOp.isRaw, wids, wtops, tops, opds, topId, plainR_sk, yc, yd]; done))
    | omega)
  refine wcall_E0 h38.1 rfl rfl (by simp [plainL, plain, plainR_sk]) ?_
  intro H8 hx8
  obtain ⟨qe, ge⟩ := hx8.cell gc
  obtain ⟨qf, gf⟩ := hx8.cell gd
  clear hx8 h38 gc gd yc yd
  by_cases hs0 : s = 0
  · subst hs0
    have h39' := h39.down rfl
    have hRz : (R == 0) = false := by simp only [beq_eq_false_iff_ne]; exact hR0
    clear h39 hsr hR0
    replace h39' := And.intro h39' trivial
    repeat' (first
      | ((with_reducible refine T_calm ?_ ?_); rfl)
      | with_reducible first
        | refine T_seq ?_
        | refine T_reg ?_
        | refine T_draw ?_
        | refine T_skip ?_
        | refine T_exit ?_
        | refine T_block ?_
        | refine T_cond_t rfl ?_
        | refine T_cond_f rfl ?_
        | refine wdW_cons rfl ?_
        | ((first | refine T_cond rfl (fun hc => ?_) (fun hc => ?_) | refine wguard_split (fun hc => ?_) (fun hc => ?_) | refine wguardX_split (fun hc => ?_) (fun hc => ?_)) <;> have hd := hc <;> (try simp (disch := omega) only [wrapI] at hd) <;> have hs := hd <;> (try simp only [Bool.not_eq_true', Bool.not_eq_false', Bool.and_eq_true, Bool.and_eq_false_iff, Bool.or_eq_true, Bool.or_eq_false_iff, decide_eq_true_eq, decide_eq_false_iff_not, beq_iff_eq, bne_iff_ne, beq_eq_false_iff_ne, bne_eq_false_iff_eq, Bool.not_true, Bool.not_false, gt_iff_lt, ge_iff_le, Int.not_lt, Int.not_le, ne_eq, Decidable.not_not] at hd) <;> (try simp at hs))
        | refine T_ret ?_
        | refine leave_of (.inr rfl) _ rfl ?_
        | refine leave_of (.inl rfl) _ rfl ?_
        | refine leaveA_of (.inr rfl) _ rfl ?_
        | refine leaveA_of (.inl rfl) _ rfl ?_
        | refine wif_intro ?_ (fun hc => ?_)
        | refine And.intro ?_ ?_
        | intro hc
      | simp (maxSteps := 4000000) only [wops_nil, wops_cons, wstep_none, wrun_call, wrun_mv, wrun_bin, wrun_ext, wrun_load, wop, aop, ev, look, put_some, writes, ores_some, binV, thenK, value, cut, hget, toLits, mkAgg, List.map_cons, List.map_nil, List.length_cons, List.length_nil, List.getElem?_cons_zero, List.getElem?_cons_succ, List.take_succ_cons, List.take_nil, List.drop_zero, List.append_nil, List.replicate_zero, List.getD_cons_zero, Option.getD_some, Option.map_some, if_true, if_false, Nat.reduceEqDiff, Nat.reduceAdd, Nat.zero_add, reduceCtorEq, eq_self, beq_self_eq_true, *]
      | simp (disch := omega) only [getD_ints, wrapI]
      | omega)
    refine wcall_E0 h39'.1 rfl (rL2 (rds_plain (d := 0) (v := sts nil l) (plainR_sk l)) (rds_plain (d := 0) (v := plV np mi den) (by simp [plain, plainL])) (by omega) (by omega)) (by simp [plainL, plain, plainR_sk]) ?_
    intro Hb hxb
    obtain ⟨qi, ge0⟩ := hxb.cell ge
    obtain ⟨qj, gf0⟩ := hxb.cell gf
    clear hxb h39' ge gf
    repeat' (first
      | ((with_reducible refine T_calm ?_ ?_); rfl)
      | with_reducible first
        | refine T_seq ?_
        | refine T_reg ?_
        | refine T_draw ?_
        | refine T_skip ?_
        | refine T_exit ?_
        | refine T_block ?_
        | refine T_cond_t rfl ?_
        | refine T_cond_f rfl ?_
        | refine wdW_cons rfl ?_
        | ((first | refine T_cond rfl (fun hc => ?_) (fun hc => ?_) | refine wguard_split (fun hc => ?_) (fun hc => ?_) | refine wguardX_split (fun hc => ?_) (fun hc => ?_)) <;> have hd := hc <;> (try simp (disch := omega) only [wrapI] at hd) <;> have hs := hd <;> (try simp only [bne_iff_ne, bne_eq_false_iff_eq, Bool.not_false, ne_eq] at hd) <;> (try simp at hs))
        | refine T_ret ?_
        | refine leave_of (.inr rfl) _ rfl ?_
        | refine leave_of (.inl rfl) _ rfl ?_
        | refine leaveA_of (.inr rfl) _ rfl ?_
        | refine leaveA_of (.inl rfl) _ rfl ?_
        | refine wif_intro ?_ (fun hc => ?_)
        | refine And.intro ?_ ?_
        | intro hc
      | simp (maxSteps := 4000000) only [wops_nil, wops_cons, wstep_none, wstep_some, wguard_true, wguard_ff, wguard_ft, wguard_undef, wrun_call, wrun_mv, wrun_pick, wrun_bin, wrun_load, wrun_len, wop, aop, ev, look, put_some, writes, ores_some, ores_map, ores_bind, binV, thenK, intV, lenOf, value, cut, hget, toLits, mkAgg, List.map_cons, List.map_nil, List.length_cons, List.length_nil, List.take_succ_cons, List.take_nil, List.drop_zero, List.append_nil, List.replicate_zero, List.getD_cons_zero, Option.pure_def, Option.bind_eq_bind, Option.getD_some, Option.map_some, if_true, if_false, Nat.reduceEqDiff, Nat.reduceAdd, Nat.zero_add, reduceCtorEq, Bool.false_eq_true, eq_self, *]
      | simp (disch := omega) only [getD_ints, wrapI]
      | omega)
    refine wcall_E0 h26.1 rfl (rL2 (rds_plain (d := 0) (v := sts nil l) (plainR_sk l)) (rds_plain (d := 0) (v := dmV n1 lo n2 hi) (by simp [plain, plainL])) (by omega) (by omega)) (by simp [plainL, plain, plainR_sk]) ?_
    intro H9 hx9
    obtain ⟨qg, gg⟩ := hx9.cell ge0
    obtain ⟨qh, gh⟩ := hx9.cell gf0
    clear hx9 h26 ge0 gf0
    by_cases hD0 : D = 0
    · subst hD0
      have h42' := h42.down rfl
      clear h42 hD
      replace h42' := And.intro h42' trivial
      repeat' (first
        | ((with_reducible refine T_calm ?_ ?_); rfl)
        | with_reducible first
          | refine T_seq ?_
          | refine T_reg ?_
          | refine T_draw ?_
          | refine T_skip ?_
          | refine T_exit ?_
          | refine T_block ?_
          | refine T_cond_t rfl ?_
          | refine T_cond_f rfl ?_
          | refine wdW_cons rfl ?_
          | ((first | refine T_cond rfl (fun hc => ?_) (fun hc => ?_) | refine wguard_split (fun hc => ?_) (fun hc => ?_) | refine wguardX_split (fun hc => ?_) (fun hc => ?_)) <;> have hd := hc <;> (try simp (disch := omega) only [wrapI] at hd) <;> have hs := hd <;> (try simp only [Bool.not_eq_true', Bool.not_eq_false', Bool.and_eq_true, Bool.and_eq_false_iff, Bool.or_eq_true, Bool.or_eq_false_iff, decide_eq_true_eq, decide_eq_false_iff_not, beq_iff_eq, bne_iff_ne, beq_eq_false_iff_ne, bne_eq_false_iff_eq, Bool.not_true, Bool.not_false, gt_iff_lt, ge_iff_le, Int.not_lt, Int.not_le, ne_eq, Decidable.not_not] at hd) <;> (try simp at hs))
          | refine T_ret ?_
          | refine leave_of (.inr rfl) _ rfl ?_
          | refine leave_of (.inl rfl) _ rfl ?_
          | refine leaveA_of (.inr rfl) _ rfl ?_
          | refine leaveA_of (.inl rfl) _ rfl ?_
          | refine wif_intro ?_ (fun hc => ?_)
          | refine And.intro ?_ ?_
          | intro hc
        | simp (maxSteps := 4000000) only [wops_nil, wops_cons, wstep_none, wrun_call, wrun_mv, wrun_bin, wrun_load, wop, aop, ev, look, put_some, writes, ores_some, binV, thenK, value, cut, hget, toLits, mkAgg, List.map_cons, List.map_nil, List.length_cons, List.length_nil, List.take_succ_cons, List.take_nil, List.drop_zero, List.append_nil, List.replicate_zero, List.getD_cons_zero, Option.getD_some, Option.map_some, if_true, if_false, Nat.reduceEqDiff, Nat.reduceAdd, Nat.zero_add, reduceCtorEq, eq_self, beq_self_eq_true, *]
        | simp (disch := omega) only [getD_ints, wrapI]
        | omega)
      refine wcall_E0 h42'.1 rfl (rL3 (rds_plain (d := 0) (v := sts nil l) (plainR_sk l)) (rds_plain (d := 0) (v := dmV n1 lo n2 hi) (by simp [plain, plainL])) (rds_plain (d := 0) (v := plV np mi den) (by simp [plain, plainL])) (by omega) (by omega) (by omega)) (by simp [plainL, plain, plainR_sk]) ?_
      intro Ha hxa
      clear hxa h42' gg gh
      repeat' (first
        | ((with_reducible refine T_calm ?_ ?_); rfl)
        | with_reducible first
          | refine T_seq ?_
          | refine T_reg ?_
          | refine T_draw ?_
          | refine T_skip ?_
          | refine T_exit ?_
          | refine T_block ?_
          | refine T_cond_t rfl ?_
          | refine T_cond_f rfl ?_
          | refine wdW_cons rfl ?_
          | ((first | refine T_cond rfl (fun hc => ?_) (fun hc => ?_) | refine wguard_split (fun hc => ?_) (fun hc => ?_) | refine wguardX_split (fun hc => ?_) (fun hc => ?_)) <;> have hd := hc <;> (try simp (disch := omega) only [wrapI] at hd) <;> have hs := hd <;> (try simp only [Bool.not_eq_true', Bool.not_eq_false', Bool.and_eq_true, Bool.and_eq_false_iff, Bool.or_eq_true, Bool.or_eq_false_iff, decide_eq_true_eq, decide_eq_false_iff_not, beq_iff_eq, bne_iff_ne, beq_eq_false_iff_ne, bne_eq_false_iff_eq, Bool.not_true, Bool.not_false, gt_iff_lt, ge_iff_le, Int.not_lt, Int.not_le, ne_eq, Decidable.not_not] at hd) <;> (try simp at hs))
          | refine T_ret ?_
          | refine leave_of (.inr rfl) _ rfl ?_
          | refine leave_of (.inl rfl) _ rfl ?_
          | refine leaveA_of (.inr rfl) _ rfl ?_
          | refine leaveA_of (.inl rfl) _ rfl ?_
          | refine wif_intro ?_ (fun hc => ?_)
          | refine And.intro ?_ ?_
          | intro hc
        | simp (maxSteps := 4000000) only [wops_nil, wops_cons, wstep_none, wstep_some, wguard_true, wrun_mv, wrun_pick, wrun_bin, wrun_ext, get_mk, wop, aop, ev, look, put_some, writes, ores_some, binV, thenK, tupOf, List.getElem?_cons_zero, List.getElem?_cons_succ, List.append_nil, List.replicate_zero, Option.map_some, if_true, if_false, Nat.reduceEqDiff, reduceCtorEq, eq_self, beq_self_eq_true, ren, *]
        | simp (disch := omega) only [getD_ints, wrapI]
        | omega)
      all_goals first | rfl
    · obtain ⟨rfl, rfl⟩ := hD.down hD0
      have hD1 : (E == 0) = false := by simp only [beq_eq_false_iff_ne]; exact hD0
      clear h42 hD hD0 gg gh
      repeat' (first
        | ((with_reducible refine T_calm ?_ ?_); rfl)
        | with_reducible first
          | refine T_seq ?_
          | refine T_reg ?_
          | refine T_draw ?_
          | refine T_skip ?_
          | refine T_exit ?_
          | refine T_block ?_
          | refine T_cond_t rfl ?_
          | refine T_cond_f rfl ?_
          | refine wdW_cons rfl ?_
          | ((first | refine T_cond rfl (fun hc => ?_) (fun hc => ?_) | refine wguard_split (fun hc => ?_) (fun hc => ?_) | refine wguardX_split (fun hc => ?_) (fun hc => ?_)) <;> have hd := hc <;> (try simp (disch := omega) only [wrapI] at hd) <;> have hs := hd <;> (try simp only [Bool.not_eq_true', Bool.not_eq_false', Bool.and_eq_true, Bool.and_eq_false_iff, Bool.or_eq_true, Bool.or_eq_false_iff, decide_eq_true_eq, decide_eq_false_iff_not, beq_iff_eq, bne_iff_ne, beq_eq_false_iff_ne, bne_eq_false_iff_eq, Bool.not_true, Bool.not_false, gt_iff_lt, ge_iff_le, Int.not_lt, Int.not_le, ne_eq, Decidable.not_not] at hd) <;> (try simp at hs))
          | refine T_ret ?_
          | refine leave_of (.inr rfl) _ rfl ?_
          | refine leave_of (.inl rfl) _ rfl ?_
          | refine leaveA_of (.inr rfl) _ rfl ?_
          | refine leaveA_of (.inl rfl) _ rfl ?_
          | refine wif_intro ?_ (fun hc => ?_)
          | refine And.intro ?_ ?_
          | intro hc
        | simp (maxSteps := 4000000) only [wops_nil, wops_cons, wstep_none, wstep_some, wguard_true, wrun_mv, wrun_pick, wrun_bin, get_mk, wop, aop, ev, look, put_some, writes, ores_some, binV, thenK, tupOf, List.append_nil, List.replicate_zero, Option.map_some, if_true, if_false, Nat.reduceEqDiff, reduceCtorEq, eq_self, beq_self_eq_true, ren, *]
        | simp (disch := omega) only [getD_ints, wrapI]
        | omega)
      all_goals first | rfl

  · have hsr' := hsr.down hs0
    subst hsr'
    have hRz : (R == 0) = false := by simp only [beq_eq_false_iff_ne]; exact hR0
    have ge0 := ge
    have gf0 := gf
    clear h39 hsr hR0 hs0 ge gf
    repeat' (first
      | ((with_reducible refine T_calm ?_ ?_); rfl)
      | with_reducible first
        | refine T_seq ?_
        | refine T_reg ?_
        | refine T_draw ?_
        | refine T_skip ?_
        | refine T_exit ?_
        | refine T_block ?_
        | refine T_cond_t rfl ?_
        | refine T_cond_f rfl ?_
        | refine wdW_cons rfl ?_
        | ((first | refine T_cond rfl (fun hc => ?_) (fun hc => ?_) | refine wguard_split (fun hc => ?_) (fun hc => ?_) | refine wguardX_split (fun hc => ?_) (fun hc => ?_)) <;> have hd := hc <;> (try simp (disch := omega) only [wrapI] at hd) <;> have hs := hd <;> (try simp only [bne_iff_ne, bne_eq_false_iff_eq, Bool.not_false, ne_eq] at hd) <;> (try simp at hs))
        | refine T_ret ?_
        | refine leave_of (.inr rfl) _ rfl ?_
        | refine leave_of (.inl rfl) _ rfl ?_
        | refine leaveA_of (.inr rfl) _ rfl ?_
        | refine leaveA_of (.inl rfl) _ rfl ?_
        | refine wif_intro ?_ (fun hc => ?_)
        | refine And.intro ?_ ?_
        | intro hc
      | simp (maxSteps := 4000000) only [wops_nil, wops_cons, wstep_none, wstep_some, wguard_true, wguard_ff, wguard_ft, wguard_undef, wrun_call, wrun_mv, wrun_pick, wrun_bin, wrun_ext, wrun_load, wrun_len, wop, aop, ev, look, put_some, writes, ores_some, ores_map, ores_bind, binV, thenK, intV, lenOf, value, cut, hget, toLits, mkAgg, List.map_cons, List.map_nil, List.length_cons, List.length_nil, List.getElem?_cons_zero, List.getElem?_cons_succ, List.take_succ_cons, List.take_nil, List.drop_zero, List.append_nil, List.replicate_zero, List.getD_cons_zero, Option.pure_def, Option.bind_eq_bind, Option.getD_some, Option.map_some, if_true, if_false, Nat.reduceEqDiff, Nat.reduceAdd, Nat.zero_add, reduceCtorEq, Bool.false_eq_true, eq_self, *]
      | simp (disch := omega) only [getD_ints, wrapI]
      | omega)
    refine wcall_E0 h26.1 rfl (rL2 (rds_plain (d := 0) (v := sts nil l) (plainR_sk l)) (rds_plain (d := 0) (v := dmV n1 lo n2 hi) (by simp [plain, plainL])) (by omega) (by omega)) (by simp [plainL, plain, plainR_sk]) ?_
    intro H9 hx9
    obtain ⟨qg, gg⟩ := hx9.cell ge0
    obtain ⟨qh, gh⟩ := hx9.cell gf0
    clear hx9 h26 ge0 gf0
    by_cases hD0 : D = 0
    · subst hD0
      have h42' := h42.down rfl
      clear h42 hD
      replace h42' := And.intro h42' trivial
      repeat' (first
        | ((with_reducible refine T_calm ?_ ?_); rfl)
        | with_reducible first
          | refine T_seq ?_
          | refine T_reg ?_
          | refine T_draw ?_
          | refine T_skip ?_
          | refine T_exit ?_
          | refine T_block ?_
          | refine T_cond_t rfl ?_
          | refine T_cond_f rfl ?_
          | refine wdW_cons rfl ?_
          | ((first | refine T_cond rfl (fun hc => ?_) (fun hc => ?_) | refine wguard_split (fun hc => ?_) (fun hc => ?_) | refine wguardX_split (fun hc => ?_) (fun hc => ?_)) <;> have hd := hc <;> (try simp (disch := omega) only [wrapI] at hd) <;> have hs := hd <;> (try simp only [Bool.not_eq_true', Bool.not_eq_false', Bool.and_eq_true, Bool.and_eq_false_iff, Bool.or_eq_true, Bool.or_eq_false_iff, decide_eq_true_eq, decide_eq_false_iff_not, beq_iff_eq, bne_iff_ne, beq_eq_false_iff_ne, bne_eq_false_iff_eq, Bool.not_true, Bool.not_false, gt_iff_lt, ge_iff_le, Int.not_lt, Int.not_le, ne_eq, Decidable.not_not] at hd) <;> (try simp at hs))
          | refine T_ret ?_
          | refine leave_of (.inr rfl) _ rfl ?_
          | refine leave_of (.inl rfl) _ rfl ?_
          | refine leaveA_of (.inr rfl) _ rfl ?_
          | refine leaveA_of (.inl rfl) _ rfl ?_
          | refine wif_intro ?_ (fun hc => ?_)
          | refine And.intro ?_ ?_
          | intro hc
        | simp (maxSteps := 4000000) only [wops_nil, wops_cons, wstep_none, wrun_call, wrun_mv, wrun_bin, wrun_load, wop, aop, ev, look, put_some, writes, ores_some, binV, thenK, value, cut, hget, toLits, mkAgg, List.map_cons, List.map_nil, List.length_cons, List.length_nil, List.take_succ_cons, List.take_nil, List.drop_zero, List.append_nil, List.replicate_zero, List.getD_cons_zero, Option.getD_some, Option.map_some, if_true, if_false, Nat.reduceEqDiff, Nat.reduceAdd, Nat.zero_add, reduceCtorEq, eq_self, beq_self_eq_true, *]
        | simp (disch := omega) only [getD_ints, wrapI]
        | omega)
      refine wcall_E0 h42'.1 rfl (rL3 (rds_plain (d := 0) (v := sts nil l) (plainR_sk l)) (rds_plain (d := 0) (v := dmV n1 lo n2 hi) (by simp [plain, plainL])) (rds_plain (d := 0) (v := plV np mi den) (by simp [plain, plainL])) (by omega) (by omega) (by omega)) (by simp [plainL, plain, plainR_sk]) ?_
      intro Ha hxa
      clear hxa h42' gg gh
      repeat' (first
        | ((with_reducible refine T_calm ?_ ?_); rfl)
        | with_reducible first
          | refine T_seq ?_
          | refine T_reg ?_
          | refine T_draw ?_
          | refine T_skip ?_
          | refine T_exit ?_
          | refine T_block ?_
          | refine T_cond_t rfl ?_
          | refine T_cond_f rfl ?_
          | refine wdW_cons rfl ?_
          | ((first | refine T_cond rfl (fun hc => ?_) (fun hc => ?_) | refine wguard_split (fun hc => ?_) (fun hc => ?_) | refine wguardX_split (fun hc => ?_) (fun hc => ?_)) <;> have hd := hc <;> (try simp (disch := omega) only [wrapI] at hd) <;> have hs := hd <;> (try simp only [Bool.not_eq_true', Bool.not_eq_false', Bool.and_eq_true, Bool.and_eq_false_iff, Bool.or_eq_true, Bool.or_eq_false_iff, decide_eq_true_eq, decide_eq_false_iff_not, beq_iff_eq, bne_iff_ne, beq_eq_false_iff_ne, bne_eq_false_iff_eq, Bool.not_true, Bool.not_false, gt_iff_lt, ge_iff_le, Int.not_lt, Int.not_le, ne_eq, Decidable.not_not] at hd) <;> (try simp at hs))
          | refine T_ret ?_
          | refine leave_of (.inr rfl) _ rfl ?_
          | refine leave_of (.inl rfl) _ rfl ?_
          | refine leaveA_of (.inr rfl) _ rfl ?_
          | refine leaveA_of (.inl rfl) _ rfl ?_
          | refine wif_intro ?_ (fun hc => ?_)
          | refine And.intro ?_ ?_
          | intro hc
        | simp (maxSteps := 4000000) only [wops_nil, wops_cons, wstep_none, wstep_some, wguard_true, wrun_mv, wrun_pick, wrun_bin, wrun_ext, get_mk, wop, aop, ev, look, put_some, writes, ores_some, binV, thenK, tupOf, List.getElem?_cons_zero, List.getElem?_cons_succ, List.append_nil, List.replicate_zero, Option.map_some, if_true, if_false, Nat.reduceEqDiff, reduceCtorEq, eq_self, beq_self_eq_true, ren, *]
        | simp (disch := omega) only [getD_ints, wrapI]
        | omega)
      all_goals first | rfl
    · obtain ⟨rfl, rfl⟩ := hD.down hD0
      have hD1 : (E == 0) = false := by simp only [beq_eq_false_iff_ne]; exact hD0
      clear h42 hD hD0 gg gh
      repeat' (first
        | ((with_reducible refine T_calm ?_ ?_); rfl)
        | with_reducible first
          | refine T_seq ?_
          | refine T_reg ?_
          | refine T_draw ?_
          | refine T_skip ?_
          | refine T_exit ?_
          | refine T_block ?_
          | refine T_cond_t rfl ?_
          | refine T_cond_f rfl ?_
          | refine wdW_cons rfl ?_
          | ((first | refine T_cond rfl (fun hc => ?_) (fun hc => ?_) | refine wguard_split (fun hc => ?_) (fun hc => ?_) | refine wguardX_split (fun hc => ?_) (fun hc => ?_)) <;> have hd := hc <;> (try simp (disch := omega) only [wrapI] at hd) <;> have hs := hd <;> (try simp only [Bool.not_eq_true', Bool.not_eq_false', Bool.and_eq_true, Bool.and_eq_false_iff, Bool.or_eq_true, Bool.or_eq_false_iff, decide_eq_true_eq, decide_eq_false_iff_not, beq_iff_eq, bne_iff_ne, beq_eq_false_iff_ne, bne_eq_false_iff_eq, Bool.not_true, Bool.not_false, gt_iff_lt, ge_iff_le, Int.not_lt, Int.not_le, ne_eq, Decidable.not_not] at hd) <;> (try simp at hs))
          | refine T_ret ?_
          | refine leave_of (.inr rfl) _ rfl ?_
          | refine leave_of (.inl rfl) _ rfl ?_
          | refine leaveA_of (.inr rfl) _ rfl ?_
          | refine leaveA_of (.inl rfl) _ rfl ?_
          | refine wif_intro ?_ (fun hc => ?_)
          | refine And.intro ?_ ?_
          | intro hc
        | simp (maxSteps := 4000000) only [wops_nil, wops_cons, wstep_none, wstep_some, wguard_true, wrun_mv, wrun_pick, wrun_bin, get_mk, wop, aop, ev, look, put_some, writes, ores_some, binV, thenK, tupOf, List.append_nil, List.replicate_zero, Option.map_some, if_true, if_false, Nat.reduceEqDiff, reduceCtorEq, eq_self, beq_self_eq_true, ren, *]
        | simp (disch := omega) only [getD_ints, wrapI]
        | omega)
      all_goals first | rfl
set_option maxHeartbeats 8000000 in
theorem k6ok {nil n1 n2 np : Bool} {l : List Sk} {lo hi mi : List Int} {den E N R x s D : Int} {W : List Int} {n : Nat} (hmi : mi.length ≤ 15) (h18 : Fn Try.prog 18 [sts nil l] (bl true) []) (h19 : Fn Try.prog 19 [dmV n1 lo n2 hi] (bl true) []) (h22 : Gv 2 Try.prog 22 [sts nil l] [cpS l]) (h23 : Gv 2 Try.prog 23 [dmV n1 lo n2 hi] [dmV false lo false hi]) (h24 : Gv 2 Try.prog 24 [plV np mi den] [plV false mi den])
    (h36 : Fn Try.prog 36 [cpS l, dmV false lo false hi, plV false mi den] (.tup [i64 N, i64 E]) []) (h37 : Gv 1 Try.prog 37 [cpS l, plV false mi den] [.sl false 2 (outR W den n), i64 0]) (h38 : Fn Try.prog 38 [sts nil l] (.tup [i64 x, i64 s]) []) (h39 : s = 0 → Fn Try.prog 39 [sts nil l, plV np mi den] (i64 R) []) (h26 : Fn Try.prog 26 [sts nil l, dmV n1 lo n2 hi] (i64 D) []) (h42 : D = 0 → Fn Try.prog 42 [sts nil l, dmV n1 lo n2 hi, plV np mi den] (.tup [i64 N, i64 E]) []) (hD : D ≠ 0 → N = 0 ∧ E = D) (hn : n ≤ 1000) (hR0 : R = 0) (hs0 : s = 0) (h41 : Gv 1 Try.prog 41 [sts nil l, plV np mi den] [.sl false 2 (outR W den n)]) : Fn Try.prog 6 [sts nil l, dmV n1 lo n2 hi, plV np mi den] (bl true) [] := by
  refine fn_of e6 ?_
  have h13 := k13
  have hml := (by simp : (mi.map fun x => [i64 x]).length = mi.length)
  have d1 : decide ((mi.length : Int) > 15) = false := decide_eq_false (by omega)
  have hp : plain (cpS l) = true := plain_cpS l
  have hEE : (E == E) = true := by simp
  have hNN : (N == N) = true := by simp
  have hRR : (R != R) = false := by simp
  replace h22 := And.intro h22 trivial
  replace h23 := And.intro h23 trivial
  replace h24 := And.intro h24 trivial
  replace h36 := And.intro h36 trivial
  replace h37 := And.intro h37 trivial
  replace h38 := And.intro h38 trivial
  replace h39 := PLift.up h39
  replace h26 := And.intro h26 trivial
  replace h42 := PLift.up h42
  replace hD := PLift.up hD
  have h40 := k40 false false W den n hn
  replace h41 := And.intro h41 trivial
  replace h40 := And.intro h40 trivial
  clear hmi
  unfold c6
  repeat' (first
    | ((with_reducible refine T_calm ?_ ?_); rfl)
    | with_reducible first
      | refine T_seq ?_
      | refine T_reg ?_
      | refine T_draw ?_
      | refine T_skip ?_
      | refine T_exit ?_
      | refine T_block ?_
      | refine T_cond_t rfl ?_
      | refine T_cond_f rfl ?_
      | refine wdW_cons rfl ?_
      | (show wcall _ false (.lit (.func (.func 13) _ _)) _ _ _ _; refine wcall_fn (h13) rfl (by simp [plainL]) ?_)
      | (show wcallX _ false (.lit (.func (.func 13) _ _)) _ _ _ _; refine wcallX_fn (h13) rfl (by simp [plainL, plain, plainR, plainR_sk]) ?_)
      | (show wcall _ false (.lit (.func (.func 18) _ _)) _ _ _ _; refine wcall_fn (h18) rfl (by simp [plainL, plain, plainR_sk]) ?_)
      | (show wcallX _ false (.lit (.func (.func 18) _ _)) _ _ _ _; refine wcallX_fn (h18) rfl (by simp [plainL, plain, plainR, plainR_sk]) ?_)
      | (show wcall _ false (.lit (.func (.func 19) _ _)) _ _ _ _; refine wcall_fn (h19) rfl (by simp [plainL, plain]) ?_)
      | (show wcallX _ false (.lit (.func (.func 19) _ _)) _ _ _ _; refine wcallX_fn (h19) rfl (by simp [plainL, plain, plainR, plainR_sk]) ?_)
      | ((first | refine T_cond rfl (fun hc => ?_) (fun hc => ?_) | refine wguard_split (fun hc => ?_) (fun hc => ?_) | refine wguardX_split (fun hc => ?_) (fun hc => ?_)) <;> have hd := hc <;> (try simp (disch := omega) only [wrapI] at hd) <;> have hs := hd <;> (try simp only [Bool.not_eq_true', Bool.not_eq_false', Bool.and_eq_true, Bool.and_eq_false_iff, Bool.or_eq_true, Bool.or_eq_false_iff, decide_eq_true_eq, decide_eq_false_iff_not, beq_iff_eq, bne_iff_ne, beq_eq_false_iff_ne, bne_eq_false_iff_eq, Bool.not_true, Bool.not_false, gt_iff_lt, ge_iff_le, Int.not_lt, Int.not_le, ne_eq, Decidable.not_not] at hd) <;> (try simp at hs))
      | refine T_ret ?_
      | refine leave_of (.inr rfl) _ rfl ?_
      | refine leave_of (.inl rfl) _ rfl ?_
      | refine leaveA_of (.inr rfl) _ rfl ?_
      | refine leaveA_of (.inl rfl) _ rfl ?_
      | refine wif_intro ?_ (fun hc => ?_)
      | refine And.intro ?_ ?_
      | intro hc
    | simp (maxSteps := 4000000) only [wops_nil, wops_cons, wstep_none, wstep_some, wguard_ff, wrun_call, wrun_mv, wrun_pick, wrun_bin, wrun_not, wrun_load, wrun_faddr, wrun_len, wrun_box, wrunX_mv, wstepX_none, wrunX_call, wop, aop, ev, look, put_some, writes, ores_some, ores_map, ores_bind, binV, thenK, boolV, intV, lenOf, value, cut, hget, AV.parts, isOne, toLits, mkAgg, List.map_cons, List.map_nil, List.length_cons, List.length_nil, List.getElem?_cons_zero, List.getElem?_cons_succ, List.set_cons_zero, List.set_cons_succ, List.take_succ_cons, List.take_zero, List.take_nil, List.drop_zero, List.nil_append, List.append_nil, List.replicate_zero, List.replicate_succ, List.getD_cons_zero, List.zipIdx_cons, List.zipIdx_nil, List.all_cons, List.all_nil, Option.pure_def, Option.bind_eq_bind, Option.getD_some, Option.map_some, if_true, if_false, Nat.reduceEqDiff, Nat.reduceAdd, Nat.add_zero, Nat.zero_add, Nat.zero_ne_one, reduceCtorEq, Bool.not_true, Bool.and_true, Bool.false_eq_true, eq_self, true_and, and_self, freeze, lidsL, lids, List.flatMap_cons, List.flatMap_nil, List.all_cons, ren, *]
    | simp (disch := omega) only [getD_ints, wrapI]
    | (with_reducible show wcall _ false (.lit (.func (.func 13) _ _)) _ _ _ _; refine wcall_fn (h13) ?_ ?_ ?_; (next => simp [rfyL, rfy, hget, ints, take_rfy, plainR_sk]); (next => simp [plainL, plain, plainR, plainR_sk]))
    | (with_reducible show wcallX _ false (.lit (.func (.func 13) _ _)) _ _ _ _; refine wcallX_fn (h13) ?_ ?_ ?_; (next => simp [rfyL, rfy, hget, ints, take_rfy, plainR_sk]); (next => simp [plainL, plain, plainR, plainR_sk]))
    | (with_reducible show wcall _ false (.lit (.func (.func 18) _ _)) _ _ _ _; refine wcall_fn (h18) ?_ ?_ ?_; (next => simp [rfyL, rfy, hget, ints, take_rfy, plainR_sk]); (next => simp [plainL, plain, plainR, plainR_sk]))
    | (with_reducible show wcallX _ false (.lit (.func (.func 18) _ _)) _ _ _ _; refine wcallX_fn (h18) ?_ ?_ ?_; (next => simp [rfyL, rfy, hget, ints, take_rfy, plainR_sk]); (next => simp [plainL, plain, plainR, plainR_sk]))
    | (with_reducible show wcall _ false (.lit (.func (.func 19) _ _)) _ _ _ _; refine wcall_fn (h19) ?_ ?_ ?_; (next => simp [rfyL, rfy, hget, ints, take_rfy, plainR_sk]); (next => simp [plainL, plain, plainR, plainR_sk]))
    | (with_reducible show wcallX _ false (.lit (.func (.func 19) _ _)) _ _ _ _; refine wcallX_fn (h19) ?_ ?_ ?_; (next => simp [rfyL, rfy, hget, ints, take_rfy, plainR_sk]); (next => simp [plainL, plain, plainR, plainR_sk]))
    | omega)
  refine wcallX_E1 h22.1 rfl (by simp [plainL, plain, plainR_sk]) hp (rfy_plain _ hp 2) ?_
  intro v1 H1 hx1 hv1
  obtain ⟨q0, g0⟩ := hx1.cell (id := 0) rfl
  obtain ⟨q1, g1⟩ := hx1.cell (id := 1) rfl
  have y0 := (List.getElem?_eq_some_iff.1 g0).1
  have y1 := (List.getElem?_eq_some_iff.1 g1).1
  clear hx1
  repeat' (first
    | ((with_reducible refine T_calm ?_ ?_); rfl)
    | with_reducible first
      | refine T_seq ?_
      | refine T_reg ?_
      | refine T_draw ?_
      | refine T_skip ?_
      | refine T_exit ?_
      | refine T_block ?_
      | refine T_cond_t rfl ?_
      | refine T_cond_f rfl ?_
      | refine wdW_cons rfl ?_
      | ((first | refine T_cond rfl (fun hc => ?_) (fun hc => ?_) | refine wguard_split (fun hc => ?_) (fun hc => ?_) | refine wguardX_split (fun hc => ?_) (fun hc => ?_)) <;> have hd := hc <;> (try simp (disch := omega) only [wrapI] at hd) <;> have hs := hd <;> (try simp only [Bool.not_eq_true', Bool.not_eq_false', Bool.and_eq_true, Bool.and_eq_false_iff, Bool.or_eq_true, Bool.or_eq_false_iff, decide_eq_true_eq, decide_eq_false_iff_not, beq_iff_eq, bne_iff_ne, beq_eq_false_iff_ne, bne_eq_false_iff_eq, Bool.not_true, Bool.not_false, gt_iff_lt, ge_iff_le, Int.not_lt, Int.not_le, ne_eq, Decidable.not_not] at hd) <;> (try simp at hs))
      | refine T_ret ?_
      | refine leave_of (.inr rfl) _ rfl ?_
      | refine leave_of (.inl rfl) _ rfl ?_
      | refine leaveA_of (.inr rfl) _ rfl ?_
      | refine leaveA_of (.inl rfl) _ rfl ?_
      | refine wif_intro ?_ (fun hc => ?_)
      | refine And.intro ?_ ?_
      | intro hc
    | simp (maxSteps := 4000000) only [wrun_load, wrunX_load, wstepX_none, wrunX_call, wop, aop, ev, look, put_some, writes, ores_some, value, cut, hget, toLits, mkAgg, List.map_cons, List.map_nil, List.length_cons, List.length_nil, List.take_succ_cons, List.take_nil, List.drop_zero, List.getD_cons_zero, Option.getD_some, Option.map_some, if_true, if_false, Nat.reduceEqDiff, Nat.reduceAdd, Nat.zero_add, reduceCtorEq, eq_self, *]
    | simp (disch := omega) only [getD_ints, wrapI]
    | (with_reducible refine wdW_cons ?_ ?_; (next => simp [chk, foot, compatB, argsOf, St.get, target, ev, look, lidsL, hget, kind, AOp.isRaw, wids, wtops, tops, opds, topId, plainR_sk, y0, y1]; done))
    | omega)
  refine wcallX_E1 h23.1 rfl (by simp [plainL, plain]) (by simp [plain, plainL]) (rfy_plain _ (by simp [plain, plainL]) 2) ?_
  intro v2 H2 hx2 hv2
  obtain ⟨q2, g2⟩ := hx2.cell g0
  obtain ⟨q3, g3⟩ := hx2.cell g1
  have y2 := (List.getElem?_eq_some_iff.1 g2).1
  have y3 := (List.getElem?_eq_some_iff.1 g3).1
  replace hv1 := hv1.ext hx2
  clear hx2
  repeat' (first
    | ((with_reducible refine T_calm ?_ ?_); rfl)
    | with_reducible first
      | refine T_seq ?_
      | refine T_reg ?_
      | refine T_draw ?_
      | refine T_skip ?_
      | refine T_exit ?_
      | refine T_block ?_
      | refine T_cond_t rfl ?_
      | refine T_cond_f rfl ?_
      | refine wdW_cons rfl ?_
      | ((first | refine T_cond rfl (fun hc => ?_) (fun hc => ?_) | refine wguard_split (fun hc => ?_) (fun hc => ?_) | refine wguardX_split (fun hc => ?_) (fun hc => ?_)) <;> have hd := hc <;> (try simp (disch := omega) only [wrapI] at hd) <;> have hs := hd <;> (try simp only [Bool.not_eq_true', Bool.not_eq_false', Bool.and_eq_true, Bool.and_eq_false_iff, Bool.or_eq_true, Bool.or_eq_false_iff, decide_eq_true_eq, decide_eq_false_iff_not, beq_iff_eq, bne_iff_ne, beq_eq_false_iff_ne, bne_eq_false_iff_eq, Bool.not_true, Bool.not_false, gt_iff_lt, ge_iff_le, Int.not_lt, Int.not_le, ne_eq, Decidable.not_not] at hd) <;> (try simp at hs))
      | refine T_ret ?_
      | refine leave_of (.inr rfl) _ rfl ?_
      | refine leave_of (.inl rfl) _ rfl ?_
      | refine leaveA_of (.inr rfl) _ rfl ?_
      | refine leaveA_of (.inl rfl) _ rfl ?_
      | refine wif_intro ?_ (fun hc => ?_)
      | refine And.intro ?_ ?_
      | intro hc
    | simp (maxSteps := 4000000) only [wrun_load, wrunX_load, wstepX_none, wrunX_call, wop, aop, ev, look, put_some, writes, ores_some, value, cut, hget, toLits, mkAgg, List.map_cons, List.map_nil, List.length_cons, List.length_nil, List.take_succ_cons, List.take_nil, List.drop_zero, List.getD_cons_zero, Option.getD_some, Option.map_some, if_true, if_false, Nat.reduceEqDiff, Nat.reduceAdd, Nat.zero_add, reduceCtorEq, eq_self, *]
    | simp (disch := omega) only [getD_ints, wrapI]
    | (with_reducible refine wdW_cons ?_ ?_; (next => simp [chk, foot, compatB, argsOf, St.get, target, ev, look, lidsL, kind, AOp.isRaw, wids, tops, opds, topId, y1]; done))
    | omega)
  refine wcallX_E1 h24.1 rfl (by simp [plainL, plain]) (by simp [plain, plainL]) (rfy_plain _ (by simp [plain, plainL]) 2) ?_
  intro v3 H3 hx3 hv3
  obtain ⟨q4, g4⟩ := hx3.cell g2
  obtain ⟨q5, g5⟩ := hx3.cell g3
  have y4 := (List.getElem?_eq_some_iff.1 g4).1
  have y5 := (List.getElem?_eq_some_iff.1 g5).1
  replace hv1 := hv1.ext hx3
  replace hv2 := hv2.ext hx3
  clear hx3
  repeat' (first
    | ((with_reducible refine T_calm ?_ ?_); rfl)
    | with_reducible first
      | refine T_seq ?_
      | refine T_reg ?_
      | refine T_draw ?_
      | refine T_skip ?_
      | refine T_exit ?_
      | refine T_block ?_
      | refine T_cond_t rfl ?_
      | refine T_cond_f rfl ?_
      | refine wdW_cons rfl ?_
      | ((first | refine T_cond rfl (fun hc => ?_) (fun hc => ?_) | refine wguard_split (fun hc => ?_) (fun hc => ?_) | refine wguardX_split (fun hc => ?_) (fun hc => ?_)) <;> have hd := hc <;> (try simp (disch := omega) only [wrapI] at hd) <;> have hs := hd <;> (try simp only [Bool.not_eq_true', Bool.not_eq_false', Bool.and_eq_true, Bool.and_eq_false_iff, Bool.or_eq_true, Bool.or_eq_false_iff, decide_eq_true_eq, decide_eq_false_iff_not, beq_iff_eq, bne_iff_ne, beq_eq_false_iff_ne, bne_eq_false_iff_eq, Bool.not_true, Bool.not_false, gt_iff_lt, ge_iff_le, Int.not_lt, Int.not_le, ne_eq, Decidable.not_not] at hd) <;> (try simp at hs))
      | refine T_ret ?_
      | refine leave_of (.inr rfl) _ rfl ?_
      | refine leave_of (.inl rfl) _ rfl ?_
      | refine leaveA_of (.inr rfl) _ rfl ?_
      | refine leaveA_of (.inl rfl) _ rfl ?_
      | refine wif_intro ?_ (fun hc => ?_)
      | refine And.intro ?_ ?_
      | intro hc
    | simp (maxSteps := 4000000) only [wstepX_none, wrunX_call, ev, look, put_some, List.map_cons, List.map_nil, if_true, if_false, Nat.reduceEqDiff, reduceCtorEq, eq_self, *]
    | simp (disch := omega) only [getD_ints, wrapI]
    | (with_reducible refine wdW_cons ?_ ?_; (next => simp [chk, foot, compatB, argsOf, St.get, target, ev, look, lidsL, hget, kind, AOp.isRaw, wids, wtops, tops, opds, topId, plainR_sk, y0, y1, y2, y3, y4, y5]; done))
    | omega)
  refine wcallX_E0 h36.1 rfl (rL3 hv1 hv2 hv3 (by omega) (by omega) (by omega)) (by simp [plainL, plain, hp]) ?_
  intro H4 hx4
  obtain ⟨q6, g6⟩ := hx4.cell g4
  obtain ⟨q7, g7⟩ := hx4.cell g5
  have y6 := (List.getElem?_eq_some_iff.1 g6).1
  have y7 := (List.getElem?_eq_some_iff.1 g7).1
  clear hx4 hv1 hv2 hv3 g0 g1 g2 g3 g4 g5 h23 h36 y0 y1 y2 y3 y4 y5
  repeat' (first
    | ((with_reducible refine T_calm ?_ ?_); rfl)
    | with_reducible first
      | refine T_seq ?_
      | refine T_reg ?_
      | refine T_draw ?_
      | refine T_skip ?_
      | refine T_exit ?_
      | refine T_block ?_
      | refine T_cond_t rfl ?_
      | refine T_cond_f rfl ?_
      | refine wdW_cons rfl ?_
      | ((first | refine T_cond rfl (fun hc => ?_) (fun hc => ?_) | refine wguard_split (fun hc => ?_) (fun hc => ?_) | refine wguardX_split (fun hc => ?_) (fun hc => ?_)) <;> have hd := hc <;> (try simp (disch := omega) only [wrapI] at hd) <;> have hs := hd <;> (try simp only [Bool.not_eq_true', Bool.not_eq_false', Bool.and_eq_true, Bool.and_eq_false_iff, Bool.or_eq_true, Bool.or_eq_false_iff, decide_eq_true_eq, decide_eq_false_iff_not, beq_iff_eq, bne_iff_ne, beq_eq_false_iff_ne, bne_eq_false_iff_eq, Bool.not_true, Bool.not_false, gt_iff_lt, ge_iff_le, Int.not_lt, Int.not_le, ne_eq, Decidable.not_not] at hd) <;> (try simp at hs))
      | refine T_ret ?_
      | refine leave_of (.inr rfl) _ rfl ?_
      | refine leave_of (.inl rfl) _ rfl ?_
      | refine leaveA_of (.inr rfl) _ rfl ?_
      | refine leaveA_of (.inl rfl) _ rfl ?_
      | refine wif_intro ?_ (fun hc => ?_)
      | refine And.intro ?_ ?_
      | intro hc
    | simp (maxSteps := 4000000) only [wrun_mv, wrun_ext, wrunX_mv, wrunX_ext, wdW_nil, wstepX_none, wrunX_call, wop, aop, ev, look, put_some, writes, ores_some, thenK, List.map_cons, List.map_nil, List.getElem?_cons_zero, List.getElem?_cons_succ, List.append_nil, List.replicate_zero, Option.map_some, if_true, if_false, Nat.reduceEqDiff, reduceCtorEq, eq_self, *]
    | simp (disch := omega) only [getD_ints, wrapI]
    | (with_reducible refine wdW_cons ?_ ?_; (next => simp [chk, foot, compatB, argsOf, St.get, target, ev, look, lidsL, hget, kind, AOp.isRaw, wids, wtops, tops, opds, topId, plainR_sk, y6, y7]; done))
    | omega)
  refine wcallX_E1 h22.1 rfl (by simp [plainL, plain, plainR_sk]) hp (rfy_plain _ hp 2) ?_
  intro v4 H5 hx5 hv4
  obtain ⟨q8, g8⟩ := hx5.cell g6
  obtain ⟨q9, g9⟩ := hx5.cell g7
  have y8 := (List.getElem?_eq_some_iff.1 g8).1
  have y9 := (List.getElem?_eq_some_iff.1 g9).1
  clear hx5
  repeat' (first
    | ((with_reducible refine T_calm ?_ ?_); rfl)
    | with_reducible first
      | refine T_seq ?_
      | refine T_reg ?_
      | refine T_draw ?_
      | refine T_skip ?_
      | refine T_exit ?_
      | refine T_block ?_
      | refine T_cond_t rfl ?_
      | refine T_cond_f rfl ?_
      | refine wdW_cons rfl ?_
      | ((first | refine T_cond rfl (fun hc => ?_) (fun hc => ?_) | refine wguard_split (fun hc => ?_) (fun hc => ?_) | refine wguardX_split (fun hc => ?_) (fun hc => ?_)) <;> have hd := hc <;> (try simp (disch := omega) only [wrapI] at hd) <;> have hs := hd <;> (try simp only [Bool.not_eq_true', Bool.not_eq_false', Bool.and_eq_true, Bool.and_eq_false_iff, Bool.or_eq_true, Bool.or_eq_false_iff, decide_eq_true_eq, decide_eq_false_iff_not, beq_iff_eq, bne_iff_ne, beq_eq_false_iff_ne, bne_eq_false_iff_eq, Bool.not_true, Bool.not_false, gt_iff_lt, ge_iff_le, Int.not_lt, Int.not_le, ne_eq, Decidable.not_not] at hd) <;> (try simp at hs))
      | refine T_ret ?_
      | refine leave_of (.inr rfl) _ rfl ?_
      | refine leave_of (.inl rfl) _ rfl ?_
      | refine leaveA_of (.inr rfl) _ rfl ?_
      | refine leaveA_of (.inl rfl) _ rfl ?_
      | refine wif_intro ?_ (fun hc => ?_)
      | refine And.intro ?_ ?_
      | intro hc
    | simp (maxSteps := 4000000) only [wrun_load, wrunX_load, wstepX_none, wrunX_call, wop, aop, ev, look, put_some, writes, ores_some, value, cut, hget, toLits, mkAgg, List.map_cons, List.map_nil, List.length_cons, List.length_nil, List.take_succ_cons, List.take_nil, List.drop_zero, List.getD_cons_zero, Option.getD_some, Option.map_some, if_true, if_false, Nat.reduceEqDiff, Nat.reduceAdd, Nat.zero_add, reduceCtorEq, eq_self, *]
    | simp (disch := omega) only [getD_ints, wrapI]
    | (with_reducible refine wdW_cons ?_ ?_; (next => simp [chk, foot, compatB, argsOf, St.get, target, ev, look, lidsL, kind, AOp.isRaw, wids, tops, opds, topId, y7]; done))
    | omega)
  refine wcallX_E1 h24.1 rfl (by simp [plainL, plain]) (by simp [plain, plainL]) (rfy_plain _ (by simp [plain, plainL]) 2) ?_
  intro v5 H6 hx6 hv5
  obtain ⟨qa, ga⟩ := hx6.cell g8
  obtain ⟨qb, gb⟩ := hx6.cell g9
  have ya := (List.getElem?_eq_some_iff.1 ga).1
  have yb := (List.getElem?_eq_some_iff.1 gb).1
  replace hv4 := hv4.ext hx6
  clear hx6
  repeat' (first
    | ((with_reducible refine T_calm ?_ ?_); rfl)
    | with_reducible first
      | refine T_seq ?_
      | refine T_reg ?_
      | refine T_draw ?_
      | refine T_skip ?_
      | refine T_exit ?_
      | refine T_block ?_
      | refine T_cond_t rfl ?_
      | refine T_cond_f rfl ?_
      | refine wdW_cons rfl ?_
      | ((first | refine T_cond rfl (fun hc => ?_) (fun hc => ?_) | refine wguard_split (fun hc => ?_) (fun hc => ?_) | refine wguardX_split (fun hc => ?_) (fun hc => ?_)) <;> have hd := hc <;> (try simp (disch := omega) only [wrapI] at hd) <;> have hs := hd <;> (try simp only [Bool.not_eq_true', Bool.not_eq_false', Bool.and_eq_true, Bool.and_eq_false_iff, Bool.or_eq_true, Bool.or_eq_false_iff, decide_eq_true_eq, decide_eq_false_iff_not, beq_iff_eq, bne_iff_ne, beq_eq_false_iff_ne, bne_eq_false_iff_eq, Bool.not_true, Bool.not_false, gt_iff_lt, ge_iff_le, Int.not_lt, Int.not_le, ne_eq, Decidable.not_not] at hd) <;> (try simp at hs))
      | refine T_ret ?_
      | refine leave_of (.inr rfl) _ rfl ?_
      | refine leave_of (.inl rfl) _ rfl ?_
      | refine leaveA_of (.inr rfl) _ rfl ?_
      | refine leaveA_of (.inl rfl) _ rfl ?_
      | refine wif_intro ?_ (fun hc => ?_)
      | refine And.intro ?_ ?_
      | intro hc
    | simp (maxSteps := 4000000) only [wstepX_none, wrunX_call, ev, look, put_some, List.map_cons, List.map_nil, if_true, if_false, Nat.reduceEqDiff, reduceCtorEq, eq_self, *]
    | simp (disch := omega) only [getD_ints, wrapI]
    | (with_reducible refine wdW_cons ?_ ?_; (next => simp [chk, foot, compatB, argsOf, St.get, target, ev, look, lidsL, hget, kind, AOp.isRaw, wids, wtops, tops, opds, topId, plainR_sk, y6, y7, y8, y9, ya, yb]; done))
    | omega)
  refine wcallX_E2 h37.1 (rL2 hv4 hv5 (by omega) (by omega)) (by simp [plainL, plain, hp]) (by simp [plainL, plain, plainR_outR]) ⟨rfy_plain _ (v := .sl false 2 (outR W den n)) (plainR_outR W den n) 1, rfl⟩ ?_
  intro v6 v7 H7 hx7 h6 h7
  have := h7.lit; subst this
  replace h6 := And.intro h6 trivial
  obtain ⟨qc, gc⟩ := hx7.cell ga
  obtain ⟨qd, gd⟩ := hx7.cell gb
  have yc := (List.getElem?_eq_some_iff.1 gc).1
  have yd := (List.getElem?_eq_some_iff.1 gd).1
  clear hx7 h7 hv4 hv5 g6 g7 g8 g9 ga gb h22 h24 h37 y6 y7 y8 y9 ya yb
  repeat' (first
    | ((with_reducible refine T_calm ?_ ?_); rfl)
    | with_reducible first
      | refine T_seq ?_
      | refine T_reg ?_
      | refine T_draw ?_
      | refine T_skip ?_
      | refine T_exit ?_
      | refine T_block ?_
      | refine T_cond_t rfl ?_
      | refine T_cond_f rfl ?_
      | refine wdW_cons rfl ?_
      | ((first | refine T_cond rfl (fun hc => ?_) (fun hc => ?_) | refine wguard_split (fun hc => ?_) (fun hc => ?_) | refine wguardX_split (fun hc => ?_) (fun hc => ?_)) <;> have hd := hc <;> (try simp (disch := omega) only [wrapI] at hd) <;> have hs := hd <;> (try simp only [Bool.not_eq_true', Bool.not_eq_false', Bool.and_eq_true, Bool.and_eq_false_iff, Bool.or_eq_true, Bool.or_eq_false_iff, decide_eq_true_eq, decide_eq_false_iff_not, beq_iff_eq, bne_iff_ne, beq_eq_false_iff_ne, bne_eq_false_iff_eq, Bool.not_true, Bool.not_false, gt_iff_lt, ge_iff_le, Int.not_lt, Int.not_le, ne_eq, Decidable.not_not] at hd) <;> (try simp at hs))
      | refine T_ret ?_
      | refine leave_of (.inr rfl) _ rfl ?_
      | refine leave_of (.inl rfl) _ rfl ?_
      | refine leaveA_of (.inr rfl) _ rfl ?_
      | refine leaveA_of (.inl rfl) _ rfl ?_
      | refine wif_intro ?_ (fun hc => ?_)
      | refine And.intro ?_ ?_
      | intro hc
    | simp (maxSteps := 4000000) only [wops_cons, wstep_none, wrun_call, wrun_mv, wrun_ext, wrunX_mv, wrunX_ext, wdW_nil, wstepX_none, wop, aop, ev, look, put_some, writes, ores_some, thenK, List.map_cons, List.map_nil, List.getElem?_cons_zero, List.getElem?_cons_succ, List.append_nil, List.replicate_zero, Option.map_some, if_true, if_false, Nat.reduceEqDiff, reduceCtorEq, eq_self, *]
    | simp (disch := omega) only [getD_ints, wrapI]
    | (with_reducible refine wdW_cons ?_ ?_; (next => simp [chk, foot, compatB, argsOf, St.get, target, ev, look, lidsL, hget, kind, AOp.isRaw, wids, wtops, tops, opds, topId, plainR_sk, yc, yd]; done))
    | omega)
  refine wcall_E0 h38.1 rfl rfl (by simp [plainL, plain, plainR_sk]) ?_
  intro H8 hx8
  obtain ⟨qe, ge⟩ := hx8.cell gc
  obtain ⟨qf, gf⟩ := hx8.cell gd
  replace h6 := And.intro (h6.1.ext hx8) trivial
  clear hx8 h38 gc gd yc yd
  have h39' := h39.down hs0
  subst hs0 hR0
  clear h39
  replace h39' := And.intro h39' trivial
  repeat' (first
    | ((with_reducible refine T_calm ?_ ?_); rfl)
    | with_reducible first
      | refine T_seq ?_
      | refine T_reg ?_
      | refine T_draw ?_
      | refine T_skip ?_
      | refine T_exit ?_
      | refine T_block ?_
      | refine T_cond_t rfl ?_
      | refine T_cond_f rfl ?_
      | refine wdW_cons rfl ?_
      | ((first | refine T_cond rfl (fun hc => ?_) (fun hc => ?_) | refine wguard_split (fun hc => ?_) (fun hc => ?_) | refine wguardX_split (fun hc => ?_) (fun hc => ?_)) <;> have hd := hc <;> (try simp (disch := omega) only [wrapI] at hd) <;> have hs := hd <;> (try simp only [Bool.not_eq_true', Bool.not_eq_false', Bool.and_eq_true, Bool.and_eq_false_iff, Bool.or_eq_true, Bool.or_eq_false_iff, decide_eq_true_eq, decide_eq_false_iff_not, beq_iff_eq, bne_iff_ne, beq_eq_false_iff_ne, bne_eq_false_iff_eq, Bool.not_true, Bool.not_false, gt_iff_lt, ge_iff_le, Int.not_lt, Int.not_le, ne_eq, Decidable.not_not] at hd) <;> (try simp at hs))
      | refine T_ret ?_
      | refine leave_of (.inr rfl) _ rfl ?_
      | refine leave_of (.inl rfl) _ rfl ?_
      | refine leaveA_of (.inr rfl) _ rfl ?_
      | refine leaveA_of (.inl rfl) _ rfl ?_
      | refine wif_intro ?_ (fun hc => ?_)
      | refine And.intro ?_ ?_
      | intro hc
    | simp (maxSteps := 4000000) only [wops_nil, wops_cons, wstep_none, wrun_call, wrun_mv, wrun_bin, wrun_ext, wrun_load, wop, aop, ev, look, put_some, writes, ores_some, binV, thenK, value, cut, hget, toLits, mkAgg, List.map_cons, List.map_nil, List.length_cons, List.length_nil, List.getElem?_cons_zero, List.getElem?_cons_succ, List.take_succ_cons, List.take_nil, List.drop_zero, List.append_nil, List.replicate_zero, List.getD_cons_zero, Option.getD_some, Option.map_some, if_true, if_false, Nat.reduceEqDiff, Nat.reduceAdd, Nat.zero_add, reduceCtorEq, eq_self, beq_self_eq_true, *]
    | simp (disch := omega) only [getD_ints, wrapI]
    | omega)
  refine wcall_E0 h39'.1 rfl (rL2 (rds_plain (d := 0) (v := sts nil l) (plainR_sk l)) (rds_plain (d := 0) (v := plV np mi den) (by simp [plain, plainL])) (by omega) (by omega)) (by simp [plainL, plain, plainR_sk]) ?_
  intro Hb hxb
  obtain ⟨qi, ge1⟩ := hxb.cell ge
  obtain ⟨qj, gf1⟩ := hxb.cell gf
  replace h6 := And.intro (h6.1.ext hxb) trivial
  clear hxb h39' ge gf
  repeat' (first
    | ((with_reducible refine T_calm ?_ ?_); rfl)
    | with_reducible first
      | refine T_seq ?_
      | refine T_reg ?_
      | refine T_draw ?_
      | refine T_skip ?_
      | refine T_exit ?_
      | refine T_block ?_
      | refine T_cond_t rfl ?_
      | refine T_cond_f rfl ?_
      | refine wdW_cons rfl ?_
      | ((first | refine T_cond rfl (fun hc => ?_) (fun hc => ?_) | refine wguard_split (fun hc => ?_) (fun hc => ?_) | refine wguardX_split (fun hc => ?_) (fun hc => ?_)) <;> have hd := hc <;> (try simp (disch := omega) only [wrapI] at hd) <;> have hs := hd <;> (try simp only [Bool.not_eq_true', Bool.not_eq_false', Bool.and_eq_true, Bool.and_eq_false_iff, Bool.or_eq_true, Bool.or_eq_false_iff, decide_eq_true_eq, decide_eq_false_iff_not, beq_iff_eq, bne_iff_ne, beq_eq_false_iff_ne, bne_eq_false_iff_eq, Bool.not_true, Bool.not_false, gt_iff_lt, ge_iff_le, Int.not_lt, Int.not_le, ne_eq, Decidable.not_not] at hd) <;> (try simp at hs))
      | refine T_ret ?_
      | refine leave_of (.inr rfl) _ rfl ?_
      | refine leave_of (.inl rfl) _ rfl ?_
      | refine leaveA_of (.inr rfl) _ rfl ?_
      | refine leaveA_of (.inl rfl) _ rfl ?_
      | refine wif_intro ?_ (fun hc => ?_)
      | refine And.intro ?_ ?_
      | intro hc
    | simp (maxSteps := 4000000) only [wops_nil, wops_cons, wstep_none, wstep_some, wguard_true, wguard_ff, wguard_ft, wguard_undef, wrun_call, wrun_mv, wrun_pick, wrun_bin, wrun_load, wop, aop, ev, look, put_some, writes, ores_some, binV, thenK, value, cut, hget, toLits, mkAgg, List.map_cons, List.map_nil, List.length_cons, List.length_nil, List.take_succ_cons, List.take_nil, List.drop_zero, List.append_nil, List.replicate_zero, List.getD_cons_zero, Option.getD_some, Option.map_some, if_true, if_false, Nat.reduceEqDiff, Nat.reduceAdd, Nat.zero_add, reduceCtorEq, Bool.false_eq_true, eq_self, beq_self_eq_true, *]
    | simp (disch := omega) only [getD_ints, wrapI]
    | omega)
  refine wcall_E1 h41.1 (rL2 (rds_plain (d := 0) (v := sts nil l) (plainR_sk l)) (rds_plain (d := 0) (v := plV np mi den) (by simp [plain, plainL])) (by omega) (by omega)) (by simp [plainL, plain, plainR_sk]) ?_
  intro v8 Hc hxc hv8
  obtain ⟨qk, ge2⟩ := hxc.cell ge1
  obtain ⟨ql, gf2⟩ := hxc.cell gf1
  replace h6 := And.intro (h6.1.ext hxc) trivial
  clear hxc h41 ge1 gf1
  repeat' (first
    | ((with_reducible refine T_calm ?_ ?_); rfl)
    | with_reducible first
      | refine T_seq ?_
      | refine T_reg ?_
      | refine T_draw ?_
      | refine T_skip ?_
      | refine T_exit ?_
      | refine T_block ?_
      | refine T_cond_t rfl ?_
      | refine T_cond_f rfl ?_
      | refine wdW_cons rfl ?_
      | ((first | refine T_cond rfl (fun hc => ?_) (fun hc => ?_) | refine wguard_split (fun hc => ?_) (fun hc => ?_) | refine wguardX_split (fun hc => ?_) (fun hc => ?_)) <;> have hd := hc <;> (try simp (disch := omega) only [wrapI] at hd) <;> have hs := hd <;> (try simp only [Bool.not_eq_true', Bool.not_eq_false', Bool.and_eq_true, Bool.and_eq_false_iff, Bool.or_eq_true, Bool.or_eq_false_iff, decide_eq_true_eq, decide_eq_false_iff_not, beq_iff_eq, bne_iff_ne, beq_eq_false_iff_ne, bne_eq_false_iff_eq, Bool.not_true, Bool.not_false, gt_iff_lt, ge_iff_le, Int.not_lt, Int.not_le, ne_eq, Decidable.not_not] at hd) <;> (try simp at hs))
      | refine T_ret ?_
      | refine leave_of (.inr rfl) _ rfl ?_
      | refine leave_of (.inl rfl) _ rfl ?_
      | refine leaveA_of (.inr rfl) _ rfl ?_
      | refine leaveA_of (.inl rfl) _ rfl ?_
      | refine wif_intro ?_ (fun hc => ?_)
      | refine And.intro ?_ ?_
      | intro hc
    | simp (maxSteps := 4000000) only [wops_cons, wstep_some, wguard_ff, wrun_call, ev, look, put_some, List.map_cons, List.map_nil, if_true, if_false, Nat.reduceEqDiff, reduceCtorEq, eq_self, *]
    | simp (disch := omega) only [getD_ints, wrapI]
    | omega)
  refine wcall_E0 h40.1 rfl (rL2 h6.1 hv8 (by omega) (by omega)) (by simp [plainL, plain, plainR_outR]) ?_
  intro Hd hxd
  obtain ⟨qm, ge0⟩ := hxd.cell ge2
  obtain ⟨qn, gf0⟩ := hxd.cell gf2
  clear hxd h40 ge2 gf2 h6 hv8
  repeat' (first
    | ((with_reducible refine T_calm ?_ ?_); rfl)
    | with_reducible first
      | refine T_seq ?_
      | refine T_reg ?_
      | refine T_draw ?_
      | refine T_skip ?_
      | refine T_exit ?_
      | refine T_block ?_
      | refine T_cond_t rfl ?_
      | refine T_cond_f rfl ?_
      | refine wdW_cons rfl ?_
      | ((first | refine T_cond rfl (fun hc => ?_) (fun hc => ?_) | refine wguard_split (fun hc => ?_) (fun hc => ?_) | refine wguardX_split (fun hc => ?_) (fun hc => ?_)) <;> have hd := hc <;> (try simp (disch := omega) only [wrapI] at hd) <;> have hs := hd <;> (try simp only [Bool.not_eq_true', Bool.not_eq_false', Bool.and_eq_true, Bool.and_eq_false_iff, Bool.or_eq_true, Bool.or_eq_false_iff, decide_eq_true_eq, decide_eq_false_iff_not, beq_iff_eq, bne_iff_ne, beq_eq_false_iff_ne, bne_eq_false_iff_eq, Bool.not_true, Bool.not_false, gt_iff_lt, ge_iff_le, Int.not_lt, Int.not_le, ne_eq, Decidable.not_not] at hd) <;> (try simp at hs))
      | refine T_ret ?_
      | refine leave_of (.inr rfl) _ rfl ?_
      | refine leave_of (.inl rfl) _ rfl ?_
      | refine leaveA_of (.inr rfl) _ rfl ?_
      | refine leaveA_of (.inl rfl) _ rfl ?_
      | refine wif_intro ?_ (fun hc => ?_)
      | refine And.intro ?_ ?_
      | intro hc
    | simp (maxSteps := 4000000) only [wops_nil, wops_cons, wstep_none, wstep_some, wguard_true, wguard_ff, wrun_call, wrun_mv, wrun_pick, wrun_not, wrun_load, wop, aop, ev, look, put_some, writes, ores_some, thenK, boolV, value, cut, hget, toLits, mkAgg, List.map_cons, List.map_nil, List.length_cons, List.length_nil, List.take_succ_cons, List.take_nil, List.drop_zero, List.append_nil, List.replicate_zero, List.getD_cons_zero, Option.getD_some, Option.map_some, if_true, if_false, Nat.reduceEqDiff, Nat.reduceAdd, Nat.zero_add, reduceCtorEq, Bool.not_true, Bool.false_eq_true, eq_self, *]
    | simp (disch := omega) only [getD_ints, wrapI]
    | omega)
  refine wcall_E0 h26.1 rfl (rL2 (rds_plain (d := 0) (v := sts nil l) (plainR_sk l)) (rds_plain (d := 0) (v := dmV n1 lo n2 hi) (by simp [plain, plainL])) (by omega) (by omega)) (by simp [plainL, plain, plainR_sk]) ?_
  intro H9 hx9
  obtain ⟨qg, gg⟩ := hx9.cell ge0
  obtain ⟨qh, gh⟩ := hx9.cell gf0
  clear hx9 h26 ge0 gf0
  by_cases hD0 : D = 0
  · subst hD0
    have h42' := h42.down rfl
    clear h42 hD
    replace h42' := And.intro h42' trivial
    repeat' (first
      | ((with_reducible refine T_calm ?_ ?_); rfl)
      | with_reducible first
        | refine T_seq ?_
        | refine T_reg ?_
        | refine T_draw ?_
        | refine T_skip ?_
        | refine T_exit ?_
        | refine T_block ?_
        | refine T_cond_t rfl ?_
        | refine T_cond_f rfl ?_
        | refine wdW_cons rfl ?_
        | ((first | refine T_cond rfl (fun hc => ?_) (fun hc => ?_) | refine wguard_split (fun hc => ?_) (fun hc => ?_) | refine wguardX_split (fun hc => ?_) (fun hc => ?_)) <;> have hd := hc <;> (try simp (disch := omega) only [wrapI] at hd) <;> have hs := hd <;> (try simp only [Bool.not_eq_true', Bool.not_eq_false', Bool.and_eq_true, Bool.and_eq_false_iff, Bool.or_eq_true, Bool.or_eq_false_iff, decide_eq_true_eq, decide_eq_false_iff_not, beq_iff_eq, bne_iff_ne, beq_eq_false_iff_ne, bne_eq_false_iff_eq, Bool.not_true, Bool.not_false, gt_iff_lt, ge_iff_le, Int.not_lt, Int.not_le, ne_eq, Decidable.not_not] at hd) <;> (try simp at hs))
        | refine T_ret ?_
        | refine leave_of (.inr rfl) _ rfl ?_
        | refine leave_of (.inl rfl) _ rfl ?_
        | refine leaveA_of (.inr rfl) _ rfl ?_
        | refine leaveA_of (.inl rfl) _ rfl ?_
        | refine wif_intro ?_ (fun hc => ?_)
        | refine And.intro ?_ ?_
        | intro hc
      | simp (maxSteps := 4000000) only [wops_nil, wops_cons, wstep_none, wrun_call, wrun_mv, wrun_bin, wrun_load, wop, aop, ev, look, put_some, writes, ores_some, binV, thenK, value, cut, hget, toLits, mkAgg, List.map_cons, List.map_nil, List.length_cons, List.length_nil, List.take_succ_cons, List.take_nil, List.drop_zero, List.append_nil, List.replicate_zero, List.getD_cons_zero, Option.getD_some, Option.map_some, if_true, if_false, Nat.reduceEqDiff, Nat.reduceAdd, Nat.zero_add, reduceCtorEq, eq_self, beq_self_eq_true, *]
      | simp (disch := omega) only [getD_ints, wrapI]
      | omega)
    refine wcall_E0 h42'.1 rfl (rL3 (rds_plain (d := 0) (v := sts nil l) (plainR_sk l)) (rds_plain (d := 0) (v := dmV n1 lo n2 hi) (by simp [plain, plainL])) (rds_plain (d := 0) (v := plV np mi den) (by simp [plain, plainL])) (by omega) (by omega) (by omega)) (by simp [plainL, plain, plainR_sk]) ?_
    intro Ha hxa
    clear hxa h42' gg gh
    repeat' (first
      | ((with_reducible refine T_calm ?_ ?_); rfl)
      | with_reducible first
        | refine T_seq ?_
        | refine T_reg ?_
        | refine T_draw ?_
        | refine T_skip ?_
        | refine T_exit ?_
        | refine T_block ?_
        | refine T_cond_t rfl ?_
        | refine T_cond_f rfl ?_
        | refine wdW_cons rfl ?_
        | ((first | refine T_cond rfl (fun hc => ?_) (fun hc => ?_) | refine wguard_split (fun hc => ?_) (fun hc => ?_) | refine wguardX_split (fun hc => ?_) (fun hc => ?_)) <;> have hd := hc <;> (try simp (disch := omega) only [wrapI] at hd) <;> have hs := hd <;> (try simp only [Bool.not_eq_true', Bool.not_eq_false', Bool.and_eq_true, Bool.and_eq_false_iff, Bool.or_eq_true, Bool.or_eq_false_iff, decide_eq_true_eq, decide_eq_false_iff_not, beq_iff_eq, bne_iff_ne, beq_eq_false_iff_ne, bne_eq_false_iff_eq, Bool.not_true, Bool.not_false, gt_iff_lt, ge_iff_le, Int.not_lt, Int.not_le, ne_eq, Decidable.not_not] at hd) <;> (try simp at hs))
        | refine T_ret ?_
        | refine leave_of (.inr rfl) _ rfl ?_
        | refine leave_of (.inl rfl) _ rfl ?_
        | refine leaveA_of (.inr rfl) _ rfl ?_
        | refine leaveA_of (.inl rfl) _ rfl ?_
        | refine wif_intro ?_ (fun hc => ?_)
        | refine And.intro ?_ ?_
        | intro hc
      | simp (maxSteps := 4000000) only [wops_nil, wops_cons, wstep_none, wstep_some, wguard_true, wrun_mv, wrun_pick, wrun_bin, wrun_ext, get_mk, wop, aop, ev, look, put_some, writes, ores_some, binV, thenK, tupOf, List.getElem?_cons_zero, List.getElem?_cons_succ, List.append_nil, List.replicate_zero, Option.map_some, if_true, if_false, Nat.reduceEqDiff, reduceCtorEq, eq_self, beq_self_eq_true, ren, *]
      | simp (disch := omega) only [getD_ints, wrapI]
      | omega)
    all_goals first | rfl
  · obtain ⟨rfl, rfl⟩ := hD.down hD0
    have hD1 : (E == 0) = false := by simp only [beq_eq_false_iff_ne]; exact hD0
    clear h42 hD hD0 gg gh
    repeat' (first
      | ((with_reducible refine T_calm ?_ ?_); rfl)
      | with_reducible first
        | refine T_seq ?_
        | refine T_reg ?_
        | refine T_draw ?_
        | refine T_skip ?_
        | refine T_exit ?_
        | refine T_block ?_
        | refine T_cond_t rfl ?_
        | refine T_cond_f rfl ?_
        | refine wdW_cons rfl ?_
        | ((first | refine T_cond rfl (fun hc => ?_) (fun hc => ?_) | refine wguard_split (fun hc => ?_) (fun hc => ?_) | refine wguardX_split (fun hc => ?_) (fun hc => ?_)) <;> have hd := hc <;> (try simp (disch := omega) only [wrapI] at hd) <;> have hs := hd <;> (try simp only [Bool.not_eq_true', Bool.not_eq_false', Bool.and_eq_true, Bool.and_eq_false_iff, Bool.or_eq_true, Bool.or_eq_false_iff, decide_eq_true_eq, decide_eq_false_iff_not, beq_iff_eq, bne_iff_ne, beq_eq_false_iff_ne, bne_eq_false_iff_eq, Bool.not_true, Bool.not_false, gt_iff_lt, ge_iff_le, Int.not_lt, Int.not_le, ne_eq, Decidable.not_not] at hd) <;> (try simp at hs))
        | refine T_ret ?_
        | refine leave_of (.inr rfl) _ rfl ?_
        | refine leave_of (.inl rfl) _ rfl ?_
        | refine leaveA_of (.inr rfl) _ rfl ?_
        | refine leaveA_of (.inl rfl) _ rfl ?_
        | refine wif_intro ?_ (fun hc => ?_)
        | refine And.intro ?_ ?_
        | intro hc
      | simp (maxSteps := 4000000) only [wops_nil, wops_cons, wstep_none, wstep_some, wguard_true, wrun_mv, wrun_pick, wrun_bin, get_mk, wop, aop, ev, look, put_some, writes, ores_some, binV, thenK, tupOf, List.append_nil, List.replicate_zero, Option.map_some, if_true, if_false, Nat.reduceEqDiff, reduceCtorEq, eq_self, beq_self_eq_true, ren, *]
      | simp (disch := omega) only [getD_ints, wrapI]
      | omega)
    all_goals first | rfl

end Go.Abs
