import Derived.Test.YtpfmamngjefohaaK41x
import Derived.Test.YtpfmamngjefohaaK42x
import Derived.Test.YtpfmamngjefohaaK43x
set_option linter.all false
set_option linter.unusedVariables false
set_option linter.unusedSimpArgs false
set_option linter.unusedSectionVars false
namespace Go.Abs
open Go.Proofs
/-! GrindDeeper -/
set_option maxHeartbeats 8000000 in
theorem k3early (nil : Bool) (l : List Gr) (a b c e : Int) (r : Bool) (h14 : Fn Try.prog 14 [gts nil l] (bl r) []) (h : l.length > 6 ∨ r = false ∨ (decide ((0 : Int) ≤ c) && decide (c ≤ 1000)) = false ∨ (decide ((0 : Int) ≤ e) && decide (e ≤ 1000)) = false ∨ (decide ((0 : Int) ≤ a) && decide (a ≤ 1000000)) = false ∨ (decide ((0 : Int) ≤ b) && decide (b ≤ 1000000)) = false) : Fn Try.prog 3 [gts nil l, prV a b, prV c e] (bl true) [] := by
  refine fn_of e3 ?_
  have h13 := k13
  have hll := gR_len l
  have h15a := k15 a 0 1000000
  have h15b := k15 b 0 1000000
  have h15c := k15 c 0 1000
  have h15e := k15 e 0 1000
  generalize (decide ((0 : Int) ≤ a) && decide (a ≤ 1000000)) = ra at *
  generalize (decide ((0 : Int) ≤ b) && decide (b ≤ 1000000)) = rb at *
  generalize (decide ((0 : Int) ≤ c) && decide (c ≤ 1000)) = rc at *
  generalize (decide ((0 : Int) ≤ e) && decide (e ≤ 1000)) = re at *
  by_cases h6 : l.length > 6
  · have g3 : decide ((l.length : Int) > 6) = true := decide_eq_true (by omega)
    clear h h6
    unfold c3
    repeat' (first
      | ((with_reducible refine T_calm ?_ ?_); rfl)
      | with_reducible first
        | refine T_seq ?_
        | refine T_reg ?_
        | refine T_draw ?_
        | refine T_skip ?_
        | refine T_exit ?_
        | refine T_block ?_
        | refine T_cond_t rfl ?_
        | refine T_cond_f rfl ?_
        | refine wdW_cons rfl ?_
        | (show wcall _ false (.lit (.func (.func 13) _ _)) _ _ _ _; refine wcall_fn (h13) rfl (by simp [plainL]) ?_)
        | (show wcallX _ false (.lit (.func (.func 13) _ _)) _ _ _ _; refine wcallX_fn (h13) rfl (by simp [plainL, plain, plainR, plainR_gR]) ?_)
        | ((first | refine T_cond rfl (fun hc => ?_) (fun hc => ?_) | refine wguard_split (fun hc => ?_) (fun hc => ?_) | refine wguardX_split (fun hc => ?_) (fun hc => ?_)) <;> have hd := hc <;> (try simp (disch := omega) only [wrapI] at hd) <;> have hs := hd <;> (try simp only [Bool.not_eq_true', Bool.not_eq_false', Bool.and_eq_true, Bool.and_eq_false_iff, Bool.or_eq_true, Bool.or_eq_false_iff, decide_eq_true_eq, decide_eq_false_iff_not, beq_iff_eq, bne_iff_ne, beq_eq_false_iff_ne, bne_eq_false_iff_eq, Bool.not_true, Bool.not_false, gt_iff_lt, ge_iff_le, Int.not_lt, Int.not_le, ne_eq, Decidable.not_not] at hd) <;> (try simp at hs))
        | refine T_ret ?_
        | refine leave_of (.inr rfl) _ rfl ?_
        | refine leave_of (.inl rfl) _ rfl ?_
        | refine leaveA_of (.inr rfl) _ rfl ?_
        | refine leaveA_of (.inl rfl) _ rfl ?_
        | refine wif_intro ?_ (fun hc => ?_)
        | refine And.intro ?_ ?_
        | intro hc
      | simp (maxSteps := 4000000) only [wops_nil, wops_cons, wstep_none, wstep_some, wguard_tf, wrun_call, wrun_mv, wrun_pick, wrun_bin, wrun_not, wrun_len, wrun_box, get_mk, wop, aop, ev, look, put_some, writes, ores_some, ores_map, ores_bind, binV, thenK, boolV, intV, lenOf, hget, AV.parts, isOne, tupOf, ofValue_int, List.map_cons, List.map_nil, List.length_cons, List.length_nil, List.getElem?_cons_zero, List.getElem?_cons_succ, List.set_cons_zero, List.set_cons_succ, List.nil_append, List.append_nil, List.replicate_zero, List.replicate_succ, List.zipIdx_cons, List.zipIdx_nil, List.all_cons, List.all_nil, Option.pure_def, Option.bind_eq_bind, Option.map_some, if_true, if_false, Nat.reduceEqDiff, Nat.reduceAdd, Nat.add_zero, Nat.zero_add, Nat.zero_ne_one, reduceCtorEq, Bool.not_true, Bool.and_true, eq_self, true_and, and_self, freeze, lidsL, List.flatMap_nil, List.all_cons, ren, *]
      | simp (disch := omega) only [getD_ints, wrapI]
      | (with_reducible show wcall _ false (.lit (.func (.func 13) _ _)) _ _ _ _; refine wcall_fn (h13) ?_ ?_ ?_; (next => simp [rfyL, rfy, hget, ints, take_rfy, plainR_gR]); (next => simp [plainL, plain, plainR, plainR_gR]))
      | (with_reducible show wcallX _ false (.lit (.func (.func 13) _ _)) _ _ _ _; refine wcallX_fn (h13) ?_ ?_ ?_; (next => simp [rfyL, rfy, hget, ints, take_rfy, plainR_gR]); (next => simp [plainL, plain, plainR, plainR_gR]))
      | omega)
    all_goals first | rfl
  · have g3 : decide ((l.length : Int) > 6) = false := decide_eq_false (by omega)
    replace h := h.resolve_left h6
    clear h6
    cases r with
    | false =>
      clear h
      unfold c3
      repeat' (first
        | ((with_reducible refine T_calm ?_ ?_); rfl)
        | with_reducible first
          | refine T_seq ?_
          | refine T_reg ?_
          | refine T_draw ?_
          | refine T_skip ?_
          | refine T_exit ?_
          | refine T_block ?_
          | refine T_cond_t rfl ?_
          | refine T_cond_f rfl ?_
          | refine wdW_cons rfl ?_
          | (show wcall _ false (.lit (.func (.func 13) _ _)) _ _ _ _; refine wcall_fn (h13) rfl (by simp [plainL]) ?_)
          | (show wcallX _ false (.lit (.func (.func 13) _ _)) _ _ _ _; refine wcallX_fn (h13) rfl (by simp [plainL, plain, plainR, plainR_gR]) ?_)
          | (show wcall _ false (.lit (.func (.func 14) _ _)) _ _ _ _; refine wcall_fn (h14) rfl (by simp [plainL, plain, plainR_gR]) ?_)
          | (show wcallX _ false (.lit (.func (.func 14) _ _)) _ _ _ _; refine wcallX_fn (h14) rfl (by simp [plainL, plain, plainR, plainR_gR]) ?_)
          | ((first | refine T_cond rfl (fun hc => ?_) (fun hc => ?_) | refine wguard_split (fun hc => ?_) (fun hc => ?_) | refine wguardX_split (fun hc => ?_) (fun hc => ?_)) <;> have hd := hc <;> (try simp (disch := omega) only [wrapI] at hd) <;> have hs := hd <;> (try simp only [Bool.not_eq_true', Bool.not_eq_false', Bool.and_eq_true, Bool.and_eq_false_iff, Bool.or_eq_true, Bool.or_eq_false_iff, decide_eq_true_eq, decide_eq_false_iff_not, beq_iff_eq, bne_iff_ne, beq_eq_false_iff_ne, bne_eq_false_iff_eq, Bool.not_true, Bool.not_false, gt_iff_lt, ge_iff_le, Int.not_lt, Int.not_le, ne_eq, Decidable.not_not] at hd) <;> (try simp at hs))
          | refine T_ret ?_
          | refine leave_of (.inr rfl) _ rfl ?_
          | refine leave_of (.inl rfl) _ rfl ?_
          | refine leaveA_of (.inr rfl) _ rfl ?_
          | refine leaveA_of (.inl rfl) _ rfl ?_
          | refine wif_intro ?_ (fun hc => ?_)
          | refine And.intro ?_ ?_
          | intro hc
        | simp (maxSteps := 4000000) only [wops_nil, wops_cons, wstep_none, wstep_some, wguard_ff, wguard_tf, wrun_call, wrun_mv, wrun_pick, wrun_bin, wrun_not, wrun_len, wrun_box, get_mk, wop, aop, ev, look, put_some, writes, ores_some, ores_map, ores_bind, binV, thenK, boolV, intV, lenOf, hget, AV.parts, isOne, tupOf, ofValue_int, List.map_cons, List.map_nil, List.length_cons, List.length_nil, List.getElem?_cons_zero, List.getElem?_cons_succ, List.set_cons_zero, List.set_cons_succ, List.nil_append, List.append_nil, List.replicate_zero, List.replicate_succ, List.zipIdx_cons, List.zipIdx_nil, List.all_cons, List.all_nil, Option.pure_def, Option.bind_eq_bind, Option.map_some, if_true, if_false, Nat.reduceEqDiff, Nat.reduceAdd, Nat.add_zero, Nat.zero_add, Nat.zero_ne_one, reduceCtorEq, Bool.not_true, Bool.not_false, Bool.and_true, Bool.false_eq_true, eq_self, true_and, and_self, freeze, lidsL, lids, List.flatMap_cons, List.flatMap_nil, List.all_cons, ren, *]
        | simp (disch := omega) only [getD_ints, wrapI]
        | (with_reducible show wcall _ false (.lit (.func (.func 13) _ _)) _ _ _ _; refine wcall_fn (h13) ?_ ?_ ?_; (next => simp [rfyL, rfy, hget, ints, take_rfy, plainR_gR]); (next => simp [plainL, plain, plainR, plainR_gR]))
        | (with_reducible show wcallX _ false (.lit (.func (.func 13) _ _)) _ _ _ _; refine wcallX_fn (h13) ?_ ?_ ?_; (next => simp [rfyL, rfy, hget, ints, take_rfy, plainR_gR]); (next => simp [plainL, plain, plainR, plainR_gR]))
        | (with_reducible show wcall _ false (.lit (.func (.func 14) _ _)) _ _ _ _; refine wcall_fn (h14) ?_ ?_ ?_; (next => simp [rfyL, rfy, hget, ints, take_rfy, plainR_gR]); (next => simp [plainL, plain, plainR, plainR_gR]))
        | (with_reducible show wcallX _ false (.lit (.func (.func 14) _ _)) _ _ _ _; refine wcallX_fn (h14) ?_ ?_ ?_; (next => simp [rfyL, rfy, hget, ints, take_rfy, plainR_gR]); (next => simp [plainL, plain, plainR, plainR_gR]))
        | omega)
      all_goals first | rfl
    | true =>
      replace h := h.resolve_left (by simp)
      cases rc with
      | false =>
        clear h
        unfold c3
        repeat' (first
          | ((with_reducible refine T_calm ?_ ?_); rfl)
          | with_reducible first
            | refine T_seq ?_
            | refine T_reg ?_
            | refine T_draw ?_
            | refine T_skip ?_
            | refine T_exit ?_
            | refine T_block ?_
            | refine T_cond_t rfl ?_
            | refine T_cond_f rfl ?_
            | refine wdW_cons rfl ?_
            | (show wcall _ false (.lit (.func (.func 13) _ _)) _ _ _ _; refine wcall_fn (h13) rfl (by simp [plainL]) ?_)
            | (show wcallX _ false (.lit (.func (.func 13) _ _)) _ _ _ _; refine wcallX_fn (h13) rfl (by simp [plainL, plain, plainR, plainR_gR, Int.toNat_zero, Int.toNat_one]) ?_)
            | (show wcall _ false (.lit (.func (.func 14) _ _)) _ _ _ _; refine wcall_fn (h14) rfl (by simp [plainL, plain, plainR_gR]) ?_)
            | (show wcallX _ false (.lit (.func (.func 14) _ _)) _ _ _ _; refine wcallX_fn (h14) rfl (by simp [plainL, plain, plainR, plainR_gR, Int.toNat_zero, Int.toNat_one]) ?_)
            | (show wcall _ false (.lit (.func (.func 15) _ _)) _ _ _ _; refine wcall_fn (h15c) rfl (by simp [plainL, plain]) ?_)
            | (show wcallX _ false (.lit (.func (.func 15) _ _)) _ _ _ _; refine wcallX_fn (h15c) rfl (by simp [plainL, plain, plainR, plainR_gR, Int.toNat_zero, Int.toNat_one]) ?_)
            | ((first | refine T_cond rfl (fun hc => ?_) (fun hc => ?_) | refine wguard_split (fun hc => ?_) (fun hc => ?_) | refine wguardX_split (fun hc => ?_) (fun hc => ?_)) <;> have hd := hc <;> (try simp (disch := omega) only [wrapI] at hd) <;> have hs := hd <;> (try simp only [Bool.not_eq_true', Bool.not_eq_false', Bool.and_eq_true, Bool.and_eq_false_iff, Bool.or_eq_true, Bool.or_eq_false_iff, decide_eq_true_eq, decide_eq_false_iff_not, beq_iff_eq, bne_iff_ne, beq_eq_false_iff_ne, bne_eq_false_iff_eq, Bool.not_true, Bool.not_false, gt_iff_lt, ge_iff_le, Int.not_lt, Int.not_le, ne_eq, Decidable.not_not] at hd) <;> (try simp at hs))
            | refine T_ret ?_
            | refine leave_of (.inr rfl) _ rfl ?_
            | refine leave_of (.inl rfl) _ rfl ?_
            | refine leaveA_of (.inr rfl) _ rfl ?_
            | refine leaveA_of (.inl rfl) _ rfl ?_
            | refine wif_intro ?_ (fun hc => ?_)
            | refine And.intro ?_ ?_
            | intro hc
          | simp (maxSteps := 4000000) only [wops_nil, wops_cons, wstep_none, wstep_some, wguard_ff, wguard_tf, wrun_call, wrun_mv, wrun_pick, wrun_bin, wrun_not, wrun_load, wrun_iaddrA, wrun_len, wrun_box, get_mk, wop, aop, ev, look, put_some, writes, ores_some, ores_ite_none, ores_map, ores_bind, binV, thenK, boolV, intV, lenOf, value, cut, hget, AV.parts, isOne, mkAgg, tupOf, ofValue_int, List.map_cons, List.map_nil, List.length_cons, List.length_nil, List.getElem?_cons_zero, List.getElem?_cons_succ, List.set_cons_zero, List.set_cons_succ, List.take_succ_cons, List.take_zero, List.drop_zero, List.nil_append, List.append_nil, List.replicate_zero, List.replicate_succ, List.getD_cons_zero, List.zipIdx_cons, List.zipIdx_nil, List.all_cons, List.all_nil, Option.pure_def, Option.bind_eq_bind, Option.getD_some, Option.map_some, if_true, if_false, Nat.reduceEqDiff, Nat.reduceAdd, Nat.add_zero, Nat.zero_add, Nat.mul_one, Nat.zero_ne_one, reduceCtorEq, Bool.not_true, Bool.not_false, Bool.and_true, Bool.false_eq_true, eq_self, true_and, and_self, freeze, lidsL, lids, List.flatMap_cons, List.flatMap_nil, List.all_cons, ren, Int.toNat_zero, *]
          | simp (disch := omega) only [getD_ints, wrapI]
          | (with_reducible show wcall _ false (.lit (.func (.func 13) _ _)) _ _ _ _; refine wcall_fn (h13) ?_ ?_ ?_; (next => simp [rfyL, rfy, hget, ints, take_rfy, plainR_gR, Int.toNat_zero, Int.toNat_one]); (next => simp [plainL, plain, plainR, plainR_gR, Int.toNat_zero, Int.toNat_one]))
          | (with_reducible show wcallX _ false (.lit (.func (.func 13) _ _)) _ _ _ _; refine wcallX_fn (h13) ?_ ?_ ?_; (next => simp [rfyL, rfy, hget, ints, take_rfy, plainR_gR, Int.toNat_zero, Int.toNat_one]); (next => simp [plainL, plain, plainR, plainR_gR, Int.toNat_zero, Int.toNat_one]))
          | (with_reducible show wcall _ false (.lit (.func (.func 14) _ _)) _ _ _ _; refine wcall_fn (h14) ?_ ?_ ?_; (next => simp [rfyL, rfy, hget, ints, take_rfy, plainR_gR, Int.toNat_zero, Int.toNat_one]); (next => simp [plainL, plain, plainR, plainR_gR, Int.toNat_zero, Int.toNat_one]))
          | (with_reducible show wcallX _ false (.lit (.func (.func 14) _ _)) _ _ _ _; refine wcallX_fn (h14) ?_ ?_ ?_; (next => simp [rfyL, rfy, hget, ints, take_rfy, plainR_gR, Int.toNat_zero, Int.toNat_one]); (next => simp [plainL, plain, plainR, plainR_gR, Int.toNat_zero, Int.toNat_one]))
          | (with_reducible show wcall _ false (.lit (.func (.func 15) _ _)) _ _ _ _; refine wcall_fn (h15c) ?_ ?_ ?_; (next => simp [rfyL, rfy, hget, ints, take_rfy, plainR_gR, Int.toNat_zero, Int.toNat_one]); (next => simp [plainL, plain, plainR, plainR_gR, Int.toNat_zero, Int.toNat_one]))
          | (with_reducible show wcallX _ false (.lit (.func (.func 15) _ _)) _ _ _ _; refine wcallX_fn (h15c) ?_ ?_ ?_; (next => simp [rfyL, rfy, hget, ints, take_rfy, plainR_gR, Int.toNat_zero, Int.toNat_one]); (next => simp [plainL, plain, plainR, plainR_gR, Int.toNat_zero, Int.toNat_one]))
          | omega)
        all_goals first | rfl
      | true =>
        replace h := h.resolve_left (by simp)
        cases re with
        | false =>
          clear h
          unfold c3
          repeat' (first
            | ((with_reducible refine T_calm ?_ ?_); rfl)
            | with_reducible first
              | refine T_seq ?_
              | refine T_reg ?_
              | refine T_draw ?_
              | refine T_skip ?_
              | refine T_exit ?_
              | refine T_block ?_
              | refine T_cond_t rfl ?_
              | refine T_cond_f rfl ?_
              | refine wdW_cons rfl ?_
              | (show wcall _ false (.lit (.func (.func 13) _ _)) _ _ _ _; refine wcall_fn (h13) rfl (by simp [plainL]) ?_)
              | (show wcallX _ false (.lit (.func (.func 13) _ _)) _ _ _ _; refine wcallX_fn (h13) rfl (by simp [plainL, plain, plainR, plainR_gR, Int.toNat_zero, Int.toNat_one]) ?_)
              | (show wcall _ false (.lit (.func (.func 14) _ _)) _ _ _ _; refine wcall_fn (h14) rfl (by simp [plainL, plain, plainR_gR]) ?_)
              | (show wcallX _ false (.lit (.func (.func 14) _ _)) _ _ _ _; refine wcallX_fn (h14) rfl (by simp [plainL, plain, plainR, plainR_gR, Int.toNat_zero, Int.toNat_one]) ?_)
              | (show wcall _ false (.lit (.func (.func 15) _ _)) _ _ _ _; refine wcall_fn (h15c) rfl (by simp [plainL, plain]) ?_)
              | (show wcallX _ false (.lit (.func (.func 15) _ _)) _ _ _ _; refine wcallX_fn (h15c) rfl (by simp [plainL, plain, plainR, plainR_gR, Int.toNat_zero, Int.toNat_one]) ?_)
              | (show wcall _ false (.lit (.func (.func 15) _ _)) _ _ _ _; refine wcall_fn (h15e) rfl (by simp [plainL, plain]) ?_)
              | (show wcallX _ false (.lit (.func (.func 15) _ _)) _ _ _ _; refine wcallX_fn (h15e) rfl (by simp [plainL, plain, plainR, plainR_gR, Int.toNat_zero, Int.toNat_one]) ?_)
              | ((first | refine T_cond rfl (fun hc => ?_) (fun hc => ?_) | refine wguard_split (fun hc => ?_) (fun hc => ?_) | refine wguardX_split (fun hc => ?_) (fun hc => ?_)) <;> have hd := hc <;> (try simp (disch := omega) only [wrapI] at hd) <;> have hs := hd <;> (try simp only [Bool.not_eq_true', Bool.not_eq_false', Bool.and_eq_true, Bool.and_eq_false_iff, Bool.or_eq_true, Bool.or_eq_false_iff, decide_eq_true_eq, decide_eq_false_iff_not, beq_iff_eq, bne_iff_ne, beq_eq_false_iff_ne, bne_eq_false_iff_eq, Bool.not_true, Bool.not_false, gt_iff_lt, ge_iff_le, Int.not_lt, Int.not_le, ne_eq, Decidable.not_not] at hd) <;> (try simp at hs))
              | refine T_ret ?_
              | refine leave_of (.inr rfl) _ rfl ?_
              | refine leave_of (.inl rfl) _ rfl ?_
              | refine leaveA_of (.inr rfl) _ rfl ?_
              | refine leaveA_of (.inl rfl) _ rfl ?_
              | refine wif_intro ?_ (fun hc => ?_)
              | refine And.intro ?_ ?_
              | intro hc
            | simp (maxSteps := 4000000) only [wops_nil, wops_cons, wstep_none, wstep_some, wguard_ff, wguard_tf, wrun_call, wrun_mv, wrun_pick, wrun_bin, wrun_not, wrun_load, wrun_iaddrA, wrun_len, wrun_box, get_mk, wop, aop, ev, look, put_some, writes, ores_some, ores_ite_none, ores_map, ores_bind, binV, thenK, boolV, intV, lenOf, value, cut, hget, AV.parts, isOne, mkAgg, tupOf, ofValue_int, List.map_cons, List.map_nil, List.length_cons, List.length_nil, List.getElem?_cons_zero, List.getElem?_cons_succ, List.set_cons_zero, List.set_cons_succ, List.take_succ_cons, List.take_zero, List.take_nil, List.drop_succ_cons, List.drop_zero, List.nil_append, List.append_nil, List.replicate_zero, List.replicate_succ, List.getD_cons_zero, List.zipIdx_cons, List.zipIdx_nil, List.all_cons, List.all_nil, Option.pure_def, Option.bind_eq_bind, Option.getD_some, Option.map_some, if_true, if_false, Nat.reduceEqDiff, Nat.reduceAdd, Nat.add_zero, Nat.zero_add, Nat.mul_one, Nat.zero_ne_one, reduceCtorEq, Bool.not_true, Bool.not_false, Bool.and_true, Bool.false_eq_true, eq_self, true_and, and_self, freeze, lidsL, lids, List.flatMap_cons, List.flatMap_nil, List.all_cons, ren, Int.toNat_zero, Int.toNat_one, *]
            | simp (disch := omega) only [getD_ints, wrapI]
            | (with_reducible show wcall _ false (.lit (.func (.func 13) _ _)) _ _ _ _; refine wcall_fn (h13) ?_ ?_ ?_; (next => simp [rfyL, rfy, hget, ints, take_rfy, plainR_gR, Int.toNat_zero, Int.toNat_one]); (next => simp [plainL, plain, plainR, plainR_gR, Int.toNat_zero, Int.toNat_one]))
            | (with_reducible show wcallX _ false (.lit (.func (.func 13) _ _)) _ _ _ _; refine wcallX_fn (h13) ?_ ?_ ?_; (next => simp [rfyL, rfy, hget, ints, take_rfy, plainR_gR, Int.toNat_zero, Int.toNat_one]); (next => simp [plainL, plain, plainR, plainR_gR, Int.toNat_zero, Int.toNat_one]))
            | (with_reducible show wcall _ false (.lit (.func (.func 14) _ _)) _ _ _ _; refine wcall_fn (h14) ?_ ?_ ?_; (next => simp [rfyL, rfy, hget, ints, take_rfy, plainR_gR, Int.toNat_zero, Int.toNat_one]); (next => simp [plainL, plain, plainR, plainR_gR, Int.toNat_zero, Int.toNat_one]))
            | (with_reducible show wcallX _ false (.lit (.func (.func 14) _ _)) _ _ _ _; refine wcallX_fn (h14) ?_ ?_ ?_; (next => simp [rfyL, rfy, hget, ints, take_rfy, plainR_gR, Int.toNat_zero, Int.toNat_one]); (next => simp [plainL, plain, plainR, plainR_gR, Int.toNat_zero, Int.toNat_one]))
            | (with_reducible show wcall _ false (.lit (.func (.func 15) _ _)) _ _ _ _; refine wcall_fn (h15c) ?_ ?_ ?_; (next => simp [rfyL, rfy, hget, ints, take_rfy, plainR_gR, Int.toNat_zero, Int.toNat_one]); (next => simp [plainL, plain, plainR, plainR_gR, Int.toNat_zero, Int.toNat_one]))
            | (with_reducible show wcallX _ false (.lit (.func (.func 15) _ _)) _ _ _ _; refine wcallX_fn (h15c) ?_ ?_ ?_; (next => simp [rfyL, rfy, hget, ints, take_rfy, plainR_gR, Int.toNat_zero, Int.toNat_one]); (next => simp [plainL, plain, plainR, plainR_gR, Int.toNat_zero, Int.toNat_one]))
            | (with_reducible show wcall _ false (.lit (.func (.func 15) _ _)) _ _ _ _; refine wcall_fn (h15e) ?_ ?_ ?_; (next => simp [rfyL, rfy, hget, ints, take_rfy, plainR_gR, Int.toNat_zero, Int.toNat_one]); (next => simp [plainL, plain, plainR, plainR_gR, Int.toNat_zero, Int.toNat_one]))
            | (with_reducible show wcallX _ false (.lit (.func (.func 15) _ _)) _ _ _ _; refine wcallX_fn (h15e) ?_ ?_ ?_; (next => simp [rfyL, rfy, hget, ints, take_rfy, plainR_gR, Int.toNat_zero, Int.toNat_one]); (next => simp [plainL, plain, plainR, plainR_gR, Int.toNat_zero, Int.toNat_one]))
            | omega)
          all_goals first | rfl
        | true =>
          replace h := h.resolve_left (by simp)
          cases ra with
          | false =>
            clear h
            unfold c3
            repeat' (first
              | ((with_reducible refine T_calm ?_ ?_); rfl)
              | with_reducible first
                | refine T_seq ?_
                | refine T_reg ?_
                | refine T_draw ?_
                | refine T_skip ?_
                | refine T_exit ?_
                | refine T_block ?_
                | refine T_cond_t rfl ?_
                | refine T_cond_f rfl ?_
                | refine wdW_cons rfl ?_
                | (show wcall _ false (.lit (.func (.func 13) _ _)) _ _ _ _; refine wcall_fn (h13) rfl (by simp [plainL]) ?_)
                | (show wcallX _ false (.lit (.func (.func 13) _ _)) _ _ _ _; refine wcallX_fn (h13) rfl (by simp [plainL, plain, plainR, plainR_gR, Int.toNat_zero, Int.toNat_one]) ?_)
                | (show wcall _ false (.lit (.func (.func 14) _ _)) _ _ _ _; refine wcall_fn (h14) rfl (by simp [plainL, plain, plainR_gR]) ?_)
                | (show wcallX _ false (.lit (.func (.func 14) _ _)) _ _ _ _; refine wcallX_fn (h14) rfl (by simp [plainL, plain, plainR, plainR_gR, Int.toNat_zero, Int.toNat_one]) ?_)
                | (show wcall _ false (.lit (.func (.func 15) _ _)) _ _ _ _; refine wcall_fn (h15c) rfl (by simp [plainL, plain]) ?_)
                | (show wcallX _ false (.lit (.func (.func 15) _ _)) _ _ _ _; refine wcallX_fn (h15c) rfl (by simp [plainL, plain, plainR, plainR_gR, Int.toNat_zero, Int.toNat_one]) ?_)
                | (show wcall _ false (.lit (.func (.func 15) _ _)) _ _ _ _; refine wcall_fn (h15e) rfl (by simp [plainL, plain]) ?_)
                | (show wcallX _ false (.lit (.func (.func 15) _ _)) _ _ _ _; refine wcallX_fn (h15e) rfl (by simp [plainL, plain, plainR, plainR_gR, Int.toNat_zero, Int.toNat_one]) ?_)
                | (show wcall _ false (.lit (.func (.func 15) _ _)) _ _ _ _; refine wcall_fn (h15a) rfl (by simp [plainL, plain]) ?_)
                | (show wcallX _ false (.lit (.func (.func 15) _ _)) _ _ _ _; refine wcallX_fn (h15a) rfl (by simp [plainL, plain, plainR, plainR_gR, Int.toNat_zero, Int.toNat_one]) ?_)
                | ((first | refine T_cond rfl (fun hc => ?_) (fun hc => ?_) | refine wguard_split (fun hc => ?_) (fun hc => ?_) | refine wguardX_split (fun hc => ?_) (fun hc => ?_)) <;> have hd := hc <;> (try simp (disch := omega) only [wrapI] at hd) <;> have hs := hd <;> (try simp only [Bool.not_eq_true', Bool.not_eq_false', Bool.and_eq_true, Bool.and_eq_false_iff, Bool.or_eq_true, Bool.or_eq_false_iff, decide_eq_true_eq, decide_eq_false_iff_not, beq_iff_eq, bne_iff_ne, beq_eq_false_iff_ne, bne_eq_false_iff_eq, Bool.not_true, Bool.not_false, gt_iff_lt, ge_iff_le, Int.not_lt, Int.not_le, ne_eq, Decidable.not_not] at hd) <;> (try simp at hs))
                | refine T_ret ?_
                | refine leave_of (.inr rfl) _ rfl ?_
                | refine leave_of (.inl rfl) _ rfl ?_
                | refine leaveA_of (.inr rfl) _ rfl ?_
                | refine leaveA_of (.inl rfl) _ rfl ?_
                | refine wif_intro ?_ (fun hc => ?_)
                | refine And.intro ?_ ?_
                | intro hc
              | simp (maxSteps := 4000000) only [wops_nil, wops_cons, wstep_none, wstep_some, wguard_ff, wguard_tf, wrun_call, wrun_mv, wrun_pick, wrun_bin, wrun_not, wrun_load, wrun_iaddrA, wrun_len, wrun_box, get_mk, wop, aop, ev, look, put_some, writes, ores_some, ores_ite_none, ores_map, ores_bind, binV, thenK, boolV, intV, lenOf, value, cut, hget, AV.parts, isOne, mkAgg, tupOf, ofValue_int, List.map_cons, List.map_nil, List.length_cons, List.length_nil, List.getElem?_cons_zero, List.getElem?_cons_succ, List.set_cons_zero, List.set_cons_succ, List.take_succ_cons, List.take_zero, List.take_nil, List.drop_succ_cons, List.drop_zero, List.nil_append, List.append_nil, List.replicate_zero, List.replicate_succ, List.getD_cons_zero, List.zipIdx_cons, List.zipIdx_nil, List.all_cons, List.all_nil, Option.pure_def, Option.bind_eq_bind, Option.getD_some, Option.map_some, if_true, if_false, Nat.reduceEqDiff, Nat.reduceAdd, Nat.add_zero, Nat.zero_add, Nat.mul_one, Nat.zero_ne_one, reduceCtorEq, Bool.not_true, Bool.not_false, Bool.and_true, Bool.false_eq_true, eq_self, true_and, and_self, freeze, lidsL, lids, List.flatMap_cons, List.flatMap_nil, List.all_cons, ren, Int.toNat_zero, Int.toNat_one, *]
              | simp (disch := omega) only [getD_ints, wrapI]
              | (with_reducible show wcall _ false (.lit (.func (.func 13) _ _)) _ _ _ _; refine wcall_fn (h13) ?_ ?_ ?_; (next => simp [rfyL, rfy, hget, ints, take_rfy, plainR_gR, Int.toNat_zero, Int.toNat_one]); (next => simp [plainL, plain, plainR, plainR_gR, Int.toNat_zero, Int.toNat_one]))
              | (with_reducible show wcallX _ false (.lit (.func (.func 13) _ _)) _ _ _ _; refine wcallX_fn (h13) ?_ ?_ ?_; (next => simp [rfyL, rfy, hget, ints, take_rfy, plainR_gR, Int.toNat_zero, Int.toNat_one]); (next => simp [plainL, plain, plainR, plainR_gR, Int.toNat_zero, Int.toNat_one]))
              | (with_reducible show wcall _ false (.lit (.func (.func 14) _ _)) _ _ _ _; refine wcall_fn (h14) ?_ ?_ ?_; (next => simp [rfyL, rfy, hget, ints, take_rfy, plainR_gR, Int.toNat_zero, Int.toNat_one]); (next => simp [plainL, plain, plainR, plainR_gR, Int.toNat_zero, Int.toNat_one]))
              | (with_reducible show wcallX _ false (.lit (.func (.func 14) _ _)) _ _ _ _; refine wcallX_fn (h14) ?_ ?_ ?_; (next => simp [rfyL, rfy, hget, ints, take_rfy, plainR_gR, Int.toNat_zero, Int.toNat_one]); (next => simp [plainL, plain, plainR, plainR_gR, Int.toNat_zero, Int.toNat_one]))
              | (with_reducible show wcall _ false (.lit (.func (.func 15) _ _)) _ _ _ _; refine wcall_fn (h15c) ?_ ?_ ?_; (next => simp [rfyL, rfy, hget, ints, take_rfy, plainR_gR, Int.toNat_zero, Int.toNat_one]); (next => simp [plainL, plain, plainR, plainR_gR, Int.toNat_zero, Int.toNat_one]))
              | (with_reducible show wcallX _ false (.lit (.func (.func 15) _ _)) _ _ _ _; refine wcallX_fn (h15c) ?_ ?_ ?_; (next => simp [rfyL, rfy, hget, ints, take_rfy, plainR_gR, Int.toNat_zero, Int.toNat_one]); (next => simp [plainL, plain, plainR, plainR_gR, Int.toNat_zero, Int.toNat_one]))
              | (with_reducible show wcall _ false (.lit (.func (.func 15) _ _)) _ _ _ _; refine wcall_fn (h15e) ?_ ?_ ?_; (next => simp [rfyL, rfy, hget, ints, take_rfy, plainR_gR, Int.toNat_zero, Int.toNat_one]); (next => simp [plainL, plain, plainR, plainR_gR, Int.toNat_zero, Int.toNat_one]))
              | (with_reducible show wcallX _ false (.lit (.func (.func 15) _ _)) _ _ _ _; refine wcallX_fn (h15e) ?_ ?_ ?_; (next => simp [rfyL, rfy, hget, ints, take_rfy, plainR_gR, Int.toNat_zero, Int.toNat_one]); (next => simp [plainL, plain, plainR, plainR_gR, Int.toNat_zero, Int.toNat_one]))
              | (with_reducible show wcall _ false (.lit (.func (.func 15) _ _)) _ _ _ _; refine wcall_fn (h15a) ?_ ?_ ?_; (next => simp [rfyL, rfy, hget, ints, take_rfy, plainR_gR, Int.toNat_zero, Int.toNat_one]); (next => simp [plainL, plain, plainR, plainR_gR, Int.toNat_zero, Int.toNat_one]))
              | (with_reducible show wcallX _ false (.lit (.func (.func 15) _ _)) _ _ _ _; refine wcallX_fn (h15a) ?_ ?_ ?_; (next => simp [rfyL, rfy, hget, ints, take_rfy, plainR_gR, Int.toNat_zero, Int.toNat_one]); (next => simp [plainL, plain, plainR, plainR_gR, Int.toNat_zero, Int.toNat_one]))
              | omega)
            all_goals first | rfl
          | true =>
            replace h := h.resolve_left (by simp)
            subst h
            unfold c3
            repeat' (first
              | ((with_reducible refine T_calm ?_ ?_); rfl)
              | with_reducible first
                | refine T_seq ?_
                | refine T_reg ?_
                | refine T_draw ?_
                | refine T_skip ?_
                | refine T_exit ?_
                | refine T_block ?_
                | refine T_cond_t rfl ?_
                | refine T_cond_f rfl ?_
                | refine wdW_cons rfl ?_
                | (show wcall _ false (.lit (.func (.func 13) _ _)) _ _ _ _; refine wcall_fn (h13) rfl (by simp [plainL]) ?_)
                | (show wcallX _ false (.lit (.func (.func 13) _ _)) _ _ _ _; refine wcallX_fn (h13) rfl (by simp [plainL, plain, plainR, plainR_gR, Int.toNat_zero, Int.toNat_one]) ?_)
                | (show wcall _ false (.lit (.func (.func 14) _ _)) _ _ _ _; refine wcall_fn (h14) rfl (by simp [plainL, plain, plainR_gR]) ?_)
                | (show wcallX _ false (.lit (.func (.func 14) _ _)) _ _ _ _; refine wcallX_fn (h14) rfl (by simp [plainL, plain, plainR, plainR_gR, Int.toNat_zero, Int.toNat_one]) ?_)
                | (show wcall _ false (.lit (.func (.func 15) _ _)) _ _ _ _; refine wcall_fn (h15c) rfl (by simp [plainL, plain]) ?_)
                | (show wcallX _ false (.lit (.func (.func 15) _ _)) _ _ _ _; refine wcallX_fn (h15c) rfl (by simp [plainL, plain, plainR, plainR_gR, Int.toNat_zero, Int.toNat_one]) ?_)
                | (show wcall _ false (.lit (.func (.func 15) _ _)) _ _ _ _; refine wcall_fn (h15e) rfl (by simp [plainL, plain]) ?_)
                | (show wcallX _ false (.lit (.func (.func 15) _ _)) _ _ _ _; refine wcallX_fn (h15e) rfl (by simp [plainL, plain, plainR, plainR_gR, Int.toNat_zero, Int.toNat_one]) ?_)
                | (show wcall _ false (.lit (.func (.func 15) _ _)) _ _ _ _; refine wcall_fn (h15a) rfl (by simp [plainL, plain]) ?_)
                | (show wcallX _ false (.lit (.func (.func 15) _ _)) _ _ _ _; refine wcallX_fn (h15a) rfl (by simp [plainL, plain, plainR, plainR_gR, Int.toNat_zero, Int.toNat_one]) ?_)
                | (show wcall _ false (.lit (.func (.func 15) _ _)) _ _ _ _; refine wcall_fn (h15b) rfl (by simp [plainL, plain]) ?_)
                | (show wcallX _ false (.lit (.func (.func 15) _ _)) _ _ _ _; refine wcallX_fn (h15b) rfl (by simp [plainL, plain, plainR, plainR_gR, Int.toNat_zero, Int.toNat_one]) ?_)
                | ((first | refine T_cond rfl (fun hc => ?_) (fun hc => ?_) | refine wguard_split (fun hc => ?_) (fun hc => ?_) | refine wguardX_split (fun hc => ?_) (fun hc => ?_)) <;> have hd := hc <;> (try simp (disch := omega) only [wrapI] at hd) <;> have hs := hd <;> (try simp only [Bool.not_eq_true', Bool.not_eq_false', Bool.and_eq_true, Bool.and_eq_false_iff, Bool.or_eq_true, Bool.or_eq_false_iff, decide_eq_true_eq, decide_eq_false_iff_not, beq_iff_eq, bne_iff_ne, beq_eq_false_iff_ne, bne_eq_false_iff_eq, Bool.not_true, Bool.not_false, gt_iff_lt, ge_iff_le, Int.not_lt, Int.not_le, ne_eq, Decidable.not_not] at hd) <;> (try simp at hs))
                | refine T_ret ?_
                | refine leave_of (.inr rfl) _ rfl ?_
                | refine leave_of (.inl rfl) _ rfl ?_
                | refine leaveA_of (.inr rfl) _ rfl ?_
                | refine leaveA_of (.inl rfl) _ rfl ?_
                | refine wif_intro ?_ (fun hc => ?_)
                | refine And.intro ?_ ?_
                | intro hc
              | simp (maxSteps := 4000000) only [wops_nil, wops_cons, wstep_none, wstep_some, wguard_ff, wrun_call, wrun_mv, wrun_pick, wrun_bin, wrun_not, wrun_load, wrun_iaddrA, wrun_len, wrun_box, get_mk, wop, aop, ev, look, put_some, writes, ores_some, ores_ite_none, ores_map, ores_bind, binV, thenK, boolV, intV, lenOf, value, cut, hget, AV.parts, isOne, mkAgg, tupOf, ofValue_int, List.map_cons, List.map_nil, List.length_cons, List.length_nil, List.getElem?_cons_zero, List.getElem?_cons_succ, List.set_cons_zero, List.set_cons_succ, List.take_succ_cons, List.take_zero, List.take_nil, List.drop_succ_cons, List.drop_zero, List.nil_append, List.append_nil, List.replicate_zero, List.replicate_succ, List.getD_cons_zero, List.zipIdx_cons, List.zipIdx_nil, List.all_cons, List.all_nil, Option.pure_def, Option.bind_eq_bind, Option.getD_some, Option.map_some, if_true, if_false, Nat.reduceEqDiff, Nat.reduceAdd, Nat.add_zero, Nat.zero_add, Nat.mul_one, Nat.zero_ne_one, reduceCtorEq, Bool.not_true, Bool.not_false, Bool.and_true, Bool.false_eq_true, eq_self, true_and, and_self, freeze, lidsL, lids, List.flatMap_cons, List.flatMap_nil, List.all_cons, ren, Int.toNat_zero, Int.toNat_one, *]
              | simp (disch := omega) only [getD_ints, wrapI]
              | (with_reducible show wcall _ false (.lit (.func (.func 13) _ _)) _ _ _ _; refine wcall_fn (h13) ?_ ?_ ?_; (next => simp [rfyL, rfy, hget, ints, take_rfy, plainR_gR, Int.toNat_zero, Int.toNat_one]); (next => simp [plainL, plain, plainR, plainR_gR, Int.toNat_zero, Int.toNat_one]))
              | (with_reducible show wcallX _ false (.lit (.func (.func 13) _ _)) _ _ _ _; refine wcallX_fn (h13) ?_ ?_ ?_; (next => simp [rfyL, rfy, hget, ints, take_rfy, plainR_gR, Int.toNat_zero, Int.toNat_one]); (next => simp [plainL, plain, plainR, plainR_gR, Int.toNat_zero, Int.toNat_one]))
              | (with_reducible show wcall _ false (.lit (.func (.func 14) _ _)) _ _ _ _; refine wcall_fn (h14) ?_ ?_ ?_; (next => simp [rfyL, rfy, hget, ints, take_rfy, plainR_gR, Int.toNat_zero, Int.toNat_one]); (next => simp [plainL, plain, plainR, plainR_gR, Int.toNat_zero, Int.toNat_one]))
              | (with_reducible show wcallX _ false (.lit (.func (.func 14) _ _)) _ _ _ _; refine wcallX_fn (h14) ?_ ?_ ?_; (next => simp [rfyL, rfy, hget, ints, take_rfy, plainR_gR, Int.toNat_zero, Int.toNat_one]); (next => simp [plainL, plain, plainR, plainR_gR, Int.toNat_zero, Int.toNat_one]))
              | (with_reducible show wcall _ false (.lit (.func (.func 15) _ _)) _ _ _ _; refine wcall_fn (h15c) ?_ ?_ ?_; (next => simp [rfyL, rfy, hget, ints, take_rfy, plainR_gR, Int.toNat_zero, Int.toNat_one]); (next => simp [plainL, plain, plainR, plainR_gR, Int.toNat_zero, Int.toNat_one]))
              | (with_reducible show wcallX _ false (.lit (.func (.func 15) _ _)) _ _ _ _; refine wcallX_fn (h15c) ?_ ?_ ?_; (next => simp [rfyL, rfy, hget, ints, take_rfy, plainR_gR, Int.toNat_zero, Int.toNat_one]); (next => simp [plainL, plain, plainR, plainR_gR, Int.toNat_zero, Int.toNat_one]))
              | (with_reducible show wcall _ false (.lit (.func (.func 15) _ _)) _ _ _ _; refine wcall_fn (h15e) ?_ ?_ ?_; (next => simp [rfyL, rfy, hget, ints, take_rfy, plainR_gR, Int.toNat_zero, Int.toNat_one]); (next => simp [plainL, plain, plainR, plainR_gR, Int.toNat_zero, Int.toNat_one]))
              | (with_reducible show wcallX _ false (.lit (.func (.func 15) _ _)) _ _ _ _; refine wcallX_fn (h15e) ?_ ?_ ?_; (next => simp [rfyL, rfy, hget, ints, take_rfy, plainR_gR, Int.toNat_zero, Int.toNat_one]); (next => simp [plainL, plain, plainR, plainR_gR, Int.toNat_zero, Int.toNat_one]))
              | (with_reducible show wcall _ false (.lit (.func (.func 15) _ _)) _ _ _ _; refine wcall_fn (h15a) ?_ ?_ ?_; (next => simp [rfyL, rfy, hget, ints, take_rfy, plainR_gR, Int.toNat_zero, Int.toNat_one]); (next => simp [plainL, plain, plainR, plainR_gR, Int.toNat_zero, Int.toNat_one]))
              | (with_reducible show wcallX _ false (.lit (.func (.func 15) _ _)) _ _ _ _; refine wcallX_fn (h15a) ?_ ?_ ?_; (next => simp [rfyL, rfy, hget, ints, take_rfy, plainR_gR, Int.toNat_zero, Int.toNat_one]); (next => simp [plainL, plain, plainR, plainR_gR, Int.toNat_zero, Int.toNat_one]))
              | (with_reducible show wcall _ false (.lit (.func (.func 15) _ _)) _ _ _ _; refine wcall_fn (h15b) ?_ ?_ ?_; (next => simp [rfyL, rfy, hget, ints, take_rfy, plainR_gR, Int.toNat_zero, Int.toNat_one]); (next => simp [plainL, plain, plainR, plainR_gR, Int.toNat_zero, Int.toNat_one]))
              | (with_reducible show wcallX _ false (.lit (.func (.func 15) _ _)) _ _ _ _; refine wcallX_fn (h15b) ?_ ?_ ?_; (next => simp [rfyL, rfy, hget, ints, take_rfy, plainR_gR, Int.toNat_zero, Int.toNat_one]); (next => simp [plainL, plain, plainR, plainR_gR, Int.toNat_zero, Int.toNat_one]))
              | omega)
            all_goals first | rfl
set_option maxHeartbeats 8000000 in
theorem k3err (nil : Bool) (l : List Gr) (a b c e : Int) (hl0 : l.length ≤ 6) (h14 : Fn Try.prog 14 [gts nil l] (bl true) []) (hba : 0 ≤ a ∧ a ≤ 1000000) (hbb : 0 ≤ b ∧ b ≤ 1000000) (hbc : 0 ≤ c ∧ c ≤ 1000) (hbe : 0 ≤ e ∧ e ≤ 1000) (x : Int) (hx : x ≠ 0 ∧ x ≠ 12) (h16 : Fn Try.prog 16 [gts false l, prV a b] (.tup [.sl true 0 [], i64 0, i64 x]) []) : Fn Try.prog 3 [gts nil l, prV a b, prV c e] (bl true) [] := by
  refine fn_of e3 ?_
  have h13 := k13
  have hll := gR_len l
  have h17 := k17 nil l (by omega)
  have h15a := k15 a 0 1000000
  have h15b := k15 b 0 1000000
  have h15c := k15 c 0 1000
  have h15e := k15 e 0 1000
  have g3 : decide ((l.length : Int) > 6) = false := decide_eq_false (by omega)
  rw [show (decide ((0 : Int) ≤ a) && decide (a ≤ 1000000)) = true by rw [decide_eq_true hba.1, decide_eq_true hba.2]; rfl] at h15a
  rw [show (decide ((0 : Int) ≤ b) && decide (b ≤ 1000000)) = true by rw [decide_eq_true hbb.1, decide_eq_true hbb.2]; rfl] at h15b
  rw [show (decide ((0 : Int) ≤ c) && decide (c ≤ 1000)) = true by rw [decide_eq_true hbc.1, decide_eq_true hbc.2]; rfl] at h15c
  rw [show (decide ((0 : Int) ≤ e) && decide (e ≤ 1000)) = true by rw [decide_eq_true hbe.1, decide_eq_true hbe.2]; rfl] at h15e
  have g4 : (x != 0) = true := by simp only [bne_iff_ne]; exact hx.1
  have g5 : (x != 12) = true := by simp only [bne_iff_ne]; exact hx.2
  clear hba hbb hbc hbe hx
  unfold c3
  repeat' (first
    | ((with_reducible refine T_calm ?_ ?_); rfl)
    | with_reducible first
      | refine T_seq ?_
      | refine T_reg ?_
      | refine T_draw ?_
      | refine T_skip ?_
      | refine T_exit ?_
      | refine T_block ?_
      | refine T_cond_t rfl ?_
      | refine T_cond_f rfl ?_
      | refine wdW_cons rfl ?_
      | (show wcall _ false (.lit (.func (.func 13) _ _)) _ _ _ _; refine wcall_fn (h13) rfl (by simp [plainL]) ?_)
      | (show wcallX _ false (.lit (.func (.func 13) _ _)) _ _ _ _; refine wcallX_fn (h13) rfl (by simp [plainL, plain, plainR, Int.toNat_natCast, plainR_gR, gR_len, gR_take, gR_rfy, gR_lids, renR_gR, freeze1, Int.toNat_zero, Int.toNat_one]) ?_)
      | (show wcall _ false (.lit (.func (.func 14) _ _)) _ _ _ _; refine wcall_fn (h14) rfl (by simp [plainL, plain, plainR_gR]) ?_)
      | (show wcallX _ false (.lit (.func (.func 14) _ _)) _ _ _ _; refine wcallX_fn (h14) rfl (by simp [plainL, plain, plainR, Int.toNat_natCast, plainR_gR, gR_len, gR_take, gR_rfy, gR_lids, renR_gR, freeze1, Int.toNat_zero, Int.toNat_one]) ?_)
      | (show wcall _ false (.lit (.func (.func 15) _ _)) _ _ _ _; refine wcall_fn (h15a) rfl (by simp [plainL, plain]) ?_)
      | (show wcallX _ false (.lit (.func (.func 15) _ _)) _ _ _ _; refine wcallX_fn (h15a) rfl (by simp [plainL, plain, plainR, Int.toNat_natCast, plainR_gR, gR_len, gR_take, gR_rfy, gR_lids, renR_gR, freeze1, Int.toNat_zero, Int.toNat_one]) ?_)
      | (show wcall _ false (.lit (.func (.func 15) _ _)) _ _ _ _; refine wcall_fn (h15b) rfl (by simp [plainL, plain]) ?_)
      | (show wcallX _ false (.lit (.func (.func 15) _ _)) _ _ _ _; refine wcallX_fn (h15b) rfl (by simp [plainL, plain, plainR, Int.toNat_natCast, plainR_gR, gR_len, gR_take, gR_rfy, gR_lids, renR_gR, freeze1, Int.toNat_zero, Int.toNat_one]) ?_)
      | (show wcall _ false (.lit (.func (.func 15) _ _)) _ _ _ _; refine wcall_fn (h15c) rfl (by simp [plainL, plain]) ?_)
      | (show wcallX _ false (.lit (.func (.func 15) _ _)) _ _ _ _; refine wcallX_fn (h15c) rfl (by simp [plainL, plain, plainR, Int.toNat_natCast, plainR_gR, gR_len, gR_take, gR_rfy, gR_lids, renR_gR, freeze1, Int.toNat_zero, Int.toNat_one]) ?_)
      | (show wcall _ false (.lit (.func (.func 15) _ _)) _ _ _ _; refine wcall_fn (h15e) rfl (by simp [plainL, plain]) ?_)
      | (show wcallX _ false (.lit (.func (.func 15) _ _)) _ _ _ _; refine wcallX_fn (h15e) rfl (by simp [plainL, plain, plainR, Int.toNat_natCast, plainR_gR, gR_len, gR_take, gR_rfy, gR_lids, renR_gR, freeze1, Int.toNat_zero, Int.toNat_one]) ?_)
      | (show wcall _ false (.lit (.func (.func 17) _ _)) _ _ _ _; refine wcall_fn (h17) rfl (by simp [plainL, plain, plainR, Int.toNat_natCast, plainR_gR, gR_len, gR_take, gR_rfy, gR_lids, renR_gR, freeze1, Int.toNat_zero, Int.toNat_one]) ?_)
      | (show wcallX _ false (.lit (.func (.func 17) _ _)) _ _ _ _; refine wcallX_fn (h17) rfl (by simp [plainL, plain, plainR_gR]) ?_)
      | (show wcall _ false (.lit (.func (.func 16) _ _)) _ _ _ _; refine wcall_fn (h16) rfl (by simp [plainL, plain, plainR, Int.toNat_natCast, plainR_gR, gR_len, gR_take, gR_rfy, gR_lids, renR_gR, freeze1, Int.toNat_zero, Int.toNat_one]) ?_)
      | (show wcallX _ false (.lit (.func (.func 16) _ _)) _ _ _ _; refine wcallX_fn (h16) rfl (by simp [plainL, plain, plainR_gR]) ?_)
      | ((first | refine T_cond rfl (fun hc => ?_) (fun hc => ?_) | refine wguard_split (fun hc => ?_) (fun hc => ?_) | refine wguardX_split (fun hc => ?_) (fun hc => ?_)) <;> have hd := hc <;> (try simp (disch := omega) only [wrapI] at hd) <;> have hs := hd <;> (try simp only [Bool.not_eq_true', Bool.not_eq_false', Bool.and_eq_true, Bool.and_eq_false_iff, Bool.or_eq_true, Bool.or_eq_false_iff, decide_eq_true_eq, decide_eq_false_iff_not, beq_iff_eq, bne_iff_ne, beq_eq_false_iff_ne, bne_eq_false_iff_eq, Bool.not_true, Bool.not_false, gt_iff_lt, ge_iff_le, Int.not_lt, Int.not_le, ne_eq, Decidable.not_not] at hd) <;> (try simp at hs))
      | refine T_ret ?_
      | refine leave_of (.inr rfl) _ rfl ?_
      | refine leave_of (.inl rfl) _ rfl ?_
      | refine leaveA_of (.inr rfl) _ rfl ?_
      | refine leaveA_of (.inl rfl) _ rfl ?_
      | refine wif_intro ?_ (fun hc => ?_)
      | refine And.intro ?_ ?_
      | intro hc
    | simp (maxSteps := 4000000) only [wops_nil, wops_cons, wstep_none, wstep_some, wguard_true, wguard_ff, wrun_call, wrun_mv, wrun_pick, wrun_bin, wrun_not, wrun_ext, wrun_load, wrun_iaddrA, wrun_len, wrun_box, wrunX_mv, wrunX_ext, wrunX_load, wdW_nil, wstepX_none, wrunX_call, get_mk, wop, aop, ev, look, put_some, writes, ores_some, ores_ite_none, ores_map, ores_bind, binV, thenK, boolV, intV, lenOf, value, cut, hget, AV.parts, isOne, toLits, mkAgg, tupOf, ofValue_int, List.map_cons, List.map_nil, List.length_cons, List.length_nil, List.getElem?_cons_zero, List.getElem?_cons_succ, List.set_cons_zero, List.set_cons_succ, List.take_succ_cons, List.take_zero, List.take_nil, List.drop_succ_cons, List.drop_zero, List.cons_append, List.nil_append, List.append_nil, List.replicate_zero, List.replicate_succ, List.getD_cons_zero, List.zipIdx_cons, List.zipIdx_nil, List.all_cons, List.all_nil, Option.pure_def, Option.bind_eq_bind, Option.getD_some, Option.map_some, if_true, if_false, Nat.reduceEqDiff, Nat.reduceAdd, Nat.add_zero, Nat.zero_add, Nat.mul_one, Nat.zero_ne_one, reduceCtorEq, Bool.not_true, Bool.and_true, Bool.false_eq_true, eq_self, true_and, and_self, freeze, lidsL, lids, List.flatMap_cons, List.flatMap_nil, List.all_cons, ren, renL, renR, renB, shiftρ, gR_take, gR_lids, renR_gR, freeze1, Int.toNat_zero, Int.toNat_one, *]
    | simp (disch := omega) only [getD_ints, wrapI]
    | (with_reducible show wcall _ false (.lit (.func (.func 13) _ _)) _ _ _ _; refine wcall_fn (h13) ?_ ?_ ?_; (next => simp [rfyL, rfy, hget, ints, take_rfy, Int.toNat_natCast, plainR_gR, gR_len, gR_take, gR_rfy, gR_lids, renR_gR, freeze1, Int.toNat_zero, Int.toNat_one]); (next => simp [plainL, plain, plainR, Int.toNat_natCast, plainR_gR, gR_len, gR_take, gR_rfy, gR_lids, renR_gR, freeze1, Int.toNat_zero, Int.toNat_one]))
    | (with_reducible show wcallX _ false (.lit (.func (.func 13) _ _)) _ _ _ _; refine wcallX_fn (h13) ?_ ?_ ?_; (next => simp [rfyL, rfy, hget, ints, take_rfy, Int.toNat_natCast, plainR_gR, gR_len, gR_take, gR_rfy, gR_lids, renR_gR, freeze1, Int.toNat_zero, Int.toNat_one]); (next => simp [plainL, plain, plainR, Int.toNat_natCast, plainR_gR, gR_len, gR_take, gR_rfy, gR_lids, renR_gR, freeze1, Int.toNat_zero, Int.toNat_one]))
    | (with_reducible show wcall _ false (.lit (.func (.func 14) _ _)) _ _ _ _; refine wcall_fn (h14) ?_ ?_ ?_; (next => simp [rfyL, rfy, hget, ints, take_rfy, Int.toNat_natCast, plainR_gR, gR_len, gR_take, gR_rfy, gR_lids, renR_gR, freeze1, Int.toNat_zero, Int.toNat_one]); (next => simp [plainL, plain, plainR, Int.toNat_natCast, plainR_gR, gR_len, gR_take, gR_rfy, gR_lids, renR_gR, freeze1, Int.toNat_zero, Int.toNat_one]))
    | (with_reducible show wcallX _ false (.lit (.func (.func 14) _ _)) _ _ _ _; refine wcallX_fn (h14) ?_ ?_ ?_; (next => simp [rfyL, rfy, hget, ints, take_rfy, Int.toNat_natCast, plainR_gR, gR_len, gR_take, gR_rfy, gR_lids, renR_gR, freeze1, Int.toNat_zero, Int.toNat_one]); (next => simp [plainL, plain, plainR, Int.toNat_natCast, plainR_gR, gR_len, gR_take, gR_rfy, gR_lids, renR_gR, freeze1, Int.toNat_zero, Int.toNat_one]))
    | (with_reducible show wcall _ false (.lit (.func (.func 15) _ _)) _ _ _ _; refine wcall_fn (h15a) ?_ ?_ ?_; (next => simp [rfyL, rfy, hget, ints, take_rfy, Int.toNat_natCast, plainR_gR, gR_len, gR_take, gR_rfy, gR_lids, renR_gR, freeze1, Int.toNat_zero, Int.toNat_one]); (next => simp [plainL, plain, plainR, Int.toNat_natCast, plainR_gR, gR_len, gR_take, gR_rfy, gR_lids, renR_gR, freeze1, Int.toNat_zero, Int.toNat_one]))
    | (with_reducible show wcallX _ false (.lit (.func (.func 15) _ _)) _ _ _ _; refine wcallX_fn (h15a) ?_ ?_ ?_; (next => simp [rfyL, rfy, hget, ints, take_rfy, Int.toNat_natCast, plainR_gR, gR_len, gR_take, gR_rfy, gR_lids, renR_gR, freeze1, Int.toNat_zero, Int.toNat_one]); (next => simp [plainL, plain, plainR, Int.toNat_natCast, plainR_gR, gR_len, gR_take, gR_rfy, gR_lids, renR_gR, freeze1, Int.toNat_zero, Int.toNat_one]))
    | (with_reducible show wcall _ false (.lit (.func (.func 15) _ _)) _ _ _ _; refine wcall_fn (h15b) ?_ ?_ ?_; (next => simp [rfyL, rfy, hget, ints, take_rfy, Int.toNat_natCast, plainR_gR, gR_len, gR_take, gR_rfy, gR_lids, renR_gR, freeze1, Int.toNat_zero, Int.toNat_one]); (next => simp [plainL, plain, plainR, Int.toNat_natCast, plainR_gR, gR_len, gR_take, gR_rfy, gR_lids, renR_gR, freeze1, Int.toNat_zero, Int.toNat_one]))
    | (with_reducible show wcallX _ false (.lit (.func (.func 15) _ _)) _ _ _ _; refine wcallX_fn (h15b) ?_ ?_ ?_; (next => simp [rfyL, rfy, hget, ints, take_rfy, Int.toNat_natCast, plainR_gR, gR_len, gR_take, gR_rfy, gR_lids, renR_gR, freeze1, Int.toNat_zero, Int.toNat_one]); (next => simp [plainL, plain, plainR, Int.toNat_natCast, plainR_gR, gR_len, gR_take, gR_rfy, gR_lids, renR_gR, freeze1, Int.toNat_zero, Int.toNat_one]))
    | (with_reducible show wcall _ false (.lit (.func (.func 15) _ _)) _ _ _ _; refine wcall_fn (h15c) ?_ ?_ ?_; (next => simp [rfyL, rfy, hget, ints, take_rfy, Int.toNat_natCast, plainR_gR, gR_len, gR_take, gR_rfy, gR_lids, renR_gR, freeze1, Int.toNat_zero, Int.toNat_one]); (next => simp [plainL, plain, plainR, Int.toNat_natCast, plainR_gR, gR_len, gR_take, gR_rfy, gR_lids, renR_gR, freeze1, Int.toNat_zero, Int.toNat_one]))
    | (with_reducible show wcallX _ false (.lit (.func (.func 15) _ _)) _ _ _ _; refine wcallX_fn (h15c) ?_ ?_ ?_; (next => simp [rfyL, rfy, hget, ints, take_rfy, Int.toNat_natCast, plainR_gR, gR_len, gR_take, gR_rfy, gR_lids, renR_gR, freeze1, Int.toNat_zero, Int.toNat_one]); (next => simp [plainL, plain, plainR, Int.toNat_natCast, plainR_gR, gR_len, gR_take, gR_rfy, gR_lids, renR_gR, freeze1, Int.toNat_zero, Int.toNat_one]))
    | (with_reducible show wcall _ false (.lit (.func (.func 15) _ _)) _ _ _ _; refine wcall_fn (h15e) ?_ ?_ ?_; (next => simp [rfyL, rfy, hget, ints, take_rfy, Int.toNat_natCast, plainR_gR, gR_len, gR_take, gR_rfy, gR_lids, renR_gR, freeze1, Int.toNat_zero, Int.toNat_one]); (next => simp [plainL, plain, plainR, Int.toNat_natCast, plainR_gR, gR_len, gR_take, gR_rfy, gR_lids, renR_gR, freeze1, Int.toNat_zero, Int.toNat_one]))
    | (with_reducible show wcallX _ false (.lit (.func (.func 15) _ _)) _ _ _ _; refine wcallX_fn (h15e) ?_ ?_ ?_; (next => simp [rfyL, rfy, hget, ints, take_rfy, Int.toNat_natCast, plainR_gR, gR_len, gR_take, gR_rfy, gR_lids, renR_gR, freeze1, Int.toNat_zero, Int.toNat_one]); (next => simp [plainL, plain, plainR, Int.toNat_natCast, plainR_gR, gR_len, gR_take, gR_rfy, gR_lids, renR_gR, freeze1, Int.toNat_zero, Int.toNat_one]))
    | (with_reducible show wcall _ false (.lit (.func (.func 17) _ _)) _ _ _ _; refine wcall_fn (h17) ?_ ?_ ?_; (next => simp [rfyL, rfy, hget, ints, take_rfy, Int.toNat_natCast, plainR_gR, gR_len, gR_take, gR_rfy, gR_lids, renR_gR, freeze1, Int.toNat_zero, Int.toNat_one]); (next => simp [plainL, plain, plainR, Int.toNat_natCast, plainR_gR, gR_len, gR_take, gR_rfy, gR_lids, renR_gR, freeze1, Int.toNat_zero, Int.toNat_one]))
    | (with_reducible show wcallX _ false (.lit (.func (.func 17) _ _)) _ _ _ _; refine wcallX_fn (h17) ?_ ?_ ?_; (next => simp [rfyL, rfy, hget, ints, take_rfy, Int.toNat_natCast, plainR_gR, gR_len, gR_take, gR_rfy, gR_lids, renR_gR, freeze1, Int.toNat_zero, Int.toNat_one]); (next => simp [plainL, plain, plainR, Int.toNat_natCast, plainR_gR, gR_len, gR_take, gR_rfy, gR_lids, renR_gR, freeze1, Int.toNat_zero, Int.toNat_one]))
    | (with_reducible show wcall _ false (.lit (.func (.func 16) _ _)) _ _ _ _; refine wcall_fn (h16) ?_ ?_ ?_; (next => simp [rfyL, rfy, hget, ints, take_rfy, Int.toNat_natCast, plainR_gR, gR_len, gR_take, gR_rfy, gR_lids, renR_gR, freeze1, Int.toNat_zero, Int.toNat_one]); (next => simp [plainL, plain, plainR, Int.toNat_natCast, plainR_gR, gR_len, gR_take, gR_rfy, gR_lids, renR_gR, freeze1, Int.toNat_zero, Int.toNat_one]))
    | (with_reducible show wcallX _ false (.lit (.func (.func 16) _ _)) _ _ _ _; refine wcallX_fn (h16) ?_ ?_ ?_; (next => simp [rfyL, rfy, hget, gR_len, gR_take, gR_rfy]); (next => simp [plainL, plain, plainR_gR]))
    | omega)
  all_goals first | rfl
set_option maxHeartbeats 8000000 in
theorem k3 (nil : Bool) (l : List Gr) (a b c e : Int) (hl0 : l.length ≤ 9223372036854775807) : Fn Try.prog 3 [gts nil l, prV a b, prV c e] (bl true) [] := by
  have h14 := k14 nil l hl0
  by_cases hE : l.length > 6 ∨ gritB l = false ∨ (decide ((0 : Int) ≤ c) && decide (c ≤ 1000)) = false ∨ (decide ((0 : Int) ≤ e) && decide (e ≤ 1000)) = false ∨ (decide ((0 : Int) ≤ a) && decide (a ≤ 1000000)) = false ∨ (decide ((0 : Int) ≤ b) && decide (b ≤ 1000000)) = false
  · exact k3early nil l a b c e _ h14 hE
  · simp only [not_or, Bool.not_eq_false, Bool.and_eq_true, decide_eq_true_eq] at hE
    obtain ⟨h6, hg, hbc, hbe, hba, hbb⟩ := hE
    have h6' : l.length ≤ 6 := by omega
    rw [hg] at h14
    have hl : l.length < 1000000 := by omega
    have hsz : ∀ k, k < l.length → (l.getD k gr0).nm.size ≤ 30 := by
      unfold gritB at hg
      simp only [Bool.and_eq_true] at hg
      exact shB_all.1 hg.1
    have hab : dpB a b = true := by unfold dpB; simp; omega
    by_cases h0 : gE l = 0
    · have hR : GOk l := (gE_ok h0).2
      obtain ⟨A2, eA⟩ : ∃ A2, (if a + c < 1000000 then a + c else 1000000) = A2 := ⟨_, rfl⟩
      obtain ⟨B2, eB⟩ : ∃ B2, (if b - e > 0 then b - e else 0) = B2 := ⟨_, rfl⟩
      have hA : a ≤ A2 ∧ A2 ≤ 1000000 := by rw [← eA]; split <;> omega
      have hB : 0 ≤ B2 ∧ B2 ≤ b := by rw [← eB]; split <;> omega
      have hab2 : dpB A2 B2 = true := by unfold dpB; simp; omega
      obtain ⟨s1, j1, f1⟩ := k16w false l a b hl hsz h0 hab
      obtain ⟨s2, j2, f2⟩ := k16w false l A2 B2 hl hsz h0 hab2
      have hP := deeper (l := l) (w := b) (w2 := B2) (d := a) (d2 := A2) (n := 1000000) hR hB.2 hba.1 hA.1 (by omega)
      cases l with
      | nil =>
        have hz : ([] : List Gr).length = 0 := rfl
        generalize bst [] b 1000000 a = o at *
        generalize bst [] B2 1000000 A2 = o2 at *
        cases o2 with
        | none =>
          cases o with
          | none => exact k3zn h6' h14 hba hbb hbc hbe j1 j2 eA eB f1 f2 hz
          | some x => exact k3zsn h6' h14 hba hbb hbc hbe j1 j2 eA eB f1 f2 hz
        | some y =>
          obtain ⟨x, rfl, hxy⟩ := hP y rfl
          exact k3zss h6' h14 hba hbb hbc hbe j1 j2 eA eB f1 f2 (Int.not_lt.2 hxy) hz
      | cons g t =>
        have ht : t.length + 1 = (g :: t).length := rfl
        have hdr : List.drop 1 (gR (g :: t)) = gR t := rfl
        obtain ⟨s3, j3, f3⟩ := k16w false t a b (by simp at hl; omega) (fun k hk => by have := hsz (k + 1) (by simp; omega); rw [List.getD_cons_succ] at this; exact this) (gE_tail h0) hab
        have hQ := fewer (g := g) (l := t) (w := b) (d := a) (n := 1000000) hR hba.1 (by omega)
        generalize bst (g :: t) b 1000000 a = o at *
        generalize bst (g :: t) B2 1000000 A2 = o2 at *
        generalize bst t b 1000000 a = o3 at *
        cases o2 with
        | none =>
          cases o3 with
          | none =>
            cases o with
            | none => exact k3tnn h6' h14 hba hbb hbc hbe j1 j2 eA eB f1 f2 j3 hdr ht f3
            | some x => exact k3tsnn h6' h14 hba hbb hbc hbe j1 j2 eA eB f1 f2 j3 hdr ht f3
          | some z =>
            obtain ⟨x, rfl, hxz⟩ := hQ z rfl
            exact k3tsns h6' h14 hba hbb hbc hbe j1 j2 eA eB f1 f2 hxz j3 hdr ht f3
        | some y =>
          obtain ⟨x, rfl, hxy⟩ := hP y rfl
          cases o3 with
          | none => exact k3tssn h6' h14 hba hbb hbc hbe j1 j2 eA eB f1 f2 (Int.not_lt.2 hxy) j3 hdr ht f3
          | some z =>
            obtain ⟨x', hx', hxz⟩ := hQ z rfl
            cases hx'
            exact k3tsss h6' h14 hba hbb hbc hbe j1 j2 eA eB f1 f2 (Int.not_lt.2 hxy) hxz j3 hdr ht f3
    · have h16 := k16e false l a b hl hsz (.inl h0)
      have ec : cdE l a b = gE l := if_pos h0
      rw [ec] at h16
      exact k3err nil l a b c e h6' h14 hba hbb hbc hbe _ ⟨h0, gE_ne12 l⟩ h16
end Go.Abs
