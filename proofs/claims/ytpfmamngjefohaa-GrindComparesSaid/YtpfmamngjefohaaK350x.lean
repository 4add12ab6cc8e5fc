import Derived.Test.YtpfmamngjefohaaK349x
set_option linter.all false
set_option linter.unusedVariables false
set_option linter.unusedSimpArgs false
set_option linter.unusedSectionVars false
namespace Go.Abs
open Go.Proofs
/-! CheckProof and CheckRefusal of the reference -/
set_option maxHeartbeats 8000000 in
theorem k50e {nil d1 d2 n1 n2 : Bool} {l : List Sk} {dlo dhi lo hi : List Int} {den : Int} (hn : dlo.length < 1000000) (hne : wgE dlo.length lo hi den ≠ 0) : Fn Try.prog 50 [sts nil l, dmV d1 dlo d2 dhi, wgV n1 lo n2 hi den] (.tup [i64 0, i64 (wgE dlo.length lo hi den)]) [] := by
  refine fn_of e50 ?_
  have h91 := k91 n1 n2 lo hi den dlo.length hn
  have hll := (by simp : (dlo.map fun x => [i64 x]).length = dlo.length)
  have d0 : (wgE dlo.length lo hi den != 0) = true := by simp only [bne_iff_ne]; exact hne
  generalize wgE dlo.length lo hi den = R at *
  clear hne
  unfold c50
  repeat' (first
    | ((with_reducible refine T_calm ?_ ?_); rfl)
    | with_reducible first
      | refine T_seq ?_
      | refine T_reg ?_
      | refine T_draw ?_
      | refine T_skip ?_
      | refine T_exit ?_
      | refine T_block ?_
      | refine T_cond_t rfl ?_
      | refine T_cond_f rfl ?_
      | refine wdW_cons rfl ?_
      | (show wcall _ false (.lit (.func (.func 91) _ _)) _ _ _ _; refine wcall_fn (h91) rfl (by simp [plainL, plain]) ?_)
      | (show wcallX _ false (.lit (.func (.func 91) _ _)) _ _ _ _; refine wcallX_fn (h91) rfl (by simp [plainL, plain, plainR, plainR_sk]) ?_)
      | ((first | refine T_cond rfl (fun hc => ?_) (fun hc => ?_) | refine wguard_split (fun hc => ?_) (fun hc => ?_) | refine wguardX_split (fun hc => ?_) (fun hc => ?_)) <;> have hd := hc <;> (try simp (disch := omega) only [wrapI] at hd) <;> have hs := hd <;> (try simp only [Bool.not_eq_true', Bool.not_eq_false', Bool.and_eq_true, Bool.and_eq_false_iff, Bool.or_eq_true, Bool.or_eq_false_iff, decide_eq_true_eq, decide_eq_false_iff_not, beq_iff_eq, bne_iff_ne, beq_eq_false_iff_ne, bne_eq_false_iff_eq, Bool.not_true, Bool.not_false, gt_iff_lt, ge_iff_le, Int.not_lt, Int.not_le, ne_eq, Decidable.not_not] at hd) <;> (try simp at hs))
      | refine T_ret ?_
      | refine leave_of (.inr rfl) _ rfl ?_
      | refine leave_of (.inl rfl) _ rfl ?_
      | refine leaveA_of (.inr rfl) _ rfl ?_
      | refine leaveA_of (.inl rfl) _ rfl ?_
      | refine wif_intro ?_ (fun hc => ?_)
      | refine And.intro ?_ ?_
      | intro hc
    | simp (maxSteps := 4000000) only [wops_nil, wops_cons, wstep_none, wrun_call, wrun_mv, wrun_bin, wrun_load, wrun_faddr, wrun_len, wrun_box, get_mk, wop, aop, ev, look, put_some, writes, ores_some, ores_map, ores_bind, binV, thenK, intV, lenOf, value, cut, hget, AV.parts, isOne, toLits, mkAgg, tupOf, List.map_cons, List.map_nil, List.length_cons, List.length_nil, List.getElem?_cons_zero, List.getElem?_cons_succ, List.set_cons_zero, List.set_cons_succ, List.take_succ_cons, List.take_zero, List.take_nil, List.drop_zero, List.nil_append, List.append_nil, List.replicate_zero, List.replicate_succ, List.getD_cons_zero, List.zipIdx_cons, List.zipIdx_nil, List.all_cons, List.all_nil, Option.pure_def, Option.bind_eq_bind, Option.getD_some, Option.map_some, if_true, if_false, Nat.reduceEqDiff, Nat.reduceAdd, Nat.add_zero, Nat.zero_add, Nat.zero_ne_one, reduceCtorEq, Bool.and_true, Bool.false_eq_true, eq_self, true_and, and_self, freeze, lidsL, lids, List.flatMap_cons, List.flatMap_nil, List.all_cons, ren, renL, *]
    | simp (disch := omega) only [getD_ints, wrapI]
    | (with_reducible show wcall _ false (.lit (.func (.func 91) _ _)) _ _ _ _; refine wcall_fn (h91) ?_ ?_ ?_; (next => simp [rfyL, rfy, hget, ints, take_rfy, plainR_sk]); (next => simp [plainL, plain, plainR, plainR_sk]))
    | (with_reducible show wcallX _ false (.lit (.func (.func 91) _ _)) _ _ _ _; refine wcallX_fn (h91) ?_ ?_ ?_; (next => simp [rfyL, rfy, hget, ints, take_rfy, plainR_sk]); (next => simp [plainL, plain, plainR, plainR_sk]))
    | omega)
  all_goals first | rfl
set_option maxHeartbeats 8000000 in
theorem k50 {nil d1 d2 n1 n2 : Bool} {l : List Sk} {dlo dhi lo hi : List Int} {den : Int} (hS : SOk l) (hD : DOk (l.getD 0 sk0).wr.length dlo dhi) (h0 : wgE (l.getD 0 sk0).wr.length lo hi den = 0) : Fn Try.prog 50 [sts nil l, dmV d1 dlo d2 dhi, wgV n1 lo n2 hi den] (.tup [i64 (if pfB l lo hi den = true then pfT l dlo dhi lo hi else 0), i64 (if pfB l lo hi den = true then 0 else 22)]) [] := by
  refine fn_of e50 ?_
  have hW := wgE_ok h0
  have hz40 := hS.zon
  have h91 := k91 n1 n2 lo hi den dlo.length (by rw [hD.l1]; omega)
  rw [hD.l1, h0] at h91
  have hln := hD.l1
  have hll := (by rw [List.length_map, hln] : (dlo.map fun x => [i64 x]).length = (l.getD 0 sk0).wr.length)
  have h92 := k92 nil n1 n2 l lo hi den hS hW
  have h93 := k93 d1 d2 n1 n2 dlo dhi lo hi den (l.getD 0 sk0).wr.length (by omega) hD hW
  have em := mxP_plB (l := l) (lo := lo) (hi := hi) (n := (l.getD 0 sk0).wr.length) (most := den) hS.pos
  change Fn Try.prog 93 _ (i64 (pfT l dlo dhi lo hi)) [] at h93
  change _ = !pfB l lo hi den at em
  generalize mxP l lo hi (l.getD 0 sk0).wr.length l.length = MM at *
  generalize pfT l dlo dhi lo hi = TT at *
  generalize pfB l lo hi den = PB at *
  clear hS hD hW h0
  cases PB with
  | true =>
    rw [if_pos rfl, if_pos rfl]
    simp only [Bool.not_true] at em
    unfold c50
    repeat' (first
      | ((with_reducible refine T_calm ?_ ?_); rfl)
      | with_reducible first
        | refine T_seq ?_
        | refine T_reg ?_
        | refine T_draw ?_
        | refine T_skip ?_
        | refine T_exit ?_
        | refine T_block ?_
        | refine T_cond_t rfl ?_
        | refine T_cond_f rfl ?_
        | refine wdW_cons rfl ?_
        | (show wcall _ false (.lit (.func (.func 91) _ _)) _ _ _ _; refine wcall_fn (h91) rfl (by simp [plainL, plain]) ?_)
        | (show wcallX _ false (.lit (.func (.func 91) _ _)) _ _ _ _; refine wcallX_fn (h91) rfl (by simp [plainL, plain, plainR, plainR_sk]) ?_)
        | (show wcall _ false (.lit (.func (.func 92) _ _)) _ _ _ _; refine wcall_fn (h92) rfl (by simp [plainL, plain, plainR, plainR_sk]) ?_)
        | (show wcallX _ false (.lit (.func (.func 92) _ _)) _ _ _ _; refine wcallX_fn (h92) rfl (by simp [plainL, plain, plainR_sk]) ?_)
        | (show wcall _ false (.lit (.func (.func 93) _ _)) _ _ _ _; refine wcall_fn (h93) rfl (by simp [plainL, plain]) ?_)
        | (show wcallX _ false (.lit (.func (.func 93) _ _)) _ _ _ _; refine wcallX_fn (h93) rfl (by simp [plainL, plain, plainR, plainR_sk]) ?_)
        | ((first | refine T_cond rfl (fun hc => ?_) (fun hc => ?_) | refine wguard_split (fun hc => ?_) (fun hc => ?_) | refine wguardX_split (fun hc => ?_) (fun hc => ?_)) <;> have hd := hc <;> (try simp (disch := omega) only [wrapI] at hd) <;> have hs := hd <;> (try simp only [Bool.not_eq_true', Bool.not_eq_false', Bool.and_eq_true, Bool.and_eq_false_iff, Bool.or_eq_true, Bool.or_eq_false_iff, decide_eq_true_eq, decide_eq_false_iff_not, beq_iff_eq, bne_iff_ne, beq_eq_false_iff_ne, bne_eq_false_iff_eq, Bool.not_true, Bool.not_false, gt_iff_lt, ge_iff_le, Int.not_lt, Int.not_le, ne_eq, Decidable.not_not] at hd) <;> (try simp at hs))
        | refine T_ret ?_
        | refine leave_of (.inr rfl) _ rfl ?_
        | refine leave_of (.inl rfl) _ rfl ?_
        | refine leaveA_of (.inr rfl) _ rfl ?_
        | refine leaveA_of (.inl rfl) _ rfl ?_
        | refine wif_intro ?_ (fun hc => ?_)
        | refine And.intro ?_ ?_
        | intro hc
      | simp (maxSteps := 4000000) only [wops_nil, wops_cons, wstep_none, wrun_call, wrun_mv, wrun_bin, wrun_load, wrun_faddr, wrun_len, wrun_box, wrunX_mv, wrunX_bin, wrunX_load, wrunX_faddr, wdW_nil, wstepX_none, wrunX_call, get_mk, wop, aop, ev, look, put_some, writes, ores_some, ores_map, ores_bind, binV, thenK, intV, lenOf, value, cut, hget, AV.parts, isOne, toLits, mkAgg, tupOf, List.map_cons, List.map_nil, List.length_cons, List.length_nil, List.getElem?_cons_zero, List.getElem?_cons_succ, List.set_cons_zero, List.set_cons_succ, List.take_succ_cons, List.take_zero, List.take_nil, List.drop_succ_cons, List.drop_zero, List.nil_append, List.append_nil, List.replicate_zero, List.replicate_succ, List.getD_cons_zero, List.zipIdx_cons, List.zipIdx_nil, List.all_cons, List.all_nil, Option.pure_def, Option.bind_eq_bind, Option.getD_some, Option.map_some, if_true, if_false, Nat.reduceEqDiff, Nat.reduceAdd, Nat.add_zero, Nat.zero_add, Nat.zero_ne_one, reduceCtorEq, Bool.and_true, Bool.false_eq_true, eq_self, true_and, and_self, freeze, lidsL, lids, List.flatMap_cons, List.flatMap_nil, List.all_cons, ren, renL, *]
      | simp (disch := omega) only [getD_ints, wrapI]
      | (with_reducible show wcall _ false (.lit (.func (.func 91) _ _)) _ _ _ _; refine wcall_fn (h91) ?_ ?_ ?_; (next => simp [rfyL, rfy, hget, ints, take_rfy, plainR_sk]); (next => simp [plainL, plain, plainR, plainR_sk]))
      | (with_reducible show wcallX _ false (.lit (.func (.func 91) _ _)) _ _ _ _; refine wcallX_fn (h91) ?_ ?_ ?_; (next => simp [rfyL, rfy, hget, ints, take_rfy, plainR_sk]); (next => simp [plainL, plain, plainR, plainR_sk]))
      | (with_reducible show wcall _ false (.lit (.func (.func 92) _ _)) _ _ _ _; refine wcall_fn (h92) ?_ ?_ ?_; (next => simp [rfyL, rfy, hget, ints, take_rfy, plainR_sk]); (next => simp [plainL, plain, plainR, plainR_sk]))
      | (with_reducible show wcallX _ false (.lit (.func (.func 92) _ _)) _ _ _ _; refine wcallX_fn (h92) ?_ ?_ ?_; (next => simp [rfyL, rfy, hget, ints, take_rfy, plainR_sk]); (next => simp [plainL, plain, plainR, plainR_sk]))
      | (with_reducible show wcall _ false (.lit (.func (.func 93) _ _)) _ _ _ _; refine wcall_fn (h93) ?_ ?_ ?_; (next => simp [rfyL, rfy, hget, ints, take_rfy, plainR_sk]); (next => simp [plainL, plain, plainR, plainR_sk]))
      | (with_reducible show wcallX _ false (.lit (.func (.func 93) _ _)) _ _ _ _; refine wcallX_fn (h93) ?_ ?_ ?_; (next => simp [rfyL, rfy, hget, ints, take_rfy, plainR_sk]); (next => simp [plainL, plain, plainR, plainR_sk]))
      | omega)
    all_goals first | rfl
  | false =>
    rw [if_neg (by simp), if_neg (by simp)]
    simp only [Bool.not_false] at em
    unfold c50
    repeat' (first
      | ((with_reducible refine T_calm ?_ ?_); rfl)
      | with_reducible first
        | refine T_seq ?_
        | refine T_reg ?_
        | refine T_draw ?_
        | refine T_skip ?_
        | refine T_exit ?_
        | refine T_block ?_
        | refine T_cond_t rfl ?_
        | refine T_cond_f rfl ?_
        | refine wdW_cons rfl ?_
        | (show wcall _ false (.lit (.func (.func 91) _ _)) _ _ _ _; refine wcall_fn (h91) rfl (by simp [plainL, plain]) ?_)
        | (show wcallX _ false (.lit (.func (.func 91) _ _)) _ _ _ _; refine wcallX_fn (h91) rfl (by simp [plainL, plain, plainR, plainR_sk]) ?_)
        | (show wcall _ false (.lit (.func (.func 92) _ _)) _ _ _ _; refine wcall_fn (h92) rfl (by simp [plainL, plain, plainR, plainR_sk]) ?_)
        | (show wcallX _ false (.lit (.func (.func 92) _ _)) _ _ _ _; refine wcallX_fn (h92) rfl (by simp [plainL, plain, plainR_sk]) ?_)
        | (show wcall _ false (.lit (.func (.func 93) _ _)) _ _ _ _; refine wcall_fn (h93) rfl (by simp [plainL, plain, plainR, plainR_sk]) ?_)
        | (show wcallX _ false (.lit (.func (.func 93) _ _)) _ _ _ _; refine wcallX_fn (h93) rfl (by simp [plainL, plain, plainR, plainR_sk]) ?_)
        | ((first | refine T_cond rfl (fun hc => ?_) (fun hc => ?_) | refine wguard_split (fun hc => ?_) (fun hc => ?_) | refine wguardX_split (fun hc => ?_) (fun hc => ?_)) <;> have hd := hc <;> (try simp (disch := omega) only [wrapI] at hd) <;> have hs := hd <;> (try simp only [Bool.not_eq_true', Bool.not_eq_false', Bool.and_eq_true, Bool.and_eq_false_iff, Bool.or_eq_true, Bool.or_eq_false_iff, decide_eq_true_eq, decide_eq_false_iff_not, beq_iff_eq, bne_iff_ne, beq_eq_false_iff_ne, bne_eq_false_iff_eq, Bool.not_true, Bool.not_false, gt_iff_lt, ge_iff_le, Int.not_lt, Int.not_le, ne_eq, Decidable.not_not] at hd) <;> (try simp at hs))
        | refine T_ret ?_
        | refine leave_of (.inr rfl) _ rfl ?_
        | refine leave_of (.inl rfl) _ rfl ?_
        | refine leaveA_of (.inr rfl) _ rfl ?_
        | refine leaveA_of (.inl rfl) _ rfl ?_
        | refine wif_intro ?_ (fun hc => ?_)
        | refine And.intro ?_ ?_
        | intro hc
      | simp (maxSteps := 4000000) only [wops_nil, wops_cons, wstep_none, wrun_call, wrun_mv, wrun_bin, wrun_load, wrun_faddr, wrun_len, wrun_box, wrunX_mv, wrunX_bin, wrunX_load, wrunX_faddr, wdW_nil, wstepX_none, wrunX_call, get_mk, wop, aop, ev, look, put_some, writes, ores_some, ores_map, ores_bind, binV, thenK, intV, lenOf, value, cut, hget, AV.parts, isOne, toLits, mkAgg, tupOf, List.map_cons, List.map_nil, List.length_cons, List.length_nil, List.getElem?_cons_zero, List.getElem?_cons_succ, List.set_cons_zero, List.set_cons_succ, List.take_succ_cons, List.take_zero, List.take_nil, List.drop_succ_cons, List.drop_zero, List.nil_append, List.append_nil, List.replicate_zero, List.replicate_succ, List.getD_cons_zero, List.zipIdx_cons, List.zipIdx_nil, List.all_cons, List.all_nil, Option.pure_def, Option.bind_eq_bind, Option.getD_some, Option.map_some, if_true, if_false, Nat.reduceEqDiff, Nat.reduceAdd, Nat.add_zero, Nat.zero_add, Nat.zero_ne_one, reduceCtorEq, Bool.and_true, Bool.false_eq_true, eq_self, true_and, and_self, freeze, lidsL, lids, List.flatMap_cons, List.flatMap_nil, List.all_cons, ren, renL, *]
      | simp (disch := omega) only [getD_ints, wrapI]
      | (with_reducible show wcall _ false (.lit (.func (.func 91) _ _)) _ _ _ _; refine wcall_fn (h91) ?_ ?_ ?_; (next => simp [rfyL, rfy, hget, ints, take_rfy, plainR_sk]); (next => simp [plainL, plain, plainR, plainR_sk]))
      | (with_reducible show wcallX _ false (.lit (.func (.func 91) _ _)) _ _ _ _; refine wcallX_fn (h91) ?_ ?_ ?_; (next => simp [rfyL, rfy, hget, ints, take_rfy, plainR_sk]); (next => simp [plainL, plain, plainR, plainR_sk]))
      | (with_reducible show wcall _ false (.lit (.func (.func 92) _ _)) _ _ _ _; refine wcall_fn (h92) ?_ ?_ ?_; (next => simp [rfyL, rfy, hget, ints, take_rfy, plainR_sk]); (next => simp [plainL, plain, plainR, plainR_sk]))
      | (with_reducible show wcallX _ false (.lit (.func (.func 92) _ _)) _ _ _ _; refine wcallX_fn (h92) ?_ ?_ ?_; (next => simp [rfyL, rfy, hget, ints, take_rfy, plainR_sk]); (next => simp [plainL, plain, plainR, plainR_sk]))
      | (with_reducible show wcall _ false (.lit (.func (.func 93) _ _)) _ _ _ _; refine wcall_fn (h93) ?_ ?_ ?_; (next => simp [rfyL, rfy, hget, ints, take_rfy, plainR_sk]); (next => simp [plainL, plain, plainR, plainR_sk]))
      | (with_reducible show wcallX _ false (.lit (.func (.func 93) _ _)) _ _ _ _; refine wcallX_fn (h93) ?_ ?_ ?_; (next => simp [rfyL, rfy, hget, ints, take_rfy, plainR_sk]); (next => simp [plainL, plain, plainR, plainR_sk]))
      | omega)
    all_goals first | rfl
end Go.Abs
