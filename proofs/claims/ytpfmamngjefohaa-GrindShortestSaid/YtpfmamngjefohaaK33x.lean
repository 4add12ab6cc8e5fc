import Derived.Test.YtpfmamngjefohaaK32x
set_option linter.all false
set_option linter.unusedVariables false
set_option linter.unusedSimpArgs false
set_option linter.unusedSectionVars false
namespace Go.Abs
open Go.Proofs
abbrev zpol : AV := .agg [.sl true 0 [], i64 0, bl false]
set_option maxHeartbeats 8000000 in
theorem k98z (np : Bool) (p : List Int) (m : Int) (is : Bool) : Fn Try.prog 98 [polV np p m is, zpol] (bl is) [] := by
  refine fn_of e98 ?_
  have hpl : (p.map fun x => [i64 x]).length = p.length := by simp
  unfold c98
  cases is with
  | false =>
    repeat' (first
      | with_reducible first
        | refine T_seq ?_
        | refine T_reg ?_
        | refine T_skip ?_
        | refine T_exit ?_
        | refine T_block ?_
        | refine T_cond_t rfl ?_
        | refine T_cond_f rfl ?_
        | ((first | refine T_cond rfl (fun hc => ?_) (fun hc => ?_) | refine wguard_split (fun hc => ?_) (fun hc => ?_)) <;> have hd := hc <;> (try simp (disch := omega) only [wrapI] at hd) <;> have hs := hd <;> (try simp only [Bool.not_eq_true', Bool.not_eq_false', Bool.and_eq_true, Bool.and_eq_false_iff, Bool.or_eq_true, Bool.or_eq_false_iff, decide_eq_true_eq, decide_eq_false_iff_not, beq_iff_eq, bne_iff_ne, beq_eq_false_iff_ne, bne_eq_false_iff_eq, Bool.not_true, Bool.not_false, gt_iff_lt, ge_iff_le, Int.not_lt, Int.not_le, ne_eq, Decidable.not_not] at hd) <;> (try simp at hs))
        | refine T_ret ?_
        | refine leave_of (.inr rfl) _ rfl ?_
        | refine leave_of (.inl rfl) _ rfl ?_
        | refine leaveA_of (.inr rfl) _ rfl ?_
        | refine leaveA_of (.inl rfl) _ rfl ?_
        | refine wif_intro ?_ (fun hc => ?_)
        | refine And.intro ?_ ?_
        | intro hc
      | simp (maxSteps := 4000000) only [wops_nil, wops_cons, wstep_none, wstep_some, wguard_tf, wrun_mv, wrun_pick, wrun_not, wrun_load, wrun_faddr, wrun_box, get_mk, wop, aop, ev, look, put_some, writes, ores_some, thenK, blockK, boolV, value, cut, hget, AV.parts, isOne, mkAgg, tupOf, List.map_cons, List.map_nil, List.length_cons, List.length_nil, List.getElem?_cons_zero, List.getElem?_cons_succ, List.set_cons_zero, List.set_cons_succ, List.take_succ_cons, List.take_nil, List.drop_succ_cons, List.drop_zero, List.nil_append, List.append_nil, List.replicate_zero, List.replicate_succ, List.getD_cons_zero, List.zipIdx_cons, List.zipIdx_nil, List.all_cons, List.all_nil, Option.getD_some, Option.map_some, if_true, if_false, Nat.reduceEqDiff, Nat.reduceAdd, Nat.add_zero, Nat.zero_add, Nat.zero_ne_one, reduceCtorEq, Bool.not_false, Bool.and_true, Bool.false_eq_true, eq_self, true_and, and_self, List.all_cons, ren, *]
      | simp (disch := omega) only [getD_ints, wrapI]
      | omega)
    all_goals first | rfl
  | true =>
    repeat' (first
      | with_reducible first
        | refine T_seq ?_
        | refine T_reg ?_
        | refine T_skip ?_
        | refine T_exit ?_
        | refine T_block ?_
        | refine T_cond_t rfl ?_
        | refine T_cond_f rfl ?_
        | ((first | refine T_cond rfl (fun hc => ?_) (fun hc => ?_) | refine wguard_split (fun hc => ?_) (fun hc => ?_)) <;> have hd := hc <;> (try simp (disch := omega) only [wrapI] at hd) <;> have hs := hd <;> (try simp only [Bool.not_eq_true', Bool.not_eq_false', Bool.and_eq_true, Bool.and_eq_false_iff, Bool.or_eq_true, Bool.or_eq_false_iff, decide_eq_true_eq, decide_eq_false_iff_not, beq_iff_eq, bne_iff_ne, beq_eq_false_iff_ne, bne_eq_false_iff_eq, Bool.not_true, Bool.not_false, gt_iff_lt, ge_iff_le, Int.not_lt, Int.not_le, ne_eq, Decidable.not_not] at hd) <;> (try simp at hs))
        | refine T_ret ?_
        | refine leave_of (.inr rfl) _ rfl ?_
        | refine leave_of (.inl rfl) _ rfl ?_
        | refine leaveA_of (.inr rfl) _ rfl ?_
        | refine leaveA_of (.inl rfl) _ rfl ?_
        | refine wif_intro ?_ (fun hc => ?_)
        | refine And.intro ?_ ?_
        | intro hc
      | simp (maxSteps := 4000000) only [wops_nil, wops_cons, wstep_none, wstep_some, wguard_ff, wrun_mv, wrun_pick, wrun_not, wrun_load, wrun_faddr, wrun_box, get_mk, wop, aop, ev, look, put_some, writes, ores_some, thenK, blockK, boolV, value, cut, hget, AV.parts, isOne, mkAgg, tupOf, List.map_cons, List.map_nil, List.length_cons, List.length_nil, List.getElem?_cons_zero, List.getElem?_cons_succ, List.set_cons_zero, List.set_cons_succ, List.take_succ_cons, List.take_nil, List.drop_succ_cons, List.drop_zero, List.nil_append, List.append_nil, List.replicate_zero, List.replicate_succ, List.getD_cons_zero, List.zipIdx_cons, List.zipIdx_nil, List.all_cons, List.all_nil, Option.getD_some, Option.map_some, if_true, if_false, Nat.reduceEqDiff, Nat.reduceAdd, Nat.add_zero, Nat.zero_add, Nat.zero_ne_one, reduceCtorEq, Bool.not_true, Bool.not_false, Bool.and_true, Bool.false_eq_true, eq_self, true_and, and_self, List.all_cons, ren, *]
      | simp (disch := omega) only [getD_ints, wrapI]
      | omega)
    all_goals first | rfl
set_option maxHeartbeats 8000000 in
theorem k66b {nil : Bool} {l : List Gr} {d want : Int} {f : Int → Pol} {n k : Nat} (hl : l.length < 1000000) (hk : k < l.length) (hR : GOk l) (hd : 0 ≤ d ∧ d ≤ 1000000) (hn : n < 1000000) (hf : ∀ e, 0 ≤ e ∧ e ≤ 1000000 → PBd n (f e)) (hlt : ¬(l.getD k gr0).dm ≥ d)
    (h66 : Fn Try.prog 66 [gts nil l, i64 (l.getD k gr0).dm, i64 want] zpol []) (hfn : f (l.getD k gr0).dm = none) (K : Exit → St → Prop) :
    T none Try.prog muts 50 0 c66l0 (S66 nil l d want f k) (thenK (R66 nil l d want f k) K) := by
  have hll := gR_len l
  have g1 := gR_get hk
  have eo : bsf l f d (k + 1) = bsf l f d k := by
    show bpick (bcand l f d k) (bsf l f d k) = _
    unfold bcand; rw [if_neg hlt, hfn]; rfl
  have d1 : decide ((l.getD k gr0).dm ≥ d) = false := decide_eq_false hlt
  have hr := hR k hk
  have h84 := k84 (l.getD k gr0) d (by omega) (by omega)
  have hcb := ceil_b (n := d) (d := (l.getD k gr0).rt) hd.1 hr.2.1
  have ew : IntKind.i64.wrap (0 + ceil d (l.getD k gr0).rt) = 0 + ceil d (l.getD k gr0).rt := wrapI (by omega) (by omega)
  have hob := bsf_bd hR hd hf k (by omega)
  unfold R66 S66
  rw [eo]
  clear eo hlt hfn hf hR
  generalize bsf l f d k = o at *
  cases o with
  | none =>
    have h98 := k98z false [(k : Int)] (0 + ceil d (l.getD k gr0).rt) false
    clear hob
    unfold S66h S66s
    unfold c66l0
    repeat' (first
      | ((with_reducible refine T_calm ?_ ?_); rfl)
      | with_reducible first
        | refine T_seq ?_
        | refine T_reg ?_
        | refine T_draw ?_
        | refine T_skip ?_
        | refine T_exit ?_
        | refine T_block ?_
        | refine T_cond_t rfl ?_
        | refine T_cond_f rfl ?_
        | refine wdW_cons rfl ?_
        | (show wcall _ false (.lit (.func (.func 66) _ _)) _ _ _ _; refine wcall_fn (h66) rfl (by simp [plainL, plain, plainR_gR]) ?_)
        | (show wcallX _ false (.lit (.func (.func 66) _ _)) _ _ _ _; refine wcallX_fn (h66) rfl (by simp [plainL, plain, plainR, Int.toNat_natCast, plainR_gR, freeze1]) ?_)
        | (show wcall _ false (.lit (.func (.func 84) _ _)) _ _ _ _; refine wcall_fn (h84) rfl (by simp [plainL, plain, plainR, Int.toNat_natCast, plainR_gR, freeze1]) ?_)
        | (show wcallX _ false (.lit (.func (.func 84) _ _)) _ _ _ _; refine wcallX_fn (h84) rfl (by simp [plainL, plain]) ?_)
        | (show wcall _ false (.lit (.func (.func 98) _ _)) _ _ _ _; refine wcall_fn (h98) rfl (by simp [plainL, plain, plainR]) ?_)
        | (show wcallX _ false (.lit (.func (.func 98) _ _)) _ _ _ _; refine wcallX_fn (h98) rfl (by simp [plainL, plain, plainR, Int.toNat_natCast, plainR_gR, freeze1]) ?_)
        | ((first | refine T_cond rfl (fun hc => ?_) (fun hc => ?_) | refine wguard_split (fun hc => ?_) (fun hc => ?_) | refine wguardX_split (fun hc => ?_) (fun hc => ?_)) <;> have hd := hc <;> (try simp (disch := omega) only [wrapI] at hd) <;> have hs := hd <;> (try simp only [decide_eq_true_eq, decide_eq_false_iff_not, Int.not_lt] at hd) <;> (try simp at hs))
        | refine T_ret ?_
        | refine leave_of (.inr rfl) _ rfl ?_
        | refine leave_of (.inl rfl) _ rfl ?_
        | refine leaveA_of (.inr rfl) _ rfl ?_
        | refine leaveA_of (.inl rfl) _ rfl ?_
        | refine wif_intro ?_ (fun hc => ?_)
        | refine And.intro ?_ ?_
        | intro hc
      | simp (maxSteps := 4000000) only [wops_nil, wops_cons, wstep_none, wrun_call, wrun_mv, wrun_bin, wrun_load, wrun_store, wrun_faddr, wrun_iaddrS, wrun_alloc, wrun_bslice, wrun_app, wrunX_mv, wrunX_bin, wrunX_load, wrunX_store, wrunX_faddr, wdW_nil, wstepX_none, wrunX_call, wop, aop, ev, look, put_some, put_none, writes, ores_some, ores_ite_none, binV, thenK, blockK, elsOf, szOk, value, cut, hget, fillA, putCells, AV.parts, isOne, toLits, mkAgg, ofValue_int, ofValue_str, List.flatten_cons, List.flatten_nil, rowsOf, List.map_cons, List.map_nil, List.length_cons, List.length_nil, List.getElem?_cons_zero, List.getElem?_cons_succ, List.set_cons_zero, List.set_cons_succ, List.take_succ_cons, List.take_zero, List.take_nil, List.drop_succ_cons, List.drop_zero, List.drop_nil, List.cons_append, List.nil_append, List.append_nil, List.append_assoc, List.replicate_zero, List.replicate_succ, List.getD_cons_zero, List.all_cons, List.all_nil, List.isEmpty_nil, Option.getD_some, Option.map_some, if_true, if_false, Nat.reduceEqDiff, Nat.reduceAdd, Nat.reduceMul, Nat.reduceLeDiff, Nat.reduceLT, Nat.reduceBEq, Nat.add_zero, Nat.zero_add, Nat.sub_zero, Nat.mul_one, Nat.le_refl, Nat.zero_ne_one, reduceCtorEq, Bool.and_true, Bool.or_false, Bool.false_eq_true, eq_self, true_and, and_true, and_self, decide_true, freeze, lidsL, lids, List.flatMap_cons, List.flatMap_nil, List.all_cons, ren, renL, renR, Int.toNat_natCast, freeze1, *]
      | simp (disch := omega) only [wrapI]
      | (with_reducible show wcall _ false (.lit (.func (.func 66) _ _)) _ _ _ _; refine wcall_fn (h66) ?_ ?_ ?_; (next => simp [rfyL, rfy, hget, ints, take_rfy, Int.toNat_natCast, plainR_gR, freeze1]); (next => simp [plainL, plain, plainR, Int.toNat_natCast, plainR_gR, freeze1]))
      | (with_reducible show wcallX _ false (.lit (.func (.func 66) _ _)) _ _ _ _; refine wcallX_fn (h66) ?_ ?_ ?_; (next => simp [rfyL, rfy, hget, ints, take_rfy, Int.toNat_natCast, plainR_gR, freeze1]); (next => simp [plainL, plain, plainR, Int.toNat_natCast, plainR_gR, freeze1]))
      | (with_reducible show wcall _ false (.lit (.func (.func 84) _ _)) _ _ _ _; refine wcall_fn (h84) ?_ ?_ ?_; (next => simp [rfyL, rfy, hget, ints, take_rfy, Int.toNat_natCast, plainR_gR, freeze1]); (next => simp [plainL, plain, plainR, Int.toNat_natCast, plainR_gR, freeze1]))
      | (with_reducible show wcallX _ false (.lit (.func (.func 84) _ _)) _ _ _ _; refine wcallX_fn (h84) ?_ ?_ ?_; (next => simp [rfyL, rfy, hget, ints, take_rfy, Int.toNat_natCast, plainR_gR, freeze1]); (next => simp [plainL, plain, plainR, Int.toNat_natCast, plainR_gR, freeze1]))
      | (with_reducible show wcall _ false (.lit (.func (.func 98) _ _)) _ _ _ _; refine wcall_fn (h98) ?_ ?_ ?_; (next => simp [rfyL, rfy, hget, ints, take_rfy, Int.toNat_natCast, plainR_gR, freeze1]); (next => simp [plainL, plain, plainR, Int.toNat_natCast, plainR_gR, freeze1]))
      | (with_reducible show wcallX _ false (.lit (.func (.func 98) _ _)) _ _ _ _; refine wcallX_fn (h98) ?_ ?_ ?_; (next => simp [rfyL, rfy, hget, ints, take_rfy, Int.toNat_natCast, plainR_gR, freeze1]); (next => simp [plainL, plain, plainR, Int.toNat_natCast, plainR_gR, freeze1]))
      | omega)
    all_goals first | (refine ⟨[0, 1], by simp, by simp, ?_⟩; simp [St.keep, get_mk, look, ren, renL, renR, renB, renO, keepρ, pos, hget, renR_gR]; done)
  | some x =>
    obtain ⟨p, m⟩ := x
    have hpl : (p.map fun x => [i64 x]).length = p.length := by simp
    have hp1 := (hob _ rfl).2
    have h98 := k98 false false [(k : Int)] p (0 + ceil d (l.getD k gr0).rt) m false true (by simp) (by simp at hp1; omega)
    have eB : bef2 [(k : Int)] (0 + ceil d (l.getD k gr0).rt) false p m true = false := rfl
    rw [eB] at h98
    clear hob eB
    unfold S66h S66s
    unfold c66l0
    repeat' (first
      | ((with_reducible refine T_calm ?_ ?_); rfl)
      | with_reducible first
        | refine T_seq ?_
        | refine T_reg ?_
        | refine T_draw ?_
        | refine T_skip ?_
        | refine T_exit ?_
        | refine T_block ?_
        | refine T_cond_t rfl ?_
        | refine T_cond_f rfl ?_
        | refine wdW_cons rfl ?_
        | (show wcall _ false (.lit (.func (.func 66) _ _)) _ _ _ _; refine wcall_fn (h66) rfl (by simp [plainL, plain, plainR_gR]) ?_)
        | (show wcallX _ false (.lit (.func (.func 66) _ _)) _ _ _ _; refine wcallX_fn (h66) rfl (by simp [plainL, plain, plainR, Int.toNat_natCast, plainR_gR, freeze1, iR_take, iR_rfy, iR_lids]) ?_)
        | (show wcall _ false (.lit (.func (.func 84) _ _)) _ _ _ _; refine wcall_fn (h84) rfl (by simp [plainL, plain, plainR, Int.toNat_natCast, plainR_gR, freeze1, iR_take, iR_rfy, iR_lids]) ?_)
        | (show wcallX _ false (.lit (.func (.func 84) _ _)) _ _ _ _; refine wcallX_fn (h84) rfl (by simp [plainL, plain]) ?_)
        | (show wcall _ false (.lit (.func (.func 98) _ _)) _ _ _ _; refine wcall_fn (h98) rfl (by simp [plainL, plain, plainR]) ?_)
        | (show wcallX _ false (.lit (.func (.func 98) _ _)) _ _ _ _; refine wcallX_fn (h98) rfl (by simp [plainL, plain, plainR, Int.toNat_natCast, plainR_gR, freeze1, iR_take, iR_rfy, iR_lids]) ?_)
        | ((first | refine T_cond rfl (fun hc => ?_) (fun hc => ?_) | refine wguard_split (fun hc => ?_) (fun hc => ?_) | refine wguardX_split (fun hc => ?_) (fun hc => ?_)) <;> have hd := hc <;> (try simp (disch := omega) only [wrapI] at hd) <;> have hs := hd <;> (try simp only [decide_eq_true_eq, decide_eq_false_iff_not, Int.not_lt] at hd) <;> (try simp at hs))
        | refine T_ret ?_
        | refine leave_of (.inr rfl) _ rfl ?_
        | refine leave_of (.inl rfl) _ rfl ?_
        | refine leaveA_of (.inr rfl) _ rfl ?_
        | refine leaveA_of (.inl rfl) _ rfl ?_
        | refine wif_intro ?_ (fun hc => ?_)
        | refine And.intro ?_ ?_
        | intro hc
      | simp (maxSteps := 4000000) only [wops_nil, wops_cons, wstep_none, wrun_call, wrun_mv, wrun_bin, wrun_load, wrun_store, wrun_faddr, wrun_iaddrS, wrun_alloc, wrun_bslice, wrun_app, wrunX_mv, wrunX_bin, wrunX_load, wrunX_store, wrunX_faddr, wdW_nil, wstepX_none, wrunX_call, wop, aop, ev, look, put_some, put_none, writes, ores_some, ores_ite_none, binV, thenK, blockK, elsOf, szOk, value, cut, hget, fillA, putCells, AV.parts, isOne, toLits, mkAgg, ofValue_int, ofValue_str, List.flatten_cons, List.flatten_nil, rowsOf, List.map_cons, List.map_nil, List.length_cons, List.length_nil, List.getElem?_cons_zero, List.getElem?_cons_succ, List.set_cons_zero, List.set_cons_succ, List.take_succ_cons, List.take_zero, List.take_nil, List.drop_succ_cons, List.drop_zero, List.drop_nil, List.cons_append, List.nil_append, List.append_nil, List.append_assoc, List.replicate_zero, List.replicate_succ, List.getD_cons_zero, List.all_cons, List.all_nil, List.isEmpty_nil, Option.getD_some, Option.map_some, if_true, if_false, Nat.reduceEqDiff, Nat.reduceAdd, Nat.reduceMul, Nat.reduceLeDiff, Nat.reduceLT, Nat.reduceBEq, Nat.add_zero, Nat.zero_add, Nat.sub_zero, Nat.mul_one, Nat.le_refl, Nat.zero_ne_one, reduceCtorEq, Bool.and_true, Bool.or_false, Bool.false_eq_true, eq_self, true_and, and_true, and_self, decide_true, freeze, lidsL, lids, List.flatMap_cons, List.flatMap_nil, List.all_cons, ren, renL, renR, Int.toNat_natCast, freeze1, iR_take, iR_lids, *]
      | simp (disch := omega) only [wrapI]
      | (with_reducible show wcall _ false (.lit (.func (.func 66) _ _)) _ _ _ _; refine wcall_fn (h66) ?_ ?_ ?_; (next => simp [rfyL, rfy, hget, ints, take_rfy, Int.toNat_natCast, plainR_gR, freeze1, iR_take, iR_rfy, iR_lids]); (next => simp [plainL, plain, plainR, Int.toNat_natCast, plainR_gR, freeze1, iR_take, iR_rfy, iR_lids]))
      | (with_reducible show wcallX _ false (.lit (.func (.func 66) _ _)) _ _ _ _; refine wcallX_fn (h66) ?_ ?_ ?_; (next => simp [rfyL, rfy, hget, ints, take_rfy, Int.toNat_natCast, plainR_gR, freeze1, iR_take, iR_rfy, iR_lids]); (next => simp [plainL, plain, plainR, Int.toNat_natCast, plainR_gR, freeze1, iR_take, iR_rfy, iR_lids]))
      | (with_reducible show wcall _ false (.lit (.func (.func 84) _ _)) _ _ _ _; refine wcall_fn (h84) ?_ ?_ ?_; (next => simp [rfyL, rfy, hget, ints, take_rfy, Int.toNat_natCast, plainR_gR, freeze1, iR_take, iR_rfy, iR_lids]); (next => simp [plainL, plain, plainR, Int.toNat_natCast, plainR_gR, freeze1, iR_take, iR_rfy, iR_lids]))
      | (with_reducible show wcallX _ false (.lit (.func (.func 84) _ _)) _ _ _ _; refine wcallX_fn (h84) ?_ ?_ ?_; (next => simp [rfyL, rfy, hget, ints, take_rfy, Int.toNat_natCast, plainR_gR, freeze1, iR_take, iR_rfy, iR_lids]); (next => simp [plainL, plain, plainR, Int.toNat_natCast, plainR_gR, freeze1, iR_take, iR_rfy, iR_lids]))
      | (with_reducible show wcall _ false (.lit (.func (.func 98) _ _)) _ _ _ _; refine wcall_fn (h98) ?_ ?_ ?_; (next => simp [rfyL, rfy, hget, ints, iR_take]); (next => simp [plainL, plain, plainR]))
      | (with_reducible show wcallX _ false (.lit (.func (.func 98) _ _)) _ _ _ _; refine wcallX_fn (h98) ?_ ?_ ?_; (next => simp [rfyL, rfy, hget, ints, take_rfy, Int.toNat_natCast, plainR_gR, freeze1, iR_take, iR_rfy, iR_lids]); (next => simp [plainL, plain, plainR, Int.toNat_natCast, plainR_gR, freeze1, iR_take, iR_rfy, iR_lids]))
      | omega)
    all_goals first | (refine ⟨[0, 1, 2], by simp, by simp, ?_⟩; simp [St.keep, get_mk, look, ren, renL, renR, renB, renO, keepρ, pos, hget, renR_ints, renR_gR]; done)
end Go.Abs
