import Derived.Test.YtodheeifecoebaaK289
import Derived.Test.YtodheeifecoebaaK272x
set_option linter.all false
set_option linter.unusedVariables false
set_option linter.unusedSimpArgs false
set_option linter.unusedSectionVars false
namespace Go.Abs
open Go.Proofs
/-! law 7 -/
theorem rLU {d e : Nat} {H : List Blk} {v w v' w' : AV} (h : Rds d H v w) (h' : Rds e H v' w') (hd6 : d ≤ 6) (he6 : e ≤ 6) : rfyL (hget H) [v, v'] = [w, w'] := by
  simp only [rfyL, List.map_cons, List.map_nil, h.six hd6, h'.six he6]
theorem rL1U {d : Nat} {H : List Blk} {v w : AV} (h : Rds d H v w) (hd6 : d ≤ 6) : rfyL (hget H) [v] = [w] := by
  simp only [rfyL, List.map_cons, List.map_nil, h.six hd6]
theorem rds_fm (d : Nat) (H : List Blk) (w : Int) (nil : Bool) (ph : List Int) : Rds (d + 1) H (fmap w nil ph) (fmap w nil ph) := ⟨by
  show AV.agg [rfy _ d (i64 w), rfy _ d (ints nil ph)] = _
  rw [rfyU]
  cases d <;> rfl, by simp [plain, plainL]⟩
set_option maxHeartbeats 8000000 in
theorem k48u (n1 n2 : Bool) (xs : List Int) (hl : xs.length < 1000000) : Fn Try.prog 48 [ints n1 xs, ints n2 xs] (bl true) [] := by
  refine fn_of e48 ?_
  unfold c48
  repeat' (first
    | ((with_reducible refine T_calm ?_ ?_); rfl)
    | with_reducible first
      | refine T_seq ?_
      | refine T_reg ?_
      | refine T_draw ?_
      | refine T_skip ?_
      | refine T_exit ?_
      | refine T_block ?_
      | refine T_cond_t rfl ?_
      | refine T_cond_f rfl ?_
      | refine wdW_cons rfl ?_
      | ((first | refine T_cond rfl (fun hc => ?_) (fun hc => ?_) | refine wguard_split (fun hc => ?_) (fun hc => ?_) | refine wguardX_split (fun hc => ?_) (fun hc => ?_)) <;> have hd := hc <;> (try simp (disch := omega) only [wrapI] at hd) <;> have hs := hd <;> (try simp only [bne_iff_ne, bne_eq_false_iff_eq, ne_eq] at hd) <;> (try simp at hs))
      | refine T_ret ?_
      | refine leave_of (.inr rfl) _ rfl ?_
      | refine leave_of (.inl rfl) _ rfl ?_
      | refine leaveA_of (.inr rfl) _ rfl ?_
      | refine leaveA_of (.inl rfl) _ rfl ?_
      | refine wif_intro ?_ (fun hc => ?_)
      | refine And.intro ?_ ?_
      | intro hc
    | simp (maxSteps := 4000000) only [wops_nil, wops_cons, wstep_none, wrun_mv, wrun_bin, wrun_len, wop, aop, ev, look, put_some, writes, ores_some, ores_map, ores_bind, binV, thenK, intV, lenOf, hget, List.map_cons, List.map_nil, List.length_nil, List.append_nil, List.replicate_zero, List.zipIdx_cons, List.zipIdx_nil, List.length_map, Option.pure_def, Option.bind_eq_bind, Option.map_some, if_true, if_false, Nat.reduceEqDiff, Nat.reduceAdd, Nat.zero_add, Nat.zero_ne_one, reduceCtorEq, eq_self, *]
    | simp (disch := omega) only [getD_ints, wrapI]
    | omega)
  refine T_for [0, 1, 5] (fun k => ⟨[(0, ints n1 xs), (1, ints n2 xs), (5, i64 k)], []⟩) xs.length (fun _ => True) 0 rfl trivial (Nat.zero_le _) ?_
  intro k hk _
  unfold c48l0
  by_cases hkz : k < xs.length
  · have hg : (xs.map fun x => [i64 x]).getD k [] = [i64 (xs.getD k 0)] := getD_ints (by omega)
    repeat' (first
      | ((with_reducible refine T_calm ?_ ?_); rfl)
      | with_reducible first
        | refine T_seq ?_
        | refine T_reg ?_
        | refine T_draw ?_
        | refine T_skip ?_
        | refine T_exit ?_
        | refine T_block ?_
        | refine T_cond_t rfl ?_
        | refine T_cond_f rfl ?_
        | refine wdW_cons rfl ?_
        | ((first | refine T_cond rfl (fun hc => ?_) (fun hc => ?_) | refine wguard_split (fun hc => ?_) (fun hc => ?_) | refine wguardX_split (fun hc => ?_) (fun hc => ?_)) <;> have hd := hc <;> (try simp (disch := omega) only [wrapI] at hd) <;> have hs := hd <;> (try simp only [decide_eq_true_eq, decide_eq_false_iff_not, bne_iff_ne, bne_eq_false_iff_eq, Int.not_lt, ne_eq] at hd) <;> (try simp at hs))
        | refine T_ret ?_
        | refine leave_of (.inr rfl) _ rfl ?_
        | refine leave_of (.inl rfl) _ rfl ?_
        | refine leaveA_of (.inr rfl) _ rfl ?_
        | refine leaveA_of (.inl rfl) _ rfl ?_
        | refine wif_intro ?_ (fun hc => ?_)
        | refine And.intro ?_ ?_
        | intro hc
      | simp (maxSteps := 4000000) only [wops_nil, wops_cons, wstep_none, wrun_mv, wrun_bin, wrun_load, wrun_iaddrS, wrun_len, get_mk, wop, aop, ev, look, put_some, writes, ores_some, ores_ite_none, ores_map, ores_bind, binV, thenK, blockK, intV, lenOf, value, cut, hget, mkAgg, tupOf, List.map_cons, List.map_nil, List.length_cons, List.length_nil, List.take_succ_cons, List.take_nil, List.drop_zero, List.append_nil, List.replicate_zero, List.length_map, Option.pure_def, Option.bind_eq_bind, Option.map_some, if_true, if_false, Nat.reduceEqDiff, Nat.zero_add, Nat.zero_ne_one, reduceCtorEq, Bool.false_eq_true, eq_self, true_and, and_true, and_self, decide_true, ren, Int.toNat_natCast, *]
      | simp (disch := omega) only [wrapI]
      | omega)
    all_goals exact rfl
  · skip
    repeat' (first
      | ((with_reducible refine T_calm ?_ ?_); rfl)
      | with_reducible first
        | refine T_seq ?_
        | refine T_reg ?_
        | refine T_draw ?_
        | refine T_skip ?_
        | refine T_exit ?_
        | refine T_block ?_
        | refine T_cond_t rfl ?_
        | refine T_cond_f rfl ?_
        | refine wdW_cons rfl ?_
        | ((first | refine T_cond rfl (fun hc => ?_) (fun hc => ?_) | refine wguard_split (fun hc => ?_) (fun hc => ?_) | refine wguardX_split (fun hc => ?_) (fun hc => ?_)) <;> have hd := hc <;> (try simp (disch := omega) only [wrapI] at hd) <;> have hs := hd <;> (try simp only [decide_eq_true_eq, decide_eq_false_iff_not, Int.not_lt] at hd) <;> (try simp at hs))
        | refine T_ret ?_
        | refine leave_of (.inr rfl) _ rfl ?_
        | refine leave_of (.inl rfl) _ rfl ?_
        | refine leaveA_of (.inr rfl) _ rfl ?_
        | refine leaveA_of (.inl rfl) _ rfl ?_
        | refine wif_intro ?_ (fun hc => ?_)
        | refine And.intro ?_ ?_
        | intro hc
      | simp (maxSteps := 4000000) only [wops_nil, wops_cons, wstep_none, wrun_mv, wrun_bin, wrun_load, wrun_iaddrS, wrun_len, get_mk, wop, aop, ev, look, put_some, writes, ores_some, ores_none, ores_ite_none, ores_map, ores_bind, wif_true, binV, thenK, blockK, intV, lenOf, value, cut, hget, mkAgg, tupOf, List.map_cons, List.map_nil, List.length_cons, List.length_nil, List.take_succ_cons, List.take_nil, List.drop_zero, List.append_nil, List.replicate_zero, List.length_map, Option.pure_def, Option.bind_eq_bind, Option.map_some, if_true, if_false, Nat.reduceEqDiff, Nat.zero_add, Nat.zero_ne_one, reduceCtorEq, Bool.false_eq_true, eq_self, and_true, and_self, false_and, decide_true, ren, *]
      | simp (disch := omega) only [getD_ints]
      | omega)
set_option maxHeartbeats 8000000 in
theorem k41u (w : Int) (nil : Bool) (xs : List Int) : Fn Try.prog 41 [fmap w nil xs] (bl (smallB xs.length)) [] := by
  refine fn_of e41 ?_
  unfold c41
  repeat' (first
    | with_reducible first
      | refine T_seq ?_
      | refine T_reg ?_
      | refine T_skip ?_
      | refine T_exit ?_
      | refine T_block ?_
      | refine T_cond_t rfl ?_
      | refine T_cond_f rfl ?_
      | ((first | refine T_cond rfl (fun hc => ?_) (fun hc => ?_) | refine wguard_split (fun hc => ?_) (fun hc => ?_)) <;> have hd := hc <;> (try simp (disch := omega) only [wrapI] at hd) <;> have hs := hd <;> (try simp only [decide_eq_true_eq, decide_eq_false_iff_not, Bool.not_true, Bool.not_false, gt_iff_lt, Int.not_lt, Int.not_le] at hd) <;> (try simp at hs))
      | refine T_ret ?_
      | refine leave_of (.inr rfl) _ rfl ?_
      | refine leave_of (.inl rfl) _ rfl ?_
      | refine leaveA_of (.inr rfl) _ rfl ?_
      | refine leaveA_of (.inl rfl) _ rfl ?_
      | refine wif_intro ?_ (fun hc => ?_)
      | refine And.intro ?_ ?_
      | intro hc
    | simp (maxSteps := 4000000) only [wops_nil, wops_cons, wstep_none, wstep_some, wguard_true, wguard_ff, wguard_tf, wguard_ft, wguard_undef, wrun_mv, wrun_pick, wrun_bin, wrun_load, wrun_faddr, wrun_len, wrun_box, get_mk, wop, aop, ev, look, put_some, writes, ores_some, ores_map, ores_bind, binV, thenK, intV, lenOf, value, cut, hget, AV.parts, isOne, mkAgg, tupOf, List.map_cons, List.map_nil, List.length_cons, List.length_nil, List.getElem?_cons_zero, List.set_cons_zero, List.take_succ_cons, List.take_nil, List.drop_succ_cons, List.drop_zero, List.nil_append, List.append_nil, List.replicate_zero, List.replicate_succ, List.getD_cons_zero, List.zipIdx_cons, List.zipIdx_nil, List.all_cons, List.all_nil, List.length_map, Option.pure_def, Option.bind_eq_bind, Option.getD_some, Option.map_some, if_true, if_false, Nat.reduceEqDiff, Nat.reduceAdd, Nat.add_zero, Nat.zero_add, Nat.zero_ne_one, reduceCtorEq, Bool.not_true, Bool.and_true, Bool.false_eq_true, eq_self, true_and, and_self, decide_true, List.all_cons, ren, *]
    | simp (disch := omega) only [getD_ints, wrapI]
    | omega)
  all_goals unfold smallB
  all_goals first | rfl | omega | (exfalso; omega) | (refine congrArg bl ?_; rw [Bool.eq_iff_iff]; simp; done) | (refine congrArg bl ?_; rw [Bool.eq_iff_iff]; simp; omega) | (simp_all; done) | (simp_all; omega) | ((repeat' split) <;> first | rfl | omega | (exfalso; omega) | (refine congrArg bl ?_; rw [Bool.eq_iff_iff]; simp; done) | (refine congrArg bl ?_; rw [Bool.eq_iff_iff]; simp; omega) | (simp_all; done) | (simp_all; omega))
set_option maxHeartbeats 8000000 in
theorem k7 (w : Int) (nil : Bool) (ph : List Int) : Fn Try.prog 7 [fmap w nil ph] (bl true) [] := by
  refine fn_of e7 ?_
  have h19 := k19
  cases hsm : smallB ph.length with
  | false =>
    have h41 := k41u w nil ph
    rw [hsm] at h41
    replace hsm := True.intro
    unfold c7
    repeat' (first
      | ((with_reducible refine T_calm ?_ ?_); rfl)
      | with_reducible first
        | refine T_seq ?_
        | refine T_reg ?_
        | refine T_draw ?_
        | refine T_skip ?_
        | refine T_exit ?_
        | refine T_block ?_
        | refine T_cond_t rfl ?_
        | refine T_cond_f rfl ?_
        | refine wdW_cons rfl ?_
        | (show wcall _ false (.lit (.func (.func 19) _ _)) _ _ _ _; refine wcall_fn (h19) rfl (by simp [plainL]) ?_)
        | (show wcallX _ false (.lit (.func (.func 19) _ _)) _ _ _ _; refine wcallX_fn (h19) rfl (by simp [plainL, plain, plainR]) ?_)
        | (show wcall _ false (.lit (.func (.func 41) _ _)) _ _ _ _; refine wcall_fn (h41) rfl (by simp [plainL, plain]) ?_)
        | (show wcallX _ false (.lit (.func (.func 41) _ _)) _ _ _ _; refine wcallX_fn (h41) rfl (by simp [plainL, plain, plainR]) ?_)
        | ((first | refine T_cond rfl (fun hc => ?_) (fun hc => ?_) | refine wguard_split (fun hc => ?_) (fun hc => ?_) | refine wguardX_split (fun hc => ?_) (fun hc => ?_)) <;> have hd := hc <;> (try simp (disch := omega) only [wrapI] at hd) <;> have hs := hd <;> (try simp only [Bool.not_eq_true', Bool.not_eq_false', Bool.and_eq_true, Bool.and_eq_false_iff, Bool.or_eq_true, Bool.or_eq_false_iff, decide_eq_true_eq, decide_eq_false_iff_not, beq_iff_eq, bne_iff_ne, beq_eq_false_iff_ne, bne_eq_false_iff_eq, Bool.not_true, Bool.not_false, gt_iff_lt, ge_iff_le, Int.not_lt, Int.not_le, ne_eq, Decidable.not_not] at hd) <;> (try simp at hs))
        | refine T_ret ?_
        | refine leave_of (.inr rfl) _ rfl ?_
        | refine leave_of (.inl rfl) _ rfl ?_
        | refine leaveA_of (.inr rfl) _ rfl ?_
        | refine leaveA_of (.inl rfl) _ rfl ?_
        | refine wif_intro ?_ (fun hc => ?_)
        | refine And.intro ?_ ?_
        | intro hc
      | simp (maxSteps := 4000000) only [wops_nil, wops_cons, wstep_none, wrun_call, wrun_mv, wrun_not, wrun_load, wrun_box, get_mk, wop, aop, ev, look, put_some, writes, ores_some, thenK, boolV, value, cut, hget, AV.parts, isOne, toLits, mkAgg, tupOf, List.map_cons, List.map_nil, List.length_cons, List.length_nil, List.getElem?_cons_zero, List.set_cons_zero, List.take_succ_cons, List.take_nil, List.drop_zero, List.nil_append, List.append_nil, List.replicate_zero, List.replicate_succ, List.getD_cons_zero, List.zipIdx_cons, List.zipIdx_nil, List.all_cons, List.all_nil, Option.getD_some, Option.map_some, Option.map_none, if_true, if_false, Nat.reduceEqDiff, Nat.reduceAdd, Nat.add_zero, Nat.zero_add, Nat.zero_ne_one, reduceCtorEq, Bool.not_true, Bool.not_false, Bool.and_true, eq_self, true_and, and_self, freeze, lidsL, lids, List.flatMap_cons, List.flatMap_nil, List.all_cons, ren, *]
      | simp (disch := omega) only [getD_ints, wrapI]
      | (with_reducible show wcall _ false (.lit (.func (.func 19) _ _)) _ _ _ _; refine wcall_fn (h19) ?_ ?_ ?_; (next => simp [rfyL, rfy, hget, ints, take_rfy]); (next => simp [plainL, plain, plainR]))
      | (with_reducible show wcallX _ false (.lit (.func (.func 19) _ _)) _ _ _ _; refine wcallX_fn (h19) ?_ ?_ ?_; (next => simp [rfyL, rfy, hget, ints, take_rfy]); (next => simp [plainL, plain, plainR]))
      | (with_reducible show wcall _ false (.lit (.func (.func 41) _ _)) _ _ _ _; refine wcall_fn (h41) ?_ ?_ ?_; (next => simp [rfyL, rfy, hget, ints, take_rfy]); (next => simp [plainL, plain, plainR]))
      | (with_reducible show wcallX _ false (.lit (.func (.func 41) _ _)) _ _ _ _; refine wcallX_fn (h41) ?_ ?_ ?_; (next => simp [rfyL, rfy, hget, ints, take_rfy]); (next => simp [plainL, plain, plainR]))
      | omega)
  | true =>
    have hl : ph.length < 1000000 := by
      unfold smallB at hsm; simp at hsm; omega
    have hl2 : ph.length < 4611686018427387904 := by omega
    have h41 := k41u w nil ph
    rw [hsm] at h41
    have h43 := k43 w nil ph (by omega)
    have h44 := k44 w nil ph hl2
    by_cases hc : checkFr w ph = 0
    · obtain ⟨hp, hw⟩ := fr_okU hc
      have hn := fr_len hc
      have h42 := k42 w false ph hn hc hp hw
      have h45 := k45 w nil ph hl hp hw
      rw [hc] at h44
      replace h42 := PLift.up h42
      replace h45 := PLift.up h45
      have hp' := PLift.up hp
      have hc' := PLift.up hc
      replace hsm := True.intro
      clear hp hc
      unfold c7
      repeat' (first
        | ((with_reducible refine T_calm ?_ ?_); rfl)
        | with_reducible first
          | refine T_seq ?_
          | refine T_reg ?_
          | refine T_draw ?_
          | refine T_skip ?_
          | refine T_exit ?_
          | refine T_block ?_
          | refine T_cond_t rfl ?_
          | refine T_cond_f rfl ?_
          | refine wdW_cons rfl ?_
          | (show wcall _ false (.lit (.func (.func 19) _ _)) _ _ _ _; refine wcall_fn (h19) rfl (by simp [plainL]) ?_)
          | (show wcallX _ false (.lit (.func (.func 19) _ _)) _ _ _ _; refine wcallX_fn (h19) rfl (by simp [plainL, plain, plainR, take_rfyU, flat_intsU, freeze1]) ?_)
          | (show wcall _ false (.lit (.func (.func 41) _ _)) _ _ _ _; refine wcall_fn (h41) rfl (by simp [plainL, plain]) ?_)
          | (show wcallX _ false (.lit (.func (.func 41) _ _)) _ _ _ _; refine wcallX_fn (h41) rfl (by simp [plainL, plain, plainR, take_rfyU, flat_intsU, freeze1]) ?_)
          | (show wcall _ false (.lit (.func (.func 43) _ _)) _ _ _ _; refine wcall_fn (h43) rfl (by simp [plainL, plain]) ?_)
          | (show wcallX _ false (.lit (.func (.func 43) _ _)) _ _ _ _; refine wcallX_fn (h43) rfl (by simp [plainL, plain, plainR, take_rfyU, flat_intsU, freeze1]) ?_)
          | ((first | refine T_cond rfl (fun hc => ?_) (fun hc => ?_) | refine wguard_split (fun hc => ?_) (fun hc => ?_) | refine wguardX_split (fun hc => ?_) (fun hc => ?_)) <;> have hd := hc <;> (try simp (disch := omega) only [wrapI] at hd) <;> have hs := hd <;> (try simp only [Bool.not_eq_true', Bool.not_eq_false', Bool.and_eq_true, Bool.and_eq_false_iff, Bool.or_eq_true, Bool.or_eq_false_iff, decide_eq_true_eq, decide_eq_false_iff_not, beq_iff_eq, bne_iff_ne, beq_eq_false_iff_ne, bne_eq_false_iff_eq, Bool.not_true, Bool.not_false, gt_iff_lt, ge_iff_le, Int.not_lt, Int.not_le, ne_eq, Decidable.not_not] at hd) <;> (try simp at hs))
          | refine T_ret ?_
          | refine leave_of (.inr rfl) _ rfl ?_
          | refine leave_of (.inl rfl) _ rfl ?_
          | refine leaveA_of (.inr rfl) _ rfl ?_
          | refine leaveA_of (.inl rfl) _ rfl ?_
          | refine wif_intro ?_ (fun hc => ?_)
          | refine And.intro ?_ ?_
          | intro hc
        | simp (maxSteps := 4000000) only [wops_nil, wops_cons, wstep_none, wrun_call, wrun_mv, wrun_not, wrun_load, wrun_box, wop, aop, ev, look, put_some, writes, ores_some, thenK, boolV, value, cut, hget, AV.parts, isOne, toLits, mkAgg, List.map_cons, List.map_nil, List.length_cons, List.length_nil, List.getElem?_cons_zero, List.set_cons_zero, List.take_succ_cons, List.take_nil, List.drop_zero, List.cons_append, List.nil_append, List.append_nil, List.replicate_zero, List.replicate_succ, List.getD_cons_zero, List.zipIdx_cons, List.zipIdx_nil, List.all_cons, List.all_nil, Option.getD_some, Option.map_some, Option.map_none, if_true, if_false, Nat.reduceEqDiff, Nat.reduceAdd, Nat.add_zero, Nat.zero_add, Nat.zero_ne_one, reduceCtorEq, Bool.not_true, Bool.and_true, eq_self, true_and, and_self, freeze, lidsL, lids, List.flatMap_cons, List.flatMap_nil, List.all_cons, ren, renL, renB, shiftρ, renR_ints, *]
        | simp (disch := omega) only [getD_ints, wrapI]
        | (with_reducible show wcall _ false (.lit (.func (.func 19) _ _)) _ _ _ _; refine wcall_fn (h19) ?_ ?_ ?_; (next => simp [rfyL, rfy, hget, ints, take_rfy, take_rfyU, flat_intsU, freeze1]); (next => simp [plainL, plain, plainR, take_rfyU, flat_intsU, freeze1]))
        | (with_reducible show wcallX _ false (.lit (.func (.func 19) _ _)) _ _ _ _; refine wcallX_fn (h19) ?_ ?_ ?_; (next => simp [rfyL, rfy, hget, ints, take_rfy, take_rfyU, flat_intsU, freeze1]); (next => simp [plainL, plain, plainR, take_rfyU, flat_intsU, freeze1]))
        | (with_reducible show wcall _ false (.lit (.func (.func 41) _ _)) _ _ _ _; refine wcall_fn (h41) ?_ ?_ ?_; (next => simp [rfyL, rfy, hget, ints, take_rfy, take_rfyU, flat_intsU, freeze1]); (next => simp [plainL, plain, plainR, take_rfyU, flat_intsU, freeze1]))
        | (with_reducible show wcallX _ false (.lit (.func (.func 41) _ _)) _ _ _ _; refine wcallX_fn (h41) ?_ ?_ ?_; (next => simp [rfyL, rfy, hget, ints, take_rfy, take_rfyU, flat_intsU, freeze1]); (next => simp [plainL, plain, plainR, take_rfyU, flat_intsU, freeze1]))
        | (with_reducible show wcall _ false (.lit (.func (.func 43) _ _)) _ _ _ _; refine wcall_fn (h43) ?_ ?_ ?_; (next => simp [rfyL, rfy, hget, ints, take_rfy, take_rfyU, flat_intsU, freeze1]); (next => simp [plainL, plain, plainR, take_rfyU, flat_intsU, freeze1]))
        | (with_reducible show wcallX _ false (.lit (.func (.func 43) _ _)) _ _ _ _; refine wcallX_fn (h43) ?_ ?_ ?_; (next => simp [rfyL, rfy, hget, ints, take_rfy, take_rfyU, flat_intsU, freeze1]); (next => simp [plainL, plain, plainR, take_rfyU, flat_intsU, freeze1]))
        | omega)
      refine wcall_42 h42.down (by simp [rfyL, rfy, hget, ints, take_rfyU]) (by simp [plainL, plain]) (fun o f id H1 hx1 hpc hpot hid => ?_) (fun o f id L H1 hx1 hpc hno hid hL hch => ?_)
      · obtain ⟨o0, g0⟩ := hx1.cell (id := 0) rfl
        replace hpc := PLift.up hpc
        replace hpot := PLift.up hpot
        clear hx1 h42 h43 h41 h19
        repeat' (first
          | ((with_reducible refine T_calm ?_ ?_); rfl)
          | with_reducible first
            | refine T_seq ?_
            | refine T_reg ?_
            | refine T_draw ?_
            | refine T_skip ?_
            | refine T_exit ?_
            | refine T_block ?_
            | refine T_cond_t rfl ?_
            | refine T_cond_f rfl ?_
            | refine wdW_cons rfl ?_
            | (show wcall _ false (.lit (.func (.func 44) _ _)) _ _ _ _; refine wcall_fn (h44) rfl (by simp [plainL, plain]) ?_)
            | (show wcallX _ false (.lit (.func (.func 44) _ _)) _ _ _ _; refine wcallX_fn (h44) rfl (by simp [plainL, plain, plainR, take_rfyU, flat_intsU, freeze1]) ?_)
            | ((first | refine T_cond rfl (fun hc => ?_) (fun hc => ?_) | refine wguard_split (fun hc => ?_) (fun hc => ?_) | refine wguardX_split (fun hc => ?_) (fun hc => ?_)) <;> have hd := hc <;> (try simp (disch := omega) only [wrapI] at hd) <;> have hs := hd <;> (try simp only [Bool.not_eq_true', Bool.not_eq_false', Bool.and_eq_true, Bool.and_eq_false_iff, Bool.or_eq_true, Bool.or_eq_false_iff, decide_eq_true_eq, decide_eq_false_iff_not, beq_iff_eq, bne_iff_ne, beq_eq_false_iff_ne, bne_eq_false_iff_eq, Bool.not_true, Bool.not_false, gt_iff_lt, ge_iff_le, Int.not_lt, Int.not_le, ne_eq, Decidable.not_not] at hd) <;> (try simp at hs))
            | refine T_ret ?_
            | refine leave_of (.inr rfl) _ rfl ?_
            | refine leave_of (.inl rfl) _ rfl ?_
            | refine leaveA_of (.inr rfl) _ rfl ?_
            | refine leaveA_of (.inl rfl) _ rfl ?_
            | refine wif_intro ?_ (fun hc => ?_)
            | refine And.intro ?_ ?_
            | intro hc
          | simp (maxSteps := 4000000) only [wops_nil, wops_cons, wstep_none, wrun_call, wrun_mv, wrun_bin, wrun_ext, wrun_load, wop, aop, ev, look, put_some, writes, ores_some, binV, thenK, value, cut, hget, toLits, mkAgg, List.map_cons, List.map_nil, List.length_cons, List.length_nil, List.getElem?_cons_zero, List.getElem?_cons_succ, List.take_succ_cons, List.take_nil, List.drop_zero, List.append_nil, List.replicate_zero, List.getD_cons_zero, Option.getD_some, Option.map_some, Option.map_none, if_true, if_false, Nat.reduceEqDiff, Nat.reduceAdd, Nat.zero_add, Nat.zero_ne_one, reduceCtorEq, eq_self, freeze, lidsL, lids, List.flatMap_cons, List.flatMap_nil, ren, *]
          | simp (disch := omega) only [getD_ints, wrapI]
          | (with_reducible show wcall _ false (.lit (.func (.func 44) _ _)) _ _ _ _; refine wcall_fn (h44) ?_ ?_ ?_; (next => simp [rfyL, rfy, hget, ints, take_rfy, take_rfyU, flat_intsU, freeze1]); (next => simp [plainL, plain, plainR, take_rfyU, flat_intsU, freeze1]))
          | (with_reducible show wcallX _ false (.lit (.func (.func 44) _ _)) _ _ _ _; refine wcallX_fn (h44) ?_ ?_ ?_; (next => simp [rfyL, rfy, hget, ints, take_rfy, take_rfyU, flat_intsU, freeze1]); (next => simp [plainL, plain, plainR, take_rfyU, flat_intsU, freeze1]))
          | omega)
        refine wcall_45 h45.down (rL1U (rds_fm 1 _ _ _ _) (by omega)) (by simp [plainL, plain]) (fun o' f' id' H2 hx2 hpc' hpot' hid' => ?_) (fun o' f' H2 hx2 hpc' hno' => ?_)
        · have hff := pc_two hpc.down hpc' hpot.down
          subst hff
          obtain ⟨o1, g1⟩ := hx2.cell g0
          obtain ⟨o2, hid2⟩ := hx2.cell hid
          have h48 := k48u false false (mk ph.length f') (by rw [mk_len]; exact hl)
          replace h48 := PLift.up h48
          have r1 := PLift.up (rds_lsl (d := 1) hid2 (mk_len ..))
          have r2 := PLift.up (rds_lsl (d := 1) hid' (mk_len ..))
          clear hx2 g0 hid h45 h44 hpc' hpot'
          repeat' (first
            | ((with_reducible refine T_calm ?_ ?_); rfl)
            | with_reducible first
              | refine T_seq ?_
              | refine T_reg ?_
              | refine T_draw ?_
              | refine T_skip ?_
              | refine T_exit ?_
              | refine T_block ?_
              | refine T_cond_t rfl ?_
              | refine T_cond_f rfl ?_
              | refine wdW_cons rfl ?_
              | ((first | refine T_cond rfl (fun hc => ?_) (fun hc => ?_) | refine wguard_split (fun hc => ?_) (fun hc => ?_) | refine wguardX_split (fun hc => ?_) (fun hc => ?_)) <;> have hd := hc <;> (try simp (disch := omega) only [wrapI] at hd) <;> have hs := hd <;> (try simp only [bne_iff_ne, bne_eq_false_iff_eq, Bool.not_false, ne_eq] at hd) <;> (try simp at hs))
              | refine T_ret ?_
              | refine leave_of (.inr rfl) _ rfl ?_
              | refine leave_of (.inl rfl) _ rfl ?_
              | refine leaveA_of (.inr rfl) _ rfl ?_
              | refine leaveA_of (.inl rfl) _ rfl ?_
              | refine wif_intro ?_ (fun hc => ?_)
              | refine And.intro ?_ ?_
              | intro hc
            | simp (maxSteps := 4000000) only [wops_nil, wops_cons, wstep_none, wstep_some, wguard_ff, wrun_call, wrun_mv, wrun_pick, wrun_bin, wrun_not, wrun_ext, wrun_len, wop, aop, ev, look, put_some, writes, ores_some, ores_map, ores_bind, binV, thenK, boolV, intV, lenOf, hget, List.map_cons, List.map_nil, List.length_nil, List.getElem?_cons_zero, List.getElem?_cons_succ, List.append_nil, List.replicate_zero, Option.pure_def, Option.bind_eq_bind, Option.map_some, if_true, if_false, Nat.reduceEqDiff, reduceCtorEq, Bool.not_true, Bool.false_eq_true, eq_self, *]
            | simp (disch := omega) only [getD_ints, wrapI]
            | omega)
          refine wcall_E0 h48.down rfl (rLU r1.down r2.down (by omega) (by omega)) (by simp [plainL, plain]) fun H3 hx3 => ?_
          obtain ⟨o3, g3⟩ := hx3.cell g1
          obtain ⟨o4, hid3⟩ := hx3.cell hid2
          have l0 := (List.getElem?_eq_some_iff.1 g3).1
          have lid := (List.getElem?_eq_some_iff.1 hid3).1
          clear hx3 g1 hid2 hid' h48 r1 r2
          repeat' (first
            | ((with_reducible refine T_calm ?_ ?_); rfl)
            | with_reducible first
              | refine T_seq ?_
              | refine T_reg ?_
              | refine T_draw ?_
              | refine T_skip ?_
              | refine T_exit ?_
              | refine T_block ?_
              | refine T_cond_t rfl ?_
              | refine T_cond_f rfl ?_
              | refine wdW_cons rfl ?_
              | ((first | refine T_cond rfl (fun hc => ?_) (fun hc => ?_) | refine wguard_split (fun hc => ?_) (fun hc => ?_) | refine wguardX_split (fun hc => ?_) (fun hc => ?_)) <;> have hd := hc <;> (try simp (disch := omega) only [wrapI] at hd) <;> have hs := hd <;> (try simp only [Bool.not_eq_true', Bool.not_eq_false', Bool.and_eq_true, Bool.and_eq_false_iff, Bool.or_eq_true, Bool.or_eq_false_iff, decide_eq_true_eq, decide_eq_false_iff_not, beq_iff_eq, bne_iff_ne, beq_eq_false_iff_ne, bne_eq_false_iff_eq, Bool.not_true, Bool.not_false, gt_iff_lt, ge_iff_le, Int.not_lt, Int.not_le, ne_eq, Decidable.not_not] at hd) <;> (try simp at hs))
              | refine T_ret ?_
              | refine leave_of (.inr rfl) _ rfl ?_
              | refine leave_of (.inl rfl) _ rfl ?_
              | refine leaveA_of (.inr rfl) _ rfl ?_
              | refine leaveA_of (.inl rfl) _ rfl ?_
              | refine wif_intro ?_ (fun hc => ?_)
              | refine And.intro ?_ ?_
              | intro hc
            | simp (maxSteps := 4000000) only [wops_nil, wops_cons, wstep_none, wstep_some, wguard_ff, wrun_mv, wrun_pick, wrun_not, wop, aop, ev, look, put_some, writes, ores_some, thenK, boolV, List.append_nil, List.replicate_zero, if_true, if_false, Nat.reduceEqDiff, reduceCtorEq, Bool.not_true, Bool.false_eq_true, eq_self, *]
            | simp (disch := omega) only [getD_ints, wrapI]
            | omega)
          refine T_forP [1, 3, 13] (fun k => [(1, .loc 0 0 0), (3, .lsl id 0 ph.length), (13, i64 k)]) ph.length (fun _ H => H = H3) 0 ?_ rfl (Nat.zero_le _) ?_
          · simp [St.only, get_mk, look]
          rintro k H hk rfl
          have hlm := mk_len ph.length f'
          by_cases hkn : k < ph.length
          · have hb := pc_bd hpc.down hn k
            have h24 := k24 (f' k) 1000 (by omega) (by omega) (by omega) (by omega)
            have m1 : ((mk ph.length f').map fun x => [i64 x]).getD k [] = [i64 (f' k)] := by rw [getD_ints (by rw [mk_len]; exact hkn), mk_get hkn]
            have m2 : (ph.map fun x => [i64 x]).getD k [] = [i64 (ph.getD k 0)] := getD_ints hkn
            have hph := fun h0 => pc_phase (c := k) hp'.down hpc.down hkn h0
            by_cases h0 : 0 ≤ ph.getD k 0
            · rw [hph h0] at h24
              have hge : decide (ph.getD k 0 ≥ 0) = true := decide_eq_true h0
              have hse : (ph.getD k 0 != ph.getD k 0) = false := by simp
              clear hph hpc hpot hp'
              generalize f' k = u at *
              generalize mk ph.length f' = ML at *
              generalize hx : ph.getD k 0 = x at *
              unfold c7l0
              repeat' (first
                | ((with_reducible refine T_calm ?_ ?_); rfl)
                | with_reducible first
                  | refine T_seq ?_
                  | refine T_reg ?_
                  | refine T_draw ?_
                  | refine T_skip ?_
                  | refine T_exit ?_
                  | refine T_block ?_
                  | refine T_cond_t rfl ?_
                  | refine T_cond_f rfl ?_
                  | refine wdW_cons rfl ?_
                  | (show wcall _ false (.lit (.func (.func 24) _ _)) _ _ _ _; refine wcall_fn (h24) rfl (by simp [plainL, plain, plainR, Int.toNat_natCast, l0, lid]) ?_)
                  | (show wcallX _ false (.lit (.func (.func 24) _ _)) _ _ _ _; refine wcallX_fn (h24) rfl (by simp [plainL, plain]) ?_)
                  | ((first | refine T_cond rfl (fun hc => ?_) (fun hc => ?_) | refine wguard_split (fun hc => ?_) (fun hc => ?_) | refine wguardX_split (fun hc => ?_) (fun hc => ?_)) <;> have hd := hc <;> (try simp (disch := omega) only [wrapI] at hd) <;> have hs := hd <;> (try simp only [decide_eq_true_eq, decide_eq_false_iff_not, Int.not_lt] at hd) <;> (try simp at hs))
                  | refine T_ret ?_
                  | refine leave_of (.inr rfl) _ rfl ?_
                  | refine leave_of (.inl rfl) _ rfl ?_
                  | refine leaveA_of (.inr rfl) _ rfl ?_
                  | refine leaveA_of (.inl rfl) _ rfl ?_
                  | refine wif_intro ?_ (fun hc => ?_)
                  | refine And.intro ?_ ?_
                  | intro hc
                | simp (maxSteps := 4000000) only [wops_nil, wops_cons, wstep_none, wrun_mv, wrun_pick, wrun_bin, wrun_load, wrun_faddr, wrun_iaddrS, wrun_len, wrunX_mv, wrunX_pick, wrunX_bin, wrunX_load, wrunX_faddr, wrunX_iaddrS, wdW_nil, wstepX_none, wstepX_some, wguardX_true, wrunX_call, get_mk, wop, aop, ev, look, put_some, writes, ores_some, ores_ite_none, ores_map, ores_bind, binV, thenK, blockK, intV, lenOf, value, cut, hget, toLits, mkAgg, tupOf, List.map_cons, List.map_nil, List.length_cons, List.length_nil, List.take_succ_cons, List.take_nil, List.drop_succ_cons, List.drop_zero, List.append_nil, List.replicate_zero, List.getD_cons_zero, List.length_map, Option.pure_def, Option.bind_eq_bind, Option.getD_some, Option.map_some, if_true, if_false, Nat.reduceEqDiff, Nat.zero_add, reduceCtorEq, Bool.false_eq_true, eq_self, true_and, and_true, and_self, decide_true, freeze, lidsL, lids, List.flatMap_cons, List.flatMap_nil, ren, Int.toNat_natCast, *]
                | simp (disch := omega) only [wrapI]
                | (with_reducible show wcall _ false (.lit (.func (.func 24) _ _)) _ _ _ _; refine wcall_fn (h24) ?_ ?_ ?_; (next => simp [rfyL, rfy, hget, ints, take_rfy, Int.toNat_natCast, l0, lid]); (next => simp [plainL, plain, plainR, Int.toNat_natCast, l0, lid]))
                | (with_reducible show wcallX _ false (.lit (.func (.func 24) _ _)) _ _ _ _; refine wcallX_fn (h24) ?_ ?_ ?_; (next => simp [rfyL, rfy, hget, ints, take_rfy, Int.toNat_natCast, l0, lid]); (next => simp [plainL, plain, plainR, Int.toNat_natCast, l0, lid]))
                | (with_reducible refine wdW_cons ?_ ?_; (next => simp [chk, foot, compatB, argsOf, St.get, target, ev, look, lidsL, kind, wids, tops, opds, topId, l0]; done))
                | omega)
              all_goals first | rfl | (simp [St.only, get_mk, look]; done)
            · have hge : decide (ph.getD k 0 ≥ 0) = false := decide_eq_false (by omega)
              clear hph hpc hpot hp'
              generalize f' k = u at *
              generalize mk ph.length f' = ML at *
              generalize hx : ph.getD k 0 = x at *
              unfold c7l0
              repeat' (first
                | ((with_reducible refine T_calm ?_ ?_); rfl)
                | with_reducible first
                  | refine T_seq ?_
                  | refine T_reg ?_
                  | refine T_draw ?_
                  | refine T_skip ?_
                  | refine T_exit ?_
                  | refine T_block ?_
                  | refine T_cond_t rfl ?_
                  | refine T_cond_f rfl ?_
                  | refine wdW_cons rfl ?_
                  | (show wcall _ false (.lit (.func (.func 24) _ _)) _ _ _ _; refine wcall_fn (h24) rfl (by simp [plainL, plain, plainR, Int.toNat_natCast, l0, lid]) ?_)
                  | (show wcallX _ false (.lit (.func (.func 24) _ _)) _ _ _ _; refine wcallX_fn (h24) rfl (by simp [plainL, plain, plainR, Int.toNat_natCast, l0, lid]) ?_)
                  | ((first | refine T_cond rfl (fun hc => ?_) (fun hc => ?_) | refine wguard_split (fun hc => ?_) (fun hc => ?_) | refine wguardX_split (fun hc => ?_) (fun hc => ?_)) <;> have hd := hc <;> (try simp (disch := omega) only [wrapI] at hd) <;> have hs := hd <;> (try simp only [decide_eq_true_eq, decide_eq_false_iff_not, Int.not_lt] at hd) <;> (try simp at hs))
                  | refine T_ret ?_
                  | refine leave_of (.inr rfl) _ rfl ?_
                  | refine leave_of (.inl rfl) _ rfl ?_
                  | refine leaveA_of (.inr rfl) _ rfl ?_
                  | refine leaveA_of (.inl rfl) _ rfl ?_
                  | refine wif_intro ?_ (fun hc => ?_)
                  | refine And.intro ?_ ?_
                  | intro hc
                | simp (maxSteps := 4000000) only [wops_nil, wops_cons, wstep_none, wrun_mv, wrun_pick, wrun_bin, wrun_load, wrun_faddr, wrun_iaddrS, wrun_len, wrunX_mv, wrunX_pick, wrunX_bin, wrunX_load, wrunX_faddr, wrunX_iaddrS, wdW_nil, wstepX_none, wstepX_some, wguardX_ft, get_mk, wop, aop, ev, look, put_some, writes, ores_some, ores_ite_none, ores_map, ores_bind, binV, thenK, blockK, intV, lenOf, value, cut, hget, toLits, mkAgg, tupOf, List.length_cons, List.length_nil, List.take_succ_cons, List.take_nil, List.drop_succ_cons, List.drop_zero, List.append_nil, List.replicate_zero, List.getD_cons_zero, List.length_map, Option.pure_def, Option.bind_eq_bind, Option.getD_some, Option.map_some, if_true, if_false, Nat.reduceEqDiff, Nat.zero_add, reduceCtorEq, Bool.false_eq_true, eq_self, true_and, and_true, and_self, decide_true, decide_false, ren, Int.toNat_natCast, *]
                | simp (disch := omega) only [wrapI]
                | (with_reducible show wcall _ false (.lit (.func (.func 24) _ _)) _ _ _ _; refine wcall_fn (h24) ?_ ?_ ?_; (next => simp [rfyL, rfy, hget, ints, take_rfy, Int.toNat_natCast, l0, lid]); (next => simp [plainL, plain, plainR, Int.toNat_natCast, l0, lid]))
                | (with_reducible show wcallX _ false (.lit (.func (.func 24) _ _)) _ _ _ _; refine wcallX_fn (h24) ?_ ?_ ?_; (next => simp [rfyL, rfy, hget, ints, take_rfy, Int.toNat_natCast, l0, lid]); (next => simp [plainL, plain, plainR, Int.toNat_natCast, l0, lid]))
                | (with_reducible refine wdW_cons ?_ ?_; (next => simp [chk, foot, compatB, argsOf, St.get, target, ev, look, lidsL, kind, wids, tops, opds, topId, l0]; done))
                | omega)
              all_goals first | rfl | (simp [St.only, get_mk, look]; done)
          · have hke : k = ph.length := by omega
            subst hke
            clear hpc hpot hp'
            unfold c7l0
            repeat' (first
              | ((with_reducible refine T_calm ?_ ?_); rfl)
              | with_reducible first
                | refine T_seq ?_
                | refine T_reg ?_
                | refine T_draw ?_
                | refine T_skip ?_
                | refine T_exit ?_
                | refine T_block ?_
                | refine T_cond_t rfl ?_
                | refine T_cond_f rfl ?_
                | refine wdW_cons rfl ?_
                | ((first | refine T_cond rfl (fun hc => ?_) (fun hc => ?_) | refine wguard_split (fun hc => ?_) (fun hc => ?_) | refine wguardX_split (fun hc => ?_) (fun hc => ?_)) <;> have hd := hc <;> (try simp (disch := omega) only [wrapI] at hd) <;> have hs := hd <;> (try simp only [decide_eq_true_eq, decide_eq_false_iff_not, Int.not_lt] at hd) <;> (try simp at hs))
                | refine T_ret ?_
                | refine leave_of (.inr rfl) _ rfl ?_
                | refine leave_of (.inl rfl) _ rfl ?_
                | refine leaveA_of (.inr rfl) _ rfl ?_
                | refine leaveA_of (.inl rfl) _ rfl ?_
                | refine wif_intro ?_ (fun hc => ?_)
                | refine And.intro ?_ ?_
                | intro hc
              | simp (maxSteps := 4000000) only [wops_nil, wops_cons, wstep_none, wrun_mv, wrun_bin, wrun_len, get_mk, wop, aop, ev, look, put_some, writes, ores_some, ores_map, ores_bind, binV, thenK, blockK, intV, lenOf, hget, tupOf, List.append_nil, List.replicate_zero, Option.pure_def, Option.bind_eq_bind, Option.getD_some, Option.map_some, if_true, if_false, Nat.reduceEqDiff, reduceCtorEq, eq_self, false_and, ren, *]
              | simp (disch := omega) only [getD_ints, wrapI]
              | omega)
            all_goals first | rfl | (simp [St.only, get_mk, look]; done)
        · exact (hno' (by have := pc_two hpc.down hpc' hpot.down; subst this; exact hpot.down)).elim
      · obtain ⟨o0, g0⟩ := hx1.cell (id := 0) rfl
        replace hpc := PLift.up hpc
        replace hno := PLift.up hno
        clear hx1 h42 h43 h41 h19
        repeat' (first
          | ((with_reducible refine T_calm ?_ ?_); rfl)
          | with_reducible first
            | refine T_seq ?_
            | refine T_reg ?_
            | refine T_draw ?_
            | refine T_skip ?_
            | refine T_exit ?_
            | refine T_block ?_
            | refine T_cond_t rfl ?_
            | refine T_cond_f rfl ?_
            | refine wdW_cons rfl ?_
            | (show wcall _ false (.lit (.func (.func 44) _ _)) _ _ _ _; refine wcall_fn (h44) rfl (by simp [plainL, plain]) ?_)
            | (show wcallX _ false (.lit (.func (.func 44) _ _)) _ _ _ _; refine wcallX_fn (h44) rfl (by simp [plainL, plain, plainR, take_rfyU, flat_intsU, freeze1]) ?_)
            | ((first | refine T_cond rfl (fun hc => ?_) (fun hc => ?_) | refine wguard_split (fun hc => ?_) (fun hc => ?_) | refine wguardX_split (fun hc => ?_) (fun hc => ?_)) <;> have hd := hc <;> (try simp (disch := omega) only [wrapI] at hd) <;> have hs := hd <;> (try simp only [Bool.not_eq_true', Bool.not_eq_false', Bool.and_eq_true, Bool.and_eq_false_iff, Bool.or_eq_true, Bool.or_eq_false_iff, decide_eq_true_eq, decide_eq_false_iff_not, beq_iff_eq, bne_iff_ne, beq_eq_false_iff_ne, bne_eq_false_iff_eq, Bool.not_true, Bool.not_false, gt_iff_lt, ge_iff_le, Int.not_lt, Int.not_le, ne_eq, Decidable.not_not] at hd) <;> (try simp at hs))
            | refine T_ret ?_
            | refine leave_of (.inr rfl) _ rfl ?_
            | refine leave_of (.inl rfl) _ rfl ?_
            | refine leaveA_of (.inr rfl) _ rfl ?_
            | refine leaveA_of (.inl rfl) _ rfl ?_
            | refine wif_intro ?_ (fun hc => ?_)
            | refine And.intro ?_ ?_
            | intro hc
          | simp (maxSteps := 4000000) only [wops_nil, wops_cons, wstep_none, wrun_call, wrun_mv, wrun_bin, wrun_ext, wrun_load, wop, aop, ev, look, put_some, writes, ores_some, binV, thenK, value, cut, hget, toLits, mkAgg, List.map_cons, List.map_nil, List.length_cons, List.length_nil, List.getElem?_cons_zero, List.getElem?_cons_succ, List.take_succ_cons, List.take_nil, List.drop_zero, List.append_nil, List.replicate_zero, List.getD_cons_zero, Option.getD_some, Option.map_some, Option.map_none, if_true, if_false, Nat.reduceEqDiff, Nat.reduceAdd, Nat.zero_add, Nat.zero_ne_one, reduceCtorEq, eq_self, freeze, lidsL, lids, List.flatMap_cons, List.flatMap_nil, ren, *]
          | simp (disch := omega) only [getD_ints, wrapI]
          | (with_reducible show wcall _ false (.lit (.func (.func 44) _ _)) _ _ _ _; refine wcall_fn (h44) ?_ ?_ ?_; (next => simp [rfyL, rfy, hget, ints, take_rfy, take_rfyU, flat_intsU, freeze1]); (next => simp [plainL, plain, plainR, take_rfyU, flat_intsU, freeze1]))
          | (with_reducible show wcallX _ false (.lit (.func (.func 44) _ _)) _ _ _ _; refine wcallX_fn (h44) ?_ ?_ ?_; (next => simp [rfyL, rfy, hget, ints, take_rfy, take_rfyU, flat_intsU, freeze1]); (next => simp [plainL, plain, plainR, take_rfyU, flat_intsU, freeze1]))
          | omega)
        refine wcall_45 h45.down (rL1U (rds_fm 1 _ _ _ _) (by omega)) (by simp [plainL, plain]) (fun o' f' id' H2 hx2 hpc' hpot' hid' => ?_) (fun o' f' H2 hx2 hpc' hno' => ?_)
        · exact (hno.down (by have := pc_two hpc' hpc.down hpot'; subst this; exact hpot')).elim
        · obtain ⟨o1, g1⟩ := hx2.cell g0
          obtain ⟨o2, hid2⟩ := hx2.cell hid
          have hzl : (czN L).length = L.length := mk_len ..
          have h46 := k46 w nil false ph (czN L) hl (by omega) hp'.down hw
          have h47 := k47 w false false ph (czN L) hl (by omega) hc'.down hp'.down hw
          have q43 := PLift.up (g43 w nil ph hl)
          have q28 := PLift.up (g28 false (czN L) (by omega))
          generalize hq : chkLp w ph (czN L) = q at *
          obtain ⟨q1, q2⟩ := q
          dsimp only at hch h46 h47
          subst hch
          have hgt : decide (((L.length : Nat) : Int) > ((ph.length : Nat) : Int)) = false := decide_eq_false (by omega)
          replace h46 := PLift.up h46
          replace h47 := PLift.up h47
          have r1 := PLift.up (rds_lsl (d := 1) hid2 hzl)
          clear hx2 g0 hid h45 h44 hpc' hno' hno hpc hq
          replace hzl := PLift.up hzl
          repeat' (first
            | ((with_reducible refine T_calm ?_ ?_); rfl)
            | with_reducible first
              | refine T_seq ?_
              | refine T_reg ?_
              | refine T_draw ?_
              | refine T_skip ?_
              | refine T_exit ?_
              | refine T_block ?_
              | refine T_cond_t rfl ?_
              | refine T_cond_f rfl ?_
              | refine wdW_cons rfl ?_
              | ((first | refine T_cond rfl (fun hc => ?_) (fun hc => ?_) | refine wguard_split (fun hc => ?_) (fun hc => ?_) | refine wguardX_split (fun hc => ?_) (fun hc => ?_)) <;> have hd := hc <;> (try simp (disch := omega) only [wrapI] at hd) <;> have hs := hd <;> (try simp only [bne_iff_ne, bne_eq_false_iff_eq, Bool.not_false, ne_eq] at hd) <;> (try simp at hs))
              | refine T_ret ?_
              | refine leave_of (.inr rfl) _ rfl ?_
              | refine leave_of (.inl rfl) _ rfl ?_
              | refine leaveA_of (.inr rfl) _ rfl ?_
              | refine leaveA_of (.inl rfl) _ rfl ?_
              | refine wif_intro ?_ (fun hc => ?_)
              | refine And.intro ?_ ?_
              | intro hc
            | simp (maxSteps := 4000000) only [wops_nil, wops_cons, wstep_none, wstep_some, wguard_ff, wrun_call, wrun_mv, wrun_pick, wrun_bin, wrun_not, wrun_ext, wrun_load, wrun_faddr, wrun_len, wop, aop, ev, look, put_some, writes, ores_some, ores_map, ores_bind, binV, thenK, boolV, intV, lenOf, value, cut, hget, toLits, mkAgg, List.map_cons, List.map_nil, List.length_cons, List.length_nil, List.getElem?_cons_zero, List.getElem?_cons_succ, List.take_succ_cons, List.take_nil, List.drop_succ_cons, List.drop_zero, List.append_nil, List.replicate_zero, List.getD_cons_zero, List.length_map, Option.pure_def, Option.bind_eq_bind, Option.getD_some, Option.map_some, Option.map_none, Option.bind_some, if_true, if_false, Nat.reduceEqDiff, Nat.reduceAdd, Nat.zero_add, Nat.zero_ne_one, reduceCtorEq, Bool.not_false, Bool.false_eq_true, eq_self, *]
            | simp (disch := omega) only [getD_ints, wrapI]
            | omega)
          refine wcall_E0 h46.down rfl (rLU (rds_fm 1 _ _ _ _) r1.down (by omega) (by omega)) (by simp [plainL, plain]) fun H3 hx3 => ?_
          obtain ⟨o3, g3⟩ := hx3.cell g1
          have r2 := PLift.up (r1.down.ext hx3)
          clear hx3 g1 hid2 r1 h46
          repeat' (first
            | ((with_reducible refine T_calm ?_ ?_); rfl)
            | with_reducible first
              | refine T_seq ?_
              | refine T_reg ?_
              | refine T_draw ?_
              | refine T_skip ?_
              | refine T_exit ?_
              | refine T_block ?_
              | refine T_cond_t rfl ?_
              | refine T_cond_f rfl ?_
              | refine wdW_cons rfl ?_
              | ((first | refine T_cond rfl (fun hc => ?_) (fun hc => ?_) | refine wguard_split (fun hc => ?_) (fun hc => ?_) | refine wguardX_split (fun hc => ?_) (fun hc => ?_)) <;> have hd := hc <;> (try simp (disch := omega) only [wrapI] at hd) <;> have hs := hd <;> (try simp only [Bool.not_eq_true', Bool.not_eq_false', Bool.and_eq_true, Bool.and_eq_false_iff, Bool.or_eq_true, Bool.or_eq_false_iff, decide_eq_true_eq, decide_eq_false_iff_not, beq_iff_eq, bne_iff_ne, beq_eq_false_iff_ne, bne_eq_false_iff_eq, Bool.not_true, Bool.not_false, gt_iff_lt, ge_iff_le, Int.not_lt, Int.not_le, ne_eq, Decidable.not_not] at hd) <;> (try simp at hs))
              | refine T_ret ?_
              | refine leave_of (.inr rfl) _ rfl ?_
              | refine leave_of (.inl rfl) _ rfl ?_
              | refine leaveA_of (.inr rfl) _ rfl ?_
              | refine leaveA_of (.inl rfl) _ rfl ?_
              | refine wif_intro ?_ (fun hc => ?_)
              | refine And.intro ?_ ?_
              | intro hc
            | simp (maxSteps := 4000000) only [wops_nil, wops_cons, wstep_none, wrun_call, wrun_mv, wrun_ext, wrun_load, wop, aop, ev, look, put_some, writes, ores_some, thenK, value, cut, hget, toLits, mkAgg, List.map_cons, List.map_nil, List.length_cons, List.length_nil, List.getElem?_cons_zero, List.getElem?_cons_succ, List.take_succ_cons, List.take_nil, List.drop_zero, List.append_nil, List.replicate_zero, List.getD_cons_zero, Option.getD_some, Option.map_some, Option.map_none, if_true, if_false, Nat.reduceEqDiff, Nat.reduceAdd, Nat.zero_add, Nat.zero_ne_one, reduceCtorEq, eq_self, *]
            | simp (disch := omega) only [getD_ints, wrapI]
            | omega)
          refine wcall_E1 q43.down (rL1U (rds_fm 1 _ _ _ _) (by omega)) (by simp [plainL, plain]) fun v1 H4 hx4 hv1 => ?_
          have r3 := PLift.up (r2.down.ext hx4)
          replace hv1 := PLift.up hv1
          clear hx4 r2 g3 q43
          repeat' (first
            | ((with_reducible refine T_calm ?_ ?_); rfl)
            | with_reducible first
              | refine T_seq ?_
              | refine T_reg ?_
              | refine T_draw ?_
              | refine T_skip ?_
              | refine T_exit ?_
              | refine T_block ?_
              | refine T_cond_t rfl ?_
              | refine T_cond_f rfl ?_
              | refine wdW_cons rfl ?_
              | ((first | refine T_cond rfl (fun hc => ?_) (fun hc => ?_) | refine wguard_split (fun hc => ?_) (fun hc => ?_) | refine wguardX_split (fun hc => ?_) (fun hc => ?_)) <;> have hd := hc <;> (try simp (disch := omega) only [wrapI] at hd) <;> have hs := hd <;> (try simp only [Bool.not_eq_true', Bool.not_eq_false', Bool.and_eq_true, Bool.and_eq_false_iff, Bool.or_eq_true, Bool.or_eq_false_iff, decide_eq_true_eq, decide_eq_false_iff_not, beq_iff_eq, bne_iff_ne, beq_eq_false_iff_ne, bne_eq_false_iff_eq, Bool.not_true, Bool.not_false, gt_iff_lt, ge_iff_le, Int.not_lt, Int.not_le, ne_eq, Decidable.not_not] at hd) <;> (try simp at hs))
              | refine T_ret ?_
              | refine leave_of (.inr rfl) _ rfl ?_
              | refine leave_of (.inl rfl) _ rfl ?_
              | refine leaveA_of (.inr rfl) _ rfl ?_
              | refine leaveA_of (.inl rfl) _ rfl ?_
              | refine wif_intro ?_ (fun hc => ?_)
              | refine And.intro ?_ ?_
              | intro hc
            | simp (maxSteps := 4000000) only [wops_cons, wstep_none, wrun_call, wrun_mv, wop, aop, ev, look, put_some, writes, ores_some, List.map_cons, List.map_nil, if_true, if_false, Nat.reduceEqDiff, reduceCtorEq, eq_self, *]
            | simp (disch := omega) only [getD_ints, wrapI]
            | omega)
          refine wcall_E1 q28.down (rL1U r3.down (by omega)) (by simp [plainL, plain]) fun v2 H5 hx5 hv2 => ?_
          have r4 := PLift.up (hv1.down.ext hx5)
          replace hv2 := PLift.up hv2
          clear hx5 r3 hv1 q28
          repeat' (first
            | ((with_reducible refine T_calm ?_ ?_); rfl)
            | with_reducible first
              | refine T_seq ?_
              | refine T_reg ?_
              | refine T_draw ?_
              | refine T_skip ?_
              | refine T_exit ?_
              | refine T_block ?_
              | refine T_cond_t rfl ?_
              | refine T_cond_f rfl ?_
              | refine wdW_cons rfl ?_
              | ((first | refine T_cond rfl (fun hc => ?_) (fun hc => ?_) | refine wguard_split (fun hc => ?_) (fun hc => ?_) | refine wguardX_split (fun hc => ?_) (fun hc => ?_)) <;> have hd := hc <;> (try simp (disch := omega) only [wrapI] at hd) <;> have hs := hd <;> (try simp only [Bool.not_eq_true', Bool.not_eq_false', Bool.and_eq_true, Bool.and_eq_false_iff, Bool.or_eq_true, Bool.or_eq_false_iff, decide_eq_true_eq, decide_eq_false_iff_not, beq_iff_eq, bne_iff_ne, beq_eq_false_iff_ne, bne_eq_false_iff_eq, Bool.not_true, Bool.not_false, gt_iff_lt, ge_iff_le, Int.not_lt, Int.not_le, ne_eq, Decidable.not_not] at hd) <;> (try simp at hs))
              | refine T_ret ?_
              | refine leave_of (.inr rfl) _ rfl ?_
              | refine leave_of (.inl rfl) _ rfl ?_
              | refine leaveA_of (.inr rfl) _ rfl ?_
              | refine leaveA_of (.inl rfl) _ rfl ?_
              | refine wif_intro ?_ (fun hc => ?_)
              | refine And.intro ?_ ?_
              | intro hc
            | simp (maxSteps := 4000000) only [wops_cons, wstep_none, wrun_call, ev, look, put_some, List.map_cons, List.map_nil, if_true, if_false, Nat.reduceEqDiff, reduceCtorEq, eq_self, *]
            | simp (disch := omega) only [getD_ints, wrapI]
            | omega)
          refine wcall_E0 h47.down rfl (rLU r4.down hv2.down (by omega) (by omega)) (by simp [plainL, plain]) fun H6 hx6 => ?_
          clear hx6 r4 hv2 h47
          repeat' (first
            | ((with_reducible refine T_calm ?_ ?_); rfl)
            | with_reducible first
              | refine T_seq ?_
              | refine T_reg ?_
              | refine T_draw ?_
              | refine T_skip ?_
              | refine T_exit ?_
              | refine T_block ?_
              | refine T_cond_t rfl ?_
              | refine T_cond_f rfl ?_
              | refine wdW_cons rfl ?_
              | ((first | refine T_cond rfl (fun hc => ?_) (fun hc => ?_) | refine wguard_split (fun hc => ?_) (fun hc => ?_) | refine wguardX_split (fun hc => ?_) (fun hc => ?_)) <;> have hd := hc <;> (try simp (disch := omega) only [wrapI] at hd) <;> have hs := hd <;> (try simp only [Bool.not_eq_true', Bool.not_eq_false', Bool.and_eq_true, Bool.and_eq_false_iff, Bool.or_eq_true, Bool.or_eq_false_iff, decide_eq_true_eq, decide_eq_false_iff_not, beq_iff_eq, bne_iff_ne, beq_eq_false_iff_ne, bne_eq_false_iff_eq, Bool.not_true, Bool.not_false, gt_iff_lt, ge_iff_le, Int.not_lt, Int.not_le, ne_eq, Decidable.not_not] at hd) <;> (try simp at hs))
              | refine T_ret ?_
              | refine leave_of (.inr rfl) _ rfl ?_
              | refine leave_of (.inl rfl) _ rfl ?_
              | refine leaveA_of (.inr rfl) _ rfl ?_
              | refine leaveA_of (.inl rfl) _ rfl ?_
              | refine wif_intro ?_ (fun hc => ?_)
              | refine And.intro ?_ ?_
              | intro hc
            | simp (maxSteps := 4000000) only [wops_nil, wops_cons, wstep_none, wstep_some, wguard_true, wrun_mv, wrun_pick, wrun_bin, wrun_ext, get_mk, wop, aop, ev, look, put_some, writes, ores_some, binV, thenK, tupOf, List.getElem?_cons_zero, List.getElem?_cons_succ, List.append_nil, List.replicate_zero, Option.map_some, if_true, if_false, Nat.reduceEqDiff, reduceCtorEq, eq_self, beq_self_eq_true, ren, *]
            | simp (disch := omega) only [getD_ints, wrapI]
            | omega)
          all_goals first | rfl
    · have h62 := k62 w false ph hl2
      have h42 := k42e w false ph hl hc
      replace hsm := True.intro
      unfold c7
      repeat' (first
        | ((with_reducible refine T_calm ?_ ?_); rfl)
        | with_reducible first
          | refine T_seq ?_
          | refine T_reg ?_
          | refine T_draw ?_
          | refine T_skip ?_
          | refine T_exit ?_
          | refine T_block ?_
          | refine T_cond_t rfl ?_
          | refine T_cond_f rfl ?_
          | refine wdW_cons rfl ?_
          | (show wcall _ false (.lit (.func (.func 19) _ _)) _ _ _ _; refine wcall_fn (h19) rfl (by simp [plainL]) ?_)
          | (show wcallX _ false (.lit (.func (.func 19) _ _)) _ _ _ _; refine wcallX_fn (h19) rfl (by simp [plainL, plain, plainR, take_rfyU, flat_intsU, freeze1]) ?_)
          | (show wcall _ false (.lit (.func (.func 41) _ _)) _ _ _ _; refine wcall_fn (h41) rfl (by simp [plainL, plain]) ?_)
          | (show wcallX _ false (.lit (.func (.func 41) _ _)) _ _ _ _; refine wcallX_fn (h41) rfl (by simp [plainL, plain, plainR, take_rfyU, flat_intsU, freeze1]) ?_)
          | (show wcall _ false (.lit (.func (.func 43) _ _)) _ _ _ _; refine wcall_fn (h43) rfl (by simp [plainL, plain]) ?_)
          | (show wcallX _ false (.lit (.func (.func 43) _ _)) _ _ _ _; refine wcallX_fn (h43) rfl (by simp [plainL, plain, plainR, take_rfyU, flat_intsU, freeze1]) ?_)
          | (show wcall _ false (.lit (.func (.func 42) _ _)) _ _ _ _; refine wcall_fn (h42) rfl (by simp [plainL, plain]) ?_)
          | (show wcallX _ false (.lit (.func (.func 42) _ _)) _ _ _ _; refine wcallX_fn (h42) rfl (by simp [plainL, plain, plainR, take_rfyU, flat_intsU, freeze1]) ?_)
          | (show wcall _ false (.lit (.func (.func 44) _ _)) _ _ _ _; refine wcall_fn (h44) rfl (by simp [plainL, plain]) ?_)
          | (show wcallX _ false (.lit (.func (.func 44) _ _)) _ _ _ _; refine wcallX_fn (h44) rfl (by simp [plainL, plain, plainR, take_rfyU, flat_intsU, freeze1]) ?_)
          | ((first | refine T_cond rfl (fun hc => ?_) (fun hc => ?_) | refine wguard_split (fun hc => ?_) (fun hc => ?_) | refine wguardX_split (fun hc => ?_) (fun hc => ?_)) <;> have hd := hc <;> (try simp (disch := omega) only [wrapI] at hd) <;> have hs := hd <;> (try simp only [bne_iff_ne, bne_eq_false_iff_eq, ne_eq] at hd) <;> (try simp at hs))
          | refine T_ret ?_
          | refine leave_of (.inr rfl) _ rfl ?_
          | refine leave_of (.inl rfl) _ rfl ?_
          | refine leaveA_of (.inr rfl) _ rfl ?_
          | refine leaveA_of (.inl rfl) _ rfl ?_
          | refine wif_intro ?_ (fun hc => ?_)
          | refine And.intro ?_ ?_
          | intro hc
        | simp (maxSteps := 4000000) only [wops_nil, wops_cons, wstep_none, wstep_some, wguard_true, wrun_call, wrun_mv, wrun_pick, wrun_bin, wrun_not, wrun_ext, wrun_load, wrun_len, wrun_box, get_mk, wop, aop, ev, look, put_some, writes, ores_some, ores_map, ores_bind, binV, thenK, boolV, intV, lenOf, value, cut, hget, AV.parts, isOne, toLits, mkAgg, tupOf, List.map_cons, List.map_nil, List.length_cons, List.length_nil, List.getElem?_cons_zero, List.getElem?_cons_succ, List.set_cons_zero, List.set_cons_succ, List.take_succ_cons, List.take_nil, List.drop_zero, List.cons_append, List.nil_append, List.append_nil, List.replicate_zero, List.replicate_succ, List.getD_cons_zero, List.zipIdx_cons, List.zipIdx_nil, List.all_cons, List.all_nil, Option.pure_def, Option.bind_eq_bind, Option.getD_some, Option.map_some, Option.map_none, if_true, if_false, Nat.reduceEqDiff, Nat.reduceAdd, Nat.add_zero, Nat.zero_add, Nat.zero_ne_one, reduceCtorEq, Bool.not_true, Bool.and_true, eq_self, true_and, and_self, beq_self_eq_true, freeze, lidsL, lids, List.flatMap_cons, List.flatMap_nil, List.all_cons, ren, renL, renR, renB, shiftρ, renR_ints, flat_intsU, freeze1, *]
        | simp (disch := omega) only [wrapI]
        | (with_reducible show wcall _ false (.lit (.func (.func 19) _ _)) _ _ _ _; refine wcall_fn (h19) ?_ ?_ ?_; (next => simp [rfyL, rfy, hget, ints, take_rfy, take_rfyU, flat_intsU, freeze1]); (next => simp [plainL, plain, plainR, take_rfyU, flat_intsU, freeze1]))
        | (with_reducible show wcallX _ false (.lit (.func (.func 19) _ _)) _ _ _ _; refine wcallX_fn (h19) ?_ ?_ ?_; (next => simp [rfyL, rfy, hget, ints, take_rfy, take_rfyU, flat_intsU, freeze1]); (next => simp [plainL, plain, plainR, take_rfyU, flat_intsU, freeze1]))
        | (with_reducible show wcall _ false (.lit (.func (.func 41) _ _)) _ _ _ _; refine wcall_fn (h41) ?_ ?_ ?_; (next => simp [rfyL, rfy, hget, ints, take_rfy, take_rfyU, flat_intsU, freeze1]); (next => simp [plainL, plain, plainR, take_rfyU, flat_intsU, freeze1]))
        | (with_reducible show wcallX _ false (.lit (.func (.func 41) _ _)) _ _ _ _; refine wcallX_fn (h41) ?_ ?_ ?_; (next => simp [rfyL, rfy, hget, ints, take_rfy, take_rfyU, flat_intsU, freeze1]); (next => simp [plainL, plain, plainR, take_rfyU, flat_intsU, freeze1]))
        | (with_reducible show wcall _ false (.lit (.func (.func 43) _ _)) _ _ _ _; refine wcall_fn (h43) ?_ ?_ ?_; (next => simp [rfyL, rfy, hget, ints, take_rfy, take_rfyU, flat_intsU, freeze1]); (next => simp [plainL, plain, plainR, take_rfyU, flat_intsU, freeze1]))
        | (with_reducible show wcallX _ false (.lit (.func (.func 43) _ _)) _ _ _ _; refine wcallX_fn (h43) ?_ ?_ ?_; (next => simp [rfyL, rfy, hget, ints, take_rfy, take_rfyU, flat_intsU, freeze1]); (next => simp [plainL, plain, plainR, take_rfyU, flat_intsU, freeze1]))
        | (with_reducible show wcall _ false (.lit (.func (.func 42) _ _)) _ _ _ _; refine wcall_fn (h42) ?_ ?_ ?_; (next => simp [rfyL, rfy, hget, ints, take_rfyU]); (next => simp [plainL, plain]))
        | (with_reducible show wcallX _ false (.lit (.func (.func 42) _ _)) _ _ _ _; refine wcallX_fn (h42) ?_ ?_ ?_; (next => simp [rfyL, rfy, hget, ints, take_rfy, take_rfyU, flat_intsU, freeze1]); (next => simp [plainL, plain, plainR, take_rfyU, flat_intsU, freeze1]))
        | (with_reducible show wcall _ false (.lit (.func (.func 44) _ _)) _ _ _ _; refine wcall_fn (h44) ?_ ?_ ?_; (next => simp [rfyL, rfy, hget, ints, take_rfy, take_rfyU, flat_intsU, freeze1]); (next => simp [plainL, plain, plainR, take_rfyU, flat_intsU, freeze1]))
        | (with_reducible show wcallX _ false (.lit (.func (.func 44) _ _)) _ _ _ _; refine wcallX_fn (h44) ?_ ?_ ?_; (next => simp [rfyL, rfy, hget, ints, take_rfy, take_rfyU, flat_intsU, freeze1]); (next => simp [plainL, plain, plainR, take_rfyU, flat_intsU, freeze1]))
        | omega)
      all_goals first | rfl
end Go.Abs
