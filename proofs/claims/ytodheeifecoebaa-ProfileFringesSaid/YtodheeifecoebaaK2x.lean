import Derived.Test.YtodheeifecoebaaK1x
set_option linter.all false
set_option linter.unusedVariables false
set_option linter.unusedSimpArgs false
set_option linter.unusedSectionVars false
namespace Go.Abs
open Go.Proofs
def zonesErr : Int → List Int → Int
  | _, [] => 0
  | before, r :: rs => if 1 ≤ r ∧ r ≤ 1000000 then (if r ≤ before then 9 else zonesErr r rs) else 2
def checkZones (xs : List Int) : Int := if 1 ≤ xs.length ∧ xs.length ≤ 40 then zonesErr 0 xs else 10
theorem drop_q {xs : List Int} {k : Nat} (h : k < xs.length) : xs.drop k = xs[k]?.getD 0 :: xs.drop (k + 1) := by
  rw [List.drop_eq_getElem_cons h]; simp [h]
set_option maxHeartbeats 8000000 in
theorem k67 (nil : Bool) (xs : List Int) (hl : xs.length < 4611686018427387904) : Fn Try.prog 67 [ints nil xs] (i64 (checkZones xs)) [] := by
  refine fn_of e67 ?_
  unfold c67 ints checkZones
  repeat' (first
    | (with_reducible refine T_seq ?_)
    | (with_reducible refine T_reg ?_)
    | ((with_reducible refine T_calm ?_ ?_); rfl)
    | (with_reducible refine T_draw ?_)
    | (with_reducible refine T_skip ?_)
    | (with_reducible refine T_exit ?_)
    | (with_reducible refine T_block ?_)
    | (with_reducible (show T _ _ _ _ _ (.cond _ _ _) _ _); first | (refine T_cond_t rfl ?_) | (refine T_cond_f rfl ?_) | (refine T_cond rfl (fun hc => ?_) (fun hc => ?_) <;> have hd := hc <;> (try simp (disch := omega) only [wrapI] at hd) <;> have hs := hd <;> (try simp only [Bool.not_eq_true', Bool.not_eq_false', Bool.and_eq_true, Bool.and_eq_false_iff, Bool.or_eq_true, Bool.or_eq_false_iff, decide_eq_true_eq, decide_eq_false_iff_not, beq_iff_eq, bne_iff_ne, beq_eq_false_iff_ne, bne_eq_false_iff_eq, Bool.not_true, Bool.not_false, gt_iff_lt, ge_iff_le, Int.not_lt, Int.not_le, ne_eq, Decidable.not_not] at hd) <;> (try simp at hs)))
    | (with_reducible (show wdW _ _ _ (_ :: _) _ _ _); refine wdW_cons rfl ?_)
    | (with_reducible (show wcall _ false (.lit (.func (.func 92) _ _)) _ _ _ _); refine wcall_fn (k92 _ _ _) rfl (by simp [plainL, plain, plainR]) ?_)
    | (with_reducible (show wcallX _ false (.lit (.func (.func 92) _ _)) _ _ _ _); refine wcallX_fn (k92 _ _ _) rfl (by simp [plainL, plain, plainR]) ?_)
    | (with_reducible refine wguard_split (fun hc => ?_) (fun hc => ?_) <;> have hd := hc <;> (try simp (disch := omega) only [wrapI] at hd) <;> have hs := hd <;> (try simp only [Bool.not_eq_true', Bool.not_eq_false', Bool.and_eq_true, Bool.and_eq_false_iff, Bool.or_eq_true, Bool.or_eq_false_iff, decide_eq_true_eq, decide_eq_false_iff_not, beq_iff_eq, bne_iff_ne, beq_eq_false_iff_ne, bne_eq_false_iff_eq, Bool.not_true, Bool.not_false, gt_iff_lt, ge_iff_le, Int.not_lt, Int.not_le, ne_eq, Decidable.not_not] at hd) <;> (try simp at hs))
    | (with_reducible refine wguardX_split (fun hc => ?_) (fun hc => ?_) <;> have hd := hc <;> (try simp (disch := omega) only [wrapI] at hd) <;> have hs := hd <;> (try simp only [Bool.not_eq_true', Bool.not_eq_false', Bool.and_eq_true, Bool.and_eq_false_iff, Bool.or_eq_true, Bool.or_eq_false_iff, decide_eq_true_eq, decide_eq_false_iff_not, beq_iff_eq, bne_iff_ne, beq_eq_false_iff_ne, bne_eq_false_iff_eq, Bool.not_true, Bool.not_false, gt_iff_lt, ge_iff_le, Int.not_lt, Int.not_le, ne_eq, Decidable.not_not] at hd) <;> (try simp at hs))
    | (with_reducible refine T_ret ?_)
    | (with_reducible (show leave _ _ _ _ _); first | (refine leave_of (.inr rfl) _ rfl ?_) | (refine leave_of (.inl rfl) _ rfl ?_))
    | (with_reducible (show leaveA _ _ _ _); first | (refine leaveA_of (.inr rfl) _ rfl ?_) | (refine leaveA_of (.inl rfl) _ rfl ?_))
    | (with_reducible refine wif_intro ?_ (fun hc => ?_))
    | (with_reducible refine And.intro ?_ ?_)
    | (with_reducible intro hc)
    | (simp only [wops_nil, wops_cons, wstep_none, wstep_some, wguard_true, wguard_ff, wguard_tf, wguard_ft, wguard_undef, wguardX_undef, wrun_call, wrun_mv, wrun_pick, wrun_bin, wrun_eqAgg, wrun_eqBool, wrun_eqNil, wrun_neg, wrun_not, wrun_cvInt, wrun_cvStr, wrun_ext, wrun_fld, wrun_build, wrun_load, wrun_store, wrun_faddr, wrun_iaddrS, wrun_iaddrA, wrun_idxA, wrun_idxS, wrun_slc, wrun_slc0, wrun_slcS, wrun_len, wrun_lenS, wrun_mkf, wrun_nilck, wrun_minmax, wrun_copy, wrun_mlook, wrun_mset, wrun_alloc, wrun_box, wrun_bslice, wrun_app, wrun_mks, wrun_mkmap, wrunX_mv, wrunX_pick, wrunX_bin, wrunX_eqAgg, wrunX_eqBool, wrunX_eqNil, wrunX_neg, wrunX_not, wrunX_cvInt, wrunX_cvStr, wrunX_ext, wrunX_fld, wrunX_build, wrunX_load, wrunX_store, wrunX_faddr, wrunX_iaddrS, wrunX_iaddrA, wrunX_idxA, wrunX_idxS, wrunX_slc, wrunX_slc0, wrunX_slcS, wrunX_len, wrunX_lenS, wrunX_mkf, wrunX_nilck, wrunX_minmax, wrunX_copy, wrunX_mlook, wrunX_mset, wrunX_alloc, wrunX_box, wrunX_bslice, wrunX_app, wrunX_mks, wrunX_mkmap, wdW_nil, wstepX_none, wstepX_some, wguardX_true, wguardX_ff, wguardX_tf, wguardX_ft, wrunX_call, get_mk, wop, aop, ev, look, put_some, put_none, writes, ores_some, ores_none, ores_ite_none, ores_none_ite, ores_map, ores_bind, wif_true, binV, thenK, blockK, boolV, intV, lenOf, elsOf, szOk, value, cut, hget, fillA, putCells, AV.parts, isOne, toLits, mkAgg, boundOf, asNat, tupOf, ofValue_int, ofValue_bool, ofValue_str, cellsEq, cellEq, List.map_cons, List.map_nil, List.length_cons, List.length_nil, List.getElem?_cons_zero, List.getElem?_cons_succ, List.getElem?_nil, List.set_cons_zero, List.set_cons_succ, List.take_succ_cons, List.take_zero, List.take_nil, List.drop_succ_cons, List.drop_zero, List.drop_nil, List.cons_append, List.nil_append, List.append_nil, List.append_assoc, List.replicate_zero, List.replicate_succ, List.replicate_one, List.getD_cons_zero, List.getD_cons_succ, List.zipIdx_cons, List.zipIdx_nil, List.all_cons, List.all_nil, List.isEmpty_cons, List.isEmpty_nil, List.length_append, List.length_map, List.length_replicate, Option.pure_def, Option.bind_eq_bind, Option.getD_some, Option.getD_none, Option.map_some, Option.map_none, Option.bind_some, Option.bind_none, Option.some.injEq, if_true, if_false, ite_true, ite_false, reduceIte, Nat.reduceEqDiff, Nat.reduceAdd, Nat.reduceSub, Nat.reduceMul, Nat.reduceLeDiff, Nat.reduceLT, Nat.reduceBEq, Nat.add_zero, Nat.zero_add, Nat.sub_zero, Nat.sub_self, Nat.zero_mul, Nat.mul_one, Nat.le_refl, Nat.zero_ne_one, reduceCtorEq, Bool.not_true, Bool.not_false, Bool.and_true, Bool.true_and, Bool.and_false, Bool.false_and, Bool.or_true, Bool.or_false, Bool.true_or, Bool.false_or, Bool.false_eq_true, eq_self, true_and, and_true, and_self, true_implies, false_implies, false_and, and_false, implies_true, not_false_eq_true, not_true_eq_false, decide_true, decide_false, ne_eq, beq_self_eq_true, Nat.min_self, Int.reduceNeg, freeze, lidsL, lids, rfyL, rfy, List.flatMap_cons, List.flatMap_nil, plain, plainL, plainR, List.all_cons, ren, renL, renR, renB, renO, keepρ, shiftρ, pos, Nat.not_lt_zero, renR_ints, plainR_ints, *])
    | (simp (disch := omega) only [getD_ints, wrapI])
    | (with_reducible (show wcall _ false (.lit (.func (.func 92) _ _)) _ _ _ _); refine wcall_fn (k92 _ _ _) (by simp [rfyL, rfy, hget, ints, take_rfy]) (by simp [plainL, plain, plainR]) ?_)
    | (with_reducible (show wcallX _ false (.lit (.func (.func 92) _ _)) _ _ _ _); refine wcallX_fn (k92 _ _ _) (by simp [rfyL, rfy, hget, ints, take_rfy]) (by simp [plainL, plain, plainR]) ?_)
    | omega)
  · rw [if_neg (by omega)]
  · rw [if_pos (by omega)]
    refine T_for [3, 10, 11, 12] (fun k => ⟨[(3, i64 ((0 :: xs)[k]?.getD 0)), (10, ints nil xs), (11, i64 xs.length), (12, i64 k)], []⟩) xs.length (fun k => zonesErr ((0 :: xs)[k]?.getD 0) (xs.drop k) = zonesErr 0 xs) 0 ?_ ?_ (by omega) ?_
    · simp [St.only, get_mk, look, ints]
    · simp
    · intro k hk hI
      unfold c67l0 ints
      repeat' (first
        | (with_reducible refine T_seq ?_)
        | (with_reducible refine T_reg ?_)
        | ((with_reducible refine T_calm ?_ ?_); rfl)
        | (with_reducible refine T_draw ?_)
        | (with_reducible refine T_skip ?_)
        | (with_reducible refine T_exit ?_)
        | (with_reducible refine T_block ?_)
        | (with_reducible (show T _ _ _ _ _ (.cond _ _ _) _ _); first | (refine T_cond_t rfl ?_) | (refine T_cond_f rfl ?_) | (refine T_cond rfl (fun hc => ?_) (fun hc => ?_) <;> have hd := hc <;> (try simp (disch := omega) only [wrapI] at hd) <;> have hs := hd <;> (try simp only [Bool.not_eq_true', Bool.not_eq_false', Bool.and_eq_true, Bool.and_eq_false_iff, Bool.or_eq_true, Bool.or_eq_false_iff, decide_eq_true_eq, decide_eq_false_iff_not, beq_iff_eq, bne_iff_ne, beq_eq_false_iff_ne, bne_eq_false_iff_eq, Bool.not_true, Bool.not_false, gt_iff_lt, ge_iff_le, Int.not_lt, Int.not_le, ne_eq, Decidable.not_not] at hd) <;> (try simp at hs)))
        | (with_reducible (show wdW _ _ _ (_ :: _) _ _ _); refine wdW_cons rfl ?_)
        | (with_reducible (show wcall _ false (.lit (.func (.func 92) _ _)) _ _ _ _); refine wcall_fn (k92 _ _ _) rfl (by simp [plainL, plain, plainR]) ?_)
        | (with_reducible (show wcallX _ false (.lit (.func (.func 92) _ _)) _ _ _ _); refine wcallX_fn (k92 _ _ _) rfl (by simp [plainL, plain, plainR]) ?_)
        | (with_reducible refine wguard_split (fun hc => ?_) (fun hc => ?_) <;> have hd := hc <;> (try simp (disch := omega) only [wrapI] at hd) <;> have hs := hd <;> (try simp only [Bool.not_eq_true', Bool.not_eq_false', Bool.and_eq_true, Bool.and_eq_false_iff, Bool.or_eq_true, Bool.or_eq_false_iff, decide_eq_true_eq, decide_eq_false_iff_not, beq_iff_eq, bne_iff_ne, beq_eq_false_iff_ne, bne_eq_false_iff_eq, Bool.not_true, Bool.not_false, gt_iff_lt, ge_iff_le, Int.not_lt, Int.not_le, ne_eq, Decidable.not_not] at hd) <;> (try simp at hs))
        | (with_reducible refine wguardX_split (fun hc => ?_) (fun hc => ?_) <;> have hd := hc <;> (try simp (disch := omega) only [wrapI] at hd) <;> have hs := hd <;> (try simp only [Bool.not_eq_true', Bool.not_eq_false', Bool.and_eq_true, Bool.and_eq_false_iff, Bool.or_eq_true, Bool.or_eq_false_iff, decide_eq_true_eq, decide_eq_false_iff_not, beq_iff_eq, bne_iff_ne, beq_eq_false_iff_ne, bne_eq_false_iff_eq, Bool.not_true, Bool.not_false, gt_iff_lt, ge_iff_le, Int.not_lt, Int.not_le, ne_eq, Decidable.not_not] at hd) <;> (try simp at hs))
        | (with_reducible refine T_ret ?_)
        | (with_reducible (show leave _ _ _ _ _); first | (refine leave_of (.inr rfl) _ rfl ?_) | (refine leave_of (.inl rfl) _ rfl ?_))
        | (with_reducible (show leaveA _ _ _ _); first | (refine leaveA_of (.inr rfl) _ rfl ?_) | (refine leaveA_of (.inl rfl) _ rfl ?_))
        | (with_reducible refine wif_intro ?_ (fun hc => ?_))
        | (with_reducible refine And.intro ?_ ?_)
        | (with_reducible intro hc)
        | (simp only [wops_nil, wops_cons, wstep_none, wstep_some, wguard_true, wguard_ff, wguard_tf, wguard_ft, wguard_undef, wguardX_undef, wrun_call, wrun_mv, wrun_pick, wrun_bin, wrun_eqAgg, wrun_eqBool, wrun_eqNil, wrun_neg, wrun_not, wrun_cvInt, wrun_cvStr, wrun_ext, wrun_fld, wrun_build, wrun_load, wrun_store, wrun_faddr, wrun_iaddrS, wrun_iaddrA, wrun_idxA, wrun_idxS, wrun_slc, wrun_slc0, wrun_slcS, wrun_len, wrun_lenS, wrun_mkf, wrun_nilck, wrun_minmax, wrun_copy, wrun_mlook, wrun_mset, wrun_alloc, wrun_box, wrun_bslice, wrun_app, wrun_mks, wrun_mkmap, wrunX_mv, wrunX_pick, wrunX_bin, wrunX_eqAgg, wrunX_eqBool, wrunX_eqNil, wrunX_neg, wrunX_not, wrunX_cvInt, wrunX_cvStr, wrunX_ext, wrunX_fld, wrunX_build, wrunX_load, wrunX_store, wrunX_faddr, wrunX_iaddrS, wrunX_iaddrA, wrunX_idxA, wrunX_idxS, wrunX_slc, wrunX_slc0, wrunX_slcS, wrunX_len, wrunX_lenS, wrunX_mkf, wrunX_nilck, wrunX_minmax, wrunX_copy, wrunX_mlook, wrunX_mset, wrunX_alloc, wrunX_box, wrunX_bslice, wrunX_app, wrunX_mks, wrunX_mkmap, wdW_nil, wstepX_none, wstepX_some, wguardX_true, wguardX_ff, wguardX_tf, wguardX_ft, wrunX_call, get_mk, wop, aop, ev, look, put_some, put_none, writes, ores_some, ores_none, ores_ite_none, ores_none_ite, ores_map, ores_bind, wif_true, binV, thenK, blockK, boolV, intV, lenOf, elsOf, szOk, value, cut, hget, fillA, putCells, AV.parts, isOne, toLits, mkAgg, boundOf, asNat, tupOf, ofValue_int, ofValue_bool, ofValue_str, cellsEq, cellEq, List.map_cons, List.map_nil, List.length_cons, List.length_nil, List.getElem?_cons_zero, List.getElem?_cons_succ, List.getElem?_nil, List.set_cons_zero, List.set_cons_succ, List.take_succ_cons, List.take_zero, List.take_nil, List.drop_succ_cons, List.drop_zero, List.drop_nil, List.cons_append, List.nil_append, List.append_nil, List.append_assoc, List.replicate_zero, List.replicate_succ, List.replicate_one, List.getD_cons_zero, List.getD_cons_succ, List.zipIdx_cons, List.zipIdx_nil, List.all_cons, List.all_nil, List.isEmpty_cons, List.isEmpty_nil, List.length_append, List.length_map, List.length_replicate, Option.pure_def, Option.bind_eq_bind, Option.getD_some, Option.getD_none, Option.map_some, Option.map_none, Option.bind_some, Option.bind_none, Option.some.injEq, if_true, if_false, ite_true, ite_false, reduceIte, Nat.reduceEqDiff, Nat.reduceAdd, Nat.reduceSub, Nat.reduceMul, Nat.reduceLeDiff, Nat.reduceLT, Nat.reduceBEq, Nat.add_zero, Nat.zero_add, Nat.sub_zero, Nat.sub_self, Nat.zero_mul, Nat.mul_one, Nat.le_refl, Nat.zero_ne_one, reduceCtorEq, Bool.not_true, Bool.not_false, Bool.and_true, Bool.true_and, Bool.and_false, Bool.false_and, Bool.or_true, Bool.or_false, Bool.true_or, Bool.false_or, Bool.false_eq_true, eq_self, true_and, and_true, and_self, true_implies, false_implies, false_and, and_false, implies_true, not_false_eq_true, not_true_eq_false, decide_true, decide_false, ne_eq, beq_self_eq_true, Nat.min_self, Int.reduceNeg, freeze, lidsL, lids, rfyL, rfy, List.flatMap_cons, List.flatMap_nil, plain, plainL, plainR, List.all_cons, ren, renL, renR, renB, renO, keepρ, shiftρ, pos, Nat.not_lt_zero, renR_ints, plainR_ints, *])
        | (simp (disch := omega) only [getD_ints, wrapI])
        | (with_reducible (show wcall _ false (.lit (.func (.func 92) _ _)) _ _ _ _); refine wcall_fn (k92 _ _ _) (by simp [rfyL, rfy, hget, ints, take_rfy]) (by simp [plainL, plain, plainR]) ?_)
        | (with_reducible (show wcallX _ false (.lit (.func (.func 92) _ _)) _ _ _ _); refine wcallX_fn (k92 _ _ _) (by simp [rfyL, rfy, hget, ints, take_rfy]) (by simp [plainL, plain, plainR]) ?_)
        | omega)
      · rw [← hI, drop_q (by omega), zonesErr, if_neg (by omega)]
      · rw [← hI, drop_q (by omega), zonesErr, if_pos (by omega), if_pos (by omega)]
      · rw [drop_q (k := k) (by omega), zonesErr, if_pos (by omega), if_neg (by omega)] at hI; exact hI
      · simp [St.only, get_mk, look, ints]
      · rw [← hI, List.drop_of_length_le (by omega)]; rfl
set_option maxHeartbeats 8000000 in
theorem k28 (nil : Bool) (xs : List Int) (hl : xs.length < 17592186044416) : Fn Try.prog 28 [ints nil xs] (.lsl 0 0 xs.length) [.cells true false 1 (xs.map fun x => [i64 x])] := by
  refine fn_of e28 ?_
  unfold c28 ints
  repeat' (first
    | (with_reducible refine T_seq ?_)
    | (with_reducible refine T_reg ?_)
    | ((with_reducible refine T_calm ?_ ?_); rfl)
    | (with_reducible refine T_draw ?_)
    | (with_reducible refine T_skip ?_)
    | (with_reducible refine T_exit ?_)
    | (with_reducible refine T_block ?_)
    | (with_reducible (show T _ _ _ _ _ (.cond _ _ _) _ _); first | (refine T_cond_t rfl ?_) | (refine T_cond_f rfl ?_) | (refine T_cond rfl (fun hc => ?_) (fun hc => ?_) <;> have hd := hc <;> (try simp (disch := omega) only [wrapI] at hd) <;> have hs := hd <;> (try simp only [Bool.not_eq_true', Bool.not_eq_false', Bool.and_eq_true, Bool.and_eq_false_iff, Bool.or_eq_true, Bool.or_eq_false_iff, decide_eq_true_eq, decide_eq_false_iff_not, beq_iff_eq, bne_iff_ne, beq_eq_false_iff_ne, bne_eq_false_iff_eq, Bool.not_true, Bool.not_false, gt_iff_lt, ge_iff_le, Int.not_lt, Int.not_le, ne_eq, Decidable.not_not] at hd) <;> (try simp at hs)))
    | (with_reducible (show wdW _ _ _ (_ :: _) _ _ _); refine wdW_cons rfl ?_)
    | (with_reducible refine wguard_split (fun hc => ?_) (fun hc => ?_) <;> have hd := hc <;> (try simp (disch := omega) only [wrapI] at hd) <;> have hs := hd <;> (try simp only [Bool.not_eq_true', Bool.not_eq_false', Bool.and_eq_true, Bool.and_eq_false_iff, Bool.or_eq_true, Bool.or_eq_false_iff, decide_eq_true_eq, decide_eq_false_iff_not, beq_iff_eq, bne_iff_ne, beq_eq_false_iff_ne, bne_eq_false_iff_eq, Bool.not_true, Bool.not_false, gt_iff_lt, ge_iff_le, Int.not_lt, Int.not_le, ne_eq, Decidable.not_not] at hd) <;> (try simp at hs))
    | (with_reducible refine wguardX_split (fun hc => ?_) (fun hc => ?_) <;> have hd := hc <;> (try simp (disch := omega) only [wrapI] at hd) <;> have hs := hd <;> (try simp only [Bool.not_eq_true', Bool.not_eq_false', Bool.and_eq_true, Bool.and_eq_false_iff, Bool.or_eq_true, Bool.or_eq_false_iff, decide_eq_true_eq, decide_eq_false_iff_not, beq_iff_eq, bne_iff_ne, beq_eq_false_iff_ne, bne_eq_false_iff_eq, Bool.not_true, Bool.not_false, gt_iff_lt, ge_iff_le, Int.not_lt, Int.not_le, ne_eq, Decidable.not_not] at hd) <;> (try simp at hs))
    | (with_reducible refine T_ret ?_)
    | (with_reducible (show leave _ _ _ _ _); first | (refine leave_ids (.inr rfl) _ [1] rfl (by simp) (by simp) ?_) | (refine leave_ids (.inl rfl) _ [1] rfl (by simp) (by simp) ?_))
    | (with_reducible (show leaveA _ _ _ _); first | (refine leaveA_of (.inr rfl) _ rfl ?_) | (refine leaveA_of (.inl rfl) _ rfl ?_))
    | (with_reducible refine wif_intro ?_ (fun hc => ?_))
    | (with_reducible refine And.intro ?_ ?_)
    | (with_reducible intro hc)
    | (simp only [wops_nil, wops_cons, wstep_none, wstep_some, wguard_true, wguard_ff, wguard_tf, wguard_ft, wguard_undef, wguardX_undef, wrun_call, wrun_mv, wrun_pick, wrun_bin, wrun_eqAgg, wrun_eqBool, wrun_eqNil, wrun_neg, wrun_not, wrun_cvInt, wrun_cvStr, wrun_ext, wrun_fld, wrun_build, wrun_load, wrun_store, wrun_faddr, wrun_iaddrS, wrun_iaddrA, wrun_idxA, wrun_idxS, wrun_slc, wrun_slc0, wrun_slcS, wrun_len, wrun_lenS, wrun_mkf, wrun_nilck, wrun_minmax, wrun_copy, wrun_mlook, wrun_mset, wrun_alloc, wrun_box, wrun_bslice, wrun_app, wrun_mks, wrun_mkmap, wrunX_mv, wrunX_pick, wrunX_bin, wrunX_eqAgg, wrunX_eqBool, wrunX_eqNil, wrunX_neg, wrunX_not, wrunX_cvInt, wrunX_cvStr, wrunX_ext, wrunX_fld, wrunX_build, wrunX_load, wrunX_store, wrunX_faddr, wrunX_iaddrS, wrunX_iaddrA, wrunX_idxA, wrunX_idxS, wrunX_slc, wrunX_slc0, wrunX_slcS, wrunX_len, wrunX_lenS, wrunX_mkf, wrunX_nilck, wrunX_minmax, wrunX_copy, wrunX_mlook, wrunX_mset, wrunX_alloc, wrunX_box, wrunX_bslice, wrunX_app, wrunX_mks, wrunX_mkmap, wdW_nil, wstepX_none, wstepX_some, wguardX_true, wguardX_ff, wguardX_tf, wguardX_ft, wrunX_call, get_mk, wop, aop, ev, look, put_some, put_none, writes, ores_some, ores_none, ores_ite_none, ores_none_ite, ores_map, ores_bind, wif_true, binV, thenK, blockK, boolV, intV, lenOf, elsOf, szOk, value, cut, hget, fillA, putCells, AV.parts, isOne, toLits, mkAgg, boundOf, asNat, tupOf, ofValue_int, ofValue_bool, ofValue_str, cellsEq, cellEq, List.map_cons, List.map_nil, List.length_cons, List.length_nil, List.getElem?_cons_zero, List.getElem?_cons_succ, List.getElem?_nil, List.set_cons_zero, List.set_cons_succ, List.take_succ_cons, List.take_zero, List.take_nil, List.drop_succ_cons, List.drop_zero, List.drop_nil, List.cons_append, List.nil_append, List.append_nil, List.append_assoc, List.replicate_zero, List.replicate_succ, List.replicate_one, List.getD_cons_zero, List.getD_cons_succ, List.zipIdx_cons, List.zipIdx_nil, List.all_cons, List.all_nil, List.isEmpty_cons, List.isEmpty_nil, List.length_append, List.length_map, List.length_replicate, Option.pure_def, Option.bind_eq_bind, Option.getD_some, Option.getD_none, Option.map_some, Option.map_none, Option.bind_some, Option.bind_none, Option.some.injEq, if_true, if_false, ite_true, ite_false, reduceIte, Nat.reduceEqDiff, Nat.reduceAdd, Nat.reduceSub, Nat.reduceMul, Nat.reduceLeDiff, Nat.reduceLT, Nat.reduceBEq, Nat.add_zero, Nat.zero_add, Nat.sub_zero, Nat.sub_self, Nat.zero_mul, Nat.mul_one, Nat.le_refl, Nat.zero_ne_one, reduceCtorEq, Bool.not_true, Bool.not_false, Bool.and_true, Bool.true_and, Bool.and_false, Bool.false_and, Bool.or_true, Bool.or_false, Bool.true_or, Bool.false_or, Bool.false_eq_true, eq_self, true_and, and_true, and_self, true_implies, false_implies, false_and, and_false, implies_true, not_false_eq_true, not_true_eq_false, decide_true, decide_false, ne_eq, beq_self_eq_true, Nat.min_self, Int.reduceNeg, freeze, lidsL, lids, rfyL, rfy, List.flatMap_cons, List.flatMap_nil, plain, plainL, plainR, List.all_cons, ren, renL, renR, renB, renO, keepρ, shiftρ, pos, Nat.not_lt_zero, renR_ints, plainR_ints, *])
    | (simp (disch := omega) only [getD_ints, wrapI])
    | omega)
end Go.Abs
