import Derived.Test.YtodheeifecoebaaK32x
import Derived.Test.YtodheeifecoebaaK31x
import Derived.Test.YtodheeifecoebaaK23x
import Derived.Test.YtodheeifecoebaaK26x
import Derived.Test.YtodheeifecoebaaK9
set_option linter.all false
set_option linter.unusedVariables false
set_option linter.unusedSimpArgs false
set_option linter.unusedSectionVars false
namespace Go.Abs
open Go.Proofs
theorem fr_ok {w : Int} {ph : List Int} (h : checkFr w ph = 0) : okPh ph ∧ 1 ≤ w ∧ w ≤ 1000000 := by
  unfold checkFr at h
  split at h
  · simp at h
  · rename_i hw
    split at h
    · simp at h
    · split at h
      · simp at h
      · rename_i hf
        refine ⟨fun k => ?_, by omega, by omega⟩
        have h1 := findB_nn badF ph 0 (by omega)
        rcases h1.2 with h2 | h2
        · by_cases hk : k < ph.length
          · have := h1.1.2 h2 (ph.getD k 0) (by simp [List.getD, hk])
            unfold badF at this
            simp at this
            simp only [List.getD_eq_getElem?_getD]
            omega
          · rw [List.getD_eq_getElem?_getD, List.getElem?_eq_none (by omega)]; simp
        · omega
theorem step_eq {w : Int} {ph : List Int} (hp : okPh ph) (a b : Int) : refStep w ph a b = proStep w ph a b := by
  unfold refStep proStep; rw [there_eq hp, there_eq hp]
theorem step_back {w : Int} {ph : List Int} (hw : 1 ≤ w ∧ w ≤ 1000000) (a b : Int) : proStep w ph b a = (-(proStep w ph a b).1, (proStep w ph a b).2) := by
  unfold proStep
  rw [besideB_symm w a b, Bool.and_comm (thereB ph b) (thereB ph a)]
  by_cases h1 : (thereB ph a && thereB ph b) = true
  · rw [if_pos h1, if_pos h1]
    by_cases h2 : besideB w a b = true
    · rw [if_pos h2, if_pos h2]
      have hne : a ≠ b := by
        rintro rfl
        unfold besideB lo2 hi2 at h2
        simp at h2
        omega
      refine Prod.ext ?_ rfl
      show stepI ph b a = -stepI ph a b
      unfold stepI
      by_cases hab : b < a
      · rw [if_pos hab, if_neg (by omega)]; omega
      · rw [if_neg hab, if_pos (by omega)]
    · rw [if_neg h2, if_neg h2]; rfl
  · rw [if_neg h1, if_neg h1]; rfl
theorem proStep_r {w : Int} {ph : List Int} (a b : Int) : -1000 ≤ (proStep w ph a b).1 ∧ (proStep w ph a b).1 ≤ 1000 := by
  have := stepI_r ph a b
  unfold proStep
  repeat' split
  all_goals (dsimp only; omega)
theorem take_rfy4 (h : Nat → Blk) (xs : List Int) : List.take xs.length (List.map ((fun r => List.map (rfy h 4) r) ∘ fun x => [i64 x]) xs) = List.map (fun x => [i64 x]) xs := by
  rw [List.take_of_length_le (by simp)]; exact List.map_congr_left fun x _ => rfl
theorem flat_ints4 (h : Nat → Blk) (n : Nat) (xs : List Int) : (List.take n (List.map (fun x => [i64 x]) xs)).flatMap (fun r => r.flatMap (lids h 4)) = [] := by
  rw [List.flatMap_eq_nil_iff]
  intro r hr
  obtain ⟨x, _, rfl⟩ := List.mem_map.1 (List.mem_of_mem_take hr)
  rfl
set_option maxHeartbeats 8000000 in
theorem k41' (w : Int) (nil : Bool) (xs : List Int) : Fn Try.prog 41 [fmap w nil xs] (bl (smallB xs.length)) [] := by
  refine fn_of e41 ?_
  unfold c41
  repeat' (first
    | (with_reducible refine T_seq ?_)
    | (with_reducible refine T_reg ?_)
    | ((with_reducible refine T_calm ?_ ?_); rfl)
    | (with_reducible refine T_draw ?_)
    | (with_reducible refine T_skip ?_)
    | (with_reducible refine T_exit ?_)
    | (with_reducible refine T_block ?_)
    | (with_reducible (show T _ _ _ _ _ (.cond _ _ _) _ _); first | (refine T_cond_t rfl ?_) | (refine T_cond_f rfl ?_) | (refine T_cond rfl (fun hc => ?_) (fun hc => ?_) <;> have hd := hc <;> (try simp (disch := omega) only [wrapI] at hd) <;> have hs := hd <;> (try simp only [Bool.not_eq_true', Bool.not_eq_false', Bool.and_eq_true, Bool.and_eq_false_iff, Bool.or_eq_true, Bool.or_eq_false_iff, decide_eq_true_eq, decide_eq_false_iff_not, beq_iff_eq, bne_iff_ne, beq_eq_false_iff_ne, bne_eq_false_iff_eq, Bool.not_true, Bool.not_false, gt_iff_lt, ge_iff_le, Int.not_lt, Int.not_le, ne_eq, Decidable.not_not] at hd) <;> (try simp at hs)))
    | (with_reducible (show wdW _ _ _ (_ :: _) _ _ _); refine wdW_cons rfl ?_)
    | (with_reducible refine wguard_split (fun hc => ?_) (fun hc => ?_) <;> have hd := hc <;> (try simp (disch := omega) only [wrapI] at hd) <;> have hs := hd <;> (try simp only [Bool.not_eq_true', Bool.not_eq_false', Bool.and_eq_true, Bool.and_eq_false_iff, Bool.or_eq_true, Bool.or_eq_false_iff, decide_eq_true_eq, decide_eq_false_iff_not, beq_iff_eq, bne_iff_ne, beq_eq_false_iff_ne, bne_eq_false_iff_eq, Bool.not_true, Bool.not_false, gt_iff_lt, ge_iff_le, Int.not_lt, Int.not_le, ne_eq, Decidable.not_not] at hd) <;> (try simp at hs))
    | (with_reducible refine wguardX_split (fun hc => ?_) (fun hc => ?_) <;> have hd := hc <;> (try simp (disch := omega) only [wrapI] at hd) <;> have hs := hd <;> (try simp only [Bool.not_eq_true', Bool.not_eq_false', Bool.and_eq_true, Bool.and_eq_false_iff, Bool.or_eq_true, Bool.or_eq_false_iff, decide_eq_true_eq, decide_eq_false_iff_not, beq_iff_eq, bne_iff_ne, beq_eq_false_iff_ne, bne_eq_false_iff_eq, Bool.not_true, Bool.not_false, gt_iff_lt, ge_iff_le, Int.not_lt, Int.not_le, ne_eq, Decidable.not_not] at hd) <;> (try simp at hs))
    | (with_reducible refine T_ret ?_)
    | (with_reducible (show leave _ _ _ _ _); first | (refine leave_of (.inr rfl) _ rfl ?_) | (refine leave_of (.inl rfl) _ rfl ?_))
    | (with_reducible (show leaveA _ _ _ _); first | (refine leaveA_of (.inr rfl) _ rfl ?_) | (refine leaveA_of (.inl rfl) _ rfl ?_))
    | (with_reducible refine wif_intro ?_ (fun hc => ?_))
    | (with_reducible refine And.intro ?_ ?_)
    | (with_reducible intro hc)
    | (simp only [wops_nil, wops_cons, wstep_none, wstep_some, wguard_true, wguard_ff, wguard_tf, wguard_ft, wguard_undef, wguardX_undef, wrun_call, wrun_mv, wrun_pick, wrun_bin, wrun_eqAgg, wrun_eqBool, wrun_eqNil, wrun_neg, wrun_not, wrun_cvInt, wrun_cvStr, wrun_ext, wrun_fld, wrun_build, wrun_load, wrun_store, wrun_faddr, wrun_iaddrS, wrun_iaddrA, wrun_idxA, wrun_idxS, wrun_slc, wrun_slc0, wrun_slcS, wrun_len, wrun_lenS, wrun_mkf, wrun_nilck, wrun_minmax, wrun_copy, wrun_mlook, wrun_mset, wrun_alloc, wrun_box, wrun_bslice, wrun_app, wrun_mks, wrun_mkmap, wrunX_mv, wrunX_pick, wrunX_bin, wrunX_eqAgg, wrunX_eqBool, wrunX_eqNil, wrunX_neg, wrunX_not, wrunX_cvInt, wrunX_cvStr, wrunX_ext, wrunX_fld, wrunX_build, wrunX_load, wrunX_store, wrunX_faddr, wrunX_iaddrS, wrunX_iaddrA, wrunX_idxA, wrunX_idxS, wrunX_slc, wrunX_slc0, wrunX_slcS, wrunX_len, wrunX_lenS, wrunX_mkf, wrunX_nilck, wrunX_minmax, wrunX_copy, wrunX_mlook, wrunX_mset, wrunX_alloc, wrunX_box, wrunX_bslice, wrunX_app, wrunX_mks, wrunX_mkmap, wdW_nil, wstepX_none, wstepX_some, wguardX_true, wguardX_ff, wguardX_tf, wguardX_ft, wrunX_call, get_mk, wop, aop, ev, look, put_some, put_none, writes, ores_some, ores_none, ores_ite_none, ores_none_ite, ores_map, ores_bind, wif_true, binV, thenK, blockK, boolV, intV, lenOf, elsOf, szOk, value, cut, hget, fillA, putCells, AV.parts, isOne, toLits, mkAgg, boundOf, asNat, tupOf, ofValue_int, ofValue_bool, ofValue_str, cellsEq, cellEq, List.flatten_cons, List.flatten_nil, rowsOf, List.map_cons, List.map_nil, List.length_cons, List.length_nil, List.getElem?_cons_zero, List.getElem?_cons_succ, List.getElem?_nil, List.set_cons_zero, List.set_cons_succ, List.take_succ_cons, List.take_zero, List.take_nil, List.drop_succ_cons, List.drop_zero, List.drop_nil, List.cons_append, List.nil_append, List.append_nil, List.append_assoc, List.replicate_zero, List.replicate_succ, List.replicate_one, List.getD_cons_zero, List.getD_cons_succ, List.zipIdx_cons, List.zipIdx_nil, List.all_cons, List.all_nil, List.isEmpty_cons, List.isEmpty_nil, List.length_append, List.length_map, List.length_replicate, Option.pure_def, Option.bind_eq_bind, Option.getD_some, Option.getD_none, Option.map_some, Option.map_none, Option.bind_some, Option.bind_none, Option.some.injEq, if_true, if_false, ite_true, ite_false, reduceIte, Nat.reduceEqDiff, Nat.reduceAdd, Nat.reduceSub, Nat.reduceMul, Nat.reduceLeDiff, Nat.reduceLT, Nat.reduceBEq, Nat.add_zero, Nat.zero_add, Nat.sub_zero, Nat.sub_self, Nat.zero_mul, Nat.mul_one, Nat.le_refl, Nat.zero_ne_one, reduceCtorEq, Bool.not_true, Bool.not_false, Bool.and_true, Bool.true_and, Bool.and_false, Bool.false_and, Bool.or_true, Bool.or_false, Bool.true_or, Bool.false_or, Bool.false_eq_true, eq_self, true_and, and_true, and_self, true_implies, false_implies, false_and, and_false, implies_true, not_false_eq_true, not_true_eq_false, decide_true, decide_false, ne_eq, beq_self_eq_true, Nat.min_self, Int.reduceNeg, freeze, lidsL, lids, rfyL, rfy, List.flatMap_cons, List.flatMap_nil, plain, plainL, plainR, List.all_cons, ren, renL, renR, renB, renO, keepρ, shiftρ, pos, Nat.not_lt_zero, renR_ints, plainR_ints, *])
    | (simp (disch := omega) only [getD_ints, wrapI])
    | omega)
  all_goals unfold smallB
  all_goals first | rfl | omega | (exfalso; omega) | (refine congrArg bl ?_; rw [Bool.eq_iff_iff]; simp; done) | (refine congrArg bl ?_; rw [Bool.eq_iff_iff]; simp; omega) | (simp_all; done) | (simp_all; omega) | ((repeat' split) <;> first | rfl | omega | (exfalso; omega) | (refine congrArg bl ?_; rw [Bool.eq_iff_iff]; simp; done) | (refine congrArg bl ?_; rw [Bool.eq_iff_iff]; simp; omega) | (simp_all; done) | (simp_all; omega))
set_option maxHeartbeats 8000000 in
theorem k13 (w : Int) (nil : Bool) (ph : List Int) (a b : Int) : Fn Try.prog 13 [fmap w nil ph, i64 a, i64 b] (bl true) [] := by
  refine fn_of e13 ?_
  unfold c13
  have h19 := k19
  cases hsm : smallB ph.length with
  | false =>
    have h41 := k41' w nil ph
    rw [hsm] at h41
    replace hsm := True.intro
    repeat' (first
      | (with_reducible refine T_seq ?_)
      | (with_reducible refine T_reg ?_)
      | ((with_reducible refine T_calm ?_ ?_); rfl)
      | (with_reducible refine T_draw ?_)
      | (with_reducible refine T_skip ?_)
      | (with_reducible refine T_exit ?_)
      | (with_reducible refine T_block ?_)
      | (with_reducible (show T _ _ _ _ _ (.cond _ _ _) _ _); first | (refine T_cond_t rfl ?_) | (refine T_cond_f rfl ?_) | (refine T_cond rfl (fun hc => ?_) (fun hc => ?_) <;> have hd := hc <;> (try simp (disch := omega) only [wrapI] at hd) <;> have hs := hd <;> (try simp only [Bool.not_eq_true', Bool.not_eq_false', Bool.and_eq_true, Bool.and_eq_false_iff, Bool.or_eq_true, Bool.or_eq_false_iff, decide_eq_true_eq, decide_eq_false_iff_not, beq_iff_eq, bne_iff_ne, beq_eq_false_iff_ne, bne_eq_false_iff_eq, Bool.not_true, Bool.not_false, gt_iff_lt, ge_iff_le, Int.not_lt, Int.not_le, ne_eq, Decidable.not_not] at hd) <;> (try simp at hs)))
      | (with_reducible (show wdW _ _ _ (_ :: _) _ _ _); refine wdW_cons rfl ?_)
      | (with_reducible (show wcall _ false (.lit (.func (.func 19) _ _)) _ _ _ _); refine wcall_fn (h19) rfl (by simp [plainL, plain, plainR]) ?_)
      | (with_reducible (show wcallX _ false (.lit (.func (.func 19) _ _)) _ _ _ _); refine wcallX_fn (h19) rfl (by simp [plainL, plain, plainR]) ?_)
      | (with_reducible (show wcall _ false (.lit (.func (.func 41) _ _)) _ _ _ _); refine wcall_fn (h41) rfl (by simp [plainL, plain, plainR]) ?_)
      | (with_reducible (show wcallX _ false (.lit (.func (.func 41) _ _)) _ _ _ _); refine wcallX_fn (h41) rfl (by simp [plainL, plain, plainR]) ?_)
      | (with_reducible refine wguard_split (fun hc => ?_) (fun hc => ?_) <;> have hd := hc <;> (try simp (disch := omega) only [wrapI] at hd) <;> have hs := hd <;> (try simp only [Bool.not_eq_true', Bool.not_eq_false', Bool.and_eq_true, Bool.and_eq_false_iff, Bool.or_eq_true, Bool.or_eq_false_iff, decide_eq_true_eq, decide_eq_false_iff_not, beq_iff_eq, bne_iff_ne, beq_eq_false_iff_ne, bne_eq_false_iff_eq, Bool.not_true, Bool.not_false, gt_iff_lt, ge_iff_le, Int.not_lt, Int.not_le, ne_eq, Decidable.not_not] at hd) <;> (try simp at hs))
      | (with_reducible refine wguardX_split (fun hc => ?_) (fun hc => ?_) <;> have hd := hc <;> (try simp (disch := omega) only [wrapI] at hd) <;> have hs := hd <;> (try simp only [Bool.not_eq_true', Bool.not_eq_false', Bool.and_eq_true, Bool.and_eq_false_iff, Bool.or_eq_true, Bool.or_eq_false_iff, decide_eq_true_eq, decide_eq_false_iff_not, beq_iff_eq, bne_iff_ne, beq_eq_false_iff_ne, bne_eq_false_iff_eq, Bool.not_true, Bool.not_false, gt_iff_lt, ge_iff_le, Int.not_lt, Int.not_le, ne_eq, Decidable.not_not] at hd) <;> (try simp at hs))
      | (with_reducible refine T_ret ?_)
      | (with_reducible (show leave _ _ _ _ _); first | (refine leave_of (.inr rfl) _ rfl ?_) | (refine leave_of (.inl rfl) _ rfl ?_))
      | (with_reducible (show leaveA _ _ _ _); first | (refine leaveA_of (.inr rfl) _ rfl ?_) | (refine leaveA_of (.inl rfl) _ rfl ?_))
      | (with_reducible refine wif_intro ?_ (fun hc => ?_))
      | (with_reducible refine And.intro ?_ ?_)
      | (with_reducible intro hc)
      | (simp only [wops_nil, wops_cons, wstep_none, wstep_some, wguard_true, wguard_ff, wguard_tf, wguard_ft, wguard_undef, wguardX_undef, wrun_call, wrun_mv, wrun_pick, wrun_bin, wrun_eqAgg, wrun_eqBool, wrun_eqNil, wrun_neg, wrun_not, wrun_cvInt, wrun_cvStr, wrun_ext, wrun_fld, wrun_build, wrun_load, wrun_store, wrun_faddr, wrun_iaddrS, wrun_iaddrA, wrun_idxA, wrun_idxS, wrun_slc, wrun_slc0, wrun_slcS, wrun_len, wrun_lenS, wrun_mkf, wrun_nilck, wrun_minmax, wrun_copy, wrun_mlook, wrun_mset, wrun_alloc, wrun_box, wrun_bslice, wrun_app, wrun_mks, wrun_mkmap, wrunX_mv, wrunX_pick, wrunX_bin, wrunX_eqAgg, wrunX_eqBool, wrunX_eqNil, wrunX_neg, wrunX_not, wrunX_cvInt, wrunX_cvStr, wrunX_ext, wrunX_fld, wrunX_build, wrunX_load, wrunX_store, wrunX_faddr, wrunX_iaddrS, wrunX_iaddrA, wrunX_idxA, wrunX_idxS, wrunX_slc, wrunX_slc0, wrunX_slcS, wrunX_len, wrunX_lenS, wrunX_mkf, wrunX_nilck, wrunX_minmax, wrunX_copy, wrunX_mlook, wrunX_mset, wrunX_alloc, wrunX_box, wrunX_bslice, wrunX_app, wrunX_mks, wrunX_mkmap, wdW_nil, wstepX_none, wstepX_some, wguardX_true, wguardX_ff, wguardX_tf, wguardX_ft, wrunX_call, get_mk, wop, aop, ev, look, put_some, put_none, writes, ores_some, ores_none, ores_ite_none, ores_none_ite, ores_map, ores_bind, wif_true, binV, thenK, blockK, boolV, intV, lenOf, elsOf, szOk, value, cut, hget, fillA, putCells, AV.parts, isOne, toLits, mkAgg, boundOf, asNat, tupOf, ofValue_int, ofValue_bool, ofValue_str, cellsEq, cellEq, List.flatten_cons, List.flatten_nil, rowsOf, List.map_cons, List.map_nil, List.length_cons, List.length_nil, List.getElem?_cons_zero, List.getElem?_cons_succ, List.getElem?_nil, List.set_cons_zero, List.set_cons_succ, List.take_succ_cons, List.take_zero, List.take_nil, List.drop_succ_cons, List.drop_zero, List.drop_nil, List.cons_append, List.nil_append, List.append_nil, List.append_assoc, List.replicate_zero, List.replicate_succ, List.replicate_one, List.getD_cons_zero, List.getD_cons_succ, List.zipIdx_cons, List.zipIdx_nil, List.all_cons, List.all_nil, List.isEmpty_cons, List.isEmpty_nil, List.length_append, List.length_map, List.length_replicate, Option.pure_def, Option.bind_eq_bind, Option.getD_some, Option.getD_none, Option.map_some, Option.map_none, Option.bind_some, Option.bind_none, Option.some.injEq, if_true, if_false, ite_true, ite_false, reduceIte, Nat.reduceEqDiff, Nat.reduceAdd, Nat.reduceSub, Nat.reduceMul, Nat.reduceLeDiff, Nat.reduceLT, Nat.reduceBEq, Nat.add_zero, Nat.zero_add, Nat.sub_zero, Nat.sub_self, Nat.zero_mul, Nat.mul_one, Nat.le_refl, Nat.zero_ne_one, reduceCtorEq, Bool.not_true, Bool.not_false, Bool.and_true, Bool.true_and, Bool.and_false, Bool.false_and, Bool.or_true, Bool.or_false, Bool.true_or, Bool.false_or, Bool.false_eq_true, eq_self, true_and, and_true, and_self, true_implies, false_implies, false_and, and_false, implies_true, not_false_eq_true, not_true_eq_false, decide_true, decide_false, ne_eq, beq_self_eq_true, Nat.min_self, Int.reduceNeg, freeze, lidsL, lids, rfyL, rfy, List.flatMap_cons, List.flatMap_nil, plain, plainL, plainR, List.all_cons, ren, renL, renR, renB, renO, keepρ, shiftρ, pos, Nat.not_lt_zero, renR_ints, plainR_ints, *])
      | (simp (disch := omega) only [getD_ints, wrapI])
      | (with_reducible (show wcall _ false (.lit (.func (.func 19) _ _)) _ _ _ _); refine wcall_fn (h19) (by simp [rfyL, rfy, hget, ints, take_rfy]) (by simp [plainL, plain, plainR]) ?_)
      | (with_reducible (show wcallX _ false (.lit (.func (.func 19) _ _)) _ _ _ _); refine wcallX_fn (h19) (by simp [rfyL, rfy, hget, ints, take_rfy]) (by simp [plainL, plain, plainR]) ?_)
      | (with_reducible (show wcall _ false (.lit (.func (.func 41) _ _)) _ _ _ _); refine wcall_fn (h41) (by simp [rfyL, rfy, hget, ints, take_rfy]) (by simp [plainL, plain, plainR]) ?_)
      | (with_reducible (show wcallX _ false (.lit (.func (.func 41) _ _)) _ _ _ _); refine wcallX_fn (h41) (by simp [rfyL, rfy, hget, ints, take_rfy]) (by simp [plainL, plain, plainR]) ?_)
      | omega)
  | true =>
    have hl : ph.length < 1000000 := by
      unfold smallB at hsm; simp at hsm; omega
    have hl2 : ph.length < 4611686018427387904 := by omega
    have hl3 : ph.length < 17592186044416 := by omega
    by_cases hc : checkFr w ph = 0
    · obtain ⟨hp, hw⟩ := fr_ok hc
      have h61 := k61 w false ph a b hl hc hp hw
      have h61b := k61 w false ph b a hl hc hp hw
      have h64 := k64 w nil ph a b hl hp hw
      rw [step_eq hp] at h64
      rw [step_back hw] at h61b
      have hr := proStep_r (w := w) (ph := ph) a b
      have h60 := k60 w false ph hl hc hp hw
      have h63 := k63 w nil ph hl hp hw
      have h62 := k62 w false ph hl2
      have h44 := k44 w nil ph hl2
      have h41 := k41 w nil ph hl2
      rw [hsm] at h41
      have h43 := k43 w nil ph hl3
      rw [hc] at h62 h44
      have hlen := rsdL_len w ph ph.length
      replace hsm := True.intro
      generalize proStep w ph a b = st at *
      obtain ⟨st1, st2⟩ := st
      dsimp only at h61 h61b h64 hr
      generalize rsdL w ph ph.length = R at *
      have e0 : ∀ x : Int, 0 - x = -x := fun x => by omega
      by_cases hx : R = []
      · simp only [outV, outB, hx, if_true] at h60 h63
        repeat' (first
          | (with_reducible refine T_seq ?_)
          | (with_reducible refine T_reg ?_)
          | ((with_reducible refine T_calm ?_ ?_); rfl)
          | (with_reducible refine T_draw ?_)
          | (with_reducible refine T_skip ?_)
          | (with_reducible refine T_exit ?_)
          | (with_reducible refine T_block ?_)
          | (with_reducible (show T _ _ _ _ _ (.cond _ _ _) _ _); first | (refine T_cond_t rfl ?_) | (refine T_cond_f rfl ?_) | (refine T_cond rfl (fun hc => ?_) (fun hc => ?_) <;> have hd := hc <;> (try simp (disch := omega) only [wrapI] at hd) <;> have hs := hd <;> (try simp only [Bool.not_eq_true', Bool.not_eq_false', Bool.and_eq_true, Bool.and_eq_false_iff, Bool.or_eq_true, Bool.or_eq_false_iff, decide_eq_true_eq, decide_eq_false_iff_not, beq_iff_eq, bne_iff_ne, beq_eq_false_iff_ne, bne_eq_false_iff_eq, Bool.not_true, Bool.not_false, gt_iff_lt, ge_iff_le, Int.not_lt, Int.not_le, ne_eq, Decidable.not_not] at hd) <;> (try simp at hs)))
          | (with_reducible (show wdW _ _ _ (_ :: _) _ _ _); refine wdW_cons rfl ?_)
          | (with_reducible (show wcall _ false (.lit (.func (.func 19) _ _)) _ _ _ _); refine wcall_fn (h19) rfl (by simp [plainL, plain, plainR, take_rfy4, flat_ints4, freeze1, e0]) ?_)
          | (with_reducible (show wcallX _ false (.lit (.func (.func 19) _ _)) _ _ _ _); refine wcallX_fn (h19) rfl (by simp [plainL, plain, plainR, take_rfy4, flat_ints4, freeze1, e0]) ?_)
          | (with_reducible (show wcall _ false (.lit (.func (.func 41) _ _)) _ _ _ _); refine wcall_fn (h41) rfl (by simp [plainL, plain, plainR, take_rfy4, flat_ints4, freeze1, e0]) ?_)
          | (with_reducible (show wcallX _ false (.lit (.func (.func 41) _ _)) _ _ _ _); refine wcallX_fn (h41) rfl (by simp [plainL, plain, plainR, take_rfy4, flat_ints4, freeze1, e0]) ?_)
          | (with_reducible (show wcall _ false (.lit (.func (.func 43) _ _)) _ _ _ _); refine wcall_fn (h43) rfl (by simp [plainL, plain, plainR, take_rfy4, flat_ints4, freeze1, e0]) ?_)
          | (with_reducible (show wcallX _ false (.lit (.func (.func 43) _ _)) _ _ _ _); refine wcallX_fn (h43) rfl (by simp [plainL, plain, plainR, take_rfy4, flat_ints4, freeze1, e0]) ?_)
          | (with_reducible (show wcall _ false (.lit (.func (.func 61) _ _)) _ _ _ _); refine wcall_fn (h61) rfl (by simp [plainL, plain, plainR, take_rfy4, flat_ints4, freeze1, e0]) ?_)
          | (with_reducible (show wcallX _ false (.lit (.func (.func 61) _ _)) _ _ _ _); refine wcallX_fn (h61) rfl (by simp [plainL, plain, plainR, take_rfy4, flat_ints4, freeze1, e0]) ?_)
          | (with_reducible (show wcall _ false (.lit (.func (.func 61) _ _)) _ _ _ _); refine wcall_fn (h61b) rfl (by simp [plainL, plain, plainR, take_rfy4, flat_ints4, freeze1, e0]) ?_)
          | (with_reducible (show wcallX _ false (.lit (.func (.func 61) _ _)) _ _ _ _); refine wcallX_fn (h61b) rfl (by simp [plainL, plain, plainR, take_rfy4, flat_ints4, freeze1, e0]) ?_)
          | (with_reducible (show wcall _ false (.lit (.func (.func 60) _ _)) _ _ _ _); refine wcall_fn (h60) rfl (by simp [plainL, plain, plainR, take_rfy4, flat_ints4, freeze1, e0]) ?_)
          | (with_reducible (show wcallX _ false (.lit (.func (.func 60) _ _)) _ _ _ _); refine wcallX_fn (h60) rfl (by simp [plainL, plain, plainR, take_rfy4, flat_ints4, freeze1, e0]) ?_)
          | (with_reducible (show wcall _ false (.lit (.func (.func 62) _ _)) _ _ _ _); refine wcall_fn (h62) rfl (by simp [plainL, plain, plainR, take_rfy4, flat_ints4, freeze1, e0]) ?_)
          | (with_reducible (show wcallX _ false (.lit (.func (.func 62) _ _)) _ _ _ _); refine wcallX_fn (h62) rfl (by simp [plainL, plain, plainR, take_rfy4, flat_ints4, freeze1, e0]) ?_)
          | (with_reducible (show wcall _ false (.lit (.func (.func 44) _ _)) _ _ _ _); refine wcall_fn (h44) rfl (by simp [plainL, plain, plainR, take_rfy4, flat_ints4, freeze1, e0]) ?_)
          | (with_reducible (show wcallX _ false (.lit (.func (.func 44) _ _)) _ _ _ _); refine wcallX_fn (h44) rfl (by simp [plainL, plain, plainR, take_rfy4, flat_ints4, freeze1, e0]) ?_)
          | (with_reducible (show wcall _ false (.lit (.func (.func 64) _ _)) _ _ _ _); refine wcall_fn (h64) rfl (by simp [plainL, plain, plainR, take_rfy4, flat_ints4, freeze1, e0]) ?_)
          | (with_reducible (show wcallX _ false (.lit (.func (.func 64) _ _)) _ _ _ _); refine wcallX_fn (h64) rfl (by simp [plainL, plain, plainR, take_rfy4, flat_ints4, freeze1, e0]) ?_)
          | (with_reducible (show wcall _ false (.lit (.func (.func 63) _ _)) _ _ _ _); refine wcall_fn (h63) rfl (by simp [plainL, plain, plainR, take_rfy4, flat_ints4, freeze1, e0]) ?_)
          | (with_reducible (show wcallX _ false (.lit (.func (.func 63) _ _)) _ _ _ _); refine wcallX_fn (h63) rfl (by simp [plainL, plain, plainR, take_rfy4, flat_ints4, freeze1, e0]) ?_)
          | (with_reducible refine wguard_split (fun hc => ?_) (fun hc => ?_) <;> have hd := hc <;> (try simp (disch := omega) only [wrapI] at hd) <;> have hs := hd <;> (try simp only [Bool.not_eq_true', Bool.not_eq_false', Bool.and_eq_true, Bool.and_eq_false_iff, Bool.or_eq_true, Bool.or_eq_false_iff, decide_eq_true_eq, decide_eq_false_iff_not, beq_iff_eq, bne_iff_ne, beq_eq_false_iff_ne, bne_eq_false_iff_eq, Bool.not_true, Bool.not_false, gt_iff_lt, ge_iff_le, Int.not_lt, Int.not_le, ne_eq, Decidable.not_not] at hd) <;> (try simp at hs))
          | (with_reducible refine wguardX_split (fun hc => ?_) (fun hc => ?_) <;> have hd := hc <;> (try simp (disch := omega) only [wrapI] at hd) <;> have hs := hd <;> (try simp only [Bool.not_eq_true', Bool.not_eq_false', Bool.and_eq_true, Bool.and_eq_false_iff, Bool.or_eq_true, Bool.or_eq_false_iff, decide_eq_true_eq, decide_eq_false_iff_not, beq_iff_eq, bne_iff_ne, beq_eq_false_iff_ne, bne_eq_false_iff_eq, Bool.not_true, Bool.not_false, gt_iff_lt, ge_iff_le, Int.not_lt, Int.not_le, ne_eq, Decidable.not_not] at hd) <;> (try simp at hs))
          | (with_reducible refine T_ret ?_)
          | (with_reducible (show leave _ _ _ _ _); first | (refine leave_of (.inr rfl) _ rfl ?_) | (refine leave_of (.inl rfl) _ rfl ?_))
          | (with_reducible (show leaveA _ _ _ _); first | (refine leaveA_of (.inr rfl) _ rfl ?_) | (refine leaveA_of (.inl rfl) _ rfl ?_))
          | (with_reducible refine wif_intro ?_ (fun hc => ?_))
          | (with_reducible refine And.intro ?_ ?_)
          | (with_reducible intro hc)
          | (simp only [wops_nil, wops_cons, wstep_none, wstep_some, wguard_true, wguard_ff, wguard_tf, wguard_ft, wguard_undef, wguardX_undef, wrun_call, wrun_mv, wrun_pick, wrun_bin, wrun_eqAgg, wrun_eqBool, wrun_eqNil, wrun_neg, wrun_not, wrun_cvInt, wrun_cvStr, wrun_ext, wrun_fld, wrun_build, wrun_load, wrun_store, wrun_faddr, wrun_iaddrS, wrun_iaddrA, wrun_idxA, wrun_idxS, wrun_slc, wrun_slc0, wrun_slcS, wrun_len, wrun_lenS, wrun_mkf, wrun_nilck, wrun_minmax, wrun_copy, wrun_mlook, wrun_mset, wrun_alloc, wrun_box, wrun_bslice, wrun_app, wrun_mks, wrun_mkmap, wrunX_mv, wrunX_pick, wrunX_bin, wrunX_eqAgg, wrunX_eqBool, wrunX_eqNil, wrunX_neg, wrunX_not, wrunX_cvInt, wrunX_cvStr, wrunX_ext, wrunX_fld, wrunX_build, wrunX_load, wrunX_store, wrunX_faddr, wrunX_iaddrS, wrunX_iaddrA, wrunX_idxA, wrunX_idxS, wrunX_slc, wrunX_slc0, wrunX_slcS, wrunX_len, wrunX_lenS, wrunX_mkf, wrunX_nilck, wrunX_minmax, wrunX_copy, wrunX_mlook, wrunX_mset, wrunX_alloc, wrunX_box, wrunX_bslice, wrunX_app, wrunX_mks, wrunX_mkmap, wdW_nil, wstepX_none, wstepX_some, wguardX_true, wguardX_ff, wguardX_tf, wguardX_ft, wrunX_call, get_mk, wop, aop, ev, look, put_some, put_none, writes, ores_some, ores_none, ores_ite_none, ores_none_ite, ores_map, ores_bind, wif_true, binV, thenK, blockK, boolV, intV, lenOf, elsOf, szOk, value, cut, hget, fillA, putCells, AV.parts, isOne, toLits, mkAgg, boundOf, asNat, tupOf, ofValue_int, ofValue_bool, ofValue_str, cellsEq, cellEq, List.flatten_cons, List.flatten_nil, rowsOf, List.map_cons, List.map_nil, List.length_cons, List.length_nil, List.getElem?_cons_zero, List.getElem?_cons_succ, List.getElem?_nil, List.set_cons_zero, List.set_cons_succ, List.take_succ_cons, List.take_zero, List.take_nil, List.drop_succ_cons, List.drop_zero, List.drop_nil, List.cons_append, List.nil_append, List.append_nil, List.append_assoc, List.replicate_zero, List.replicate_succ, List.replicate_one, List.getD_cons_zero, List.getD_cons_succ, List.zipIdx_cons, List.zipIdx_nil, List.all_cons, List.all_nil, List.isEmpty_cons, List.isEmpty_nil, List.length_append, List.length_map, List.length_replicate, Option.pure_def, Option.bind_eq_bind, Option.getD_some, Option.getD_none, Option.map_some, Option.map_none, Option.bind_some, Option.bind_none, Option.some.injEq, if_true, if_false, ite_true, ite_false, reduceIte, Nat.reduceEqDiff, Nat.reduceAdd, Nat.reduceSub, Nat.reduceMul, Nat.reduceLeDiff, Nat.reduceLT, Nat.reduceBEq, Nat.add_zero, Nat.zero_add, Nat.sub_zero, Nat.sub_self, Nat.zero_mul, Nat.mul_one, Nat.le_refl, Nat.zero_ne_one, reduceCtorEq, Bool.not_true, Bool.not_false, Bool.and_true, Bool.true_and, Bool.and_false, Bool.false_and, Bool.or_true, Bool.or_false, Bool.true_or, Bool.false_or, Bool.false_eq_true, eq_self, true_and, and_true, and_self, true_implies, false_implies, false_and, and_false, implies_true, not_false_eq_true, not_true_eq_false, decide_true, decide_false, ne_eq, beq_self_eq_true, Nat.min_self, Int.reduceNeg, freeze, lidsL, lids, rfyL, rfy, List.flatMap_cons, List.flatMap_nil, plain, plainL, plainR, List.all_cons, ren, renL, renR, renB, renO, keepρ, shiftρ, pos, Nat.not_lt_zero, renR_ints, plainR_ints, take_rfy4, flat_ints4, freeze1, e0, *])
          | (simp (disch := omega) only [getD_ints, wrapI])
          | (with_reducible (show wcall _ false (.lit (.func (.func 19) _ _)) _ _ _ _); refine wcall_fn (h19) (by simp [rfyL, rfy, hget, ints, take_rfy, take_rfy4, flat_ints4, freeze1, e0]) (by simp [plainL, plain, plainR, take_rfy4, flat_ints4, freeze1, e0]) ?_)
          | (with_reducible (show wcallX _ false (.lit (.func (.func 19) _ _)) _ _ _ _); refine wcallX_fn (h19) (by simp [rfyL, rfy, hget, ints, take_rfy, take_rfy4, flat_ints4, freeze1, e0]) (by simp [plainL, plain, plainR, take_rfy4, flat_ints4, freeze1, e0]) ?_)
          | (with_reducible (show wcall _ false (.lit (.func (.func 41) _ _)) _ _ _ _); refine wcall_fn (h41) (by simp [rfyL, rfy, hget, ints, take_rfy, take_rfy4, flat_ints4, freeze1, e0]) (by simp [plainL, plain, plainR, take_rfy4, flat_ints4, freeze1, e0]) ?_)
          | (with_reducible (show wcallX _ false (.lit (.func (.func 41) _ _)) _ _ _ _); refine wcallX_fn (h41) (by simp [rfyL, rfy, hget, ints, take_rfy, take_rfy4, flat_ints4, freeze1, e0]) (by simp [plainL, plain, plainR, take_rfy4, flat_ints4, freeze1, e0]) ?_)
          | (with_reducible (show wcall _ false (.lit (.func (.func 43) _ _)) _ _ _ _); refine wcall_fn (h43) (by simp [rfyL, rfy, hget, ints, take_rfy, take_rfy4, flat_ints4, freeze1, e0]) (by simp [plainL, plain, plainR, take_rfy4, flat_ints4, freeze1, e0]) ?_)
          | (with_reducible (show wcallX _ false (.lit (.func (.func 43) _ _)) _ _ _ _); refine wcallX_fn (h43) (by simp [rfyL, rfy, hget, ints, take_rfy, take_rfy4, flat_ints4, freeze1, e0]) (by simp [plainL, plain, plainR, take_rfy4, flat_ints4, freeze1, e0]) ?_)
          | (with_reducible (show wcall _ false (.lit (.func (.func 61) _ _)) _ _ _ _); refine wcall_fn (h61) (by simp [rfyL, rfy, hget, ints, take_rfy, take_rfy4, flat_ints4, freeze1, e0]) (by simp [plainL, plain, plainR, take_rfy4, flat_ints4, freeze1, e0]) ?_)
          | (with_reducible (show wcallX _ false (.lit (.func (.func 61) _ _)) _ _ _ _); refine wcallX_fn (h61) (by simp [rfyL, rfy, hget, ints, take_rfy, take_rfy4, flat_ints4, freeze1, e0]) (by simp [plainL, plain, plainR, take_rfy4, flat_ints4, freeze1, e0]) ?_)
          | (with_reducible (show wcall _ false (.lit (.func (.func 61) _ _)) _ _ _ _); refine wcall_fn (h61b) (by simp [rfyL, rfy, hget, ints, take_rfy, take_rfy4, flat_ints4, freeze1, e0]) (by simp [plainL, plain, plainR, take_rfy4, flat_ints4, freeze1, e0]) ?_)
          | (with_reducible (show wcallX _ false (.lit (.func (.func 61) _ _)) _ _ _ _); refine wcallX_fn (h61b) (by simp [rfyL, rfy, hget, ints, take_rfy, take_rfy4, flat_ints4, freeze1, e0]) (by simp [plainL, plain, plainR, take_rfy4, flat_ints4, freeze1, e0]) ?_)
          | (with_reducible (show wcall _ false (.lit (.func (.func 60) _ _)) _ _ _ _); refine wcall_fn (h60) (by simp [rfyL, rfy, hget, ints, take_rfy, take_rfy4, flat_ints4, freeze1, e0]) (by simp [plainL, plain, plainR, take_rfy4, flat_ints4, freeze1, e0]) ?_)
          | (with_reducible (show wcallX _ false (.lit (.func (.func 60) _ _)) _ _ _ _); refine wcallX_fn (h60) (by simp [rfyL, rfy, hget, ints, take_rfy, take_rfy4, flat_ints4, freeze1, e0]) (by simp [plainL, plain, plainR, take_rfy4, flat_ints4, freeze1, e0]) ?_)
          | (with_reducible (show wcall _ false (.lit (.func (.func 62) _ _)) _ _ _ _); refine wcall_fn (h62) (by simp [rfyL, rfy, hget, ints, take_rfy, take_rfy4, flat_ints4, freeze1, e0]) (by simp [plainL, plain, plainR, take_rfy4, flat_ints4, freeze1, e0]) ?_)
          | (with_reducible (show wcallX _ false (.lit (.func (.func 62) _ _)) _ _ _ _); refine wcallX_fn (h62) (by simp [rfyL, rfy, hget, ints, take_rfy, take_rfy4, flat_ints4, freeze1, e0]) (by simp [plainL, plain, plainR, take_rfy4, flat_ints4, freeze1, e0]) ?_)
          | (with_reducible (show wcall _ false (.lit (.func (.func 44) _ _)) _ _ _ _); refine wcall_fn (h44) (by simp [rfyL, rfy, hget, ints, take_rfy, take_rfy4, flat_ints4, freeze1, e0]) (by simp [plainL, plain, plainR, take_rfy4, flat_ints4, freeze1, e0]) ?_)
          | (with_reducible (show wcallX _ false (.lit (.func (.func 44) _ _)) _ _ _ _); refine wcallX_fn (h44) (by simp [rfyL, rfy, hget, ints, take_rfy, take_rfy4, flat_ints4, freeze1, e0]) (by simp [plainL, plain, plainR, take_rfy4, flat_ints4, freeze1, e0]) ?_)
          | (with_reducible (show wcall _ false (.lit (.func (.func 64) _ _)) _ _ _ _); refine wcall_fn (h64) (by simp [rfyL, rfy, hget, ints, take_rfy, take_rfy4, flat_ints4, freeze1, e0]) (by simp [plainL, plain, plainR, take_rfy4, flat_ints4, freeze1, e0]) ?_)
          | (with_reducible (show wcallX _ false (.lit (.func (.func 64) _ _)) _ _ _ _); refine wcallX_fn (h64) (by simp [rfyL, rfy, hget, ints, take_rfy, take_rfy4, flat_ints4, freeze1, e0]) (by simp [plainL, plain, plainR, take_rfy4, flat_ints4, freeze1, e0]) ?_)
          | (with_reducible (show wcall _ false (.lit (.func (.func 63) _ _)) _ _ _ _); refine wcall_fn (h63) (by simp [rfyL, rfy, hget, ints, take_rfy, take_rfy4, flat_ints4, freeze1, e0]) (by simp [plainL, plain, plainR, take_rfy4, flat_ints4, freeze1, e0]) ?_)
          | (with_reducible (show wcallX _ false (.lit (.func (.func 63) _ _)) _ _ _ _); refine wcallX_fn (h63) (by simp [rfyL, rfy, hget, ints, take_rfy, take_rfy4, flat_ints4, freeze1, e0]) (by simp [plainL, plain, plainR, take_rfy4, flat_ints4, freeze1, e0]) ?_)
          | omega)
        refine T_for [3, 1, 2, 7, 8, 9, 12, 13] (fun k => ⟨[(3, .loc 0 0 0), (1, i64 a), (2, i64 b), (7, i64 st1), (8, i64 st2), (9, .sl true 0 []), (12, .sl true 0 []), (13, i64 k)], [Blk.cells true false 2 [[i64 w, ints nil ph]], Blk.cells false false 1 (List.map (fun x => [i64 x]) ph), Blk.cells false false 1 (List.map (fun x => [i64 x]) ph), Blk.cells false false 1 (List.map (fun x => [i64 x]) ph)]⟩) 0 (fun _ => True) 0 rfl trivial (Nat.zero_le _) ?_
        intro k hk _
        have hk0 : k = 0 := by omega
        subst hk0
        unfold c13l0
        repeat' (first
          | (with_reducible refine T_seq ?_)
          | (with_reducible refine T_reg ?_)
          | ((with_reducible refine T_calm ?_ ?_); rfl)
          | (with_reducible refine T_draw ?_)
          | (with_reducible refine T_skip ?_)
          | (with_reducible refine T_exit ?_)
          | (with_reducible refine T_block ?_)
          | (with_reducible (show T _ _ _ _ _ (.cond _ _ _) _ _); first | (refine T_cond_t rfl ?_) | (refine T_cond_f rfl ?_) | (refine T_cond rfl (fun hc => ?_) (fun hc => ?_) <;> have hd := hc <;> (try simp (disch := omega) only [wrapI] at hd) <;> have hs := hd <;> (try simp only [Bool.not_eq_true', Bool.not_eq_false', Bool.and_eq_true, Bool.and_eq_false_iff, Bool.or_eq_true, Bool.or_eq_false_iff, decide_eq_true_eq, decide_eq_false_iff_not, beq_iff_eq, bne_iff_ne, beq_eq_false_iff_ne, bne_eq_false_iff_eq, Bool.not_true, Bool.not_false, gt_iff_lt, ge_iff_le, Int.not_lt, Int.not_le, ne_eq, Decidable.not_not] at hd) <;> (try simp at hs)))
          | (with_reducible (show wdW _ _ _ (_ :: _) _ _ _); refine wdW_cons rfl ?_)
          | (with_reducible (show wcall _ false (.lit (.func (.func 43) _ _)) _ _ _ _); refine wcall_fn (h43) rfl (by simp [plainL, plain, plainR, take_rfy4, flat_ints4, freeze1, e0]) ?_)
          | (with_reducible (show wcallX _ false (.lit (.func (.func 43) _ _)) _ _ _ _); refine wcallX_fn (h43) rfl (by simp [plainL, plain, plainR, take_rfy4, flat_ints4, freeze1, e0]) ?_)
          | (with_reducible (show wcall _ false (.lit (.func (.func 61) _ _)) _ _ _ _); refine wcall_fn (h61b) rfl (by simp [plainL, plain, plainR, take_rfy4, flat_ints4, freeze1, e0]) ?_)
          | (with_reducible (show wcallX _ false (.lit (.func (.func 61) _ _)) _ _ _ _); refine wcallX_fn (h61b) rfl (by simp [plainL, plain, plainR, take_rfy4, flat_ints4, freeze1, e0]) ?_)
          | (with_reducible (show wcall _ false (.lit (.func (.func 64) _ _)) _ _ _ _); refine wcall_fn (h64) rfl (by simp [plainL, plain, plainR, take_rfy4, flat_ints4, freeze1, e0]) ?_)
          | (with_reducible (show wcallX _ false (.lit (.func (.func 64) _ _)) _ _ _ _); refine wcallX_fn (h64) rfl (by simp [plainL, plain, plainR, take_rfy4, flat_ints4, freeze1, e0]) ?_)
          | (with_reducible refine wguard_split (fun hc => ?_) (fun hc => ?_) <;> have hd := hc <;> (try simp (disch := omega) only [wrapI] at hd) <;> have hs := hd <;> (try simp only [Bool.not_eq_true', Bool.not_eq_false', Bool.and_eq_true, Bool.and_eq_false_iff, Bool.or_eq_true, Bool.or_eq_false_iff, decide_eq_true_eq, decide_eq_false_iff_not, beq_iff_eq, bne_iff_ne, beq_eq_false_iff_ne, bne_eq_false_iff_eq, Bool.not_true, Bool.not_false, gt_iff_lt, ge_iff_le, Int.not_lt, Int.not_le, ne_eq, Decidable.not_not] at hd) <;> (try simp at hs))
          | (with_reducible refine wguardX_split (fun hc => ?_) (fun hc => ?_) <;> have hd := hc <;> (try simp (disch := omega) only [wrapI] at hd) <;> have hs := hd <;> (try simp only [Bool.not_eq_true', Bool.not_eq_false', Bool.and_eq_true, Bool.and_eq_false_iff, Bool.or_eq_true, Bool.or_eq_false_iff, decide_eq_true_eq, decide_eq_false_iff_not, beq_iff_eq, bne_iff_ne, beq_eq_false_iff_ne, bne_eq_false_iff_eq, Bool.not_true, Bool.not_false, gt_iff_lt, ge_iff_le, Int.not_lt, Int.not_le, ne_eq, Decidable.not_not] at hd) <;> (try simp at hs))
          | (with_reducible refine T_ret ?_)
          | (with_reducible (show leave _ _ _ _ _); first | (refine leave_of (.inr rfl) _ rfl ?_) | (refine leave_of (.inl rfl) _ rfl ?_))
          | (with_reducible (show leaveA _ _ _ _); first | (refine leaveA_of (.inr rfl) _ rfl ?_) | (refine leaveA_of (.inl rfl) _ rfl ?_))
          | (with_reducible refine wif_intro ?_ (fun hc => ?_))
          | (with_reducible refine And.intro ?_ ?_)
          | (with_reducible intro hc)
          | (simp only [wops_nil, wops_cons, wstep_none, wstep_some, wguard_true, wguard_ff, wguard_tf, wguard_ft, wguard_undef, wguardX_undef, wrun_call, wrun_mv, wrun_pick, wrun_bin, wrun_eqAgg, wrun_eqBool, wrun_eqNil, wrun_neg, wrun_not, wrun_cvInt, wrun_cvStr, wrun_ext, wrun_fld, wrun_build, wrun_load, wrun_store, wrun_faddr, wrun_iaddrS, wrun_iaddrA, wrun_idxA, wrun_idxS, wrun_slc, wrun_slc0, wrun_slcS, wrun_len, wrun_lenS, wrun_mkf, wrun_nilck, wrun_minmax, wrun_copy, wrun_mlook, wrun_mset, wrun_alloc, wrun_box, wrun_bslice, wrun_app, wrun_mks, wrun_mkmap, wrunX_mv, wrunX_pick, wrunX_bin, wrunX_eqAgg, wrunX_eqBool, wrunX_eqNil, wrunX_neg, wrunX_not, wrunX_cvInt, wrunX_cvStr, wrunX_ext, wrunX_fld, wrunX_build, wrunX_load, wrunX_store, wrunX_faddr, wrunX_iaddrS, wrunX_iaddrA, wrunX_idxA, wrunX_idxS, wrunX_slc, wrunX_slc0, wrunX_slcS, wrunX_len, wrunX_lenS, wrunX_mkf, wrunX_nilck, wrunX_minmax, wrunX_copy, wrunX_mlook, wrunX_mset, wrunX_alloc, wrunX_box, wrunX_bslice, wrunX_app, wrunX_mks, wrunX_mkmap, wdW_nil, wstepX_none, wstepX_some, wguardX_true, wguardX_ff, wguardX_tf, wguardX_ft, wrunX_call, get_mk, wop, aop, ev, look, put_some, put_none, writes, ores_some, ores_none, ores_ite_none, ores_none_ite, ores_map, ores_bind, wif_true, binV, thenK, blockK, boolV, intV, lenOf, elsOf, szOk, value, cut, hget, fillA, putCells, AV.parts, isOne, toLits, mkAgg, boundOf, asNat, tupOf, ofValue_int, ofValue_bool, ofValue_str, cellsEq, cellEq, List.flatten_cons, List.flatten_nil, rowsOf, List.map_cons, List.map_nil, List.length_cons, List.length_nil, List.getElem?_cons_zero, List.getElem?_cons_succ, List.getElem?_nil, List.set_cons_zero, List.set_cons_succ, List.take_succ_cons, List.take_zero, List.take_nil, List.drop_succ_cons, List.drop_zero, List.drop_nil, List.cons_append, List.nil_append, List.append_nil, List.append_assoc, List.replicate_zero, List.replicate_succ, List.replicate_one, List.getD_cons_zero, List.getD_cons_succ, List.zipIdx_cons, List.zipIdx_nil, List.all_cons, List.all_nil, List.isEmpty_cons, List.isEmpty_nil, List.length_append, List.length_map, List.length_replicate, Option.pure_def, Option.bind_eq_bind, Option.getD_some, Option.getD_none, Option.map_some, Option.map_none, Option.bind_some, Option.bind_none, Option.some.injEq, if_true, if_false, ite_true, ite_false, reduceIte, Nat.reduceEqDiff, Nat.reduceAdd, Nat.reduceSub, Nat.reduceMul, Nat.reduceLeDiff, Nat.reduceLT, Nat.reduceBEq, Nat.add_zero, Nat.zero_add, Nat.sub_zero, Nat.sub_self, Nat.zero_mul, Nat.mul_one, Nat.le_refl, Nat.zero_ne_one, reduceCtorEq, Bool.not_true, Bool.not_false, Bool.and_true, Bool.true_and, Bool.and_false, Bool.false_and, Bool.or_true, Bool.or_false, Bool.true_or, Bool.false_or, Bool.false_eq_true, eq_self, true_and, and_true, and_self, true_implies, false_implies, false_and, and_false, implies_true, not_false_eq_true, not_true_eq_false, decide_true, decide_false, ne_eq, beq_self_eq_true, Nat.min_self, Int.reduceNeg, freeze, lidsL, lids, rfyL, rfy, List.flatMap_cons, List.flatMap_nil, plain, plainL, plainR, List.all_cons, ren, renL, renR, renB, renO, keepρ, shiftρ, pos, Nat.not_lt_zero, renR_ints, plainR_ints, take_rfy4, flat_ints4, freeze1, e0, *])
          | (simp (disch := omega) only [getD_ints, wrapI])
          | (with_reducible (show wcall _ false (.lit (.func (.func 43) _ _)) _ _ _ _); refine wcall_fn (h43) (by simp [rfyL, rfy, hget, ints, take_rfy, take_rfy4, flat_ints4, freeze1, e0]) (by simp [plainL, plain, plainR, take_rfy4, flat_ints4, freeze1, e0]) ?_)
          | (with_reducible (show wcallX _ false (.lit (.func (.func 43) _ _)) _ _ _ _); refine wcallX_fn (h43) (by simp [rfyL, rfy, hget, ints, take_rfy, take_rfy4, flat_ints4, freeze1, e0]) (by simp [plainL, plain, plainR, take_rfy4, flat_ints4, freeze1, e0]) ?_)
          | (with_reducible (show wcall _ false (.lit (.func (.func 61) _ _)) _ _ _ _); refine wcall_fn (h61b) (by simp [rfyL, rfy, hget, ints, take_rfy, take_rfy4, flat_ints4, freeze1, e0]) (by simp [plainL, plain, plainR, take_rfy4, flat_ints4, freeze1, e0]) ?_)
          | (with_reducible (show wcallX _ false (.lit (.func (.func 61) _ _)) _ _ _ _); refine wcallX_fn (h61b) (by simp [rfyL, rfy, hget, ints, take_rfy, take_rfy4, flat_ints4, freeze1, e0]) (by simp [plainL, plain, plainR, take_rfy4, flat_ints4, freeze1, e0]) ?_)
          | (with_reducible (show wcall _ false (.lit (.func (.func 64) _ _)) _ _ _ _); refine wcall_fn (h64) (by simp [rfyL, rfy, hget, ints, take_rfy, take_rfy4, flat_ints4, freeze1, e0]) (by simp [plainL, plain, plainR, take_rfy4, flat_ints4, freeze1, e0]) ?_)
          | (with_reducible (show wcallX _ false (.lit (.func (.func 64) _ _)) _ _ _ _); refine wcallX_fn (h64) (by simp [rfyL, rfy, hget, ints, take_rfy, take_rfy4, flat_ints4, freeze1, e0]) (by simp [plainL, plain, plainR, take_rfy4, flat_ints4, freeze1, e0]) ?_)
          | omega)
      · simp only [outV, outB, hx, if_false] at h60 h63
        have hrl := rows2_len R
        repeat' (first
          | (with_reducible refine T_seq ?_)
          | (with_reducible refine T_reg ?_)
          | ((with_reducible refine T_calm ?_ ?_); rfl)
          | (with_reducible refine T_draw ?_)
          | (with_reducible refine T_skip ?_)
          | (with_reducible refine T_exit ?_)
          | (with_reducible refine T_block ?_)
          | (with_reducible (show T _ _ _ _ _ (.cond _ _ _) _ _); first | (refine T_cond_t rfl ?_) | (refine T_cond_f rfl ?_) | (refine T_cond rfl (fun hc => ?_) (fun hc => ?_) <;> have hd := hc <;> (try simp (disch := omega) only [wrapI] at hd) <;> have hs := hd <;> (try simp only [Bool.not_eq_true', Bool.not_eq_false', Bool.and_eq_true, Bool.and_eq_false_iff, Bool.or_eq_true, Bool.or_eq_false_iff, decide_eq_true_eq, decide_eq_false_iff_not, beq_iff_eq, bne_iff_ne, beq_eq_false_iff_ne, bne_eq_false_iff_eq, Bool.not_true, Bool.not_false, gt_iff_lt, ge_iff_le, Int.not_lt, Int.not_le, ne_eq, Decidable.not_not] at hd) <;> (try simp at hs)))
          | (with_reducible (show wdW _ _ _ (_ :: _) _ _ _); refine wdW_cons rfl ?_)
          | (with_reducible (show wcall _ false (.lit (.func (.func 19) _ _)) _ _ _ _); refine wcall_fn (h19) rfl (by simp [plainL, plain, plainR, take_rfy4, flat_ints4, freeze1, e0, renR_rows2]) ?_)
          | (with_reducible (show wcallX _ false (.lit (.func (.func 19) _ _)) _ _ _ _); refine wcallX_fn (h19) rfl (by simp [plainL, plain, plainR, take_rfy4, flat_ints4, freeze1, e0, renR_rows2]) ?_)
          | (with_reducible (show wcall _ false (.lit (.func (.func 41) _ _)) _ _ _ _); refine wcall_fn (h41) rfl (by simp [plainL, plain, plainR, take_rfy4, flat_ints4, freeze1, e0, renR_rows2]) ?_)
          | (with_reducible (show wcallX _ false (.lit (.func (.func 41) _ _)) _ _ _ _); refine wcallX_fn (h41) rfl (by simp [plainL, plain, plainR, take_rfy4, flat_ints4, freeze1, e0, renR_rows2]) ?_)
          | (with_reducible (show wcall _ false (.lit (.func (.func 43) _ _)) _ _ _ _); refine wcall_fn (h43) rfl (by simp [plainL, plain, plainR, take_rfy4, flat_ints4, freeze1, e0, renR_rows2]) ?_)
          | (with_reducible (show wcallX _ false (.lit (.func (.func 43) _ _)) _ _ _ _); refine wcallX_fn (h43) rfl (by simp [plainL, plain, plainR, take_rfy4, flat_ints4, freeze1, e0, renR_rows2]) ?_)
          | (with_reducible (show wcall _ false (.lit (.func (.func 61) _ _)) _ _ _ _); refine wcall_fn (h61) rfl (by simp [plainL, plain, plainR, take_rfy4, flat_ints4, freeze1, e0, renR_rows2]) ?_)
          | (with_reducible (show wcallX _ false (.lit (.func (.func 61) _ _)) _ _ _ _); refine wcallX_fn (h61) rfl (by simp [plainL, plain, plainR, take_rfy4, flat_ints4, freeze1, e0, renR_rows2]) ?_)
          | (with_reducible (show wcall _ false (.lit (.func (.func 61) _ _)) _ _ _ _); refine wcall_fn (h61b) rfl (by simp [plainL, plain, plainR, take_rfy4, flat_ints4, freeze1, e0, renR_rows2]) ?_)
          | (with_reducible (show wcallX _ false (.lit (.func (.func 61) _ _)) _ _ _ _); refine wcallX_fn (h61b) rfl (by simp [plainL, plain, plainR, take_rfy4, flat_ints4, freeze1, e0, renR_rows2]) ?_)
          | (with_reducible (show wcall _ false (.lit (.func (.func 60) _ _)) _ _ _ _); refine wcall_fn (h60) rfl (by simp [plainL, plain, plainR, take_rfy4, flat_ints4, freeze1, e0, renR_rows2]) ?_)
          | (with_reducible (show wcallX _ false (.lit (.func (.func 60) _ _)) _ _ _ _); refine wcallX_fn (h60) rfl (by simp [plainL, plain, plainR, take_rfy4, flat_ints4, freeze1, e0, renR_rows2]) ?_)
          | (with_reducible (show wcall _ false (.lit (.func (.func 62) _ _)) _ _ _ _); refine wcall_fn (h62) rfl (by simp [plainL, plain, plainR, take_rfy4, flat_ints4, freeze1, e0, renR_rows2]) ?_)
          | (with_reducible (show wcallX _ false (.lit (.func (.func 62) _ _)) _ _ _ _); refine wcallX_fn (h62) rfl (by simp [plainL, plain, plainR, take_rfy4, flat_ints4, freeze1, e0, renR_rows2]) ?_)
          | (with_reducible (show wcall _ false (.lit (.func (.func 44) _ _)) _ _ _ _); refine wcall_fn (h44) rfl (by simp [plainL, plain, plainR, take_rfy4, flat_ints4, freeze1, e0, renR_rows2]) ?_)
          | (with_reducible (show wcallX _ false (.lit (.func (.func 44) _ _)) _ _ _ _); refine wcallX_fn (h44) rfl (by simp [plainL, plain, plainR, take_rfy4, flat_ints4, freeze1, e0, renR_rows2]) ?_)
          | (with_reducible (show wcall _ false (.lit (.func (.func 64) _ _)) _ _ _ _); refine wcall_fn (h64) rfl (by simp [plainL, plain, plainR, take_rfy4, flat_ints4, freeze1, e0, renR_rows2]) ?_)
          | (with_reducible (show wcallX _ false (.lit (.func (.func 64) _ _)) _ _ _ _); refine wcallX_fn (h64) rfl (by simp [plainL, plain, plainR, take_rfy4, flat_ints4, freeze1, e0, renR_rows2]) ?_)
          | (with_reducible (show wcall _ false (.lit (.func (.func 63) _ _)) _ _ _ _); refine wcall_fn (h63) rfl (by simp [plainL, plain, plainR, take_rfy4, flat_ints4, freeze1, e0, renR_rows2]) ?_)
          | (with_reducible (show wcallX _ false (.lit (.func (.func 63) _ _)) _ _ _ _); refine wcallX_fn (h63) rfl (by simp [plainL, plain, plainR, take_rfy4, flat_ints4, freeze1, e0, renR_rows2]) ?_)
          | (with_reducible refine wguard_split (fun hc => ?_) (fun hc => ?_) <;> have hd := hc <;> (try simp (disch := omega) only [wrapI] at hd) <;> have hs := hd <;> (try simp only [Bool.not_eq_true', Bool.not_eq_false', Bool.and_eq_true, Bool.and_eq_false_iff, Bool.or_eq_true, Bool.or_eq_false_iff, decide_eq_true_eq, decide_eq_false_iff_not, beq_iff_eq, bne_iff_ne, beq_eq_false_iff_ne, bne_eq_false_iff_eq, Bool.not_true, Bool.not_false, gt_iff_lt, ge_iff_le, Int.not_lt, Int.not_le, ne_eq, Decidable.not_not] at hd) <;> (try simp at hs))
          | (with_reducible refine wguardX_split (fun hc => ?_) (fun hc => ?_) <;> have hd := hc <;> (try simp (disch := omega) only [wrapI] at hd) <;> have hs := hd <;> (try simp only [Bool.not_eq_true', Bool.not_eq_false', Bool.and_eq_true, Bool.and_eq_false_iff, Bool.or_eq_true, Bool.or_eq_false_iff, decide_eq_true_eq, decide_eq_false_iff_not, beq_iff_eq, bne_iff_ne, beq_eq_false_iff_ne, bne_eq_false_iff_eq, Bool.not_true, Bool.not_false, gt_iff_lt, ge_iff_le, Int.not_lt, Int.not_le, ne_eq, Decidable.not_not] at hd) <;> (try simp at hs))
          | (with_reducible refine T_ret ?_)
          | (with_reducible (show leave _ _ _ _ _); first | (refine leave_of (.inr rfl) _ rfl ?_) | (refine leave_of (.inl rfl) _ rfl ?_))
          | (with_reducible (show leaveA _ _ _ _); first | (refine leaveA_of (.inr rfl) _ rfl ?_) | (refine leaveA_of (.inl rfl) _ rfl ?_))
          | (with_reducible refine wif_intro ?_ (fun hc => ?_))
          | (with_reducible refine And.intro ?_ ?_)
          | (with_reducible intro hc)
          | (simp only [wops_nil, wops_cons, wstep_none, wstep_some, wguard_true, wguard_ff, wguard_tf, wguard_ft, wguard_undef, wguardX_undef, wrun_call, wrun_mv, wrun_pick, wrun_bin, wrun_eqAgg, wrun_eqBool, wrun_eqNil, wrun_neg, wrun_not, wrun_cvInt, wrun_cvStr, wrun_ext, wrun_fld, wrun_build, wrun_load, wrun_store, wrun_faddr, wrun_iaddrS, wrun_iaddrA, wrun_idxA, wrun_idxS, wrun_slc, wrun_slc0, wrun_slcS, wrun_len, wrun_lenS, wrun_mkf, wrun_nilck, wrun_minmax, wrun_copy, wrun_mlook, wrun_mset, wrun_alloc, wrun_box, wrun_bslice, wrun_app, wrun_mks, wrun_mkmap, wrunX_mv, wrunX_pick, wrunX_bin, wrunX_eqAgg, wrunX_eqBool, wrunX_eqNil, wrunX_neg, wrunX_not, wrunX_cvInt, wrunX_cvStr, wrunX_ext, wrunX_fld, wrunX_build, wrunX_load, wrunX_store, wrunX_faddr, wrunX_iaddrS, wrunX_iaddrA, wrunX_idxA, wrunX_idxS, wrunX_slc, wrunX_slc0, wrunX_slcS, wrunX_len, wrunX_lenS, wrunX_mkf, wrunX_nilck, wrunX_minmax, wrunX_copy, wrunX_mlook, wrunX_mset, wrunX_alloc, wrunX_box, wrunX_bslice, wrunX_app, wrunX_mks, wrunX_mkmap, wdW_nil, wstepX_none, wstepX_some, wguardX_true, wguardX_ff, wguardX_tf, wguardX_ft, wrunX_call, get_mk, wop, aop, ev, look, put_some, put_none, writes, ores_some, ores_none, ores_ite_none, ores_none_ite, ores_map, ores_bind, wif_true, binV, thenK, blockK, boolV, intV, lenOf, elsOf, szOk, value, cut, hget, fillA, putCells, AV.parts, isOne, toLits, mkAgg, boundOf, asNat, tupOf, ofValue_int, ofValue_bool, ofValue_str, cellsEq, cellEq, List.flatten_cons, List.flatten_nil, rowsOf, List.map_cons, List.map_nil, List.length_cons, List.length_nil, List.getElem?_cons_zero, List.getElem?_cons_succ, List.getElem?_nil, List.set_cons_zero, List.set_cons_succ, List.take_succ_cons, List.take_zero, List.take_nil, List.drop_succ_cons, List.drop_zero, List.drop_nil, List.cons_append, List.nil_append, List.append_nil, List.append_assoc, List.replicate_zero, List.replicate_succ, List.replicate_one, List.getD_cons_zero, List.getD_cons_succ, List.zipIdx_cons, List.zipIdx_nil, List.all_cons, List.all_nil, List.isEmpty_cons, List.isEmpty_nil, List.length_append, List.length_map, List.length_replicate, Option.pure_def, Option.bind_eq_bind, Option.getD_some, Option.getD_none, Option.map_some, Option.map_none, Option.bind_some, Option.bind_none, Option.some.injEq, if_true, if_false, ite_true, ite_false, reduceIte, Nat.reduceEqDiff, Nat.reduceAdd, Nat.reduceSub, Nat.reduceMul, Nat.reduceLeDiff, Nat.reduceLT, Nat.reduceBEq, Nat.add_zero, Nat.zero_add, Nat.sub_zero, Nat.sub_self, Nat.zero_mul, Nat.mul_one, Nat.le_refl, Nat.zero_ne_one, reduceCtorEq, Bool.not_true, Bool.not_false, Bool.and_true, Bool.true_and, Bool.and_false, Bool.false_and, Bool.or_true, Bool.or_false, Bool.true_or, Bool.false_or, Bool.false_eq_true, eq_self, true_and, and_true, and_self, true_implies, false_implies, false_and, and_false, implies_true, not_false_eq_true, not_true_eq_false, decide_true, decide_false, ne_eq, beq_self_eq_true, Nat.min_self, Int.reduceNeg, freeze, lidsL, lids, rfyL, rfy, List.flatMap_cons, List.flatMap_nil, plain, plainL, plainR, List.all_cons, ren, renL, renR, renB, renO, keepρ, shiftρ, pos, Nat.not_lt_zero, renR_ints, plainR_ints, take_rfy4, flat_ints4, freeze1, e0, renR_rows2, *])
          | (simp (disch := omega) only [getD_ints, wrapI])
          | (with_reducible (show wcall _ false (.lit (.func (.func 19) _ _)) _ _ _ _); refine wcall_fn (h19) (by simp [rfyL, rfy, hget, ints, take_rfy, take_rfy4, flat_ints4, freeze1, e0, renR_rows2]) (by simp [plainL, plain, plainR, take_rfy4, flat_ints4, freeze1, e0, renR_rows2]) ?_)
          | (with_reducible (show wcallX _ false (.lit (.func (.func 19) _ _)) _ _ _ _); refine wcallX_fn (h19) (by simp [rfyL, rfy, hget, ints, take_rfy, take_rfy4, flat_ints4, freeze1, e0, renR_rows2]) (by simp [plainL, plain, plainR, take_rfy4, flat_ints4, freeze1, e0, renR_rows2]) ?_)
          | (with_reducible (show wcall _ false (.lit (.func (.func 41) _ _)) _ _ _ _); refine wcall_fn (h41) (by simp [rfyL, rfy, hget, ints, take_rfy, take_rfy4, flat_ints4, freeze1, e0, renR_rows2]) (by simp [plainL, plain, plainR, take_rfy4, flat_ints4, freeze1, e0, renR_rows2]) ?_)
          | (with_reducible (show wcallX _ false (.lit (.func (.func 41) _ _)) _ _ _ _); refine wcallX_fn (h41) (by simp [rfyL, rfy, hget, ints, take_rfy, take_rfy4, flat_ints4, freeze1, e0, renR_rows2]) (by simp [plainL, plain, plainR, take_rfy4, flat_ints4, freeze1, e0, renR_rows2]) ?_)
          | (with_reducible (show wcall _ false (.lit (.func (.func 43) _ _)) _ _ _ _); refine wcall_fn (h43) (by simp [rfyL, rfy, hget, ints, take_rfy, take_rfy4, flat_ints4, freeze1, e0, renR_rows2]) (by simp [plainL, plain, plainR, take_rfy4, flat_ints4, freeze1, e0, renR_rows2]) ?_)
          | (with_reducible (show wcallX _ false (.lit (.func (.func 43) _ _)) _ _ _ _); refine wcallX_fn (h43) (by simp [rfyL, rfy, hget, ints, take_rfy, take_rfy4, flat_ints4, freeze1, e0, renR_rows2]) (by simp [plainL, plain, plainR, take_rfy4, flat_ints4, freeze1, e0, renR_rows2]) ?_)
          | (with_reducible (show wcall _ false (.lit (.func (.func 61) _ _)) _ _ _ _); refine wcall_fn (h61) (by simp [rfyL, rfy, hget, ints, take_rfy, take_rfy4, flat_ints4, freeze1, e0, renR_rows2]) (by simp [plainL, plain, plainR, take_rfy4, flat_ints4, freeze1, e0, renR_rows2]) ?_)
          | (with_reducible (show wcallX _ false (.lit (.func (.func 61) _ _)) _ _ _ _); refine wcallX_fn (h61) (by simp [rfyL, rfy, hget, ints, take_rfy, take_rfy4, flat_ints4, freeze1, e0, renR_rows2]) (by simp [plainL, plain, plainR, take_rfy4, flat_ints4, freeze1, e0, renR_rows2]) ?_)
          | (with_reducible (show wcall _ false (.lit (.func (.func 61) _ _)) _ _ _ _); refine wcall_fn (h61b) (by simp [rfyL, rfy, hget, ints, take_rfy, take_rfy4, flat_ints4, freeze1, e0, renR_rows2]) (by simp [plainL, plain, plainR, take_rfy4, flat_ints4, freeze1, e0, renR_rows2]) ?_)
          | (with_reducible (show wcallX _ false (.lit (.func (.func 61) _ _)) _ _ _ _); refine wcallX_fn (h61b) (by simp [rfyL, rfy, hget, ints, take_rfy, take_rfy4, flat_ints4, freeze1, e0, renR_rows2]) (by simp [plainL, plain, plainR, take_rfy4, flat_ints4, freeze1, e0, renR_rows2]) ?_)
          | (with_reducible (show wcall _ false (.lit (.func (.func 60) _ _)) _ _ _ _); refine wcall_fn (h60) (by simp [rfyL, rfy, hget, ints, take_rfy, take_rfy4, flat_ints4, freeze1, e0, renR_rows2]) (by simp [plainL, plain, plainR, take_rfy4, flat_ints4, freeze1, e0, renR_rows2]) ?_)
          | (with_reducible (show wcallX _ false (.lit (.func (.func 60) _ _)) _ _ _ _); refine wcallX_fn (h60) (by simp [rfyL, rfy, hget, ints, take_rfy, take_rfy4, flat_ints4, freeze1, e0, renR_rows2]) (by simp [plainL, plain, plainR, take_rfy4, flat_ints4, freeze1, e0, renR_rows2]) ?_)
          | (with_reducible (show wcall _ false (.lit (.func (.func 62) _ _)) _ _ _ _); refine wcall_fn (h62) (by simp [rfyL, rfy, hget, ints, take_rfy, take_rfy4, flat_ints4, freeze1, e0, renR_rows2]) (by simp [plainL, plain, plainR, take_rfy4, flat_ints4, freeze1, e0, renR_rows2]) ?_)
          | (with_reducible (show wcallX _ false (.lit (.func (.func 62) _ _)) _ _ _ _); refine wcallX_fn (h62) (by simp [rfyL, rfy, hget, ints, take_rfy, take_rfy4, flat_ints4, freeze1, e0, renR_rows2]) (by simp [plainL, plain, plainR, take_rfy4, flat_ints4, freeze1, e0, renR_rows2]) ?_)
          | (with_reducible (show wcall _ false (.lit (.func (.func 44) _ _)) _ _ _ _); refine wcall_fn (h44) (by simp [rfyL, rfy, hget, ints, take_rfy, take_rfy4, flat_ints4, freeze1, e0, renR_rows2]) (by simp [plainL, plain, plainR, take_rfy4, flat_ints4, freeze1, e0, renR_rows2]) ?_)
          | (with_reducible (show wcallX _ false (.lit (.func (.func 44) _ _)) _ _ _ _); refine wcallX_fn (h44) (by simp [rfyL, rfy, hget, ints, take_rfy, take_rfy4, flat_ints4, freeze1, e0, renR_rows2]) (by simp [plainL, plain, plainR, take_rfy4, flat_ints4, freeze1, e0, renR_rows2]) ?_)
          | (with_reducible (show wcall _ false (.lit (.func (.func 64) _ _)) _ _ _ _); refine wcall_fn (h64) (by simp [rfyL, rfy, hget, ints, take_rfy, take_rfy4, flat_ints4, freeze1, e0, renR_rows2]) (by simp [plainL, plain, plainR, take_rfy4, flat_ints4, freeze1, e0, renR_rows2]) ?_)
          | (with_reducible (show wcallX _ false (.lit (.func (.func 64) _ _)) _ _ _ _); refine wcallX_fn (h64) (by simp [rfyL, rfy, hget, ints, take_rfy, take_rfy4, flat_ints4, freeze1, e0, renR_rows2]) (by simp [plainL, plain, plainR, take_rfy4, flat_ints4, freeze1, e0, renR_rows2]) ?_)
          | (with_reducible (show wcall _ false (.lit (.func (.func 63) _ _)) _ _ _ _); refine wcall_fn (h63) (by simp [rfyL, rfy, hget, ints, take_rfy, take_rfy4, flat_ints4, freeze1, e0, renR_rows2]) (by simp [plainL, plain, plainR, take_rfy4, flat_ints4, freeze1, e0, renR_rows2]) ?_)
          | (with_reducible (show wcallX _ false (.lit (.func (.func 63) _ _)) _ _ _ _); refine wcallX_fn (h63) (by simp [rfyL, rfy, hget, ints, take_rfy, take_rfy4, flat_ints4, freeze1, e0, renR_rows2]) (by simp [plainL, plain, plainR, take_rfy4, flat_ints4, freeze1, e0, renR_rows2]) ?_)
          | omega)
        refine T_for [3, 1, 2, 7, 8, 9, 12, 13] (fun k => ⟨[(3, .loc 0 0 0), (1, i64 a), (2, i64 b), (7, i64 st1), (8, i64 st2), (9, .lsl 3 0 R.length), (12, .lsl 5 0 R.length), (13, i64 k)], [Blk.cells true false 2 [[i64 w, ints nil ph]], Blk.cells false false 1 (List.map (fun x => [i64 x]) ph), Blk.cells false false 1 (List.map (fun x => [i64 x]) ph), Blk.cells true false 2 (rows2 R), Blk.cells false false 1 (List.map (fun x => [i64 x]) ph), Blk.cells true false 2 (rows2 R)]⟩) R.length (fun _ => True) 0 rfl trivial (Nat.zero_le _) ?_
        intro k hk _
        have hg : k < R.length → (rows2 R).getD ((k : Nat) : Int).toNat [] = [i64 (R.getD k (0, 0)).1, i64 (R.getD k (0, 0)).2] := fun h => by
          simp [rows2, List.getD, h]
        unfold c13l0
        by_cases hkn : k < R.length
        · replace hg := hg hkn
          repeat' (first
            | (with_reducible refine T_seq ?_)
            | (with_reducible refine T_reg ?_)
            | ((with_reducible refine T_calm ?_ ?_); rfl)
            | (with_reducible refine T_draw ?_)
            | (with_reducible refine T_skip ?_)
            | (with_reducible refine T_exit ?_)
            | (with_reducible refine T_block ?_)
            | (with_reducible (show T _ _ _ _ _ (.cond _ _ _) _ _); first | (refine T_cond_t rfl ?_) | (refine T_cond_f rfl ?_) | (refine T_cond rfl (fun hc => ?_) (fun hc => ?_) <;> have hd := hc <;> (try simp (disch := omega) only [wrapI] at hd) <;> have hs := hd <;> (try simp only [Bool.not_eq_true', Bool.not_eq_false', Bool.and_eq_true, Bool.and_eq_false_iff, Bool.or_eq_true, Bool.or_eq_false_iff, decide_eq_true_eq, decide_eq_false_iff_not, beq_iff_eq, bne_iff_ne, beq_eq_false_iff_ne, bne_eq_false_iff_eq, Bool.not_true, Bool.not_false, gt_iff_lt, ge_iff_le, Int.not_lt, Int.not_le, ne_eq, Decidable.not_not] at hd) <;> (try simp at hs)))
            | (with_reducible (show wdW _ _ _ (_ :: _) _ _ _); refine wdW_cons rfl ?_)
            | (with_reducible (show wcall _ false (.lit (.func (.func 43) _ _)) _ _ _ _); refine wcall_fn (h43) rfl (by simp [plainL, plain, plainR, take_rfy4, flat_ints4, freeze1, e0]) ?_)
            | (with_reducible (show wcallX _ false (.lit (.func (.func 43) _ _)) _ _ _ _); refine wcallX_fn (h43) rfl (by simp [plainL, plain, plainR, take_rfy4, flat_ints4, freeze1, e0]) ?_)
            | (with_reducible (show wcall _ false (.lit (.func (.func 61) _ _)) _ _ _ _); refine wcall_fn (h61b) rfl (by simp [plainL, plain, plainR, take_rfy4, flat_ints4, freeze1, e0]) ?_)
            | (with_reducible (show wcallX _ false (.lit (.func (.func 61) _ _)) _ _ _ _); refine wcallX_fn (h61b) rfl (by simp [plainL, plain, plainR, take_rfy4, flat_ints4, freeze1, e0]) ?_)
            | (with_reducible (show wcall _ false (.lit (.func (.func 64) _ _)) _ _ _ _); refine wcall_fn (h64) rfl (by simp [plainL, plain, plainR, take_rfy4, flat_ints4, freeze1, e0]) ?_)
            | (with_reducible (show wcallX _ false (.lit (.func (.func 64) _ _)) _ _ _ _); refine wcallX_fn (h64) rfl (by simp [plainL, plain, plainR, take_rfy4, flat_ints4, freeze1, e0]) ?_)
            | (with_reducible refine wguard_split (fun hc => ?_) (fun hc => ?_) <;> have hd := hc <;> (try simp (disch := omega) only [wrapI] at hd) <;> have hs := hd <;> (try simp only [Bool.not_eq_true', Bool.not_eq_false', Bool.and_eq_true, Bool.and_eq_false_iff, Bool.or_eq_true, Bool.or_eq_false_iff, decide_eq_true_eq, decide_eq_false_iff_not, beq_iff_eq, bne_iff_ne, beq_eq_false_iff_ne, bne_eq_false_iff_eq, Bool.not_true, Bool.not_false, gt_iff_lt, ge_iff_le, Int.not_lt, Int.not_le, ne_eq, Decidable.not_not] at hd) <;> (try simp at hs))
            | (with_reducible refine wguardX_split (fun hc => ?_) (fun hc => ?_) <;> have hd := hc <;> (try simp (disch := omega) only [wrapI] at hd) <;> have hs := hd <;> (try simp only [Bool.not_eq_true', Bool.not_eq_false', Bool.and_eq_true, Bool.and_eq_false_iff, Bool.or_eq_true, Bool.or_eq_false_iff, decide_eq_true_eq, decide_eq_false_iff_not, beq_iff_eq, bne_iff_ne, beq_eq_false_iff_ne, bne_eq_false_iff_eq, Bool.not_true, Bool.not_false, gt_iff_lt, ge_iff_le, Int.not_lt, Int.not_le, ne_eq, Decidable.not_not] at hd) <;> (try simp at hs))
            | (with_reducible refine T_ret ?_)
            | (with_reducible (show leave _ _ _ _ _); first | (refine leave_of (.inr rfl) _ rfl ?_) | (refine leave_of (.inl rfl) _ rfl ?_))
            | (with_reducible (show leaveA _ _ _ _); first | (refine leaveA_of (.inr rfl) _ rfl ?_) | (refine leaveA_of (.inl rfl) _ rfl ?_))
            | (with_reducible refine wif_intro ?_ (fun hc => ?_))
            | (with_reducible refine And.intro ?_ ?_)
            | (with_reducible intro hc)
            | (simp only [wops_nil, wops_cons, wstep_none, wstep_some, wguard_true, wguard_ff, wguard_tf, wguard_ft, wguard_undef, wguardX_undef, wrun_call, wrun_mv, wrun_pick, wrun_bin, wrun_eqAgg, wrun_eqBool, wrun_eqNil, wrun_neg, wrun_not, wrun_cvInt, wrun_cvStr, wrun_ext, wrun_fld, wrun_build, wrun_load, wrun_store, wrun_faddr, wrun_iaddrS, wrun_iaddrA, wrun_idxA, wrun_idxS, wrun_slc, wrun_slc0, wrun_slcS, wrun_len, wrun_lenS, wrun_mkf, wrun_nilck, wrun_minmax, wrun_copy, wrun_mlook, wrun_mset, wrun_alloc, wrun_box, wrun_bslice, wrun_app, wrun_mks, wrun_mkmap, wrunX_mv, wrunX_pick, wrunX_bin, wrunX_eqAgg, wrunX_eqBool, wrunX_eqNil, wrunX_neg, wrunX_not, wrunX_cvInt, wrunX_cvStr, wrunX_ext, wrunX_fld, wrunX_build, wrunX_load, wrunX_store, wrunX_faddr, wrunX_iaddrS, wrunX_iaddrA, wrunX_idxA, wrunX_idxS, wrunX_slc, wrunX_slc0, wrunX_slcS, wrunX_len, wrunX_lenS, wrunX_mkf, wrunX_nilck, wrunX_minmax, wrunX_copy, wrunX_mlook, wrunX_mset, wrunX_alloc, wrunX_box, wrunX_bslice, wrunX_app, wrunX_mks, wrunX_mkmap, wdW_nil, wstepX_none, wstepX_some, wguardX_true, wguardX_ff, wguardX_tf, wguardX_ft, wrunX_call, get_mk, wop, aop, ev, look, put_some, put_none, writes, ores_some, ores_none, ores_ite_none, ores_none_ite, ores_map, ores_bind, wif_true, binV, thenK, blockK, boolV, intV, lenOf, elsOf, szOk, value, cut, hget, fillA, putCells, AV.parts, isOne, toLits, mkAgg, boundOf, asNat, tupOf, ofValue_int, ofValue_bool, ofValue_str, cellsEq, cellEq, List.flatten_cons, List.flatten_nil, rowsOf, List.map_cons, List.map_nil, List.length_cons, List.length_nil, List.getElem?_cons_zero, List.getElem?_cons_succ, List.getElem?_nil, List.set_cons_zero, List.set_cons_succ, List.take_succ_cons, List.take_zero, List.take_nil, List.drop_succ_cons, List.drop_zero, List.drop_nil, List.cons_append, List.nil_append, List.append_nil, List.append_assoc, List.replicate_zero, List.replicate_succ, List.replicate_one, List.getD_cons_zero, List.getD_cons_succ, List.zipIdx_cons, List.zipIdx_nil, List.all_cons, List.all_nil, List.isEmpty_cons, List.isEmpty_nil, List.length_append, List.length_map, List.length_replicate, Option.pure_def, Option.bind_eq_bind, Option.getD_some, Option.getD_none, Option.map_some, Option.map_none, Option.bind_some, Option.bind_none, Option.some.injEq, if_true, if_false, ite_true, ite_false, reduceIte, Nat.reduceEqDiff, Nat.reduceAdd, Nat.reduceSub, Nat.reduceMul, Nat.reduceLeDiff, Nat.reduceLT, Nat.reduceBEq, Nat.add_zero, Nat.zero_add, Nat.sub_zero, Nat.sub_self, Nat.zero_mul, Nat.mul_one, Nat.le_refl, Nat.zero_ne_one, reduceCtorEq, Bool.not_true, Bool.not_false, Bool.and_true, Bool.true_and, Bool.and_false, Bool.false_and, Bool.or_true, Bool.or_false, Bool.true_or, Bool.false_or, Bool.false_eq_true, eq_self, true_and, and_true, and_self, true_implies, false_implies, false_and, and_false, implies_true, not_false_eq_true, not_true_eq_false, decide_true, decide_false, ne_eq, beq_self_eq_true, Nat.min_self, Int.reduceNeg, freeze, lidsL, lids, rfyL, rfy, List.flatMap_cons, List.flatMap_nil, plain, plainL, plainR, List.all_cons, ren, renL, renR, renB, renO, keepρ, shiftρ, pos, Nat.not_lt_zero, renR_ints, plainR_ints, take_rfy4, flat_ints4, freeze1, e0, *])
            | (simp (disch := omega) only [getD_ints, wrapI])
            | (with_reducible (show wcall _ false (.lit (.func (.func 43) _ _)) _ _ _ _); refine wcall_fn (h43) (by simp [rfyL, rfy, hget, ints, take_rfy, take_rfy4, flat_ints4, freeze1, e0]) (by simp [plainL, plain, plainR, take_rfy4, flat_ints4, freeze1, e0]) ?_)
            | (with_reducible (show wcallX _ false (.lit (.func (.func 43) _ _)) _ _ _ _); refine wcallX_fn (h43) (by simp [rfyL, rfy, hget, ints, take_rfy, take_rfy4, flat_ints4, freeze1, e0]) (by simp [plainL, plain, plainR, take_rfy4, flat_ints4, freeze1, e0]) ?_)
            | (with_reducible (show wcall _ false (.lit (.func (.func 61) _ _)) _ _ _ _); refine wcall_fn (h61b) (by simp [rfyL, rfy, hget, ints, take_rfy, take_rfy4, flat_ints4, freeze1, e0]) (by simp [plainL, plain, plainR, take_rfy4, flat_ints4, freeze1, e0]) ?_)
            | (with_reducible (show wcallX _ false (.lit (.func (.func 61) _ _)) _ _ _ _); refine wcallX_fn (h61b) (by simp [rfyL, rfy, hget, ints, take_rfy, take_rfy4, flat_ints4, freeze1, e0]) (by simp [plainL, plain, plainR, take_rfy4, flat_ints4, freeze1, e0]) ?_)
            | (with_reducible (show wcall _ false (.lit (.func (.func 64) _ _)) _ _ _ _); refine wcall_fn (h64) (by simp [rfyL, rfy, hget, ints, take_rfy, take_rfy4, flat_ints4, freeze1, e0]) (by simp [plainL, plain, plainR, take_rfy4, flat_ints4, freeze1, e0]) ?_)
            | (with_reducible (show wcallX _ false (.lit (.func (.func 64) _ _)) _ _ _ _); refine wcallX_fn (h64) (by simp [rfyL, rfy, hget, ints, take_rfy, take_rfy4, flat_ints4, freeze1, e0]) (by simp [plainL, plain, plainR, take_rfy4, flat_ints4, freeze1, e0]) ?_)
            | omega)
          all_goals exact rfl
        · replace hg := True.intro
          repeat' (first
            | (with_reducible refine T_seq ?_)
            | (with_reducible refine T_reg ?_)
            | ((with_reducible refine T_calm ?_ ?_); rfl)
            | (with_reducible refine T_draw ?_)
            | (with_reducible refine T_skip ?_)
            | (with_reducible refine T_exit ?_)
            | (with_reducible refine T_block ?_)
            | (with_reducible (show T _ _ _ _ _ (.cond _ _ _) _ _); first | (refine T_cond_t rfl ?_) | (refine T_cond_f rfl ?_) | (refine T_cond rfl (fun hc => ?_) (fun hc => ?_) <;> have hd := hc <;> (try simp (disch := omega) only [wrapI] at hd) <;> have hs := hd <;> (try simp only [Bool.not_eq_true', Bool.not_eq_false', Bool.and_eq_true, Bool.and_eq_false_iff, Bool.or_eq_true, Bool.or_eq_false_iff, decide_eq_true_eq, decide_eq_false_iff_not, beq_iff_eq, bne_iff_ne, beq_eq_false_iff_ne, bne_eq_false_iff_eq, Bool.not_true, Bool.not_false, gt_iff_lt, ge_iff_le, Int.not_lt, Int.not_le, ne_eq, Decidable.not_not] at hd) <;> (try simp at hs)))
            | (with_reducible (show wdW _ _ _ (_ :: _) _ _ _); refine wdW_cons rfl ?_)
            | (with_reducible (show wcall _ false (.lit (.func (.func 43) _ _)) _ _ _ _); refine wcall_fn (h43) rfl (by simp [plainL, plain, plainR, take_rfy4, flat_ints4, freeze1, e0]) ?_)
            | (with_reducible (show wcallX _ false (.lit (.func (.func 43) _ _)) _ _ _ _); refine wcallX_fn (h43) rfl (by simp [plainL, plain, plainR, take_rfy4, flat_ints4, freeze1, e0]) ?_)
            | (with_reducible (show wcall _ false (.lit (.func (.func 61) _ _)) _ _ _ _); refine wcall_fn (h61b) rfl (by simp [plainL, plain, plainR, take_rfy4, flat_ints4, freeze1, e0]) ?_)
            | (with_reducible (show wcallX _ false (.lit (.func (.func 61) _ _)) _ _ _ _); refine wcallX_fn (h61b) rfl (by simp [plainL, plain, plainR, take_rfy4, flat_ints4, freeze1, e0]) ?_)
            | (with_reducible (show wcall _ false (.lit (.func (.func 64) _ _)) _ _ _ _); refine wcall_fn (h64) rfl (by simp [plainL, plain, plainR, take_rfy4, flat_ints4, freeze1, e0]) ?_)
            | (with_reducible (show wcallX _ false (.lit (.func (.func 64) _ _)) _ _ _ _); refine wcallX_fn (h64) rfl (by simp [plainL, plain, plainR, take_rfy4, flat_ints4, freeze1, e0]) ?_)
            | (with_reducible refine wguard_split (fun hc => ?_) (fun hc => ?_) <;> have hd := hc <;> (try simp (disch := omega) only [wrapI] at hd) <;> have hs := hd <;> (try simp only [Bool.not_eq_true', Bool.not_eq_false', Bool.and_eq_true, Bool.and_eq_false_iff, Bool.or_eq_true, Bool.or_eq_false_iff, decide_eq_true_eq, decide_eq_false_iff_not, beq_iff_eq, bne_iff_ne, beq_eq_false_iff_ne, bne_eq_false_iff_eq, Bool.not_true, Bool.not_false, gt_iff_lt, ge_iff_le, Int.not_lt, Int.not_le, ne_eq, Decidable.not_not] at hd) <;> (try simp at hs))
            | (with_reducible refine wguardX_split (fun hc => ?_) (fun hc => ?_) <;> have hd := hc <;> (try simp (disch := omega) only [wrapI] at hd) <;> have hs := hd <;> (try simp only [Bool.not_eq_true', Bool.not_eq_false', Bool.and_eq_true, Bool.and_eq_false_iff, Bool.or_eq_true, Bool.or_eq_false_iff, decide_eq_true_eq, decide_eq_false_iff_not, beq_iff_eq, bne_iff_ne, beq_eq_false_iff_ne, bne_eq_false_iff_eq, Bool.not_true, Bool.not_false, gt_iff_lt, ge_iff_le, Int.not_lt, Int.not_le, ne_eq, Decidable.not_not] at hd) <;> (try simp at hs))
            | (with_reducible refine T_ret ?_)
            | (with_reducible (show leave _ _ _ _ _); first | (refine leave_of (.inr rfl) _ rfl ?_) | (refine leave_of (.inl rfl) _ rfl ?_))
            | (with_reducible (show leaveA _ _ _ _); first | (refine leaveA_of (.inr rfl) _ rfl ?_) | (refine leaveA_of (.inl rfl) _ rfl ?_))
            | (with_reducible refine wif_intro ?_ (fun hc => ?_))
            | (with_reducible refine And.intro ?_ ?_)
            | (with_reducible intro hc)
            | (simp only [wops_nil, wops_cons, wstep_none, wstep_some, wguard_true, wguard_ff, wguard_tf, wguard_ft, wguard_undef, wguardX_undef, wrun_call, wrun_mv, wrun_pick, wrun_bin, wrun_eqAgg, wrun_eqBool, wrun_eqNil, wrun_neg, wrun_not, wrun_cvInt, wrun_cvStr, wrun_ext, wrun_fld, wrun_build, wrun_load, wrun_store, wrun_faddr, wrun_iaddrS, wrun_iaddrA, wrun_idxA, wrun_idxS, wrun_slc, wrun_slc0, wrun_slcS, wrun_len, wrun_lenS, wrun_mkf, wrun_nilck, wrun_minmax, wrun_copy, wrun_mlook, wrun_mset, wrun_alloc, wrun_box, wrun_bslice, wrun_app, wrun_mks, wrun_mkmap, wrunX_mv, wrunX_pick, wrunX_bin, wrunX_eqAgg, wrunX_eqBool, wrunX_eqNil, wrunX_neg, wrunX_not, wrunX_cvInt, wrunX_cvStr, wrunX_ext, wrunX_fld, wrunX_build, wrunX_load, wrunX_store, wrunX_faddr, wrunX_iaddrS, wrunX_iaddrA, wrunX_idxA, wrunX_idxS, wrunX_slc, wrunX_slc0, wrunX_slcS, wrunX_len, wrunX_lenS, wrunX_mkf, wrunX_nilck, wrunX_minmax, wrunX_copy, wrunX_mlook, wrunX_mset, wrunX_alloc, wrunX_box, wrunX_bslice, wrunX_app, wrunX_mks, wrunX_mkmap, wdW_nil, wstepX_none, wstepX_some, wguardX_true, wguardX_ff, wguardX_tf, wguardX_ft, wrunX_call, get_mk, wop, aop, ev, look, put_some, put_none, writes, ores_some, ores_none, ores_ite_none, ores_none_ite, ores_map, ores_bind, wif_true, binV, thenK, blockK, boolV, intV, lenOf, elsOf, szOk, value, cut, hget, fillA, putCells, AV.parts, isOne, toLits, mkAgg, boundOf, asNat, tupOf, ofValue_int, ofValue_bool, ofValue_str, cellsEq, cellEq, List.flatten_cons, List.flatten_nil, rowsOf, List.map_cons, List.map_nil, List.length_cons, List.length_nil, List.getElem?_cons_zero, List.getElem?_cons_succ, List.getElem?_nil, List.set_cons_zero, List.set_cons_succ, List.take_succ_cons, List.take_zero, List.take_nil, List.drop_succ_cons, List.drop_zero, List.drop_nil, List.cons_append, List.nil_append, List.append_nil, List.append_assoc, List.replicate_zero, List.replicate_succ, List.replicate_one, List.getD_cons_zero, List.getD_cons_succ, List.zipIdx_cons, List.zipIdx_nil, List.all_cons, List.all_nil, List.isEmpty_cons, List.isEmpty_nil, List.length_append, List.length_map, List.length_replicate, Option.pure_def, Option.bind_eq_bind, Option.getD_some, Option.getD_none, Option.map_some, Option.map_none, Option.bind_some, Option.bind_none, Option.some.injEq, if_true, if_false, ite_true, ite_false, reduceIte, Nat.reduceEqDiff, Nat.reduceAdd, Nat.reduceSub, Nat.reduceMul, Nat.reduceLeDiff, Nat.reduceLT, Nat.reduceBEq, Nat.add_zero, Nat.zero_add, Nat.sub_zero, Nat.sub_self, Nat.zero_mul, Nat.mul_one, Nat.le_refl, Nat.zero_ne_one, reduceCtorEq, Bool.not_true, Bool.not_false, Bool.and_true, Bool.true_and, Bool.and_false, Bool.false_and, Bool.or_true, Bool.or_false, Bool.true_or, Bool.false_or, Bool.false_eq_true, eq_self, true_and, and_true, and_self, true_implies, false_implies, false_and, and_false, implies_true, not_false_eq_true, not_true_eq_false, decide_true, decide_false, ne_eq, beq_self_eq_true, Nat.min_self, Int.reduceNeg, freeze, lidsL, lids, rfyL, rfy, List.flatMap_cons, List.flatMap_nil, plain, plainL, plainR, List.all_cons, ren, renL, renR, renB, renO, keepρ, shiftρ, pos, Nat.not_lt_zero, renR_ints, plainR_ints, take_rfy4, flat_ints4, freeze1, e0, *])
            | (simp (disch := omega) only [getD_ints, wrapI])
            | (with_reducible (show wcall _ false (.lit (.func (.func 43) _ _)) _ _ _ _); refine wcall_fn (h43) (by simp [rfyL, rfy, hget, ints, take_rfy, take_rfy4, flat_ints4, freeze1, e0]) (by simp [plainL, plain, plainR, take_rfy4, flat_ints4, freeze1, e0]) ?_)
            | (with_reducible (show wcallX _ false (.lit (.func (.func 43) _ _)) _ _ _ _); refine wcallX_fn (h43) (by simp [rfyL, rfy, hget, ints, take_rfy, take_rfy4, flat_ints4, freeze1, e0]) (by simp [plainL, plain, plainR, take_rfy4, flat_ints4, freeze1, e0]) ?_)
            | (with_reducible (show wcall _ false (.lit (.func (.func 61) _ _)) _ _ _ _); refine wcall_fn (h61b) (by simp [rfyL, rfy, hget, ints, take_rfy, take_rfy4, flat_ints4, freeze1, e0]) (by simp [plainL, plain, plainR, take_rfy4, flat_ints4, freeze1, e0]) ?_)
            | (with_reducible (show wcallX _ false (.lit (.func (.func 61) _ _)) _ _ _ _); refine wcallX_fn (h61b) (by simp [rfyL, rfy, hget, ints, take_rfy, take_rfy4, flat_ints4, freeze1, e0]) (by simp [plainL, plain, plainR, take_rfy4, flat_ints4, freeze1, e0]) ?_)
            | (with_reducible (show wcall _ false (.lit (.func (.func 64) _ _)) _ _ _ _); refine wcall_fn (h64) (by simp [rfyL, rfy, hget, ints, take_rfy, take_rfy4, flat_ints4, freeze1, e0]) (by simp [plainL, plain, plainR, take_rfy4, flat_ints4, freeze1, e0]) ?_)
            | (with_reducible (show wcallX _ false (.lit (.func (.func 64) _ _)) _ _ _ _); refine wcallX_fn (h64) (by simp [rfyL, rfy, hget, ints, take_rfy, take_rfy4, flat_ints4, freeze1, e0]) (by simp [plainL, plain, plainR, take_rfy4, flat_ints4, freeze1, e0]) ?_)
            | omega)
          all_goals exact rfl
    · have h61 := k61e w false ph a b hl hc
      have h60 := k60e w false ph hl hc
      have h62 := k62 w false ph hl2
      have h44 := k44 w nil ph hl2
      have h41 := k41 w nil ph hl2
      rw [hsm] at h41
      have h43 := k43 w nil ph hl3
      replace hsm := True.intro
      repeat' (first
        | (with_reducible refine T_seq ?_)
        | (with_reducible refine T_reg ?_)
        | ((with_reducible refine T_calm ?_ ?_); rfl)
        | (with_reducible refine T_draw ?_)
        | (with_reducible refine T_skip ?_)
        | (with_reducible refine T_exit ?_)
        | (with_reducible refine T_block ?_)
        | (with_reducible (show T _ _ _ _ _ (.cond _ _ _) _ _); first | (refine T_cond_t rfl ?_) | (refine T_cond_f rfl ?_) | (refine T_cond rfl (fun hc => ?_) (fun hc => ?_) <;> have hd := hc <;> (try simp (disch := omega) only [wrapI] at hd) <;> have hs := hd <;> (try simp only [Bool.not_eq_true', Bool.not_eq_false', Bool.and_eq_true, Bool.and_eq_false_iff, Bool.or_eq_true, Bool.or_eq_false_iff, decide_eq_true_eq, decide_eq_false_iff_not, beq_iff_eq, bne_iff_ne, beq_eq_false_iff_ne, bne_eq_false_iff_eq, Bool.not_true, Bool.not_false, gt_iff_lt, ge_iff_le, Int.not_lt, Int.not_le, ne_eq, Decidable.not_not] at hd) <;> (try simp at hs)))
        | (with_reducible (show wdW _ _ _ (_ :: _) _ _ _); refine wdW_cons rfl ?_)
        | (with_reducible (show wcall _ false (.lit (.func (.func 19) _ _)) _ _ _ _); refine wcall_fn (h19) rfl (by simp [plainL, plain, plainR, take_rfy4, flat_ints4, freeze1]) ?_)
        | (with_reducible (show wcallX _ false (.lit (.func (.func 19) _ _)) _ _ _ _); refine wcallX_fn (h19) rfl (by simp [plainL, plain, plainR, take_rfy4, flat_ints4, freeze1]) ?_)
        | (with_reducible (show wcall _ false (.lit (.func (.func 41) _ _)) _ _ _ _); refine wcall_fn (h41) rfl (by simp [plainL, plain, plainR, take_rfy4, flat_ints4, freeze1]) ?_)
        | (with_reducible (show wcallX _ false (.lit (.func (.func 41) _ _)) _ _ _ _); refine wcallX_fn (h41) rfl (by simp [plainL, plain, plainR, take_rfy4, flat_ints4, freeze1]) ?_)
        | (with_reducible (show wcall _ false (.lit (.func (.func 43) _ _)) _ _ _ _); refine wcall_fn (h43) rfl (by simp [plainL, plain, plainR, take_rfy4, flat_ints4, freeze1]) ?_)
        | (with_reducible (show wcallX _ false (.lit (.func (.func 43) _ _)) _ _ _ _); refine wcallX_fn (h43) rfl (by simp [plainL, plain, plainR, take_rfy4, flat_ints4, freeze1]) ?_)
        | (with_reducible (show wcall _ false (.lit (.func (.func 61) _ _)) _ _ _ _); refine wcall_fn (h61) rfl (by simp [plainL, plain, plainR, take_rfy4, flat_ints4, freeze1]) ?_)
        | (with_reducible (show wcallX _ false (.lit (.func (.func 61) _ _)) _ _ _ _); refine wcallX_fn (h61) rfl (by simp [plainL, plain, plainR, take_rfy4, flat_ints4, freeze1]) ?_)
        | (with_reducible (show wcall _ false (.lit (.func (.func 60) _ _)) _ _ _ _); refine wcall_fn (h60) rfl (by simp [plainL, plain, plainR, take_rfy4, flat_ints4, freeze1]) ?_)
        | (with_reducible (show wcallX _ false (.lit (.func (.func 60) _ _)) _ _ _ _); refine wcallX_fn (h60) rfl (by simp [plainL, plain, plainR, take_rfy4, flat_ints4, freeze1]) ?_)
        | (with_reducible (show wcall _ false (.lit (.func (.func 62) _ _)) _ _ _ _); refine wcall_fn (h62) rfl (by simp [plainL, plain, plainR, take_rfy4, flat_ints4, freeze1]) ?_)
        | (with_reducible (show wcallX _ false (.lit (.func (.func 62) _ _)) _ _ _ _); refine wcallX_fn (h62) rfl (by simp [plainL, plain, plainR, take_rfy4, flat_ints4, freeze1]) ?_)
        | (with_reducible (show wcall _ false (.lit (.func (.func 44) _ _)) _ _ _ _); refine wcall_fn (h44) rfl (by simp [plainL, plain, plainR, take_rfy4, flat_ints4, freeze1]) ?_)
        | (with_reducible (show wcallX _ false (.lit (.func (.func 44) _ _)) _ _ _ _); refine wcallX_fn (h44) rfl (by simp [plainL, plain, plainR, take_rfy4, flat_ints4, freeze1]) ?_)
        | (with_reducible refine wguard_split (fun hc => ?_) (fun hc => ?_) <;> have hd := hc <;> (try simp (disch := omega) only [wrapI] at hd) <;> have hs := hd <;> (try simp only [Bool.not_eq_true', Bool.not_eq_false', Bool.and_eq_true, Bool.and_eq_false_iff, Bool.or_eq_true, Bool.or_eq_false_iff, decide_eq_true_eq, decide_eq_false_iff_not, beq_iff_eq, bne_iff_ne, beq_eq_false_iff_ne, bne_eq_false_iff_eq, Bool.not_true, Bool.not_false, gt_iff_lt, ge_iff_le, Int.not_lt, Int.not_le, ne_eq, Decidable.not_not] at hd) <;> (try simp at hs))
        | (with_reducible refine wguardX_split (fun hc => ?_) (fun hc => ?_) <;> have hd := hc <;> (try simp (disch := omega) only [wrapI] at hd) <;> have hs := hd <;> (try simp only [Bool.not_eq_true', Bool.not_eq_false', Bool.and_eq_true, Bool.and_eq_false_iff, Bool.or_eq_true, Bool.or_eq_false_iff, decide_eq_true_eq, decide_eq_false_iff_not, beq_iff_eq, bne_iff_ne, beq_eq_false_iff_ne, bne_eq_false_iff_eq, Bool.not_true, Bool.not_false, gt_iff_lt, ge_iff_le, Int.not_lt, Int.not_le, ne_eq, Decidable.not_not] at hd) <;> (try simp at hs))
        | (with_reducible refine T_ret ?_)
        | (with_reducible (show leave _ _ _ _ _); first | (refine leave_of (.inr rfl) _ rfl ?_) | (refine leave_of (.inl rfl) _ rfl ?_))
        | (with_reducible (show leaveA _ _ _ _); first | (refine leaveA_of (.inr rfl) _ rfl ?_) | (refine leaveA_of (.inl rfl) _ rfl ?_))
        | (with_reducible refine wif_intro ?_ (fun hc => ?_))
        | (with_reducible refine And.intro ?_ ?_)
        | (with_reducible intro hc)
        | (simp only [wops_nil, wops_cons, wstep_none, wstep_some, wguard_true, wguard_ff, wguard_tf, wguard_ft, wguard_undef, wguardX_undef, wrun_call, wrun_mv, wrun_pick, wrun_bin, wrun_eqAgg, wrun_eqBool, wrun_eqNil, wrun_neg, wrun_not, wrun_cvInt, wrun_cvStr, wrun_ext, wrun_fld, wrun_build, wrun_load, wrun_store, wrun_faddr, wrun_iaddrS, wrun_iaddrA, wrun_idxA, wrun_idxS, wrun_slc, wrun_slc0, wrun_slcS, wrun_len, wrun_lenS, wrun_mkf, wrun_nilck, wrun_minmax, wrun_copy, wrun_mlook, wrun_mset, wrun_alloc, wrun_box, wrun_bslice, wrun_app, wrun_mks, wrun_mkmap, wrunX_mv, wrunX_pick, wrunX_bin, wrunX_eqAgg, wrunX_eqBool, wrunX_eqNil, wrunX_neg, wrunX_not, wrunX_cvInt, wrunX_cvStr, wrunX_ext, wrunX_fld, wrunX_build, wrunX_load, wrunX_store, wrunX_faddr, wrunX_iaddrS, wrunX_iaddrA, wrunX_idxA, wrunX_idxS, wrunX_slc, wrunX_slc0, wrunX_slcS, wrunX_len, wrunX_lenS, wrunX_mkf, wrunX_nilck, wrunX_minmax, wrunX_copy, wrunX_mlook, wrunX_mset, wrunX_alloc, wrunX_box, wrunX_bslice, wrunX_app, wrunX_mks, wrunX_mkmap, wdW_nil, wstepX_none, wstepX_some, wguardX_true, wguardX_ff, wguardX_tf, wguardX_ft, wrunX_call, get_mk, wop, aop, ev, look, put_some, put_none, writes, ores_some, ores_none, ores_ite_none, ores_none_ite, ores_map, ores_bind, wif_true, binV, thenK, blockK, boolV, intV, lenOf, elsOf, szOk, value, cut, hget, fillA, putCells, AV.parts, isOne, toLits, mkAgg, boundOf, asNat, tupOf, ofValue_int, ofValue_bool, ofValue_str, cellsEq, cellEq, List.flatten_cons, List.flatten_nil, rowsOf, List.map_cons, List.map_nil, List.length_cons, List.length_nil, List.getElem?_cons_zero, List.getElem?_cons_succ, List.getElem?_nil, List.set_cons_zero, List.set_cons_succ, List.take_succ_cons, List.take_zero, List.take_nil, List.drop_succ_cons, List.drop_zero, List.drop_nil, List.cons_append, List.nil_append, List.append_nil, List.append_assoc, List.replicate_zero, List.replicate_succ, List.replicate_one, List.getD_cons_zero, List.getD_cons_succ, List.zipIdx_cons, List.zipIdx_nil, List.all_cons, List.all_nil, List.isEmpty_cons, List.isEmpty_nil, List.length_append, List.length_map, List.length_replicate, Option.pure_def, Option.bind_eq_bind, Option.getD_some, Option.getD_none, Option.map_some, Option.map_none, Option.bind_some, Option.bind_none, Option.some.injEq, if_true, if_false, ite_true, ite_false, reduceIte, Nat.reduceEqDiff, Nat.reduceAdd, Nat.reduceSub, Nat.reduceMul, Nat.reduceLeDiff, Nat.reduceLT, Nat.reduceBEq, Nat.add_zero, Nat.zero_add, Nat.sub_zero, Nat.sub_self, Nat.zero_mul, Nat.mul_one, Nat.le_refl, Nat.zero_ne_one, reduceCtorEq, Bool.not_true, Bool.not_false, Bool.and_true, Bool.true_and, Bool.and_false, Bool.false_and, Bool.or_true, Bool.or_false, Bool.true_or, Bool.false_or, Bool.false_eq_true, eq_self, true_and, and_true, and_self, true_implies, false_implies, false_and, and_false, implies_true, not_false_eq_true, not_true_eq_false, decide_true, decide_false, ne_eq, beq_self_eq_true, Nat.min_self, Int.reduceNeg, freeze, lidsL, lids, rfyL, rfy, List.flatMap_cons, List.flatMap_nil, plain, plainL, plainR, List.all_cons, ren, renL, renR, renB, renO, keepρ, shiftρ, pos, Nat.not_lt_zero, renR_ints, plainR_ints, take_rfy4, flat_ints4, freeze1, *])
        | (simp (disch := omega) only [getD_ints, wrapI])
        | (with_reducible (show wcall _ false (.lit (.func (.func 19) _ _)) _ _ _ _); refine wcall_fn (h19) (by simp [rfyL, rfy, hget, ints, take_rfy, take_rfy4, flat_ints4, freeze1]) (by simp [plainL, plain, plainR, take_rfy4, flat_ints4, freeze1]) ?_)
        | (with_reducible (show wcallX _ false (.lit (.func (.func 19) _ _)) _ _ _ _); refine wcallX_fn (h19) (by simp [rfyL, rfy, hget, ints, take_rfy, take_rfy4, flat_ints4, freeze1]) (by simp [plainL, plain, plainR, take_rfy4, flat_ints4, freeze1]) ?_)
        | (with_reducible (show wcall _ false (.lit (.func (.func 41) _ _)) _ _ _ _); refine wcall_fn (h41) (by simp [rfyL, rfy, hget, ints, take_rfy, take_rfy4, flat_ints4, freeze1]) (by simp [plainL, plain, plainR, take_rfy4, flat_ints4, freeze1]) ?_)
        | (with_reducible (show wcallX _ false (.lit (.func (.func 41) _ _)) _ _ _ _); refine wcallX_fn (h41) (by simp [rfyL, rfy, hget, ints, take_rfy, take_rfy4, flat_ints4, freeze1]) (by simp [plainL, plain, plainR, take_rfy4, flat_ints4, freeze1]) ?_)
        | (with_reducible (show wcall _ false (.lit (.func (.func 43) _ _)) _ _ _ _); refine wcall_fn (h43) (by simp [rfyL, rfy, hget, ints, take_rfy, take_rfy4, flat_ints4, freeze1]) (by simp [plainL, plain, plainR, take_rfy4, flat_ints4, freeze1]) ?_)
        | (with_reducible (show wcallX _ false (.lit (.func (.func 43) _ _)) _ _ _ _); refine wcallX_fn (h43) (by simp [rfyL, rfy, hget, ints, take_rfy, take_rfy4, flat_ints4, freeze1]) (by simp [plainL, plain, plainR, take_rfy4, flat_ints4, freeze1]) ?_)
        | (with_reducible (show wcall _ false (.lit (.func (.func 61) _ _)) _ _ _ _); refine wcall_fn (h61) (by simp [rfyL, rfy, hget, ints, take_rfy, take_rfy4, flat_ints4, freeze1]) (by simp [plainL, plain, plainR, take_rfy4, flat_ints4, freeze1]) ?_)
        | (with_reducible (show wcallX _ false (.lit (.func (.func 61) _ _)) _ _ _ _); refine wcallX_fn (h61) (by simp [rfyL, rfy, hget, ints, take_rfy, take_rfy4, flat_ints4, freeze1]) (by simp [plainL, plain, plainR, take_rfy4, flat_ints4, freeze1]) ?_)
        | (with_reducible (show wcall _ false (.lit (.func (.func 60) _ _)) _ _ _ _); refine wcall_fn (h60) (by simp [rfyL, rfy, hget, ints, take_rfy, take_rfy4, flat_ints4, freeze1]) (by simp [plainL, plain, plainR, take_rfy4, flat_ints4, freeze1]) ?_)
        | (with_reducible (show wcallX _ false (.lit (.func (.func 60) _ _)) _ _ _ _); refine wcallX_fn (h60) (by simp [rfyL, rfy, hget, ints, take_rfy, take_rfy4, flat_ints4, freeze1]) (by simp [plainL, plain, plainR, take_rfy4, flat_ints4, freeze1]) ?_)
        | (with_reducible (show wcall _ false (.lit (.func (.func 62) _ _)) _ _ _ _); refine wcall_fn (h62) (by simp [rfyL, rfy, hget, ints, take_rfy, take_rfy4, flat_ints4, freeze1]) (by simp [plainL, plain, plainR, take_rfy4, flat_ints4, freeze1]) ?_)
        | (with_reducible (show wcallX _ false (.lit (.func (.func 62) _ _)) _ _ _ _); refine wcallX_fn (h62) (by simp [rfyL, rfy, hget, ints, take_rfy, take_rfy4, flat_ints4, freeze1]) (by simp [plainL, plain, plainR, take_rfy4, flat_ints4, freeze1]) ?_)
        | (with_reducible (show wcall _ false (.lit (.func (.func 44) _ _)) _ _ _ _); refine wcall_fn (h44) (by simp [rfyL, rfy, hget, ints, take_rfy, take_rfy4, flat_ints4, freeze1]) (by simp [plainL, plain, plainR, take_rfy4, flat_ints4, freeze1]) ?_)
        | (with_reducible (show wcallX _ false (.lit (.func (.func 44) _ _)) _ _ _ _); refine wcallX_fn (h44) (by simp [rfyL, rfy, hget, ints, take_rfy, take_rfy4, flat_ints4, freeze1]) (by simp [plainL, plain, plainR, take_rfy4, flat_ints4, freeze1]) ?_)
        | omega)
      all_goals rfl
end Go.Abs
