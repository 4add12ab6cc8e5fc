import Derived.Test.YtodheeifecoebaaK40x
set_option linter.all false
set_option linter.unusedVariables false
set_option linter.unusedSimpArgs false
set_option linter.unusedSectionVars false
namespace Go.Abs
open Go.Proofs
def rdErr (z : Int) : List Rd → Int
  | [] => 0
  | r :: rs =>
    if ¬ ((0 ≤ r.a ∧ r.a ≤ z - 1) ∧ (0 ≤ r.b ∧ r.b ≤ z - 1)) then 6 else if r.a = r.b then 3
    else if ¬ ((-1000000 ≤ r.lo ∧ r.lo ≤ 1000000) ∧ (-1000000 ≤ r.hi ∧ r.hi ≤ 1000000)) then 2 else if r.hi < r.lo then 9 else rdErr z rs
def checkR (z : Int) (l : List Rd) : Int := if ¬ (1 ≤ z ∧ z ≤ 40) then 2 else if 100 < l.length then 8 else rdErr z l
theorem drop_rd {l : List Rd} {k : Nat} (hk : k < l.length) : l.drop k = l.getD k rd0 :: l.drop (k + 1) := by
  rw [List.drop_eq_getElem_cons hk]; simp [List.getD, hk]
set_option maxHeartbeats 8000000 in
theorem k29 (z : Int) (nil : Bool) (l : List Rd) (hl : l.length < 1000000) : Fn Try.prog 29 [i64 z, rdgs nil l] (i64 (checkR z l)) [] := by
  refine fn_of e29 ?_
  have hrl := rows4_len l
  by_cases hz : 1 ≤ z ∧ z ≤ 40
  · by_cases hl2 : 100 < l.length
    · have hcr : checkR z l = 8 := by unfold checkR; rw [if_neg (by omega), if_pos hl2]
      unfold c29
      repeat' (first
        | with_reducible first
          | refine T_seq ?_
          | refine T_reg ?_
          | refine T_skip ?_
          | refine T_exit ?_
          | refine T_block ?_
          | refine T_cond_t rfl ?_
          | refine T_cond_f rfl ?_
          | (show wcall _ false (.lit (.func (.func 32) _ _)) _ _ _ _; refine wcall_fn (k32 _ _ _) rfl (by simp [plainL, plain]) ?_)
          | ((first | refine T_cond rfl (fun hc => ?_) (fun hc => ?_) | refine wguard_split (fun hc => ?_) (fun hc => ?_)) <;> have hd := hc <;> (try simp (disch := omega) only [wrapI] at hd) <;> have hs := hd <;> (try simp only [decide_eq_true_eq, decide_eq_false_iff_not, gt_iff_lt, Int.not_lt] at hd) <;> (try simp at hs))
          | refine T_ret ?_
          | refine leave_of (.inr rfl) _ rfl ?_
          | refine leave_of (.inl rfl) _ rfl ?_
          | refine leaveA_of (.inr rfl) _ rfl ?_
          | refine leaveA_of (.inl rfl) _ rfl ?_
          | refine wif_intro ?_ (fun hc => ?_)
          | refine And.intro ?_ ?_
          | intro hc
        | simp (maxSteps := 4000000) only [wops_nil, wops_cons, wstep_none, wrun_call, wrun_mv, wrun_bin, wrun_not, wrun_len, get_mk, wop, aop, ev, look, put_some, writes, ores_some, ores_map, ores_bind, binV, thenK, boolV, intV, lenOf, hget, tupOf, List.map_cons, List.map_nil, List.length_nil, List.append_nil, List.replicate_zero, List.zipIdx_cons, List.zipIdx_nil, Option.pure_def, Option.bind_eq_bind, Option.map_some, if_true, if_false, Nat.reduceEqDiff, Nat.reduceAdd, Nat.zero_add, Nat.zero_ne_one, reduceCtorEq, Bool.not_true, Bool.and_true, eq_self, decide_true, freeze, lidsL, lids, List.flatMap_cons, List.flatMap_nil, ren, *]
        | simp (disch := omega) only [getD_ints, wrapI]
        | (with_reducible show wcall _ false (.lit (.func (.func 32) _ _)) _ _ _ _; refine wcall_fn (k32 _ _ _) ?_ ?_ ?_; (next => simp [rfyL, rfy, hget, ints, take_rfy, hcr]); (next => simp [plainL, plain, plainR, hcr]))
        | omega)
      all_goals (simp_all; done)
    · have hcr : id (checkR z l = rdErr z l) := show checkR z l = rdErr z l from by unfold checkR; rw [if_neg (by omega), if_neg hl2]
      unfold c29
      repeat' (first
        | with_reducible first
          | refine T_seq ?_
          | refine T_reg ?_
          | refine T_skip ?_
          | refine T_exit ?_
          | refine T_block ?_
          | refine T_cond_t rfl ?_
          | refine T_cond_f rfl ?_
          | (show wcall _ false (.lit (.func (.func 32) _ _)) _ _ _ _; refine wcall_fn (k32 _ _ _) rfl (by simp [plainL, plain]) ?_)
          | ((first | refine T_cond rfl (fun hc => ?_) (fun hc => ?_) | refine wguard_split (fun hc => ?_) (fun hc => ?_)) <;> have hd := hc <;> (try simp (disch := omega) only [wrapI] at hd) <;> have hs := hd <;> (try simp only [decide_eq_true_eq, decide_eq_false_iff_not, gt_iff_lt, Int.not_lt] at hd) <;> (try simp at hs))
          | refine T_ret ?_
          | refine leave_of (.inr rfl) _ rfl ?_
          | refine leave_of (.inl rfl) _ rfl ?_
          | refine leaveA_of (.inr rfl) _ rfl ?_
          | refine leaveA_of (.inl rfl) _ rfl ?_
          | refine wif_intro ?_ (fun hc => ?_)
          | refine And.intro ?_ ?_
          | intro hc
        | simp (maxSteps := 4000000) only [wops_nil, wops_cons, wstep_none, wrun_call, wrun_mv, wrun_bin, wrun_not, wrun_len, get_mk, wop, aop, ev, look, put_some, writes, ores_some, ores_map, ores_bind, binV, thenK, boolV, intV, lenOf, hget, tupOf, List.map_cons, List.map_nil, List.length_nil, List.append_nil, List.replicate_zero, List.zipIdx_cons, List.zipIdx_nil, Option.pure_def, Option.bind_eq_bind, Option.map_some, if_true, if_false, Nat.reduceEqDiff, Nat.reduceAdd, Nat.zero_add, Nat.zero_ne_one, reduceCtorEq, Bool.not_true, Bool.and_true, eq_self, decide_true, freeze, lidsL, lids, List.flatMap_cons, List.flatMap_nil, ren, *]
        | simp (disch := omega) only [getD_ints, wrapI]
        | (with_reducible show wcall _ false (.lit (.func (.func 32) _ _)) _ _ _ _; refine wcall_fn (k32 _ _ _) ?_ ?_ ?_; (next => simp [rfyL, rfy, hget, ints, take_rfy]); (next => simp [plainL, plain, plainR]))
        | omega)
      · refine T_for_keep [0, 1, 5] (fun k => ⟨[(0, i64 z), (1, rdgs nil l), (5, i64 k)], []⟩) l.length (fun k => rdErr z (l.drop k) = rdErr z l) 0 ⟨[], by simp, by simp, by simp, ?_⟩ rfl (Nat.zero_le _) ?_
        · simp [St.keep, get_mk, look, ren, renB, hget, renR_rows4]
        intro k hk hI
        unfold c29l0
        by_cases hkn : k < l.length
        · have hg : (rows4 l).getD ((k : Nat) : Int).toNat [] = rrow (l.getD k rd0) := rows4_get hkn
          rw [drop_rd hkn] at hI
          replace hI : id (rdErr z (l.getD k rd0 :: l.drop (k + 1)) = rdErr z l) := hI
          repeat' (first
            | with_reducible first
              | refine T_seq ?_
              | refine T_reg ?_
              | refine T_skip ?_
              | refine T_exit ?_
              | refine T_block ?_
              | refine T_cond_t rfl ?_
              | refine T_cond_f rfl ?_
              | (show wcall _ false (.lit (.func (.func 32) _ _)) _ _ _ _; refine wcall_fn (k32 _ _ _) rfl (by simp [plainL, plain]) ?_)
              | (show wcall _ false (.lit (.func (.func 93) _ _)) _ _ _ _; refine wcall_fn (k93 _) rfl (by simp [plainL, plain]) ?_)
              | ((first | refine T_cond rfl (fun hc => ?_) (fun hc => ?_) | refine wguard_split (fun hc => ?_) (fun hc => ?_)) <;> have hd := hc <;> (try simp (disch := omega) only [wrapI] at hd) <;> have hs := hd <;> (try simp only [Bool.not_eq_true', Bool.not_eq_false', Bool.and_eq_true, Bool.and_eq_false_iff, decide_eq_true_eq, decide_eq_false_iff_not, beq_iff_eq, beq_eq_false_iff_ne, Bool.not_false, gt_iff_lt, Int.not_lt, Int.not_le, ne_eq] at hd) <;> (try simp at hs))
              | refine T_ret ?_
              | refine leave_of (.inr rfl) _ rfl ?_
              | refine leave_of (.inl rfl) _ rfl ?_
              | refine leaveA_of (.inr rfl) _ rfl ?_
              | refine leaveA_of (.inl rfl) _ rfl ?_
              | refine wif_intro ?_ (fun hc => ?_)
              | refine And.intro ?_ ?_
              | intro hc
            | simp (maxSteps := 4000000) only [wops_nil, wops_cons, wstep_none, wstep_some, wguard_ff, wguard_tf, wrun_call, wrun_mv, wrun_pick, wrun_bin, wrun_not, wrun_load, wrun_store, wrun_faddr, wrun_iaddrS, wrun_len, wrun_alloc, get_mk, wop, aop, ev, look, put_some, put_none, writes, ores_some, ores_ite_none, ores_map, ores_bind, binV, thenK, blockK, boolV, intV, lenOf, value, cut, hget, putCells, AV.parts, isOne, toLits, mkAgg, tupOf, ofValue_int, List.map_cons, List.map_nil, List.length_cons, List.length_nil, List.getElem?_cons_zero, List.set_cons_zero, List.take_succ_cons, List.take_zero, List.take_nil, List.drop_succ_cons, List.drop_zero, List.drop_nil, List.nil_append, List.append_nil, List.append_assoc, List.replicate_zero, List.replicate_succ, List.getD_cons_zero, List.all_cons, List.all_nil, Option.pure_def, Option.bind_eq_bind, Option.getD_some, Option.map_some, if_true, if_false, Nat.reduceEqDiff, Nat.reduceAdd, Nat.reduceLeDiff, Nat.reduceLT, Nat.add_zero, Nat.zero_add, Nat.le_refl, Nat.zero_ne_one, reduceCtorEq, Bool.not_true, Bool.not_false, Bool.and_true, Bool.true_and, Bool.false_eq_true, eq_self, true_and, and_true, and_self, decide_true, beq_self_eq_true, Int.reduceNeg, freeze, lidsL, lids, List.flatMap_cons, List.flatMap_nil, List.all_cons, ren, *]
            | simp (disch := omega) only [wrapI]
            | (with_reducible show wcall _ false (.lit (.func (.func 32) _ _)) _ _ _ _; refine wcall_fn (k32 _ _ _) ?_ ?_ ?_; (next => simp [rfyL, rfy, hget, ints, take_rfy]); (next => simp [plainL, plain, plainR]))
            | (with_reducible show wcall _ false (.lit (.func (.func 93) _ _)) _ _ _ _; refine wcall_fn (k93 _) ?_ ?_ ?_; (next => simp [rfyL, rfy, hget, ints, take_rfy]); (next => simp [plainL, plain, plainR]))
            | omega)
          all_goals first
            | (rw [show checkR z l = rdErr z l from hcr, ← show rdErr z (l.getD k rd0 :: l.drop (k + 1)) = rdErr z l from hI, rdErr]; first | rw [if_pos (by omega)] | rw [if_neg (by omega), if_pos (by omega)] | rw [if_neg (by omega), if_neg (by omega), if_pos (by omega)] | rw [if_neg (by omega), if_neg (by omega), if_neg (by omega), if_pos (by omega)])
            | (rw [← show rdErr z (l.getD k rd0 :: l.drop (k + 1)) = rdErr z l from hI, rdErr, if_neg (by omega), if_neg (by omega), if_neg (by omega), if_neg (by omega)])
            | (refine ⟨[], by simp, by simp, ?_⟩; simp [St.keep, get_mk, look, ren, renB, renO, hget, renR_rows4]; done)
            | skip
        · have hke : k = l.length := by omega
          subst hke
          rw [List.drop_of_length_le (Nat.le_refl _)] at hI
          replace hcr : checkR z l = 0 := (show checkR z l = rdErr z l from hcr).trans hI.symm
          repeat' (first
            | with_reducible first
              | refine T_seq ?_
              | refine T_reg ?_
              | refine T_skip ?_
              | refine T_exit ?_
              | refine T_block ?_
              | refine T_cond_t rfl ?_
              | refine T_cond_f rfl ?_
              | ((first | refine T_cond rfl (fun hc => ?_) (fun hc => ?_) | refine wguard_split (fun hc => ?_) (fun hc => ?_)) <;> have hd := hc <;> (try simp (disch := omega) only [wrapI] at hd) <;> have hs := hd <;> (try simp only [decide_eq_true_eq, decide_eq_false_iff_not, Int.not_lt] at hd) <;> (try simp at hs))
              | refine T_ret ?_
              | refine leave_of (.inr rfl) _ rfl ?_
              | refine leave_of (.inl rfl) _ rfl ?_
              | refine leaveA_of (.inr rfl) _ rfl ?_
              | refine leaveA_of (.inl rfl) _ rfl ?_
              | refine wif_intro ?_ (fun hc => ?_)
              | refine And.intro ?_ ?_
              | intro hc
            | simp (maxSteps := 4000000) only [wops_nil, wops_cons, wstep_none, wrun_mv, wrun_bin, wrun_len, get_mk, wop, aop, ev, look, put_some, writes, ores_some, ores_map, ores_bind, binV, thenK, blockK, intV, lenOf, hget, tupOf, List.length_nil, List.append_nil, List.replicate_zero, Option.pure_def, Option.bind_eq_bind, Option.map_some, if_true, if_false, Nat.reduceEqDiff, Nat.zero_ne_one, reduceCtorEq, eq_self, false_and, ren, *]
            | simp (disch := omega) only [getD_ints, wrapI]
            | omega)
      all_goals (exfalso; simp_all; omega)
  · have hcr : checkR z l = 2 := by unfold checkR; rw [if_pos hz]
    unfold c29
    repeat' (first
      | with_reducible first
        | refine T_seq ?_
        | refine T_reg ?_
        | refine T_skip ?_
        | refine T_exit ?_
        | refine T_block ?_
        | refine T_cond_t rfl ?_
        | refine T_cond_f rfl ?_
        | (show wcall _ false (.lit (.func (.func 32) _ _)) _ _ _ _; refine wcall_fn (k32 _ _ _) rfl (by simp [plainL, plain]) ?_)
        | ((first | refine T_cond rfl (fun hc => ?_) (fun hc => ?_) | refine wguard_split (fun hc => ?_) (fun hc => ?_)) <;> have hd := hc <;> (try simp (disch := omega) only [wrapI] at hd) <;> have hs := hd <;> (try simp only [Bool.not_eq_true', Bool.not_eq_false', Bool.and_eq_true, Bool.and_eq_false_iff, decide_eq_true_eq, decide_eq_false_iff_not, gt_iff_lt, Int.not_lt, Int.not_le] at hd) <;> (try simp at hs))
        | refine T_ret ?_
        | refine leave_of (.inr rfl) _ rfl ?_
        | refine leave_of (.inl rfl) _ rfl ?_
        | refine leaveA_of (.inr rfl) _ rfl ?_
        | refine leaveA_of (.inl rfl) _ rfl ?_
        | refine wif_intro ?_ (fun hc => ?_)
        | refine And.intro ?_ ?_
        | intro hc
      | simp (maxSteps := 4000000) only [wops_nil, wops_cons, wstep_none, wrun_call, wrun_mv, wrun_bin, wrun_not, wrun_len, get_mk, wop, aop, ev, look, put_some, writes, ores_some, ores_map, ores_bind, binV, thenK, boolV, intV, lenOf, hget, tupOf, List.map_cons, List.map_nil, List.length_nil, List.append_nil, List.replicate_zero, List.zipIdx_cons, List.zipIdx_nil, Option.pure_def, Option.bind_eq_bind, Option.map_some, if_true, if_false, Nat.reduceEqDiff, Nat.reduceAdd, Nat.zero_add, Nat.zero_ne_one, reduceCtorEq, Bool.not_true, Bool.and_true, eq_self, decide_true, freeze, lidsL, lids, List.flatMap_cons, List.flatMap_nil, ren, *]
      | simp (disch := omega) only [getD_ints, wrapI]
      | (with_reducible show wcall _ false (.lit (.func (.func 32) _ _)) _ _ _ _; refine wcall_fn (k32 _ _ _) ?_ ?_ ?_; (next => simp [rfyL, rfy, hget, ints, take_rfy, hcr]); (next => simp [plainL, plain, plainR, hcr]))
      | omega)
    all_goals (exfalso; simp_all; omega)
end Go.Abs
