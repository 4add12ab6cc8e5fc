import Derived.Test.YtodheeifecoebaaK113x
set_option linter.all false
set_option linter.unusedVariables false
set_option linter.unusedSimpArgs false
set_option linter.unusedSectionVars false
namespace Go.Abs
open Go.Proofs
def c134r2 : ACode :=
 (.seq (.seq (.reg 0 [⟨(some 28), (.mv (.tmp 0)), none, 0⟩, ⟨(some 29), (.mv (.tmp 10)), none, 0⟩, ⟨(some 30), (.call false (.val (.lit (.func (.func 119) #[] #[]))) [(.tmp 28), (.tmp 29)]), none, 0⟩, ⟨(some 27), (.mv (.tmp 30)), none, 0⟩, ⟨(some 31), (.ext (.tmp 27) 0), none, 0⟩, ⟨(some 32), (.ext (.tmp 27) 1), none, 0⟩, ⟨(some 11), (.mv (.tmp 31)), none, 0⟩, ⟨(some 12), (.mv (.tmp 32)), none, 0⟩])
 (.seq (.reg 0 [⟨(some 33), (.mv (.tmp 12)), none, 0⟩, ⟨(some 34), (.bin .neq (.tmp 33) (.val (.lit (.int .i64 0)))), none, 0⟩])
 (.cond (.tmp 34) (.seq (.reg 0 [⟨(some 35), (.mv (.tmp 12)), none, 0⟩, ⟨(some 6), (.mv (.val (.sl true 0 []))), none, 0⟩, ⟨(some 7), (.mv (.tmp 35)), none, 0⟩])
 .ret) .skip)))
 (.seq (.reg 0 [⟨(some 36), (.mv (.tmp 10)), none, 0⟩, ⟨(some 6), (.mv (.tmp 36)), none, 0⟩, ⟨(some 7), (.mv (.val (.lit (.int .i64 0)))), none, 0⟩])
 .ret))
def c134r1 : ACode :=
 (.seq (.dreg 2 [(0, ⟨(some 22), (.mv (.tmp 1)), none, 0⟩), (1, ⟨(some 23), (.call false (.val (.lit (.func (.func 129) #[] #[]))) [(.tmp 22)]), none, 0⟩), (2, ⟨(some 24), (.load 4 true (.tmp 5)), none, 0⟩), (3, ⟨(some 25), (.bslice 4 1 [(.lit (.int .i64 0)), (.lit (.int .i64 0)), (.lit (.int .i64 0)), (.lit (.int .i64 0))] [(0, (.tmp 24))]), none, 0⟩), (4, ⟨(some 26), (.app 4 32 (.tmp 23) (.tmp 25)), none, 1⟩), (5, ⟨(some 10), (.mv (.tmp 26)), none, 2⟩)] [[], [0], [], [2], [1, 3, 0, 2], [4, 0, 1, 2, 3]])
 c134r2)
theorem c134_cut : c134 = (.seq (.reg 1 [⟨(some 5), (.box 4 (.tmp 2)), none, 0⟩, ⟨(some 6), (.mv (.val (.sl true 0 []))), none, 1⟩, ⟨(some 7), (.mv (.val (.lit (.int .i64 0)))), none, 1⟩])
 (.seq (.seq (.reg 0 [⟨(some 14), (.mv (.tmp 0)), none, 0⟩, ⟨(some 15), (.mv (.tmp 1)), none, 0⟩, ⟨(some 16), (.call false (.val (.lit (.func (.func 119) #[] #[]))) [(.tmp 14), (.tmp 15)]), none, 0⟩, ⟨(some 13), (.mv (.tmp 16)), none, 0⟩, ⟨(some 17), (.ext (.tmp 13) 0), none, 0⟩, ⟨(some 18), (.ext (.tmp 13) 1), none, 0⟩, ⟨(some 8), (.mv (.tmp 17)), none, 0⟩, ⟨(some 9), (.mv (.tmp 18)), none, 0⟩])
 (.seq (.reg 0 [⟨(some 19), (.mv (.tmp 9)), none, 0⟩, ⟨(some 20), (.bin .neq (.tmp 19) (.val (.lit (.int .i64 0)))), none, 0⟩])
 (.cond (.tmp 20) (.seq (.reg 0 [⟨(some 21), (.mv (.tmp 9)), none, 0⟩, ⟨(some 6), (.mv (.val (.sl true 0 []))), none, 0⟩, ⟨(some 7), (.mv (.tmp 21)), none, 0⟩])
 .ret) .skip)))
 c134r1)) := rfl
abbrev rdV (r : Rd) : AV := .lit (.agg #[.int .i64 r.a, .int .i64 r.b, .int .i64 r.lo, .int .i64 r.hi])
set_option maxHeartbeats 8000000 in
theorem k133 (x y : Int) (h : -100000000000000 ≤ x ∧ x ≤ 100000000000000 ∧ -100000000000000 ≤ y ∧ y ≤ 100000000000000) : Fn Try.prog 133 [rgA x y] (i64 (y - x)) [] := by
  refine fn_of e133 ?_
  unfold c133
  repeat' (first
    | with_reducible first
      | refine T_seq ?_
      | refine T_reg ?_
      | refine T_skip ?_
      | refine T_exit ?_
      | refine T_block ?_
      | refine T_cond_t rfl ?_
      | refine T_cond_f rfl ?_
      | ((first | refine T_cond rfl (fun hc => ?_) (fun hc => ?_) | refine wguard_split (fun hc => ?_) (fun hc => ?_)) <;> have hd := hc <;> (try simp (disch := omega) only [wrapI] at hd) <;> have hs := hd <;> (try simp only [Bool.not_eq_true', Bool.not_eq_false', Bool.and_eq_true, Bool.and_eq_false_iff, Bool.or_eq_true, Bool.or_eq_false_iff, decide_eq_true_eq, decide_eq_false_iff_not, beq_iff_eq, bne_iff_ne, beq_eq_false_iff_ne, bne_eq_false_iff_eq, Bool.not_true, Bool.not_false, gt_iff_lt, ge_iff_le, Int.not_lt, Int.not_le, ne_eq, Decidable.not_not] at hd) <;> (try simp at hs))
      | refine T_ret ?_
      | refine leave_of (.inr rfl) _ rfl ?_
      | refine leave_of (.inl rfl) _ rfl ?_
      | refine leaveA_of (.inr rfl) _ rfl ?_
      | refine leaveA_of (.inl rfl) _ rfl ?_
      | refine wif_intro ?_ (fun hc => ?_)
      | refine And.intro ?_ ?_
      | intro hc
    | simp (maxSteps := 4000000) only [wops_nil, wops_cons, wstep_none, wrun_mv, wrun_bin, wrun_load, wrun_faddr, wrun_box, get_mk, wop, aop, ev, look, put_some, writes, ores_some, binV, thenK, value, cut, hget, AV.parts, isOne, mkAgg, tupOf, ofValue_int, List.map_cons, List.map_nil, List.length_cons, List.length_nil, List.getElem?_cons_zero, List.set_cons_zero, List.take_succ_cons, List.take_zero, List.take_nil, List.drop_succ_cons, List.drop_zero, List.nil_append, List.append_nil, List.replicate_zero, List.replicate_succ, List.getD_cons_zero, List.zipIdx_cons, List.zipIdx_nil, List.all_cons, List.all_nil, Option.getD_some, Option.map_some, if_true, if_false, Nat.reduceEqDiff, Nat.reduceAdd, Nat.add_zero, Nat.zero_add, Nat.zero_ne_one, reduceCtorEq, Bool.and_true, Bool.false_eq_true, eq_self, true_and, and_self, List.all_cons, ren, *]
    | simp (disch := omega) only [wrapI]
    | omega)
set_option maxHeartbeats 8000000 in
theorem k129 (l : List Rd) (hl : l.length < 1000000) : Fn Try.prog 129 [rdgs false l] (.lsl 0 0 l.length) [.cells true false 4 (rows4 l)] := by
  refine fn_of e129 ?_
  have hrl := rows4_len l
  unfold c129
  repeat' (first
    | with_reducible first
      | refine T_seq ?_
      | refine T_reg ?_
      | refine T_skip ?_
      | refine T_exit ?_
      | refine T_block ?_
      | refine T_cond_t rfl ?_
      | refine T_cond_f rfl ?_
      | ((first | refine T_cond rfl (fun hc => ?_) (fun hc => ?_) | refine wguard_split (fun hc => ?_) (fun hc => ?_)) <;> have hd := hc <;> (try simp (disch := omega) only [wrapI] at hd) <;> have hs := hd <;> (try simp only [Bool.not_eq_true', Bool.not_eq_false', Bool.and_eq_true, Bool.and_eq_false_iff, Bool.or_eq_true, Bool.or_eq_false_iff, decide_eq_true_eq, decide_eq_false_iff_not, beq_iff_eq, bne_iff_ne, beq_eq_false_iff_ne, bne_eq_false_iff_eq, Bool.not_true, Bool.not_false, gt_iff_lt, ge_iff_le, Int.not_lt, Int.not_le, ne_eq, Decidable.not_not] at hd) <;> (try simp at hs))
      | refine T_ret ?_
      | refine leave_ids (.inr rfl) _ [1] rfl (by simp) (by simp) ?_
      | refine leave_ids (.inl rfl) _ [1] rfl (by simp) (by simp) ?_
      | refine leaveA_of (.inr rfl) _ rfl ?_
      | refine leaveA_of (.inl rfl) _ rfl ?_
      | refine wif_intro ?_ (fun hc => ?_)
      | refine And.intro ?_ ?_
      | intro hc
    | simp (maxSteps := 4000000) only [wops_nil, wops_cons, wstep_none, wrun_mv, wrun_eqNil, wrun_bslice, wrun_app, get_mk, wop, aop, ev, look, put_some, writes, ores_some, ores_ite_none, thenK, boolV, elsOf, szOk, hget, fillA, tupOf, List.flatten_nil, rowsOf, List.map_cons, List.map_nil, List.length_nil, List.getElem?_cons_zero, List.getElem?_cons_succ, List.set_cons_zero, List.set_cons_succ, List.take_nil, List.drop_nil, List.nil_append, List.append_nil, List.replicate_zero, List.replicate_succ, List.zipIdx_cons, List.zipIdx_nil, Option.getD_some, Option.map_some, Option.map_none, if_true, if_false, Nat.reduceEqDiff, Nat.add_zero, Nat.zero_add, Nat.sub_self, Nat.le_refl, reduceCtorEq, Bool.false_and, Bool.or_true, Bool.false_eq_true, eq_self, true_and, beq_self_eq_true, ren, renB, renO, keepρ, pos, Nat.not_lt_zero, renR_rows4, *]
    | simp (disch := omega) only [getD_ints, wrapI]
    | omega)
set_option maxHeartbeats 8000000 in
theorem k134n {z : Nat} {l : List Rd} (r : Rd) (hl : l.length < 900000) (h : checkR z l = 0) (hnil : ∃ r, r ≤ z ∧ (rnds (arcsL l l.length) z (r + 1)).at_ < 0) :
    (checkR z (l ++ [r]) ≠ 0 → Fn Try.prog 134 [i64 z, rdgs false l, rdV r] (.tup [.sl true 0 [], i64 (checkR z (l ++ [r]))]) []) ∧
    (checkR z (l ++ [r]) = 0 → (∀ r', r' ≤ z → 0 ≤ (rnds (arcsL (l ++ [r]) (l ++ [r]).length) z (r' + 1)).at_) → Fn Try.prog 134 [i64 z, rdgs false l, rdV r] (.tup [.sl true 0 [], i64 13]) []) ∧
    (checkR z (l ++ [r]) = 0 → (∃ r', r' ≤ z ∧ (rnds (arcsL (l ++ [r]) (l ++ [r]).length) z (r' + 1)).at_ < 0) → Fn Try.prog 134 [i64 z, rdgs false l, rdV r] (.tup [.lsl 0 0 (l.length + 1), i64 0]) [.cells false false 4 (rows4 (l ++ [r]))]) := by
  have h119 := k119n (nil := false) h hnil
  have h129 := k129 l (by omega)
  have hrl := rows4_len l
  have hml : (l ++ [r]).length = l.length + 1 := by simp
  have hm : rows4 l ++ [rrow r] = rows4 (l ++ [r]) := by simp [rows4]
  have ht : List.take l.length (rows4 l) = rows4 l := by rw [List.take_of_length_le (by omega)]
  have hrm := rows4_len (l ++ [r])
  have hfl := fun h n => flat_rows4' h n (l ++ [r])
  have htk := fun h => take_rows4' h (l ++ [r])
  rw [hml] at hrm htk
  generalize tabM (arcsL l l.length) z = M at *
  clear hnil
  refine ⟨fun hc => ?_, fun hc hcyc => ?_, fun hc hnil => ?_⟩
  · have h119b := k119e (nil := false) (zi := z) (l := l ++ [r]) (by omega) hc
    generalize l ++ [r] = m at *
    refine fn_of e134 ?_
    rw [c134_cut]
    repeat' (first
      | ((with_reducible refine T_calm ?_ ?_); rfl)
      | with_reducible first
        | refine T_seq ?_
        | refine T_reg ?_
        | refine T_draw ?_
        | refine T_skip ?_
        | refine T_exit ?_
        | refine T_block ?_
        | refine T_cond_t rfl ?_
        | refine T_cond_f rfl ?_
        | refine wdW_cons rfl ?_
        | (show wcall _ false (.lit (.func (.func 119) _ _)) _ _ _ _; refine wcall_fn (h119) rfl (by simp [plainL, plain]) ?_)
        | (show wcallX _ false (.lit (.func (.func 119) _ _)) _ _ _ _; refine wcallX_fn (h119) rfl (by simp [plainL, plain, plainR, tab_ren]) ?_)
        | ((first | refine T_cond rfl (fun hc => ?_) (fun hc => ?_) | refine wguard_split (fun hc => ?_) (fun hc => ?_) | refine wguardX_split (fun hc => ?_) (fun hc => ?_)) <;> have hd := hc <;> (try simp (disch := omega) only [wrapI] at hd) <;> have hs := hd <;> (try simp only [Bool.not_eq_true', Bool.not_eq_false', Bool.and_eq_true, Bool.and_eq_false_iff, Bool.or_eq_true, Bool.or_eq_false_iff, decide_eq_true_eq, decide_eq_false_iff_not, beq_iff_eq, bne_iff_ne, beq_eq_false_iff_ne, bne_eq_false_iff_eq, Bool.not_true, Bool.not_false, gt_iff_lt, ge_iff_le, Int.not_lt, Int.not_le, ne_eq, Decidable.not_not] at hd) <;> (try simp at hs))
        | refine T_ret ?_
        | refine leave_of (.inr rfl) _ rfl ?_
        | refine leave_of (.inl rfl) _ rfl ?_
        | refine leaveA_of (.inr rfl) _ rfl ?_
        | refine leaveA_of (.inl rfl) _ rfl ?_
        | refine wif_intro ?_ (fun hc => ?_)
        | refine And.intro ?_ ?_
        | intro hc
      | simp (maxSteps := 4000000) only [wops_nil, wops_cons, wstep_none, wrun_call, wrun_mv, wrun_bin, wrun_ext, wrun_box, wop, aop, ev, look, put_some, writes, ores_some, binV, thenK, AV.parts, isOne, ofValue_int, List.map_cons, List.map_nil, List.length_cons, List.length_nil, List.getElem?_cons_zero, List.getElem?_cons_succ, List.set_cons_zero, List.cons_append, List.nil_append, List.append_nil, List.replicate_zero, List.replicate_succ, List.zipIdx_cons, List.zipIdx_nil, List.all_cons, List.all_nil, List.length_map, Option.map_some, if_true, if_false, Nat.reduceEqDiff, Nat.reduceAdd, Nat.add_zero, Nat.zero_add, Nat.zero_ne_one, reduceCtorEq, Bool.and_true, eq_self, true_and, and_self, freeze, lidsL, lids, List.flatMap_cons, List.flatMap_nil, List.all_cons, ren, renL, shiftρ, *]
      | simp (disch := omega) only [getD_ints, wrapI]
      | (with_reducible show wcall _ false (.lit (.func (.func 119) _ _)) _ _ _ _; refine wcall_fn (h119) ?_ ?_ ?_; (next => simp [rfyL, rfy, hget, ints, take_rfy, tab_ren]); (next => simp [plainL, plain, plainR, tab_ren]))
      | (with_reducible show wcallX _ false (.lit (.func (.func 119) _ _)) _ _ _ _; refine wcallX_fn (h119) ?_ ?_ ?_; (next => simp [rfyL, rfy, hget, ints, take_rfy, tab_ren]); (next => simp [plainL, plain, plainR, tab_ren]))
      | omega)
    refine T_keep [0, 1, 5] [0] (S := ⟨[(0, i64 z), (1, rdgs false l), (5, .loc 0 0 0)], [.cells true false 4 [rrow r]]⟩) (by simp) (by simp) ?_ ?_
    · simp [St.keep, get_mk, look, ren, renL, renR, renB, renO, keepρ, pos, hget, renR_rows4]
    unfold c134r1
    repeat' (first
      | ((with_reducible refine T_calm ?_ ?_); rfl)
      | with_reducible first
        | refine T_seq ?_
        | refine T_reg ?_
        | refine T_draw ?_
        | refine T_skip ?_
        | refine T_exit ?_
        | refine T_block ?_
        | refine T_cond_t rfl ?_
        | refine T_cond_f rfl ?_
        | refine wdW_cons rfl ?_
        | (show wcall _ false (.lit (.func (.func 129) _ _)) _ _ _ _; refine wcall_fn (h129) rfl (by simp [plainL, plain, plainR, renR_rows4]) ?_)
        | (show wcallX _ false (.lit (.func (.func 129) _ _)) _ _ _ _; refine wcallX_fn (h129) rfl (by simp [plainL, plain]) ?_)
        | ((first | refine T_cond rfl (fun hc => ?_) (fun hc => ?_) | refine wguard_split (fun hc => ?_) (fun hc => ?_) | refine wguardX_split (fun hc => ?_) (fun hc => ?_)) <;> have hd := hc <;> (try simp (disch := omega) only [wrapI] at hd) <;> have hs := hd <;> (try simp only [Bool.not_eq_true', Bool.not_eq_false', Bool.and_eq_true, Bool.and_eq_false_iff, Bool.or_eq_true, Bool.or_eq_false_iff, decide_eq_true_eq, decide_eq_false_iff_not, beq_iff_eq, bne_iff_ne, beq_eq_false_iff_ne, bne_eq_false_iff_eq, Bool.not_true, Bool.not_false, gt_iff_lt, ge_iff_le, Int.not_lt, Int.not_le, ne_eq, Decidable.not_not] at hd) <;> (try simp at hs))
        | refine T_ret ?_
        | refine leave_of (.inr rfl) _ rfl ?_
        | refine leave_of (.inl rfl) _ rfl ?_
        | refine leaveA_of (.inr rfl) _ rfl ?_
        | refine leaveA_of (.inl rfl) _ rfl ?_
        | refine wif_intro ?_ (fun hc => ?_)
        | refine And.intro ?_ ?_
        | intro hc
      | simp (maxSteps := 4000000) only [wrun_mv, wrun_load, wrun_bslice, wrun_app, wrunX_mv, wrunX_load, wrunX_bslice, wrunX_app, wdW_nil, wstepX_none, wrunX_call, wop, aop, ev, look, put_some, writes, ores_some, ores_ite_none, thenK, elsOf, szOk, value, cut, hget, fillA, putCells, AV.parts, isOne, toLits, mkAgg, ofValue_int, List.flatten_cons, List.flatten_nil, rowsOf, List.map_cons, List.map_nil, List.length_cons, List.length_nil, List.getElem?_cons_zero, List.getElem?_cons_succ, List.set_cons_zero, List.set_cons_succ, List.take_succ_cons, List.take_zero, List.take_nil, List.drop_succ_cons, List.drop_zero, List.drop_nil, List.cons_append, List.nil_append, List.append_nil, List.replicate_zero, List.replicate_succ, List.getD_cons_zero, List.all_cons, List.all_nil, List.isEmpty_cons, Option.getD_some, Option.map_some, if_true, if_false, Nat.reduceEqDiff, Nat.reduceAdd, Nat.add_zero, Nat.zero_add, Nat.sub_zero, Nat.zero_mul, Nat.le_refl, Nat.zero_ne_one, reduceCtorEq, Bool.and_true, Bool.and_false, Bool.or_true, eq_self, true_and, and_self, beq_self_eq_true, freeze, lidsL, lids, List.flatMap_cons, List.flatMap_nil, List.all_cons, ren, renB, shiftρ, renR_rows4, *]
      | simp (disch := omega) only [getD_ints, wrapI]
      | (with_reducible show wcall _ false (.lit (.func (.func 129) _ _)) _ _ _ _; refine wcall_fn (h129) ?_ ?_ ?_; (next => simp [rfyL, rfy, hget, ints, take_rfy, renR_rows4]); (next => simp [plainL, plain, plainR, renR_rows4]))
      | (with_reducible show wcallX _ false (.lit (.func (.func 129) _ _)) _ _ _ _; refine wcallX_fn (h129) ?_ ?_ ?_; (next => simp [rfyL, rfy, hget, ints, take_rfy, renR_rows4]); (next => simp [plainL, plain, plainR, renR_rows4]))
      | omega)
    refine T_keep [0, 10] [2] (S := ⟨[(0, i64 z), (10, .lsl 0 0 (l.length + 1))], [.cells true false 4 (rows4 m)]⟩) (by simp) (by simp) ?_ ?_
    · simp [St.keep, get_mk, look, ren, renB, renO, keepρ, pos, hget, renR_rows4]
    unfold c134r2
    repeat' (first
      | ((with_reducible refine T_calm ?_ ?_); rfl)
      | with_reducible first
        | refine T_seq ?_
        | refine T_reg ?_
        | refine T_draw ?_
        | refine T_skip ?_
        | refine T_exit ?_
        | refine T_block ?_
        | refine T_cond_t rfl ?_
        | refine T_cond_f rfl ?_
        | refine wdW_cons rfl ?_
        | (show wcall _ false (.lit (.func (.func 119) _ _)) _ _ _ _; refine wcall_fn (h119b) rfl (by simp [plainL, plain]) ?_)
        | (show wcallX _ false (.lit (.func (.func 119) _ _)) _ _ _ _; refine wcallX_fn (h119b) rfl (by simp [plainL, plain, plainR, htk, flat_rows4', freeze1, renR_rows4, hrm]) ?_)
        | ((first | refine T_cond rfl (fun hc => ?_) (fun hc => ?_) | refine wguard_split (fun hc => ?_) (fun hc => ?_) | refine wguardX_split (fun hc => ?_) (fun hc => ?_)) <;> have hd := hc <;> (try simp (disch := omega) only [wrapI] at hd) <;> have hs := hd <;> (try simp only [bne_iff_ne, bne_eq_false_iff_eq, ne_eq] at hd) <;> (try simp at hs))
        | refine T_ret ?_
        | refine leave_of (.inr rfl) _ rfl ?_
        | refine leave_of (.inl rfl) _ rfl ?_
        | refine leaveA_of (.inr rfl) _ rfl ?_
        | refine leaveA_of (.inl rfl) _ rfl ?_
        | refine wif_intro ?_ (fun hc => ?_)
        | refine And.intro ?_ ?_
        | intro hc
      | simp (maxSteps := 4000000) only [wops_nil, wops_cons, wstep_none, wrun_call, wrun_mv, wrun_bin, wrun_ext, get_mk, wop, aop, ev, look, put_some, writes, ores_some, binV, thenK, hget, tupOf, List.map_cons, List.map_nil, List.length_cons, List.length_nil, List.getElem?_cons_zero, List.getElem?_cons_succ, List.set_cons_zero, List.drop_zero, List.nil_append, List.append_nil, List.replicate_zero, Option.getD_some, Option.map_some, Option.map_none, if_true, if_false, Nat.reduceEqDiff, Nat.zero_add, reduceCtorEq, eq_self, freeze, lidsL, lids, List.flatMap_cons, List.flatMap_nil, ren, renL, renR, keepρ, pos, Nat.not_lt_zero, freeze1, *]
      | simp (disch := omega) only [getD_ints, wrapI]
      | (with_reducible show wcall _ false (.lit (.func (.func 119) _ _)) _ _ _ _; refine wcall_fn (h119b) ?_ ?_ ?_; (next => simp [rfyL, rfy, hget, htk, hrm]); (next => simp [plainL, plain]))
      | (with_reducible show wcallX _ false (.lit (.func (.func 119) _ _)) _ _ _ _; refine wcallX_fn (h119b) ?_ ?_ ?_; (next => simp [rfyL, rfy, hget, ints, take_rfy, htk, flat_rows4', freeze1, renR_rows4, hrm]); (next => simp [plainL, plain, plainR, htk, flat_rows4', freeze1, renR_rows4, hrm]))
      | (with_reducible refine wdW_cons ?_ ?_; (next => simp [chk, foot, compatB, argsOf, St.get, target, ev, look, lidsL, lids, hget, kind, wids, tops, opds, topId, htk, flat_rows4', freeze1, renR_rows4, hrm]))
      | omega)
    all_goals first | rfl
  · have h119b := k119c (nil := false) (l := l ++ [r]) hc hcyc
    clear hcyc
    generalize l ++ [r] = m at *
    refine fn_of e134 ?_
    rw [c134_cut]
    repeat' (first
      | ((with_reducible refine T_calm ?_ ?_); rfl)
      | with_reducible first
        | refine T_seq ?_
        | refine T_reg ?_
        | refine T_draw ?_
        | refine T_skip ?_
        | refine T_exit ?_
        | refine T_block ?_
        | refine T_cond_t rfl ?_
        | refine T_cond_f rfl ?_
        | refine wdW_cons rfl ?_
        | (show wcall _ false (.lit (.func (.func 119) _ _)) _ _ _ _; refine wcall_fn (h119) rfl (by simp [plainL, plain]) ?_)
        | (show wcallX _ false (.lit (.func (.func 119) _ _)) _ _ _ _; refine wcallX_fn (h119) rfl (by simp [plainL, plain, plainR, tab_ren]) ?_)
        | ((first | refine T_cond rfl (fun hc => ?_) (fun hc => ?_) | refine wguard_split (fun hc => ?_) (fun hc => ?_) | refine wguardX_split (fun hc => ?_) (fun hc => ?_)) <;> have hd := hc <;> (try simp (disch := omega) only [wrapI] at hd) <;> have hs := hd <;> (try simp only [Bool.not_eq_true', Bool.not_eq_false', Bool.and_eq_true, Bool.and_eq_false_iff, Bool.or_eq_true, Bool.or_eq_false_iff, decide_eq_true_eq, decide_eq_false_iff_not, beq_iff_eq, bne_iff_ne, beq_eq_false_iff_ne, bne_eq_false_iff_eq, Bool.not_true, Bool.not_false, gt_iff_lt, ge_iff_le, Int.not_lt, Int.not_le, ne_eq, Decidable.not_not] at hd) <;> (try simp at hs))
        | refine T_ret ?_
        | refine leave_of (.inr rfl) _ rfl ?_
        | refine leave_of (.inl rfl) _ rfl ?_
        | refine leaveA_of (.inr rfl) _ rfl ?_
        | refine leaveA_of (.inl rfl) _ rfl ?_
        | refine wif_intro ?_ (fun hc => ?_)
        | refine And.intro ?_ ?_
        | intro hc
      | simp (maxSteps := 4000000) only [wops_nil, wops_cons, wstep_none, wrun_call, wrun_mv, wrun_bin, wrun_ext, wrun_box, wop, aop, ev, look, put_some, writes, ores_some, binV, thenK, AV.parts, isOne, ofValue_int, List.map_cons, List.map_nil, List.length_cons, List.length_nil, List.getElem?_cons_zero, List.getElem?_cons_succ, List.set_cons_zero, List.cons_append, List.nil_append, List.append_nil, List.replicate_zero, List.replicate_succ, List.zipIdx_cons, List.zipIdx_nil, List.all_cons, List.all_nil, List.length_map, Option.map_some, if_true, if_false, Nat.reduceEqDiff, Nat.reduceAdd, Nat.add_zero, Nat.zero_add, Nat.zero_ne_one, reduceCtorEq, Bool.and_true, eq_self, true_and, and_self, freeze, lidsL, lids, List.flatMap_cons, List.flatMap_nil, List.all_cons, ren, renL, shiftρ, *]
      | simp (disch := omega) only [getD_ints, wrapI]
      | (with_reducible show wcall _ false (.lit (.func (.func 119) _ _)) _ _ _ _; refine wcall_fn (h119) ?_ ?_ ?_; (next => simp [rfyL, rfy, hget, ints, take_rfy, tab_ren]); (next => simp [plainL, plain, plainR, tab_ren]))
      | (with_reducible show wcallX _ false (.lit (.func (.func 119) _ _)) _ _ _ _; refine wcallX_fn (h119) ?_ ?_ ?_; (next => simp [rfyL, rfy, hget, ints, take_rfy, tab_ren]); (next => simp [plainL, plain, plainR, tab_ren]))
      | omega)
    refine T_keep [0, 1, 5] [0] (S := ⟨[(0, i64 z), (1, rdgs false l), (5, .loc 0 0 0)], [.cells true false 4 [rrow r]]⟩) (by simp) (by simp) ?_ ?_
    · simp [St.keep, get_mk, look, ren, renL, renR, renB, renO, keepρ, pos, hget, renR_rows4]
    unfold c134r1
    repeat' (first
      | ((with_reducible refine T_calm ?_ ?_); rfl)
      | with_reducible first
        | refine T_seq ?_
        | refine T_reg ?_
        | refine T_draw ?_
        | refine T_skip ?_
        | refine T_exit ?_
        | refine T_block ?_
        | refine T_cond_t rfl ?_
        | refine T_cond_f rfl ?_
        | refine wdW_cons rfl ?_
        | (show wcall _ false (.lit (.func (.func 129) _ _)) _ _ _ _; refine wcall_fn (h129) rfl (by simp [plainL, plain, plainR, renR_rows4]) ?_)
        | (show wcallX _ false (.lit (.func (.func 129) _ _)) _ _ _ _; refine wcallX_fn (h129) rfl (by simp [plainL, plain]) ?_)
        | ((first | refine T_cond rfl (fun hc => ?_) (fun hc => ?_) | refine wguard_split (fun hc => ?_) (fun hc => ?_) | refine wguardX_split (fun hc => ?_) (fun hc => ?_)) <;> have hd := hc <;> (try simp (disch := omega) only [wrapI] at hd) <;> have hs := hd <;> (try simp only [Bool.not_eq_true', Bool.not_eq_false', Bool.and_eq_true, Bool.and_eq_false_iff, Bool.or_eq_true, Bool.or_eq_false_iff, decide_eq_true_eq, decide_eq_false_iff_not, beq_iff_eq, bne_iff_ne, beq_eq_false_iff_ne, bne_eq_false_iff_eq, Bool.not_true, Bool.not_false, gt_iff_lt, ge_iff_le, Int.not_lt, Int.not_le, ne_eq, Decidable.not_not] at hd) <;> (try simp at hs))
        | refine T_ret ?_
        | refine leave_of (.inr rfl) _ rfl ?_
        | refine leave_of (.inl rfl) _ rfl ?_
        | refine leaveA_of (.inr rfl) _ rfl ?_
        | refine leaveA_of (.inl rfl) _ rfl ?_
        | refine wif_intro ?_ (fun hc => ?_)
        | refine And.intro ?_ ?_
        | intro hc
      | simp (maxSteps := 4000000) only [wrun_mv, wrun_load, wrun_bslice, wrun_app, wrunX_mv, wrunX_load, wrunX_bslice, wrunX_app, wdW_nil, wstepX_none, wrunX_call, wop, aop, ev, look, put_some, writes, ores_some, ores_ite_none, thenK, elsOf, szOk, value, cut, hget, fillA, putCells, AV.parts, isOne, toLits, mkAgg, ofValue_int, List.flatten_cons, List.flatten_nil, rowsOf, List.map_cons, List.map_nil, List.length_cons, List.length_nil, List.getElem?_cons_zero, List.getElem?_cons_succ, List.set_cons_zero, List.set_cons_succ, List.take_succ_cons, List.take_zero, List.take_nil, List.drop_succ_cons, List.drop_zero, List.drop_nil, List.cons_append, List.nil_append, List.append_nil, List.replicate_zero, List.replicate_succ, List.getD_cons_zero, List.all_cons, List.all_nil, List.isEmpty_cons, Option.getD_some, Option.map_some, if_true, if_false, Nat.reduceEqDiff, Nat.reduceAdd, Nat.add_zero, Nat.zero_add, Nat.sub_zero, Nat.zero_mul, Nat.le_refl, Nat.zero_ne_one, reduceCtorEq, Bool.and_true, Bool.and_false, Bool.or_true, eq_self, true_and, and_self, beq_self_eq_true, freeze, lidsL, lids, List.flatMap_cons, List.flatMap_nil, List.all_cons, ren, renB, shiftρ, renR_rows4, *]
      | simp (disch := omega) only [getD_ints, wrapI]
      | (with_reducible show wcall _ false (.lit (.func (.func 129) _ _)) _ _ _ _; refine wcall_fn (h129) ?_ ?_ ?_; (next => simp [rfyL, rfy, hget, ints, take_rfy, renR_rows4]); (next => simp [plainL, plain, plainR, renR_rows4]))
      | (with_reducible show wcallX _ false (.lit (.func (.func 129) _ _)) _ _ _ _; refine wcallX_fn (h129) ?_ ?_ ?_; (next => simp [rfyL, rfy, hget, ints, take_rfy, renR_rows4]); (next => simp [plainL, plain, plainR, renR_rows4]))
      | omega)
    refine T_keep [0, 10] [2] (S := ⟨[(0, i64 z), (10, .lsl 0 0 (l.length + 1))], [.cells true false 4 (rows4 m)]⟩) (by simp) (by simp) ?_ ?_
    · simp [St.keep, get_mk, look, ren, renB, renO, keepρ, pos, hget, renR_rows4]
    unfold c134r2
    repeat' (first
      | ((with_reducible refine T_calm ?_ ?_); rfl)
      | with_reducible first
        | refine T_seq ?_
        | refine T_reg ?_
        | refine T_draw ?_
        | refine T_skip ?_
        | refine T_exit ?_
        | refine T_block ?_
        | refine T_cond_t rfl ?_
        | refine T_cond_f rfl ?_
        | refine wdW_cons rfl ?_
        | (show wcall _ false (.lit (.func (.func 119) _ _)) _ _ _ _; refine wcall_fn (h119b) rfl (by simp [plainL, plain]) ?_)
        | (show wcallX _ false (.lit (.func (.func 119) _ _)) _ _ _ _; refine wcallX_fn (h119b) rfl (by simp [plainL, plain, plainR, htk, flat_rows4', freeze1, renR_rows4, hrm]) ?_)
        | ((first | refine T_cond rfl (fun hc => ?_) (fun hc => ?_) | refine wguard_split (fun hc => ?_) (fun hc => ?_) | refine wguardX_split (fun hc => ?_) (fun hc => ?_)) <;> have hd := hc <;> (try simp (disch := omega) only [wrapI] at hd) <;> have hs := hd <;> (try simp only [Bool.not_eq_true', Bool.not_eq_false', Bool.and_eq_true, Bool.and_eq_false_iff, Bool.or_eq_true, Bool.or_eq_false_iff, decide_eq_true_eq, decide_eq_false_iff_not, beq_iff_eq, bne_iff_ne, beq_eq_false_iff_ne, bne_eq_false_iff_eq, Bool.not_true, Bool.not_false, gt_iff_lt, ge_iff_le, Int.not_lt, Int.not_le, ne_eq, Decidable.not_not] at hd) <;> (try simp at hs))
        | refine T_ret ?_
        | refine leave_of (.inr rfl) _ rfl ?_
        | refine leave_of (.inl rfl) _ rfl ?_
        | refine leaveA_of (.inr rfl) _ rfl ?_
        | refine leaveA_of (.inl rfl) _ rfl ?_
        | refine wif_intro ?_ (fun hc => ?_)
        | refine And.intro ?_ ?_
        | intro hc
      | simp (maxSteps := 4000000) only [wops_nil, wops_cons, wstep_none, wrun_call, wrun_mv, wrun_bin, wrun_ext, get_mk, wop, aop, ev, look, put_some, writes, ores_some, binV, thenK, hget, tupOf, List.map_cons, List.map_nil, List.length_cons, List.length_nil, List.getElem?_cons_zero, List.getElem?_cons_succ, List.set_cons_zero, List.drop_zero, List.nil_append, List.append_nil, List.replicate_zero, Option.getD_some, Option.map_some, if_true, if_false, Nat.reduceEqDiff, Nat.zero_add, reduceCtorEq, eq_self, freeze, lidsL, lids, List.flatMap_cons, List.flatMap_nil, ren, renL, renR, freeze1, *]
      | simp (disch := omega) only [getD_ints, wrapI]
      | (with_reducible show wcall _ false (.lit (.func (.func 119) _ _)) _ _ _ _; refine wcall_fn (h119b) ?_ ?_ ?_; (next => simp [rfyL, rfy, hget, htk, hrm]); (next => simp [plainL, plain]))
      | (with_reducible show wcallX _ false (.lit (.func (.func 119) _ _)) _ _ _ _; refine wcallX_fn (h119b) ?_ ?_ ?_; (next => simp [rfyL, rfy, hget, ints, take_rfy, htk, flat_rows4', freeze1, renR_rows4, hrm]); (next => simp [plainL, plain, plainR, htk, flat_rows4', freeze1, renR_rows4, hrm]))
      | (with_reducible refine wdW_cons ?_ ?_; (next => simp [chk, foot, compatB, argsOf, St.get, target, ev, look, lidsL, lids, hget, kind, wids, tops, opds, topId, htk, flat_rows4', freeze1, renR_rows4, hrm]))
      | omega)
    all_goals first | rfl
  · have h119b := k119n (nil := false) (l := l ++ [r]) hc hnil
    generalize tabM (arcsL (l ++ [r]) (l ++ [r]).length) z = M2 at *
    clear hnil
    generalize l ++ [r] = m at *
    refine fn_of e134 ?_
    rw [c134_cut]
    repeat' (first
      | ((with_reducible refine T_calm ?_ ?_); rfl)
      | with_reducible first
        | refine T_seq ?_
        | refine T_reg ?_
        | refine T_draw ?_
        | refine T_skip ?_
        | refine T_exit ?_
        | refine T_block ?_
        | refine T_cond_t rfl ?_
        | refine T_cond_f rfl ?_
        | refine wdW_cons rfl ?_
        | (show wcall _ false (.lit (.func (.func 119) _ _)) _ _ _ _; refine wcall_fn (h119) rfl (by simp [plainL, plain]) ?_)
        | (show wcallX _ false (.lit (.func (.func 119) _ _)) _ _ _ _; refine wcallX_fn (h119) rfl (by simp [plainL, plain, plainR, tab_ren]) ?_)
        | ((first | refine T_cond rfl (fun hc => ?_) (fun hc => ?_) | refine wguard_split (fun hc => ?_) (fun hc => ?_) | refine wguardX_split (fun hc => ?_) (fun hc => ?_)) <;> have hd := hc <;> (try simp (disch := omega) only [wrapI] at hd) <;> have hs := hd <;> (try simp only [Bool.not_eq_true', Bool.not_eq_false', Bool.and_eq_true, Bool.and_eq_false_iff, Bool.or_eq_true, Bool.or_eq_false_iff, decide_eq_true_eq, decide_eq_false_iff_not, beq_iff_eq, bne_iff_ne, beq_eq_false_iff_ne, bne_eq_false_iff_eq, Bool.not_true, Bool.not_false, gt_iff_lt, ge_iff_le, Int.not_lt, Int.not_le, ne_eq, Decidable.not_not] at hd) <;> (try simp at hs))
        | refine T_ret ?_
        | refine leave_of (.inr rfl) _ rfl ?_
        | refine leave_of (.inl rfl) _ rfl ?_
        | refine leaveA_of (.inr rfl) _ rfl ?_
        | refine leaveA_of (.inl rfl) _ rfl ?_
        | refine wif_intro ?_ (fun hc => ?_)
        | refine And.intro ?_ ?_
        | intro hc
      | simp (maxSteps := 4000000) only [wops_nil, wops_cons, wstep_none, wrun_call, wrun_mv, wrun_bin, wrun_ext, wrun_box, wop, aop, ev, look, put_some, writes, ores_some, binV, thenK, AV.parts, isOne, ofValue_int, List.map_cons, List.map_nil, List.length_cons, List.length_nil, List.getElem?_cons_zero, List.getElem?_cons_succ, List.set_cons_zero, List.cons_append, List.nil_append, List.append_nil, List.replicate_zero, List.replicate_succ, List.zipIdx_cons, List.zipIdx_nil, List.all_cons, List.all_nil, List.length_map, Option.map_some, if_true, if_false, Nat.reduceEqDiff, Nat.reduceAdd, Nat.add_zero, Nat.zero_add, Nat.zero_ne_one, reduceCtorEq, Bool.and_true, eq_self, true_and, and_self, freeze, lidsL, lids, List.flatMap_cons, List.flatMap_nil, List.all_cons, ren, renL, shiftρ, *]
      | simp (disch := omega) only [getD_ints, wrapI]
      | (with_reducible show wcall _ false (.lit (.func (.func 119) _ _)) _ _ _ _; refine wcall_fn (h119) ?_ ?_ ?_; (next => simp [rfyL, rfy, hget, ints, take_rfy, tab_ren]); (next => simp [plainL, plain, plainR, tab_ren]))
      | (with_reducible show wcallX _ false (.lit (.func (.func 119) _ _)) _ _ _ _; refine wcallX_fn (h119) ?_ ?_ ?_; (next => simp [rfyL, rfy, hget, ints, take_rfy, tab_ren]); (next => simp [plainL, plain, plainR, tab_ren]))
      | omega)
    refine T_keep [0, 1, 5] [0] (S := ⟨[(0, i64 z), (1, rdgs false l), (5, .loc 0 0 0)], [.cells true false 4 [rrow r]]⟩) (by simp) (by simp) ?_ ?_
    · simp [St.keep, get_mk, look, ren, renL, renR, renB, renO, keepρ, pos, hget, renR_rows4]
    unfold c134r1
    repeat' (first
      | ((with_reducible refine T_calm ?_ ?_); rfl)
      | with_reducible first
        | refine T_seq ?_
        | refine T_reg ?_
        | refine T_draw ?_
        | refine T_skip ?_
        | refine T_exit ?_
        | refine T_block ?_
        | refine T_cond_t rfl ?_
        | refine T_cond_f rfl ?_
        | refine wdW_cons rfl ?_
        | (show wcall _ false (.lit (.func (.func 129) _ _)) _ _ _ _; refine wcall_fn (h129) rfl (by simp [plainL, plain, plainR, renR_rows4]) ?_)
        | (show wcallX _ false (.lit (.func (.func 129) _ _)) _ _ _ _; refine wcallX_fn (h129) rfl (by simp [plainL, plain]) ?_)
        | ((first | refine T_cond rfl (fun hc => ?_) (fun hc => ?_) | refine wguard_split (fun hc => ?_) (fun hc => ?_) | refine wguardX_split (fun hc => ?_) (fun hc => ?_)) <;> have hd := hc <;> (try simp (disch := omega) only [wrapI] at hd) <;> have hs := hd <;> (try simp only [Bool.not_eq_true', Bool.not_eq_false', Bool.and_eq_true, Bool.and_eq_false_iff, Bool.or_eq_true, Bool.or_eq_false_iff, decide_eq_true_eq, decide_eq_false_iff_not, beq_iff_eq, bne_iff_ne, beq_eq_false_iff_ne, bne_eq_false_iff_eq, Bool.not_true, Bool.not_false, gt_iff_lt, ge_iff_le, Int.not_lt, Int.not_le, ne_eq, Decidable.not_not] at hd) <;> (try simp at hs))
        | refine T_ret ?_
        | refine leave_of (.inr rfl) _ rfl ?_
        | refine leave_of (.inl rfl) _ rfl ?_
        | refine leaveA_of (.inr rfl) _ rfl ?_
        | refine leaveA_of (.inl rfl) _ rfl ?_
        | refine wif_intro ?_ (fun hc => ?_)
        | refine And.intro ?_ ?_
        | intro hc
      | simp (maxSteps := 4000000) only [wrun_mv, wrun_load, wrun_bslice, wrun_app, wrunX_mv, wrunX_load, wrunX_bslice, wrunX_app, wdW_nil, wstepX_none, wrunX_call, wop, aop, ev, look, put_some, writes, ores_some, ores_ite_none, thenK, elsOf, szOk, value, cut, hget, fillA, putCells, AV.parts, isOne, toLits, mkAgg, ofValue_int, List.flatten_cons, List.flatten_nil, rowsOf, List.map_cons, List.map_nil, List.length_cons, List.length_nil, List.getElem?_cons_zero, List.getElem?_cons_succ, List.set_cons_zero, List.set_cons_succ, List.take_succ_cons, List.take_zero, List.take_nil, List.drop_succ_cons, List.drop_zero, List.drop_nil, List.cons_append, List.nil_append, List.append_nil, List.replicate_zero, List.replicate_succ, List.getD_cons_zero, List.all_cons, List.all_nil, List.isEmpty_cons, Option.getD_some, Option.map_some, if_true, if_false, Nat.reduceEqDiff, Nat.reduceAdd, Nat.add_zero, Nat.zero_add, Nat.sub_zero, Nat.zero_mul, Nat.le_refl, Nat.zero_ne_one, reduceCtorEq, Bool.and_true, Bool.and_false, Bool.or_true, eq_self, true_and, and_self, beq_self_eq_true, freeze, lidsL, lids, List.flatMap_cons, List.flatMap_nil, List.all_cons, ren, renB, shiftρ, renR_rows4, *]
      | simp (disch := omega) only [getD_ints, wrapI]
      | (with_reducible show wcall _ false (.lit (.func (.func 129) _ _)) _ _ _ _; refine wcall_fn (h129) ?_ ?_ ?_; (next => simp [rfyL, rfy, hget, ints, take_rfy, renR_rows4]); (next => simp [plainL, plain, plainR, renR_rows4]))
      | (with_reducible show wcallX _ false (.lit (.func (.func 129) _ _)) _ _ _ _; refine wcallX_fn (h129) ?_ ?_ ?_; (next => simp [rfyL, rfy, hget, ints, take_rfy, renR_rows4]); (next => simp [plainL, plain, plainR, renR_rows4]))
      | omega)
    refine T_keep [0, 10] [2] (S := ⟨[(0, i64 z), (10, .lsl 0 0 (l.length + 1))], [.cells true false 4 (rows4 m)]⟩) (by simp) (by simp) ?_ ?_
    · simp [St.keep, get_mk, look, ren, renB, renO, keepρ, pos, hget, renR_rows4]
    unfold c134r2
    repeat' (first
      | ((with_reducible refine T_calm ?_ ?_); rfl)
      | with_reducible first
        | refine T_seq ?_
        | refine T_reg ?_
        | refine T_draw ?_
        | refine T_skip ?_
        | refine T_exit ?_
        | refine T_block ?_
        | refine T_cond_t rfl ?_
        | refine T_cond_f rfl ?_
        | refine wdW_cons rfl ?_
        | (show wcall _ false (.lit (.func (.func 119) _ _)) _ _ _ _; refine wcall_fn (h119b) rfl (by simp [plainL, plain]) ?_)
        | (show wcallX _ false (.lit (.func (.func 119) _ _)) _ _ _ _; refine wcallX_fn (h119b) rfl (by simp [plainL, plain, plainR, htk, flat_rows4', freeze1, renR_rows4, hrm]) ?_)
        | ((first | refine T_cond rfl (fun hc => ?_) (fun hc => ?_) | refine wguard_split (fun hc => ?_) (fun hc => ?_) | refine wguardX_split (fun hc => ?_) (fun hc => ?_)) <;> have hd := hc <;> (try simp (disch := omega) only [wrapI] at hd) <;> have hs := hd <;> (try simp only [Bool.not_eq_true', Bool.not_eq_false', Bool.and_eq_true, Bool.and_eq_false_iff, Bool.or_eq_true, Bool.or_eq_false_iff, decide_eq_true_eq, decide_eq_false_iff_not, beq_iff_eq, bne_iff_ne, beq_eq_false_iff_ne, bne_eq_false_iff_eq, Bool.not_true, Bool.not_false, gt_iff_lt, ge_iff_le, Int.not_lt, Int.not_le, ne_eq, Decidable.not_not] at hd) <;> (try simp at hs))
        | refine T_ret ?_
        | refine leave_ids (.inr rfl) _ [0] rfl (by simp) (by simp) ?_
        | refine leave_ids (.inl rfl) _ [0] rfl (by simp) (by simp) ?_
        | refine leaveA_of (.inr rfl) _ rfl ?_
        | refine leaveA_of (.inl rfl) _ rfl ?_
        | refine wif_intro ?_ (fun hc => ?_)
        | refine And.intro ?_ ?_
        | intro hc
      | simp (maxSteps := 4000000) only [wops_nil, wops_cons, wstep_none, wrun_call, wrun_mv, wrun_bin, wrun_ext, get_mk, wop, aop, ev, look, put_some, writes, ores_some, binV, thenK, hget, tupOf, List.map_cons, List.map_nil, List.length_cons, List.length_nil, List.getElem?_cons_zero, List.getElem?_cons_succ, List.set_cons_zero, List.drop_zero, List.cons_append, List.nil_append, List.append_nil, List.replicate_zero, List.length_map, Option.getD_some, Option.map_some, Option.map_none, if_true, if_false, Nat.reduceEqDiff, Nat.zero_add, reduceCtorEq, eq_self, freeze, lidsL, lids, List.flatMap_cons, List.flatMap_nil, ren, renL, renB, renO, keepρ, shiftρ, pos, Nat.not_lt_zero, freeze1, renR_rows4, *]
      | simp (disch := omega) only [getD_ints, wrapI]
      | (with_reducible show wcall _ false (.lit (.func (.func 119) _ _)) _ _ _ _; refine wcall_fn (h119b) ?_ ?_ ?_; (next => simp [rfyL, rfy, hget, htk, hrm]); (next => simp [plainL, plain]))
      | (with_reducible show wcallX _ false (.lit (.func (.func 119) _ _)) _ _ _ _; refine wcallX_fn (h119b) ?_ ?_ ?_; (next => simp [rfyL, rfy, hget, ints, take_rfy, htk, flat_rows4', freeze1, renR_rows4, hrm]); (next => simp [plainL, plain, plainR, htk, flat_rows4', freeze1, renR_rows4, hrm]))
      | (with_reducible refine wdW_cons ?_ ?_; (next => simp [chk, foot, compatB, argsOf, St.get, target, ev, look, lidsL, lids, hget, kind, wids, tops, opds, topId, htk, flat_rows4', freeze1, renR_rows4, hrm]))
      | omega)
    all_goals first | rfl
end Go.Abs
