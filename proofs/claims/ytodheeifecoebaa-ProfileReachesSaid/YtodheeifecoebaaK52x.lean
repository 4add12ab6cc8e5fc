import Derived.Test.YtodheeifecoebaaK43x
import Derived.Test.YtodheeifecoebaaK49x
set_option linter.all false
set_option linter.unusedVariables false
set_option linter.unusedSimpArgs false
set_option linter.unusedSectionVars false
namespace Go.Abs
open Go.Proofs
/-- a table as a value -/
abbrev tblV (M : List (List Int)) : AV := .sl false 1 (M.map fun r => [ints false r])
def isFar (n : Int) : Bool := n == far
set_option maxHeartbeats 8000000 in
theorem k144 (n : Int) : Fn Try.prog 144 [i64 n] (bl (isFar n)) [] := by
  refine fn_of e144 ?_
  unfold c144
  repeat' (first
    | with_reducible first
      | refine T_seq ?_
      | refine T_reg ?_
      | refine T_skip ?_
      | refine T_exit ?_
      | refine T_block ?_
      | refine T_cond_t rfl ?_
      | refine T_cond_f rfl ?_
      | ((first | refine T_cond rfl (fun hc => ?_) (fun hc => ?_) | refine wguard_split (fun hc => ?_) (fun hc => ?_)) <;> have hd := hc <;> (try simp (disch := omega) only [wrapI] at hd) <;> have hs := hd <;> (try simp only [Bool.not_eq_true', Bool.not_eq_false', Bool.and_eq_true, Bool.and_eq_false_iff, Bool.or_eq_true, Bool.or_eq_false_iff, decide_eq_true_eq, decide_eq_false_iff_not, beq_iff_eq, bne_iff_ne, beq_eq_false_iff_ne, bne_eq_false_iff_eq, Bool.not_true, Bool.not_false, gt_iff_lt, ge_iff_le, Int.not_lt, Int.not_le, ne_eq, Decidable.not_not] at hd) <;> (try simp at hs))
      | refine T_ret ?_
      | refine leave_of (.inr rfl) _ rfl ?_
      | refine leave_of (.inl rfl) _ rfl ?_
      | refine leaveA_of (.inr rfl) _ rfl ?_
      | refine leaveA_of (.inl rfl) _ rfl ?_
      | refine wif_intro ?_ (fun hc => ?_)
      | refine And.intro ?_ ?_
      | intro hc
    | simp (maxSteps := 4000000) only [wops_nil, wops_cons, wstep_none, wrun_mv, wrun_bin, get_mk, wop, aop, ev, look, put_some, writes, ores_some, binV, thenK, tupOf, List.map_cons, List.map_nil, List.length_nil, List.append_nil, List.replicate_zero, List.zipIdx_cons, List.zipIdx_nil, Option.map_some, if_true, if_false, Nat.reduceEqDiff, Nat.zero_add, reduceCtorEq, eq_self, ren, *]
    | simp (disch := omega) only [getD_ints, wrapI]
    | omega)
  exact rfl
theorem tbl_get {M : List (List Int)} {i : Nat} (h : i < M.length) : (M.map fun r => [ints false r]).getD i [] = [ints false (M.getD i [])] := by simp [List.getD, h]
set_option maxHeartbeats 8000000 in
theorem k97 {M : List (List Int)} {z : Nat} (hz : 1 ≤ z ∧ z ≤ 40) (hM : Sq z M) : Fn Try.prog 97 [tblV M] (bl (!((M.getD 0 []).any isFar))) [] := by
  refine fn_of e97 ?_
  have h1 : (M.map fun r => [ints false r]).getD (Int.toNat 0) [] = [ints false (M.getD 0 [])] := tbl_get (M := M) (i := 0) (by rw [hM.hl]; omega)
  have h2 := hM.hl
  have h90 := k90f k144 false (M.getD 0 []) (by rw [hM.hr 0 (by omega)]; omega)
  have h3 : (M.map fun r => [ints false r]).length = z := by rw [List.length_map]; exact h2
  have hz3 : 0 < z := hz.1
  clear hM
  unfold c97
  repeat' (first
    | with_reducible first
      | refine T_seq ?_
      | refine T_reg ?_
      | refine T_skip ?_
      | refine T_exit ?_
      | refine T_block ?_
      | refine T_cond_t rfl ?_
      | refine T_cond_f rfl ?_
      | ((first | refine T_cond rfl (fun hc => ?_) (fun hc => ?_) | refine wguard_split (fun hc => ?_) (fun hc => ?_)) <;> have hd := hc <;> (try simp (disch := omega) only [wrapI] at hd) <;> have hs := hd <;> (try simp only [Bool.not_eq_true', Bool.not_eq_false', Bool.and_eq_true, Bool.and_eq_false_iff, Bool.or_eq_true, Bool.or_eq_false_iff, decide_eq_true_eq, decide_eq_false_iff_not, beq_iff_eq, bne_iff_ne, beq_eq_false_iff_ne, bne_eq_false_iff_eq, Bool.not_true, Bool.not_false, gt_iff_lt, ge_iff_le, Int.not_lt, Int.not_le, ne_eq, Decidable.not_not] at hd) <;> (try simp at hs))
      | refine T_ret ?_
      | refine leave_of (.inr rfl) _ rfl ?_
      | refine leave_of (.inl rfl) _ rfl ?_
      | refine leaveA_of (.inr rfl) _ rfl ?_
      | refine leaveA_of (.inl rfl) _ rfl ?_
      | refine wif_intro ?_ (fun hc => ?_)
      | refine And.intro ?_ ?_
      | intro hc
    | simp (maxSteps := 4000000) only [wops_nil, wops_cons, wstep_none, wrun_call, wrun_mv, wrun_load, wrun_iaddrS, wop, aop, ev, look, put_some, writes, ores_some, ores_ite_none, thenK, value, cut, hget, mkAgg, List.map_cons, List.map_nil, List.length_cons, List.length_nil, List.take_succ_cons, List.take_nil, List.drop_zero, List.append_nil, List.replicate_zero, List.zipIdx_cons, List.zipIdx_nil, Option.map_some, if_true, if_false, Nat.reduceEqDiff, Nat.zero_add, reduceCtorEq, Bool.false_eq_true, eq_self, and_true, *]
    | simp (disch := omega) only [getD_ints, wrapI]
    | omega)
  · refine wcall_rawfn h90 (by simp [plainL, plain]) ?_
    repeat' (first
      | with_reducible first
        | refine T_seq ?_
        | refine T_reg ?_
        | refine T_skip ?_
        | refine T_exit ?_
        | refine T_block ?_
        | refine T_cond_t rfl ?_
        | refine T_cond_f rfl ?_
        | ((first | refine T_cond rfl (fun hc => ?_) (fun hc => ?_) | refine wguard_split (fun hc => ?_) (fun hc => ?_)) <;> have hd := hc <;> (try simp (disch := omega) only [wrapI] at hd) <;> have hs := hd <;> (try simp only [Bool.not_eq_true', Bool.not_eq_false', Bool.and_eq_true, Bool.and_eq_false_iff, Bool.or_eq_true, Bool.or_eq_false_iff, decide_eq_true_eq, decide_eq_false_iff_not, beq_iff_eq, bne_iff_ne, beq_eq_false_iff_ne, bne_eq_false_iff_eq, Bool.not_true, Bool.not_false, gt_iff_lt, ge_iff_le, Int.not_lt, Int.not_le, ne_eq, Decidable.not_not] at hd) <;> (try simp at hs))
        | refine T_ret ?_
        | refine leave_of (.inr rfl) _ rfl ?_
        | refine leave_of (.inl rfl) _ rfl ?_
        | refine leaveA_of (.inr rfl) _ rfl ?_
        | refine leaveA_of (.inl rfl) _ rfl ?_
        | refine wif_intro ?_ (fun hc => ?_)
        | refine And.intro ?_ ?_
        | intro hc
      | simp (maxSteps := 4000000) only [wops_nil, wops_cons, wstep_none, wrun_mv, wrun_not, get_mk, wop, aop, ev, look, put_some, writes, ores_some, thenK, boolV, tupOf, if_true, if_false, Nat.reduceEqDiff, reduceCtorEq, eq_self, ren, *]
      | simp (disch := omega) only [getD_ints, wrapI]
      | omega)
abbrev rgA (a b : Int) : AV := .lit (.agg #[.int .i64 a, .int .i64 b])
set_option maxHeartbeats 8000000 in
theorem k98 {M : List (List Int)} {z i j : Nat} (hz : 1 ≤ z ∧ z ≤ 40) (hM : Sq z M) (hi : i < z) (hj : j < z) (hb : -10000000000000 ≤ mget M j i ∧ mget M j i ≤ 10000000000000) : Fn Try.prog 98 [tblV M, i64 i, i64 j] (rgA (-(mget M j i)) (mget M i j)) [] := by
  refine fn_of e98 ?_
  have h2 := hM.hl
  have h3 : (M.map fun r => [ints false r]).length = z := by rw [List.length_map]; exact h2
  have h1 := tbl_get (M := M) (i := i) (by omega)
  have h4 := tbl_get (M := M) (i := j) (by omega)
  have h5 := hM.hr i hi
  have h6 := hM.hr j hj
  have g1 : ((M.getD j []).map fun x => [i64 x]).getD i [] = [i64 (mget M j i)] := getD_ints (by omega)
  have g2 : ((M.getD i []).map fun x => [i64 x]).getD j [] = [i64 (mget M i j)] := getD_ints (by omega)
  have e0 : ∀ x : Int, 0 - x = -x := fun x => by omega
  have e1 : ((M.getD j []).map fun x => [i64 x]).length = z := by rw [List.length_map]; exact h6
  have e2 : ((M.getD i []).map fun x => [i64 x]).length = z := by rw [List.length_map]; exact h5
  clear hM
  unfold c98
  repeat' (first
    | ((with_reducible refine T_calm ?_ ?_); rfl)
    | with_reducible first
      | refine T_seq ?_
      | refine T_reg ?_
      | refine T_draw ?_
      | refine T_skip ?_
      | refine T_exit ?_
      | refine T_block ?_
      | refine T_cond_t rfl ?_
      | refine T_cond_f rfl ?_
      | refine wdW_cons rfl ?_
      | ((first | refine T_cond rfl (fun hc => ?_) (fun hc => ?_) | refine wguard_split (fun hc => ?_) (fun hc => ?_) | refine wguardX_split (fun hc => ?_) (fun hc => ?_)) <;> have hd := hc <;> (try simp (disch := omega) only [wrapI] at hd) <;> have hs := hd <;> (try simp only [Bool.not_eq_true', Bool.not_eq_false', Bool.and_eq_true, Bool.and_eq_false_iff, Bool.or_eq_true, Bool.or_eq_false_iff, decide_eq_true_eq, decide_eq_false_iff_not, beq_iff_eq, bne_iff_ne, beq_eq_false_iff_ne, bne_eq_false_iff_eq, Bool.not_true, Bool.not_false, gt_iff_lt, ge_iff_le, Int.not_lt, Int.not_le, ne_eq, Decidable.not_not] at hd) <;> (try simp at hs))
      | refine T_ret ?_
      | refine leave_of (.inr rfl) _ rfl ?_
      | refine leave_of (.inl rfl) _ rfl ?_
      | refine leaveA_of (.inr rfl) _ rfl ?_
      | refine leaveA_of (.inl rfl) _ rfl ?_
      | refine wif_intro ?_ (fun hc => ?_)
      | refine And.intro ?_ ?_
      | intro hc
    | simp (maxSteps := 4000000) only [wops_nil, wops_cons, wstep_none, wrun_mv, wrun_neg, wrun_build, wrun_load, wrun_store, wrun_iaddrS, wrun_alloc, wrunX_mv, wrunX_neg, wrunX_build, wrunX_load, wrunX_store, wrunX_iaddrS, wdW_nil, wstepX_none, wop, aop, ev, look, put_some, put_none, writes, ores_some, ores_ite_none, thenK, value, cut, hget, fillA, putCells, AV.parts, isOne, toLits, mkAgg, tupOf, ofValue_int, List.map_cons, List.map_nil, List.length_cons, List.length_nil, List.getElem?_cons_zero, List.set_cons_zero, List.take_succ_cons, List.take_zero, List.take_nil, List.drop_succ_cons, List.drop_zero, List.drop_nil, List.cons_append, List.nil_append, List.append_nil, List.replicate_zero, List.replicate_succ, List.getD_cons_zero, List.zipIdx_cons, List.zipIdx_nil, List.all_cons, List.all_nil, Option.getD_some, Option.map_some, if_true, if_false, Nat.reduceEqDiff, Nat.reduceAdd, Nat.reduceLeDiff, Nat.reduceLT, Nat.add_zero, Nat.zero_add, Nat.le_refl, Nat.zero_ne_one, reduceCtorEq, Bool.and_true, Bool.false_eq_true, eq_self, true_and, and_true, and_self, List.all_cons, ren, Int.toNat_natCast, *]
    | simp (disch := omega) only [wrapI]
    | omega)
end Go.Abs
