import Derived.Test.YtdedhipkncagjaaK38
set_option linter.all false
set_option linter.unusedVariables false
set_option linter.unusedSimpArgs false
set_option linter.unusedSectionVars false
namespace Go.Abs
open Go.Proofs
/-! numbers of which something is true -/
theorem wcall_rawfn {P : Program} {s : List (Nat × AV)} {h : List Blk} {K : St → Prop} {g : FuncId} {args : List AV} {v : Value} {d : Option Nat} (hf : Fn P g args (.lit v) []) (hp : plainL args = true)
    (hk : K (St.put ⟨s, h⟩ d (.lit v))) : wcall P true (.lit (.func (.func g) #[] #[])) args d ⟨s, h⟩ K := by
  refine wcall_raw ((acall_frame hp hf).mono fun r H' ⟨r0, new, ⟨e1, e2⟩, e200, e201⟩ => ?_)
  subst e1 e2
  simp only [ren, List.map_nil, List.append_nil] at e200 e201
  subst e200 e201
  exact hk
def findB (p : Int → Bool) : List Int → Int → Int
  | [], _ => -1
  | x :: r, k => if p x then k else findB p r (k + 1)
set_option maxHeartbeats 8000000 in
theorem k72f {gf : FuncId} {p : Int → Bool} (hp : ∀ x, Fn Try.prog gf [i64 x] (bl (p x)) []) (nil : Bool) (xs : List Int) (hl : xs.length < 4611686018427387904) : Fn Try.prog 72 [ints nil xs, .lit (.func (.func gf) #[] #[])] (i64 (findB p xs 0)) [] := by
  refine fn_of e72 ?_
  unfold c72 ints
  repeat' (first | (with_reducible first | refine T_seq ?_ | refine T_reg ?_ | refine T_skip ?_ | refine T_exit ?_ | refine T_block ?_ | refine T_cond_t rfl ?_ | refine T_cond_f rfl ?_ | refine T_ret ?_ | refine leave_of (.inr rfl) _ rfl ?_ | refine leave_of (.inl rfl) _ rfl ?_ | refine leaveA_of (.inr rfl) _ rfl ?_ | refine leaveA_of (.inl rfl) _ rfl ?_ | refine wif_intro ?_ (fun hc => ?_) | refine And.intro ?_ ?_ | intro hc) | simp (maxSteps := 4000000) only [wops_nil, wops_cons, wstep_none, wrun_mv, wrun_len, wop, aop, ev, look, put_some, writes, ores_some, ores_map, ores_bind, thenK, intV, lenOf, hget, List.map_cons, List.map_nil, List.length_nil, List.append_nil, List.replicate_zero, List.zipIdx_cons, List.zipIdx_nil, List.length_map, Option.pure_def, Option.bind_eq_bind, if_true, if_false, Nat.reduceEqDiff, Nat.reduceAdd, Nat.zero_add, reduceCtorEq, eq_self, Int.reduceNeg, *] | simp (disch := omega) only [getD_ints, wrapI] | omega)
  refine T_for [0, 1, 7, 8] (fun k => ⟨[(0, .sl nil 1 (xs.map fun x => [i64 x])), (1, .lit (.func (.func gf) #[] #[])), (7, i64 xs.length), (8, i64 k)], []⟩) xs.length (fun k => findB p (xs.drop k) k = findB p xs 0) 0 rfl rfl (Nat.zero_le _) ?_
  intro k hk hI
  unfold c72l0
  repeat' (first | (with_reducible first | refine T_seq ?_ | refine T_reg ?_ | refine T_skip ?_ | refine T_exit ?_ | refine T_block ?_ | refine T_cond_t rfl ?_ | refine T_cond_f rfl ?_ | ((first | refine T_cond rfl (fun hc => ?_) (fun hc => ?_) | refine wguard_split (fun hc => ?_) (fun hc => ?_)) <;> have hd := hc <;> (try simp (disch := omega) only [wrapI] at hd) <;> have hs := hd <;> (try simp only [decide_eq_true_eq, decide_eq_false_iff_not, Int.not_lt] at hd) <;> (try simp at hs)) | refine T_ret ?_ | refine leave_of (.inr rfl) _ rfl ?_ | refine leave_of (.inl rfl) _ rfl ?_ | refine leaveA_of (.inr rfl) _ rfl ?_ | refine leaveA_of (.inl rfl) _ rfl ?_ | refine wif_intro ?_ (fun hc => ?_) | refine And.intro ?_ ?_ | intro hc) | simp (maxSteps := 4000000) only [wops_nil, wops_cons, wstep_none, wrun_call, wrun_mv, wrun_bin, wrun_load, wrun_iaddrS, get_mk, wop, aop, ev, look, put_some, writes, ores_some, ores_ite_none, ores_map, binV, thenK, blockK, value, cut, hget, mkAgg, tupOf, List.map_cons, List.map_nil, List.length_cons, List.length_nil, List.take_succ_cons, List.take_nil, List.drop_zero, List.append_nil, List.replicate_zero, List.length_map, Option.map_some, if_true, if_false, Nat.reduceEqDiff, Nat.zero_add, Nat.zero_ne_one, reduceCtorEq, Bool.false_eq_true, eq_self, true_and, and_true, and_self, decide_true, Int.reduceNeg, ren, *] | simp (disch := omega) only [getD_ints] | omega)
  · have hkn : k < xs.length := by omega
    have h0 : xs.drop k = xs.getD k 0 :: xs.drop (k + 1) := by
      rw [List.drop_eq_getElem_cons hkn]; simp [List.getD, hkn]
    have hstep : findB p (xs.drop k) k = if p (xs.getD k 0) then (k : Int) else findB p (xs.drop (k + 1)) ((k + 1 : Nat) : Int) := by
      rw [h0]; rfl
    have e206 : ((k : Nat) : Int).toNat = k := rfl
    refine wcall_rawfn (v := .bool (p (xs.getD k 0))) (hp _) rfl ?_
    rw [hstep] at hI
    clear hstep h0
    by_cases hb : p (xs.getD k 0) = true
    · rw [hb, if_pos rfl] at hI
      rw [hb]
      replace hI : findB p xs 0 = (k : Int) := hI.symm
      clear hp
      repeat' (first | (with_reducible first | refine T_seq ?_ | refine T_reg ?_ | refine T_skip ?_ | refine T_exit ?_ | refine T_block ?_ | refine T_cond_t rfl ?_ | refine T_cond_f rfl ?_ | refine T_ret ?_ | refine leave_of (.inr rfl) _ rfl ?_ | refine leave_of (.inl rfl) _ rfl ?_ | refine leaveA_of (.inr rfl) _ rfl ?_ | refine leaveA_of (.inl rfl) _ rfl ?_ | refine wif_intro ?_ (fun hc => ?_) | refine And.intro ?_ ?_ | intro hc) | simp (maxSteps := 4000000) only [wops_nil, wops_cons, wstep_none, wrun_mv, get_mk, wop, aop, ev, look, put_some, writes, ores_some, thenK, blockK, tupOf, List.length_nil, List.append_nil, List.replicate_zero, if_true, if_false, Nat.reduceEqDiff, reduceCtorEq, eq_self, Int.reduceNeg, ren, *] | simp (disch := omega) only [getD_ints, wrapI] | omega)
    · simp only [Bool.not_eq_true] at hb
      rw [hb] at hI ⊢
      simp only [Bool.false_eq_true, if_false] at hI
      clear hp
      repeat' (first | (with_reducible first | refine T_seq ?_ | refine T_reg ?_ | refine T_skip ?_ | refine T_exit ?_ | refine T_block ?_ | refine T_cond_t rfl ?_ | refine T_cond_f rfl ?_ | refine T_ret ?_ | refine leave_of (.inr rfl) _ rfl ?_ | refine leave_of (.inl rfl) _ rfl ?_ | refine leaveA_of (.inr rfl) _ rfl ?_ | refine leaveA_of (.inl rfl) _ rfl ?_ | refine wif_intro ?_ (fun hc => ?_) | refine And.intro ?_ ?_ | intro hc) | simp (maxSteps := 4000000) only [wops_nil, wops_cons, wstep_none, wrun_mv, wrun_bin, wop, aop, ev, look, put_some, writes, ores_some, binV, thenK, blockK, List.length_nil, List.append_nil, List.replicate_zero, Option.map_some, if_true, if_false, Nat.reduceEqDiff, reduceCtorEq, eq_self, true_and, Int.reduceNeg, *] | simp (disch := omega) only [wrapI] | omega)
      exact rfl
  · rw [← hI, List.drop_of_length_le hs]; rfl
theorem findB_any (p : Int → Bool) : ∀ (l : List Int) (k : Int), 0 ≤ k → decide (findB p l k ≥ 0) = l.any p
  | [], k, hk => by simp [findB]
  | x :: r, k, hk => by
    have h := findB_any p r (k + 1) (by omega)
    unfold findB
    cases hx : p x with
    | true => simp [hx]; omega
    | false => simp only [Bool.false_eq_true, if_false, List.any_cons, hx, Bool.false_or]; exact h
set_option maxHeartbeats 8000000 in
theorem k53f {gf : FuncId} {p : Int → Bool} (hp : ∀ x, Fn Try.prog gf [i64 x] (bl (p x)) []) (nil : Bool) (xs : List Int) (hl : xs.length < 4611686018427387904) : Fn Try.prog 53 [ints nil xs, .lit (.func (.func gf) #[] #[])] (bl (xs.any p)) [] := by
  refine fn_of e53 ?_
  have h72 := k72f hp nil xs hl
  have hf := findB_any p xs 0 (by omega)
  generalize findB p xs 0 = F at *
  generalize xs.any p = R at *
  clear hp
  unfold c53
  repeat' (first | (with_reducible first | refine T_seq ?_ | refine T_reg ?_ | refine T_skip ?_ | refine T_exit ?_ | refine T_block ?_ | refine T_cond_t rfl ?_ | refine T_cond_f rfl ?_ | refine T_ret ?_ | refine leave_of (.inr rfl) _ rfl ?_ | refine leave_of (.inl rfl) _ rfl ?_ | refine leaveA_of (.inr rfl) _ rfl ?_ | refine leaveA_of (.inl rfl) _ rfl ?_ | refine wif_intro ?_ (fun hc => ?_) | refine And.intro ?_ ?_ | intro hc) | simp (maxSteps := 4000000) only [wops_nil, wops_cons, wstep_none, wrun_call, wrun_mv, wop, aop, ev, look, put_some, writes, ores_some, thenK, List.map_cons, List.map_nil, List.length_nil, List.append_nil, List.replicate_zero, List.zipIdx_cons, List.zipIdx_nil, if_true, if_false, Nat.reduceEqDiff, Nat.reduceAdd, Nat.zero_add, Nat.zero_ne_one, reduceCtorEq, eq_self, *] | simp (disch := omega) only [getD_ints, wrapI] | omega)
  refine wcall_rawfn h72 (by simp [plainL, plain]) ?_
  clear h72
  repeat' (first | (with_reducible first | refine T_seq ?_ | refine T_reg ?_ | refine T_skip ?_ | refine T_exit ?_ | refine T_block ?_ | refine T_cond_t rfl ?_ | refine T_cond_f rfl ?_ | refine T_ret ?_ | refine leave_of (.inr rfl) _ rfl ?_ | refine leave_of (.inl rfl) _ rfl ?_ | refine leaveA_of (.inr rfl) _ rfl ?_ | refine leaveA_of (.inl rfl) _ rfl ?_ | refine wif_intro ?_ (fun hc => ?_) | refine And.intro ?_ ?_ | intro hc) | simp (maxSteps := 4000000) only [wops_nil, wops_cons, wstep_none, wrun_mv, wrun_bin, get_mk, wop, aop, ev, look, put_some, writes, ores_some, binV, thenK, tupOf, Option.map_some, if_true, if_false, Nat.reduceEqDiff, reduceCtorEq, eq_self, ren, *] | simp (disch := omega) only [getD_ints, wrapI] | omega)
  all_goals first | rfl
end Go.Abs
namespace Go.Abs
open Go.Proofs
/-! numbers within, copies -/
set_option maxHeartbeats 8000000 in
theorem k10 (n lo hi : Int) : Fn Try.prog 10 [i64 n, i64 lo, i64 hi] (bl (decide (lo ≤ n) && decide (n ≤ hi))) [] := by
  refine fn_of e10 ?_
  unfold c10
  repeat' (first | (with_reducible first | refine T_seq ?_ | refine T_reg ?_ | refine T_skip ?_ | refine T_exit ?_ | refine T_block ?_ | refine T_cond_t rfl ?_ | refine T_cond_f rfl ?_ | ((first | refine T_cond rfl (fun hc => ?_) (fun hc => ?_) | refine wguard_split (fun hc => ?_) (fun hc => ?_)) <;> have hd := hc <;> (try simp (disch := omega) only [wrapI] at hd) <;> have hs := hd <;> (try simp only [decide_eq_true_eq, decide_eq_false_iff_not, Bool.not_true, ge_iff_le, Int.not_le] at hd) <;> (try simp at hs)) | refine T_ret ?_ | refine leave_of (.inr rfl) _ rfl ?_ | refine leave_of (.inl rfl) _ rfl ?_ | refine leaveA_of (.inr rfl) _ rfl ?_ | refine leaveA_of (.inl rfl) _ rfl ?_ | refine wif_intro ?_ (fun hc => ?_) | refine And.intro ?_ ?_ | intro hc) | simp (maxSteps := 4000000) only [wops_nil, wops_cons, wstep_none, wstep_some, wguard_true, wguard_ft, wrun_mv, wrun_pick, wrun_bin, get_mk, wop, aop, ev, look, put_some, writes, ores_some, binV, thenK, tupOf, List.map_cons, List.map_nil, List.length_nil, List.append_nil, List.replicate_zero, List.zipIdx_cons, List.zipIdx_nil, Option.map_some, if_true, if_false, Nat.reduceEqDiff, Nat.reduceAdd, Nat.zero_add, Nat.zero_ne_one, reduceCtorEq, Bool.not_true, Bool.true_and, Bool.false_and, Bool.false_eq_true, eq_self, decide_true, ren, *] | simp (disch := omega) only [getD_ints, wrapI] | omega)
  all_goals simp_all
set_option maxHeartbeats 8000000 in
theorem k13 (nil : Bool) (xs : List Int) (hl : xs.length < 1000000) : Fn Try.prog 13 [ints nil xs] (.lsl 0 0 xs.length) [.cells true false 1 (xs.map fun x => [i64 x])] := by
  refine fn_of e13 ?_
  have hll : (xs.map fun x => [i64 x]).length = xs.length := by simp
  unfold c13
  repeat' (first | (with_reducible first | refine T_seq ?_ | refine T_reg ?_ | refine T_skip ?_ | refine T_exit ?_ | refine T_block ?_ | refine T_cond_t rfl ?_ | refine T_cond_f rfl ?_ | refine T_ret ?_ | refine leave_ids (.inr rfl) _ [1] rfl (by simp) (by simp) ?_ | refine leave_ids (.inl rfl) _ [1] rfl (by simp) (by simp) ?_ | refine leaveA_of (.inr rfl) _ rfl ?_ | refine leaveA_of (.inl rfl) _ rfl ?_ | refine wif_intro ?_ (fun hc => ?_) | refine And.intro ?_ ?_ | intro hc) | simp (maxSteps := 4000000) only [wops_nil, wops_cons, wstep_none, wrun_mv, wrun_bslice, wrun_app, get_mk, wop, aop, ev, look, put_some, writes, ores_some, ores_ite_none, thenK, elsOf, szOk, hget, fillA, tupOf, List.flatten_nil, rowsOf, List.map_cons, List.map_nil, List.length_nil, List.getElem?_cons_zero, List.getElem?_cons_succ, List.set_cons_zero, List.set_cons_succ, List.take_nil, List.drop_nil, List.nil_append, List.append_nil, List.replicate_zero, List.replicate_succ, List.zipIdx_cons, List.zipIdx_nil, Option.getD_some, Option.map_some, Option.map_none, if_true, if_false, Nat.reduceEqDiff, Nat.add_zero, Nat.zero_add, Nat.sub_self, Nat.mul_one, Nat.le_refl, reduceCtorEq, Bool.false_and, Bool.or_true, eq_self, true_and, beq_self_eq_true, ren, renB, renO, keepρ, pos, Nat.not_lt_zero, renR_ints, *] | simp (disch := omega) only [getD_ints, wrapI] | omega)
  all_goals first | rfl
end Go.Abs
