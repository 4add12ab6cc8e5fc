import Derived.Test.YtodheeifecoebaaK1x
import Derived.Test.YtodheeifecoebaaK41x
set_option linter.all false
set_option linter.unusedVariables false
set_option linter.unusedSimpArgs false
set_option linter.unusedSectionVars false
namespace Go.Abs
open Go.Proofs
set_option maxHeartbeats 8000000 in
theorem k142f {gf : FuncId} {p : Int → Bool} (hp : ∀ x, Fn Try.prog gf [i64 x] (bl (p x)) []) (nil : Bool) (xs : List Int) (hl : xs.length < 4611686018427387904) : Fn Try.prog 142 [ints nil xs, .lit (.func (.func gf) #[] #[])] (i64 (findB p xs 0)) [] := by
  refine fn_of e142 ?_
  unfold c142 ints
  repeat' (first | (with_reducible first | refine T_seq ?_ | refine T_reg ?_ | refine T_skip ?_ | refine T_exit ?_ | refine T_block ?_ | refine T_cond_t rfl ?_ | refine T_cond_f rfl ?_ | refine T_ret ?_ | refine leave_of (.inr rfl) _ rfl ?_ | refine leave_of (.inl rfl) _ rfl ?_ | refine leaveA_of (.inr rfl) _ rfl ?_ | refine leaveA_of (.inl rfl) _ rfl ?_ | refine wif_intro ?_ (fun hc => ?_) | refine And.intro ?_ ?_ | intro hc) | simp (maxSteps := 4000000) only [wops_nil, wops_cons, wstep_none, wrun_mv, wrun_len, wop, aop, ev, look, put_some, writes, ores_some, ores_map, ores_bind, thenK, intV, lenOf, hget, List.map_cons, List.map_nil, List.length_nil, List.append_nil, List.replicate_zero, List.zipIdx_cons, List.zipIdx_nil, List.length_map, Option.pure_def, Option.bind_eq_bind, if_true, if_false, Nat.reduceEqDiff, Nat.reduceAdd, Nat.zero_add, reduceCtorEq, eq_self, Int.reduceNeg, *] | simp (disch := omega) only [getD_ints, wrapI] | omega)
  refine T_for [0, 1, 7, 8] (fun k => ⟨[(0, .sl nil 1 (xs.map fun x => [i64 x])), (1, .lit (.func (.func gf) #[] #[])), (7, i64 xs.length), (8, i64 k)], []⟩) xs.length (fun k => findB p (xs.drop k) k = findB p xs 0) 0 rfl rfl (Nat.zero_le _) ?_
  intro k hk hI
  unfold c142l0
  repeat' (first | (with_reducible first | refine T_seq ?_ | refine T_reg ?_ | refine T_skip ?_ | refine T_exit ?_ | refine T_block ?_ | refine T_cond_t rfl ?_ | refine T_cond_f rfl ?_ | ((first | refine T_cond rfl (fun hc => ?_) (fun hc => ?_) | refine wguard_split (fun hc => ?_) (fun hc => ?_)) <;> have hd := hc <;> (try simp (disch := omega) only [wrapI] at hd) <;> have hs := hd <;> (try simp only [decide_eq_true_eq, decide_eq_false_iff_not, Int.not_lt] at hd) <;> (try simp at hs)) | refine T_ret ?_ | refine leave_of (.inr rfl) _ rfl ?_ | refine leave_of (.inl rfl) _ rfl ?_ | refine leaveA_of (.inr rfl) _ rfl ?_ | refine leaveA_of (.inl rfl) _ rfl ?_ | refine wif_intro ?_ (fun hc => ?_) | refine And.intro ?_ ?_ | intro hc) | simp (maxSteps := 4000000) only [wops_nil, wops_cons, wstep_none, wrun_call, wrun_mv, wrun_bin, wrun_load, wrun_iaddrS, get_mk, wop, aop, ev, look, put_some, writes, ores_some, ores_ite_none, ores_map, binV, thenK, blockK, value, cut, hget, mkAgg, tupOf, List.map_cons, List.map_nil, List.length_cons, List.length_nil, List.take_succ_cons, List.take_nil, List.drop_zero, List.append_nil, List.replicate_zero, List.length_map, Option.map_some, if_true, if_false, Nat.reduceEqDiff, Nat.zero_add, Nat.zero_ne_one, reduceCtorEq, Bool.false_eq_true, eq_self, true_and, and_true, and_self, decide_true, Int.reduceNeg, ren, *] | simp (disch := omega) only [getD_ints] | omega)
  · have hkn : k < xs.length := by omega
    have h0 : xs.drop k = xs.getD k 0 :: xs.drop (k + 1) := by
      rw [List.drop_eq_getElem_cons hkn]; simp [List.getD, hkn]
    have hstep : findB p (xs.drop k) k = if p (xs.getD k 0) then (k : Int) else findB p (xs.drop (k + 1)) ((k + 1 : Nat) : Int) := by
      rw [h0]; rfl
    have e9 : ((k : Nat) : Int).toNat = k := rfl
    refine wcall_rawfn (v := .bool (p (xs.getD k 0))) (hp _) rfl ?_
    rw [hstep] at hI
    clear hstep h0
    by_cases hb : p (xs.getD k 0) = true
    · rw [hb, if_pos rfl] at hI
      rw [hb]
      replace hI : findB p xs 0 = (k : Int) := hI.symm
      clear hp
      repeat' (first | (with_reducible first | refine T_seq ?_ | refine T_reg ?_ | refine T_skip ?_ | refine T_exit ?_ | refine T_block ?_ | refine T_cond_t rfl ?_ | refine T_cond_f rfl ?_ | refine T_ret ?_ | refine leave_of (.inr rfl) _ rfl ?_ | refine leave_of (.inl rfl) _ rfl ?_ | refine leaveA_of (.inr rfl) _ rfl ?_ | refine leaveA_of (.inl rfl) _ rfl ?_ | refine wif_intro ?_ (fun hc => ?_) | refine And.intro ?_ ?_ | intro hc) | simp (maxSteps := 4000000) only [wops_nil, wops_cons, wstep_none, wrun_mv, get_mk, wop, aop, ev, look, put_some, writes, ores_some, thenK, blockK, tupOf, List.length_nil, List.append_nil, List.replicate_zero, if_true, if_false, Nat.reduceEqDiff, reduceCtorEq, eq_self, Int.reduceNeg, ren, *] | simp (disch := omega) only [getD_ints, wrapI] | omega)
    · simp only [Bool.not_eq_true] at hb
      rw [hb] at hI ⊢
      simp only [Bool.false_eq_true, if_false] at hI
      clear hp
      repeat' (first | (with_reducible first | refine T_seq ?_ | refine T_reg ?_ | refine T_skip ?_ | refine T_exit ?_ | refine T_block ?_ | refine T_cond_t rfl ?_ | refine T_cond_f rfl ?_ | refine T_ret ?_ | refine leave_of (.inr rfl) _ rfl ?_ | refine leave_of (.inl rfl) _ rfl ?_ | refine leaveA_of (.inr rfl) _ rfl ?_ | refine leaveA_of (.inl rfl) _ rfl ?_ | refine wif_intro ?_ (fun hc => ?_) | refine And.intro ?_ ?_ | intro hc) | simp (maxSteps := 4000000) only [wops_nil, wops_cons, wstep_none, wrun_mv, wrun_bin, wop, aop, ev, look, put_some, writes, ores_some, binV, thenK, blockK, List.length_nil, List.append_nil, List.replicate_zero, Option.map_some, if_true, if_false, Nat.reduceEqDiff, reduceCtorEq, eq_self, true_and, Int.reduceNeg, *] | simp (disch := omega) only [wrapI] | omega)
      exact rfl
  · rw [← hI, List.drop_of_length_le hs]; rfl
theorem findB_any (p : Int → Bool) : ∀ (l : List Int) (k : Int), 0 ≤ k → decide (0 ≤ findB p l k) = l.any p
  | [], k, hk => by simp [findB]
  | x :: r, k, hk => by
    have h := findB_any p r (k + 1) (by omega)
    unfold findB
    cases hx : p x with
    | true => simp [hx]; omega
    | false => simp only [Bool.false_eq_true, if_false, List.any_cons, hx, Bool.false_or]; exact h
set_option maxHeartbeats 8000000 in
theorem k90f {gf : FuncId} {p : Int → Bool} (hp : ∀ x, Fn Try.prog gf [i64 x] (bl (p x)) []) (nil : Bool) (xs : List Int) (hl : xs.length < 4611686018427387904) : Fn Try.prog 90 [ints nil xs, .lit (.func (.func gf) #[] #[])] (bl (xs.any p)) [] := by
  refine fn_of e90 ?_
  unfold c90
  rw [← findB_any p xs 0 (by omega)]
  have h142 := k142f hp nil xs hl
  clear hp
  repeat' (first | (with_reducible first | refine T_seq ?_ | refine T_reg ?_ | refine T_skip ?_ | refine T_exit ?_ | refine T_block ?_ | refine T_cond_t rfl ?_ | refine T_cond_f rfl ?_ | refine T_ret ?_ | refine leave_of (.inr rfl) _ rfl ?_ | refine leave_of (.inl rfl) _ rfl ?_ | refine leaveA_of (.inr rfl) _ rfl ?_ | refine leaveA_of (.inl rfl) _ rfl ?_ | refine wif_intro ?_ (fun hc => ?_) | refine And.intro ?_ ?_ | intro hc) | simp (maxSteps := 4000000) only [wops_nil, wops_cons, wstep_none, wrun_call, wrun_mv, wop, aop, ev, look, put_some, writes, ores_some, thenK, List.map_cons, List.map_nil, List.length_nil, List.append_nil, List.replicate_zero, List.zipIdx_cons, List.zipIdx_nil, if_true, if_false, Nat.reduceEqDiff, Nat.reduceAdd, Nat.zero_add, Nat.zero_ne_one, reduceCtorEq, eq_self, *] | simp (disch := omega) only [getD_ints, wrapI] | omega)
  · refine wcall_rawfn h142 (by simp [plainL, plain]) ?_
    repeat' (first | (with_reducible first | refine T_seq ?_ | refine T_reg ?_ | refine T_skip ?_ | refine T_exit ?_ | refine T_block ?_ | refine T_cond_t rfl ?_ | refine T_cond_f rfl ?_ | refine T_ret ?_ | refine leave_of (.inr rfl) _ rfl ?_ | refine leave_of (.inl rfl) _ rfl ?_ | refine leaveA_of (.inr rfl) _ rfl ?_ | refine leaveA_of (.inl rfl) _ rfl ?_ | refine wif_intro ?_ (fun hc => ?_) | refine And.intro ?_ ?_ | intro hc) | simp (maxSteps := 4000000) only [wops_nil, wops_cons, wstep_none, wrun_mv, wrun_bin, get_mk, wop, aop, ev, look, put_some, writes, ores_some, binV, thenK, tupOf, Option.map_some, if_true, if_false, Nat.reduceEqDiff, reduceCtorEq, eq_self, ren, *] | simp (disch := omega) only [getD_ints, wrapI] | omega)
theorem rdErr_ok {z : Int} : ∀ {l : List Rd}, rdErr z l = 0 → ∀ k, k < l.length → ((0 ≤ (l.getD k rd0).a ∧ (l.getD k rd0).a ≤ z - 1) ∧ (0 ≤ (l.getD k rd0).b ∧ (l.getD k rd0).b ≤ z - 1)) ∧ (l.getD k rd0).a ≠ (l.getD k rd0).b ∧ ((-1000000 ≤ (l.getD k rd0).lo ∧ (l.getD k rd0).lo ≤ 1000000) ∧ (-1000000 ≤ (l.getD k rd0).hi ∧ (l.getD k rd0).hi ≤ 1000000)) ∧ (l.getD k rd0).lo ≤ (l.getD k rd0).hi
  | [], _, k, hk => by simp at hk
  | r :: rs, h, k, hk => by
    unfold rdErr at h
    split at h
    · simp at h
    · split at h
      · simp at h
      · split at h
        · simp at h
        · split at h
          · simp at h
          · cases k with
            | zero => simp only [List.getD_cons_zero]; omega
            | succ k => simp only [List.getD_cons_succ]; exact rdErr_ok h k (by simpa using hk)
theorem checkR_ok {z : Int} {l : List Rd} (h : checkR z l = 0) : (1 ≤ z ∧ z ≤ 40) ∧ l.length ≤ 100 ∧ rdErr z l = 0 := by
  unfold checkR at h
  split at h
  · simp at h
  · split at h
    · simp at h
    · exact ⟨by omega, by omega, h⟩
end Go.Abs
