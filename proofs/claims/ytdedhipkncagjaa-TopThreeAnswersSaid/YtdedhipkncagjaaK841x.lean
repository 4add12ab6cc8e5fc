import Derived.Test.YtdedhipkncagjaaPCmin
import Derived.Test.YtdedhipkncagjaaK801x
set_option linter.all false
set_option linter.unusedVariables false
set_option linter.unusedSimpArgs false
set_option linter.unusedSectionVars false
namespace Go.Abs
open Go.Proofs
def rdErr (z : Int) : List Rd → Int
  | [] => 0
  | r :: rs =>
    if ¬ ((0 ≤ r.a ∧ r.a ≤ z - 1) ∧ (0 ≤ r.b ∧ r.b ≤ z - 1)) then 6 else if r.a = r.b then 3
    else if ¬ ((-1000000 ≤ r.lo ∧ r.lo ≤ 1000000) ∧ (-1000000 ≤ r.hi ∧ r.hi ≤ 1000000)) then 2 else if r.hi < r.lo then 9 else rdErr z rs
def checkR (z : Int) (l : List Rd) : Int := if ¬ (1 ≤ z ∧ z ≤ 40) then 2 else if 100 < l.length then 8 else rdErr z l
theorem drop_rd {l : List Rd} {k : Nat} (hk : k < l.length) : l.drop k = l.getD k rd0 :: l.drop (k + 1) := by
  rw [List.drop_eq_getElem_cons hk]; simp [List.getD, hk]
end Go.Abs
namespace Go.Abs
open Go.Proofs
def hBad (n : Int) : Bool := !(decide (-100000000 ≤ n) && decide (n ≤ 100000000))
def keepsB (r : Rd) (hs : List Int) : Bool := decide (r.lo ≤ hs.getD r.b.toNat 0 - hs.getD r.a.toNat 0) && decide (hs.getD r.b.toNat 0 - hs.getD r.a.toNat 0 ≤ r.hi)
set_option maxHeartbeats 8000000 in
theorem k72fP {gf : FuncId} {p : Int → Bool} (hp : ∀ x, Fn Try.prog gf [i64 x] (bl (p x)) []) (nil : Bool) (xs : List Int) (hl : xs.length < 4611686018427387904) : Fn Try.prog 72 [ints nil xs, .lit (.func (.func gf) #[] #[])] (i64 (findBP p xs 0)) [] := by
  refine fn_of e72 ?_
  unfold c72 ints
  repeat' (first | (with_reducible first | refine T_seq ?_ | refine T_reg ?_ | refine T_skip ?_ | refine T_exit ?_ | refine T_block ?_ | refine T_cond_t rfl ?_ | refine T_cond_f rfl ?_ | refine T_ret ?_ | refine leave_of (.inr rfl) _ rfl ?_ | refine leave_of (.inl rfl) _ rfl ?_ | refine leaveA_of (.inr rfl) _ rfl ?_ | refine leaveA_of (.inl rfl) _ rfl ?_ | refine wif_intro ?_ (fun hc => ?_) | refine And.intro ?_ ?_ | intro hc) | simp (maxSteps := 4000000) only [wops_nil, wops_cons, wstep_none, wrun_mv, wrun_len, wop, aop, ev, look, put_some, writes, ores_some, ores_map, ores_bind, thenK, intV, lenOf, hget, List.map_cons, List.map_nil, List.length_nil, List.append_nil, List.replicate_zero, List.zipIdx_cons, List.zipIdx_nil, List.length_map, Option.pure_def, Option.bind_eq_bind, if_true, if_false, Nat.reduceEqDiff, Nat.reduceAdd, Nat.zero_add, reduceCtorEq, eq_self, Int.reduceNeg, *] | simp (disch := omega) only [getD_ints, wrapI] | omega)
  refine T_for [0, 1, 7, 8] (fun k => ⟨[(0, .sl nil 1 (xs.map fun x => [i64 x])), (1, .lit (.func (.func gf) #[] #[])), (7, i64 xs.length), (8, i64 k)], []⟩) xs.length (fun k => findBP p (xs.drop k) k = findBP p xs 0) 0 rfl rfl (Nat.zero_le _) ?_
  intro k hk hI
  unfold c72l0
  repeat' (first | (with_reducible first | refine T_seq ?_ | refine T_reg ?_ | refine T_skip ?_ | refine T_exit ?_ | refine T_block ?_ | refine T_cond_t rfl ?_ | refine T_cond_f rfl ?_ | ((first | refine T_cond rfl (fun hc => ?_) (fun hc => ?_) | refine wguard_split (fun hc => ?_) (fun hc => ?_)) <;> have hd := hc <;> (try simp (disch := omega) only [wrapI] at hd) <;> have hs := hd <;> (try simp only [decide_eq_true_eq, decide_eq_false_iff_not, Int.not_lt] at hd) <;> (try simp at hs)) | refine T_ret ?_ | refine leave_of (.inr rfl) _ rfl ?_ | refine leave_of (.inl rfl) _ rfl ?_ | refine leaveA_of (.inr rfl) _ rfl ?_ | refine leaveA_of (.inl rfl) _ rfl ?_ | refine wif_intro ?_ (fun hc => ?_) | refine And.intro ?_ ?_ | intro hc) | simp (maxSteps := 4000000) only [wops_nil, wops_cons, wstep_none, wrun_call, wrun_mv, wrun_bin, wrun_load, wrun_iaddrS, get_mk, wop, aop, ev, look, put_some, writes, ores_some, ores_ite_none, ores_map, binV, thenK, blockK, value, cut, hget, mkAgg, tupOf, List.map_cons, List.map_nil, List.length_cons, List.length_nil, List.take_succ_cons, List.take_nil, List.drop_zero, List.append_nil, List.replicate_zero, List.length_map, Option.map_some, if_true, if_false, Nat.reduceEqDiff, Nat.zero_add, Nat.zero_ne_one, reduceCtorEq, Bool.false_eq_true, eq_self, true_and, and_true, and_self, decide_true, Int.reduceNeg, ren, *] | simp (disch := omega) only [getD_ints] | omega)
  · have hkn : k < xs.length := by omega
    have h200 : xs.drop k = xs.getD k 0 :: xs.drop (k + 1) := by
      rw [List.drop_eq_getElem_cons hkn]; simp [List.getD, hkn]
    have hstep : findBP p (xs.drop k) k = if p (xs.getD k 0) then (k : Int) else findBP p (xs.drop (k + 1)) ((k + 1 : Nat) : Int) := by
      rw [h200]; rfl
    have e209 : ((k : Nat) : Int).toNat = k := rfl
    refine wcall_rawfnP (v := .bool (p (xs.getD k 0))) (hp _) rfl ?_
    rw [hstep] at hI
    clear hstep h200
    by_cases hb : p (xs.getD k 0) = true
    · rw [hb, if_pos rfl] at hI
      rw [hb]
      replace hI : findBP p xs 0 = (k : Int) := hI.symm
      clear hp
      repeat' (first | (with_reducible first | refine T_seq ?_ | refine T_reg ?_ | refine T_skip ?_ | refine T_exit ?_ | refine T_block ?_ | refine T_cond_t rfl ?_ | refine T_cond_f rfl ?_ | refine T_ret ?_ | refine leave_of (.inr rfl) _ rfl ?_ | refine leave_of (.inl rfl) _ rfl ?_ | refine leaveA_of (.inr rfl) _ rfl ?_ | refine leaveA_of (.inl rfl) _ rfl ?_ | refine wif_intro ?_ (fun hc => ?_) | refine And.intro ?_ ?_ | intro hc) | simp (maxSteps := 4000000) only [wops_nil, wops_cons, wstep_none, wrun_mv, get_mk, wop, aop, ev, look, put_some, writes, ores_some, thenK, blockK, tupOf, List.length_nil, List.append_nil, List.replicate_zero, if_true, if_false, Nat.reduceEqDiff, reduceCtorEq, eq_self, Int.reduceNeg, ren, *] | simp (disch := omega) only [getD_ints, wrapI] | omega)
    · simp only [Bool.not_eq_true] at hb
      rw [hb] at hI ⊢
      simp only [Bool.false_eq_true, if_false] at hI
      clear hp
      repeat' (first | (with_reducible first | refine T_seq ?_ | refine T_reg ?_ | refine T_skip ?_ | refine T_exit ?_ | refine T_block ?_ | refine T_cond_t rfl ?_ | refine T_cond_f rfl ?_ | refine T_ret ?_ | refine leave_of (.inr rfl) _ rfl ?_ | refine leave_of (.inl rfl) _ rfl ?_ | refine leaveA_of (.inr rfl) _ rfl ?_ | refine leaveA_of (.inl rfl) _ rfl ?_ | refine wif_intro ?_ (fun hc => ?_) | refine And.intro ?_ ?_ | intro hc) | simp (maxSteps := 4000000) only [wops_nil, wops_cons, wstep_none, wrun_mv, wrun_bin, wop, aop, ev, look, put_some, writes, ores_some, binV, thenK, blockK, List.length_nil, List.append_nil, List.replicate_zero, Option.map_some, if_true, if_false, Nat.reduceEqDiff, reduceCtorEq, eq_self, true_and, Int.reduceNeg, *] | simp (disch := omega) only [wrapI] | omega)
      exact rfl
  · rw [← hI, List.drop_of_length_le hs]; rfl
theorem findB_anyP (p : Int → Bool) : ∀ (l : List Int) (k : Int), 0 ≤ k → decide (0 ≤ findBP p l k) = l.any p
  | [], k, hk => by simp [findBP]
  | x :: r, k, hk => by
    have h := findB_anyP p r (k + 1) (by omega)
    unfold findBP
    cases hx : p x with
    | true => simp [hx]; omega
    | false => simp only [Bool.false_eq_true, if_false, List.any_cons, hx, Bool.false_or]; exact h
set_option maxHeartbeats 8000000 in
theorem k53fP {gf : FuncId} {p : Int → Bool} (hp : ∀ x, Fn Try.prog gf [i64 x] (bl (p x)) []) (nil : Bool) (xs : List Int) (hl : xs.length < 4611686018427387904) : Fn Try.prog 53 [ints nil xs, .lit (.func (.func gf) #[] #[])] (bl (xs.any p)) [] := by
  refine fn_of e53 ?_
  unfold c53
  rw [← findB_anyP p xs 0 (by omega)]
  have h72 := k72fP hp nil xs hl
  clear hp
  repeat' (first | (with_reducible first | refine T_seq ?_ | refine T_reg ?_ | refine T_skip ?_ | refine T_exit ?_ | refine T_block ?_ | refine T_cond_t rfl ?_ | refine T_cond_f rfl ?_ | refine T_ret ?_ | refine leave_of (.inr rfl) _ rfl ?_ | refine leave_of (.inl rfl) _ rfl ?_ | refine leaveA_of (.inr rfl) _ rfl ?_ | refine leaveA_of (.inl rfl) _ rfl ?_ | refine wif_intro ?_ (fun hc => ?_) | refine And.intro ?_ ?_ | intro hc) | simp (maxSteps := 4000000) only [wops_nil, wops_cons, wstep_none, wrun_call, wrun_mv, wop, aop, ev, look, put_some, writes, ores_some, thenK, List.map_cons, List.map_nil, List.length_nil, List.append_nil, List.replicate_zero, List.zipIdx_cons, List.zipIdx_nil, if_true, if_false, Nat.reduceEqDiff, Nat.reduceAdd, Nat.zero_add, Nat.zero_ne_one, reduceCtorEq, eq_self, *] | simp (disch := omega) only [getD_ints, wrapI] | omega)
  · refine wcall_rawfnP h72 (by simp [plainL, plain]) ?_
    repeat' (first | (with_reducible first | refine T_seq ?_ | refine T_reg ?_ | refine T_skip ?_ | refine T_exit ?_ | refine T_block ?_ | refine T_cond_t rfl ?_ | refine T_cond_f rfl ?_ | refine T_ret ?_ | refine leave_of (.inr rfl) _ rfl ?_ | refine leave_of (.inl rfl) _ rfl ?_ | refine leaveA_of (.inr rfl) _ rfl ?_ | refine leaveA_of (.inl rfl) _ rfl ?_ | refine wif_intro ?_ (fun hc => ?_) | refine And.intro ?_ ?_ | intro hc) | simp (maxSteps := 4000000) only [wops_nil, wops_cons, wstep_none, wrun_mv, wrun_bin, get_mk, wop, aop, ev, look, put_some, writes, ores_some, binV, thenK, tupOf, Option.map_some, if_true, if_false, Nat.reduceEqDiff, reduceCtorEq, eq_self, ren, *] | simp (disch := omega) only [getD_ints, wrapI] | omega)
def brk (hs : List Int) : List Rd → Int → Int × Int
  | [], _ => (0, 0)
  | r :: rs, k => if keepsB r hs then brk hs rs (k + 1) else (k, 26)
/-- the specification's answer to heights -/
def checkHt (z : Int) (l : List Rd) (hs : List Int) : Int × Int :=
  if (hs.length : Int) ≠ z then (0, 10) else if hs.any hBad = true then (0, 2) else brk hs l 0
theorem rdErr_ok {z : Int} : ∀ {l : List Rd}, rdErr z l = 0 → ∀ k, k < l.length → ((0 ≤ (l.getD k rd0).a ∧ (l.getD k rd0).a ≤ z - 1) ∧ (0 ≤ (l.getD k rd0).b ∧ (l.getD k rd0).b ≤ z - 1)) ∧ (l.getD k rd0).a ≠ (l.getD k rd0).b ∧ ((-1000000 ≤ (l.getD k rd0).lo ∧ (l.getD k rd0).lo ≤ 1000000) ∧ (-1000000 ≤ (l.getD k rd0).hi ∧ (l.getD k rd0).hi ≤ 1000000)) ∧ (l.getD k rd0).lo ≤ (l.getD k rd0).hi
  | [], _, k, hk => by simp at hk
  | r :: rs, h, k, hk => by
    unfold rdErr at h
    split at h
    · simp at h
    · split at h
      · simp at h
      · split at h
        · simp at h
        · split at h
          · simp at h
          · cases k with
            | zero => simp only [List.getD_cons_zero]; omega
            | succ k => simp only [List.getD_cons_succ]; exact rdErr_ok h k (by simpa using hk)
theorem checkR_ok {z : Int} {l : List Rd} (h : checkR z l = 0) : (1 ≤ z ∧ z ≤ 40) ∧ l.length ≤ 100 ∧ rdErr z l = 0 := by
  unfold checkR at h
  split at h
  · simp at h
  · split at h
    · simp at h
    · exact ⟨by omega, by omega, h⟩
theorem hBad_get {hs : List Int} (h : hs.any hBad = false) (k : Nat) : -100000000 ≤ hs.getD k 0 ∧ hs.getD k 0 ≤ 100000000 := by
  rw [List.any_eq_false] at h
  by_cases hk : k < hs.length
  · have := h (hs.getD k 0) (by simp [List.getD, hk])
    unfold hBad at this
    simp at this
    simp only [List.getD_eq_getElem?_getD]; omega
  · rw [List.getD_eq_getElem?_getD, List.getElem?_eq_none (by omega)]; simp
end Go.Abs
