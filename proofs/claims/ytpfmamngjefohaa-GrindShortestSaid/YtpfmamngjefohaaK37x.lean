import Derived.Test.YtpfmamngjefohaaK36x
set_option linter.all false
set_option linter.unusedVariables false
set_option linter.unusedSimpArgs false
set_option linter.unusedSectionVars false
namespace Go.Abs
open Go.Proofs
/-! Shortest -/
def shR : Pol → AV
  | none => .tup [.sl true 0 [], i64 0, i64 12]
  | some x => .tup [if x.1 = [] then .sl true 0 [] else .lsl 0 0 x.1.length, i64 x.2, i64 0]
theorem shR_ne {q : List Int} {m : Int} (hq : q ≠ []) : shR (some (q, m)) = .tup [.lsl 0 0 q.length, i64 m, i64 0] := by
  show AV.tup [if q = [] then AV.sl true 0 [] else AV.lsl 0 0 q.length, i64 m, i64 0] = _
  rw [if_neg hq]
set_option maxHeartbeats 8000000 in
theorem k16e (nil : Bool) (l : List Gr) (a b : Int) (hl : l.length < 1000000) (hsz : ∀ k, k < l.length → (l.getD k gr0).nm.size ≤ 30) (hg : gE l ≠ 0 ∨ dpB a b = false) : Fn Try.prog 16 [gts nil l, prV a b] (.tup [.sl true 0 [], i64 0, i64 (cdE l a b)]) [] := by
  refine fn_of e16 ?_
  have h65 := k65 nil l a b hl hsz
  have hne : cdE l a b ≠ 0 := by
    unfold cdE
    by_cases h : gE l ≠ 0
    · rw [if_pos h]; exact h
    · rw [if_neg h]
      rcases hg with h' | h'
      · exact (h h').elim
      · rw [if_pos h']; simp
  have d0 : (cdE l a b != 0) = true := by simp only [bne_iff_ne]; exact hne
  clear hg hsz hne
  generalize cdE l a b = c at *
  unfold c16
  repeat' (first
    | ((with_reducible refine T_calm ?_ ?_); rfl)
    | with_reducible first
      | refine T_seq ?_
      | refine T_reg ?_
      | refine T_draw ?_
      | refine T_skip ?_
      | refine T_exit ?_
      | refine T_block ?_
      | refine T_cond_t rfl ?_
      | refine T_cond_f rfl ?_
      | refine wdW_cons rfl ?_
      | (show wcall _ false (.lit (.func (.func 65) _ _)) _ _ _ _; refine wcall_fn (h65) rfl (by simp [plainL, plain, plainR_gR]) ?_)
      | (show wcallX _ false (.lit (.func (.func 65) _ _)) _ _ _ _; refine wcallX_fn (h65) rfl (by simp [plainL, plain, plainR, plainR_gR]) ?_)
      | ((first | refine T_cond rfl (fun hc => ?_) (fun hc => ?_) | refine wguard_split (fun hc => ?_) (fun hc => ?_) | refine wguardX_split (fun hc => ?_) (fun hc => ?_)) <;> have hd := hc <;> (try simp (disch := omega) only [wrapI] at hd) <;> have hs := hd <;> (try simp only [Bool.not_eq_true', Bool.not_eq_false', Bool.and_eq_true, Bool.and_eq_false_iff, Bool.or_eq_true, Bool.or_eq_false_iff, decide_eq_true_eq, decide_eq_false_iff_not, beq_iff_eq, bne_iff_ne, beq_eq_false_iff_ne, bne_eq_false_iff_eq, Bool.not_true, Bool.not_false, gt_iff_lt, ge_iff_le, Int.not_lt, Int.not_le, ne_eq, Decidable.not_not] at hd) <;> (try simp at hs))
      | refine T_ret ?_
      | refine leave_of (.inr rfl) _ rfl ?_
      | refine leave_of (.inl rfl) _ rfl ?_
      | refine leaveA_of (.inr rfl) _ rfl ?_
      | refine leaveA_of (.inl rfl) _ rfl ?_
      | refine wif_intro ?_ (fun hc => ?_)
      | refine And.intro ?_ ?_
      | intro hc
    | simp (maxSteps := 4000000) only [wops_nil, wops_cons, wstep_none, wrun_call, wrun_mv, wrun_bin, wrun_load, wrun_box, get_mk, wop, aop, ev, look, put_some, writes, ores_some, binV, thenK, value, cut, hget, AV.parts, isOne, toLits, mkAgg, tupOf, ofValue_int, List.map_cons, List.map_nil, List.length_cons, List.length_nil, List.getElem?_cons_zero, List.set_cons_zero, List.take_succ_cons, List.take_nil, List.drop_zero, List.nil_append, List.append_nil, List.replicate_zero, List.replicate_succ, List.getD_cons_zero, List.zipIdx_cons, List.zipIdx_nil, List.all_cons, List.all_nil, Option.getD_some, Option.map_some, if_true, if_false, Nat.reduceEqDiff, Nat.reduceAdd, Nat.add_zero, Nat.zero_add, Nat.zero_ne_one, reduceCtorEq, Bool.and_true, eq_self, true_and, and_self, freeze, lidsL, lids, List.flatMap_cons, List.flatMap_nil, List.all_cons, ren, renL, renR, *]
    | simp (disch := omega) only [getD_ints, wrapI]
    | (with_reducible show wcall _ false (.lit (.func (.func 65) _ _)) _ _ _ _; refine wcall_fn (h65) ?_ ?_ ?_; (next => simp [rfyL, rfy, hget, ints, take_rfy, plainR_gR]); (next => simp [plainL, plain, plainR, plainR_gR]))
    | (with_reducible show wcallX _ false (.lit (.func (.func 65) _ _)) _ _ _ _; refine wcallX_fn (h65) ?_ ?_ ?_; (next => simp [rfyL, rfy, hget, ints, take_rfy, plainR_gR]); (next => simp [plainL, plain, plainR, plainR_gR]))
    | omega)
  all_goals first | rfl
set_option maxHeartbeats 8000000 in
theorem k16 (nil : Bool) (l : List Gr) (a b : Int) (hl : l.length < 1000000) (hsz : ∀ k, k < l.length → (l.getD k gr0).nm.size ≤ 30) (hg : gE l = 0) (hd : dpB a b = true) : Fn Try.prog 16 [gts nil l, prV a b] (shR (bst l b 1000000 a)) (polH (bst l b 1000000 a)) := by
  refine fn_of e16 ?_
  have h65 := k65 nil l a b hl hsz
  have hc : cdE l a b = 0 := by unfold cdE; rw [if_neg (fun h => h hg), if_neg (by rw [hd]; simp)]
  rw [hc] at h65
  have hab : (0 ≤ a ∧ a ≤ 1000000) ∧ 0 ≤ b ∧ b ≤ 1000000 := by unfold dpB at hd; simpa using hd
  have h66 := k66 (nil := nil) (want := b) hl (gE_ok hg).2 hab.2.1 1000000 a (Nat.le_refl _) hab.1 (by omega)
  clear hg hsz hc hd hab
  generalize bst l b 1000000 a = o at *
  cases o with
  | none =>
    have eR : polR none = .agg [.sl true 0 [], i64 0, bl false] := rfl
    have eH : polH none = [] := rfl
    have eS : shR none = .tup [.sl true 0 [], i64 0, i64 12] := rfl
    rw [eR, eH] at h66
    rw [eS, eH]
    clear eR eH eS
    unfold c16
    repeat' (first
      | ((with_reducible refine T_calm ?_ ?_); rfl)
      | with_reducible first
        | refine T_seq ?_
        | refine T_reg ?_
        | refine T_draw ?_
        | refine T_skip ?_
        | refine T_exit ?_
        | refine T_block ?_
        | refine T_cond_t rfl ?_
        | refine T_cond_f rfl ?_
        | refine wdW_cons rfl ?_
        | (show wcall _ false (.lit (.func (.func 65) _ _)) _ _ _ _; refine wcall_fn (h65) rfl (by simp [plainL, plain, plainR_gR]) ?_)
        | (show wcallX _ false (.lit (.func (.func 65) _ _)) _ _ _ _; refine wcallX_fn (h65) rfl (by simp [plainL, plain, plainR, plainR_gR, Int.toNat_zero, Int.toNat_one]) ?_)
        | (show wcall _ false (.lit (.func (.func 66) _ _)) _ _ _ _; refine wcall_fn (h66) rfl (by simp [plainL, plain, plainR_gR]) ?_)
        | (show wcallX _ false (.lit (.func (.func 66) _ _)) _ _ _ _; refine wcallX_fn (h66) rfl (by simp [plainL, plain, plainR, plainR_gR, Int.toNat_zero, Int.toNat_one]) ?_)
        | ((first | refine T_cond rfl (fun hc => ?_) (fun hc => ?_) | refine wguard_split (fun hc => ?_) (fun hc => ?_) | refine wguardX_split (fun hc => ?_) (fun hc => ?_)) <;> have hd := hc <;> (try simp (disch := omega) only [wrapI] at hd) <;> have hs := hd <;> (try simp only [Bool.not_eq_true', Bool.not_eq_false', Bool.and_eq_true, Bool.and_eq_false_iff, Bool.or_eq_true, Bool.or_eq_false_iff, decide_eq_true_eq, decide_eq_false_iff_not, beq_iff_eq, bne_iff_ne, beq_eq_false_iff_ne, bne_eq_false_iff_eq, Bool.not_true, Bool.not_false, gt_iff_lt, ge_iff_le, Int.not_lt, Int.not_le, ne_eq, Decidable.not_not] at hd) <;> (try simp at hs))
        | refine T_ret ?_
        | refine leave_of (.inr rfl) _ rfl ?_
        | refine leave_of (.inl rfl) _ rfl ?_
        | refine leaveA_of (.inr rfl) _ rfl ?_
        | refine leaveA_of (.inl rfl) _ rfl ?_
        | refine wif_intro ?_ (fun hc => ?_)
        | refine And.intro ?_ ?_
        | intro hc
      | simp (maxSteps := 4000000) only [wops_nil, wops_cons, wstep_none, wrun_call, wrun_mv, wrun_bin, wrun_not, wrun_load, wrun_store, wrun_faddr, wrun_iaddrA, wrun_alloc, wrun_box, get_mk, wop, aop, ev, look, put_some, put_none, writes, ores_some, ores_ite_none, binV, thenK, boolV, value, cut, hget, putCells, AV.parts, isOne, toLits, mkAgg, tupOf, ofValue_int, List.map_cons, List.map_nil, List.length_cons, List.length_nil, List.getElem?_cons_zero, List.getElem?_cons_succ, List.set_cons_zero, List.set_cons_succ, List.take_succ_cons, List.take_zero, List.take_nil, List.drop_succ_cons, List.drop_zero, List.drop_nil, List.cons_append, List.nil_append, List.append_nil, List.append_assoc, List.replicate_zero, List.replicate_succ, List.getD_cons_zero, List.zipIdx_cons, List.zipIdx_nil, List.all_cons, List.all_nil, Option.getD_some, Option.map_some, if_true, if_false, Nat.reduceEqDiff, Nat.reduceAdd, Nat.reduceLT, Nat.add_zero, Nat.zero_add, Nat.mul_one, Nat.le_refl, Nat.zero_ne_one, reduceCtorEq, Bool.not_false, Bool.and_true, Bool.false_eq_true, eq_self, true_and, and_self, freeze, lidsL, lids, List.flatMap_cons, List.flatMap_nil, List.all_cons, ren, renL, renR, Int.toNat_zero, Int.toNat_one, *]
      | simp (disch := omega) only [getD_ints, wrapI]
      | (with_reducible show wcall _ false (.lit (.func (.func 65) _ _)) _ _ _ _; refine wcall_fn (h65) ?_ ?_ ?_; (next => simp [rfyL, rfy, hget, ints, take_rfy, plainR_gR, Int.toNat_zero, Int.toNat_one]); (next => simp [plainL, plain, plainR, plainR_gR, Int.toNat_zero, Int.toNat_one]))
      | (with_reducible show wcallX _ false (.lit (.func (.func 65) _ _)) _ _ _ _; refine wcallX_fn (h65) ?_ ?_ ?_; (next => simp [rfyL, rfy, hget, ints, take_rfy, plainR_gR, Int.toNat_zero, Int.toNat_one]); (next => simp [plainL, plain, plainR, plainR_gR, Int.toNat_zero, Int.toNat_one]))
      | (with_reducible show wcall _ false (.lit (.func (.func 66) _ _)) _ _ _ _; refine wcall_fn (h66) ?_ ?_ ?_; (next => simp [rfyL, rfy, hget, ints, take_rfy, plainR_gR, Int.toNat_zero, Int.toNat_one]); (next => simp [plainL, plain, plainR, plainR_gR, Int.toNat_zero, Int.toNat_one]))
      | (with_reducible show wcallX _ false (.lit (.func (.func 66) _ _)) _ _ _ _; refine wcallX_fn (h66) ?_ ?_ ?_; (next => simp [rfyL, rfy, hget, ints, take_rfy, plainR_gR, Int.toNat_zero, Int.toNat_one]); (next => simp [plainL, plain, plainR, plainR_gR, Int.toNat_zero, Int.toNat_one]))
      | omega)
    all_goals first | rfl
  | some x =>
    obtain ⟨q, m⟩ := x
    by_cases hq : q = []
    · subst hq
      have eR : polR (some ([], m)) = .agg [.sl true 0 [], i64 m, bl true] := rfl
      have eH : polH (some ([], m)) = [] := rfl
      have eS : shR (some ([], m)) = .tup [.sl true 0 [], i64 m, i64 0] := rfl
      rw [eR, eH] at h66
      rw [eS, eH]
      clear eR eH eS
      unfold c16
      repeat' (first
        | ((with_reducible refine T_calm ?_ ?_); rfl)
        | with_reducible first
          | refine T_seq ?_
          | refine T_reg ?_
          | refine T_draw ?_
          | refine T_skip ?_
          | refine T_exit ?_
          | refine T_block ?_
          | refine T_cond_t rfl ?_
          | refine T_cond_f rfl ?_
          | refine wdW_cons rfl ?_
          | (show wcall _ false (.lit (.func (.func 65) _ _)) _ _ _ _; refine wcall_fn (h65) rfl (by simp [plainL, plain, plainR_gR]) ?_)
          | (show wcallX _ false (.lit (.func (.func 65) _ _)) _ _ _ _; refine wcallX_fn (h65) rfl (by simp [plainL, plain, plainR, plainR_gR, Int.toNat_zero, Int.toNat_one]) ?_)
          | (show wcall _ false (.lit (.func (.func 66) _ _)) _ _ _ _; refine wcall_fn (h66) rfl (by simp [plainL, plain, plainR_gR]) ?_)
          | (show wcallX _ false (.lit (.func (.func 66) _ _)) _ _ _ _; refine wcallX_fn (h66) rfl (by simp [plainL, plain, plainR, plainR_gR, Int.toNat_zero, Int.toNat_one]) ?_)
          | ((first | refine T_cond rfl (fun hc => ?_) (fun hc => ?_) | refine wguard_split (fun hc => ?_) (fun hc => ?_) | refine wguardX_split (fun hc => ?_) (fun hc => ?_)) <;> have hd := hc <;> (try simp (disch := omega) only [wrapI] at hd) <;> have hs := hd <;> (try simp only [Bool.not_eq_true', Bool.not_eq_false', Bool.and_eq_true, Bool.and_eq_false_iff, Bool.or_eq_true, Bool.or_eq_false_iff, decide_eq_true_eq, decide_eq_false_iff_not, beq_iff_eq, bne_iff_ne, beq_eq_false_iff_ne, bne_eq_false_iff_eq, Bool.not_true, Bool.not_false, gt_iff_lt, ge_iff_le, Int.not_lt, Int.not_le, ne_eq, Decidable.not_not] at hd) <;> (try simp at hs))
          | refine T_ret ?_
          | refine leave_of (.inr rfl) _ rfl ?_
          | refine leave_of (.inl rfl) _ rfl ?_
          | refine leaveA_of (.inr rfl) _ rfl ?_
          | refine leaveA_of (.inl rfl) _ rfl ?_
          | refine wif_intro ?_ (fun hc => ?_)
          | refine And.intro ?_ ?_
          | intro hc
        | simp (maxSteps := 4000000) only [wops_nil, wops_cons, wstep_none, wrun_call, wrun_mv, wrun_bin, wrun_not, wrun_load, wrun_store, wrun_faddr, wrun_iaddrA, wrun_alloc, wrun_box, get_mk, wop, aop, ev, look, put_some, put_none, writes, ores_some, ores_ite_none, binV, thenK, boolV, value, cut, hget, putCells, AV.parts, isOne, toLits, mkAgg, tupOf, ofValue_int, List.map_cons, List.map_nil, List.length_cons, List.length_nil, List.getElem?_cons_zero, List.getElem?_cons_succ, List.set_cons_zero, List.set_cons_succ, List.take_succ_cons, List.take_zero, List.take_nil, List.drop_succ_cons, List.drop_zero, List.drop_nil, List.cons_append, List.nil_append, List.append_nil, List.append_assoc, List.replicate_zero, List.replicate_succ, List.getD_cons_zero, List.zipIdx_cons, List.zipIdx_nil, List.all_cons, List.all_nil, Option.getD_some, Option.map_some, if_true, if_false, Nat.reduceEqDiff, Nat.reduceAdd, Nat.reduceLT, Nat.add_zero, Nat.zero_add, Nat.mul_one, Nat.le_refl, Nat.zero_ne_one, reduceCtorEq, Bool.not_true, Bool.and_true, Bool.false_eq_true, eq_self, true_and, and_self, freeze, lidsL, lids, List.flatMap_cons, List.flatMap_nil, List.all_cons, ren, renL, renR, Int.toNat_zero, Int.toNat_one, *]
        | simp (disch := omega) only [getD_ints, wrapI]
        | (with_reducible show wcall _ false (.lit (.func (.func 65) _ _)) _ _ _ _; refine wcall_fn (h65) ?_ ?_ ?_; (next => simp [rfyL, rfy, hget, ints, take_rfy, plainR_gR, Int.toNat_zero, Int.toNat_one]); (next => simp [plainL, plain, plainR, plainR_gR, Int.toNat_zero, Int.toNat_one]))
        | (with_reducible show wcallX _ false (.lit (.func (.func 65) _ _)) _ _ _ _; refine wcallX_fn (h65) ?_ ?_ ?_; (next => simp [rfyL, rfy, hget, ints, take_rfy, plainR_gR, Int.toNat_zero, Int.toNat_one]); (next => simp [plainL, plain, plainR, plainR_gR, Int.toNat_zero, Int.toNat_one]))
        | (with_reducible show wcall _ false (.lit (.func (.func 66) _ _)) _ _ _ _; refine wcall_fn (h66) ?_ ?_ ?_; (next => simp [rfyL, rfy, hget, ints, take_rfy, plainR_gR, Int.toNat_zero, Int.toNat_one]); (next => simp [plainL, plain, plainR, plainR_gR, Int.toNat_zero, Int.toNat_one]))
        | (with_reducible show wcallX _ false (.lit (.func (.func 66) _ _)) _ _ _ _; refine wcallX_fn (h66) ?_ ?_ ?_; (next => simp [rfyL, rfy, hget, ints, take_rfy, plainR_gR, Int.toNat_zero, Int.toNat_one]); (next => simp [plainL, plain, plainR, plainR_gR, Int.toNat_zero, Int.toNat_one]))
        | omega)
      all_goals first | rfl
    · have hql : (q.map fun x => [i64 x]).length = q.length := by simp
      rw [polR_ne hq, polH_ne hq] at h66
      rw [shR_ne hq, polH_ne hq]
      clear hq
      unfold c16
      repeat' (first
        | ((with_reducible refine T_calm ?_ ?_); rfl)
        | with_reducible first
          | refine T_seq ?_
          | refine T_reg ?_
          | refine T_draw ?_
          | refine T_skip ?_
          | refine T_exit ?_
          | refine T_block ?_
          | refine T_cond_t rfl ?_
          | refine T_cond_f rfl ?_
          | refine wdW_cons rfl ?_
          | (show wcall _ false (.lit (.func (.func 65) _ _)) _ _ _ _; refine wcall_fn (h65) rfl (by simp [plainL, plain, plainR_gR]) ?_)
          | (show wcallX _ false (.lit (.func (.func 65) _ _)) _ _ _ _; refine wcallX_fn (h65) rfl (by simp [plainL, plain, plainR, plainR_gR, Int.toNat_zero, Int.toNat_one]) ?_)
          | (show wcall _ false (.lit (.func (.func 66) _ _)) _ _ _ _; refine wcall_fn (h66) rfl (by simp [plainL, plain, plainR_gR]) ?_)
          | (show wcallX _ false (.lit (.func (.func 66) _ _)) _ _ _ _; refine wcallX_fn (h66) rfl (by simp [plainL, plain, plainR, plainR_gR, Int.toNat_zero, Int.toNat_one]) ?_)
          | ((first | refine T_cond rfl (fun hc => ?_) (fun hc => ?_) | refine wguard_split (fun hc => ?_) (fun hc => ?_) | refine wguardX_split (fun hc => ?_) (fun hc => ?_)) <;> have hd := hc <;> (try simp (disch := omega) only [wrapI] at hd) <;> have hs := hd <;> (try simp only [Bool.not_eq_true', Bool.not_eq_false', Bool.and_eq_true, Bool.and_eq_false_iff, Bool.or_eq_true, Bool.or_eq_false_iff, decide_eq_true_eq, decide_eq_false_iff_not, beq_iff_eq, bne_iff_ne, beq_eq_false_iff_ne, bne_eq_false_iff_eq, Bool.not_true, Bool.not_false, gt_iff_lt, ge_iff_le, Int.not_lt, Int.not_le, ne_eq, Decidable.not_not] at hd) <;> (try simp at hs))
          | refine T_ret ?_
          | refine leave_ids (.inr rfl) _ [2] rfl (by simp) (by simp) ?_
          | refine leave_ids (.inl rfl) _ [2] rfl (by simp) (by simp) ?_
          | refine leaveA_of (.inr rfl) _ rfl ?_
          | refine leaveA_of (.inl rfl) _ rfl ?_
          | refine wif_intro ?_ (fun hc => ?_)
          | refine And.intro ?_ ?_
          | intro hc
        | simp (maxSteps := 4000000) only [wops_nil, wops_cons, wstep_none, wrun_call, wrun_mv, wrun_bin, wrun_not, wrun_load, wrun_store, wrun_faddr, wrun_iaddrA, wrun_alloc, wrun_box, get_mk, wop, aop, ev, look, put_some, put_none, writes, ores_some, ores_ite_none, binV, thenK, boolV, value, cut, hget, putCells, AV.parts, isOne, toLits, mkAgg, tupOf, ofValue_int, List.map_cons, List.map_nil, List.length_cons, List.length_nil, List.getElem?_cons_zero, List.getElem?_cons_succ, List.set_cons_zero, List.set_cons_succ, List.take_succ_cons, List.take_zero, List.take_nil, List.drop_succ_cons, List.drop_zero, List.drop_nil, List.cons_append, List.nil_append, List.append_nil, List.append_assoc, List.replicate_zero, List.replicate_succ, List.getD_cons_zero, List.zipIdx_cons, List.zipIdx_nil, List.all_cons, List.all_nil, Option.getD_some, Option.map_some, Option.map_none, if_true, if_false, Nat.reduceEqDiff, Nat.reduceAdd, Nat.reduceLT, Nat.add_zero, Nat.zero_add, Nat.mul_one, Nat.le_refl, Nat.zero_ne_one, reduceCtorEq, Bool.not_true, Bool.and_true, Bool.false_eq_true, eq_self, true_and, and_self, freeze, lidsL, lids, List.flatMap_cons, List.flatMap_nil, List.all_cons, ren, renL, renB, renO, keepρ, shiftρ, pos, Nat.not_lt_zero, renR_ints, Int.toNat_zero, Int.toNat_one, *]
        | simp (disch := omega) only [getD_ints, wrapI]
        | (with_reducible show wcall _ false (.lit (.func (.func 65) _ _)) _ _ _ _; refine wcall_fn (h65) ?_ ?_ ?_; (next => simp [rfyL, rfy, hget, ints, take_rfy, plainR_gR, Int.toNat_zero, Int.toNat_one]); (next => simp [plainL, plain, plainR, plainR_gR, Int.toNat_zero, Int.toNat_one]))
        | (with_reducible show wcallX _ false (.lit (.func (.func 65) _ _)) _ _ _ _; refine wcallX_fn (h65) ?_ ?_ ?_; (next => simp [rfyL, rfy, hget, ints, take_rfy, plainR_gR, Int.toNat_zero, Int.toNat_one]); (next => simp [plainL, plain, plainR, plainR_gR, Int.toNat_zero, Int.toNat_one]))
        | (with_reducible show wcall _ false (.lit (.func (.func 66) _ _)) _ _ _ _; refine wcall_fn (h66) ?_ ?_ ?_; (next => simp [rfyL, rfy, hget, ints, take_rfy, plainR_gR, Int.toNat_zero, Int.toNat_one]); (next => simp [plainL, plain, plainR, plainR_gR, Int.toNat_zero, Int.toNat_one]))
        | (with_reducible show wcallX _ false (.lit (.func (.func 66) _ _)) _ _ _ _; refine wcallX_fn (h66) ?_ ?_ ?_; (next => simp [rfyL, rfy, hget, ints, take_rfy, plainR_gR, Int.toNat_zero, Int.toNat_one]); (next => simp [plainL, plain, plainR, plainR_gR, Int.toNat_zero, Int.toNat_one]))
        | omega)
      all_goals first | rfl
end Go.Abs
