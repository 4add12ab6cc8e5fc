import Derived.Test.YtodheeifecoebaaK213x
set_option linter.all false
set_option linter.unusedVariables false
set_option linter.unusedSimpArgs false
set_option linter.unusedSectionVars false
namespace Go.Abs
open Go.Proofs
/-! law 16 -/
set_option maxHeartbeats 8000000 in
theorem k16 (zi : Int) (nil : Bool) (l : List Rd) (r : Rd) : Fn Try.prog 16 [i64 zi, rdgs nil l, rdV r] (bl true) [] := by
  refine fn_of e16 ?_
  have h19 := k19
  have h25 := k25 nil l 10
  cases hf : fewB l.length 10 with
  | false =>
    rw [hf] at h25
    clear hf
    unfold c16
    repeat' (first
      | ((with_reducible refine T_calm ?_ ?_); rfl)
      | with_reducible first
        | refine T_seq ?_
        | refine T_reg ?_
        | refine T_draw ?_
        | refine T_skip ?_
        | refine T_exit ?_
        | refine T_block ?_
        | refine T_cond_t rfl ?_
        | refine T_cond_f rfl ?_
        | refine wdW_cons rfl ?_
        | (show wcall _ false (.lit (.func (.func 19) _ _)) _ _ _ _; refine wcall_fn (h19) rfl (by simp [plainL]) ?_)
        | (show wcallX _ false (.lit (.func (.func 19) _ _)) _ _ _ _; refine wcallX_fn (h19) rfl (by simp [plainL, plain, plainR]) ?_)
        | (show wcall _ false (.lit (.func (.func 25) _ _)) _ _ _ _; refine wcall_fn (h25) rfl (by simp [plainL, plain]) ?_)
        | (show wcallX _ false (.lit (.func (.func 25) _ _)) _ _ _ _; refine wcallX_fn (h25) rfl (by simp [plainL, plain, plainR]) ?_)
        | ((first | refine T_cond rfl (fun hc => ?_) (fun hc => ?_) | refine wguard_split (fun hc => ?_) (fun hc => ?_) | refine wguardX_split (fun hc => ?_) (fun hc => ?_)) <;> have hd := hc <;> (try simp (disch := omega) only [wrapI] at hd) <;> have hs := hd <;> (try simp only [Bool.not_eq_true', Bool.not_eq_false', Bool.and_eq_true, Bool.and_eq_false_iff, Bool.or_eq_true, Bool.or_eq_false_iff, decide_eq_true_eq, decide_eq_false_iff_not, beq_iff_eq, bne_iff_ne, beq_eq_false_iff_ne, bne_eq_false_iff_eq, Bool.not_true, Bool.not_false, gt_iff_lt, ge_iff_le, Int.not_lt, Int.not_le, ne_eq, Decidable.not_not] at hd) <;> (try simp at hs))
        | refine T_ret ?_
        | refine leave_of (.inr rfl) _ rfl ?_
        | refine leave_of (.inl rfl) _ rfl ?_
        | refine leaveA_of (.inr rfl) _ rfl ?_
        | refine leaveA_of (.inl rfl) _ rfl ?_
        | refine wif_intro ?_ (fun hc => ?_)
        | refine And.intro ?_ ?_
        | intro hc
      | simp (maxSteps := 4000000) only [wops_nil, wops_cons, wstep_none, wrun_call, wrun_mv, wrun_not, wrun_box, get_mk, wop, aop, ev, look, put_some, writes, ores_some, thenK, boolV, AV.parts, isOne, tupOf, ofValue_int, List.map_cons, List.map_nil, List.length_cons, List.length_nil, List.getElem?_cons_zero, List.set_cons_zero, List.nil_append, List.append_nil, List.replicate_zero, List.replicate_succ, List.zipIdx_cons, List.zipIdx_nil, List.all_cons, List.all_nil, if_true, if_false, Nat.reduceEqDiff, Nat.reduceAdd, Nat.add_zero, Nat.zero_add, Nat.zero_ne_one, reduceCtorEq, Bool.not_true, Bool.not_false, Bool.and_true, eq_self, true_and, and_self, freeze, lidsL, lids, List.flatMap_cons, List.flatMap_nil, List.all_cons, ren, *]
      | simp (disch := omega) only [getD_ints, wrapI]
      | (with_reducible show wcall _ false (.lit (.func (.func 19) _ _)) _ _ _ _; refine wcall_fn (h19) ?_ ?_ ?_; (next => simp [rfyL, rfy, hget, ints, take_rfy]); (next => simp [plainL, plain, plainR]))
      | (with_reducible show wcallX _ false (.lit (.func (.func 19) _ _)) _ _ _ _; refine wcallX_fn (h19) ?_ ?_ ?_; (next => simp [rfyL, rfy, hget, ints, take_rfy]); (next => simp [plainL, plain, plainR]))
      | (with_reducible show wcall _ false (.lit (.func (.func 25) _ _)) _ _ _ _; refine wcall_fn (h25) ?_ ?_ ?_; (next => simp [rfyL, rfy, hget, ints, take_rfy]); (next => simp [plainL, plain, plainR]))
      | (with_reducible show wcallX _ false (.lit (.func (.func 25) _ _)) _ _ _ _; refine wcallX_fn (h25) ?_ ?_ ?_; (next => simp [rfyL, rfy, hget, ints, take_rfy]); (next => simp [plainL, plain, plainR]))
      | omega)
  | true =>
    rw [hf] at h25
    have hl : l.length < 900000 := by unfold fewB at hf; simp at hf; omega
    clear hf
    have h27 := k27 nil l (by omega)
    have hrl := rows4_len l
    by_cases hc : checkR zi l = 0
    · obtain ⟨hz, hl2, hrd⟩ := checkR_ok hc
      obtain ⟨z, rfl⟩ : ∃ z : Nat, zi = z := ⟨zi.toNat, by omega⟩
      by_cases hcy : ∀ r, r ≤ z → 0 ≤ (rnds (arcsL l l.length) z (r + 1)).at_
      · have h72 := k72c (nil := false) hc hcy
        have h73 := k73c (nil := false) (R := .sl true 0 []) r 13 (by omega) (k132c hc hcy) rfl
        have h49 := k49c (nil := nil) hc hcy
        clear hcy hrd
        unfold c16
        repeat' (first
          | ((with_reducible refine T_calm ?_ ?_); rfl)
          | with_reducible first
            | refine T_seq ?_
            | refine T_reg ?_
            | refine T_draw ?_
            | refine T_skip ?_
            | refine T_exit ?_
            | refine T_block ?_
            | refine T_cond_t rfl ?_
            | refine T_cond_f rfl ?_
            | refine wdW_cons rfl ?_
            | (show wcall _ false (.lit (.func (.func 19) _ _)) _ _ _ _; refine wcall_fn (h19) rfl (by simp [plainL]) ?_)
            | (show wcallX _ false (.lit (.func (.func 19) _ _)) _ _ _ _; refine wcallX_fn (h19) rfl (by simp [plainL, plain, plainR, take_rows4', flat_rows4', freeze1, renR_rows4, rows4_len]) ?_)
            | (show wcall _ false (.lit (.func (.func 25) _ _)) _ _ _ _; refine wcall_fn (h25) rfl (by simp [plainL, plain]) ?_)
            | (show wcallX _ false (.lit (.func (.func 25) _ _)) _ _ _ _; refine wcallX_fn (h25) rfl (by simp [plainL, plain, plainR, take_rows4', flat_rows4', freeze1, renR_rows4, rows4_len]) ?_)
            | (show wcall _ false (.lit (.func (.func 27) _ _)) _ _ _ _; refine wcall_fn (h27) rfl (by simp [plainL, plain]) ?_)
            | (show wcallX _ false (.lit (.func (.func 27) _ _)) _ _ _ _; refine wcallX_fn (h27) rfl (by simp [plainL, plain]) ?_)
            | (show wcall _ false (.lit (.func (.func 72) _ _)) _ _ _ _; refine wcall_fn (h72) rfl (by simp [plainL, plain]) ?_)
            | (show wcallX _ false (.lit (.func (.func 72) _ _)) _ _ _ _; refine wcallX_fn (h72) rfl (by simp [plainL, plain, plainR, take_rows4', flat_rows4', freeze1, renR_rows4, rows4_len]) ?_)
            | (show wcall _ false (.lit (.func (.func 73) _ _)) _ _ _ _; refine wcall_fn (h73) rfl (by simp [plainL, plain, plainR, take_rows4', flat_rows4', freeze1, renR_rows4, rows4_len]) ?_)
            | (show wcallX _ false (.lit (.func (.func 73) _ _)) _ _ _ _; refine wcallX_fn (h73) rfl (by simp [plainL, plain]) ?_)
            | (show wcall _ false (.lit (.func (.func 49) _ _)) _ _ _ _; refine wcall_fn (h49) rfl (by simp [plainL, plain]) ?_)
            | (show wcallX _ false (.lit (.func (.func 49) _ _)) _ _ _ _; refine wcallX_fn (h49) rfl (by simp [plainL, plain, plainR, take_rows4', flat_rows4', freeze1, renR_rows4, rows4_len]) ?_)
            | ((first | refine T_cond rfl (fun hc => ?_) (fun hc => ?_) | refine wguard_split (fun hc => ?_) (fun hc => ?_) | refine wguardX_split (fun hc => ?_) (fun hc => ?_)) <;> have hd := hc <;> (try simp (disch := omega) only [wrapI] at hd) <;> have hs := hd <;> (try simp only [Bool.not_eq_true', Bool.not_eq_false', Bool.and_eq_true, Bool.and_eq_false_iff, Bool.or_eq_true, Bool.or_eq_false_iff, decide_eq_true_eq, decide_eq_false_iff_not, beq_iff_eq, bne_iff_ne, beq_eq_false_iff_ne, bne_eq_false_iff_eq, Bool.not_true, Bool.not_false, gt_iff_lt, ge_iff_le, Int.not_lt, Int.not_le, ne_eq, Decidable.not_not] at hd) <;> (try simp at hs))
            | refine T_ret ?_
            | refine leave_of (.inr rfl) _ rfl ?_
            | refine leave_of (.inl rfl) _ rfl ?_
            | refine leaveA_of (.inr rfl) _ rfl ?_
            | refine leaveA_of (.inl rfl) _ rfl ?_
            | refine wif_intro ?_ (fun hc => ?_)
            | refine And.intro ?_ ?_
            | intro hc
          | simp (maxSteps := 4000000) only [wops_nil, wops_cons, wstep_none, wstep_some, wguard_true, wrun_call, wrun_mv, wrun_pick, wrun_bin, wrun_eqAgg, wrun_not, wrun_ext, wrun_build, wrun_load, wrun_store, wrun_alloc, wrun_box, wrunX_mv, wrunX_ext, wrunX_load, wdW_nil, wstepX_none, wrunX_call, get_mk, wop, aop, ev, look, put_some, put_none, writes, ores_some, binV, thenK, boolV, value, cut, hget, fillA, putCells, AV.parts, isOne, toLits, mkAgg, tupOf, ofValue_int, cellsEq, cellEq, List.map_cons, List.map_nil, List.length_cons, List.length_nil, List.getElem?_cons_zero, List.getElem?_cons_succ, List.set_cons_zero, List.set_cons_succ, List.take_succ_cons, List.take_zero, List.take_nil, List.drop_succ_cons, List.drop_zero, List.drop_nil, List.cons_append, List.nil_append, List.append_nil, List.append_assoc, List.replicate_zero, List.replicate_succ, List.getD_cons_zero, List.zipIdx_cons, List.zipIdx_nil, List.all_cons, List.all_nil, Option.getD_some, Option.map_some, if_true, if_false, Nat.reduceEqDiff, Nat.reduceAdd, Nat.reduceLT, Nat.add_zero, Nat.zero_add, Nat.le_refl, Nat.zero_ne_one, reduceCtorEq, Bool.not_true, Bool.and_true, Bool.false_eq_true, eq_self, true_and, and_self, beq_self_eq_true, freeze, lidsL, lids, List.flatMap_cons, List.flatMap_nil, List.all_cons, ren, renL, renR, renB, shiftρ, flat_rows4', freeze1, renR_rows4, *]
          | simp (disch := omega) only [getD_ints, wrapI]
          | (with_reducible show wcall _ false (.lit (.func (.func 19) _ _)) _ _ _ _; refine wcall_fn (h19) ?_ ?_ ?_; (next => simp [rfyL, rfy, hget, ints, take_rfy, take_rows4', flat_rows4', freeze1, renR_rows4, rows4_len]); (next => simp [plainL, plain, plainR, take_rows4', flat_rows4', freeze1, renR_rows4, rows4_len]))
          | (with_reducible show wcallX _ false (.lit (.func (.func 19) _ _)) _ _ _ _; refine wcallX_fn (h19) ?_ ?_ ?_; (next => simp [rfyL, rfy, hget, ints, take_rfy, take_rows4', flat_rows4', freeze1, renR_rows4, rows4_len]); (next => simp [plainL, plain, plainR, take_rows4', flat_rows4', freeze1, renR_rows4, rows4_len]))
          | (with_reducible show wcall _ false (.lit (.func (.func 25) _ _)) _ _ _ _; refine wcall_fn (h25) ?_ ?_ ?_; (next => simp [rfyL, rfy, hget, ints, take_rfy, take_rows4', flat_rows4', freeze1, renR_rows4, rows4_len]); (next => simp [plainL, plain, plainR, take_rows4', flat_rows4', freeze1, renR_rows4, rows4_len]))
          | (with_reducible show wcallX _ false (.lit (.func (.func 25) _ _)) _ _ _ _; refine wcallX_fn (h25) ?_ ?_ ?_; (next => simp [rfyL, rfy, hget, ints, take_rfy, take_rows4', flat_rows4', freeze1, renR_rows4, rows4_len]); (next => simp [plainL, plain, plainR, take_rows4', flat_rows4', freeze1, renR_rows4, rows4_len]))
          | (with_reducible show wcall _ false (.lit (.func (.func 27) _ _)) _ _ _ _; refine wcall_fn (h27) ?_ ?_ ?_; (next => simp [rfyL, rfy, hget, ints, take_rfy, take_rows4', flat_rows4', freeze1, renR_rows4, rows4_len]); (next => simp [plainL, plain, plainR, take_rows4', flat_rows4', freeze1, renR_rows4, rows4_len]))
          | (with_reducible show wcallX _ false (.lit (.func (.func 27) _ _)) _ _ _ _; refine wcallX_fn (h27) ?_ ?_ ?_; (next => simp [rfyL, rfy, hget, ints, take_rfy, take_rows4', flat_rows4', freeze1, renR_rows4, rows4_len]); (next => simp [plainL, plain, plainR, take_rows4', flat_rows4', freeze1, renR_rows4, rows4_len]))
          | (with_reducible show wcall _ false (.lit (.func (.func 72) _ _)) _ _ _ _; refine wcall_fn (h72) ?_ ?_ ?_; (next => simp [rfyL, rfy, hget, take_rows4', rows4_len]); (next => simp [plainL, plain]))
          | (with_reducible show wcallX _ false (.lit (.func (.func 72) _ _)) _ _ _ _; refine wcallX_fn (h72) ?_ ?_ ?_; (next => simp [rfyL, rfy, hget, ints, take_rfy, take_rows4', flat_rows4', freeze1, renR_rows4, rows4_len]); (next => simp [plainL, plain, plainR, take_rows4', flat_rows4', freeze1, renR_rows4, rows4_len]))
          | (with_reducible show wcall _ false (.lit (.func (.func 73) _ _)) _ _ _ _; refine wcall_fn (h73) ?_ ?_ ?_; (next => simp [rfyL, rfy, hget, ints, take_rfy, take_rows4', flat_rows4', freeze1, renR_rows4, rows4_len]); (next => simp [plainL, plain, plainR, take_rows4', flat_rows4', freeze1, renR_rows4, rows4_len]))
          | (with_reducible show wcallX _ false (.lit (.func (.func 73) _ _)) _ _ _ _; refine wcallX_fn (h73) ?_ ?_ ?_; (next => simp [rfyL, rfy, hget, take_rows4', rows4_len]); (next => simp [plainL, plain]))
          | (with_reducible show wcall _ false (.lit (.func (.func 49) _ _)) _ _ _ _; refine wcall_fn (h49) ?_ ?_ ?_; (next => simp [rfyL, rfy, hget, ints, take_rfy, take_rows4', flat_rows4', freeze1, renR_rows4, rows4_len]); (next => simp [plainL, plain, plainR, take_rows4', flat_rows4', freeze1, renR_rows4, rows4_len]))
          | (with_reducible show wcallX _ false (.lit (.func (.func 49) _ _)) _ _ _ _; refine wcallX_fn (h49) ?_ ?_ ?_; (next => simp [rfyL, rfy, hget, ints, take_rfy, take_rows4', flat_rows4', freeze1, renR_rows4, rows4_len]); (next => simp [plainL, plain, plainR, take_rows4', flat_rows4', freeze1, renR_rows4, rows4_len]))
          | (with_reducible refine wdW_cons ?_ ?_; (next => simp [chk, foot, compatB, argsOf, St.get, target, ev, look, lidsL, lids, hget, kind, wids, tops, opds, topId, take_rows4', flat_rows4', freeze1, renR_rows4, rows4_len]))
          | omega)
        all_goals first | rfl
      · have hr : ∃ r, r ≤ z ∧ (rnds (arcsL l l.length) z (r + 1)).at_ < 0 := by
          rcases Classical.em (∃ r, r ≤ z ∧ (rnds (arcsL l l.length) z (r + 1)).at_ < 0) with h | h
          · exact h
          · exact (hcy fun r hr => by
              rcases Int.lt_or_le (rnds (arcsL l l.length) z (r + 1)).at_ 0 with h2 | h2
              · exact (h ⟨r, hr, h2⟩).elim
              · exact h2).elim
        obtain ⟨k49a, k49b⟩ := k49n (nil := nil) hc hr
        cases hw : ((tabM (arcsL l l.length) z).getD 0 []).any isFar with
        | true =>
          have h72 := k72f (nil := false) hc hr hw
          have h73 := k73c (nil := false) (R := .sl true 0 []) r 25 (by omega) ((k132n hc hr).1 hw) rfl
          have h49 := k49a hw
          clear k49a k49b hw hr hcy hrd
          unfold c16
          repeat' (first
            | ((with_reducible refine T_calm ?_ ?_); rfl)
            | with_reducible first
              | refine T_seq ?_
              | refine T_reg ?_
              | refine T_draw ?_
              | refine T_skip ?_
              | refine T_exit ?_
              | refine T_block ?_
              | refine T_cond_t rfl ?_
              | refine T_cond_f rfl ?_
              | refine wdW_cons rfl ?_
              | (show wcall _ false (.lit (.func (.func 19) _ _)) _ _ _ _; refine wcall_fn (h19) rfl (by simp [plainL]) ?_)
              | (show wcallX _ false (.lit (.func (.func 19) _ _)) _ _ _ _; refine wcallX_fn (h19) rfl (by simp [plainL, plain, plainR, take_rows4', flat_rows4', freeze1, renR_rows4, rows4_len]) ?_)
              | (show wcall _ false (.lit (.func (.func 25) _ _)) _ _ _ _; refine wcall_fn (h25) rfl (by simp [plainL, plain]) ?_)
              | (show wcallX _ false (.lit (.func (.func 25) _ _)) _ _ _ _; refine wcallX_fn (h25) rfl (by simp [plainL, plain, plainR, take_rows4', flat_rows4', freeze1, renR_rows4, rows4_len]) ?_)
              | (show wcall _ false (.lit (.func (.func 27) _ _)) _ _ _ _; refine wcall_fn (h27) rfl (by simp [plainL, plain]) ?_)
              | (show wcallX _ false (.lit (.func (.func 27) _ _)) _ _ _ _; refine wcallX_fn (h27) rfl (by simp [plainL, plain]) ?_)
              | (show wcall _ false (.lit (.func (.func 72) _ _)) _ _ _ _; refine wcall_fn (h72) rfl (by simp [plainL, plain]) ?_)
              | (show wcallX _ false (.lit (.func (.func 72) _ _)) _ _ _ _; refine wcallX_fn (h72) rfl (by simp [plainL, plain, plainR, take_rows4', flat_rows4', freeze1, renR_rows4, rows4_len]) ?_)
              | (show wcall _ false (.lit (.func (.func 73) _ _)) _ _ _ _; refine wcall_fn (h73) rfl (by simp [plainL, plain, plainR, take_rows4', flat_rows4', freeze1, renR_rows4, rows4_len]) ?_)
              | (show wcallX _ false (.lit (.func (.func 73) _ _)) _ _ _ _; refine wcallX_fn (h73) rfl (by simp [plainL, plain]) ?_)
              | (show wcall _ false (.lit (.func (.func 49) _ _)) _ _ _ _; refine wcall_fn (h49) rfl (by simp [plainL, plain]) ?_)
              | (show wcallX _ false (.lit (.func (.func 49) _ _)) _ _ _ _; refine wcallX_fn (h49) rfl (by simp [plainL, plain, plainR, take_rows4', flat_rows4', freeze1, renR_rows4, rows4_len]) ?_)
              | ((first | refine T_cond rfl (fun hc => ?_) (fun hc => ?_) | refine wguard_split (fun hc => ?_) (fun hc => ?_) | refine wguardX_split (fun hc => ?_) (fun hc => ?_)) <;> have hd := hc <;> (try simp (disch := omega) only [wrapI] at hd) <;> have hs := hd <;> (try simp only [Bool.not_eq_true', Bool.not_eq_false', Bool.and_eq_true, Bool.and_eq_false_iff, Bool.or_eq_true, Bool.or_eq_false_iff, decide_eq_true_eq, decide_eq_false_iff_not, beq_iff_eq, bne_iff_ne, beq_eq_false_iff_ne, bne_eq_false_iff_eq, Bool.not_true, Bool.not_false, gt_iff_lt, ge_iff_le, Int.not_lt, Int.not_le, ne_eq, Decidable.not_not] at hd) <;> (try simp at hs))
              | refine T_ret ?_
              | refine leave_of (.inr rfl) _ rfl ?_
              | refine leave_of (.inl rfl) _ rfl ?_
              | refine leaveA_of (.inr rfl) _ rfl ?_
              | refine leaveA_of (.inl rfl) _ rfl ?_
              | refine wif_intro ?_ (fun hc => ?_)
              | refine And.intro ?_ ?_
              | intro hc
            | simp (maxSteps := 4000000) only [wops_nil, wops_cons, wstep_none, wstep_some, wguard_true, wrun_call, wrun_mv, wrun_pick, wrun_bin, wrun_eqAgg, wrun_not, wrun_ext, wrun_build, wrun_load, wrun_store, wrun_alloc, wrun_box, wrunX_mv, wrunX_ext, wrunX_load, wdW_nil, wstepX_none, wrunX_call, get_mk, wop, aop, ev, look, put_some, put_none, writes, ores_some, binV, thenK, boolV, value, cut, hget, fillA, putCells, AV.parts, isOne, toLits, mkAgg, tupOf, ofValue_int, cellsEq, cellEq, List.map_cons, List.map_nil, List.length_cons, List.length_nil, List.getElem?_cons_zero, List.getElem?_cons_succ, List.set_cons_zero, List.set_cons_succ, List.take_succ_cons, List.take_zero, List.take_nil, List.drop_succ_cons, List.drop_zero, List.drop_nil, List.cons_append, List.nil_append, List.append_nil, List.append_assoc, List.replicate_zero, List.replicate_succ, List.getD_cons_zero, List.zipIdx_cons, List.zipIdx_nil, List.all_cons, List.all_nil, Option.getD_some, Option.map_some, if_true, if_false, Nat.reduceEqDiff, Nat.reduceAdd, Nat.reduceLT, Nat.add_zero, Nat.zero_add, Nat.le_refl, Nat.zero_ne_one, reduceCtorEq, Bool.not_true, Bool.and_true, Bool.false_eq_true, eq_self, true_and, and_self, beq_self_eq_true, freeze, lidsL, lids, List.flatMap_cons, List.flatMap_nil, List.all_cons, ren, renL, renR, renB, shiftρ, flat_rows4', freeze1, renR_rows4, *]
            | simp (disch := omega) only [getD_ints, wrapI]
            | (with_reducible show wcall _ false (.lit (.func (.func 19) _ _)) _ _ _ _; refine wcall_fn (h19) ?_ ?_ ?_; (next => simp [rfyL, rfy, hget, ints, take_rfy, take_rows4', flat_rows4', freeze1, renR_rows4, rows4_len]); (next => simp [plainL, plain, plainR, take_rows4', flat_rows4', freeze1, renR_rows4, rows4_len]))
            | (with_reducible show wcallX _ false (.lit (.func (.func 19) _ _)) _ _ _ _; refine wcallX_fn (h19) ?_ ?_ ?_; (next => simp [rfyL, rfy, hget, ints, take_rfy, take_rows4', flat_rows4', freeze1, renR_rows4, rows4_len]); (next => simp [plainL, plain, plainR, take_rows4', flat_rows4', freeze1, renR_rows4, rows4_len]))
            | (with_reducible show wcall _ false (.lit (.func (.func 25) _ _)) _ _ _ _; refine wcall_fn (h25) ?_ ?_ ?_; (next => simp [rfyL, rfy, hget, ints, take_rfy, take_rows4', flat_rows4', freeze1, renR_rows4, rows4_len]); (next => simp [plainL, plain, plainR, take_rows4', flat_rows4', freeze1, renR_rows4, rows4_len]))
            | (with_reducible show wcallX _ false (.lit (.func (.func 25) _ _)) _ _ _ _; refine wcallX_fn (h25) ?_ ?_ ?_; (next => simp [rfyL, rfy, hget, ints, take_rfy, take_rows4', flat_rows4', freeze1, renR_rows4, rows4_len]); (next => simp [plainL, plain, plainR, take_rows4', flat_rows4', freeze1, renR_rows4, rows4_len]))
            | (with_reducible show wcall _ false (.lit (.func (.func 27) _ _)) _ _ _ _; refine wcall_fn (h27) ?_ ?_ ?_; (next => simp [rfyL, rfy, hget, ints, take_rfy, take_rows4', flat_rows4', freeze1, renR_rows4, rows4_len]); (next => simp [plainL, plain, plainR, take_rows4', flat_rows4', freeze1, renR_rows4, rows4_len]))
            | (with_reducible show wcallX _ false (.lit (.func (.func 27) _ _)) _ _ _ _; refine wcallX_fn (h27) ?_ ?_ ?_; (next => simp [rfyL, rfy, hget, ints, take_rfy, take_rows4', flat_rows4', freeze1, renR_rows4, rows4_len]); (next => simp [plainL, plain, plainR, take_rows4', flat_rows4', freeze1, renR_rows4, rows4_len]))
            | (with_reducible show wcall _ false (.lit (.func (.func 72) _ _)) _ _ _ _; refine wcall_fn (h72) ?_ ?_ ?_; (next => simp [rfyL, rfy, hget, take_rows4', rows4_len]); (next => simp [plainL, plain]))
            | (with_reducible show wcallX _ false (.lit (.func (.func 72) _ _)) _ _ _ _; refine wcallX_fn (h72) ?_ ?_ ?_; (next => simp [rfyL, rfy, hget, ints, take_rfy, take_rows4', flat_rows4', freeze1, renR_rows4, rows4_len]); (next => simp [plainL, plain, plainR, take_rows4', flat_rows4', freeze1, renR_rows4, rows4_len]))
            | (with_reducible show wcall _ false (.lit (.func (.func 73) _ _)) _ _ _ _; refine wcall_fn (h73) ?_ ?_ ?_; (next => simp [rfyL, rfy, hget, ints, take_rfy, take_rows4', flat_rows4', freeze1, renR_rows4, rows4_len]); (next => simp [plainL, plain, plainR, take_rows4', flat_rows4', freeze1, renR_rows4, rows4_len]))
            | (with_reducible show wcallX _ false (.lit (.func (.func 73) _ _)) _ _ _ _; refine wcallX_fn (h73) ?_ ?_ ?_; (next => simp [rfyL, rfy, hget, take_rows4', rows4_len]); (next => simp [plainL, plain]))
            | (with_reducible show wcall _ false (.lit (.func (.func 49) _ _)) _ _ _ _; refine wcall_fn (h49) ?_ ?_ ?_; (next => simp [rfyL, rfy, hget, ints, take_rfy, take_rows4', flat_rows4', freeze1, renR_rows4, rows4_len]); (next => simp [plainL, plain, plainR, take_rows4', flat_rows4', freeze1, renR_rows4, rows4_len]))
            | (with_reducible show wcallX _ false (.lit (.func (.func 49) _ _)) _ _ _ _; refine wcallX_fn (h49) ?_ ?_ ?_; (next => simp [rfyL, rfy, hget, ints, take_rfy, take_rows4', flat_rows4', freeze1, renR_rows4, rows4_len]); (next => simp [plainL, plain, plainR, take_rows4', flat_rows4', freeze1, renR_rows4, rows4_len]))
            | (with_reducible refine wdW_cons ?_ ?_; (next => simp [chk, foot, compatB, argsOf, St.get, target, ev, look, lidsL, lids, hget, kind, wids, tops, opds, topId, take_rows4', flat_rows4', freeze1, renR_rows4, rows4_len]))
            | omega)
          all_goals first | rfl
        | false =>
          have h49 := k49b hw
          have h70 := (k70 (nil := nil) hc).1 hr
          have h29 := k29 z nil l (by omega)
          rw [hc] at h29
          have hfin := all_fin hc hr hw
          have h132 := (k132n (nil := false) hc hr).2 hw
          obtain ⟨hA, hN, hok⟩ := arcs_ok hrd
          have hn : (arcsL l l.length).length ≤ 200 := by have := arcsL_len l l.length; omega
          obtain ⟨P, hP1, hP2⟩ := rest_bound hA hn hr (by omega)
          have hM : Sq z (tabM (arcsL l l.length) z) := (tab_stt hA hN (by omega) hP1 hP2).sq
          have hfar : far = 1099511627776 := rfl
          have hid := toR_id hM fun i j hi hj => by have := hfin i j hi hj; omega
          have g49 := tbG hM (by rw [hid] at h49; exact h49)
          -- what Gain and AddReading say
          have hml : (l ++ [r]).length = l.length + 1 := by simp
          have h29m := k29 z false (l ++ [r]) (by omega)
          have k134 := k134n (z := z) r hl hc hr
          have goal : ∀ (n f e75 : Int) (w13 : AV) (M' : List (List Int)), Fn Try.prog 73 [i64 z, rdgs false l, rdV r] (.tup [i64 n, i64 f]) [] → Gv 6 Try.prog 75 [i64 z, rdgs nil l, rdV r] [w13, i64 e75] →
              ((e75 ≠ 0 ∧ n = 0 ∧ f = e75) ∨ (e75 = 0 ∧ f = 0 ∧ w13 = rdgs false (l ++ [r]) ∧ Sq z M' ∧ (∀ i j, i < z → j < z → -41000000 ≤ mget M' i j ∧ mget M' i j ≤ 41000000) ∧ Gv 6 Try.prog 70 [i64 z, rdgs false (l ++ [r])] [tblV M', bl true] ∧ n = wsum (encD (tabM (arcsL l l.length) z) z) z - wsum (encD M' z) z ∧ 0 ≤ n)) →
              T none Try.prog muts 125 0 c16 ⟨([i64 z, rdgs nil l, rdV r].zipIdx 0).map fun (x : AV × Nat) => (x.2, x.1), []⟩ (leave 0 [ARes.tmp 6] fun r' H' => r' = bl true ∧ H' = []) := by
            intro n f e75 w13 M' h73 g75 hcase
            by_cases hz1 : z = 1
            · subst hz1
              have h72 := k72o (nil := false) hc hr hw
              have hm := k16m (e72 := 12) (p1 := 0) (p2 := 0) (by omega) hM hfin g49 (.inl ⟨rfl, rfl, rfl, rfl⟩) g75 hcase
              clear k49a k49b hw hr hcy hrd h49 h70 h29 hfin h132 hA hN hok hn hP1 hP2 hM hid g49 h29m k134 g75 hcase
              replace hm := And.intro hm trivial
              rw [c16_cut]
              repeat' (first
                | ((with_reducible refine T_calm ?_ ?_); rfl)
                | with_reducible first
                  | refine T_seq ?_
                  | refine T_reg ?_
                  | refine T_draw ?_
                  | refine T_skip ?_
                  | refine T_exit ?_
                  | refine T_block ?_
                  | refine T_cond_t rfl ?_
                  | refine T_cond_f rfl ?_
                  | refine wdW_cons rfl ?_
                  | (show wcall _ false (.lit (.func (.func 19) _ _)) _ _ _ _; refine wcall_fn (h19) rfl (by simp [plainL]) ?_)
                  | (show wcallX _ false (.lit (.func (.func 19) _ _)) _ _ _ _; refine wcallX_fn (h19) rfl (by simp [plainL, plain, plainR, take_rows4', flat_rows4', freeze1, renR_rows4, rows4_len]) ?_)
                  | (show wcall _ false (.lit (.func (.func 25) _ _)) _ _ _ _; refine wcall_fn (h25) rfl (by simp [plainL, plain]) ?_)
                  | (show wcallX _ false (.lit (.func (.func 25) _ _)) _ _ _ _; refine wcallX_fn (h25) rfl (by simp [plainL, plain, plainR, take_rows4', flat_rows4', freeze1, renR_rows4, rows4_len]) ?_)
                  | (show wcall _ false (.lit (.func (.func 27) _ _)) _ _ _ _; refine wcall_fn (h27) rfl (by simp [plainL, plain]) ?_)
                  | (show wcallX _ false (.lit (.func (.func 27) _ _)) _ _ _ _; refine wcallX_fn (h27) rfl (by simp [plainL, plain]) ?_)
                  | (show wcall _ false (.lit (.func (.func 72) _ _)) _ _ _ _; refine wcall_fn (h72) rfl (by simp [plainL, plain]) ?_)
                  | (show wcallX _ false (.lit (.func (.func 72) _ _)) _ _ _ _; refine wcallX_fn (h72) rfl (by simp [plainL, plain, plainR, take_rows4', flat_rows4', freeze1, renR_rows4, rows4_len]) ?_)
                  | (show wcall _ false (.lit (.func (.func 73) _ _)) _ _ _ _; refine wcall_fn (h73) rfl (by simp [plainL, plain, plainR, take_rows4', flat_rows4', freeze1, renR_rows4, rows4_len]) ?_)
                  | (show wcallX _ false (.lit (.func (.func 73) _ _)) _ _ _ _; refine wcallX_fn (h73) rfl (by simp [plainL, plain]) ?_)
                  | ((first | refine T_cond rfl (fun hc => ?_) (fun hc => ?_) | refine wguard_split (fun hc => ?_) (fun hc => ?_) | refine wguardX_split (fun hc => ?_) (fun hc => ?_)) <;> have hd := hc <;> (try simp (disch := omega) only [wrapI] at hd) <;> have hs := hd <;> (try simp only [Bool.not_eq_true', Bool.not_eq_false', Bool.and_eq_true, Bool.and_eq_false_iff, Bool.or_eq_true, Bool.or_eq_false_iff, decide_eq_true_eq, decide_eq_false_iff_not, beq_iff_eq, bne_iff_ne, beq_eq_false_iff_ne, bne_eq_false_iff_eq, Bool.not_true, Bool.not_false, gt_iff_lt, ge_iff_le, Int.not_lt, Int.not_le, ne_eq, Decidable.not_not] at hd) <;> (try simp at hs))
                  | refine T_ret ?_
                  | refine leave_of (.inr rfl) _ rfl ?_
                  | refine leave_of (.inl rfl) _ rfl ?_
                  | refine leaveA_of (.inr rfl) _ rfl ?_
                  | refine leaveA_of (.inl rfl) _ rfl ?_
                  | refine wif_intro ?_ (fun hc => ?_)
                  | refine And.intro ?_ ?_
                  | intro hc
                | simp (maxSteps := 4000000) only [wops_nil, wops_cons, wstep_none, wrun_call, wrun_mv, wrun_not, wrun_ext, wrun_load, wrun_store, wrun_alloc, wrun_box, wrunX_mv, wrunX_ext, wrunX_load, wdW_nil, wstepX_none, wrunX_call, wop, aop, ev, look, put_some, put_none, writes, ores_some, thenK, boolV, value, cut, hget, putCells, AV.parts, isOne, toLits, mkAgg, ofValue_int, List.map_cons, List.map_nil, List.length_cons, List.length_nil, List.getElem?_cons_zero, List.getElem?_cons_succ, List.set_cons_zero, List.set_cons_succ, List.take_succ_cons, List.take_zero, List.take_nil, List.drop_succ_cons, List.drop_zero, List.drop_nil, List.cons_append, List.nil_append, List.append_nil, List.append_assoc, List.replicate_zero, List.replicate_succ, List.getD_cons_zero, List.zipIdx_cons, List.zipIdx_nil, List.all_cons, List.all_nil, Option.getD_some, Option.map_some, if_true, if_false, Nat.reduceEqDiff, Nat.reduceAdd, Nat.reduceLT, Nat.add_zero, Nat.zero_add, Nat.le_refl, Nat.zero_ne_one, reduceCtorEq, Bool.not_true, Bool.and_true, eq_self, true_and, and_self, freeze, lidsL, lids, List.flatMap_cons, List.flatMap_nil, List.all_cons, ren, renL, renB, shiftρ, flat_rows4', freeze1, renR_rows4, *]
                | simp (disch := omega) only [getD_ints, wrapI]
                | (with_reducible show wcall _ false (.lit (.func (.func 19) _ _)) _ _ _ _; refine wcall_fn (h19) ?_ ?_ ?_; (next => simp [rfyL, rfy, hget, ints, take_rfy, take_rows4', flat_rows4', freeze1, renR_rows4, rows4_len]); (next => simp [plainL, plain, plainR, take_rows4', flat_rows4', freeze1, renR_rows4, rows4_len]))
                | (with_reducible show wcallX _ false (.lit (.func (.func 19) _ _)) _ _ _ _; refine wcallX_fn (h19) ?_ ?_ ?_; (next => simp [rfyL, rfy, hget, ints, take_rfy, take_rows4', flat_rows4', freeze1, renR_rows4, rows4_len]); (next => simp [plainL, plain, plainR, take_rows4', flat_rows4', freeze1, renR_rows4, rows4_len]))
                | (with_reducible show wcall _ false (.lit (.func (.func 25) _ _)) _ _ _ _; refine wcall_fn (h25) ?_ ?_ ?_; (next => simp [rfyL, rfy, hget, ints, take_rfy, take_rows4', flat_rows4', freeze1, renR_rows4, rows4_len]); (next => simp [plainL, plain, plainR, take_rows4', flat_rows4', freeze1, renR_rows4, rows4_len]))
                | (with_reducible show wcallX _ false (.lit (.func (.func 25) _ _)) _ _ _ _; refine wcallX_fn (h25) ?_ ?_ ?_; (next => simp [rfyL, rfy, hget, ints, take_rfy, take_rows4', flat_rows4', freeze1, renR_rows4, rows4_len]); (next => simp [plainL, plain, plainR, take_rows4', flat_rows4', freeze1, renR_rows4, rows4_len]))
                | (with_reducible show wcall _ false (.lit (.func (.func 27) _ _)) _ _ _ _; refine wcall_fn (h27) ?_ ?_ ?_; (next => simp [rfyL, rfy, hget, ints, take_rfy, take_rows4', flat_rows4', freeze1, renR_rows4, rows4_len]); (next => simp [plainL, plain, plainR, take_rows4', flat_rows4', freeze1, renR_rows4, rows4_len]))
                | (with_reducible show wcallX _ false (.lit (.func (.func 27) _ _)) _ _ _ _; refine wcallX_fn (h27) ?_ ?_ ?_; (next => simp [rfyL, rfy, hget, ints, take_rfy, take_rows4', flat_rows4', freeze1, renR_rows4, rows4_len]); (next => simp [plainL, plain, plainR, take_rows4', flat_rows4', freeze1, renR_rows4, rows4_len]))
                | (with_reducible show wcall _ false (.lit (.func (.func 72) _ _)) _ _ _ _; refine wcall_fn (h72) ?_ ?_ ?_; (next => simp [rfyL, rfy, hget, take_rows4', rows4_len]); (next => simp [plainL, plain]))
                | (with_reducible show wcallX _ false (.lit (.func (.func 72) _ _)) _ _ _ _; refine wcallX_fn (h72) ?_ ?_ ?_; (next => simp [rfyL, rfy, hget, ints, take_rfy, take_rows4', flat_rows4', freeze1, renR_rows4, rows4_len]); (next => simp [plainL, plain, plainR, take_rows4', flat_rows4', freeze1, renR_rows4, rows4_len]))
                | (with_reducible show wcall _ false (.lit (.func (.func 73) _ _)) _ _ _ _; refine wcall_fn (h73) ?_ ?_ ?_; (next => simp [rfyL, rfy, hget, ints, take_rfy, take_rows4', flat_rows4', freeze1, renR_rows4, rows4_len]); (next => simp [plainL, plain, plainR, take_rows4', flat_rows4', freeze1, renR_rows4, rows4_len]))
                | (with_reducible show wcallX _ false (.lit (.func (.func 73) _ _)) _ _ _ _; refine wcallX_fn (h73) ?_ ?_ ?_; (next => simp [rfyL, rfy, hget, take_rows4', rows4_len]); (next => simp [plainL, plain]))
                | (with_reducible refine wdW_cons ?_ ?_; (next => simp [chk, foot, compatB, argsOf, St.get, target, ev, look, lidsL, lids, hget, kind, wids, tops, opds, topId, take_rows4', flat_rows4', freeze1, renR_rows4, rows4_len]))
                | omega)
              refine T_keep [0, 1, 5, 7, 8, 9, 10] [0, 1] ?_ ?_ ?_ hm.1
              all_goals first | (simp; done) | (simp [St.keep, get_mk, look, ren, renL, renR, renB, renO, keepρ, pos, hget, renR_rows4]; done)
            · have h72 := k72n (nil := false) (by omega) hc hr hw
              have hm := k16m (e72 := 0) (p1 := (wOut (tabM (arcsL l l.length) z) z z).1) (p2 := (wOut (tabM (arcsL l l.length) z) z z).2) (by omega) hM hfin g49 (.inr ⟨by omega, rfl, rfl, rfl⟩) g75 hcase
              clear k49a k49b hw hr hcy hrd h49 h70 h29 hfin h132 hA hN hok hn hP1 hP2 hM hid g49 h29m k134 g75 hcase
              replace hm := And.intro hm trivial
              rw [c16_cut]
              repeat' (first
                | ((with_reducible refine T_calm ?_ ?_); rfl)
                | with_reducible first
                  | refine T_seq ?_
                  | refine T_reg ?_
                  | refine T_draw ?_
                  | refine T_skip ?_
                  | refine T_exit ?_
                  | refine T_block ?_
                  | refine T_cond_t rfl ?_
                  | refine T_cond_f rfl ?_
                  | refine wdW_cons rfl ?_
                  | (show wcall _ false (.lit (.func (.func 19) _ _)) _ _ _ _; refine wcall_fn (h19) rfl (by simp [plainL]) ?_)
                  | (show wcallX _ false (.lit (.func (.func 19) _ _)) _ _ _ _; refine wcallX_fn (h19) rfl (by simp [plainL, plain, plainR, take_rows4', flat_rows4', freeze1, renR_rows4, rows4_len]) ?_)
                  | (show wcall _ false (.lit (.func (.func 25) _ _)) _ _ _ _; refine wcall_fn (h25) rfl (by simp [plainL, plain]) ?_)
                  | (show wcallX _ false (.lit (.func (.func 25) _ _)) _ _ _ _; refine wcallX_fn (h25) rfl (by simp [plainL, plain, plainR, take_rows4', flat_rows4', freeze1, renR_rows4, rows4_len]) ?_)
                  | (show wcall _ false (.lit (.func (.func 27) _ _)) _ _ _ _; refine wcall_fn (h27) rfl (by simp [plainL, plain]) ?_)
                  | (show wcallX _ false (.lit (.func (.func 27) _ _)) _ _ _ _; refine wcallX_fn (h27) rfl (by simp [plainL, plain]) ?_)
                  | (show wcall _ false (.lit (.func (.func 72) _ _)) _ _ _ _; refine wcall_fn (h72) rfl (by simp [plainL, plain]) ?_)
                  | (show wcallX _ false (.lit (.func (.func 72) _ _)) _ _ _ _; refine wcallX_fn (h72) rfl (by simp [plainL, plain, plainR, take_rows4', flat_rows4', freeze1, renR_rows4, rows4_len]) ?_)
                  | (show wcall _ false (.lit (.func (.func 73) _ _)) _ _ _ _; refine wcall_fn (h73) rfl (by simp [plainL, plain, plainR, take_rows4', flat_rows4', freeze1, renR_rows4, rows4_len]) ?_)
                  | (show wcallX _ false (.lit (.func (.func 73) _ _)) _ _ _ _; refine wcallX_fn (h73) rfl (by simp [plainL, plain]) ?_)
                  | ((first | refine T_cond rfl (fun hc => ?_) (fun hc => ?_) | refine wguard_split (fun hc => ?_) (fun hc => ?_) | refine wguardX_split (fun hc => ?_) (fun hc => ?_)) <;> have hd := hc <;> (try simp (disch := omega) only [wrapI] at hd) <;> have hs := hd <;> (try simp only [Bool.not_eq_true', Bool.not_eq_false', Bool.and_eq_true, Bool.and_eq_false_iff, Bool.or_eq_true, Bool.or_eq_false_iff, decide_eq_true_eq, decide_eq_false_iff_not, beq_iff_eq, bne_iff_ne, beq_eq_false_iff_ne, bne_eq_false_iff_eq, Bool.not_true, Bool.not_false, gt_iff_lt, ge_iff_le, Int.not_lt, Int.not_le, ne_eq, Decidable.not_not] at hd) <;> (try simp at hs))
                  | refine T_ret ?_
                  | refine leave_of (.inr rfl) _ rfl ?_
                  | refine leave_of (.inl rfl) _ rfl ?_
                  | refine leaveA_of (.inr rfl) _ rfl ?_
                  | refine leaveA_of (.inl rfl) _ rfl ?_
                  | refine wif_intro ?_ (fun hc => ?_)
                  | refine And.intro ?_ ?_
                  | intro hc
                | simp (maxSteps := 4000000) only [wops_nil, wops_cons, wstep_none, wrun_call, wrun_mv, wrun_not, wrun_ext, wrun_load, wrun_store, wrun_alloc, wrun_box, wrunX_mv, wrunX_ext, wrunX_load, wdW_nil, wstepX_none, wrunX_call, wop, aop, ev, look, put_some, put_none, writes, ores_some, thenK, boolV, value, cut, hget, putCells, AV.parts, isOne, toLits, mkAgg, ofValue_int, List.map_cons, List.map_nil, List.length_cons, List.length_nil, List.getElem?_cons_zero, List.getElem?_cons_succ, List.set_cons_zero, List.set_cons_succ, List.take_succ_cons, List.take_zero, List.take_nil, List.drop_succ_cons, List.drop_zero, List.drop_nil, List.cons_append, List.nil_append, List.append_nil, List.append_assoc, List.replicate_zero, List.replicate_succ, List.getD_cons_zero, List.zipIdx_cons, List.zipIdx_nil, List.all_cons, List.all_nil, Option.getD_some, Option.map_some, if_true, if_false, Nat.reduceEqDiff, Nat.reduceAdd, Nat.reduceLT, Nat.add_zero, Nat.zero_add, Nat.le_refl, Nat.zero_ne_one, reduceCtorEq, Bool.not_true, Bool.and_true, eq_self, true_and, and_self, freeze, lidsL, lids, List.flatMap_cons, List.flatMap_nil, List.all_cons, ren, renL, renB, shiftρ, flat_rows4', freeze1, renR_rows4, *]
                | simp (disch := omega) only [getD_ints, wrapI]
                | (with_reducible show wcall _ false (.lit (.func (.func 19) _ _)) _ _ _ _; refine wcall_fn (h19) ?_ ?_ ?_; (next => simp [rfyL, rfy, hget, ints, take_rfy, take_rows4', flat_rows4', freeze1, renR_rows4, rows4_len]); (next => simp [plainL, plain, plainR, take_rows4', flat_rows4', freeze1, renR_rows4, rows4_len]))
                | (with_reducible show wcallX _ false (.lit (.func (.func 19) _ _)) _ _ _ _; refine wcallX_fn (h19) ?_ ?_ ?_; (next => simp [rfyL, rfy, hget, ints, take_rfy, take_rows4', flat_rows4', freeze1, renR_rows4, rows4_len]); (next => simp [plainL, plain, plainR, take_rows4', flat_rows4', freeze1, renR_rows4, rows4_len]))
                | (with_reducible show wcall _ false (.lit (.func (.func 25) _ _)) _ _ _ _; refine wcall_fn (h25) ?_ ?_ ?_; (next => simp [rfyL, rfy, hget, ints, take_rfy, take_rows4', flat_rows4', freeze1, renR_rows4, rows4_len]); (next => simp [plainL, plain, plainR, take_rows4', flat_rows4', freeze1, renR_rows4, rows4_len]))
                | (with_reducible show wcallX _ false (.lit (.func (.func 25) _ _)) _ _ _ _; refine wcallX_fn (h25) ?_ ?_ ?_; (next => simp [rfyL, rfy, hget, ints, take_rfy, take_rows4', flat_rows4', freeze1, renR_rows4, rows4_len]); (next => simp [plainL, plain, plainR, take_rows4', flat_rows4', freeze1, renR_rows4, rows4_len]))
                | (with_reducible show wcall _ false (.lit (.func (.func 27) _ _)) _ _ _ _; refine wcall_fn (h27) ?_ ?_ ?_; (next => simp [rfyL, rfy, hget, ints, take_rfy, take_rows4', flat_rows4', freeze1, renR_rows4, rows4_len]); (next => simp [plainL, plain, plainR, take_rows4', flat_rows4', freeze1, renR_rows4, rows4_len]))
                | (with_reducible show wcallX _ false (.lit (.func (.func 27) _ _)) _ _ _ _; refine wcallX_fn (h27) ?_ ?_ ?_; (next => simp [rfyL, rfy, hget, ints, take_rfy, take_rows4', flat_rows4', freeze1, renR_rows4, rows4_len]); (next => simp [plainL, plain, plainR, take_rows4', flat_rows4', freeze1, renR_rows4, rows4_len]))
                | (with_reducible show wcall _ false (.lit (.func (.func 72) _ _)) _ _ _ _; refine wcall_fn (h72) ?_ ?_ ?_; (next => simp [rfyL, rfy, hget, take_rows4', rows4_len]); (next => simp [plainL, plain]))
                | (with_reducible show wcallX _ false (.lit (.func (.func 72) _ _)) _ _ _ _; refine wcallX_fn (h72) ?_ ?_ ?_; (next => simp [rfyL, rfy, hget, ints, take_rfy, take_rows4', flat_rows4', freeze1, renR_rows4, rows4_len]); (next => simp [plainL, plain, plainR, take_rows4', flat_rows4', freeze1, renR_rows4, rows4_len]))
                | (with_reducible show wcall _ false (.lit (.func (.func 73) _ _)) _ _ _ _; refine wcall_fn (h73) ?_ ?_ ?_; (next => simp [rfyL, rfy, hget, ints, take_rfy, take_rows4', flat_rows4', freeze1, renR_rows4, rows4_len]); (next => simp [plainL, plain, plainR, take_rows4', flat_rows4', freeze1, renR_rows4, rows4_len]))
                | (with_reducible show wcallX _ false (.lit (.func (.func 73) _ _)) _ _ _ _; refine wcallX_fn (h73) ?_ ?_ ?_; (next => simp [rfyL, rfy, hget, take_rows4', rows4_len]); (next => simp [plainL, plain]))
                | (with_reducible refine wdW_cons ?_ ?_; (next => simp [chk, foot, compatB, argsOf, St.get, target, ev, look, lidsL, lids, hget, kind, wids, tops, opds, topId, take_rows4', flat_rows4', freeze1, renR_rows4, rows4_len]))
                | omega)
              refine T_keep [0, 1, 5, 7, 8, 9, 10] [0, 1] ?_ ?_ ?_ hm.1
              all_goals first | (simp; done) | (simp [St.keep, get_mk, look, ren, renL, renR, renB, renO, keepρ, pos, hget, renR_rows4]; done)
          by_cases hcm : checkR z (l ++ [r]) = 0
          · rw [hcm] at h29m
            by_cases hcy2 : ∀ r', r' ≤ z → 0 ≤ (rnds (arcsL (l ++ [r]) (l ++ [r]).length) z (r' + 1)).at_
            · have h73 := k73m r 13 (by omega) h132 (k134.2.1 hcm hcy2)
              have h75 := k75 (m := l ++ [r]) (R := .tup [.sl true 0 [], i64 13]) (new := []) r 0 hl rfl h29 h70 h29m (.inr (.inl ⟨rfl, rfl, rfl, (k70 (nil := false) hcm).2 hcy2⟩))
              exact goal 0 13 13 (.sl true 0 []) [] h73 (Gv.of_fn 6 h75 [.sl true 0 [], i64 13] rfl rfl rfl) (.inl ⟨by omega, rfl, rfl⟩)
            · have hr2 : ∃ r', r' ≤ z ∧ (rnds (arcsL (l ++ [r]) (l ++ [r]).length) z (r' + 1)).at_ < 0 := by
                rcases Classical.em (∃ r', r' ≤ z ∧ (rnds (arcsL (l ++ [r]) (l ++ [r]).length) z (r' + 1)).at_ < 0) with h | h
                · exact h
                · exact (hcy2 fun r' hr' => by
                    rcases Int.lt_or_le (rnds (arcsL (l ++ [r]) (l ++ [r]).length) z (r' + 1)).at_ 0 with h2 | h2
                    · exact (h ⟨r', hr', h2⟩).elim
                    · exact h2).elim
              obtain ⟨hM', hle⟩ := more_le hc hr hw hcm hr2
              obtain ⟨hz', hl', hrd'⟩ := checkR_ok hcm
              obtain ⟨hA', hN', hok'⟩ := arcs_ok hrd'
              have hn' : (arcsL (l ++ [r]) (l ++ [r]).length).length ≤ 200 := by have := arcsL_len (l ++ [r]) (l ++ [r]).length; omega
              obtain ⟨P', hP1', hP2'⟩ := rest_bound hA' hn' hr2 (by omega)
              have h96 := k96 (nil := false) (by omega) hok' (z := z) (by omega) rfl hA' hP1' hP2'
              have h73 := k73g r (by omega) hl hml hM hM' hfin hle h132 (k134.2.2 hcm hr2) h96
              have h70m := (k70 (nil := false) hcm).1 hr2
              have hid' := toR_id hM' fun i j hi hj => by have := hle i j hi hj; omega
              rw [hid'] at h70m
              have h75 := k75 (m := l ++ [r]) (R := .tup [.lsl 0 0 (l.length + 1), i64 0]) (new := [.cells false false 4 (rows4 (l ++ [r]))]) r 0 hl rfl h29 h70 h29m (.inr (.inr ⟨rfl, rfl, rfl, _, h70m⟩))
              have hg := gsum_r (by omega) hfin hle z (Nat.le_refl _)
              exact goal _ 0 0 (rdgs false (l ++ [r])) _ h73 (rdgG hml h75) (.inr ⟨rfl, rfl, rfl, hM', fun i j hi hj => (hle i j hi hj).2, tbG hM' h70m, gsum_eq _ _ z (Nat.le_refl _), hg.1⟩)
          · have h73 := k73m r _ hcm h132 (k134.1 hcm)
            have h75 := k75 (m := l ++ [r]) (R := .tup [.sl true 0 [], i64 (checkR z (l ++ [r]))]) (new := []) r _ hl rfl h29 h70 h29m (.inl ⟨hcm, rfl, rfl⟩)
            exact goal 0 _ _ (.sl true 0 []) [] h73 (Gv.of_fn 6 h75 [.sl true 0 [], i64 (checkR z (l ++ [r]))] rfl rfl rfl) (.inl ⟨hcm, rfl, rfl⟩)
    · have h72 := k72e (nil := false) (by omega) hc
      have h73 := k73e (nil := false) r (by omega) hc
      have h49 := k49e (nil := nil) (by omega) hc
      generalize checkR zi l = d at *
      have hd0 : (d == 0) = false := by simp only [beq_eq_false_iff_ne]; exact hc
      have hd1 : (d != 0) = true := by simp only [bne_iff_ne]; exact hc
      unfold c16
      repeat' (first
        | ((with_reducible refine T_calm ?_ ?_); rfl)
        | with_reducible first
          | refine T_seq ?_
          | refine T_reg ?_
          | refine T_draw ?_
          | refine T_skip ?_
          | refine T_exit ?_
          | refine T_block ?_
          | refine T_cond_t rfl ?_
          | refine T_cond_f rfl ?_
          | refine wdW_cons rfl ?_
          | (show wcall _ false (.lit (.func (.func 19) _ _)) _ _ _ _; refine wcall_fn (h19) rfl (by simp [plainL]) ?_)
          | (show wcallX _ false (.lit (.func (.func 19) _ _)) _ _ _ _; refine wcallX_fn (h19) rfl (by simp [plainL, plain, plainR, take_rows4', flat_rows4', freeze1, renR_rows4, rows4_len]) ?_)
          | (show wcall _ false (.lit (.func (.func 25) _ _)) _ _ _ _; refine wcall_fn (h25) rfl (by simp [plainL, plain]) ?_)
          | (show wcallX _ false (.lit (.func (.func 25) _ _)) _ _ _ _; refine wcallX_fn (h25) rfl (by simp [plainL, plain, plainR, take_rows4', flat_rows4', freeze1, renR_rows4, rows4_len]) ?_)
          | (show wcall _ false (.lit (.func (.func 27) _ _)) _ _ _ _; refine wcall_fn (h27) rfl (by simp [plainL, plain]) ?_)
          | (show wcallX _ false (.lit (.func (.func 27) _ _)) _ _ _ _; refine wcallX_fn (h27) rfl (by simp [plainL, plain]) ?_)
          | (show wcall _ false (.lit (.func (.func 72) _ _)) _ _ _ _; refine wcall_fn (h72) rfl (by simp [plainL, plain]) ?_)
          | (show wcallX _ false (.lit (.func (.func 72) _ _)) _ _ _ _; refine wcallX_fn (h72) rfl (by simp [plainL, plain, plainR, take_rows4', flat_rows4', freeze1, renR_rows4, rows4_len]) ?_)
          | (show wcall _ false (.lit (.func (.func 73) _ _)) _ _ _ _; refine wcall_fn (h73) rfl (by simp [plainL, plain, plainR, take_rows4', flat_rows4', freeze1, renR_rows4, rows4_len]) ?_)
          | (show wcallX _ false (.lit (.func (.func 73) _ _)) _ _ _ _; refine wcallX_fn (h73) rfl (by simp [plainL, plain]) ?_)
          | (show wcall _ false (.lit (.func (.func 49) _ _)) _ _ _ _; refine wcall_fn (h49) rfl (by simp [plainL, plain]) ?_)
          | (show wcallX _ false (.lit (.func (.func 49) _ _)) _ _ _ _; refine wcallX_fn (h49) rfl (by simp [plainL, plain, plainR, take_rows4', flat_rows4', freeze1, renR_rows4, rows4_len]) ?_)
          | ((first | refine T_cond rfl (fun hc => ?_) (fun hc => ?_) | refine wguard_split (fun hc => ?_) (fun hc => ?_) | refine wguardX_split (fun hc => ?_) (fun hc => ?_)) <;> have hd := hc <;> (try simp (disch := omega) only [wrapI] at hd) <;> have hs := hd <;> (try simp only [Bool.not_eq_true', Bool.not_eq_false', Bool.and_eq_true, Bool.and_eq_false_iff, Bool.or_eq_true, Bool.or_eq_false_iff, decide_eq_true_eq, decide_eq_false_iff_not, beq_iff_eq, bne_iff_ne, beq_eq_false_iff_ne, bne_eq_false_iff_eq, Bool.not_true, Bool.not_false, gt_iff_lt, ge_iff_le, Int.not_lt, Int.not_le, ne_eq, Decidable.not_not] at hd) <;> (try simp at hs))
          | refine T_ret ?_
          | refine leave_of (.inr rfl) _ rfl ?_
          | refine leave_of (.inl rfl) _ rfl ?_
          | refine leaveA_of (.inr rfl) _ rfl ?_
          | refine leaveA_of (.inl rfl) _ rfl ?_
          | refine wif_intro ?_ (fun hc => ?_)
          | refine And.intro ?_ ?_
          | intro hc
        | simp (maxSteps := 4000000) only [wops_nil, wops_cons, wstep_none, wstep_some, wguard_true, wrun_call, wrun_mv, wrun_pick, wrun_bin, wrun_eqAgg, wrun_not, wrun_ext, wrun_build, wrun_load, wrun_store, wrun_alloc, wrun_box, wrunX_mv, wrunX_ext, wrunX_load, wdW_nil, wstepX_none, wrunX_call, get_mk, wop, aop, ev, look, put_some, put_none, writes, ores_some, binV, thenK, boolV, value, cut, hget, fillA, putCells, AV.parts, isOne, toLits, mkAgg, tupOf, ofValue_int, cellsEq, cellEq, List.map_cons, List.map_nil, List.length_cons, List.length_nil, List.getElem?_cons_zero, List.getElem?_cons_succ, List.set_cons_zero, List.set_cons_succ, List.take_succ_cons, List.take_zero, List.take_nil, List.drop_succ_cons, List.drop_zero, List.drop_nil, List.cons_append, List.nil_append, List.append_nil, List.append_assoc, List.replicate_zero, List.replicate_succ, List.getD_cons_zero, List.zipIdx_cons, List.zipIdx_nil, List.all_cons, List.all_nil, Option.getD_some, Option.map_some, if_true, if_false, Nat.reduceEqDiff, Nat.reduceAdd, Nat.reduceLT, Nat.add_zero, Nat.zero_add, Nat.le_refl, Nat.zero_ne_one, reduceCtorEq, Bool.not_true, Bool.and_true, Bool.false_eq_true, eq_self, true_and, and_self, beq_self_eq_true, freeze, lidsL, lids, List.flatMap_cons, List.flatMap_nil, List.all_cons, ren, renL, renR, renB, shiftρ, flat_rows4', freeze1, renR_rows4, *]
        | simp (disch := omega) only [getD_ints, wrapI]
        | (with_reducible show wcall _ false (.lit (.func (.func 19) _ _)) _ _ _ _; refine wcall_fn (h19) ?_ ?_ ?_; (next => simp [rfyL, rfy, hget, ints, take_rfy, take_rows4', flat_rows4', freeze1, renR_rows4, rows4_len]); (next => simp [plainL, plain, plainR, take_rows4', flat_rows4', freeze1, renR_rows4, rows4_len]))
        | (with_reducible show wcallX _ false (.lit (.func (.func 19) _ _)) _ _ _ _; refine wcallX_fn (h19) ?_ ?_ ?_; (next => simp [rfyL, rfy, hget, ints, take_rfy, take_rows4', flat_rows4', freeze1, renR_rows4, rows4_len]); (next => simp [plainL, plain, plainR, take_rows4', flat_rows4', freeze1, renR_rows4, rows4_len]))
        | (with_reducible show wcall _ false (.lit (.func (.func 25) _ _)) _ _ _ _; refine wcall_fn (h25) ?_ ?_ ?_; (next => simp [rfyL, rfy, hget, ints, take_rfy, take_rows4', flat_rows4', freeze1, renR_rows4, rows4_len]); (next => simp [plainL, plain, plainR, take_rows4', flat_rows4', freeze1, renR_rows4, rows4_len]))
        | (with_reducible show wcallX _ false (.lit (.func (.func 25) _ _)) _ _ _ _; refine wcallX_fn (h25) ?_ ?_ ?_; (next => simp [rfyL, rfy, hget, ints, take_rfy, take_rows4', flat_rows4', freeze1, renR_rows4, rows4_len]); (next => simp [plainL, plain, plainR, take_rows4', flat_rows4', freeze1, renR_rows4, rows4_len]))
        | (with_reducible show wcall _ false (.lit (.func (.func 27) _ _)) _ _ _ _; refine wcall_fn (h27) ?_ ?_ ?_; (next => simp [rfyL, rfy, hget, ints, take_rfy, take_rows4', flat_rows4', freeze1, renR_rows4, rows4_len]); (next => simp [plainL, plain, plainR, take_rows4', flat_rows4', freeze1, renR_rows4, rows4_len]))
        | (with_reducible show wcallX _ false (.lit (.func (.func 27) _ _)) _ _ _ _; refine wcallX_fn (h27) ?_ ?_ ?_; (next => simp [rfyL, rfy, hget, ints, take_rfy, take_rows4', flat_rows4', freeze1, renR_rows4, rows4_len]); (next => simp [plainL, plain, plainR, take_rows4', flat_rows4', freeze1, renR_rows4, rows4_len]))
        | (with_reducible show wcall _ false (.lit (.func (.func 72) _ _)) _ _ _ _; refine wcall_fn (h72) ?_ ?_ ?_; (next => simp [rfyL, rfy, hget, take_rows4', rows4_len]); (next => simp [plainL, plain]))
        | (with_reducible show wcallX _ false (.lit (.func (.func 72) _ _)) _ _ _ _; refine wcallX_fn (h72) ?_ ?_ ?_; (next => simp [rfyL, rfy, hget, ints, take_rfy, take_rows4', flat_rows4', freeze1, renR_rows4, rows4_len]); (next => simp [plainL, plain, plainR, take_rows4', flat_rows4', freeze1, renR_rows4, rows4_len]))
        | (with_reducible show wcall _ false (.lit (.func (.func 73) _ _)) _ _ _ _; refine wcall_fn (h73) ?_ ?_ ?_; (next => simp [rfyL, rfy, hget, ints, take_rfy, take_rows4', flat_rows4', freeze1, renR_rows4, rows4_len]); (next => simp [plainL, plain, plainR, take_rows4', flat_rows4', freeze1, renR_rows4, rows4_len]))
        | (with_reducible show wcallX _ false (.lit (.func (.func 73) _ _)) _ _ _ _; refine wcallX_fn (h73) ?_ ?_ ?_; (next => simp [rfyL, rfy, hget, take_rows4', rows4_len]); (next => simp [plainL, plain]))
        | (with_reducible show wcall _ false (.lit (.func (.func 49) _ _)) _ _ _ _; refine wcall_fn (h49) ?_ ?_ ?_; (next => simp [rfyL, rfy, hget, ints, take_rfy, take_rows4', flat_rows4', freeze1, renR_rows4, rows4_len]); (next => simp [plainL, plain, plainR, take_rows4', flat_rows4', freeze1, renR_rows4, rows4_len]))
        | (with_reducible show wcallX _ false (.lit (.func (.func 49) _ _)) _ _ _ _; refine wcallX_fn (h49) ?_ ?_ ?_; (next => simp [rfyL, rfy, hget, ints, take_rfy, take_rows4', flat_rows4', freeze1, renR_rows4, rows4_len]); (next => simp [plainL, plain, plainR, take_rows4', flat_rows4', freeze1, renR_rows4, rows4_len]))
        | (with_reducible refine wdW_cons ?_ ?_; (next => simp [chk, foot, compatB, argsOf, St.get, target, ev, look, lidsL, lids, hget, kind, wids, tops, opds, topId, take_rows4', flat_rows4', freeze1, renR_rows4, rows4_len]))
        | omega)
      all_goals first | rfl
end Go.Abs
