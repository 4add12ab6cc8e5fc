import Derived.Test.YtodheeifecoebaaK341x
set_option linter.all false
set_option linter.unusedVariables false
set_option linter.unusedSimpArgs false
set_option linter.unusedSectionVars false
namespace Go.Abs
open Go.Proofs
/-! ProfileNeedless: a reading that is not left out -/
theorem rows4_ap (L : List Rd) (r : Rd) : rows4 (L ++ [r]) = rows4 L ++ [rrow r] := by simp [rows4]
set_option maxHeartbeats 8000000 in
theorem k15n {z k : Nat} {nil : Bool} {l L : List Rd} {out : List Nat} (hk : k < l.length) (hl : l.length ≤ 100) (hLl : L.length ≤ 100) (hol : out.length < 1000) (hm : k ∉ out) (K : Exit → St → Prop)
    (hT : ∀ τ : St, (∃ ids : List Nat, (∀ id ∈ ids, 0 ≤ id ∧ id < τ.heap.length) ∧ ids.Nodup ∧ τ.keep 0 [0, 1, 5, 10, 11] ids = S15k z nil l out (L ++ [l.getD k rd0]) (k + 1)) → K .normal τ) : T none Try.prog muts 103 0 c15l0 (S15k z nil l out L k) K := by
  have h58 := k58o out k hol
  have hrl := rows4_len l
  rw [decide_eq_false hm] at h58
  have hkn : (k : Int) < (l.length : Int) := by omega
  have hcl := cI_len out
  have hil := iRw_len (cI out)
  have g1 := rows4_get hk
  generalize l.getD k rd0 = r at *
  have eap := rows4_ap L r
  have hne : L ++ [r] ≠ [] := by simp
  have hln : (L ++ [r]).length = L.length + 1 := by simp
  have htL : List.take L.length (rows4 L) = rows4 L := List.take_of_length_le (by rw [rows4_len]; exact Nat.le_refl _)
  have r0 : rows4 [] = [] := rfl
  obtain ⟨a, b, lo, hi⟩ := r
  clear hm
  by_cases ho : out = []
  · subst ho
    simp only [pV, if_true] at h58
    simp only [S15k, lV, lBf, qO, if_true, List.nil_append] at hT ⊢
    by_cases hL : L = []
    · subst hL
      simp only [leV, leB, if_true, if_neg hne] at hT ⊢
      replace hT := PLift.up hT
      unfold c15l0
      repeat' (first | (with_reducible first | refine T_seq ?_ | refine T_reg ?_ | refine T_skip ?_ | refine T_exit ?_ | refine T_block ?_ | refine T_cond_t rfl ?_ | refine T_cond_f rfl ?_ | (show wcall _ false (.lit (.func (.func 58) _ _)) _ _ _ _; refine wcall_fn (h58) rfl (by simp [plainL, plain, plainR]) ?_) | refine T_ret ?_ | refine wif_intro ?_ (fun hc => ?_) | refine And.intro ?_ ?_ | intro hc) | simp (maxSteps := 4000000) only [wops_nil, wops_cons, wstep_none, wrun_call, wrun_mv, wrun_bin, wrun_not, wrun_load, wrun_iaddrS, wrun_len, wrun_bslice, wrun_app, wop, aop, ev, look, put_some, writes, ores_some, ores_ite_none, ores_map, ores_bind, binV, thenK, blockK, boolV, intV, lenOf, elsOf, szOk, value, cut, hget, fillA, putCells, AV.parts, isOne, toLits, mkAgg, ofValue_int, List.flatten_cons, List.flatten_nil, rowsOf, List.map_cons, List.map_nil, List.length_cons, List.length_nil, List.getElem?_cons_zero, List.getElem?_cons_succ, List.set_cons_zero, List.set_cons_succ, List.take_succ_cons, List.take_zero, List.take_nil, List.drop_succ_cons, List.drop_zero, List.drop_nil, List.nil_append, List.append_nil, List.replicate_zero, List.replicate_succ, List.all_cons, List.all_nil, List.isEmpty_cons, Option.pure_def, Option.bind_eq_bind, Option.getD_some, Option.map_some, if_true, if_false, Nat.reduceEqDiff, Nat.reduceAdd, Nat.reduceMul, Nat.reduceLeDiff, Nat.add_zero, Nat.zero_add, Nat.sub_zero, Nat.zero_mul, Nat.le_refl, Nat.zero_ne_one, reduceCtorEq, Bool.not_false, Bool.and_true, Bool.or_true, eq_self, true_and, and_true, and_self, decide_true, beq_self_eq_true, freeze, lidsL, lids, List.flatMap_cons, List.flatMap_nil, List.all_cons, ren, Int.toNat_natCast, *] | simp (disch := omega) only [wrapI] | (with_reducible show wcall _ false (.lit (.func (.func 58) _ _)) _ _ _ _; refine wcall_fn (h58) ?_ ?_ ?_; (next => simp [rfyL, rfy, hget, ints, take_rfy, renR_rows4, plainR_rows4, rows4_len, renR_iRw, Int.toNat_natCast]); (next => simp [plainL, plain, plainR, renR_rows4, plainR_rows4, rows4_len, renR_iRw, Int.toNat_natCast])) | omega)
      refine hT.down _ ⟨[1], by simp, by simp, ?_⟩
      simp [St.keep, get_mk, look, ren, renL, renR, renB, renO, keepρ, pos, hget, renR_rows4]
      rfl
    · skip
      simp only [leV, leB, if_neg hL, if_neg hne] at hT ⊢
      replace hT := PLift.up hT
      unfold c15l0
      repeat' (first | (with_reducible first | refine T_seq ?_ | refine T_reg ?_ | refine T_skip ?_ | refine T_exit ?_ | refine T_block ?_ | refine T_cond_t rfl ?_ | refine T_cond_f rfl ?_ | (show wcall _ false (.lit (.func (.func 58) _ _)) _ _ _ _; refine wcall_fn (h58) rfl (by simp [plainL, plain, plainR]) ?_) | refine T_ret ?_ | refine wif_intro ?_ (fun hc => ?_) | refine And.intro ?_ ?_ | intro hc) | simp (maxSteps := 4000000) only [wops_nil, wops_cons, wstep_none, wrun_call, wrun_mv, wrun_bin, wrun_not, wrun_load, wrun_iaddrS, wrun_len, wrun_bslice, wrun_app, wop, aop, ev, look, put_some, writes, ores_some, ores_ite_none, ores_map, ores_bind, binV, thenK, blockK, boolV, intV, lenOf, elsOf, szOk, value, cut, hget, fillA, putCells, AV.parts, isOne, toLits, mkAgg, ofValue_int, List.flatten_cons, List.flatten_nil, rowsOf, List.map_cons, List.map_nil, List.length_cons, List.length_nil, List.getElem?_cons_zero, List.getElem?_cons_succ, List.set_cons_zero, List.set_cons_succ, List.take_succ_cons, List.take_zero, List.take_nil, List.drop_succ_cons, List.drop_zero, List.drop_nil, List.cons_append, List.nil_append, List.append_nil, List.replicate_zero, List.replicate_succ, List.all_cons, List.all_nil, List.isEmpty_cons, Option.pure_def, Option.bind_eq_bind, Option.getD_some, Option.map_some, if_true, if_false, Nat.reduceEqDiff, Nat.reduceAdd, Nat.add_zero, Nat.zero_add, Nat.sub_zero, Nat.zero_mul, Nat.le_refl, Nat.zero_ne_one, reduceCtorEq, Bool.not_false, Bool.and_true, Bool.and_false, Bool.or_true, eq_self, true_and, and_true, and_self, decide_true, beq_self_eq_true, freeze, lidsL, lids, List.flatMap_cons, List.flatMap_nil, List.all_cons, ren, rows4_len, Int.toNat_natCast, *] | simp (disch := omega) only [wrapI] | (with_reducible show wcall _ false (.lit (.func (.func 58) _ _)) _ _ _ _; refine wcall_fn (h58) ?_ ?_ ?_; (next => simp [rfyL, rfy, hget, ints, take_rfy, renR_rows4, plainR_rows4, rows4_len, renR_iRw, Int.toNat_natCast]); (next => simp [plainL, plain, plainR, renR_rows4, plainR_rows4, rows4_len, renR_iRw, Int.toNat_natCast])) | omega)
      refine hT.down _ ⟨[2], by simp, by simp, ?_⟩
      simp [St.keep, get_mk, look, ren, renL, renR, renB, renO, keepρ, pos, hget, renR_rows4, renR_app4, eap]
  · simp only [pV, if_neg ho] at h58
    simp only [S15k, lV, lBf, qO, if_neg ho] at hT ⊢
    by_cases hL : L = []
    · subst hL
      simp only [leV, leB, if_true, if_neg hne] at hT ⊢
      replace hT := PLift.up hT
      unfold c15l0
      repeat' (first | (with_reducible first | refine T_seq ?_ | refine T_reg ?_ | refine T_skip ?_ | refine T_exit ?_ | refine T_block ?_ | refine T_cond_t rfl ?_ | refine T_cond_f rfl ?_ | refine T_ret ?_ | refine leave_of (.inr rfl) _ rfl ?_ | refine leave_of (.inl rfl) _ rfl ?_ | refine leaveA_of (.inr rfl) _ rfl ?_ | refine leaveA_of (.inl rfl) _ rfl ?_ | refine wif_intro ?_ (fun hc => ?_) | refine And.intro ?_ ?_ | intro hc) | simp (maxSteps := 4000000) only [wops_nil, wops_cons, wstep_none, wrun_call, wrun_mv, wrun_bin, wrun_len, wop, aop, ev, look, put_some, writes, ores_some, ores_map, ores_bind, binV, thenK, intV, lenOf, hget, List.map_cons, List.map_nil, List.length_cons, List.length_nil, List.append_nil, List.replicate_zero, Option.pure_def, Option.bind_eq_bind, Option.map_some, if_true, if_false, Nat.reduceEqDiff, Nat.zero_add, Nat.zero_ne_one, reduceCtorEq, eq_self, decide_true, *] | simp (disch := omega) only [getD_ints, wrapI] | omega)
      refine wcall_fn h58 ?_ ?_ ?_
      · simp [rfyL, rfy, hget, mpI, iRw_len, hcl]
        exact List.take_of_length_le (by omega)
      · simp [plainL, plain, plainR_iRw]
      have hfz : freeze [Blk.cells false false 1 (iRw (cI out))] (lidsL (hget [Blk.cells false false 1 (iRw (cI out))]) [AV.lsl 0 0 out.length, i64 (k : Int)]) = [Blk.cells false false 1 (iRw (cI out))] := by
        have e : lidsL (hget [Blk.cells false false 1 (iRw (cI out))]) [AV.lsl 0 0 out.length, i64 (k : Int)] = [0] := by
          have := flatI (hget [Blk.cells false false 1 (iRw (cI out))]) out.length (cI out)
          simp only [lidsL, List.flatMap_cons, List.flatMap_nil, List.append_nil]
          simp [lids, hget]
          simpa [hget] using this
        rw [e]
        rfl
      try rw [List.append_nil]
      rw [hfz]
      repeat' (first | (with_reducible first | refine T_seq ?_ | refine T_reg ?_ | refine T_skip ?_ | refine T_exit ?_ | refine T_block ?_ | refine T_cond_t rfl ?_ | refine T_cond_f rfl ?_ | refine T_ret ?_ | refine wif_intro ?_ (fun hc => ?_) | refine And.intro ?_ ?_ | intro hc) | simp (maxSteps := 4000000) only [wops_nil, wops_cons, wstep_none, wrun_mv, wrun_bin, wrun_not, wrun_load, wrun_iaddrS, wrun_bslice, wrun_app, wop, aop, ev, look, put_some, writes, ores_some, ores_ite_none, binV, thenK, blockK, boolV, elsOf, szOk, value, cut, hget, fillA, putCells, AV.parts, isOne, toLits, mkAgg, ofValue_int, List.flatten_cons, List.flatten_nil, rowsOf, List.map_cons, List.map_nil, List.length_cons, List.length_nil, List.getElem?_cons_zero, List.getElem?_cons_succ, List.set_cons_zero, List.set_cons_succ, List.take_succ_cons, List.take_zero, List.take_nil, List.drop_succ_cons, List.drop_zero, List.drop_nil, List.cons_append, List.nil_append, List.append_nil, List.replicate_zero, List.replicate_succ, List.all_cons, List.all_nil, List.isEmpty_cons, Option.getD_some, Option.map_some, if_true, if_false, Nat.reduceEqDiff, Nat.reduceAdd, Nat.reduceMul, Nat.reduceLeDiff, Nat.add_zero, Nat.zero_add, Nat.sub_zero, Nat.zero_mul, Nat.le_refl, Nat.zero_ne_one, reduceCtorEq, Bool.not_false, Bool.and_true, Bool.or_true, eq_self, true_and, and_true, and_self, beq_self_eq_true, List.all_cons, ren, Int.toNat_natCast, *] | simp (disch := omega) only [wrapI] | omega)
      refine hT.down _ ⟨[0, 2], by simp, by simp, ?_⟩
      simp [St.keep, get_mk, look, ren, renL, renR, renB, renO, keepρ, pos, hget, renR_rows4, renR_iRw]
      rfl
    · skip
      simp only [leV, leB, if_neg hL, if_neg hne] at hT ⊢
      replace hT := PLift.up hT
      unfold c15l0
      repeat' (first | (with_reducible first | refine T_seq ?_ | refine T_reg ?_ | refine T_skip ?_ | refine T_exit ?_ | refine T_block ?_ | refine T_cond_t rfl ?_ | refine T_cond_f rfl ?_ | refine T_ret ?_ | refine leave_of (.inr rfl) _ rfl ?_ | refine leave_of (.inl rfl) _ rfl ?_ | refine leaveA_of (.inr rfl) _ rfl ?_ | refine leaveA_of (.inl rfl) _ rfl ?_ | refine wif_intro ?_ (fun hc => ?_) | refine And.intro ?_ ?_ | intro hc) | simp (maxSteps := 4000000) only [wops_nil, wops_cons, wstep_none, wrun_call, wrun_mv, wrun_bin, wrun_len, wop, aop, ev, look, put_some, writes, ores_some, ores_map, ores_bind, binV, thenK, intV, lenOf, hget, List.map_cons, List.map_nil, List.length_cons, List.length_nil, List.cons_append, List.nil_append, List.append_nil, List.replicate_zero, Option.pure_def, Option.bind_eq_bind, Option.map_some, if_true, if_false, Nat.reduceEqDiff, Nat.reduceAdd, Nat.zero_add, Nat.zero_ne_one, reduceCtorEq, eq_self, decide_true, *] | simp (disch := omega) only [getD_ints, wrapI] | omega)
      refine wcall_fn h58 ?_ ?_ ?_
      · simp [rfyL, rfy, hget, mpI, iRw_len, hcl]
        exact List.take_of_length_le (by omega)
      · simp [plainL, plain, plainR_iRw]
      have hfz : freeze [Blk.cells false false 1 (iRw (cI out)), Blk.cells true false 4 (rows4 L)] (lidsL (hget [Blk.cells false false 1 (iRw (cI out)), Blk.cells true false 4 (rows4 L)]) [AV.lsl 0 0 out.length, i64 (k : Int)]) = [Blk.cells false false 1 (iRw (cI out)), Blk.cells true false 4 (rows4 L)] := by
        have e : lidsL (hget [Blk.cells false false 1 (iRw (cI out)), Blk.cells true false 4 (rows4 L)]) [AV.lsl 0 0 out.length, i64 (k : Int)] = [0] := by
          have := flatI (hget [Blk.cells false false 1 (iRw (cI out)), Blk.cells true false 4 (rows4 L)]) out.length (cI out)
          simp only [lidsL, List.flatMap_cons, List.flatMap_nil, List.append_nil]
          simp [lids, hget]
          simpa [hget] using this
        rw [e]
        rfl
      rw [hfz]
      repeat' (first | (with_reducible first | refine T_seq ?_ | refine T_reg ?_ | refine T_skip ?_ | refine T_exit ?_ | refine T_block ?_ | refine T_cond_t rfl ?_ | refine T_cond_f rfl ?_ | refine T_ret ?_ | refine wif_intro ?_ (fun hc => ?_) | refine And.intro ?_ ?_ | intro hc) | simp (maxSteps := 4000000) only [wops_nil, wops_cons, wstep_none, wrun_mv, wrun_bin, wrun_not, wrun_load, wrun_iaddrS, wrun_bslice, wrun_app, wop, aop, ev, look, put_some, writes, ores_some, ores_ite_none, binV, thenK, blockK, boolV, elsOf, szOk, value, cut, hget, fillA, putCells, AV.parts, isOne, toLits, mkAgg, ofValue_int, List.flatten_cons, List.flatten_nil, rowsOf, List.map_cons, List.map_nil, List.length_cons, List.length_nil, List.getElem?_cons_zero, List.getElem?_cons_succ, List.set_cons_zero, List.set_cons_succ, List.take_succ_cons, List.take_zero, List.take_nil, List.drop_succ_cons, List.drop_zero, List.drop_nil, List.cons_append, List.nil_append, List.append_nil, List.replicate_zero, List.replicate_succ, List.all_cons, List.all_nil, List.isEmpty_cons, Option.getD_some, Option.map_some, if_true, if_false, Nat.reduceEqDiff, Nat.reduceAdd, Nat.add_zero, Nat.zero_add, Nat.sub_zero, Nat.zero_mul, Nat.le_refl, Nat.zero_ne_one, reduceCtorEq, Bool.not_false, Bool.and_true, Bool.and_false, Bool.or_true, eq_self, true_and, and_true, and_self, beq_self_eq_true, List.all_cons, ren, Int.toNat_natCast, rows4_len, *] | simp (disch := omega) only [wrapI] | omega)
      refine hT.down _ ⟨[0, 3], by simp, by simp, ?_⟩
      simp [St.keep, get_mk, look, ren, renL, renR, renB, renO, keepρ, pos, hget, renR_rows4, renR_iRw, renR_app4, eap]
end Go.Abs
