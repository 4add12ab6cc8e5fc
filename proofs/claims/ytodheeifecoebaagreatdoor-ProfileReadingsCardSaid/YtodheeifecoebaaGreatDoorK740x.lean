import Derived.Test.YtodheeifecoebaaGreatDoorK97x
import Derived.Test.YtodheeifecoebaaGreatDoorK117x
import Derived.Test.YtodheeifecoebaaGreatDoorK128x
set_option linter.all false
set_option linter.unusedVariables false
set_option linter.unusedSimpArgs false
set_option linter.unusedSectionVars false
namespace Go.Abs
open Go.Proofs
/-! readings with one more, of both sides -/
set_option maxHeartbeats 8000000 in
theorem k11 (l : List Rd) (hl : l.length < 1000000) : Fn Tryz.prog 11 [rdgs false l, rdgs false l] (bl true) [] := by
  refine fn_of e11 ?_
  have hrl := rows4_len l
  unfold c11
  repeat' (first | ((with_reducible refine T_calm ?_ ?_); rfl) | (with_reducible first | refine T_seq ?_ | refine T_reg ?_ | refine T_draw ?_ | refine T_skip ?_ | refine T_exit ?_ | refine T_block ?_ | refine T_cond_t rfl ?_ | refine T_cond_f rfl ?_ | refine wdW_cons rfl ?_ | ((first | refine T_cond rfl (fun hc => ?_) (fun hc => ?_) | refine wguard_split (fun hc => ?_) (fun hc => ?_) | refine wguardX_split (fun hc => ?_) (fun hc => ?_)) <;> have hd := hc <;> (try simp (disch := omega) only [wrapI] at hd) <;> have hs := hd <;> (try simp only [bne_iff_ne, bne_eq_false_iff_eq, ne_eq] at hd) <;> (try simp at hs)) | refine T_ret ?_ | refine leave_of (.inr rfl) _ rfl ?_ | refine leave_of (.inl rfl) _ rfl ?_ | refine wif_intro ?_ (fun hc => ?_) | refine And.intro ?_ ?_ | intro hc) | simp (maxSteps := 4000000) only [wops_nil, wops_cons, wstep_none, wrun_mv, wrun_bin, wrun_len, wop, aop, ev, look, put_some, writes, ores_some, ores_map, ores_bind, binV, thenK, intV, lenOf, hget, List.map_cons, List.map_nil, List.length_nil, List.append_nil, List.replicate_zero, List.zipIdx_cons, List.zipIdx_nil, Option.pure_def, Option.bind_eq_bind, Option.map_some, if_true, if_false, Nat.reduceEqDiff, Nat.reduceAdd, Nat.zero_add, Nat.zero_ne_one, reduceCtorEq, eq_self, *] | simp (disch := omega) only [getD_ints, wrapI] | omega)
  refine T_for [0, 1, 5] (fun k => ⟨[(0, rdgs false l), (1, rdgs false l), (5, i64 k)], []⟩) l.length (fun _ => True) 0 rfl trivial (Nat.zero_le _) ?_
  intro k hk _
  by_cases hkn : k < l.length
  · have hg : (rows4 l).getD ((k : Nat) : Int).toNat [] = rrow (l.getD k rd0) := rows4_get hkn
    unfold c11l0
    repeat' (first | ((with_reducible refine T_calm ?_ ?_); rfl) | (with_reducible first | refine T_seq ?_ | refine T_reg ?_ | refine T_draw ?_ | refine T_skip ?_ | refine T_exit ?_ | refine T_block ?_ | refine T_cond_t rfl ?_ | refine T_cond_f rfl ?_ | refine wdW_cons rfl ?_ | ((first | refine T_cond rfl (fun hc => ?_) (fun hc => ?_) | refine wguard_split (fun hc => ?_) (fun hc => ?_) | refine wguardX_split (fun hc => ?_) (fun hc => ?_)) <;> have hd := hc <;> (try simp (disch := omega) only [wrapI] at hd) <;> have hs := hd <;> (try simp only [decide_eq_true_eq, decide_eq_false_iff_not, Int.not_lt] at hd) <;> (try simp at hs)) | refine T_ret ?_ | refine leave_of (.inr rfl) _ rfl ?_ | refine leave_of (.inl rfl) _ rfl ?_ | refine wif_intro ?_ (fun hc => ?_) | refine And.intro ?_ ?_ | intro hc) | simp (maxSteps := 4000000) only [wops_nil, wops_cons, wstep_none, wrun_mv, wrun_bin, wrun_eqAgg, wrun_load, wrun_iaddrS, wrun_len, get_mk, wop, aop, ev, look, put_some, writes, ores_some, ores_ite_none, ores_map, ores_bind, binV, thenK, blockK, boolV, intV, lenOf, value, cut, hget, toLits, mkAgg, tupOf, cellsEq, cellEq, List.map_cons, List.map_nil, List.length_cons, List.length_nil, List.take_succ_cons, List.take_nil, List.drop_zero, List.append_nil, List.replicate_zero, Option.pure_def, Option.bind_eq_bind, Option.map_some, if_true, if_false, Nat.reduceEqDiff, Nat.reduceAdd, Nat.zero_add, Nat.zero_ne_one, reduceCtorEq, Bool.not_true, eq_self, true_and, and_true, and_self, decide_true, beq_self_eq_true, ren, *] | simp (disch := omega) only [wrapI] | (with_reducible refine wdW_cons ?_ ?_; (next => simp [chk, foot, compatB, argsOf, St.get, target, ev, look, lidsL, hget, kind, AOp.isRaw, wids, wtops, tops, opds, topId, hg]; done)) | omega)
    all_goals first | (simp [St.only, get_mk, look]; done)
  · have hke : k = l.length := by omega
    subst hke
    unfold c11l0
    repeat' (first | ((with_reducible refine T_calm ?_ ?_); rfl) | (with_reducible first | refine T_seq ?_ | refine T_reg ?_ | refine T_draw ?_ | refine T_skip ?_ | refine T_exit ?_ | refine T_block ?_ | refine T_cond_t rfl ?_ | refine T_cond_f rfl ?_ | refine wdW_cons rfl ?_ | ((first | refine T_cond rfl (fun hc => ?_) (fun hc => ?_) | refine wguard_split (fun hc => ?_) (fun hc => ?_) | refine wguardX_split (fun hc => ?_) (fun hc => ?_)) <;> have hd := hc <;> (try simp (disch := omega) only [wrapI] at hd) <;> have hs := hd <;> (try simp only [decide_eq_true_eq, decide_eq_false_iff_not, Int.not_lt] at hd) <;> (try simp at hs)) | refine T_ret ?_ | refine leave_of (.inr rfl) _ rfl ?_ | refine leave_of (.inl rfl) _ rfl ?_ | refine wif_intro ?_ (fun hc => ?_) | refine And.intro ?_ ?_ | intro hc) | simp (maxSteps := 4000000) only [wops_nil, wops_cons, wstep_none, wrun_mv, wrun_bin, wrun_len, get_mk, wop, aop, ev, look, put_some, writes, ores_some, ores_map, ores_bind, binV, thenK, blockK, intV, lenOf, hget, tupOf, List.length_nil, List.append_nil, List.replicate_zero, Option.pure_def, Option.bind_eq_bind, Option.map_some, if_true, if_false, Nat.reduceEqDiff, reduceCtorEq, eq_self, and_true, false_and, ren, *] | simp (disch := omega) only [getD_ints, wrapI] | omega)
    all_goals first | rfl
set_option maxHeartbeats 8000000 in
theorem k11n : Fn Tryz.prog 11 [.sl true 0 [], .sl true 0 []] (bl true) [] := by
  refine fn_of e11 ?_
  unfold c11
  repeat' (first | ((with_reducible refine T_calm ?_ ?_); rfl) | (with_reducible first | refine T_seq ?_ | refine T_reg ?_ | refine T_draw ?_ | refine T_skip ?_ | refine T_exit ?_ | refine T_block ?_ | refine T_cond_t rfl ?_ | refine T_cond_f rfl ?_ | refine wdW_cons rfl ?_ | refine T_ret ?_ | refine leave_of (.inr rfl) _ rfl ?_ | refine leave_of (.inl rfl) _ rfl ?_ | refine wif_intro ?_ (fun hc => ?_) | refine And.intro ?_ ?_ | intro hc) | simp (maxSteps := 4000000) only [wops_nil, wops_cons, wstep_none, wrun_mv, wrun_bin, wrun_len, wop, aop, ev, look, put_some, writes, ores_some, ores_map, ores_bind, binV, thenK, intV, lenOf, hget, List.map_cons, List.map_nil, List.length_nil, List.append_nil, List.replicate_zero, List.zipIdx_cons, List.zipIdx_nil, Option.pure_def, Option.bind_eq_bind, Option.map_some, if_true, if_false, Nat.reduceEqDiff, Nat.reduceAdd, Nat.zero_add, Nat.zero_ne_one, reduceCtorEq, eq_self, *] | simp (disch := omega) only [getD_ints, wrapI] | omega)
  refine T_for [0, 1, 5] (fun _ => ⟨[(0, .sl true 0 []), (1, .sl true 0 []), (5, i64 0)], []⟩) 0 (fun _ => True) 0 rfl trivial (Nat.le_refl _) ?_
  intro k hk _
  unfold c11l0
  repeat' (first | ((with_reducible refine T_calm ?_ ?_); rfl) | (with_reducible first | refine T_seq ?_ | refine T_reg ?_ | refine T_draw ?_ | refine T_skip ?_ | refine T_exit ?_ | refine T_block ?_ | refine T_cond_t rfl ?_ | refine T_cond_f rfl ?_ | refine wdW_cons rfl ?_ | refine T_ret ?_ | refine leave_of (.inr rfl) _ rfl ?_ | refine leave_of (.inl rfl) _ rfl ?_ | refine wif_intro ?_ (fun hc => ?_) | refine And.intro ?_ ?_ | intro hc) | simp (maxSteps := 4000000) only [wops_nil, wops_cons, wstep_none, wrun_mv, wrun_bin, wrun_len, get_mk, wop, aop, ev, look, put_some, writes, ores_some, ores_map, ores_bind, binV, thenK, blockK, intV, lenOf, hget, tupOf, List.length_nil, List.append_nil, List.replicate_zero, Option.pure_def, Option.bind_eq_bind, Option.map_some, if_true, if_false, Nat.reduceEqDiff, reduceCtorEq, eq_self, and_true, false_and, ren, Nat.not_lt_zero, Int.natCast_zero, *] | simp (disch := omega) only [getD_ints, wrapI] | omega)
  all_goals first | rfl
set_option maxHeartbeats 8000000 in
theorem k10i {z : Int} {nil : Bool} {l : List Rd} {R : AV} {new : List Blk} (r : Rd) (hl : l.length < 900000)
    (hT : T none Tryz.prog muts 42 0 c10r1 ⟨[(0, i64 z), (1, rdgs nil l), (8, .lsl 0 0 (l.length + 1))], [.cells true false 4 (rows4 (l ++ [r]))]⟩ (leave 0 [ARes.tmp 6, ARes.tmp 7] fun r' H' => r' = R ∧ H' = new)) :
    Fn Tryz.prog 10 [i64 z, rdgs nil l, rdV r] R new := by
  refine fn_of e10 ?_
  have hrl := rows4_len l
  have hm : rows4 l ++ [rrow r] = rows4 (l ++ [r]) := by simp [rows4]
  have ht : List.take l.length (rows4 l) = rows4 l := by rw [List.take_of_length_le (by omega)]
  rw [c10_cut]
  generalize l ++ [r] = m at *
  generalize hq : c10r1 = q at *
  replace hT := And.intro hT trivial
  repeat' (first | ((with_reducible refine T_calm ?_ ?_); rfl) | (with_reducible first | refine T_seq ?_ | refine T_reg ?_ | refine T_draw ?_ | refine T_skip ?_ | refine T_exit ?_ | refine T_block ?_ | refine T_cond_t rfl ?_ | refine T_cond_f rfl ?_ | refine wdW_cons rfl ?_ | refine T_ret ?_ | refine leave_of (.inr rfl) _ rfl ?_ | refine leave_of (.inl rfl) _ rfl ?_ | refine wif_intro ?_ (fun hc => ?_) | refine And.intro ?_ ?_ | intro hc) | simp (maxSteps := 4000000) only [wops_nil, wops_cons, wstep_none, wrun_mv, wrun_load, wrun_box, wrun_bslice, wrun_app, wrunX_mv, wrunX_load, wrunX_bslice, wrunX_app, wdW_nil, wstepX_none, wop, aop, ev, look, put_some, writes, ores_some, ores_ite_none, thenK, elsOf, szOk, value, cut, hget, fillA, putCells, AV.parts, isOne, toLits, mkAgg, ofValue_int, List.flatten_cons, List.flatten_nil, rowsOf, List.map_cons, List.map_nil, List.length_cons, List.length_nil, List.getElem?_cons_zero, List.getElem?_cons_succ, List.set_cons_zero, List.set_cons_succ, List.take_succ_cons, List.take_zero, List.take_nil, List.drop_succ_cons, List.drop_zero, List.drop_nil, List.cons_append, List.nil_append, List.append_nil, List.replicate_zero, List.replicate_succ, List.getD_cons_zero, List.zipIdx_cons, List.zipIdx_nil, List.all_cons, List.all_nil, List.isEmpty_cons, Option.getD_some, Option.map_some, if_true, if_false, Nat.reduceEqDiff, Nat.reduceAdd, Nat.add_zero, Nat.zero_add, Nat.sub_zero, Nat.sub_self, Nat.zero_mul, Nat.le_refl, Nat.zero_ne_one, reduceCtorEq, Bool.and_true, Bool.and_false, Bool.false_and, Bool.or_true, eq_self, true_and, and_self, beq_self_eq_true, List.all_cons, *] | simp (disch := omega) only [getD_ints, wrapI] | omega)
  refine T_keep [0, 1, 8] [4] (S := ⟨[(0, i64 z), (1, rdgs nil l), (8, .lsl 0 0 (l.length + 1))], [.cells true false 4 (rows4 m)]⟩) (by simp) (by simp) ?_ ?_
  · simp [St.keep, get_mk, look, ren, renB, renO, keepρ, pos, hget, renR_rows4]
  · exact hT.1
set_option maxHeartbeats 8000000 in
theorem k10e {z : Int} {nil : Bool} {l : List Rd} (r : Rd) (hl : l.length < 900000) (h : checkR z l ≠ 0) : Fn Tryz.prog 10 [i64 z, rdgs nil l, rdV r] (.tup [.sl true 0 [], i64 (checkR z l)]) [] := by
  have h8 := k8 z nil l (by omega)
  generalize checkR z l = e at *
  have hd : (e != 0) = true := by simp only [bne_iff_ne]; exact h
  refine k10i r hl ?_
  generalize l ++ [r] = m at *
  unfold c10r1
  repeat' (first | ((with_reducible refine T_calm ?_ ?_); rfl) | (with_reducible first | refine T_seq ?_ | refine T_reg ?_ | refine T_draw ?_ | refine T_skip ?_ | refine T_exit ?_ | refine T_block ?_ | refine T_cond_t rfl ?_ | refine T_cond_f rfl ?_ | refine wdW_cons rfl ?_ | refine T_ret ?_ | refine leave_of (.inr rfl) _ rfl ?_ | refine leave_of (.inl rfl) _ rfl ?_ | refine wif_intro ?_ (fun hc => ?_) | refine And.intro ?_ ?_ | intro hc) | simp (maxSteps := 4000000) only [wops_nil, wops_cons, wstep_none, wrun_mv, wrun_build, wop, aop, ev, look, put_some, writes, ores_some, ores_ite_none, ores_map, wif_true, thenK, fillA, putCells, AV.parts, isOne, toLits, mkAgg, List.map_cons, List.map_nil, List.length_cons, List.length_nil, List.take_succ_cons, List.take_zero, List.drop_succ_cons, List.drop_zero, List.drop_nil, List.cons_append, List.nil_append, List.append_nil, List.append_assoc, List.replicate_zero, List.all_cons, List.all_nil, List.length_append, if_true, if_false, Nat.reduceEqDiff, Nat.reduceAdd, Nat.reduceLeDiff, Nat.zero_add, Nat.le_refl, Nat.zero_ne_one, reduceCtorEq, Bool.and_true, eq_self, true_and, and_true, and_self, List.all_cons, *] | simp (disch := omega) only [getD_ints, wrapI] | omega)
  refine T_for [0, 8, 22, 23] (fun _ => ⟨[(0, i64 z), (8, .lsl 0 0 (l.length + 1)), (22, .agg [rdgs nil l, .lsl 0 0 (l.length + 1)]), (23, i64 0)], [.cells true false 4 (rows4 m)]⟩) 0 (fun _ => True) 0 ?_ trivial (Nat.le_refl _) ?_
  · simp [St.only, get_mk, look]
  intro k hk _
  unfold c10l0
  repeat' (first | ((with_reducible refine T_calm ?_ ?_); rfl) | (with_reducible first | refine T_seq ?_ | refine T_reg ?_ | refine T_draw ?_ | refine T_skip ?_ | refine T_exit ?_ | refine T_block ?_ | refine T_cond_t rfl ?_ | refine T_cond_f rfl ?_ | refine wdW_cons rfl ?_ | (show wcall _ false (.lit (.func (.func 8) _ _)) _ _ _ _; refine wcall_fn (h8) rfl (by simp [plainL, plain]) ?_) | (show wcallX _ false (.lit (.func (.func 8) _ _)) _ _ _ _; refine wcallX_fn (h8) rfl (by simp [plainL, plain, plainR, Int.toNat_zero]) ?_) | refine T_ret ?_ | refine leave_of (.inr rfl) _ rfl ?_ | refine leave_of (.inl rfl) _ rfl ?_ | refine wif_intro ?_ (fun hc => ?_) | refine And.intro ?_ ?_ | intro hc) | simp (maxSteps := 4000000) only [wops_nil, wops_cons, wstep_none, wrun_call, wrun_mv, wrun_bin, wrun_idxA, get_mk, wop, aop, ev, look, put_some, writes, ores_some, ores_ite_none, binV, thenK, blockK, value, cut, toLits, mkAgg, tupOf, List.map_cons, List.map_nil, List.length_cons, List.length_nil, List.take_succ_cons, List.take_zero, List.drop_zero, List.append_nil, List.replicate_zero, Option.map_some, if_true, if_false, Nat.reduceEqDiff, Nat.zero_add, Nat.mul_one, reduceCtorEq, Bool.false_eq_true, eq_self, and_true, false_and, freeze, lidsL, lids, List.flatMap_cons, List.flatMap_nil, ren, renL, renR, Nat.not_lt_zero, Int.toNat_zero, *] | simp (disch := omega) only [getD_ints, wrapI] | (with_reducible show wcall _ false (.lit (.func (.func 8) _ _)) _ _ _ _; refine wcall_fn (h8) ?_ ?_ ?_; (next => simp [rfyL, rfy, hget, ints, take_rfy, Int.toNat_zero]); (next => simp [plainL, plain, plainR, Int.toNat_zero])) | (with_reducible show wcallX _ false (.lit (.func (.func 8) _ _)) _ _ _ _; refine wcallX_fn (h8) ?_ ?_ ?_; (next => simp [rfyL, rfy, hget, ints, take_rfy, Int.toNat_zero]); (next => simp [plainL, plain, plainR, Int.toNat_zero])) | omega)
  all_goals first | rfl
set_option maxHeartbeats 8000000 in
theorem k10c {z : Int} {nil : Bool} {l : List Rd} (r : Rd) (hl : l.length < 900000) (h : checkR z l = 0) (h29 : Fn Tryz.prog 29 [i64 z, rdgs nil l] (.tup [.sl true 0 [], bl false]) []) : Fn Tryz.prog 10 [i64 z, rdgs nil l, rdV r] (.tup [.sl true 0 [], i64 13]) [] := by
  have h8 := k8 z nil l (by omega)
  rw [h] at h8
  refine k10i r hl ?_
  generalize l ++ [r] = m at *
  unfold c10r1
  repeat' (first | ((with_reducible refine T_calm ?_ ?_); rfl) | (with_reducible first | refine T_seq ?_ | refine T_reg ?_ | refine T_draw ?_ | refine T_skip ?_ | refine T_exit ?_ | refine T_block ?_ | refine T_cond_t rfl ?_ | refine T_cond_f rfl ?_ | refine wdW_cons rfl ?_ | refine T_ret ?_ | refine leave_of (.inr rfl) _ rfl ?_ | refine leave_of (.inl rfl) _ rfl ?_ | refine wif_intro ?_ (fun hc => ?_) | refine And.intro ?_ ?_ | intro hc) | simp (maxSteps := 4000000) only [wops_nil, wops_cons, wstep_none, wrun_mv, wrun_build, wop, aop, ev, look, put_some, writes, ores_some, ores_ite_none, ores_map, wif_true, thenK, fillA, putCells, AV.parts, isOne, toLits, mkAgg, List.map_cons, List.map_nil, List.length_cons, List.length_nil, List.take_succ_cons, List.take_zero, List.drop_succ_cons, List.drop_zero, List.drop_nil, List.cons_append, List.nil_append, List.append_nil, List.append_assoc, List.replicate_zero, List.all_cons, List.all_nil, List.length_append, if_true, if_false, Nat.reduceEqDiff, Nat.reduceAdd, Nat.reduceLeDiff, Nat.zero_add, Nat.le_refl, Nat.zero_ne_one, reduceCtorEq, Bool.and_true, eq_self, true_and, and_true, and_self, List.all_cons, *] | simp (disch := omega) only [getD_ints, wrapI] | omega)
  refine T_for [0, 8, 22, 23] (fun _ => ⟨[(0, i64 z), (8, .lsl 0 0 (l.length + 1)), (22, .agg [rdgs nil l, .lsl 0 0 (l.length + 1)]), (23, i64 0)], [.cells true false 4 (rows4 m)]⟩) 0 (fun _ => True) 0 ?_ trivial (Nat.le_refl _) ?_
  · simp [St.only, get_mk, look]
  intro k hk _
  unfold c10l0
  repeat' (first | ((with_reducible refine T_calm ?_ ?_); rfl) | (with_reducible first | refine T_seq ?_ | refine T_reg ?_ | refine T_draw ?_ | refine T_skip ?_ | refine T_exit ?_ | refine T_block ?_ | refine T_cond_t rfl ?_ | refine T_cond_f rfl ?_ | refine wdW_cons rfl ?_ | (show wcall _ false (.lit (.func (.func 8) _ _)) _ _ _ _; refine wcall_fn (h8) rfl (by simp [plainL, plain]) ?_) | (show wcallX _ false (.lit (.func (.func 8) _ _)) _ _ _ _; refine wcallX_fn (h8) rfl (by simp [plainL, plain, plainR, Int.toNat_zero]) ?_) | (show wcall _ false (.lit (.func (.func 29) _ _)) _ _ _ _; refine wcall_fn (h29) rfl (by simp [plainL, plain]) ?_) | (show wcallX _ false (.lit (.func (.func 29) _ _)) _ _ _ _; refine wcallX_fn (h29) rfl (by simp [plainL, plain, plainR, Int.toNat_zero]) ?_) | refine T_ret ?_ | refine leave_of (.inr rfl) _ rfl ?_ | refine leave_of (.inl rfl) _ rfl ?_ | refine wif_intro ?_ (fun hc => ?_) | refine And.intro ?_ ?_ | intro hc) | simp (maxSteps := 4000000) only [wops_nil, wops_cons, wstep_none, wrun_call, wrun_mv, wrun_bin, wrun_not, wrun_ext, wrun_idxA, get_mk, wop, aop, ev, look, put_some, writes, ores_some, ores_ite_none, binV, thenK, blockK, boolV, value, cut, toLits, mkAgg, tupOf, List.map_cons, List.map_nil, List.length_cons, List.length_nil, List.getElem?_cons_zero, List.getElem?_cons_succ, List.take_succ_cons, List.take_zero, List.drop_zero, List.append_nil, List.replicate_zero, Option.map_some, if_true, if_false, Nat.reduceEqDiff, Nat.zero_add, Nat.mul_one, reduceCtorEq, Bool.not_false, Bool.false_eq_true, eq_self, and_true, false_and, freeze, lidsL, lids, List.flatMap_cons, List.flatMap_nil, ren, renL, renR, Nat.not_lt_zero, Int.toNat_zero, *] | simp (disch := omega) only [getD_ints, wrapI] | (with_reducible show wcall _ false (.lit (.func (.func 8) _ _)) _ _ _ _; refine wcall_fn (h8) ?_ ?_ ?_; (next => simp [rfyL, rfy, hget, ints, take_rfy, Int.toNat_zero]); (next => simp [plainL, plain, plainR, Int.toNat_zero])) | (with_reducible show wcallX _ false (.lit (.func (.func 8) _ _)) _ _ _ _; refine wcallX_fn (h8) ?_ ?_ ?_; (next => simp [rfyL, rfy, hget, ints, take_rfy, Int.toNat_zero]); (next => simp [plainL, plain, plainR, Int.toNat_zero])) | (with_reducible show wcall _ false (.lit (.func (.func 29) _ _)) _ _ _ _; refine wcall_fn (h29) ?_ ?_ ?_; (next => simp [rfyL, rfy, hget, ints, take_rfy, Int.toNat_zero]); (next => simp [plainL, plain, plainR, Int.toNat_zero])) | (with_reducible show wcallX _ false (.lit (.func (.func 29) _ _)) _ _ _ _; refine wcallX_fn (h29) ?_ ?_ ?_; (next => simp [rfyL, rfy, hget, ints, take_rfy, Int.toNat_zero]); (next => simp [plainL, plain, plainR, Int.toNat_zero])) | omega)
  all_goals first | rfl
theorem some_neg {f : Nat → Int} {z : Nat} (h : ¬ ∀ r, r ≤ z → 0 ≤ f r) : ∃ r, r ≤ z ∧ f r < 0 := by
  rcases Classical.em (∃ r, r ≤ z ∧ f r < 0) with h1 | h1
  · exact h1
  · exact (h fun r hr => by
      rcases Int.lt_or_le (f r) 0 with h2 | h2
      · exact (h1 ⟨r, hr, h2⟩).elim
      · exact h2).elim
theorem adds (zi : Int) (nil : Bool) (l : List Rd) (r : Rd) (hl : l.length < 900000) :
    (∃ e : Int, Fn Tryz.prog 9 [i64 zi, rdgs false l, rdV r] (.tup [.sl true 0 [], i64 e]) [] ∧ Fn Tryz.prog 10 [i64 zi, rdgs nil l, rdV r] (.tup [.sl true 0 [], i64 e]) []) ∨
    (Fn Tryz.prog 9 [i64 zi, rdgs false l, rdV r] (.tup [.lsl 0 0 (l.length + 1), i64 0]) [.cells false false 4 (rows4 (l ++ [r]))] ∧ Fn Tryz.prog 10 [i64 zi, rdgs nil l, rdV r] (.tup [.lsl 0 0 (l.length + 1), i64 0]) [.cells false false 4 (rows4 (l ++ [r]))]) := by
  by_cases hc : checkR zi l = 0
  · obtain ⟨hz, hlm, hrd⟩ := checkR_ok hc
    obtain ⟨z, rfl⟩ : ∃ z : Nat, zi = z := ⟨zi.toNat, by omega⟩
    by_cases hcy : ∀ r, r ≤ z → 0 ≤ (rnds (arcsL l l.length) z (r + 1)).at_
    · exact .inl ⟨13, k9c r hc hcy, k10c r hl hc ((k29 (nil := nil) hc).2 hcy)⟩
    · have hr := some_neg hcy
      have h29 := (k29 (nil := nil) hc).1 hr
      have h8 := k8 z nil l (by omega)
      rw [hc] at h8
      have h9 := k9n (z := z) r hl hc hr
      have h8m := k8 z false (l ++ [r]) (by simp; omega)
      by_cases hcm : checkR z (l ++ [r]) = 0
      · rw [hcm] at h8m
        by_cases hcy2 : ∀ r', r' ≤ z → 0 ≤ (rnds (arcsL (l ++ [r]) (l ++ [r]).length) z (r' + 1)).at_
        · exact .inl ⟨13, h9.2.1 hcm hcy2, k10 (m := l ++ [r]) (R := .tup [.sl true 0 [], i64 13]) (new := []) r 0 hl rfl h8 h29 h8m (.inr (.inl ⟨rfl, rfl, rfl, (k29 (nil := false) hcm).2 hcy2⟩))⟩
        · have hr2 := some_neg hcy2
          exact .inr ⟨h9.2.2 hcm hr2, k10 (m := l ++ [r]) (R := .tup [.lsl 0 0 (l.length + 1), i64 0]) (new := [.cells false false 4 (rows4 (l ++ [r]))]) r 0 hl rfl h8 h29 h8m (.inr (.inr ⟨rfl, rfl, rfl, _, (k29 (nil := false) hcm).1 hr2⟩))⟩
      · exact .inl ⟨_, h9.1 hcm, k10 (m := l ++ [r]) (R := .tup [.sl true 0 [], i64 (checkR z (l ++ [r]))]) (new := []) r _ hl rfl h8 h29 h8m (.inl ⟨hcm, rfl, rfl⟩)⟩
  · exact .inl ⟨_, k9e r (by omega) hc, k10e r hl hc⟩
end Go.Abs
