import Derived.Test.YtdedhipkncagjaaK374x
set_option linter.all false
set_option linter.unusedVariables false
set_option linter.unusedSimpArgs false
set_option linter.unusedSectionVars false
namespace Go.Abs
open Go.Proofs
/-! WearOf of no sessions -/
set_option maxHeartbeats 8000000 in
theorem k66z {H : List Blk} {a c : Nat} {o' nn' : Bool} (hD : H[c]? = some (.cells o' nn' 1 [[.sl true 0 []]])) : ClA 66 [.loc c 0 0, .loc a 0 0] H 0 := by
  intro H0 hx0
  refine envOf_all e66 ?_
  obtain ⟨o2, h1⟩ := hx0.cell hD
  have hx9 := PLift.up (Ext.refl H0)
  clear hx0 hD
  unfold c66
  repeat' (first | (with_reducible first | refine T_seq ?_ | refine T_reg ?_ | refine T_skip ?_ | refine T_exit ?_ | refine T_block ?_ | refine T_cond_t rfl ?_ | refine T_cond_f rfl ?_ | refine T_ret ?_ | refine wif_intro ?_ (fun hc => ?_) | refine And.intro ?_ ?_ | intro hc) | simp (maxSteps := 4000000) only [wops_nil, wops_cons, wstep_none, wrun_mv, wrun_bin, wrun_load, wrun_len, wop, aop, ev, look, put_some, writes, ores_some, ores_map, ores_bind, binV, thenK, intV, lenOf, value, cut, hget, toLits, mkAgg, List.map_cons, List.map_nil, List.length_cons, List.length_nil, List.take_succ_cons, List.take_nil, List.drop_zero, List.append_nil, List.replicate_zero, List.getD_cons_zero, List.zipIdx_cons, List.zipIdx_nil, Option.pure_def, Option.bind_eq_bind, Option.getD_some, Option.map_some, if_true, if_false, Nat.reduceEqDiff, Nat.reduceAdd, Nat.zero_add, reduceCtorEq, Bool.false_eq_true, eq_self, *] | simp (disch := omega) only [getD_ints, wrapI] | omega)
  refine T_forP [1, 8, 9, 10] (fun k => [(1, .loc a 0 0), (8, .sl true 0 []), (9, i64 0), (10, i64 k)]) 0 (fun k H => H = H0) 0 ?_ rfl (Nat.zero_le _) ?_
  · simp [St.only, get_mk, look]
  intro k H hk hHe
  subst hHe
  have hke : k = 0 := by omega
  subst hke
  have hkk : decide (((0 : Nat) : Int) < 0) = false := by simp
  unfold c66l0
  repeat' (first | (with_reducible first | refine T_seq ?_ | refine T_reg ?_ | refine T_skip ?_ | refine T_exit ?_ | refine T_block ?_ | refine T_cond_t rfl ?_ | refine T_cond_f rfl ?_ | refine T_ret ?_ | refine wif_intro ?_ (fun hc => ?_) | refine And.intro ?_ ?_ | intro hc) | simp (maxSteps := 4000000) only [wops_nil, wops_cons, wstep_none, wrun_mv, wrun_bin, wop, aop, ev, look, put_some, writes, ores_some, binV, thenK, blockK, List.append_nil, List.replicate_zero, Option.map_some, if_true, if_false, Nat.reduceEqDiff, Nat.zero_add, reduceCtorEq, eq_self, false_and, Nat.not_lt_zero, *] | simp (disch := omega) only [getD_ints, wrapI] | omega)
  all_goals first | exact ⟨_, rfl, rfl, hx9.down⟩
set_option maxHeartbeats 8000000 in
theorem k43z (nil : Bool) (l : List Sk) (b : ByteArray) (hS : SOk l) : Fn Try.prog 43 [sts nil l, .sl true 0 [], tx b] (.lsl 0 0 (l.getD 0 sk0).wr.length) [iC (wrL l [] b)] := by
  refine fn_of e43 ?_
  have hll := skR_len l
  have g0 := skR_get (l := l) (k := 0) hS.pos
  have hpos := hS.pos
  have hS12 := hS.few
  have hl0 : (0 : Int) < (l.length : Int) := by omega
  have hw0 : ((l.getD 0 sk0).wr.map fun x => [i64 x]).length = (l.getD 0 sk0).wr.length := by simp
  have hz40 := hS.zon
  have e206 : fR (l.getD 0 sk0).wr.length (wz l [] b 0) = (wrL l [] b).map fun x => [i64 x] := fR_eq _ _
  have e0 : fR (l.getD 0 sk0).wr.length (wz l [] b 0) = List.replicate (l.getD 0 sk0).wr.length [i64 0] := (fR_zero _).symm
  rw [e0] at e206
  generalize wrL l [] b = W at *
  replace e206 := PLift.up e206
  generalize (l.getD 0 sk0).wr.length = n at *
  clear hS e0
  unfold c43
  repeat' (first | ((with_reducible refine T_calm ?_ ?_); rfl) | (with_reducible first | refine T_seq ?_ | refine T_reg ?_ | refine T_draw ?_ | refine T_skip ?_ | refine T_exit ?_ | refine T_block ?_ | refine T_cond_t rfl ?_ | refine T_cond_f rfl ?_ | refine wdW_cons rfl ?_ | refine T_ret ?_ | refine leave_ids (.inr rfl) _ [0] rfl (by simp) (by simp) ?_ | refine leave_ids (.inl rfl) _ [0] rfl (by simp) (by simp) ?_ | refine leaveA_of (.inr rfl) _ rfl ?_ | refine leaveA_of (.inl rfl) _ rfl ?_ | refine wif_intro ?_ (fun hc => ?_) | refine And.intro ?_ ?_ | intro hc) | simp (maxSteps := 4000000) only [wops_nil, wops_cons, wstep_none, wrun_mv, wrun_load, wrun_faddr, wrun_iaddrS, wrun_len, wrun_mks, wop, aop, ev, look, put_some, writes, ores_some, ores_ite_none, ores_map, ores_bind, thenK, intV, lenOf, value, cut, hget, mkAgg, List.map_cons, List.map_nil, List.length_cons, List.length_nil, List.getElem?_cons_zero, List.set_cons_zero, List.take_succ_cons, List.take_nil, List.drop_succ_cons, List.drop_zero, List.nil_append, List.append_nil, List.replicate_zero, List.replicate_succ, List.zipIdx_cons, List.zipIdx_nil, Option.pure_def, Option.bind_eq_bind, Option.map_some, if_true, if_false, Nat.reduceEqDiff, Nat.reduceAdd, Nat.add_zero, Nat.zero_add, Nat.zero_ne_one, reduceCtorEq, Bool.false_eq_true, eq_self, true_and, and_true, and_self, Int.toNat_natCast, Int.toNat_zero, *] | simp (disch := omega) only [getD_ints, wrapI] | omega)
  refine T_forP [0, 2, 7, 18, 19, 20] (fun k => [(0, sts nil l), (2, tx b), (7, .lsl 0 0 n), (18, .sl true 0 []), (19, i64 0), (20, i64 k)]) 0 (fun k H => ∃ X, H = .cells true false 1 (List.replicate n [i64 0]) :: X) 0 ?_ ⟨[], rfl⟩ (Nat.zero_le _) ?_
  · simp [St.only, get_mk, look]
  intro k H hk ⟨X, hH⟩
  subst hH
  have hke : k = 0 := by omega
  subst hke
  have hkk : decide (((0 : Nat) : Int) < 0) = false := by simp
  rw [e206.down]
  clear e206
  unfold c43l1
  repeat' (first | ((with_reducible refine T_calm ?_ ?_); rfl) | (with_reducible first | refine T_seq ?_ | refine T_reg ?_ | refine T_draw ?_ | refine T_skip ?_ | refine T_exit ?_ | refine T_block ?_ | refine T_cond_t rfl ?_ | refine T_cond_f rfl ?_ | refine wdW_cons rfl ?_ | refine T_ret ?_ | refine leave_ids (.inr rfl) _ [0] rfl (by simp) (by simp) ?_ | refine leave_ids (.inl rfl) _ [0] rfl (by simp) (by simp) ?_ | refine leaveA_of (.inr rfl) _ rfl ?_ | refine leaveA_of (.inl rfl) _ rfl ?_ | refine wif_intro ?_ (fun hc => ?_) | refine And.intro ?_ ?_ | intro hc) | simp (maxSteps := 4000000) only [wops_nil, wops_cons, wstep_none, wrun_mv, wrun_bin, get_mk, wop, aop, ev, look, put_some, writes, ores_some, binV, thenK, blockK, hget, tupOf, List.map_cons, List.map_nil, List.length_cons, List.getElem?_cons_zero, List.append_nil, List.replicate_zero, Option.getD_some, Option.map_some, Option.map_none, if_true, if_false, Nat.reduceEqDiff, Nat.zero_add, reduceCtorEq, eq_self, false_and, ren, renB, renO, keepρ, pos, Nat.not_lt_zero, renR_ints, renR_ints, *] | simp (disch := omega) only [getD_ints, wrapI] | omega)
  all_goals first | rfl
theorem first29z {b : Bool} {m : Nat} {E : List (List AV)} {l : List Sk} {mi : ByteArray} (hV : StV l b m E) (hmi : mi.size < 1000000) : ∀ (H : List Blk) (id x y z u : Nat) (o nl o1 n1 o2 n2' o3 n3 o4 n4 : Bool), H[id]? = some (.cells o nl 1 [[.clo (.func 62) [] [.loc x 0 0]], [.clo (.func 66) [] [.loc z 0 0, .loc y 0 0]], [.clo (.func 69) [] [.loc u 0 0]]]) → H[x]? = some (.cells o1 n1 1 [[.sl b m E]]) → H[y]? = some (.cells o2 n2' 1 [[.sl b m E]]) → H[z]? = some (.cells o3 n3 1 [[.sl true 0 []]]) → H[u]? = some (.cells o4 n4 1 [[tx mi]]) →
      ACall Try.prog 38 [.lsl id 0 3] H fun r H' => r = i64 (if sE l ≠ 0 then sE l else if (0 : Int) ≠ 0 then 0 else mrE mi) ∧ Ext H H' := fun H id x y z u o nl o1 n1 o2 n2' o3 n3 o4 n4 h1 h2 h200 h201 h202 =>
  first3 h1 (k62 hV.p h2 hV.f) (e2 := 0) (e200 := mrE mi) (fun _ => k66z h201) fun _ _ => k69 hmi h202
set_option maxHeartbeats 8000000 in
theorem k18z {nil : Bool} {l : List Sk} {mi : ByteArray} (hV : StV l nil 2 (skR l)) (hmi : mi.size < 1000000) (h0 : sE l = 0) (h1 : mrE mi = 0) : Fn Try.prog 18 [sts nil l, .sl true 0 [], tx mi] (.tup [.lsl 0 0 (l.getD 0 sk0).wr.length, i64 0]) [iC (wrL l [] mi)] := by
  refine fn_of e18 ?_
  have h39 := k39 (b := nil) (m := 2) (plainR_sk l)
  have h41 := k41 (b := nil) (m := 2) (b2 := true) (m2 := 0) (E2 := []) (plainR_sk l) rfl
  have h44 := k44 mi
  have hcall := first29z hV hmi
  rw [if_neg (fun h => h h0), if_neg (fun h => h rfl), h1] at hcall
  have h43 := k43z nil l mi (sE_ok h0)
  generalize wrL l [] mi = W at *
  generalize (l.getD 0 sk0).wr.length = n at *
  replace hcall := PLift.up hcall
  clear hV h0 h1
  unfold c18
  repeat' (first | (with_reducible first | refine T_seq ?_ | refine T_reg ?_ | refine T_skip ?_ | refine T_exit ?_ | refine T_block ?_ | refine T_cond_t rfl ?_ | refine T_cond_f rfl ?_ | (show wcall _ false (.lit (.func (.func 39) _ _)) _ _ _ _; refine wcall_fn (h39) rfl (by simp [plainL, plain, plainR_sk]) ?_) | (show wcall _ false (.lit (.func (.func 41) _ _)) _ _ _ _; refine wcall_fn (h41) rfl (by simp [plainL, plain, plainR, plainR_sk]) ?_) | (show wcall _ false (.lit (.func (.func 44) _ _)) _ _ _ _; refine wcall_fn (h44) rfl (by simp [plainL, plain]) ?_) | refine T_ret ?_ | refine leave_of (.inr rfl) _ rfl ?_ | refine leave_of (.inl rfl) _ rfl ?_ | refine leaveA_of (.inr rfl) _ rfl ?_ | refine leaveA_of (.inl rfl) _ rfl ?_ | refine wif_intro ?_ (fun hc => ?_) | refine And.intro ?_ ?_ | intro hc) | simp (maxSteps := 4000000) only [wops_nil, wops_cons, wstep_none, wrun_call, wrun_mv, wrun_bslice, wop, aop, ev, look, put_some, writes, ores_some, thenK, fillA, putCells, AV.parts, isOne, List.flatten_cons, List.flatten_nil, rowsOf, List.map_cons, List.map_nil, List.length_cons, List.length_nil, List.getElem?_cons_zero, List.set_cons_zero, List.take_succ_cons, List.take_zero, List.take_nil, List.drop_succ_cons, List.drop_zero, List.drop_nil, List.cons_append, List.nil_append, List.append_nil, List.replicate_zero, List.replicate_succ, List.zipIdx_cons, List.zipIdx_nil, List.all_cons, List.all_nil, if_true, if_false, Nat.reduceEqDiff, Nat.reduceAdd, Nat.reduceLeDiff, Nat.add_zero, Nat.zero_add, Nat.mul_one, Nat.le_refl, Nat.zero_ne_one, reduceCtorEq, Bool.and_true, eq_self, true_and, and_self, freeze, lidsL, lids, List.flatMap_cons, List.flatMap_nil, List.all_cons, ren, renL, renR, renB, shiftρ, renR_sk, *] | simp (disch := omega) only [getD_ints, wrapI] | (with_reducible show wcall _ false (.lit (.func (.func 39) _ _)) _ _ _ _; refine wcall_fn (h39) ?_ ?_ ?_; (next => simp [rfyL, rfy, hget, ints, take_rfy, plainR_sk, renR_sk]); (next => simp [plainL, plain, plainR, plainR_sk, renR_sk])) | (with_reducible show wcall _ false (.lit (.func (.func 41) _ _)) _ _ _ _; refine wcall_fn (h41) ?_ ?_ ?_; (next => simp [rfyL, rfy, hget, ints, take_rfy, plainR_sk, renR_sk]); (next => simp [plainL, plain, plainR, plainR_sk, renR_sk])) | (with_reducible show wcall _ false (.lit (.func (.func 44) _ _)) _ _ _ _; refine wcall_fn (h44) ?_ ?_ ?_; (next => simp [rfyL, rfy, hget, ints, take_rfy, plainR_sk, renR_sk]); (next => simp [plainL, plain, plainR, plainR_sk, renR_sk])) | omega)
  refine wcall_raw ((hcall.down _ 0 1 2 3 4 _ _ _ _ _ _ _ _ _ _ rfl rfl rfl rfl rfl).mono ?_)
  rintro r H' ⟨rfl, _⟩
  clear hcall h39 h41 h44
  have u1 : ∀ Y, (H' ++ Y)[H'.length]? = Y[0]? := fun Y => by rw [List.getElem?_append_right (Nat.le_refl _), Nat.sub_self]
  repeat' (first | (with_reducible first | refine T_seq ?_ | refine T_reg ?_ | refine T_skip ?_ | refine T_exit ?_ | refine T_block ?_ | refine T_cond_t rfl ?_ | refine T_cond_f rfl ?_ | (show wcall _ false (.lit (.func (.func 43) _ _)) _ _ _ _; refine wcall_fn (h43) rfl (by simp [plainL, plain, plainR, plainR_sk]) ?_) | refine T_ret ?_ | refine leave_ids (.inr rfl) _ [H'.length] rfl (by simp) (by simp) ?_ | refine leave_ids (.inl rfl) _ [H'.length] rfl (by simp) (by simp) ?_ | refine leaveA_of (.inr rfl) _ rfl ?_ | refine leaveA_of (.inl rfl) _ rfl ?_ | refine wif_intro ?_ (fun hc => ?_) | refine And.intro ?_ ?_ | intro hc) | simp (maxSteps := 4000000) only [wops_nil, wops_cons, wstep_none, wrun_call, wrun_mv, wrun_bin, get_mk, wop, aop, ev, look, put_some, writes, ores_some, binV, thenK, hget, tupOf, List.map_cons, List.map_nil, List.getElem?_cons_zero, List.append_nil, List.replicate_zero, Option.getD_some, Option.map_some, Option.map_none, if_true, if_false, Nat.reduceEqDiff, Nat.zero_add, Nat.zero_ne_one, reduceCtorEq, eq_self, freeze, lidsL, lids, List.flatMap_cons, List.flatMap_nil, ren, renL, renB, renO, keepρ, shiftρ, pos, Nat.not_lt_zero, renR_ints, renR_ints, *] | simp (disch := omega) only [getD_ints, wrapI] | (with_reducible show wcall _ false (.lit (.func (.func 43) _ _)) _ _ _ _; refine wcall_fn (h43) ?_ ?_ ?_; (next => simp [rfyL, rfy, hget, ints, take_rfy, plainR_sk, renR_ints]); (next => simp [plainL, plain, plainR, plainR_sk, renR_ints])) | omega)
  all_goals first | rfl
end Go.Abs
