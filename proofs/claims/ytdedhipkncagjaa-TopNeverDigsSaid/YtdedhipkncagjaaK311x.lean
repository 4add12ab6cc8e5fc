import Derived.Test.YtdedhipkncagjaaK309x
set_option linter.all false
set_option linter.unusedVariables false
set_option linter.unusedSimpArgs false
set_option linter.unusedSectionVars false
namespace Go.Abs
open Go.Proofs
/-! sessions: the closures, CheckSessions of the reference -/
set_option maxHeartbeats 8000000 in
theorem k41 {b b2 : Bool} {m m2 : Nat} {E E2 : List (List AV)} (hE : plainR E = true) (hE2 : plainR E2 = true) : Fn Try.prog 41 [.sl b m E, .sl b2 m2 E2] (.clo (.func 66) [] [.loc 1 0 0, .loc 0 0 0]) [.cells true false 1 [[.sl b m E]], .cells true false 1 [[.sl b2 m2 E2]]] := by
  refine fn_of e41 ?_
  unfold c41
  have hr := fun ρ => renR_plain ρ E hE
  have hr2 := fun ρ => renR_plain ρ E2 hE2
  repeat' (first | (with_reducible first | refine T_seq ?_ | refine T_reg ?_ | refine T_skip ?_ | refine T_exit ?_ | refine T_block ?_ | refine T_cond_t rfl ?_ | refine T_cond_f rfl ?_ | refine T_ret ?_ | refine leave_ids (.inr rfl) _ [0, 1] rfl (by simp) (by simp) ?_ | refine leave_ids (.inl rfl) _ [0, 1] rfl (by simp) (by simp) ?_ | refine leaveA_of (.inr rfl) _ rfl ?_ | refine leaveA_of (.inl rfl) _ rfl ?_ | refine wif_intro ?_ (fun hc => ?_) | refine And.intro ?_ ?_ | intro hc) | simp (maxSteps := 4000000) only [wops_nil, wops_cons, wstep_none, wrun_mv, wrun_mkf, wrun_box, get_mk, wop, aop, ev, look, put_some, writes, ores_some, thenK, hget, AV.parts, isOne, tupOf, List.map_cons, List.map_nil, List.length_cons, List.length_nil, List.getElem?_cons_zero, List.getElem?_cons_succ, List.set_cons_zero, List.set_cons_succ, List.nil_append, List.append_nil, List.replicate_zero, List.replicate_succ, List.zipIdx_cons, List.zipIdx_nil, List.all_cons, List.all_nil, Option.getD_some, Option.map_some, Option.map_none, if_true, if_false, Nat.reduceEqDiff, Nat.reduceAdd, Nat.add_zero, Nat.zero_add, Nat.zero_ne_one, reduceCtorEq, Bool.and_true, eq_self, true_and, and_self, List.all_cons, ren, renL, renR, renB, renO, keepρ, pos, Nat.not_lt_zero, *] | simp (disch := omega) only [getD_ints, wrapI] | omega)
  all_goals first | rfl
set_option maxHeartbeats 8000000 in
theorem k44 (b : ByteArray) : Fn Try.prog 44 [tx b] (.clo (.func 69) [] [.loc 0 0 0]) [.cells true false 1 [[tx b]]] := by
  refine fn_of e44 ?_
  unfold c44
  repeat' (first | (with_reducible first | refine T_seq ?_ | refine T_reg ?_ | refine T_skip ?_ | refine T_exit ?_ | refine T_block ?_ | refine T_cond_t rfl ?_ | refine T_cond_f rfl ?_ | refine T_ret ?_ | refine leave_ids (.inr rfl) _ [0] rfl (by simp) (by simp) ?_ | refine leave_ids (.inl rfl) _ [0] rfl (by simp) (by simp) ?_ | refine leaveA_of (.inr rfl) _ rfl ?_ | refine leaveA_of (.inl rfl) _ rfl ?_ | refine wif_intro ?_ (fun hc => ?_) | refine And.intro ?_ ?_ | intro hc) | simp (maxSteps := 4000000) only [wops_nil, wops_cons, wstep_none, wrun_mv, wrun_mkf, wrun_box, get_mk, wop, aop, ev, look, put_some, writes, ores_some, thenK, hget, AV.parts, isOne, tupOf, List.map_cons, List.map_nil, List.length_cons, List.length_nil, List.getElem?_cons_zero, List.set_cons_zero, List.nil_append, List.append_nil, List.replicate_zero, List.replicate_succ, List.zipIdx_cons, List.zipIdx_nil, List.all_cons, List.all_nil, Option.getD_some, Option.map_some, Option.map_none, if_true, if_false, Nat.reduceEqDiff, Nat.add_zero, Nat.zero_add, Nat.zero_ne_one, reduceCtorEq, Bool.and_true, eq_self, true_and, and_self, List.all_cons, ren, renL, renR, renB, renO, keepρ, pos, Nat.not_lt_zero, *] | simp (disch := omega) only [getD_ints, wrapI] | omega)
  all_goals first | rfl
def mrE (b : ByteArray) : Int := if nmB b = false then 4 else 0
set_option maxHeartbeats 8000000 in
theorem k69 {H : List Blk} {a : Nat} {o n : Bool} {b : ByteArray} (hb : b.size < 1000000) (hH : H[a]? = some (.cells o n 1 [[tx b]])) : ClA 69 [.loc a 0 0] H (mrE b) := by
  intro H0 hx0
  refine envOf_all e69 ?_
  obtain ⟨o', h0⟩ := hx0.cell hH
  have hx9 := PLift.up (Ext.refl H0)
  have h67 := k67 b hb
  clear hx0 hH
  unfold mrE
  cases a1 : nmB b with
  | false =>
    rw [a1] at h67
    rw [if_pos rfl]
    clear a1
    unfold c69
    repeat' (first | (with_reducible first | refine T_seq ?_ | refine T_reg ?_ | refine T_skip ?_ | refine T_exit ?_ | refine T_block ?_ | refine T_cond_t rfl ?_ | refine T_cond_f rfl ?_ | (show wcall _ false (.lit (.func (.func 67) _ _)) _ _ _ _; refine wcall_fn (h67) rfl (by simp [plainL, plain]) ?_) | refine T_ret ?_ | refine wif_intro ?_ (fun hc => ?_) | refine And.intro ?_ ?_ | intro hc) | simp (maxSteps := 4000000) only [wops_nil, wops_cons, wstep_none, wrun_call, wrun_mv, wrun_not, wrun_load, wop, aop, ev, look, put_some, writes, ores_some, thenK, boolV, value, cut, hget, toLits, mkAgg, List.map_cons, List.map_nil, List.length_cons, List.length_nil, List.take_succ_cons, List.take_nil, List.drop_zero, List.append_nil, List.replicate_zero, List.getD_cons_zero, List.zipIdx_cons, List.zipIdx_nil, Option.getD_some, Option.map_some, if_true, if_false, Nat.reduceEqDiff, Nat.zero_add, reduceCtorEq, Bool.not_false, Bool.false_eq_true, eq_self, freeze, lidsL, lids, List.flatMap_cons, List.flatMap_nil, ren, *] | simp (disch := omega) only [getD_ints, wrapI] | (with_reducible show wcall _ false (.lit (.func (.func 67) _ _)) _ _ _ _; refine wcall_fn (h67) ?_ ?_ ?_; (next => simp [rfyL, rfy, hget, ints, take_rfy, Int.toNat_natCast]); (next => simp [plainL, plain, plainR, Int.toNat_natCast])) | omega)
    all_goals first | exact ⟨_, rfl, rfl, hx9.down⟩
  | true =>
    rw [a1] at h67
    rw [if_neg (by simp)]
    clear a1
    unfold c69
    repeat' (first | (with_reducible first | refine T_seq ?_ | refine T_reg ?_ | refine T_skip ?_ | refine T_exit ?_ | refine T_block ?_ | refine T_cond_t rfl ?_ | refine T_cond_f rfl ?_ | (show wcall _ false (.lit (.func (.func 67) _ _)) _ _ _ _; refine wcall_fn (h67) rfl (by simp [plainL, plain]) ?_) | refine T_ret ?_ | refine wif_intro ?_ (fun hc => ?_) | refine And.intro ?_ ?_ | intro hc) | simp (maxSteps := 4000000) only [wops_nil, wops_cons, wstep_none, wrun_call, wrun_mv, wrun_not, wrun_load, wop, aop, ev, look, put_some, writes, ores_some, thenK, boolV, value, cut, hget, toLits, mkAgg, List.map_cons, List.map_nil, List.length_cons, List.length_nil, List.take_succ_cons, List.take_nil, List.drop_zero, List.append_nil, List.replicate_zero, List.getD_cons_zero, List.zipIdx_cons, List.zipIdx_nil, Option.getD_some, Option.map_some, if_true, if_false, Nat.reduceEqDiff, Nat.zero_add, reduceCtorEq, Bool.not_true, Bool.false_eq_true, eq_self, freeze, lidsL, lids, List.flatMap_cons, List.flatMap_nil, ren, *] | simp (disch := omega) only [getD_ints, wrapI] | (with_reducible show wcall _ false (.lit (.func (.func 67) _ _)) _ _ _ _; refine wcall_fn (h67) ?_ ?_ ?_; (next => simp [rfyL, rfy, hget, ints, take_rfy, Int.toNat_natCast]); (next => simp [plainL, plain, plainR, Int.toNat_natCast])) | omega)
    all_goals first | exact ⟨_, rfl, rfl, hx9.down⟩
abbrev SL102 (n2 : Bool) (s : List Ss) (a c k : Nat) : List (Nat × AV) := [(1, .loc a 0 0), (8, sss n2 s), (9, i64 s.length), (10, i64 k)]
set_option maxHeartbeats 8000000 in
theorem k66l {H : List Blk} {a c : Nat} {o nn nil n2 : Bool} {l : List Sk} {s : List Ss} {b : Nat} (hl : l.length < 1000000) (hl2 : s.length < 1000000) (hsz : ∀ k, k < s.length → (s.getD k ss0).mi.size < 1000000) (hH : H[a]? = some (.cells o nn 1 [[sts nil l]])) (K : Exit → St → Prop) {k : Nat} (hk : k < s.length)
    (hE : zEr l s k ≠ 0 → ∀ τ : St, Ext H τ.heap → τ.get 2 = i64 (zEr l s k) → K .ret τ) :
    T none Try.prog muts 31 b c66l0 ⟨SL102 n2 s a c k, H⟩ (thenK (fun s' => zEr l s k = 0 ∧ Ext H s'.heap ∧ (s'.only [1, 8, 9, 10]).slots = SL102 n2 s a c (k + 1)) K) := by
  have hll := ssR_len s
  have g1 := ssR_get hk
  have h67 := k67 (s.getD k ss0).mi (hsz k hk)
  have h68 := k68 nil l (s.getD k ss0).st hl
  have h65 := k65 (s.getD k ss0).mn 1 10000
  have hre : zEr l s k = if nmB (s.getD k ss0).mi = false then 4 else if decide (sAt l (s.getD k ss0).st < 0) = true then 6 else if (decide (1 ≤ (s.getD k ss0).mn) && decide ((s.getD k ss0).mn ≤ 10000)) = false then 2 else 0 := rfl
  have hkc : ((k : Int) < (s.length : Int)) := by omega
  obtain ⟨u1, u2, u3, u4⟩ := cells_sub (X := []) (H := H) rfl
  have a0 := at_in hH
  have l0 := (List.getElem?_eq_some_iff.1 hH).1
  have hx := PLift.up (fun X => Ext.app H X)
  generalize zEr l s k = E at *
  clear hsz hH
  cases a1 : nmB (s.getD k ss0).mi with
  | false =>
    rw [a1] at h67 hre
    rw [if_pos rfl] at hre
    subst hre
    have f := PLift.up (hE (by simp))
    clear hE a1 h68 h65
    unfold c66l0
    repeat' (first | (with_reducible first | refine T_seq ?_ | refine T_reg ?_ | refine T_skip ?_ | refine T_exit ?_ | refine T_block ?_ | refine T_cond_t rfl ?_ | refine T_cond_f rfl ?_ | (show wcall _ false (.lit (.func (.func 67) _ _)) _ _ _ _; refine wcall_fn (h67) rfl (by simp [plainL, plain]) ?_) | refine T_ret ?_ | refine wif_intro ?_ (fun hc => ?_) | refine And.intro ?_ ?_ | intro hc) | simp (maxSteps := 4000000) only [wops_nil, wops_cons, wstep_none, wrun_call, wrun_mv, wrun_bin, wrun_not, wrun_load, wrun_store, wrun_faddr, wrun_iaddrS, wrun_alloc, wop, aop, ev, look, put_some, put_none, writes, ores_some, ores_ite_none, binV, thenK, blockK, boolV, value, cut, hget, putCells, AV.parts, isOne, toLits, mkAgg, ofValue_int, ofValue_str, List.map_cons, List.map_nil, List.length_cons, List.length_nil, List.getElem?_cons_zero, List.set_cons_zero, List.take_succ_cons, List.take_zero, List.take_nil, List.drop_succ_cons, List.drop_zero, List.drop_nil, List.nil_append, List.append_nil, List.append_assoc, List.replicate_zero, List.replicate_succ, List.getD_cons_zero, List.all_cons, List.all_nil, List.length_append, Option.getD_some, Option.map_some, if_true, if_false, Nat.reduceEqDiff, Nat.reduceAdd, Nat.reduceLT, Nat.add_zero, Nat.zero_add, Nat.le_refl, reduceCtorEq, Bool.not_false, Bool.and_true, Bool.false_eq_true, eq_self, true_and, and_true, and_self, decide_true, freeze, lidsL, lids, List.flatMap_cons, List.flatMap_nil, List.all_cons, ren, Int.toNat_natCast, *] | simp (disch := omega) only [getD_ints, wrapI] | (with_reducible show wcall _ false (.lit (.func (.func 67) _ _)) _ _ _ _; refine wcall_fn (h67) ?_ ?_ ?_; (next => simp [rfyL, rfy, hget, ints, take_rfy, Int.toNat_natCast, plainR_sk, plainR_ss]); (next => simp [plainL, plain, plainR, Int.toNat_natCast, plainR_sk, plainR_ss])) | omega)
    all_goals first | exact f.down _ (hx.down _) rfl
  | true =>
    rw [a1] at h67 hre
    rw [if_neg (by simp)] at hre
    cases a2 : decide (sAt l (s.getD k ss0).st < 0) with
    | true =>
      rw [a2, if_pos rfl] at hre
      subst hre
      have f := PLift.up (hE (by simp))
      clear hE a1 h65
      unfold c66l0
      repeat' (first | (with_reducible first | refine T_seq ?_ | refine T_reg ?_ | refine T_skip ?_ | refine T_exit ?_ | refine T_block ?_ | refine T_cond_t rfl ?_ | refine T_cond_f rfl ?_ | (show wcall _ false (.lit (.func (.func 67) _ _)) _ _ _ _; refine wcall_fn (h67) rfl (by simp [plainL, plain]) ?_) | (show wcall _ false (.lit (.func (.func 68) _ _)) _ _ _ _; refine wcall_fn (h68) rfl (by simp [plainL, plain, plainR_sk]) ?_) | refine T_ret ?_ | refine wif_intro ?_ (fun hc => ?_) | refine And.intro ?_ ?_ | intro hc) | simp (maxSteps := 4000000) only [wops_nil, wops_cons, wstep_none, wrun_call, wrun_mv, wrun_bin, wrun_not, wrun_load, wrun_store, wrun_faddr, wrun_iaddrS, wrun_alloc, wop, aop, ev, look, put_some, put_none, writes, ores_some, ores_ite_none, binV, thenK, blockK, boolV, value, cut, hget, putCells, AV.parts, isOne, toLits, mkAgg, ofValue_int, ofValue_str, List.map_cons, List.map_nil, List.length_cons, List.length_nil, List.getElem?_cons_zero, List.set_cons_zero, List.take_succ_cons, List.take_zero, List.take_nil, List.drop_succ_cons, List.drop_zero, List.drop_nil, List.nil_append, List.append_nil, List.append_assoc, List.replicate_zero, List.replicate_succ, List.getD_cons_zero, List.all_cons, List.all_nil, List.length_append, Option.getD_some, Option.map_some, if_true, if_false, Nat.reduceEqDiff, Nat.reduceAdd, Nat.reduceLT, Nat.add_zero, Nat.zero_add, Nat.le_refl, reduceCtorEq, Bool.not_true, Bool.and_true, Bool.false_eq_true, eq_self, true_and, and_true, and_self, decide_true, freeze, lidsL, lids, List.flatMap_cons, List.flatMap_nil, List.all_cons, ren, Int.toNat_natCast, *] | simp (disch := omega) only [getD_ints, wrapI] | (with_reducible show wcall _ false (.lit (.func (.func 67) _ _)) _ _ _ _; refine wcall_fn (h67) ?_ ?_ ?_; (next => simp [rfyL, rfy, hget, ints, take_rfy, Int.toNat_natCast, plainR_sk, plainR_ss]); (next => simp [plainL, plain, plainR, Int.toNat_natCast, plainR_sk, plainR_ss])) | (with_reducible show wcall _ false (.lit (.func (.func 68) _ _)) _ _ _ _; refine wcall_fn (h68) ?_ ?_ ?_; (next => simp [rfyL, rfy, hget, ints, take_rfy, Int.toNat_natCast, plainR_sk, plainR_ss]); (next => simp [plainL, plain, plainR, Int.toNat_natCast, plainR_sk, plainR_ss])) | omega)
      all_goals first | exact f.down _ (hx.down _) rfl
    | false =>
      rw [a2, if_neg (by simp)] at hre
      cases a3 : (decide (1 ≤ (s.getD k ss0).mn) && decide ((s.getD k ss0).mn ≤ 10000)) with
      | false =>
        rw [a3] at hre h65
        rw [if_pos rfl] at hre
        subst hre
        have f := PLift.up (hE (by simp))
        clear hE a1 a3
        unfold c66l0
        repeat' (first | (with_reducible first | refine T_seq ?_ | refine T_reg ?_ | refine T_skip ?_ | refine T_exit ?_ | refine T_block ?_ | refine T_cond_t rfl ?_ | refine T_cond_f rfl ?_ | (show wcall _ false (.lit (.func (.func 67) _ _)) _ _ _ _; refine wcall_fn (h67) rfl (by simp [plainL, plain]) ?_) | (show wcall _ false (.lit (.func (.func 68) _ _)) _ _ _ _; refine wcall_fn (h68) rfl (by simp [plainL, plain, plainR_sk]) ?_) | (show wcall _ false (.lit (.func (.func 65) _ _)) _ _ _ _; refine wcall_fn (h65) rfl (by simp [plainL, plain]) ?_) | refine T_ret ?_ | refine wif_intro ?_ (fun hc => ?_) | refine And.intro ?_ ?_ | intro hc) | simp (maxSteps := 4000000) only [wops_nil, wops_cons, wstep_none, wrun_call, wrun_mv, wrun_bin, wrun_not, wrun_load, wrun_store, wrun_faddr, wrun_iaddrS, wrun_alloc, wop, aop, ev, look, put_some, put_none, writes, ores_some, ores_ite_none, binV, thenK, blockK, boolV, value, cut, hget, putCells, AV.parts, isOne, toLits, mkAgg, ofValue_int, ofValue_str, List.map_cons, List.map_nil, List.length_cons, List.length_nil, List.getElem?_cons_zero, List.set_cons_zero, List.take_succ_cons, List.take_zero, List.take_nil, List.drop_succ_cons, List.drop_zero, List.drop_nil, List.nil_append, List.append_nil, List.append_assoc, List.replicate_zero, List.replicate_succ, List.getD_cons_zero, List.all_cons, List.all_nil, List.length_append, Option.getD_some, Option.map_some, if_true, if_false, Nat.reduceEqDiff, Nat.reduceAdd, Nat.reduceLT, Nat.add_zero, Nat.zero_add, Nat.le_refl, reduceCtorEq, Bool.not_true, Bool.not_false, Bool.and_true, Bool.false_eq_true, eq_self, true_and, and_true, and_self, decide_true, freeze, lidsL, lids, List.flatMap_cons, List.flatMap_nil, List.all_cons, ren, Int.toNat_natCast, *] | simp (disch := omega) only [getD_ints, wrapI] | (with_reducible show wcall _ false (.lit (.func (.func 67) _ _)) _ _ _ _; refine wcall_fn (h67) ?_ ?_ ?_; (next => simp [rfyL, rfy, hget, ints, take_rfy, Int.toNat_natCast, plainR_sk, plainR_ss]); (next => simp [plainL, plain, plainR, Int.toNat_natCast, plainR_sk, plainR_ss])) | (with_reducible show wcall _ false (.lit (.func (.func 68) _ _)) _ _ _ _; refine wcall_fn (h68) ?_ ?_ ?_; (next => simp [rfyL, rfy, hget, ints, take_rfy, Int.toNat_natCast, plainR_sk, plainR_ss]); (next => simp [plainL, plain, plainR, Int.toNat_natCast, plainR_sk, plainR_ss])) | (with_reducible show wcall _ false (.lit (.func (.func 65) _ _)) _ _ _ _; refine wcall_fn (h65) ?_ ?_ ?_; (next => simp [rfyL, rfy, hget, ints, take_rfy, Int.toNat_natCast, plainR_sk, plainR_ss]); (next => simp [plainL, plain, plainR, Int.toNat_natCast, plainR_sk, plainR_ss])) | omega)
        all_goals first | exact f.down _ (hx.down _) rfl
      | true =>
        rw [a3] at hre h65
        rw [if_neg (by simp)] at hre
        subst hre
        clear hE a1 a3
        unfold c66l0
        repeat' (first | (with_reducible first | refine T_seq ?_ | refine T_reg ?_ | refine T_skip ?_ | refine T_exit ?_ | refine T_block ?_ | refine T_cond_t rfl ?_ | refine T_cond_f rfl ?_ | (show wcall _ false (.lit (.func (.func 67) _ _)) _ _ _ _; refine wcall_fn (h67) rfl (by simp [plainL, plain]) ?_) | (show wcall _ false (.lit (.func (.func 68) _ _)) _ _ _ _; refine wcall_fn (h68) rfl (by simp [plainL, plain, plainR_sk]) ?_) | (show wcall _ false (.lit (.func (.func 65) _ _)) _ _ _ _; refine wcall_fn (h65) rfl (by simp [plainL, plain]) ?_) | refine T_ret ?_ | refine wif_intro ?_ (fun hc => ?_) | refine And.intro ?_ ?_ | intro hc) | simp (maxSteps := 4000000) only [wops_nil, wops_cons, wstep_none, wrun_call, wrun_mv, wrun_bin, wrun_not, wrun_load, wrun_store, wrun_faddr, wrun_iaddrS, wrun_alloc, wop, aop, ev, look, put_some, put_none, writes, ores_some, ores_ite_none, binV, thenK, blockK, boolV, value, cut, hget, putCells, AV.parts, isOne, toLits, mkAgg, ofValue_int, ofValue_str, List.map_cons, List.map_nil, List.length_cons, List.length_nil, List.getElem?_cons_zero, List.set_cons_zero, List.take_succ_cons, List.take_zero, List.take_nil, List.drop_succ_cons, List.drop_zero, List.drop_nil, List.nil_append, List.append_nil, List.append_assoc, List.replicate_zero, List.replicate_succ, List.getD_cons_zero, List.all_cons, List.all_nil, List.length_append, Option.getD_some, Option.map_some, if_true, if_false, Nat.reduceEqDiff, Nat.reduceAdd, Nat.reduceLT, Nat.add_zero, Nat.zero_add, Nat.le_refl, reduceCtorEq, Bool.not_true, Bool.and_true, Bool.false_eq_true, eq_self, true_and, and_true, and_self, decide_true, freeze, lidsL, lids, List.flatMap_cons, List.flatMap_nil, List.all_cons, ren, Int.toNat_natCast, *] | simp (disch := omega) only [wrapI] | (with_reducible show wcall _ false (.lit (.func (.func 67) _ _)) _ _ _ _; refine wcall_fn (h67) ?_ ?_ ?_; (next => simp [rfyL, rfy, hget, ints, take_rfy, Int.toNat_natCast, plainR_sk, plainR_ss]); (next => simp [plainL, plain, plainR, Int.toNat_natCast, plainR_sk, plainR_ss])) | (with_reducible show wcall _ false (.lit (.func (.func 68) _ _)) _ _ _ _; refine wcall_fn (h68) ?_ ?_ ?_; (next => simp [rfyL, rfy, hget, ints, take_rfy, Int.toNat_natCast, plainR_sk, plainR_ss]); (next => simp [plainL, plain, plainR, Int.toNat_natCast, plainR_sk, plainR_ss])) | (with_reducible show wcall _ false (.lit (.func (.func 65) _ _)) _ _ _ _; refine wcall_fn (h65) ?_ ?_ ?_; (next => simp [rfyL, rfy, hget, ints, take_rfy, Int.toNat_natCast, plainR_sk, plainR_ss]); (next => simp [plainL, plain, plainR, Int.toNat_natCast, plainR_sk, plainR_ss])) | omega)
        all_goals first | exact hx.down _ | rfl | (simp [St.only, get_mk, look]; done)
set_option maxHeartbeats 8000000 in
theorem k66 {H : List Blk} {a c : Nat} {o o' nn nn' nil n2 : Bool} {l : List Sk} {s : List Ss} (hl : l.length < 1000000) (hl2 : s.length < 1000000) (hsz : ∀ k, k < s.length → (s.getD k ss0).mi.size < 1000000) (hH : H[a]? = some (.cells o nn 1 [[sts nil l]])) (hD : H[c]? = some (.cells o' nn' 1 [[sss n2 s]])) : ClA 66 [.loc c 0 0, .loc a 0 0] H (zE l s) := by
  intro H0 hx0
  refine envOf_all e66 ?_
  obtain ⟨o1, h0⟩ := hx0.cell hH
  obtain ⟨o2, h1⟩ := hx0.cell hD
  have hx9 := PLift.up (Ext.refl H0)
  have hll := ssR_len s
  clear hx0 hH hD
  by_cases h200 : s.length > 200
  · have hE : zE l s = 8 := if_pos h200
    rw [hE]
    have d1 : decide ((s.length : Int) > 200) = true := decide_eq_true (by omega)
    clear hE h200 hsz
    unfold c66
    repeat' (first | (with_reducible first | refine T_seq ?_ | refine T_reg ?_ | refine T_skip ?_ | refine T_exit ?_ | refine T_block ?_ | refine T_cond_t rfl ?_ | refine T_cond_f rfl ?_ | refine T_ret ?_ | refine wif_intro ?_ (fun hc => ?_) | refine And.intro ?_ ?_ | intro hc) | simp (maxSteps := 4000000) only [wops_nil, wops_cons, wstep_none, wrun_mv, wrun_bin, wrun_load, wrun_len, wop, aop, ev, look, put_some, writes, ores_some, ores_map, ores_bind, binV, thenK, intV, lenOf, value, cut, hget, toLits, mkAgg, List.map_cons, List.map_nil, List.length_cons, List.length_nil, List.take_succ_cons, List.take_nil, List.drop_zero, List.append_nil, List.replicate_zero, List.getD_cons_zero, List.zipIdx_cons, List.zipIdx_nil, Option.pure_def, Option.bind_eq_bind, Option.getD_some, Option.map_some, if_true, if_false, Nat.reduceEqDiff, Nat.reduceAdd, Nat.zero_add, reduceCtorEq, Bool.false_eq_true, eq_self, *] | simp (disch := omega) only [getD_ints, wrapI] | omega)
    all_goals first | exact ⟨_, rfl, rfl, hx9.down⟩
  have d1 : decide ((s.length : Int) > 200) = false := decide_eq_false (by omega)
  have hre : zE l s = fe (zEr l s) s.length := if_neg h200
  have hrow := PLift.up (fun H a0 o hH K k hk hE => k66l (b := H0.length) (c := c) (n2 := n2) (nil := nil) (H := H) (a := a0) (o := o) (nn := nn) hl hl2 hsz hH K (k := k) hk hE)
  have hst := PLift.up (fun k hk h0 h => fe_stop (e := zEr l s) (k := k) h0 h s.length hk)
  have hnx := PLift.up (fun k h0 h => fe_next (e := zEr l s) (k := k) h0 h)
  have h206 := PLift.up h0
  generalize zE l s = R at *
  replace hre := PLift.up hre
  clear h200 hsz
  unfold c66
  repeat' (first | (with_reducible first | refine T_seq ?_ | refine T_reg ?_ | refine T_skip ?_ | refine T_exit ?_ | refine T_block ?_ | refine T_cond_t rfl ?_ | refine T_cond_f rfl ?_ | refine T_ret ?_ | refine wif_intro ?_ (fun hc => ?_) | refine And.intro ?_ ?_ | intro hc) | simp (maxSteps := 4000000) only [wops_nil, wops_cons, wstep_none, wrun_mv, wrun_bin, wrun_load, wrun_len, wop, aop, ev, look, put_some, writes, ores_some, ores_map, ores_bind, binV, thenK, intV, lenOf, value, cut, hget, toLits, mkAgg, List.map_cons, List.map_nil, List.length_cons, List.length_nil, List.take_succ_cons, List.take_nil, List.drop_zero, List.append_nil, List.replicate_zero, List.getD_cons_zero, List.zipIdx_cons, List.zipIdx_nil, Option.pure_def, Option.bind_eq_bind, Option.getD_some, Option.map_some, if_true, if_false, Nat.reduceEqDiff, Nat.reduceAdd, Nat.zero_add, reduceCtorEq, Bool.false_eq_true, eq_self, *] | simp (disch := omega) only [getD_ints, wrapI] | omega)
  refine T_forP [1, 8, 9, 10] (SL102 n2 s a c) s.length (fun k H => Ext H0 H ∧ fe (zEr l s) k = 0) 0 ?_ ⟨hx9.down, rfl⟩ (Nat.zero_le _) ?_
  · simp [St.only, get_mk, look]
  intro k H hk ⟨hxH, hI⟩
  by_cases hkn : k < s.length
  · obtain ⟨o3, h200⟩ := hxH.cell h206.down
    refine T_thenR (hrow.down H a o3 h200 _ k hkn fun hne τ hxt t2 => ?_) fun s' hs => ⟨hkn, ⟨hxH.trans hs.2.1, hnx.down k hI hs.1⟩, hs.2.2⟩
    have h206 := hst.down k hkn hI hne
    have h205 : leaveA [.tmp 2] (fun r H' => r = i64 R ∧ Ext H0 H') .ret τ := leaveA1 (n := R) (by rw [t2, hre.down, h206]) ⟨rfl, hxH.trans hxt⟩
    exact h205
  · have hke : k = s.length := by omega
    subst hke
    have hr := hre.down.trans hI
    subst hr
    have hx8 := PLift.up hxH
    clear hrow hst hnx hre hI hxH h0 h1 h206
    unfold c66l0
    repeat' (first | (with_reducible first | refine T_seq ?_ | refine T_reg ?_ | refine T_skip ?_ | refine T_exit ?_ | refine T_block ?_ | refine T_cond_t rfl ?_ | refine T_cond_f rfl ?_ | ((first | refine T_cond rfl (fun hc => ?_) (fun hc => ?_) | refine wguard_split (fun hc => ?_) (fun hc => ?_)) <;> have hd := hc <;> (try simp (disch := omega) only [wrapI] at hd) <;> have hs := hd <;> (try simp only [decide_eq_true_eq, decide_eq_false_iff_not, Int.not_lt] at hd) <;> (try simp at hs)) | refine T_ret ?_ | refine wif_intro ?_ (fun hc => ?_) | refine And.intro ?_ ?_ | intro hc) | simp (maxSteps := 4000000) only [wops_nil, wops_cons, wstep_none, wrun_mv, wrun_bin, wop, aop, ev, look, put_some, writes, ores_some, binV, thenK, blockK, List.append_nil, List.replicate_zero, Option.map_some, if_true, if_false, Nat.reduceEqDiff, reduceCtorEq, eq_self, false_and, Int.toNat_natCast, *] | simp (disch := omega) only [getD_ints, wrapI] | omega)
    all_goals first | exact ⟨_, rfl, rfl, hx8.down⟩
end Go.Abs
