import Derived.Test.YtdedhipkncagjaaK506x
set_option linter.all false
set_option linter.unusedVariables false
set_option linter.unusedSimpArgs false
set_option linter.unusedSectionVars false
namespace Go.Abs
open Go.Proofs
/-! the document's checks of a tolerance and an enclosure -/
def tolE (pk sl : Int) : Int := if ((decide (0 ≤ pk) && decide (pk ≤ 200000)) && (decide (0 ≤ sl) && decide (sl ≤ 200000))) = true then 0 else 2
theorem tolE_ok {pk sl : Int} (h : tolE pk sl = 0) : (0 ≤ pk ∧ pk ≤ 200000) ∧ (0 ≤ sl ∧ sl ≤ 200000) := by
  unfold tolE at h
  split at h
  · rename_i h1
    simpa using h1
  · simp at h
set_option maxHeartbeats 8000000 in
theorem k7 (pk sl : Int) : Fn Try.prog 7 [tlV pk sl] (i64 (tolE pk sl)) [] := by
  refine fn_of e7 ?_
  have h10a := k10 pk 0 200000
  have h10b := k10 sl 0 200000
  unfold tolE
  generalize (decide (0 ≤ pk) && decide (pk ≤ 200000)) = B1 at *
  generalize (decide (0 ≤ sl) && decide (sl ≤ 200000)) = B2 at *
  cases B1 <;> cases B2 <;> unfold c7
  all_goals
    repeat' (first | (with_reducible first | refine T_seq ?_ | refine T_reg ?_ | refine T_skip ?_ | refine T_exit ?_ | refine T_block ?_ | refine T_cond_t rfl ?_ | refine T_cond_f rfl ?_ | (show wcall _ false (.lit (.func (.func 10) _ _)) _ _ _ _; refine wcall_fn (h10a) rfl (by simp [plainL, plain]) ?_) | (show wcall _ false (.lit (.func (.func 10) _ _)) _ _ _ _; refine wcall_fn (h10b) rfl (by simp [plainL, plain]) ?_) | refine T_ret ?_ | refine leave_of (.inr rfl) _ rfl ?_ | refine leave_of (.inl rfl) _ rfl ?_ | refine leaveA_of (.inr rfl) _ rfl ?_ | refine leaveA_of (.inl rfl) _ rfl ?_ | refine wif_intro ?_ (fun hc => ?_) | refine And.intro ?_ ?_ | intro hc) | simp (maxSteps := 4000000) only [wops_nil, wops_cons, wstep_none, wstep_some, wguard_ff, wguard_tf, wrun_call, wrun_mv, wrun_pick, wrun_not, wrun_load, wrun_faddr, wrun_box, get_mk, wop, aop, ev, look, put_some, writes, ores_some, thenK, boolV, value, cut, hget, AV.parts, isOne, mkAgg, tupOf, ofValue_int, List.map_cons, List.map_nil, List.length_cons, List.length_nil, List.getElem?_cons_zero, List.set_cons_zero, List.take_succ_cons, List.take_zero, List.take_nil, List.drop_succ_cons, List.drop_zero, List.nil_append, List.append_nil, List.replicate_zero, List.replicate_succ, List.getD_cons_zero, List.zipIdx_cons, List.zipIdx_nil, List.all_cons, List.all_nil, Option.getD_some, Option.map_some, if_true, if_false, Nat.reduceEqDiff, Nat.reduceAdd, Nat.add_zero, Nat.zero_add, Nat.zero_ne_one, reduceCtorEq, Bool.not_true, Bool.not_false, Bool.and_true, Bool.and_false, Bool.false_eq_true, eq_self, true_and, and_self, freeze, lidsL, lids, List.flatMap_cons, List.flatMap_nil, List.all_cons, ren, *] | simp (disch := omega) only [getD_ints, wrapI] | (with_reducible show wcall _ false (.lit (.func (.func 10) _ _)) _ _ _ _; refine wcall_fn (h10a) ?_ ?_ ?_; (next => simp [rfyL, rfy, hget, ints, take_rfy]); (next => simp [plainL, plain, plainR])) | (with_reducible show wcall _ false (.lit (.func (.func 10) _ _)) _ _ _ _; refine wcall_fn (h10b) ?_ ?_ ?_; (next => simp [rfyL, rfy, hget, ints, take_rfy]); (next => simp [plainL, plain, plainR])) | omega)
  all_goals first | rfl
def enE (L : List (Int × Int)) (k : Nat) : Int := if (hB (L.getD k (0, 0)).1 && hB (L.getD k (0, 0)).2) = false then 2 else if (L.getD k (0, 0)).1 > (L.getD k (0, 0)).2 then 9 else 0
def encE (L : List (Int × Int)) : Int := if (decide (1 ≤ (L.length : Int)) && decide ((L.length : Int) ≤ 40)) = false then 10 else fe (enE L) L.length
theorem encE_ok {L : List (Int × Int)} (h : encE L = 0) : ROk L := by
  unfold encE at h
  split at h
  · simp at h
  rename_i h1
  simp only [Bool.not_eq_false, Bool.and_eq_true, decide_eq_true_eq] at h1
  have key : ∀ k, k < L.length → ((-100000 ≤ (L.getD k (0, 0)).1 ∧ (L.getD k (0, 0)).1 ≤ 100000) ∧ (-100000 ≤ (L.getD k (0, 0)).2 ∧ (L.getD k (0, 0)).2 ≤ 100000)) ∧ (L.getD k (0, 0)).1 ≤ (L.getD k (0, 0)).2 := fun k hk => by
    have := fe_all h k hk
    unfold enE at this
    split at this
    · simp at this
    rename_i h2
    split at this
    · simp at this
    rename_i h3
    unfold hB at h2
    simp only [Bool.not_eq_false, Bool.and_eq_true, decide_eq_true_eq] at h2
    exact ⟨h2, by omega⟩
  exact ⟨by omega, fun j hj => (key j hj).1, fun j hj => (key j hj).2⟩
set_option maxHeartbeats 8000000 in
theorem k9 (nb : Bool) (L : List (Int × Int)) (hl : L.length < 1000000) : Fn Try.prog 9 [.sl nb 2 (rgR L)] (i64 (encE L)) [] := by
  refine fn_of e9 ?_
  have hll := rgR_len L
  have h10 := k10 (L.length : Int) 1 40
  have hre : encE L = if (decide (1 ≤ (L.length : Int)) && decide ((L.length : Int) ≤ 40)) = false then 10 else fe (enE L) L.length := rfl
  cases a1 : (decide (1 ≤ (L.length : Int)) && decide ((L.length : Int) ≤ 40)) with
  | false =>
    rw [a1] at h10 hre
    rw [if_pos rfl] at hre
    rw [hre]
    clear a1 hre
    unfold c9
    repeat' (first | ((with_reducible refine T_calm ?_ ?_); rfl) | (with_reducible first | refine T_seq ?_ | refine T_reg ?_ | refine T_draw ?_ | refine T_skip ?_ | refine T_exit ?_ | refine T_block ?_ | refine T_cond_t rfl ?_ | refine T_cond_f rfl ?_ | refine wdW_cons rfl ?_ | (show wcall _ false (.lit (.func (.func 10) _ _)) _ _ _ _; refine wcall_fn (h10) rfl (by simp [plainL, plain]) ?_) | (show wcallX _ false (.lit (.func (.func 10) _ _)) _ _ _ _; refine wcallX_fn (h10) rfl (by simp [plainL, plain, plainR, plainR_rg]) ?_) | refine T_ret ?_ | refine leave_of (.inr rfl) _ rfl ?_ | refine leave_of (.inl rfl) _ rfl ?_ | refine leaveA_of (.inr rfl) _ rfl ?_ | refine leaveA_of (.inl rfl) _ rfl ?_ | refine wif_intro ?_ (fun hc => ?_) | refine And.intro ?_ ?_ | intro hc) | simp (maxSteps := 4000000) only [wops_nil, wops_cons, wstep_none, wrun_call, wrun_mv, wrun_not, wrun_len, get_mk, wop, aop, ev, look, put_some, writes, ores_some, ores_map, ores_bind, thenK, boolV, intV, lenOf, hget, tupOf, List.map_cons, List.map_nil, List.length_nil, List.append_nil, List.replicate_zero, List.zipIdx_cons, List.zipIdx_nil, Option.pure_def, Option.bind_eq_bind, if_true, if_false, Nat.reduceEqDiff, Nat.zero_add, reduceCtorEq, Bool.not_false, eq_self, freeze, lidsL, lids, List.flatMap_cons, List.flatMap_nil, ren, *] | simp (disch := omega) only [getD_ints, wrapI] | (with_reducible show wcall _ false (.lit (.func (.func 10) _ _)) _ _ _ _; refine wcall_fn (h10) ?_ ?_ ?_; (next => simp [rfyL, rfy, hget, ints, take_rfy, plainR_rg]); (next => simp [plainL, plain, plainR, plainR_rg])) | (with_reducible show wcallX _ false (.lit (.func (.func 10) _ _)) _ _ _ _; refine wcallX_fn (h10) ?_ ?_ ?_; (next => simp [rfyL, rfy, hget, ints, take_rfy, plainR_rg]); (next => simp [plainL, plain, plainR, plainR_rg])) | omega)
    all_goals first | rfl
  | true =>
    rw [a1] at h10 hre
    rw [if_neg (by simp)] at hre
    have hst := PLift.up (fun k hk h0 h => fe_stop (e := enE L) (k := k) h0 h L.length hk)
    have hnx := PLift.up (fun k h0 h => fe_next (e := enE L) (k := k) h0 h)
    generalize encE L = R at *
    replace hre := PLift.up hre
    clear a1
    unfold c9
    repeat' (first | ((with_reducible refine T_calm ?_ ?_); rfl) | (with_reducible first | refine T_seq ?_ | refine T_reg ?_ | refine T_draw ?_ | refine T_skip ?_ | refine T_exit ?_ | refine T_block ?_ | refine T_cond_t rfl ?_ | refine T_cond_f rfl ?_ | refine wdW_cons rfl ?_ | (show wcall _ false (.lit (.func (.func 10) _ _)) _ _ _ _; refine wcall_fn (h10) rfl (by simp [plainL, plain]) ?_) | (show wcallX _ false (.lit (.func (.func 10) _ _)) _ _ _ _; refine wcallX_fn (h10) rfl (by simp [plainL, plain, plainR, plainR_rg]) ?_) | refine T_ret ?_ | refine leave_of (.inr rfl) _ rfl ?_ | refine leave_of (.inl rfl) _ rfl ?_ | refine leaveA_of (.inr rfl) _ rfl ?_ | refine leaveA_of (.inl rfl) _ rfl ?_ | refine wif_intro ?_ (fun hc => ?_) | refine And.intro ?_ ?_ | intro hc) | simp (maxSteps := 4000000) only [wops_nil, wops_cons, wstep_none, wrun_call, wrun_mv, wrun_not, wrun_len, wop, aop, ev, look, put_some, writes, ores_some, ores_map, ores_bind, thenK, boolV, intV, lenOf, hget, List.map_cons, List.map_nil, List.length_nil, List.append_nil, List.replicate_zero, List.zipIdx_cons, List.zipIdx_nil, Option.pure_def, Option.bind_eq_bind, if_true, if_false, Nat.reduceEqDiff, Nat.zero_add, reduceCtorEq, Bool.not_true, eq_self, freeze, lidsL, lids, List.flatMap_cons, List.flatMap_nil, ren, *] | simp (disch := omega) only [getD_ints, wrapI] | (with_reducible show wcall _ false (.lit (.func (.func 10) _ _)) _ _ _ _; refine wcall_fn (h10) ?_ ?_ ?_; (next => simp [rfyL, rfy, hget, ints, take_rfy, plainR_rg]); (next => simp [plainL, plain, plainR, plainR_rg])) | (with_reducible show wcallX _ false (.lit (.func (.func 10) _ _)) _ _ _ _; refine wcallX_fn (h10) ?_ ?_ ?_; (next => simp [rfyL, rfy, hget, ints, take_rfy, plainR_rg]); (next => simp [plainL, plain, plainR, plainR_rg])) | omega)
    refine T_forP [0, 3] (fun k => [(0, .sl nb 2 (rgR L)), (3, i64 k)]) L.length (fun k H => H = [] ∧ fe (enE L) k = 0) 0 ?_ ⟨rfl, rfl⟩ (Nat.zero_le _) ?_
    · simp [St.only, get_mk, look]
    intro k H hk ⟨hHe, hI⟩
    subst hHe
    by_cases hkn : k < L.length
    · have g1 := rgR_get hkn
      have hee : enE L k = if (hB (L.getD k (0, 0)).1 && hB (L.getD k (0, 0)).2) = false then 2 else if (L.getD k (0, 0)).1 > (L.getD k (0, 0)).2 then 9 else 0 := rfl
      generalize (L.getD k (0, 0)).1 = lo at *
      generalize (L.getD k (0, 0)).2 = hi at *
      have h25a := k25 lo
      have h25b := k25 hi
      have hkn' : (k : Int) < (L.length : Int) := by omega
      by_cases a2 : (hB lo && hB hi) = false
      · rw [if_pos a2] at hee
        have hr := hst.down k hkn hI (by rw [hee]; omega)
        rw [hee] at hr
        have hR := hre.down.trans hr
        subst hR
        clear hst hnx hre hI hee h10 hr
        generalize hB lo = B1 at *
        generalize hB hi = B2 at *
        cases B1 <;> cases B2
        · clear a2
          unfold c9l0
          repeat' (first | ((with_reducible refine T_calm ?_ ?_); rfl) | (with_reducible first | refine T_seq ?_ | refine T_reg ?_ | refine T_draw ?_ | refine T_skip ?_ | refine T_exit ?_ | refine T_block ?_ | refine T_cond_t rfl ?_ | refine T_cond_f rfl ?_ | refine wdW_cons rfl ?_ | (show wcall _ false (.lit (.func (.func 25) _ _)) _ _ _ _; refine wcall_fn (h25a) rfl (by simp [plainL, plain]) ?_) | (show wcallX _ false (.lit (.func (.func 25) _ _)) _ _ _ _; refine wcallX_fn (h25a) rfl (by simp [plainL, plain, plainR, Int.toNat_natCast]) ?_) | (show wcall _ false (.lit (.func (.func 25) _ _)) _ _ _ _; refine wcall_fn (h25b) rfl (by simp [plainL, plain, plainR, Int.toNat_natCast]) ?_) | (show wcallX _ false (.lit (.func (.func 25) _ _)) _ _ _ _; refine wcallX_fn (h25b) rfl (by simp [plainL, plain, plainR, Int.toNat_natCast]) ?_) | refine T_ret ?_ | refine leave_of (.inr rfl) _ rfl ?_ | refine leave_of (.inl rfl) _ rfl ?_ | refine leaveA_of (.inr rfl) _ rfl ?_ | refine leaveA_of (.inl rfl) _ rfl ?_ | refine wif_intro ?_ (fun hc => ?_) | refine And.intro ?_ ?_ | intro hc) | simp (maxSteps := 4000000) only [wops_nil, wops_cons, wstep_none, wstep_some, wguard_tf, wrun_call, wrun_mv, wrun_pick, wrun_bin, wrun_not, wrun_load, wrun_faddr, wrun_iaddrS, wrun_len, get_mk, wop, aop, ev, look, put_some, writes, ores_some, ores_ite_none, ores_map, ores_bind, binV, thenK, blockK, boolV, intV, lenOf, value, cut, hget, mkAgg, tupOf, List.map_cons, List.map_nil, List.length_cons, List.length_nil, List.take_succ_cons, List.take_zero, List.drop_zero, List.append_nil, List.replicate_zero, Option.pure_def, Option.bind_eq_bind, Option.map_some, if_true, if_false, Nat.reduceEqDiff, Nat.add_zero, Nat.zero_add, reduceCtorEq, Bool.not_false, Bool.false_eq_true, eq_self, true_and, and_true, and_self, decide_true, freeze, lidsL, lids, List.flatMap_cons, List.flatMap_nil, ren, Int.toNat_natCast, *] | simp (disch := omega) only [getD_ints, wrapI] | (with_reducible show wcall _ false (.lit (.func (.func 25) _ _)) _ _ _ _; refine wcall_fn (h25a) ?_ ?_ ?_; (next => simp [rfyL, rfy, hget, ints, take_rfy, Int.toNat_natCast]); (next => simp [plainL, plain, plainR, Int.toNat_natCast])) | (with_reducible show wcallX _ false (.lit (.func (.func 25) _ _)) _ _ _ _; refine wcallX_fn (h25a) ?_ ?_ ?_; (next => simp [rfyL, rfy, hget, ints, take_rfy, Int.toNat_natCast]); (next => simp [plainL, plain, plainR, Int.toNat_natCast])) | (with_reducible show wcall _ false (.lit (.func (.func 25) _ _)) _ _ _ _; refine wcall_fn (h25b) ?_ ?_ ?_; (next => simp [rfyL, rfy, hget, ints, take_rfy, Int.toNat_natCast]); (next => simp [plainL, plain, plainR, Int.toNat_natCast])) | (with_reducible show wcallX _ false (.lit (.func (.func 25) _ _)) _ _ _ _; refine wcallX_fn (h25b) ?_ ?_ ?_; (next => simp [rfyL, rfy, hget, ints, take_rfy, Int.toNat_natCast]); (next => simp [plainL, plain, plainR, Int.toNat_natCast])) | omega)
          all_goals first | rfl
        · clear a2
          unfold c9l0
          repeat' (first | ((with_reducible refine T_calm ?_ ?_); rfl) | (with_reducible first | refine T_seq ?_ | refine T_reg ?_ | refine T_draw ?_ | refine T_skip ?_ | refine T_exit ?_ | refine T_block ?_ | refine T_cond_t rfl ?_ | refine T_cond_f rfl ?_ | refine wdW_cons rfl ?_ | (show wcall _ false (.lit (.func (.func 25) _ _)) _ _ _ _; refine wcall_fn (h25a) rfl (by simp [plainL, plain]) ?_) | (show wcallX _ false (.lit (.func (.func 25) _ _)) _ _ _ _; refine wcallX_fn (h25a) rfl (by simp [plainL, plain, plainR, Int.toNat_natCast]) ?_) | (show wcall _ false (.lit (.func (.func 25) _ _)) _ _ _ _; refine wcall_fn (h25b) rfl (by simp [plainL, plain, plainR, Int.toNat_natCast]) ?_) | (show wcallX _ false (.lit (.func (.func 25) _ _)) _ _ _ _; refine wcallX_fn (h25b) rfl (by simp [plainL, plain, plainR, Int.toNat_natCast]) ?_) | refine T_ret ?_ | refine leave_of (.inr rfl) _ rfl ?_ | refine leave_of (.inl rfl) _ rfl ?_ | refine leaveA_of (.inr rfl) _ rfl ?_ | refine leaveA_of (.inl rfl) _ rfl ?_ | refine wif_intro ?_ (fun hc => ?_) | refine And.intro ?_ ?_ | intro hc) | simp (maxSteps := 4000000) only [wops_nil, wops_cons, wstep_none, wstep_some, wguard_tf, wrun_call, wrun_mv, wrun_pick, wrun_bin, wrun_not, wrun_load, wrun_faddr, wrun_iaddrS, wrun_len, get_mk, wop, aop, ev, look, put_some, writes, ores_some, ores_ite_none, ores_map, ores_bind, binV, thenK, blockK, boolV, intV, lenOf, value, cut, hget, mkAgg, tupOf, List.map_cons, List.map_nil, List.length_cons, List.length_nil, List.take_succ_cons, List.take_zero, List.drop_zero, List.append_nil, List.replicate_zero, Option.pure_def, Option.bind_eq_bind, Option.map_some, if_true, if_false, Nat.reduceEqDiff, Nat.add_zero, Nat.zero_add, reduceCtorEq, Bool.not_false, Bool.false_eq_true, eq_self, true_and, and_true, and_self, decide_true, freeze, lidsL, lids, List.flatMap_cons, List.flatMap_nil, ren, Int.toNat_natCast, *] | simp (disch := omega) only [getD_ints, wrapI] | (with_reducible show wcall _ false (.lit (.func (.func 25) _ _)) _ _ _ _; refine wcall_fn (h25a) ?_ ?_ ?_; (next => simp [rfyL, rfy, hget, ints, take_rfy, Int.toNat_natCast]); (next => simp [plainL, plain, plainR, Int.toNat_natCast])) | (with_reducible show wcallX _ false (.lit (.func (.func 25) _ _)) _ _ _ _; refine wcallX_fn (h25a) ?_ ?_ ?_; (next => simp [rfyL, rfy, hget, ints, take_rfy, Int.toNat_natCast]); (next => simp [plainL, plain, plainR, Int.toNat_natCast])) | (with_reducible show wcall _ false (.lit (.func (.func 25) _ _)) _ _ _ _; refine wcall_fn (h25b) ?_ ?_ ?_; (next => simp [rfyL, rfy, hget, ints, take_rfy, Int.toNat_natCast]); (next => simp [plainL, plain, plainR, Int.toNat_natCast])) | (with_reducible show wcallX _ false (.lit (.func (.func 25) _ _)) _ _ _ _; refine wcallX_fn (h25b) ?_ ?_ ?_; (next => simp [rfyL, rfy, hget, ints, take_rfy, Int.toNat_natCast]); (next => simp [plainL, plain, plainR, Int.toNat_natCast])) | omega)
          all_goals first | rfl
        · clear a2
          unfold c9l0
          repeat' (first | ((with_reducible refine T_calm ?_ ?_); rfl) | (with_reducible first | refine T_seq ?_ | refine T_reg ?_ | refine T_draw ?_ | refine T_skip ?_ | refine T_exit ?_ | refine T_block ?_ | refine T_cond_t rfl ?_ | refine T_cond_f rfl ?_ | refine wdW_cons rfl ?_ | (show wcall _ false (.lit (.func (.func 25) _ _)) _ _ _ _; refine wcall_fn (h25a) rfl (by simp [plainL, plain]) ?_) | (show wcallX _ false (.lit (.func (.func 25) _ _)) _ _ _ _; refine wcallX_fn (h25a) rfl (by simp [plainL, plain, plainR, Int.toNat_natCast]) ?_) | (show wcall _ false (.lit (.func (.func 25) _ _)) _ _ _ _; refine wcall_fn (h25b) rfl (by simp [plainL, plain]) ?_) | (show wcallX _ false (.lit (.func (.func 25) _ _)) _ _ _ _; refine wcallX_fn (h25b) rfl (by simp [plainL, plain, plainR, Int.toNat_natCast]) ?_) | refine T_ret ?_ | refine leave_of (.inr rfl) _ rfl ?_ | refine leave_of (.inl rfl) _ rfl ?_ | refine leaveA_of (.inr rfl) _ rfl ?_ | refine leaveA_of (.inl rfl) _ rfl ?_ | refine wif_intro ?_ (fun hc => ?_) | refine And.intro ?_ ?_ | intro hc) | simp (maxSteps := 4000000) only [wops_nil, wops_cons, wstep_none, wstep_some, wguard_ff, wrun_call, wrun_mv, wrun_pick, wrun_bin, wrun_not, wrun_load, wrun_faddr, wrun_iaddrS, wrun_len, get_mk, wop, aop, ev, look, put_some, writes, ores_some, ores_ite_none, ores_map, ores_bind, binV, thenK, blockK, boolV, intV, lenOf, value, cut, hget, mkAgg, tupOf, List.map_cons, List.map_nil, List.length_cons, List.length_nil, List.take_succ_cons, List.take_zero, List.take_nil, List.drop_succ_cons, List.drop_zero, List.append_nil, List.replicate_zero, Option.pure_def, Option.bind_eq_bind, Option.map_some, if_true, if_false, Nat.reduceEqDiff, Nat.add_zero, Nat.zero_add, reduceCtorEq, Bool.not_true, Bool.not_false, Bool.false_eq_true, eq_self, true_and, and_true, and_self, decide_true, freeze, lidsL, lids, List.flatMap_cons, List.flatMap_nil, ren, Int.toNat_natCast, *] | simp (disch := omega) only [getD_ints, wrapI] | (with_reducible show wcall _ false (.lit (.func (.func 25) _ _)) _ _ _ _; refine wcall_fn (h25a) ?_ ?_ ?_; (next => simp [rfyL, rfy, hget, ints, take_rfy, Int.toNat_natCast]); (next => simp [plainL, plain, plainR, Int.toNat_natCast])) | (with_reducible show wcallX _ false (.lit (.func (.func 25) _ _)) _ _ _ _; refine wcallX_fn (h25a) ?_ ?_ ?_; (next => simp [rfyL, rfy, hget, ints, take_rfy, Int.toNat_natCast]); (next => simp [plainL, plain, plainR, Int.toNat_natCast])) | (with_reducible show wcall _ false (.lit (.func (.func 25) _ _)) _ _ _ _; refine wcall_fn (h25b) ?_ ?_ ?_; (next => simp [rfyL, rfy, hget, ints, take_rfy, Int.toNat_natCast]); (next => simp [plainL, plain, plainR, Int.toNat_natCast])) | (with_reducible show wcallX _ false (.lit (.func (.func 25) _ _)) _ _ _ _; refine wcallX_fn (h25b) ?_ ?_ ?_; (next => simp [rfyL, rfy, hget, ints, take_rfy, Int.toNat_natCast]); (next => simp [plainL, plain, plainR, Int.toNat_natCast])) | omega)
          all_goals first | rfl
        · simp at a2
      · rw [if_neg a2] at hee
        simp only [Bool.not_eq_false, Bool.and_eq_true] at a2
        rw [a2.1] at h25a
        rw [a2.2] at h25b
        clear a2
        by_cases a3 : lo > hi
        · rw [if_pos a3] at hee
          have hr := hst.down k hkn hI (by rw [hee]; omega)
          rw [hee] at hr
          have hR := hre.down.trans hr
          subst hR
          have d1 : decide (lo > hi) = true := decide_eq_true a3
          clear hst hnx hre hI hee h10 hr a3
          unfold c9l0
          repeat' (first | ((with_reducible refine T_calm ?_ ?_); rfl) | (with_reducible first | refine T_seq ?_ | refine T_reg ?_ | refine T_draw ?_ | refine T_skip ?_ | refine T_exit ?_ | refine T_block ?_ | refine T_cond_t rfl ?_ | refine T_cond_f rfl ?_ | refine wdW_cons rfl ?_ | (show wcall _ false (.lit (.func (.func 25) _ _)) _ _ _ _; refine wcall_fn (h25a) rfl (by simp [plainL, plain]) ?_) | (show wcallX _ false (.lit (.func (.func 25) _ _)) _ _ _ _; refine wcallX_fn (h25a) rfl (by simp [plainL, plain, plainR, Int.toNat_natCast]) ?_) | (show wcall _ false (.lit (.func (.func 25) _ _)) _ _ _ _; refine wcall_fn (h25b) rfl (by simp [plainL, plain]) ?_) | (show wcallX _ false (.lit (.func (.func 25) _ _)) _ _ _ _; refine wcallX_fn (h25b) rfl (by simp [plainL, plain, plainR, Int.toNat_natCast]) ?_) | refine T_ret ?_ | refine leave_of (.inr rfl) _ rfl ?_ | refine leave_of (.inl rfl) _ rfl ?_ | refine leaveA_of (.inr rfl) _ rfl ?_ | refine leaveA_of (.inl rfl) _ rfl ?_ | refine wif_intro ?_ (fun hc => ?_) | refine And.intro ?_ ?_ | intro hc) | simp (maxSteps := 4000000) only [wops_nil, wops_cons, wstep_none, wstep_some, wguard_ff, wrun_call, wrun_mv, wrun_pick, wrun_bin, wrun_not, wrun_load, wrun_faddr, wrun_iaddrS, wrun_len, get_mk, wop, aop, ev, look, put_some, writes, ores_some, ores_ite_none, ores_map, ores_bind, binV, thenK, blockK, boolV, intV, lenOf, value, cut, hget, mkAgg, tupOf, List.map_cons, List.map_nil, List.length_cons, List.length_nil, List.take_succ_cons, List.take_zero, List.take_nil, List.drop_succ_cons, List.drop_zero, List.append_nil, List.replicate_zero, Option.pure_def, Option.bind_eq_bind, Option.map_some, if_true, if_false, Nat.reduceEqDiff, Nat.add_zero, Nat.zero_add, reduceCtorEq, Bool.not_true, Bool.false_eq_true, eq_self, true_and, and_true, and_self, decide_true, freeze, lidsL, lids, List.flatMap_cons, List.flatMap_nil, ren, Int.toNat_natCast, *] | simp (disch := omega) only [getD_ints, wrapI] | (with_reducible show wcall _ false (.lit (.func (.func 25) _ _)) _ _ _ _; refine wcall_fn (h25a) ?_ ?_ ?_; (next => simp [rfyL, rfy, hget, ints, take_rfy, Int.toNat_natCast]); (next => simp [plainL, plain, plainR, Int.toNat_natCast])) | (with_reducible show wcallX _ false (.lit (.func (.func 25) _ _)) _ _ _ _; refine wcallX_fn (h25a) ?_ ?_ ?_; (next => simp [rfyL, rfy, hget, ints, take_rfy, Int.toNat_natCast]); (next => simp [plainL, plain, plainR, Int.toNat_natCast])) | (with_reducible show wcall _ false (.lit (.func (.func 25) _ _)) _ _ _ _; refine wcall_fn (h25b) ?_ ?_ ?_; (next => simp [rfyL, rfy, hget, ints, take_rfy, Int.toNat_natCast]); (next => simp [plainL, plain, plainR, Int.toNat_natCast])) | (with_reducible show wcallX _ false (.lit (.func (.func 25) _ _)) _ _ _ _; refine wcallX_fn (h25b) ?_ ?_ ?_; (next => simp [rfyL, rfy, hget, ints, take_rfy, Int.toNat_natCast]); (next => simp [plainL, plain, plainR, Int.toNat_natCast])) | omega)
          all_goals first | rfl
        · rw [if_neg a3] at hee
          have hn := PLift.up (hnx.down k hI hee)
          have d1 : decide (lo > hi) = false := decide_eq_false a3
          clear hst hnx hre hI hee h10 a3
          unfold c9l0
          repeat' (first | ((with_reducible refine T_calm ?_ ?_); rfl) | (with_reducible first | refine T_seq ?_ | refine T_reg ?_ | refine T_draw ?_ | refine T_skip ?_ | refine T_exit ?_ | refine T_block ?_ | refine T_cond_t rfl ?_ | refine T_cond_f rfl ?_ | refine wdW_cons rfl ?_ | (show wcall _ false (.lit (.func (.func 25) _ _)) _ _ _ _; refine wcall_fn (h25a) rfl (by simp [plainL, plain]) ?_) | (show wcallX _ false (.lit (.func (.func 25) _ _)) _ _ _ _; refine wcallX_fn (h25a) rfl (by simp [plainL, plain, plainR, Int.toNat_natCast]) ?_) | (show wcall _ false (.lit (.func (.func 25) _ _)) _ _ _ _; refine wcall_fn (h25b) rfl (by simp [plainL, plain]) ?_) | (show wcallX _ false (.lit (.func (.func 25) _ _)) _ _ _ _; refine wcallX_fn (h25b) rfl (by simp [plainL, plain, plainR, Int.toNat_natCast]) ?_) | refine T_ret ?_ | refine leave_of (.inr rfl) _ rfl ?_ | refine leave_of (.inl rfl) _ rfl ?_ | refine leaveA_of (.inr rfl) _ rfl ?_ | refine leaveA_of (.inl rfl) _ rfl ?_ | refine wif_intro ?_ (fun hc => ?_) | refine And.intro ?_ ?_ | intro hc) | simp (maxSteps := 4000000) only [wops_nil, wops_cons, wstep_none, wstep_some, wguard_ff, wrun_call, wrun_mv, wrun_pick, wrun_bin, wrun_not, wrun_load, wrun_faddr, wrun_iaddrS, wrun_len, wop, aop, ev, look, put_some, writes, ores_some, ores_ite_none, ores_map, ores_bind, binV, thenK, blockK, boolV, intV, lenOf, value, cut, hget, mkAgg, List.map_cons, List.map_nil, List.length_cons, List.length_nil, List.take_succ_cons, List.take_zero, List.take_nil, List.drop_succ_cons, List.drop_zero, List.append_nil, List.replicate_zero, Option.pure_def, Option.bind_eq_bind, Option.map_some, if_true, if_false, Nat.reduceEqDiff, Nat.add_zero, Nat.zero_add, reduceCtorEq, Bool.not_true, Bool.false_eq_true, eq_self, true_and, and_true, and_self, decide_true, freeze, lidsL, lids, List.flatMap_cons, List.flatMap_nil, ren, Int.toNat_natCast, *] | simp (disch := omega) only [wrapI] | (with_reducible show wcall _ false (.lit (.func (.func 25) _ _)) _ _ _ _; refine wcall_fn (h25a) ?_ ?_ ?_; (next => simp [rfyL, rfy, hget, ints, take_rfy, Int.toNat_natCast]); (next => simp [plainL, plain, plainR, Int.toNat_natCast])) | (with_reducible show wcallX _ false (.lit (.func (.func 25) _ _)) _ _ _ _; refine wcallX_fn (h25a) ?_ ?_ ?_; (next => simp [rfyL, rfy, hget, ints, take_rfy, Int.toNat_natCast]); (next => simp [plainL, plain, plainR, Int.toNat_natCast])) | (with_reducible show wcall _ false (.lit (.func (.func 25) _ _)) _ _ _ _; refine wcall_fn (h25b) ?_ ?_ ?_; (next => simp [rfyL, rfy, hget, ints, take_rfy, Int.toNat_natCast]); (next => simp [plainL, plain, plainR, Int.toNat_natCast])) | (with_reducible show wcallX _ false (.lit (.func (.func 25) _ _)) _ _ _ _; refine wcallX_fn (h25b) ?_ ?_ ?_; (next => simp [rfyL, rfy, hget, ints, take_rfy, Int.toNat_natCast]); (next => simp [plainL, plain, plainR, Int.toNat_natCast])) | omega)
          all_goals first | rfl | exact hn.down | exact ⟨rfl, hn.down⟩ | (simp [St.only, get_mk, look]; done)
    · have hke : k = L.length := by omega
      subst hke
      have hR := hre.down.trans hI
      subst hR
      clear hst hnx hre hI h10
      have hkk : decide ((L.length : Int) < (L.length : Int)) = false := by simp
      unfold c9l0
      repeat' (first | ((with_reducible refine T_calm ?_ ?_); rfl) | (with_reducible first | refine T_seq ?_ | refine T_reg ?_ | refine T_draw ?_ | refine T_skip ?_ | refine T_exit ?_ | refine T_block ?_ | refine T_cond_t rfl ?_ | refine T_cond_f rfl ?_ | refine wdW_cons rfl ?_ | refine T_ret ?_ | refine leave_of (.inr rfl) _ rfl ?_ | refine leave_of (.inl rfl) _ rfl ?_ | refine leaveA_of (.inr rfl) _ rfl ?_ | refine leaveA_of (.inl rfl) _ rfl ?_ | refine wif_intro ?_ (fun hc => ?_) | refine And.intro ?_ ?_ | intro hc) | simp (maxSteps := 4000000) only [wops_nil, wops_cons, wstep_none, wrun_mv, wrun_bin, wrun_len, get_mk, wop, aop, ev, look, put_some, writes, ores_some, ores_map, ores_bind, binV, thenK, blockK, intV, lenOf, hget, tupOf, List.length_nil, List.append_nil, List.replicate_zero, Option.pure_def, Option.bind_eq_bind, Option.map_some, if_true, if_false, Nat.reduceEqDiff, reduceCtorEq, eq_self, false_and, ren, *] | simp (disch := omega) only [getD_ints, wrapI] | omega)
      all_goals first | rfl
end Go.Abs
