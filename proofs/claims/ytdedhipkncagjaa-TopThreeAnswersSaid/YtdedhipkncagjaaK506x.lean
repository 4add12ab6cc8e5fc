import Derived.Test.YtdedhipkncagjaaK505x
set_option linter.all false
set_option linter.unusedVariables false
set_option linter.unusedSimpArgs false
set_option linter.unusedSectionVars false
namespace Go.Abs
open Go.Proofs
/-! CheckTolerance, CheckEnclosure, Judge: what they accept -/
set_option maxHeartbeats 8000000 in
theorem k29 {pk sl : Int} (hp : 0 ≤ pk ∧ pk ≤ 200000) (hs : 0 ≤ sl ∧ sl ≤ 200000) : Fn Try.prog 29 [tlV pk sl] (i64 0) [] := by
  refine fn_of e29 ?_
  have h58a := k58 pk 0 200000
  have h58b := k58 sl 0 200000
  have d1 : decide (0 ≤ pk) = true := decide_eq_true hp.1
  have d2 : decide (pk ≤ 200000) = true := decide_eq_true hp.2
  have d3 : decide (0 ≤ sl) = true := decide_eq_true hs.1
  have d4 : decide (sl ≤ 200000) = true := decide_eq_true hs.2
  rw [d1, d2, Bool.and_true] at h58a
  rw [d3, d4, Bool.and_true] at h58b
  clear d1 d2 d3 d4 hp hs
  unfold c29
  repeat' (first | (with_reducible first | refine T_seq ?_ | refine T_reg ?_ | refine T_skip ?_ | refine T_exit ?_ | refine T_block ?_ | refine T_cond_t rfl ?_ | refine T_cond_f rfl ?_ | (show wcall _ false (.lit (.func (.func 58) _ _)) _ _ _ _; refine wcall_fn (h58a) rfl (by simp [plainL, plain]) ?_) | (show wcall _ false (.lit (.func (.func 58) _ _)) _ _ _ _; refine wcall_fn (h58b) rfl (by simp [plainL, plain]) ?_) | refine T_ret ?_ | refine leave_of (.inr rfl) _ rfl ?_ | refine leave_of (.inl rfl) _ rfl ?_ | refine leaveA_of (.inr rfl) _ rfl ?_ | refine leaveA_of (.inl rfl) _ rfl ?_ | refine wif_intro ?_ (fun hc => ?_) | refine And.intro ?_ ?_ | intro hc) | simp (maxSteps := 4000000) only [wops_nil, wops_cons, wstep_none, wstep_some, wguard_ff, wrun_call, wrun_mv, wrun_pick, wrun_not, wrun_load, wrun_faddr, wrun_box, get_mk, wop, aop, ev, look, put_some, writes, ores_some, thenK, boolV, value, cut, hget, AV.parts, isOne, mkAgg, tupOf, ofValue_int, List.map_cons, List.map_nil, List.length_cons, List.length_nil, List.getElem?_cons_zero, List.set_cons_zero, List.take_succ_cons, List.take_zero, List.take_nil, List.drop_succ_cons, List.drop_zero, List.nil_append, List.append_nil, List.replicate_zero, List.replicate_succ, List.getD_cons_zero, List.zipIdx_cons, List.zipIdx_nil, List.all_cons, List.all_nil, Option.getD_some, Option.map_some, if_true, if_false, Nat.reduceEqDiff, Nat.reduceAdd, Nat.add_zero, Nat.zero_add, Nat.zero_ne_one, reduceCtorEq, Bool.not_true, Bool.and_true, Bool.false_eq_true, eq_self, true_and, and_self, freeze, lidsL, lids, List.flatMap_cons, List.flatMap_nil, List.all_cons, ren, *] | simp (disch := omega) only [getD_ints, wrapI] | (with_reducible show wcall _ false (.lit (.func (.func 58) _ _)) _ _ _ _; refine wcall_fn (h58a) ?_ ?_ ?_; (next => simp [rfyL, rfy, hget, ints, take_rfy]); (next => simp [plainL, plain, plainR])) | (with_reducible show wcall _ false (.lit (.func (.func 58) _ _)) _ _ _ _; refine wcall_fn (h58b) ?_ ?_ ?_; (next => simp [rfyL, rfy, hget, ints, take_rfy]); (next => simp [plainL, plain, plainR])) | omega)
  all_goals first | rfl
set_option maxHeartbeats 8000000 in
theorem k56 {n : Nat} (h : 1 ≤ n ∧ n ≤ 40) : Fn Try.prog 56 [i64 n] (bl true) [] := by
  refine fn_of e56 ?_
  have h58a := k58 (n : Int) 1 40
  have d1 : decide (1 ≤ (n : Int)) = true := decide_eq_true (by omega)
  have d2 : decide ((n : Int) ≤ 40) = true := decide_eq_true (by omega)
  rw [d1, d2, Bool.and_true] at h58a
  clear d1 d2 h
  unfold c56
  repeat' (first | (with_reducible first | refine T_seq ?_ | refine T_reg ?_ | refine T_skip ?_ | refine T_exit ?_ | refine T_block ?_ | refine T_cond_t rfl ?_ | refine T_cond_f rfl ?_ | (show wcall _ false (.lit (.func (.func 58) _ _)) _ _ _ _; refine wcall_fn (h58a) rfl (by simp [plainL, plain]) ?_) | refine T_ret ?_ | refine leave_of (.inr rfl) _ rfl ?_ | refine leave_of (.inl rfl) _ rfl ?_ | refine leaveA_of (.inr rfl) _ rfl ?_ | refine leaveA_of (.inl rfl) _ rfl ?_ | refine wif_intro ?_ (fun hc => ?_) | refine And.intro ?_ ?_ | intro hc) | simp (maxSteps := 4000000) only [wops_nil, wops_cons, wstep_none, wrun_call, wrun_mv, get_mk, wop, aop, ev, look, put_some, writes, ores_some, thenK, tupOf, List.map_cons, List.map_nil, List.length_nil, List.append_nil, List.replicate_zero, List.zipIdx_cons, List.zipIdx_nil, if_true, if_false, Nat.reduceEqDiff, Nat.zero_add, reduceCtorEq, eq_self, freeze, lidsL, lids, List.flatMap_cons, List.flatMap_nil, ren, *] | simp (disch := omega) only [getD_ints, wrapI] | (with_reducible show wcall _ false (.lit (.func (.func 58) _ _)) _ _ _ _; refine wcall_fn (h58a) ?_ ?_ ?_; (next => simp [rfyL, rfy, hget, ints, take_rfy]); (next => simp [plainL, plain, plainR])) | omega)
  all_goals first | rfl
set_option maxHeartbeats 8000000 in
theorem k55 {nb : Bool} {L : List (Int × Int)} (hR : ROk L) : Fn Try.prog 55 [.sl nb 2 (rgR L)] (i64 0) [] := by
  refine fn_of e55 ?_
  have hll := rgR_len L
  have hn := hR.n
  have h56 := k56 hn
  have hr := PLift.up hR.r
  have hle := PLift.up hR.le
  clear hR
  unfold c55
  repeat' (first | (with_reducible first | refine T_seq ?_ | refine T_reg ?_ | refine T_skip ?_ | refine T_exit ?_ | refine T_block ?_ | refine T_cond_t rfl ?_ | refine T_cond_f rfl ?_ | (show wcall _ false (.lit (.func (.func 56) _ _)) _ _ _ _; refine wcall_fn (h56) rfl (by simp [plainL, plain]) ?_) | refine T_ret ?_ | refine leave_of (.inr rfl) _ rfl ?_ | refine leave_of (.inl rfl) _ rfl ?_ | refine leaveA_of (.inr rfl) _ rfl ?_ | refine leaveA_of (.inl rfl) _ rfl ?_ | refine wif_intro ?_ (fun hc => ?_) | refine And.intro ?_ ?_ | intro hc) | simp (maxSteps := 4000000) only [wops_nil, wops_cons, wstep_none, wrun_call, wrun_mv, wrun_not, wrun_len, wop, aop, ev, look, put_some, writes, ores_some, ores_map, ores_bind, thenK, boolV, intV, lenOf, hget, List.map_cons, List.map_nil, List.length_nil, List.append_nil, List.replicate_zero, List.zipIdx_cons, List.zipIdx_nil, Option.pure_def, Option.bind_eq_bind, if_true, if_false, Nat.reduceEqDiff, Nat.zero_add, reduceCtorEq, Bool.not_true, eq_self, freeze, lidsL, lids, List.flatMap_cons, List.flatMap_nil, ren, *] | simp (disch := omega) only [getD_ints, wrapI] | (with_reducible show wcall _ false (.lit (.func (.func 56) _ _)) _ _ _ _; refine wcall_fn (h56) ?_ ?_ ?_; (next => simp [rfyL, rfy, hget, ints, take_rfy, plainR_rg, Int.toNat_natCast]); (next => simp [plainL, plain, plainR, plainR_rg, Int.toNat_natCast])) | omega)
  refine T_forP [9, 10, 11] (fun k => [(9, .sl nb 2 (rgR L)), (10, i64 L.length), (11, i64 k)]) L.length (fun k H => True) 0 ?_ trivial (Nat.zero_le _) ?_
  · simp [St.only, get_mk, look]
  clear h56
  intro k H hk _
  obtain ⟨u1, u2, u3, u4⟩ := cells_sub (X := []) (H := H) rfl
  by_cases hkn : k < L.length
  · have g := rgR_get hkn
    obtain ⟨⟨b1, b2⟩, b3, b4⟩ := hr.down k hkn
    have hlk := hle.down k hkn
    generalize (L.getD k (0, 0)).1 = lo at *
    generalize (L.getD k (0, 0)).2 = up at *
    have h58a := k58 lo (-100000) 100000
    have h58b := k58 up (-100000) 100000
    have d1 : decide (-100000 ≤ lo) = true := decide_eq_true b1
    have d2 : decide (lo ≤ 100000) = true := decide_eq_true b2
    have d3 : decide (-100000 ≤ up) = true := decide_eq_true b3
    have d4 : decide (up ≤ 100000) = true := decide_eq_true b4
    rw [d1, d2, Bool.and_true] at h58a
    rw [d3, d4, Bool.and_true] at h58b
    have d5 : decide (lo > up) = false := decide_eq_false (by omega)
    have ek : (k : Int) < (L.length : Int) := by omega
    clear hr hle b1 b2 b3 b4 d1 d2 d3 d4 hlk
    unfold c55l0
    repeat' (first | (with_reducible first | refine T_seq ?_ | refine T_reg ?_ | refine T_skip ?_ | refine T_exit ?_ | refine T_block ?_ | refine T_cond_t rfl ?_ | refine T_cond_f rfl ?_ | (show wcall _ false (.lit (.func (.func 58) _ _)) _ _ _ _; refine wcall_fn (h58a) rfl (by simp [plainL, plain]) ?_) | (show wcall _ false (.lit (.func (.func 58) _ _)) _ _ _ _; refine wcall_fn (h58b) rfl (by simp [plainL, plain]) ?_) | refine T_ret ?_ | refine leave_of (.inr rfl) _ rfl ?_ | refine leave_of (.inl rfl) _ rfl ?_ | refine leaveA_of (.inr rfl) _ rfl ?_ | refine leaveA_of (.inl rfl) _ rfl ?_ | refine wif_intro ?_ (fun hc => ?_) | refine And.intro ?_ ?_ | intro hc) | simp (maxSteps := 4000000) only [wops_nil, wops_cons, wstep_none, wstep_some, wguard_ff, wrun_call, wrun_mv, wrun_pick, wrun_bin, wrun_not, wrun_load, wrun_store, wrun_faddr, wrun_iaddrS, wrun_alloc, wop, aop, ev, look, put_some, put_none, writes, ores_some, ores_ite_none, binV, thenK, blockK, boolV, value, cut, hget, putCells, AV.parts, isOne, toLits, mkAgg, ofValue_int, List.map_cons, List.map_nil, List.length_cons, List.length_nil, List.getElem?_cons_zero, List.set_cons_zero, List.take_succ_cons, List.take_zero, List.take_nil, List.drop_succ_cons, List.drop_zero, List.drop_nil, List.nil_append, List.append_nil, List.append_assoc, List.replicate_zero, List.replicate_succ, List.getD_cons_zero, List.all_cons, List.all_nil, List.length_append, Option.getD_some, Option.map_some, if_true, if_false, Nat.reduceEqDiff, Nat.reduceAdd, Nat.reduceLT, Nat.add_zero, Nat.zero_add, Nat.le_refl, reduceCtorEq, Bool.not_true, Bool.and_true, Bool.false_eq_true, eq_self, true_and, and_true, and_self, decide_true, Int.reduceNeg, freeze, lidsL, lids, List.flatMap_cons, List.flatMap_nil, List.all_cons, ren, Int.toNat_natCast, *] | simp (disch := omega) only [wrapI] | (with_reducible show wcall _ false (.lit (.func (.func 58) _ _)) _ _ _ _; refine wcall_fn (h58a) ?_ ?_ ?_; (next => simp [rfyL, rfy, hget, ints, take_rfy, plainR_rg, Int.toNat_natCast]); (next => simp [plainL, plain, plainR, plainR_rg, Int.toNat_natCast])) | (with_reducible show wcall _ false (.lit (.func (.func 58) _ _)) _ _ _ _; refine wcall_fn (h58b) ?_ ?_ ?_; (next => simp [rfyL, rfy, hget, ints, take_rfy, plainR_rg, Int.toNat_natCast]); (next => simp [plainL, plain, plainR, plainR_rg, Int.toNat_natCast])) | omega)
    all_goals first | rfl | exact hkn | exact ⟨hkn, trivial⟩ | (simp [St.only, get_mk, look]; done)
  · have hke : k = L.length := by omega
    subst hke
    clear hr hle
    have hkk : decide ((L.length : Int) < (L.length : Int)) = false := by simp
    unfold c55l0
    repeat' (first | (with_reducible first | refine T_seq ?_ | refine T_reg ?_ | refine T_skip ?_ | refine T_exit ?_ | refine T_block ?_ | refine T_cond_t rfl ?_ | refine T_cond_f rfl ?_ | refine T_ret ?_ | refine wif_intro ?_ (fun hc => ?_) | refine And.intro ?_ ?_ | intro hc) | simp (maxSteps := 4000000) only [wops_nil, wops_cons, wstep_none, wrun_mv, wrun_bin, wop, aop, ev, look, put_some, writes, ores_some, binV, thenK, blockK, List.append_nil, List.replicate_zero, Option.map_some, if_true, if_false, Nat.reduceEqDiff, reduceCtorEq, eq_self, true_and, false_and, Int.reduceNeg, Int.toNat_natCast, *] | simp (disch := omega) only [getD_ints, wrapI] | omega)
    exact leave_of (.inr rfl) [i64 0] (by simp [resL, resAV, get_mk, look]) ⟨rfl, rfl⟩
set_option maxHeartbeats 8000000 in
theorem k26 {nb : Bool} {L : List (Int × Int)} {pk sl : Int} (hR : ROk L) (hp : 0 ≤ pk ∧ pk ≤ 200000) (hs : 0 ≤ sl ∧ sl ≤ 200000) : Fn Try.prog 26 [.sl nb 2 (rgR L), tlV pk sl] (i64 0) [] := by
  refine fn_of e26 ?_
  have h29 := k29 hp hs
  have h55 := k55 (nb := nb) hR
  clear hR hp hs
  unfold c26
  repeat' (first | (with_reducible first | refine T_seq ?_ | refine T_reg ?_ | refine T_skip ?_ | refine T_exit ?_ | refine T_block ?_ | refine T_cond_t rfl ?_ | refine T_cond_f rfl ?_ | (show wcall _ false (.lit (.func (.func 29) _ _)) _ _ _ _; refine wcall_fn (h29) rfl (by simp [plainL, plain]) ?_) | (show wcall _ false (.lit (.func (.func 55) _ _)) _ _ _ _; refine wcall_fn (h55) rfl (by simp [plainL, plain, plainR_rg]) ?_) | refine T_ret ?_ | refine leave_of (.inr rfl) _ rfl ?_ | refine leave_of (.inl rfl) _ rfl ?_ | refine leaveA_of (.inr rfl) _ rfl ?_ | refine leaveA_of (.inl rfl) _ rfl ?_ | refine wif_intro ?_ (fun hc => ?_) | refine And.intro ?_ ?_ | intro hc) | simp (maxSteps := 4000000) only [wops_nil, wops_cons, wstep_none, wrun_call, wrun_mv, wrun_bin, wrun_load, wrun_box, get_mk, wop, aop, ev, look, put_some, writes, ores_some, binV, thenK, value, cut, hget, AV.parts, isOne, toLits, mkAgg, tupOf, ofValue_int, List.map_cons, List.map_nil, List.length_cons, List.length_nil, List.getElem?_cons_zero, List.set_cons_zero, List.take_succ_cons, List.take_nil, List.drop_zero, List.nil_append, List.append_nil, List.replicate_zero, List.replicate_succ, List.getD_cons_zero, List.zipIdx_cons, List.zipIdx_nil, List.all_cons, List.all_nil, Option.getD_some, Option.map_some, if_true, if_false, Nat.reduceEqDiff, Nat.reduceAdd, Nat.add_zero, Nat.zero_add, Nat.zero_ne_one, reduceCtorEq, Bool.and_true, eq_self, true_and, and_self, freeze, lidsL, lids, List.flatMap_cons, List.flatMap_nil, List.all_cons, ren, *] | simp (disch := omega) only [getD_ints, wrapI] | (with_reducible show wcall _ false (.lit (.func (.func 29) _ _)) _ _ _ _; refine wcall_fn (h29) ?_ ?_ ?_; (next => simp [rfyL, rfy, hget, ints, take_rfy, plainR_rg]); (next => simp [plainL, plain, plainR, plainR_rg])) | (with_reducible show wcall _ false (.lit (.func (.func 55) _ _)) _ _ _ _; refine wcall_fn (h55) ?_ ?_ ?_; (next => simp [rfyL, rfy, hget, ints, take_rfy, plainR_rg]); (next => simp [plainL, plain, plainR, plainR_rg])) | omega)
  all_goals first | rfl
theorem wcall_rawfn2 {P : Program} {s : List (Nat × AV)} {h : List Blk} {K : St → Prop} {g : FuncId} {args : List AV} {r : AV} {d : Option Nat} (hf : Fn P g args r []) (hp : plainL args = true) (hr : ∀ ρ, ren ρ r = r)
    (hk : K (St.put ⟨s, h⟩ d r)) : wcall P true (.lit (.func (.func g) #[] #[])) args d ⟨s, h⟩ K := by
  refine wcall_raw ((acall_frame hp hf).mono fun r' H' ⟨r0, new, ⟨e1, e2⟩, e3, e4⟩ => ?_)
  subst e1 e2
  rw [hr] at e3
  simp only [List.map_nil, List.append_nil] at e4
  subst e3 e4
  exact hk
set_option maxHeartbeats 8000000 in
theorem k11 {nb : Bool} {L : List (Int × Int)} {pk sl A I J : Int} (hR : ROk L) (hp : 0 ≤ pk ∧ pk ≤ 200000) (hs : 0 ≤ sl ∧ sl ≤ 200000) (hj : jdg L pk sl (prs L.length) 1 = (A, I, J)) : Fn Try.prog 11 [.sl nb 2 (rgR L), tlV pk sl] (.tup [i64 A, .lit (.agg #[.int .i64 I, .int .i64 J]), i64 0]) [] := by
  refine fn_of e11 ?_
  have h26 := k26 (nb := nb) hR hp hs
  have h27 := k27 (nb := nb) hR hs hj
  clear hR hp hs hj
  unfold c11
  repeat' (first | ((with_reducible refine T_calm ?_ ?_); rfl) | (with_reducible first | refine T_seq ?_ | refine T_reg ?_ | refine T_draw ?_ | refine T_skip ?_ | refine T_exit ?_ | refine T_block ?_ | refine T_cond_t rfl ?_ | refine T_cond_f rfl ?_ | refine wdW_cons rfl ?_ | (show wcall _ false (.lit (.func (.func 26) _ _)) _ _ _ _; refine wcall_fn (h26) rfl (by simp [plainL, plain, plainR_rg]) ?_) | (show wcallX _ false (.lit (.func (.func 26) _ _)) _ _ _ _; refine wcallX_fn (h26) rfl (by simp [plainL, plain, plainR, plainR_rg]) ?_) | refine T_ret ?_ | refine wif_intro ?_ (fun hc => ?_) | refine And.intro ?_ ?_ | intro hc) | simp (maxSteps := 4000000) only [wops_nil, wops_cons, wstep_none, wrun_call, wrun_mv, wrun_bin, wrun_build, wrun_load, wrun_alloc, wrun_box, wop, aop, ev, look, put_some, writes, ores_some, ores_ite_none, ores_map, wif_true, binV, thenK, value, cut, hget, fillA, putCells, AV.parts, isOne, toLits, mkAgg, ofValue_int, List.map_cons, List.map_nil, List.length_cons, List.length_nil, List.getElem?_cons_zero, List.getElem?_cons_succ, List.set_cons_zero, List.set_cons_succ, List.take_succ_cons, List.take_zero, List.take_nil, List.drop_succ_cons, List.drop_zero, List.drop_nil, List.cons_append, List.nil_append, List.append_nil, List.replicate_zero, List.replicate_succ, List.getD_cons_zero, List.zipIdx_cons, List.zipIdx_nil, List.all_cons, List.all_nil, Option.getD_some, Option.map_some, if_true, if_false, Nat.reduceEqDiff, Nat.reduceAdd, Nat.add_zero, Nat.zero_add, Nat.le_refl, Nat.zero_ne_one, reduceCtorEq, Bool.and_true, eq_self, true_and, and_self, freeze, lidsL, lids, List.flatMap_cons, List.flatMap_nil, List.all_cons, ren, *] | simp (disch := omega) only [getD_ints, wrapI] | (with_reducible show wcall _ false (.lit (.func (.func 26) _ _)) _ _ _ _; refine wcall_fn (h26) ?_ ?_ ?_; (next => simp [rfyL, rfy, hget, ints, take_rfy, plainR_rg]); (next => simp [plainL, plain, plainR, plainR_rg])) | (with_reducible show wcallX _ false (.lit (.func (.func 26) _ _)) _ _ _ _; refine wcallX_fn (h26) ?_ ?_ ?_; (next => simp [rfyL, rfy, hget, ints, take_rfy, plainR_rg]); (next => simp [plainL, plain, plainR, plainR_rg])) | omega)
  refine wcall_rawfn2 h27 (by simp [plainL, plain, plainR_rg]) (fun _ => rfl) ?_
  repeat' (first | ((with_reducible refine T_calm ?_ ?_); rfl) | (with_reducible first | refine T_seq ?_ | refine T_reg ?_ | refine T_draw ?_ | refine T_skip ?_ | refine T_exit ?_ | refine T_block ?_ | refine T_cond_t rfl ?_ | refine T_cond_f rfl ?_ | refine wdW_cons rfl ?_ | refine T_ret ?_ | refine wif_intro ?_ (fun hc => ?_) | refine And.intro ?_ ?_ | intro hc) | simp (maxSteps := 4000000) only [wops_nil, wops_cons, wstep_none, wrun_mv, wrun_ext, wrun_load, wrun_store, wrun_alloc, wrunX_mv, wrunX_load, wrunX_store, wdW_nil, wstepX_none, wop, aop, ev, look, put_some, put_none, writes, ores_some, thenK, value, cut, hget, putCells, AV.parts, isOne, toLits, mkAgg, ofValue_int, List.map_cons, List.map_nil, List.length_cons, List.length_nil, List.getElem?_cons_zero, List.getElem?_cons_succ, List.set_cons_zero, List.set_cons_succ, List.take_succ_cons, List.take_zero, List.take_nil, List.drop_succ_cons, List.drop_zero, List.drop_nil, List.cons_append, List.nil_append, List.append_nil, List.append_assoc, List.replicate_zero, List.getD_cons_zero, List.all_cons, List.all_nil, Option.getD_some, Option.map_some, if_true, if_false, Nat.reduceEqDiff, Nat.reduceAdd, Nat.reduceLT, Nat.add_zero, Nat.zero_add, Nat.le_refl, reduceCtorEq, Bool.and_true, eq_self, true_and, and_self, List.all_cons, *] | simp (disch := omega) only [getD_ints, wrapI] | omega)
  all_goals first | exact leave_of (.inr rfl) [i64 A, .lit (.agg #[.int .i64 I, .int .i64 J]), i64 0] (by simp [resL, resAV, aop, ev, get_mk, look, hget, cut, value, mkAgg, toLits]) ⟨rfl, rfl⟩
def box2 : List (Int × Int) := [(0, 0), (5, 7)]
theorem box2_ok : ROk box2 := by
  refine ⟨by decide, ?_, ?_⟩
  · intro j hj
    have : j < 2 := hj
    match j, this with
    | 0, _ => decide
    | 1, _ => decide
  · intro j hj
    have : j < 2 := hj
    match j, this with
    | 0, _ => decide
    | 1, _ => decide
end Go.Abs
