import Derived.Test.YtdedhipkncagjaaK545x
set_option linter.all false
set_option linter.unusedVariables false
set_option linter.unusedSimpArgs false
set_option linter.unusedSectionVars false
namespace Go.Abs
open Go.Proofs
/-! Deciding -/
abbrev S14 (L : List (Int × Int)) (pk sl I J : Int) (k : Nat) : St := ⟨[(0, .sl false 2 (rgR L)), (3, .loc 0 0 0), (28, i64 L.length), (29, i64 k)], [tB pk sl, .cells true false 2 [[i64 I, i64 J]]]⟩
set_option maxHeartbeats 8000000 in
theorem k14e {L : List (Int × Int)} {pk sl A I J : Int} (hR : ROk L) (hp : 0 ≤ pk ∧ pk ≤ 200000) (hs : 0 ≤ sl ∧ sl ≤ 200000) (hj : jdg L pk sl (prs L.length) 1 = (A, I, J)) (hA : A ≠ 0) : Fn Try.prog 14 [.sl false 2 (rgR L), tlV pk sl] (.tup [i64 0, i64 24]) [] := by
  refine fn_of e14 ?_
  have h11 := k11 (nb := false) hR hp hs hj
  have d : (A != 0) = true := by simpa using hA
  clear hR hp hs hj hA
  unfold c14
  repeat' (first | (with_reducible first | refine T_seq ?_ | refine T_reg ?_ | refine T_skip ?_ | refine T_exit ?_ | refine T_block ?_ | refine T_cond_t rfl ?_ | refine T_cond_f rfl ?_ | (show wcall _ false (.lit (.func (.func 11) _ _)) _ _ _ _; refine wcall_fn (h11) rfl (by simp [plainL, plain, plainR_rg]) ?_) | refine T_ret ?_ | refine leave_of (.inr rfl) _ rfl ?_ | refine leave_of (.inl rfl) _ rfl ?_ | refine leaveA_of (.inr rfl) _ rfl ?_ | refine leaveA_of (.inl rfl) _ rfl ?_ | refine wif_intro ?_ (fun hc => ?_) | refine And.intro ?_ ?_ | intro hc) | simp (maxSteps := 4000000) only [wops_nil, wops_cons, wstep_none, wrun_call, wrun_mv, wrun_bin, wrun_ext, wrun_load, wrun_store, wrun_alloc, wrun_box, get_mk, wop, aop, ev, look, put_some, put_none, writes, ores_some, binV, thenK, blockK, value, cut, hget, putCells, AV.parts, isOne, toLits, mkAgg, tupOf, ofValue_int, List.map_cons, List.map_nil, List.length_cons, List.length_nil, List.getElem?_cons_zero, List.getElem?_cons_succ, List.set_cons_zero, List.set_cons_succ, List.take_succ_cons, List.take_zero, List.take_nil, List.drop_succ_cons, List.drop_zero, List.drop_nil, List.cons_append, List.nil_append, List.append_nil, List.append_assoc, List.replicate_zero, List.replicate_succ, List.getD_cons_zero, List.zipIdx_cons, List.zipIdx_nil, List.all_cons, List.all_nil, Option.getD_some, Option.map_some, if_true, if_false, Nat.reduceEqDiff, Nat.reduceAdd, Nat.reduceLT, Nat.add_zero, Nat.zero_add, Nat.le_refl, Nat.zero_ne_one, reduceCtorEq, Bool.and_true, eq_self, true_and, and_self, freeze, lidsL, lids, List.flatMap_cons, List.flatMap_nil, List.all_cons, ren, renL, *] | simp (disch := omega) only [getD_ints, wrapI] | (with_reducible show wcall _ false (.lit (.func (.func 11) _ _)) _ _ _ _; refine wcall_fn (h11) ?_ ?_ ?_; (next => simp [rfyL, rfy, hget, ints, take_rfy, plainR_rg]); (next => simp [plainL, plain, plainR, plainR_rg])) | omega)
  all_goals first | rfl
set_option maxHeartbeats 8000000 in
theorem k14w {L : List (Int × Int)} {pk sl I J : Int} (hR : ROk L) (hp : 0 ≤ pk ∧ pk ≤ 200000) (hs : 0 ≤ sl ∧ sl ≤ 200000) (hj : jdg L pk sl (prs L.length) 1 = (0, I, J)) (hw : anyW L = true) : Fn Try.prog 14 [.sl false 2 (rgR L), tlV pk sl] (.tup [i64 0, i64 8]) [] := by
  refine fn_of e14 ?_
  have h11 := k11 (nb := false) hR hp hs hj
  have h33 := k33 false hR
  rw [hw] at h33
  clear hR hp hs hj hw
  unfold c14
  repeat' (first | (with_reducible first | refine T_seq ?_ | refine T_reg ?_ | refine T_skip ?_ | refine T_exit ?_ | refine T_block ?_ | refine T_cond_t rfl ?_ | refine T_cond_f rfl ?_ | (show wcall _ false (.lit (.func (.func 11) _ _)) _ _ _ _; refine wcall_fn (h11) rfl (by simp [plainL, plain, plainR_rg]) ?_) | refine T_ret ?_ | refine leave_of (.inr rfl) _ rfl ?_ | refine leave_of (.inl rfl) _ rfl ?_ | refine leaveA_of (.inr rfl) _ rfl ?_ | refine leaveA_of (.inl rfl) _ rfl ?_ | refine wif_intro ?_ (fun hc => ?_) | refine And.intro ?_ ?_ | intro hc) | simp (maxSteps := 4000000) only [wops_nil, wops_cons, wstep_none, wrun_call, wrun_mv, wrun_bin, wrun_ext, wrun_load, wrun_store, wrun_alloc, wrun_box, wop, aop, ev, look, put_some, put_none, writes, ores_some, binV, thenK, value, cut, hget, putCells, AV.parts, isOne, toLits, mkAgg, ofValue_int, List.map_cons, List.map_nil, List.length_cons, List.length_nil, List.getElem?_cons_zero, List.getElem?_cons_succ, List.set_cons_zero, List.set_cons_succ, List.take_succ_cons, List.take_zero, List.take_nil, List.drop_succ_cons, List.drop_zero, List.drop_nil, List.cons_append, List.nil_append, List.append_nil, List.append_assoc, List.replicate_zero, List.replicate_succ, List.getD_cons_zero, List.zipIdx_cons, List.zipIdx_nil, List.all_cons, List.all_nil, Option.getD_some, Option.map_some, if_true, if_false, Nat.reduceEqDiff, Nat.reduceAdd, Nat.reduceLT, Nat.add_zero, Nat.zero_add, Nat.le_refl, Nat.zero_ne_one, reduceCtorEq, Bool.and_true, eq_self, true_and, and_self, freeze, lidsL, lids, List.flatMap_cons, List.flatMap_nil, List.all_cons, ren, renL, *] | simp (disch := omega) only [getD_ints, wrapI] | (with_reducible show wcall _ false (.lit (.func (.func 11) _ _)) _ _ _ _; refine wcall_fn (h11) ?_ ?_ ?_; (next => simp [rfyL, rfy, hget, ints, take_rfy, plainR_rg]); (next => simp [plainL, plain, plainR, plainR_rg])) | omega)
  refine wcall_rawfn h33 (by simp [plainL, plain, plainR_rg]) ?_
  repeat' (first | (with_reducible first | refine T_seq ?_ | refine T_reg ?_ | refine T_skip ?_ | refine T_exit ?_ | refine T_block ?_ | refine T_cond_t rfl ?_ | refine T_cond_f rfl ?_ | refine T_ret ?_ | refine leave_of (.inr rfl) _ rfl ?_ | refine leave_of (.inl rfl) _ rfl ?_ | refine leaveA_of (.inr rfl) _ rfl ?_ | refine leaveA_of (.inl rfl) _ rfl ?_ | refine wif_intro ?_ (fun hc => ?_) | refine And.intro ?_ ?_ | intro hc) | simp (maxSteps := 4000000) only [wops_nil, wops_cons, wstep_none, wrun_mv, get_mk, wop, aop, ev, look, put_some, writes, ores_some, thenK, blockK, tupOf, List.length_cons, List.length_nil, List.append_nil, List.replicate_zero, if_true, if_false, Nat.reduceEqDiff, Nat.reduceAdd, Nat.zero_add, reduceCtorEq, eq_self, ren, renL, *] | simp (disch := omega) only [getD_ints, wrapI] | omega)
  all_goals first | rfl
set_option maxHeartbeats 8000000 in
theorem k14b {L : List (Int × Int)} {pk sl I J : Int} {k : Nat} {B : Bool} (hk : k < L.length) (hn : L.length ≤ 40) (h35 : Fn Try.prog 35 [tlV pk sl, .sl false 2 (rgR L), i64 k] (bl B) []) (K : Exit → St → Prop)
    (hX : B = true → ∀ τ : St, τ.get 4 = i64 k → τ.get 5 = i64 0 → K .ret τ) (hN : B = false → ∀ τ : St, τ.only [0, 3, 28, 29] = S14 L pk sl I J (k + 1) → K .normal τ) {b0 : Nat} : T none Try.prog muts 39 b0 c14l0 (S14 L pk sl I J k) K := by
  have hkn : (k : Int) < (L.length : Int) := by omega
  cases B with
  | true =>
    have f := PLift.up (hX rfl)
    clear hX hN
    unfold c14l0
    repeat' (first | (with_reducible first | refine T_seq ?_ | refine T_reg ?_ | refine T_skip ?_ | refine T_exit ?_ | refine T_block ?_ | refine T_cond_t rfl ?_ | refine T_cond_f rfl ?_ | (show wcall _ false (.lit (.func (.func 35) _ _)) _ _ _ _; refine wcall_fn (h35) rfl (by simp [plainL, plain, plainR_rg]) ?_) | refine T_ret ?_ | refine wif_intro ?_ (fun hc => ?_) | refine And.intro ?_ ?_ | intro hc) | simp (maxSteps := 4000000) only [wops_nil, wops_cons, wstep_none, wrun_call, wrun_mv, wrun_bin, wrun_build, wrun_load, wop, aop, ev, look, put_some, writes, ores_some, ores_ite_none, ores_map, wif_true, binV, thenK, blockK, value, cut, hget, fillA, putCells, AV.parts, isOne, toLits, mkAgg, ofValue_int, List.map_cons, List.map_nil, List.length_cons, List.length_nil, List.getElem?_cons_zero, List.take_succ_cons, List.take_zero, List.take_nil, List.drop_succ_cons, List.drop_zero, List.drop_nil, List.nil_append, List.append_nil, List.replicate_zero, List.getD_cons_zero, List.all_cons, List.all_nil, Option.getD_some, Option.map_some, if_true, if_false, Nat.reduceEqDiff, Nat.reduceAdd, Nat.zero_add, Nat.le_refl, reduceCtorEq, Bool.and_true, eq_self, true_and, and_self, decide_true, freeze, lidsL, lids, List.flatMap_cons, List.flatMap_nil, List.all_cons, ren, *] | simp (disch := omega) only [getD_ints, wrapI] | (with_reducible show wcall _ false (.lit (.func (.func 35) _ _)) _ _ _ _; refine wcall_fn (h35) ?_ ?_ ?_; (next => simp [rfyL, rfy, hget, ints, take_rfy, plainR_rg]); (next => simp [plainL, plain, plainR, plainR_rg])) | omega)
    all_goals first | exact f.down _ rfl rfl
  | false =>
    have f := PLift.up (hN rfl)
    clear hX hN
    unfold c14l0
    repeat' (first | (with_reducible first | refine T_seq ?_ | refine T_reg ?_ | refine T_skip ?_ | refine T_exit ?_ | refine T_block ?_ | refine T_cond_t rfl ?_ | refine T_cond_f rfl ?_ | (show wcall _ false (.lit (.func (.func 35) _ _)) _ _ _ _; refine wcall_fn (h35) rfl (by simp [plainL, plain, plainR_rg]) ?_) | refine T_ret ?_ | refine wif_intro ?_ (fun hc => ?_) | refine And.intro ?_ ?_ | intro hc) | simp (maxSteps := 4000000) only [wops_nil, wops_cons, wstep_none, wrun_call, wrun_mv, wrun_bin, wrun_build, wrun_load, wop, aop, ev, look, put_some, writes, ores_some, ores_ite_none, ores_map, wif_true, binV, thenK, blockK, value, cut, hget, fillA, putCells, AV.parts, isOne, toLits, mkAgg, ofValue_int, List.map_cons, List.map_nil, List.length_cons, List.length_nil, List.getElem?_cons_zero, List.take_succ_cons, List.take_zero, List.take_nil, List.drop_succ_cons, List.drop_zero, List.drop_nil, List.nil_append, List.append_nil, List.replicate_zero, List.getD_cons_zero, List.all_cons, List.all_nil, Option.getD_some, Option.map_some, if_true, if_false, Nat.reduceEqDiff, Nat.reduceAdd, Nat.zero_add, Nat.le_refl, reduceCtorEq, Bool.and_true, eq_self, true_and, and_self, decide_true, freeze, lidsL, lids, List.flatMap_cons, List.flatMap_nil, List.all_cons, ren, *] | simp (disch := omega) only [wrapI] | (with_reducible show wcall _ false (.lit (.func (.func 35) _ _)) _ _ _ _; refine wcall_fn (h35) ?_ ?_ ?_; (next => simp [rfyL, rfy, hget, ints, take_rfy, plainR_rg]); (next => simp [plainL, plain, plainR, plainR_rg])) | omega)
    all_goals first | exact f.down _ (by simp [St.only, get_mk, look])
set_option maxHeartbeats 8000000 in
theorem k14n {L : List (Int × Int)} {pk sl I J : Int} (hR : ROk L) (hp : 0 ≤ pk ∧ pk ≤ 200000) (hs : 0 ≤ sl ∧ sl ≤ 200000) (hj : jdg L pk sl (prs L.length) 1 = (0, I, J)) (hw : anyW L = false) (hD : ∀ z, z < L.length → ¬Dz L pk sl z) : Fn Try.prog 14 [.sl false 2 (rgR L), tlV pk sl] (.tup [i64 0, i64 12]) [] := by
  refine fn_of e14 ?_
  have h11 := k11 (nb := false) hR hp hs hj
  have h33 := k33 false hR
  rw [hw] at h33
  have hn := hR.n
  have hll := rgR_len L
  have h35 := PLift.up (fun z hz => k35f hR (zone := z) hz hs (hD z hz))
  clear hR hp hs hj hw hD
  unfold c14
  repeat' (first | (with_reducible first | refine T_seq ?_ | refine T_reg ?_ | refine T_skip ?_ | refine T_exit ?_ | refine T_block ?_ | refine T_cond_t rfl ?_ | refine T_cond_f rfl ?_ | (show wcall _ false (.lit (.func (.func 11) _ _)) _ _ _ _; refine wcall_fn (h11) rfl (by simp [plainL, plain, plainR_rg]) ?_) | refine T_ret ?_ | refine leave_of (.inr rfl) _ rfl ?_ | refine leave_of (.inl rfl) _ rfl ?_ | refine leaveA_of (.inr rfl) _ rfl ?_ | refine leaveA_of (.inl rfl) _ rfl ?_ | refine wif_intro ?_ (fun hc => ?_) | refine And.intro ?_ ?_ | intro hc) | simp (maxSteps := 4000000) only [wops_nil, wops_cons, wstep_none, wrun_call, wrun_mv, wrun_bin, wrun_ext, wrun_load, wrun_store, wrun_alloc, wrun_box, wop, aop, ev, look, put_some, put_none, writes, ores_some, binV, thenK, value, cut, hget, putCells, AV.parts, isOne, toLits, mkAgg, ofValue_int, List.map_cons, List.map_nil, List.length_cons, List.length_nil, List.getElem?_cons_zero, List.getElem?_cons_succ, List.set_cons_zero, List.set_cons_succ, List.take_succ_cons, List.take_zero, List.take_nil, List.drop_succ_cons, List.drop_zero, List.drop_nil, List.cons_append, List.nil_append, List.append_nil, List.append_assoc, List.replicate_zero, List.replicate_succ, List.getD_cons_zero, List.zipIdx_cons, List.zipIdx_nil, List.all_cons, List.all_nil, Option.getD_some, Option.map_some, if_true, if_false, Nat.reduceEqDiff, Nat.reduceAdd, Nat.reduceLT, Nat.add_zero, Nat.zero_add, Nat.le_refl, Nat.zero_ne_one, reduceCtorEq, Bool.and_true, eq_self, true_and, and_self, freeze, lidsL, lids, List.flatMap_cons, List.flatMap_nil, List.all_cons, ren, renL, *] | simp (disch := omega) only [getD_ints, wrapI] | (with_reducible show wcall _ false (.lit (.func (.func 11) _ _)) _ _ _ _; refine wcall_fn (h11) ?_ ?_ ?_; (next => simp [rfyL, rfy, hget, ints, take_rfy, plainR_rg]); (next => simp [plainL, plain, plainR, plainR_rg])) | omega)
  refine wcall_rawfn h33 (by simp [plainL, plain, plainR_rg]) ?_
  clear h33 h11
  repeat' (first | (with_reducible first | refine T_seq ?_ | refine T_reg ?_ | refine T_skip ?_ | refine T_exit ?_ | refine T_block ?_ | refine T_cond_t rfl ?_ | refine T_cond_f rfl ?_ | refine T_ret ?_ | refine leave_of (.inr rfl) _ rfl ?_ | refine leave_of (.inl rfl) _ rfl ?_ | refine leaveA_of (.inr rfl) _ rfl ?_ | refine leaveA_of (.inl rfl) _ rfl ?_ | refine wif_intro ?_ (fun hc => ?_) | refine And.intro ?_ ?_ | intro hc) | simp (maxSteps := 4000000) only [wops_nil, wops_cons, wstep_none, wrun_mv, wrun_len, wop, aop, ev, look, put_some, writes, ores_some, ores_map, ores_bind, thenK, blockK, intV, lenOf, hget, List.length_cons, List.length_nil, List.append_nil, List.replicate_zero, Option.pure_def, Option.bind_eq_bind, if_true, if_false, Nat.reduceEqDiff, Nat.reduceAdd, Nat.zero_add, reduceCtorEq, eq_self, *] | simp (disch := omega) only [getD_ints, wrapI] | omega)
  refine T_for [0, 3, 28, 29] (S14 L pk sl I J) L.length (fun _ => True) 0 ?_ trivial (Nat.zero_le _) ?_
  · simp [St.only, get_mk, look]
  intro k hk _
  by_cases hkn : k < L.length
  · refine k14b hkn hn.2 (h35.down k hkn) _ (fun h => by simp at h) (fun _ τ ht => ⟨⟨hkn, trivial⟩, ht⟩)
  · have hke : k = L.length := by omega
    subst hke
    clear h35
    have hkk : decide ((L.length : Int) < (L.length : Int)) = false := by simp
    unfold c14l0
    repeat' (first | (with_reducible first | refine T_seq ?_ | refine T_reg ?_ | refine T_skip ?_ | refine T_exit ?_ | refine T_block ?_ | refine T_cond_t rfl ?_ | refine T_cond_f rfl ?_ | refine T_ret ?_ | refine leave_of (.inr rfl) _ rfl ?_ | refine leave_of (.inl rfl) _ rfl ?_ | refine leaveA_of (.inr rfl) _ rfl ?_ | refine leaveA_of (.inl rfl) _ rfl ?_ | refine wif_intro ?_ (fun hc => ?_) | refine And.intro ?_ ?_ | intro hc) | simp (maxSteps := 4000000) only [wops_nil, wops_cons, wstep_none, wrun_mv, wrun_bin, get_mk, wop, aop, ev, look, put_some, writes, ores_some, binV, thenK, blockK, tupOf, List.length_cons, List.length_nil, List.append_nil, List.replicate_zero, Option.map_some, if_true, if_false, Nat.reduceEqDiff, Nat.reduceAdd, Nat.zero_add, reduceCtorEq, eq_self, and_true, false_and, ren, renL, *] | simp (disch := omega) only [getD_ints, wrapI] | omega)
    all_goals first | rfl
set_option maxHeartbeats 8000000 in
theorem k14z {L : List (Int × Int)} {pk sl I J : Int} {z0 : Nat} (hR : ROk L) (hp : 0 ≤ pk ∧ pk ≤ 200000) (hs : 0 ≤ sl ∧ sl ≤ 200000) (hj : jdg L pk sl (prs L.length) 1 = (0, I, J)) (hw : anyW L = false) (hz : z0 < L.length) (hD0 : Dz L pk sl z0) (hD : ∀ z, z < z0 → ¬Dz L pk sl z) : Fn Try.prog 14 [.sl false 2 (rgR L), tlV pk sl] (.tup [i64 z0, i64 0]) [] := by
  refine fn_of e14 ?_
  have h11 := k11 (nb := false) hR hp hs hj
  have h33 := k33 false hR
  rw [hw] at h33
  have hn := hR.n
  have hll := rgR_len L
  have h35 := PLift.up (fun z hz hlt => k35f hR (zone := z) hz hs (hD z hlt))
  have h35t := PLift.up (k35t hR hz hs hD0)
  clear hR hp hs hj hw hD hD0
  unfold c14
  repeat' (first | (with_reducible first | refine T_seq ?_ | refine T_reg ?_ | refine T_skip ?_ | refine T_exit ?_ | refine T_block ?_ | refine T_cond_t rfl ?_ | refine T_cond_f rfl ?_ | (show wcall _ false (.lit (.func (.func 11) _ _)) _ _ _ _; refine wcall_fn (h11) rfl (by simp [plainL, plain, plainR_rg]) ?_) | refine T_ret ?_ | refine leave_of (.inr rfl) _ rfl ?_ | refine leave_of (.inl rfl) _ rfl ?_ | refine leaveA_of (.inr rfl) _ rfl ?_ | refine leaveA_of (.inl rfl) _ rfl ?_ | refine wif_intro ?_ (fun hc => ?_) | refine And.intro ?_ ?_ | intro hc) | simp (maxSteps := 4000000) only [wops_nil, wops_cons, wstep_none, wrun_call, wrun_mv, wrun_bin, wrun_ext, wrun_load, wrun_store, wrun_alloc, wrun_box, wop, aop, ev, look, put_some, put_none, writes, ores_some, binV, thenK, value, cut, hget, putCells, AV.parts, isOne, toLits, mkAgg, ofValue_int, List.map_cons, List.map_nil, List.length_cons, List.length_nil, List.getElem?_cons_zero, List.getElem?_cons_succ, List.set_cons_zero, List.set_cons_succ, List.take_succ_cons, List.take_zero, List.take_nil, List.drop_succ_cons, List.drop_zero, List.drop_nil, List.cons_append, List.nil_append, List.append_nil, List.append_assoc, List.replicate_zero, List.replicate_succ, List.getD_cons_zero, List.zipIdx_cons, List.zipIdx_nil, List.all_cons, List.all_nil, Option.getD_some, Option.map_some, if_true, if_false, Nat.reduceEqDiff, Nat.reduceAdd, Nat.reduceLT, Nat.add_zero, Nat.zero_add, Nat.le_refl, Nat.zero_ne_one, reduceCtorEq, Bool.and_true, eq_self, true_and, and_self, freeze, lidsL, lids, List.flatMap_cons, List.flatMap_nil, List.all_cons, ren, renL, *] | simp (disch := omega) only [getD_ints, wrapI] | (with_reducible show wcall _ false (.lit (.func (.func 11) _ _)) _ _ _ _; refine wcall_fn (h11) ?_ ?_ ?_; (next => simp [rfyL, rfy, hget, ints, take_rfy, plainR_rg]); (next => simp [plainL, plain, plainR, plainR_rg])) | omega)
  refine wcall_rawfn h33 (by simp [plainL, plain, plainR_rg]) ?_
  clear h33 h11
  repeat' (first | (with_reducible first | refine T_seq ?_ | refine T_reg ?_ | refine T_skip ?_ | refine T_exit ?_ | refine T_block ?_ | refine T_cond_t rfl ?_ | refine T_cond_f rfl ?_ | refine T_ret ?_ | refine leave_of (.inr rfl) _ rfl ?_ | refine leave_of (.inl rfl) _ rfl ?_ | refine leaveA_of (.inr rfl) _ rfl ?_ | refine leaveA_of (.inl rfl) _ rfl ?_ | refine wif_intro ?_ (fun hc => ?_) | refine And.intro ?_ ?_ | intro hc) | simp (maxSteps := 4000000) only [wops_nil, wops_cons, wstep_none, wrun_mv, wrun_len, wop, aop, ev, look, put_some, writes, ores_some, ores_map, ores_bind, thenK, blockK, intV, lenOf, hget, List.length_cons, List.length_nil, List.append_nil, List.replicate_zero, Option.pure_def, Option.bind_eq_bind, if_true, if_false, Nat.reduceEqDiff, Nat.reduceAdd, Nat.zero_add, reduceCtorEq, eq_self, *] | simp (disch := omega) only [getD_ints, wrapI] | omega)
  refine T_for [0, 3, 28, 29] (S14 L pk sl I J) z0 (fun _ => True) 0 ?_ trivial (Nat.zero_le _) ?_
  · simp [St.only, get_mk, look]
  intro k hk _
  by_cases hkn : k < z0
  · refine k14b (by omega) hn.2 (h35.down k (by omega) hkn) _ (fun h => by simp at h) (fun _ τ ht => ⟨⟨hkn, trivial⟩, ht⟩)
  · have hke : k = z0 := by omega
    subst hke
    refine k14b hz hn.2 h35t.down _ (fun _ τ h1 h2 => ?_) (fun h => by simp at h)
    simp only [blockK, thenK]
    exact leave_of (.inr rfl) [i64 k, i64 0] (by simp [resL, resAV, h1, h2]) ⟨rfl, rfl⟩
end Go.Abs
