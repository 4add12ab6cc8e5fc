import Derived.Test.YtdedhipkncagjaaK540x
set_option linter.all false
set_option linter.unusedVariables false
set_option linter.unusedSimpArgs false
set_option linter.unusedSectionVars false
namespace Go.Abs
open Go.Proofs
/-! copies of ranges; a range that is too wide -/
theorem renR_rgL (ρ : Nat → Option Nat) (L : List (Int × Int)) : renR ρ (rgR L) = rgR L := renR_plain ρ _ (plainR_rg L)
set_option maxHeartbeats 8000000 in
theorem k15 (nb : Bool) (L : List (Int × Int)) (hl : L.length < 1000000) : Fn Try.prog 15 [.sl nb 2 (rgR L)] (.lsl 0 0 L.length) [.cells true false 2 (rgR L)] := by
  refine fn_of e15 ?_
  have hrl := rgR_len L
  unfold c15
  repeat' (first | (with_reducible first | refine T_seq ?_ | refine T_reg ?_ | refine T_skip ?_ | refine T_exit ?_ | refine T_block ?_ | refine T_cond_t rfl ?_ | refine T_cond_f rfl ?_ | refine T_ret ?_ | refine leave_ids (.inr rfl) _ [1] rfl (by simp) (by simp) ?_ | refine leave_ids (.inl rfl) _ [1] rfl (by simp) (by simp) ?_ | refine leaveA_of (.inr rfl) _ rfl ?_ | refine leaveA_of (.inl rfl) _ rfl ?_ | refine wif_intro ?_ (fun hc => ?_) | refine And.intro ?_ ?_ | intro hc) | simp (maxSteps := 4000000) only [wops_nil, wops_cons, wstep_none, wrun_mv, wrun_bslice, wrun_app, get_mk, wop, aop, ev, look, put_some, writes, ores_some, ores_ite_none, thenK, elsOf, szOk, hget, fillA, tupOf, List.flatten_nil, rowsOf, List.map_cons, List.map_nil, List.length_nil, List.getElem?_cons_zero, List.getElem?_cons_succ, List.set_cons_zero, List.set_cons_succ, List.take_nil, List.drop_nil, List.nil_append, List.append_nil, List.replicate_zero, List.replicate_succ, List.zipIdx_cons, List.zipIdx_nil, Option.getD_some, Option.map_some, Option.map_none, if_true, if_false, Nat.reduceEqDiff, Nat.add_zero, Nat.zero_add, Nat.sub_self, Nat.le_refl, reduceCtorEq, Bool.false_and, Bool.or_true, eq_self, true_and, beq_self_eq_true, ren, renB, renO, keepρ, pos, Nat.not_lt_zero, renR_rgL, *] | simp (disch := omega) only [getD_ints, wrapI] | omega)
set_option maxHeartbeats 8000000 in
theorem k61 {nb : Bool} {L : List (Int × Int)} (hl : L.length < 1000000) (h0 : 1 ≤ L.length) (hnb : nb = false) : Fn Try.prog 61 [.sl nb 2 (rgR L)] (.lsl 0 0 L.length) [.cells true false 2 (rgR L)] := by
  refine fn_of e61 ?_
  have hrl := rgR_len L
  subst hnb
  unfold c61
  repeat' (first | (with_reducible first | refine T_seq ?_ | refine T_reg ?_ | refine T_skip ?_ | refine T_exit ?_ | refine T_block ?_ | refine T_cond_t rfl ?_ | refine T_cond_f rfl ?_ | refine T_ret ?_ | refine leave_ids (.inr rfl) _ [1] rfl (by simp) (by simp) ?_ | refine leave_ids (.inl rfl) _ [1] rfl (by simp) (by simp) ?_ | refine leaveA_of (.inr rfl) _ rfl ?_ | refine leaveA_of (.inl rfl) _ rfl ?_ | refine wif_intro ?_ (fun hc => ?_) | refine And.intro ?_ ?_ | intro hc) | simp (maxSteps := 4000000) only [wops_nil, wops_cons, wstep_none, wrun_mv, wrun_eqNil, wrun_bslice, wrun_app, get_mk, wop, aop, ev, look, put_some, writes, ores_some, ores_ite_none, thenK, boolV, elsOf, szOk, hget, fillA, tupOf, List.flatten_nil, rowsOf, List.map_cons, List.map_nil, List.length_nil, List.getElem?_cons_zero, List.getElem?_cons_succ, List.set_cons_zero, List.set_cons_succ, List.take_nil, List.drop_nil, List.nil_append, List.append_nil, List.replicate_zero, List.replicate_succ, List.zipIdx_cons, List.zipIdx_nil, Option.getD_some, Option.map_some, Option.map_none, if_true, if_false, Nat.reduceEqDiff, Nat.add_zero, Nat.zero_add, Nat.sub_self, Nat.le_refl, reduceCtorEq, Bool.false_and, Bool.or_true, Bool.false_eq_true, eq_self, true_and, beq_self_eq_true, ren, renB, renO, keepρ, pos, Nat.not_lt_zero, renR_rgL, *] | simp (disch := omega) only [getD_ints, wrapI] | omega)
abbrev rgV (r : Int × Int) : AV := .lit (.agg #[.int .i64 r.1, .int .i64 r.2])
def wide (r : Int × Int) : Bool := decide (r.2 - r.1 > 200)
set_option maxHeartbeats 8000000 in
theorem k34 (r : Int × Int) (h : -1000000 ≤ r.1 ∧ r.1 ≤ 1000000) (h2 : -1000000 ≤ r.2 ∧ r.2 ≤ 1000000) : Fn Try.prog 34 [rgV r] (bl (wide r)) [] := by
  refine fn_of e34 ?_
  obtain ⟨a, b⟩ := r
  have ew : IntKind.i64.wrap (b - a) = b - a := wrapI (by dsimp only at h h2; omega) (by dsimp only at h h2; omega)
  unfold wide
  dsimp only at *
  clear h h2
  unfold c34
  repeat' (first | (with_reducible first | refine T_seq ?_ | refine T_reg ?_ | refine T_skip ?_ | refine T_exit ?_ | refine T_block ?_ | refine T_cond_t rfl ?_ | refine T_cond_f rfl ?_ | refine T_ret ?_ | refine leave_of (.inr rfl) _ rfl ?_ | refine leave_of (.inl rfl) _ rfl ?_ | refine leaveA_of (.inr rfl) _ rfl ?_ | refine leaveA_of (.inl rfl) _ rfl ?_ | refine wif_intro ?_ (fun hc => ?_) | refine And.intro ?_ ?_ | intro hc) | simp (maxSteps := 4000000) only [wops_nil, wops_cons, wstep_none, wrun_mv, wrun_bin, wrun_load, wrun_faddr, wrun_box, get_mk, wop, aop, ev, look, put_some, writes, ores_some, binV, thenK, value, cut, hget, AV.parts, isOne, mkAgg, tupOf, ofValue_int, List.map_cons, List.map_nil, List.length_cons, List.length_nil, List.getElem?_cons_zero, List.set_cons_zero, List.take_succ_cons, List.take_zero, List.take_nil, List.drop_succ_cons, List.drop_zero, List.nil_append, List.append_nil, List.replicate_zero, List.replicate_succ, List.getD_cons_zero, List.zipIdx_cons, List.zipIdx_nil, List.all_cons, List.all_nil, Option.getD_some, Option.map_some, if_true, if_false, Nat.reduceEqDiff, Nat.reduceAdd, Nat.add_zero, Nat.zero_add, Nat.zero_ne_one, reduceCtorEq, Bool.and_true, Bool.false_eq_true, eq_self, true_and, and_self, List.all_cons, ren, *] | simp (disch := omega) only [getD_ints, wrapI] | omega)
  all_goals first | rfl
set_option maxHeartbeats 8000000 in
theorem k60y {nb : Bool} {L : List (Int × Int)} (hR : ROk L) {k0 : Nat} (h0 : k0 < L.length) (hw : wide (L.getD k0 (0, 0)) = true) (hn : ∀ j, j < k0 → wide (L.getD j (0, 0)) = false) : Fn Try.prog 60 [.sl nb 2 (rgR L), .lit (.func (.func 34) #[] #[])] (i64 k0) [] := by
  refine fn_of e60 ?_
  have hll := rgR_len L
  have hn40 := hR.n
  have hr := PLift.up hR.r
  clear hR
  unfold c60
  repeat' (first | (with_reducible first | refine T_seq ?_ | refine T_reg ?_ | refine T_skip ?_ | refine T_exit ?_ | refine T_block ?_ | refine T_cond_t rfl ?_ | refine T_cond_f rfl ?_ | refine T_ret ?_ | refine leave_of (.inr rfl) _ rfl ?_ | refine leave_of (.inl rfl) _ rfl ?_ | refine leaveA_of (.inr rfl) _ rfl ?_ | refine leaveA_of (.inl rfl) _ rfl ?_ | refine wif_intro ?_ (fun hc => ?_) | refine And.intro ?_ ?_ | intro hc) | simp (maxSteps := 4000000) only [wops_nil, wops_cons, wstep_none, wrun_mv, wrun_len, wop, aop, ev, look, put_some, writes, ores_some, ores_map, ores_bind, thenK, intV, lenOf, hget, List.map_cons, List.map_nil, List.length_nil, List.append_nil, List.replicate_zero, List.zipIdx_cons, List.zipIdx_nil, Option.pure_def, Option.bind_eq_bind, if_true, if_false, Nat.reduceEqDiff, Nat.reduceAdd, Nat.zero_add, reduceCtorEq, eq_self, Int.reduceNeg, *] | simp (disch := omega) only [getD_ints, wrapI] | omega)
  refine T_for [0, 1, 7, 8] (fun k => ⟨[(0, .sl nb 2 (rgR L)), (1, .lit (.func (.func 34) #[] #[])), (7, i64 L.length), (8, i64 k)], []⟩) k0 (fun _ => True) 0 rfl trivial (Nat.zero_le _) ?_
  intro k hk _
  have hkn : k < L.length := by omega
  have hkn' : (k : Int) < (L.length : Int) := by omega
  have g1 := rgR_get hkn
  have hrk := hr.down k hkn
  have h34 := k34 (L.getD k (0, 0)) (by omega) (by omega)
  unfold c60l0
  repeat' (first | (with_reducible first | refine T_seq ?_ | refine T_reg ?_ | refine T_skip ?_ | refine T_exit ?_ | refine T_block ?_ | refine T_cond_t rfl ?_ | refine T_cond_f rfl ?_ | refine T_ret ?_ | refine leave_of (.inr rfl) _ rfl ?_ | refine leave_of (.inl rfl) _ rfl ?_ | refine leaveA_of (.inr rfl) _ rfl ?_ | refine leaveA_of (.inl rfl) _ rfl ?_ | refine wif_intro ?_ (fun hc => ?_) | refine And.intro ?_ ?_ | intro hc) | simp (maxSteps := 4000000) only [wops_nil, wops_cons, wstep_none, wrun_call, wrun_mv, wrun_bin, wrun_load, wrun_iaddrS, wop, aop, ev, look, put_some, writes, ores_some, ores_ite_none, binV, thenK, value, cut, hget, toLits, mkAgg, List.map_cons, List.map_nil, List.length_cons, List.length_nil, List.take_succ_cons, List.take_nil, List.drop_zero, List.append_nil, List.replicate_zero, Option.map_some, if_true, if_false, Nat.reduceEqDiff, Nat.reduceAdd, Nat.zero_add, Nat.zero_ne_one, reduceCtorEq, eq_self, and_true, and_self, decide_true, Int.reduceNeg, Int.toNat_natCast, *] | simp (disch := omega) only [getD_ints, wrapI] | omega)
  refine wcall_rawfn h34 (by simp [plainL, plain]) ?_
  by_cases hke : k = k0
  · subst hke
    rw [hw]
    clear hw hn hr hrk h34
    repeat' (first | (with_reducible first | refine T_seq ?_ | refine T_reg ?_ | refine T_skip ?_ | refine T_exit ?_ | refine T_block ?_ | refine T_cond_t rfl ?_ | refine T_cond_f rfl ?_ | refine T_ret ?_ | refine leave_of (.inr rfl) _ rfl ?_ | refine leave_of (.inl rfl) _ rfl ?_ | refine leaveA_of (.inr rfl) _ rfl ?_ | refine leaveA_of (.inl rfl) _ rfl ?_ | refine wif_intro ?_ (fun hc => ?_) | refine And.intro ?_ ?_ | intro hc) | simp (maxSteps := 4000000) only [wops_nil, wops_cons, wstep_none, wrun_mv, get_mk, wop, aop, ev, look, put_some, writes, ores_some, thenK, blockK, tupOf, List.length_nil, List.append_nil, List.replicate_zero, if_true, if_false, Nat.reduceEqDiff, reduceCtorEq, eq_self, Int.reduceNeg, ren, *] | simp (disch := omega) only [getD_ints, wrapI] | omega)
    all_goals first | rfl
  · have hkw := hn k (by omega)
    rw [hkw]
    have hk1 : k < k0 := by omega
    clear hw hn hr hrk h34 hkw
    repeat' (first | (with_reducible first | refine T_seq ?_ | refine T_reg ?_ | refine T_skip ?_ | refine T_exit ?_ | refine T_block ?_ | refine T_cond_t rfl ?_ | refine T_cond_f rfl ?_ | refine T_ret ?_ | refine leave_of (.inr rfl) _ rfl ?_ | refine leave_of (.inl rfl) _ rfl ?_ | refine leaveA_of (.inr rfl) _ rfl ?_ | refine leaveA_of (.inl rfl) _ rfl ?_ | refine wif_intro ?_ (fun hc => ?_) | refine And.intro ?_ ?_ | intro hc) | simp (maxSteps := 4000000) only [wops_nil, wops_cons, wstep_none, wrun_mv, wrun_bin, wop, aop, ev, look, put_some, writes, ores_some, binV, thenK, blockK, List.length_nil, List.append_nil, List.replicate_zero, Option.map_some, if_true, if_false, Nat.reduceEqDiff, reduceCtorEq, eq_self, true_and, Int.reduceNeg, *] | simp (disch := omega) only [wrapI] | omega)
    all_goals first | exact hk1 | (simp [St.only, get_mk, look]; done) | rfl
set_option maxHeartbeats 8000000 in
theorem k60n {nb : Bool} {L : List (Int × Int)} (hR : ROk L) (hn : ∀ j, j < L.length → wide (L.getD j (0, 0)) = false) : Fn Try.prog 60 [.sl nb 2 (rgR L), .lit (.func (.func 34) #[] #[])] (i64 (-1)) [] := by
  refine fn_of e60 ?_
  have hll := rgR_len L
  have hn40 := hR.n
  have hr := PLift.up hR.r
  clear hR
  unfold c60
  repeat' (first | (with_reducible first | refine T_seq ?_ | refine T_reg ?_ | refine T_skip ?_ | refine T_exit ?_ | refine T_block ?_ | refine T_cond_t rfl ?_ | refine T_cond_f rfl ?_ | refine T_ret ?_ | refine leave_of (.inr rfl) _ rfl ?_ | refine leave_of (.inl rfl) _ rfl ?_ | refine leaveA_of (.inr rfl) _ rfl ?_ | refine leaveA_of (.inl rfl) _ rfl ?_ | refine wif_intro ?_ (fun hc => ?_) | refine And.intro ?_ ?_ | intro hc) | simp (maxSteps := 4000000) only [wops_nil, wops_cons, wstep_none, wrun_mv, wrun_len, wop, aop, ev, look, put_some, writes, ores_some, ores_map, ores_bind, thenK, intV, lenOf, hget, List.map_cons, List.map_nil, List.length_nil, List.append_nil, List.replicate_zero, List.zipIdx_cons, List.zipIdx_nil, Option.pure_def, Option.bind_eq_bind, if_true, if_false, Nat.reduceEqDiff, Nat.reduceAdd, Nat.zero_add, reduceCtorEq, eq_self, Int.reduceNeg, *] | simp (disch := omega) only [getD_ints, wrapI] | omega)
  refine T_for [0, 1, 7, 8] (fun k => ⟨[(0, .sl nb 2 (rgR L)), (1, .lit (.func (.func 34) #[] #[])), (7, i64 L.length), (8, i64 k)], []⟩) L.length (fun _ => True) 0 rfl trivial (Nat.zero_le _) ?_
  intro k hk _
  by_cases hkn : k < L.length
  · have hkn' : (k : Int) < (L.length : Int) := by omega
    have g1 := rgR_get hkn
    have hrk := hr.down k hkn
    have h34 := k34 (L.getD k (0, 0)) (by omega) (by omega)
    rw [hn k hkn] at h34
    unfold c60l0
    repeat' (first | (with_reducible first | refine T_seq ?_ | refine T_reg ?_ | refine T_skip ?_ | refine T_exit ?_ | refine T_block ?_ | refine T_cond_t rfl ?_ | refine T_cond_f rfl ?_ | refine T_ret ?_ | refine leave_of (.inr rfl) _ rfl ?_ | refine leave_of (.inl rfl) _ rfl ?_ | refine leaveA_of (.inr rfl) _ rfl ?_ | refine leaveA_of (.inl rfl) _ rfl ?_ | refine wif_intro ?_ (fun hc => ?_) | refine And.intro ?_ ?_ | intro hc) | simp (maxSteps := 4000000) only [wops_nil, wops_cons, wstep_none, wrun_call, wrun_mv, wrun_bin, wrun_load, wrun_iaddrS, wop, aop, ev, look, put_some, writes, ores_some, ores_ite_none, binV, thenK, value, cut, hget, toLits, mkAgg, List.map_cons, List.map_nil, List.length_cons, List.length_nil, List.take_succ_cons, List.take_nil, List.drop_zero, List.append_nil, List.replicate_zero, Option.map_some, if_true, if_false, Nat.reduceEqDiff, Nat.reduceAdd, Nat.zero_add, Nat.zero_ne_one, reduceCtorEq, eq_self, true_and, and_true, and_self, decide_true, Int.reduceNeg, Int.toNat_natCast, *] | simp (disch := omega) only [getD_ints, wrapI] | omega)
    refine wcall_rawfn h34 (by simp [plainL, plain]) ?_
    clear hn hr hrk h34
    repeat' (first | (with_reducible first | refine T_seq ?_ | refine T_reg ?_ | refine T_skip ?_ | refine T_exit ?_ | refine T_block ?_ | refine T_cond_t rfl ?_ | refine T_cond_f rfl ?_ | refine T_ret ?_ | refine leave_of (.inr rfl) _ rfl ?_ | refine leave_of (.inl rfl) _ rfl ?_ | refine leaveA_of (.inr rfl) _ rfl ?_ | refine leaveA_of (.inl rfl) _ rfl ?_ | refine wif_intro ?_ (fun hc => ?_) | refine And.intro ?_ ?_ | intro hc) | simp (maxSteps := 4000000) only [wops_nil, wops_cons, wstep_none, wrun_mv, wrun_bin, wop, aop, ev, look, put_some, writes, ores_some, binV, thenK, blockK, List.length_nil, List.append_nil, List.replicate_zero, Option.map_some, if_true, if_false, Nat.reduceEqDiff, reduceCtorEq, eq_self, Int.reduceNeg, *] | simp (disch := omega) only [wrapI] | omega)
    all_goals first | exact hkn | (simp [St.only, get_mk, look]; done) | rfl
  · have hke : k = L.length := by omega
    subst hke
    clear hn hr
    have hkk : decide ((L.length : Int) < (L.length : Int)) = false := by simp
    unfold c60l0
    repeat' (first | (with_reducible first | refine T_seq ?_ | refine T_reg ?_ | refine T_skip ?_ | refine T_exit ?_ | refine T_block ?_ | refine T_cond_t rfl ?_ | refine T_cond_f rfl ?_ | refine T_ret ?_ | refine leave_of (.inr rfl) _ rfl ?_ | refine leave_of (.inl rfl) _ rfl ?_ | refine leaveA_of (.inr rfl) _ rfl ?_ | refine leaveA_of (.inl rfl) _ rfl ?_ | refine wif_intro ?_ (fun hc => ?_) | refine And.intro ?_ ?_ | intro hc) | simp (maxSteps := 4000000) only [wops_nil, wops_cons, wstep_none, wrun_mv, wrun_bin, get_mk, wop, aop, ev, look, put_some, writes, ores_some, binV, thenK, blockK, tupOf, List.length_nil, List.append_nil, List.replicate_zero, Option.map_some, if_true, if_false, Nat.reduceEqDiff, reduceCtorEq, eq_self, and_true, false_and, Int.reduceNeg, ren, Int.toNat_natCast, *] | simp (disch := omega) only [getD_ints, wrapI] | omega)
    all_goals first | rfl
def anyW (L : List (Int × Int)) : Bool := L.any wide
theorem anyW_first : ∀ (L : List (Int × Int)), anyW L = true → ∃ k0, k0 < L.length ∧ wide (L.getD k0 (0, 0)) = true ∧ ∀ j, j < k0 → wide (L.getD j (0, 0)) = false
  | [], h => by simp [anyW] at h
  | r :: L, h => by
    cases hr : wide r with
    | true => exact ⟨0, by simp, by simpa using hr, fun j hj => by omega⟩
    | false =>
      have h2 : anyW L = true := by unfold anyW at *; simpa [hr] using h
      obtain ⟨k0, h3, h4, h5⟩ := anyW_first L h2
      refine ⟨k0 + 1, by simpa using h3, by simpa using h4, fun j hj => ?_⟩
      cases j with
      | zero => simpa using hr
      | succ j => simpa using h5 j (by omega)
theorem anyW_none {L : List (Int × Int)} (h : anyW L = false) : ∀ j, j < L.length → wide (L.getD j (0, 0)) = false := fun j hj => by
  unfold anyW at h
  rw [List.any_eq_false] at h
  have := h (L.getD j (0, 0)) (by simp [List.getD_eq_getElem?_getD, hj])
  simpa using this
set_option maxHeartbeats 8000000 in
theorem k33 (nb : Bool) {L : List (Int × Int)} (hR : ROk L) : Fn Try.prog 33 [.sl nb 2 (rgR L), .lit (.func (.func 34) #[] #[])] (bl (anyW L)) [] := by
  refine fn_of e33 ?_
  cases ha : anyW L with
  | true =>
    obtain ⟨k0, h1, h2, h3⟩ := anyW_first L ha
    have h60 := PLift.up (k60y (nb := nb) hR h1 h2 h3)
    clear hR h1 h2 h3 ha
    unfold c33
    repeat' (first | (with_reducible first | refine T_seq ?_ | refine T_reg ?_ | refine T_skip ?_ | refine T_exit ?_ | refine T_block ?_ | refine T_cond_t rfl ?_ | refine T_cond_f rfl ?_ | refine T_ret ?_ | refine leave_of (.inr rfl) _ rfl ?_ | refine leave_of (.inl rfl) _ rfl ?_ | refine leaveA_of (.inr rfl) _ rfl ?_ | refine leaveA_of (.inl rfl) _ rfl ?_ | refine wif_intro ?_ (fun hc => ?_) | refine And.intro ?_ ?_ | intro hc) | simp (maxSteps := 4000000) only [wops_nil, wops_cons, wstep_none, wrun_call, wrun_mv, wop, aop, ev, look, put_some, writes, ores_some, thenK, List.map_cons, List.map_nil, List.length_nil, List.append_nil, List.replicate_zero, List.zipIdx_cons, List.zipIdx_nil, if_true, if_false, Nat.reduceEqDiff, Nat.reduceAdd, Nat.zero_add, Nat.zero_ne_one, reduceCtorEq, eq_self, *] | simp (disch := omega) only [getD_ints, wrapI] | omega)
    refine wcall_rawfn h60.down (by simp [plainL, plain, plainR_rg]) ?_
    clear h60
    repeat' (first | (with_reducible first | refine T_seq ?_ | refine T_reg ?_ | refine T_skip ?_ | refine T_exit ?_ | refine T_block ?_ | refine T_cond_t rfl ?_ | refine T_cond_f rfl ?_ | refine T_ret ?_ | refine leave_of (.inr rfl) _ rfl ?_ | refine leave_of (.inl rfl) _ rfl ?_ | refine leaveA_of (.inr rfl) _ rfl ?_ | refine leaveA_of (.inl rfl) _ rfl ?_ | refine wif_intro ?_ (fun hc => ?_) | refine And.intro ?_ ?_ | intro hc) | simp (maxSteps := 4000000) only [wops_nil, wops_cons, wstep_none, wrun_mv, wrun_bin, get_mk, wop, aop, ev, look, put_some, writes, ores_some, binV, thenK, tupOf, Option.map_some, if_true, if_false, Nat.reduceEqDiff, reduceCtorEq, eq_self, ren, *] | simp (disch := omega) only [getD_ints, wrapI] | omega)
    all_goals first | rfl
  | false =>
    have h60 := PLift.up (k60n (nb := nb) hR (anyW_none ha))
    clear hR ha
    unfold c33
    repeat' (first | (with_reducible first | refine T_seq ?_ | refine T_reg ?_ | refine T_skip ?_ | refine T_exit ?_ | refine T_block ?_ | refine T_cond_t rfl ?_ | refine T_cond_f rfl ?_ | refine T_ret ?_ | refine leave_of (.inr rfl) _ rfl ?_ | refine leave_of (.inl rfl) _ rfl ?_ | refine leaveA_of (.inr rfl) _ rfl ?_ | refine leaveA_of (.inl rfl) _ rfl ?_ | refine wif_intro ?_ (fun hc => ?_) | refine And.intro ?_ ?_ | intro hc) | simp (maxSteps := 4000000) only [wops_nil, wops_cons, wstep_none, wrun_call, wrun_mv, wop, aop, ev, look, put_some, writes, ores_some, thenK, List.map_cons, List.map_nil, List.length_nil, List.append_nil, List.replicate_zero, List.zipIdx_cons, List.zipIdx_nil, if_true, if_false, Nat.reduceEqDiff, Nat.reduceAdd, Nat.zero_add, Nat.zero_ne_one, reduceCtorEq, eq_self, *] | simp (disch := omega) only [getD_ints, wrapI] | omega)
    refine wcall_rawfn h60.down (by simp [plainL, plain, plainR_rg]) ?_
    clear h60
    repeat' (first | (with_reducible first | refine T_seq ?_ | refine T_reg ?_ | refine T_skip ?_ | refine T_exit ?_ | refine T_block ?_ | refine T_cond_t rfl ?_ | refine T_cond_f rfl ?_ | refine T_ret ?_ | refine leave_of (.inr rfl) _ rfl ?_ | refine leave_of (.inl rfl) _ rfl ?_ | refine leaveA_of (.inr rfl) _ rfl ?_ | refine leaveA_of (.inl rfl) _ rfl ?_ | refine wif_intro ?_ (fun hc => ?_) | refine And.intro ?_ ?_ | intro hc) | simp (maxSteps := 4000000) only [wops_nil, wops_cons, wstep_none, wrun_mv, wrun_bin, get_mk, wop, aop, ev, look, put_some, writes, ores_some, binV, thenK, tupOf, Option.map_some, if_true, if_false, Nat.reduceEqDiff, reduceCtorEq, eq_self, Int.reduceNeg, ren, *] | simp (disch := omega) only [getD_ints, wrapI] | omega)
    all_goals first | rfl
end Go.Abs
