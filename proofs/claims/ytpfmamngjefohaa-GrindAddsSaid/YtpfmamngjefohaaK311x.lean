import Derived.Test.YtpfmamngjefohaaK310x
set_option linter.all false
set_option linter.unusedVariables false
set_option linter.unusedSimpArgs false
set_option linter.unusedSectionVars false
namespace Go.Abs
open Go.Proofs
/-! sessions: the closures, CheckSessions of the reference -/
set_option maxHeartbeats 8000000 in
theorem k71 {b b2 : Bool} {m m2 : Nat} {E E2 : List (List AV)} (hE : plainR E = true) (hE2 : plainR E2 = true) : Fn Try.prog 71 [.sl b m E, .sl b2 m2 E2] (.clo (.func 102) [] [.loc 1 0 0, .loc 0 0 0]) [.cells true false 1 [[.sl b m E]], .cells true false 1 [[.sl b2 m2 E2]]] := by
  refine fn_of e71 ?_
  unfold c71
  have hr := fun ρ => renR_plain ρ E hE
  have hr2 := fun ρ => renR_plain ρ E2 hE2
  repeat' (first | (with_reducible first | refine T_seq ?_ | refine T_reg ?_ | refine T_skip ?_ | refine T_exit ?_ | refine T_block ?_ | refine T_cond_t rfl ?_ | refine T_cond_f rfl ?_ | refine T_ret ?_ | refine leave_ids (.inr rfl) _ [0, 1] rfl (by simp) (by simp) ?_ | refine leave_ids (.inl rfl) _ [0, 1] rfl (by simp) (by simp) ?_ | refine leaveA_of (.inr rfl) _ rfl ?_ | refine leaveA_of (.inl rfl) _ rfl ?_ | refine wif_intro ?_ (fun hc => ?_) | refine And.intro ?_ ?_ | intro hc) | simp (maxSteps := 4000000) only [wops_nil, wops_cons, wstep_none, wrun_mv, wrun_mkf, wrun_box, get_mk, wop, aop, ev, look, put_some, writes, ores_some, thenK, hget, AV.parts, isOne, tupOf, List.map_cons, List.map_nil, List.length_cons, List.length_nil, List.getElem?_cons_zero, List.getElem?_cons_succ, List.set_cons_zero, List.set_cons_succ, List.nil_append, List.append_nil, List.replicate_zero, List.replicate_succ, List.zipIdx_cons, List.zipIdx_nil, List.all_cons, List.all_nil, Option.getD_some, Option.map_some, Option.map_none, if_true, if_false, Nat.reduceEqDiff, Nat.reduceAdd, Nat.add_zero, Nat.zero_add, Nat.zero_ne_one, reduceCtorEq, Bool.and_true, eq_self, true_and, and_self, List.all_cons, ren, renL, renR, renB, renO, keepρ, pos, Nat.not_lt_zero, *] | simp (disch := omega) only [getD_ints, wrapI] | omega)
  all_goals first | rfl
set_option maxHeartbeats 8000000 in
theorem k72 (b : ByteArray) : Fn Try.prog 72 [tx b] (.clo (.func 104) [] [.loc 0 0 0]) [.cells true false 1 [[tx b]]] := by
  refine fn_of e72 ?_
  unfold c72
  repeat' (first | (with_reducible first | refine T_seq ?_ | refine T_reg ?_ | refine T_skip ?_ | refine T_exit ?_ | refine T_block ?_ | refine T_cond_t rfl ?_ | refine T_cond_f rfl ?_ | refine T_ret ?_ | refine leave_ids (.inr rfl) _ [0] rfl (by simp) (by simp) ?_ | refine leave_ids (.inl rfl) _ [0] rfl (by simp) (by simp) ?_ | refine leaveA_of (.inr rfl) _ rfl ?_ | refine leaveA_of (.inl rfl) _ rfl ?_ | refine wif_intro ?_ (fun hc => ?_) | refine And.intro ?_ ?_ | intro hc) | simp (maxSteps := 4000000) only [wops_nil, wops_cons, wstep_none, wrun_mv, wrun_mkf, wrun_box, get_mk, wop, aop, ev, look, put_some, writes, ores_some, thenK, hget, AV.parts, isOne, tupOf, List.map_cons, List.map_nil, List.length_cons, List.length_nil, List.getElem?_cons_zero, List.set_cons_zero, List.nil_append, List.append_nil, List.replicate_zero, List.replicate_succ, List.zipIdx_cons, List.zipIdx_nil, List.all_cons, List.all_nil, Option.getD_some, Option.map_some, Option.map_none, if_true, if_false, Nat.reduceEqDiff, Nat.add_zero, Nat.zero_add, Nat.zero_ne_one, reduceCtorEq, Bool.and_true, eq_self, true_and, and_self, List.all_cons, ren, renL, renR, renB, renO, keepρ, pos, Nat.not_lt_zero, *] | simp (disch := omega) only [getD_ints, wrapI] | omega)
  all_goals first | rfl
def mrE (b : ByteArray) : Int := if nmB b = false then 4 else 0
abbrev SL102 (n2 : Bool) (s : List Ss) (a c k : Nat) : List (Nat × AV) := [(1, .loc a 0 0), (8, sss n2 s), (9, i64 s.length), (10, i64 k)]
end Go.Abs
namespace Go.Abs
open Go.Proofs
/-! first, of so many checks; CheckSessions -/
/-- strokes as they come -/
structure StV (l : List Sk) (b : Bool) (m : Nat) (E : List (List AV)) : Prop where
  p : plainR E = true
  f : Fn Try.prog 101 [.sl b m E] (.tup [i64 (sN l), i64 (sE l)]) []
  g : sE l = 0 → m = 2 ∧ E = skR l
set_option maxHeartbeats 8000000 in
theorem k101z : Fn Try.prog 101 [.sl true 0 []] (.tup [i64 0, i64 10]) [] := by
  refine fn_of e101 ?_
  unfold c101
  repeat' (first | (with_reducible first | refine T_seq ?_ | refine T_reg ?_ | refine T_skip ?_ | refine T_exit ?_ | refine T_block ?_ | refine T_cond_t rfl ?_ | refine T_cond_f rfl ?_ | refine T_ret ?_ | refine leave_of (.inr rfl) _ rfl ?_ | refine leave_of (.inl rfl) _ rfl ?_ | refine leaveA_of (.inr rfl) _ rfl ?_ | refine leaveA_of (.inl rfl) _ rfl ?_ | refine wif_intro ?_ (fun hc => ?_) | refine And.intro ?_ ?_ | intro hc) | simp (maxSteps := 4000000) only [wops_nil, wops_cons, wstep_none, wrun_mv, wrun_bin, wrun_len, get_mk, wop, aop, ev, look, put_some, writes, ores_some, ores_map, ores_bind, binV, thenK, blockK, intV, lenOf, hget, tupOf, List.map_cons, List.map_nil, List.length_nil, List.append_nil, List.replicate_zero, List.zipIdx_cons, List.zipIdx_nil, Option.pure_def, Option.bind_eq_bind, Option.map_some, if_true, if_false, Nat.reduceEqDiff, Nat.zero_add, reduceCtorEq, eq_self, ren, renL, *] | simp (disch := omega) only [getD_ints, wrapI] | omega)
  all_goals first | rfl
theorem cp_stv {l : List Sk} (hl : l.length < 1000000) (hsz : ∀ k, k < l.length → (l.getD k sk0).nm.size < 1000000 ∧ (l.getD k sk0).wr.length < 1000000) : ∃ b m E, cpS l = .sl b m E ∧ StV (skc l) b m E := by
  by_cases h : l = []
  · subst h
    refine ⟨true, 0, [], rfl, rfl, k101z, fun h => ?_⟩
    simp [sE, skc] at h
  · rw [cpS_ne h]
    refine ⟨false, 2, _, rfl, plainR_sk _, k101 false (skc l) (by rw [skc_len]; exact hl) (fun k hk => ?_), fun _ => ⟨rfl, rfl⟩⟩
    rw [(skc_get l k).1, (skc_get l k).2]
    exact hsz k (by rw [skc_len] at hk; exact hk)
end Go.Abs
