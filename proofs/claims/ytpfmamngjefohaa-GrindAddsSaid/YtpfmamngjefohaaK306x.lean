import Derived.Test.YtpfmamngjefohaaK305x
set_option linter.all false
set_option linter.unusedVariables false
set_option linter.unusedSimpArgs false
set_option linter.unusedSectionVars false
namespace Go.Abs
open Go.Proofs
/-! first: checks one after the other -/
def ClA (g : FuncId) (cap : List AV) (H : List Blk) (e : Int) : Prop := ∀ H', Ext H H' → ACall Try.prog g cap H' fun r H'' => r = i64 e ∧ Ext H' H''
theorem ClA.ext {g : FuncId} {cap : List AV} {H H2 : List Blk} {e : Int} (h : ClA g cap H e) (hx : Ext H H2) : ClA g cap H2 e := fun H' h' => h H' (hx.trans h')
set_option maxHeartbeats 8000000 in
theorem k70 {b : Bool} {m : Nat} {E : List (List AV)} (hE : plainR E = true) : Fn Try.prog 70 [.sl b m E] (.clo (.func 100) [] [.loc 0 0 0]) [.cells true false 1 [[.sl b m E]]] := by
  refine fn_of e70 ?_
  unfold c70
  have hr := fun ρ => renR_plain ρ E hE
  repeat' (first | (with_reducible first | refine T_seq ?_ | refine T_reg ?_ | refine T_skip ?_ | refine T_exit ?_ | refine T_block ?_ | refine T_cond_t rfl ?_ | refine T_cond_f rfl ?_ | refine T_ret ?_ | refine leave_ids (.inr rfl) _ [0] rfl (by simp) (by simp) ?_ | refine leave_ids (.inl rfl) _ [0] rfl (by simp) (by simp) ?_ | refine leaveA_of (.inr rfl) _ rfl ?_ | refine leaveA_of (.inl rfl) _ rfl ?_ | refine wif_intro ?_ (fun hc => ?_) | refine And.intro ?_ ?_ | intro hc) | simp (maxSteps := 4000000) only [wops_nil, wops_cons, wstep_none, wrun_mv, wrun_mkf, wrun_box, get_mk, wop, aop, ev, look, put_some, writes, ores_some, thenK, hget, AV.parts, isOne, tupOf, List.map_cons, List.map_nil, List.length_cons, List.length_nil, List.getElem?_cons_zero, List.set_cons_zero, List.nil_append, List.append_nil, List.replicate_zero, List.replicate_succ, List.zipIdx_cons, List.zipIdx_nil, List.all_cons, List.all_nil, Option.getD_some, Option.map_some, Option.map_none, if_true, if_false, Nat.reduceEqDiff, Nat.add_zero, Nat.zero_add, Nat.zero_ne_one, reduceCtorEq, Bool.and_true, eq_self, true_and, and_self, List.all_cons, ren, renL, renR, renB, renO, keepρ, pos, Nat.not_lt_zero, *] | simp (disch := omega) only [getD_ints, wrapI] | omega)
  all_goals first | rfl
end Go.Abs
