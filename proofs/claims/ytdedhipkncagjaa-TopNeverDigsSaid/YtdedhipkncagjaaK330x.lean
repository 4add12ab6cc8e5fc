import Derived.Test.YtdedhipkncagjaaK312x
import Derived.Test.YtdedhipkncagjaaK315x
import Derived.Test.YtdedhipkncagjaaK316x
set_option linter.all false
set_option linter.unusedVariables false
set_option linter.unusedSimpArgs false
set_option linter.unusedSectionVars false
namespace Go.Abs
open Go.Proofs
/-! plans: the error, the closure, the copy -/
end Go.Abs
namespace Go.Abs
open Go.Proofs
/-! the wear of a plan -/
/-- right minutes -/
structure POk (l : List Sk) (mi : List Int) (den : Int) : Prop where
  len : mi.length = l.length
  den : 1 ≤ den ∧ den ≤ 10000000
  mn : ∀ k, k < mi.length → 0 ≤ mi.getD k 0 ∧ mi.getD k 0 ≤ 1000000000
end Go.Abs
namespace Go.Abs
open Go.Proofs
/-! wear -/
end Go.Abs
namespace Go.Abs
open Go.Proofs
/-! CheckPlan -/
structure DOk (n : Nat) (lo hi : List Int) : Prop where
  l1 : lo.length = n
  l2 : hi.length = n
  r1 : ∀ z, z < n → 0 ≤ lo.getD z 0 ∧ lo.getD z 0 ≤ 10000
  r2 : ∀ z, z < n → 0 ≤ hi.getD z 0 ∧ hi.getD z 0 ≤ 10000
  le : ∀ z, z < n → lo.getD z 0 ≤ hi.getD z 0
theorem dmE_ok {n : Nat} {lo hi : List Int} (h : dmE n lo hi = 0) : DOk n lo hi := by
  unfold dmE at h
  split at h
  · simp at h
  rename_i h1
  have each : ∀ z, z < n → (0 ≤ lo.getD z 0 ∧ lo.getD z 0 ≤ 10000) ∧ (0 ≤ hi.getD z 0 ∧ hi.getD z 0 ≤ 10000) ∧ lo.getD z 0 ≤ hi.getD z 0 := fun z hz => by
    have := fe_all h z hz
    unfold dEr at this
    split at this
    · simp at this
    rename_i g1
    split at this
    · simp at this
    rename_i g2
    unfold inD at g1
    simp only [Bool.not_eq_false, Bool.and_eq_true, decide_eq_true_eq] at g1
    simp only [decide_eq_true_eq] at g2
    omega
  simp only [Bool.or_eq_true, bne_iff_ne, not_or, Decidable.not_not] at h1
  exact ⟨by omega, by omega, fun z hz => (each z hz).1, fun z hz => (each z hz).2.1, fun z hz => (each z hz).2.2⟩
end Go.Abs
namespace Go.Abs
open Go.Proofs
/-! too much wear; equal demands; sessions copied -/
def okB (hi W : List Int) (n : Nat) : Bool := decide (∀ z, z < n → W.getD z 0 ≤ hi.getD z 0)
set_option maxHeartbeats 8000000 in
theorem k37 (l : List Ss) (hl : l.length < 1000000) : Fn Try.prog 37 [sss false l] (.lsl 0 0 l.length) [.cells true false 3 (ssR l)] := by
  refine fn_of e37 ?_
  have hll := ssR_len l
  unfold c37
  repeat' (first | (with_reducible first | refine T_seq ?_ | refine T_reg ?_ | refine T_skip ?_ | refine T_exit ?_ | refine T_block ?_ | refine T_cond_t rfl ?_ | refine T_cond_f rfl ?_ | refine T_ret ?_ | refine leave_ids (.inr rfl) _ [1] rfl (by simp) (by simp) ?_ | refine leave_ids (.inl rfl) _ [1] rfl (by simp) (by simp) ?_ | refine leaveA_of (.inr rfl) _ rfl ?_ | refine leaveA_of (.inl rfl) _ rfl ?_ | refine wif_intro ?_ (fun hc => ?_) | refine And.intro ?_ ?_ | intro hc) | simp (maxSteps := 4000000) only [wops_nil, wops_cons, wstep_none, wrun_mv, wrun_eqNil, wrun_bslice, wrun_app, get_mk, wop, aop, ev, look, put_some, writes, ores_some, ores_ite_none, thenK, boolV, elsOf, szOk, hget, fillA, tupOf, List.flatten_nil, rowsOf, List.map_cons, List.map_nil, List.length_nil, List.getElem?_cons_zero, List.getElem?_cons_succ, List.set_cons_zero, List.set_cons_succ, List.take_nil, List.drop_nil, List.nil_append, List.append_nil, List.replicate_zero, List.replicate_succ, List.zipIdx_cons, List.zipIdx_nil, Option.getD_some, Option.map_some, Option.map_none, if_true, if_false, Nat.reduceEqDiff, Nat.add_zero, Nat.zero_add, Nat.sub_self, Nat.le_refl, reduceCtorEq, Bool.false_and, Bool.or_true, Bool.false_eq_true, eq_self, true_and, beq_self_eq_true, ren, renB, renO, keepρ, pos, Nat.not_lt_zero, renR_ss, *] | simp (disch := omega) only [getD_ints, wrapI] | omega)
  all_goals first | rfl
end Go.Abs
