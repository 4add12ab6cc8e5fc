import Derived.Test.YtpfmamngjefohaaPCmin
import Derived.Test.YtpfmamngjefohaaK2x
set_option linter.all false
set_option linter.unusedVariables false
set_option linter.unusedSimpArgs false
set_option linter.unusedSectionVars false
namespace Go.Abs
open Go.Proofs
theorem r13 : rcall Try.prog muts noPrim noIters 3000 13 [] [] = some (bl true, []) := by kernel_rfl
theorem k13 : Fn Try.prog 13 [] (bl true) [] := rcall_ok (noPrim_ok _) (noIters_ok _) r13
end Go.Abs
namespace Go.Abs
open Go.Proofs
/-! grits -/
structure Gr where
  nm : ByteArray
  dm : Int
  rt : Int
def gr0 : Gr := ⟨⟨#[]⟩, 0, 0⟩
/-- the first number of which something is true, or -1 -/
def fstP (p : Nat → Bool) (n : Nat) : Int := match (List.range n).find? p with
  | some k => k
  | none => -1
theorem fstP_no {p : Nat → Bool} {n : Nat} (h : ∀ j, j < n → p j = false) : fstP p n = -1 := by
  unfold fstP
  rw [List.find?_eq_none.2 fun j hj => by rw [h j (List.mem_range.1 hj)]; simp]
theorem fstP_at {p : Nat → Bool} {n k : Nat} (hk : k < n) (hp : p k = true) (h : ∀ j, j < k → p j = false) : fstP p n = k := by
  unfold fstP
  have : (List.range n).find? p = some k := by
    rw [List.find?_range_eq_some]
    exact ⟨hp, by simpa using hk, fun j hj => by simpa using h j hj⟩
  rw [this]
theorem fstP_cases (p : Nat → Bool) (n : Nat) : (fstP p n = -1 ∧ ∀ j, j < n → p j = false) ∨ ∃ k, k < n ∧ fstP p n = k ∧ p k = true ∧ ∀ j, j < k → p j = false := by
  by_cases h : ∀ j, j < n → p j = false
  · exact .inl ⟨fstP_no h, h⟩
  · have : ∃ k, k < n ∧ p k = true ∧ ∀ j, j < k → p j = false := by
      have hex : ∃ j, j < n ∧ p j = true := by
        rcases Classical.not_forall.1 h with ⟨j, hj⟩
        rcases Classical.not_imp.1 hj with ⟨h1, h2⟩
        exact ⟨j, h1, by simpa using h2⟩
      obtain ⟨j, hj, hpj⟩ := hex
      induction j using Nat.strongRecOn with
      | _ j ih =>
        by_cases hm : ∃ i, i < j ∧ p i = true
        · obtain ⟨i, hi, hpi⟩ := hm
          exact ih i hi (by omega) hpi
        · exact ⟨j, hj, hpj, fun i hi => by
            cases hpi : p i with
            | false => rfl
            | true => exact (hm ⟨i, hi, hpi⟩).elim⟩
    obtain ⟨k, h1, h2, h3⟩ := this
    exact .inr ⟨k, h1, fstP_at h1 h2 h3, h2, h3⟩
def eqT (a b : ByteArray) : Bool := a.data.toList == b.data.toList
theorem eqT_bin (a b : ByteArray) : (a.toList == b.toList) = eqT a b := by unfold eqT; rw [ByteArray.toList_eq, ByteArray.toList_eq]
end Go.Abs
namespace Go.Abs
open Go.Proofs
/-! grits: small functions -/
set_option maxHeartbeats 8000000 in
theorem k53 (nil : Bool) (xs : List Int) (hl : xs.length < 1000000) : Fn Try.prog 53 [ints nil xs] (.lsl 0 0 xs.length) [.cells true false 1 (xs.map fun x => [i64 x])] := by
  refine fn_of e53 ?_
  have hll : (xs.map fun x => [i64 x]).length = xs.length := by simp
  unfold c53
  repeat' (first | (with_reducible first | refine T_seq ?_ | refine T_reg ?_ | refine T_skip ?_ | refine T_exit ?_ | refine T_block ?_ | refine T_cond_t rfl ?_ | refine T_cond_f rfl ?_ | refine T_ret ?_ | refine leave_ids (.inr rfl) _ [1] rfl (by simp) (by simp) ?_ | refine leave_ids (.inl rfl) _ [1] rfl (by simp) (by simp) ?_ | refine leaveA_of (.inr rfl) _ rfl ?_ | refine leaveA_of (.inl rfl) _ rfl ?_ | refine wif_intro ?_ (fun hc => ?_) | refine And.intro ?_ ?_ | intro hc) | simp (maxSteps := 4000000) only [wops_nil, wops_cons, wstep_none, wrun_mv, wrun_bslice, wrun_app, get_mk, wop, aop, ev, look, put_some, writes, ores_some, ores_ite_none, thenK, elsOf, szOk, hget, fillA, tupOf, List.flatten_nil, rowsOf, List.map_cons, List.map_nil, List.length_nil, List.getElem?_cons_zero, List.getElem?_cons_succ, List.set_cons_zero, List.set_cons_succ, List.take_nil, List.drop_nil, List.nil_append, List.append_nil, List.replicate_zero, List.replicate_succ, List.zipIdx_cons, List.zipIdx_nil, Option.getD_some, Option.map_some, Option.map_none, if_true, if_false, Nat.reduceEqDiff, Nat.add_zero, Nat.zero_add, Nat.sub_self, Nat.mul_one, Nat.le_refl, reduceCtorEq, Bool.false_and, Bool.or_true, eq_self, true_and, beq_self_eq_true, ren, renB, renO, keepρ, pos, Nat.not_lt_zero, renR_ints, *] | simp (disch := omega) only [getD_ints, wrapI] | omega)
  all_goals first | rfl
/-! Ceil, minutes -/
/-- rounded up -/
def ceil (n d : Int) : Int := -((-n) / d)
end Go.Abs
