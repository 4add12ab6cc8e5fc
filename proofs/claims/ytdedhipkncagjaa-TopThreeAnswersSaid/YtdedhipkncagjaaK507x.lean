import Derived.Test.YtdedhipkncagjaaK506x
import Derived.Test.YtdedhipkncagjaaK855x
import Derived.Test.YtdedhipkncagjaaK856x
set_option linter.all false
set_option linter.unusedVariables false
set_option linter.unusedSimpArgs false
set_option linter.unusedSectionVars false
namespace Go.Abs
open Go.Proofs
/-! the example -/
theorem ex8c : rcall Try.prog muts noPrim noIters 3000 8 [i64 2, .sl false 4 [[i64 0, i64 1, i64 5, i64 7]]] [] = some (.tup [.lsl 0 0 2, .sl true 0 [], i64 0], [.cells true false 2 [[i64 0, i64 0], [i64 5, i64 7]]]) := by kernel_rfl
theorem ex8 : Fn Try.prog 8 [i64 2, .sl false 4 [[i64 0, i64 1, i64 5, i64 7]]] (.tup [.lsl 0 0 2, .sl true 0 [], i64 0]) [.cells true false 2 [[i64 0, i64 0], [i64 5, i64 7]]] := rcall_ok (noPrim_ok _) (noIters_ok _) ex8c
theorem fz0 (o n : Bool) (z : Nat) (X : List (List AV)) (T : List Blk) : freeze1 (.cells o n z X :: T) 0 = .cells false n z X :: T := by cases o <;> rfl
theorem fz1 (A : Blk) (o n : Bool) (z : Nat) (X : List (List AV)) (T : List Blk) : freeze1 (A :: .cells o n z X :: T) 1 = A :: .cells false n z X :: T := by cases o <;> rfl
set_option maxHeartbeats 8000000 in
theorem k5 : Fn Try.prog 5 [] (bl true) [] := by
  refine fn_of e5 ?_
  have h8 := ex8
  have h11a := k11 (nb := false) (pk := 7) (sl := 7) (A := 1) (I := 0) (J := 0) box2_ok (by omega) (by omega) (by decide)
  have h11b := k11 (nb := false) (pk := 4) (sl := 9) (A := -1) (I := 1) (J := 0) box2_ok (by omega) (by omega) (by decide)
  have hb : rgR box2 = [[i64 0, i64 0], [i64 5, i64 7]] := rfl
  rw [hb] at h11a h11b
  clear hb
  unfold c5
  repeat' (first | (with_reducible first | refine T_seq ?_ | refine T_reg ?_ | refine T_skip ?_ | refine T_exit ?_ | refine T_block ?_ | refine T_cond_t rfl ?_ | refine T_cond_f rfl ?_ | (show wcall _ false (.lit (.func (.func 8) _ _)) _ _ _ _; refine wcall_fn (h8) rfl (by simp [plainL, plain, plainR]) ?_) | (show wcall _ false (.lit (.func (.func 11) _ _)) _ _ _ _; refine wcall_fn (h11a) rfl (by simp [plainL, plain, plainR]) ?_) | (show wcall _ false (.lit (.func (.func 11) _ _)) _ _ _ _; refine wcall_fn (h11b) rfl (by simp [plainL, plain, plainR]) ?_) | refine T_ret ?_ | refine leave_of (.inr rfl) _ rfl ?_ | refine leave_of (.inl rfl) _ rfl ?_ | refine leaveA_of (.inr rfl) _ rfl ?_ | refine leaveA_of (.inl rfl) _ rfl ?_ | refine wif_intro ?_ (fun hc => ?_) | refine And.intro ?_ ?_ | intro hc) | simp (maxSteps := 4000000) only [wops_nil, wops_cons, wstep_none, wstep_some, wguard_true, wrun_call, wrun_mv, wrun_pick, wrun_bin, wrun_eqAgg, wrun_ext, wrun_build, wrun_load, wrun_store, wrun_alloc, wrun_bslice, get_mk, wop, aop, ev, look, put_some, put_none, writes, ores_some, ores_ite_none, ores_map, wif_true, binV, thenK, boolV, value, cut, hget, fillA, putCells, AV.parts, isOne, toLits, mkAgg, tupOf, ofValue_int, cellsEq, cellEq, List.flatten_cons, List.flatten_nil, rowsOf, List.map_cons, List.map_nil, List.length_cons, List.length_nil, List.getElem?_cons_zero, List.getElem?_cons_succ, List.set_cons_zero, List.set_cons_succ, List.take_succ_cons, List.take_zero, List.take_nil, List.drop_succ_cons, List.drop_zero, List.drop_nil, List.cons_append, List.nil_append, List.append_nil, List.append_assoc, List.replicate_zero, List.replicate_succ, List.getD_cons_zero, List.zipIdx_nil, List.all_cons, List.all_nil, Option.getD_some, Option.map_some, if_true, if_false, Nat.reduceEqDiff, Nat.reduceAdd, Nat.reduceLeDiff, Nat.reduceLT, Nat.add_zero, Nat.zero_add, Nat.zero_mul, Nat.le_refl, Nat.zero_ne_one, reduceCtorEq, Bool.and_true, Bool.false_eq_true, eq_self, true_and, and_self, beq_self_eq_true, Int.reduceNeg, freeze, lidsL, lids, List.flatMap_cons, List.flatMap_nil, List.all_cons, ren, renL, renR, renB, shiftρ, fz0, fz1, *] | simp (disch := omega) only [getD_ints, wrapI] | (with_reducible show wcall _ false (.lit (.func (.func 8) _ _)) _ _ _ _; refine wcall_fn (h8) ?_ ?_ ?_; (next => simp [rfyL, rfy, hget, ints, take_rfy, fz0, fz1]); (next => simp [plainL, plain, plainR, fz0, fz1])) | (with_reducible show wcall _ false (.lit (.func (.func 11) _ _)) _ _ _ _; refine wcall_fn (h11a) ?_ ?_ ?_; (next => simp [rfyL, rfy, hget, ints, take_rfy, fz0, fz1]); (next => simp [plainL, plain, plainR, fz0, fz1])) | (with_reducible show wcall _ false (.lit (.func (.func 11) _ _)) _ _ _ _; refine wcall_fn (h11b) ?_ ?_ ?_; (next => simp [rfyL, rfy, hget, ints, take_rfy, fz0, fz1]); (next => simp [plainL, plain, plainR, fz0, fz1])) | omega)
  all_goals first | rfl
end Go.Abs
namespace Go.Abs
open Go.Proofs
/-! Enclosure of measured readings -/
theorem conc_nilw {C : Ctx} {w w' : Nat} {u : Value} (h : Conc C (.sl true w []) u) : Conc C (.sl true w' []) u := by
  simp only [Conc, List.length_nil] at h ⊢
  simpa using h
theorem Fn.nilw {P : Program} {g : FuncId} {a r : AV} {new : List Blk} {w w' : Nat} (h : Fn P g [a, .sl true w []] r new) : Fn P g [a, .sl true w' []] r new :=
  ⟨h.1, fun C cargs h1 h2 h3 => h.2 C cargs h1 h2 (by
    simp only [ConcL] at h3 ⊢
    obtain ⟨u, us, rfl, ha, u2, us2, rfl, hb, rfl⟩ := h3
    exact ⟨u, [u2], rfl, ha, u2, [], rfl, conc_nilw hb, rfl⟩)⟩
def farM (xs : List Int) (ps es : List (Int × Int)) : Bool := ((tM xs ps es).getD 0 []).any isFar
def lV (xs : List Int) (ps es : List (Int × Int)) : AV := if lM xs ps es = [] then .sl true 0 [] else rdgs false (lM xs ps es)
theorem k8M {xs : List Int} {ps es : List (Int × Int)} (h : MOk xs ps es) :
    (farM xs ps es = true → Fn Try.prog 8 [i64 xs.length, lV xs ps es] (.tup [.sl true 0 [], .sl true 0 [], i64 25]) []) ∧
    (farM xs ps es = false → Fn Try.prog 8 [i64 xs.length, lV xs ps es] (.tup [.lsl 0 0 xs.length, .sl true 0 [], i64 0]) [.cells true false 2 (rgR (bM xs ps es))]) := by
  obtain ⟨h1, h2⟩ := rdM_ok h
  have key := fun nil => k8 (nil := nil) (l := lM xs ps es) (z := xs.length) h1 rfl (ht_enc h1 h2).1
  unfold lV
  split
  · rename_i he
    have k2 := key true
    have e0 : rdgs true (lM xs ps es) = .sl true 4 [] := by rw [he]; rfl
    rw [e0] at k2
    exact ⟨fun hf => Fn.nilw (w := 4) (k2.1 hf), fun hf => Fn.nilw (w := 4) (k2.2 hf)⟩
  · exact key false
end Go.Abs
