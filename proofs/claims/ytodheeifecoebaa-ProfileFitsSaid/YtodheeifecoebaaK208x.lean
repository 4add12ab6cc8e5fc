import Derived.Test.YtodheeifecoebaaK207x
set_option linter.all false
set_option linter.unusedVariables false
set_option linter.unusedSimpArgs false
set_option linter.unusedSectionVars false
namespace Go.Abs
open Go.Proofs
/-! CopyLists, Turned: what they yield reads as the lists -/
def otB (rows : List (Bool × List Int)) (k : Nat) : List (List AV) := (List.range k).map fun i => [AV.lsl (3 * i + 2) 0 (rowN rows i).2.length]
theorem otB_len (rows : List (Bool × List Int)) (k : Nat) : (otB rows k).length = k := by simp [otB]
theorem otB_snoc (rows : List (Bool × List Int)) (k : Nat) : otB rows (k + 1) = otB rows k ++ [[AV.lsl (3 * k + 2) 0 (rowN rows k).2.length]] := by simp [otB, List.range_succ]
structure I78 (rows : List (Bool × List Int)) (k : Nat) (H : List Blk) : Prop where
  l : H.length = 3 * k
  r : ∀ i, i < k → ∃ o, H[3 * i + 2]? = some (.cells o false 1 ((rowN rows i).2.map fun x => [i64 x]))
  t : k ≠ 0 → H[3 * k - 2]? = some (.cells true false 1 (otB rows k))
abbrev SL78 (nil : Bool) (rows : List (Bool × List Int)) (k : Nat) : List (Nat × AV) := [(0, .sl nil 1 (rows.map fun r => [ints r.1 r.2])), (3, if k = 0 then .sl true 0 [] else .lsl (3 * k - 2) 0 k), (4, i64 k)]
theorem cells_sub {H X : List Blk} {N : Nat} (hN : H.length = N) : (∀ Y, (H ++ Y)[N]? = Y[0]?) ∧ (∀ Y j, (H ++ Y)[N + j]? = Y[j]?) ∧ (∀ Y v, (H ++ Y).set N v = H ++ Y.set 0 v) ∧ (∀ Y j v, (H ++ Y).set (N + j) v = H ++ Y.set j v) := by
  subst hN
  refine ⟨fun Y => ?_, fun Y j => ?_, fun Y v => ?_, fun Y j v => ?_⟩
  · rw [List.getElem?_append_right (Nat.le_refl _), Nat.sub_self]
  · rw [List.getElem?_append_right (by omega), Nat.add_sub_cancel_left]
  · rw [List.set_append_right _ _ (Nat.le_refl _), Nat.sub_self]
  · rw [List.set_append_right _ _ (by omega), Nat.add_sub_cancel_left]
set_option maxHeartbeats 8000000 in
theorem k78l {nil : Bool} {rows : List (Bool × List Int)} (hl : rows.length ≤ 1000) (hr : ∀ t, t < rows.length → (rowN rows t).2.length ≤ 1000000) (K : Exit → St → Prop) (k : Nat) (hk : k < rows.length) (H : List Blk) (hH : I78 rows k H) :
    T none Try.prog muts 20 0 c78l0 ⟨SL78 nil rows k, H⟩ (thenK (fun s' => k < rows.length ∧ I78 rows (k + 1) s'.heap ∧ (s'.only [0, 3, 4]).slots = SL78 nil rows (k + 1)) K) := by
  have h1 := rws_get hk
  have h2 := hr k hk
  have hl2 : (rows.map fun r => [ints r.1 r.2]).length = rows.length := by simp
  have h28 := k28 (rowN rows k).1 (rowN rows k).2 (by omega)
  obtain ⟨hN, hR, hT⟩ := hH
  have hot := otB_len rows k
  obtain ⟨g1, g2, g3, g4⟩ := cells_sub (X := []) hN
  have fin : ∀ F : List Blk, F.length = 3 * k → (∀ i, i < k → ∃ o, F[3 * i + 2]? = some (.cells o false 1 ((rowN rows i).2.map fun x => [i64 x]))) → ∀ a : Blk,
      I78 rows (k + 1) (F ++ [a, .cells true false 1 (otB rows (k + 1)), .cells true false 1 ((rowN rows k).2.map fun x => [i64 x])]) := fun F hF hFr a => by
    obtain ⟨f1, f2, f3, f4⟩ := cells_sub (X := []) hF
    refine ⟨by simp [hF]; omega, fun i hi => ?_, fun _ => ?_⟩
    · by_cases hik : i < k
      · obtain ⟨o, ho⟩ := hFr i hik
        exact ⟨o, by rw [List.getElem?_append_left (List.getElem?_eq_some_iff.1 ho).1]; exact ho⟩
      · have : i = k := by omega
        subst this
        exact ⟨true, by rw [f2]; rfl⟩
    · rw [show 3 * (k + 1) - 2 = 3 * k + 1 by omega, f2]; rfl
  have e := otB_snoc rows k
  by_cases hk0 : k = 0
  · subst hk0
    have hH0 : H = [] := List.eq_nil_of_length_eq_zero (by omega)
    subst hH0
    have f0 := fin [] rfl (fun i hi => by omega)
    clear hN hR hT g1 g2 g3 g4 fin hr
    rw [e] at f0
    have e0 : otB rows 0 = [] := rfl
    rw [e0] at f0
    clear e e0 hot
    replace f0 := And.intro f0 trivial
    unfold c78l0
    simp only [SL78, if_true]
    repeat' (first
      | with_reducible first
        | refine T_seq ?_
        | refine T_reg ?_
        | refine T_skip ?_
        | refine T_exit ?_
        | refine T_block ?_
        | refine T_cond_t rfl ?_
        | refine T_cond_f rfl ?_
        | (show wcall _ false (.lit (.func (.func 28) _ _)) _ _ _ _; refine wcall_fn (h28) rfl (by simp [plainL, plain]) ?_)
        | ((first | refine T_cond rfl (fun hc => ?_) (fun hc => ?_) | refine wguard_split (fun hc => ?_) (fun hc => ?_)) <;> have hd := hc <;> (try simp (disch := omega) only [wrapI] at hd) <;> have hs := hd <;> (try simp only [decide_eq_true_eq, decide_eq_false_iff_not, Int.not_lt] at hd) <;> (try simp at hs))
        | refine T_ret ?_
        | refine leave_of (.inr rfl) _ rfl ?_
        | refine leave_of (.inl rfl) _ rfl ?_
        | refine leaveA_of (.inr rfl) _ rfl ?_
        | refine leaveA_of (.inl rfl) _ rfl ?_
        | refine wif_intro ?_ (fun hc => ?_)
        | refine And.intro ?_ ?_
        | intro hc
      | simp (maxSteps := 4000000) only [wops_nil, wops_cons, wstep_none, wrun_call, wrun_mv, wrun_bin, wrun_load, wrun_iaddrS, wrun_len, wrun_bslice, wrun_app, wop, aop, ev, look, put_some, writes, ores_some, ores_ite_none, ores_map, ores_bind, binV, thenK, blockK, intV, lenOf, elsOf, szOk, value, cut, hget, fillA, putCells, AV.parts, isOne, mkAgg, List.flatten_cons, List.flatten_nil, rowsOf, List.map_cons, List.map_nil, List.length_cons, List.length_nil, List.getElem?_cons_zero, List.getElem?_cons_succ, List.set_cons_zero, List.set_cons_succ, List.take_succ_cons, List.take_zero, List.take_nil, List.drop_succ_cons, List.drop_zero, List.drop_nil, List.cons_append, List.nil_append, List.append_nil, List.replicate_zero, List.replicate_succ, List.all_cons, List.all_nil, List.isEmpty_cons, Option.pure_def, Option.bind_eq_bind, Option.getD_some, Option.map_some, if_true, if_false, Nat.reduceEqDiff, Nat.reduceAdd, Nat.reduceSub, Nat.reduceMul, Nat.reduceLeDiff, Nat.add_zero, Nat.zero_add, Nat.sub_zero, Nat.mul_one, Nat.le_refl, reduceCtorEq, Bool.and_true, Bool.or_true, Bool.false_eq_true, eq_self, true_and, and_true, and_self, decide_true, beq_self_eq_true, freeze, lidsL, lids, List.flatMap_cons, List.flatMap_nil, List.all_cons, ren, renB, shiftρ, renR_ints, Int.toNat_natCast, *]
      | simp (disch := omega) only [wrapI]
      | (with_reducible show wcall _ false (.lit (.func (.func 28) _ _)) _ _ _ _; refine wcall_fn (h28) ?_ ?_ ?_; (next => simp [rfyL, rfy, hget, ints, take_rfy, Int.toNat_natCast, renR_rws]); (next => simp [plainL, plain, plainR, Int.toNat_natCast, renR_rws]))
      | omega)
    all_goals first | exact f0.1 _ | (simp [St.only, get_mk, look]; done)
  · have hT' := hT hk0
    have hML : 3 * k - 2 < H.length := (List.getElem?_eq_some_iff.1 hT').1
    have f0 := fin (H.set (3 * k - 2) .dead) (by simp [hN]) (fun i hi => by
      obtain ⟨o, ho⟩ := hR i hi
      exact ⟨o, by rw [List.getElem?_set_ne (by omega)]; exact ho⟩)
    have g5 : ∀ Y, (H ++ Y)[3 * k - 2]? = some (.cells true false 1 (otB rows k)) := fun Y => by rw [List.getElem?_append_left hML]; exact hT'
    have g6 : ∀ Y v, (H ++ Y).set (3 * k - 2) v = H.set (3 * k - 2) v ++ Y := fun Y v => List.set_append_left _ _ hML
    obtain ⟨g7, g8, g9, g10⟩ := cells_sub (X := []) (H := H.set (3 * k - 2) .dead) (N := 3 * k) (by simp [hN])
    clear hR hT fin hr
    rw [e] at f0
    clear e
    have t1 : List.take k (otB rows k) = otB rows k := List.take_of_length_le (by omega)
    have e3 : 3 * (k + 1) - 2 = 3 * k + 1 := by omega
    have hk1 : k + 1 ≠ 0 := by omega
    unfold c78l0
    simp only [SL78, hk0, if_false]
    generalize 3 * k - 2 = M at *
    generalize hNe : 3 * k = N at *
    replace f0 := And.intro f0 trivial
    replace hML := And.intro hML trivial
    replace hNe := And.intro hNe trivial
    replace e3 := And.intro e3 trivial
    repeat' (first
      | with_reducible first
        | refine T_seq ?_
        | refine T_reg ?_
        | refine T_skip ?_
        | refine T_exit ?_
        | refine T_block ?_
        | refine T_cond_t rfl ?_
        | refine T_cond_f rfl ?_
        | (show wcall _ false (.lit (.func (.func 28) _ _)) _ _ _ _; refine wcall_fn (h28) rfl (by simp [plainL, plain]) ?_)
        | ((first | refine T_cond rfl (fun hc => ?_) (fun hc => ?_) | refine wguard_split (fun hc => ?_) (fun hc => ?_)) <;> have hd := hc <;> (try simp (disch := omega) only [wrapI] at hd) <;> have hs := hd <;> (try simp only [decide_eq_true_eq, decide_eq_false_iff_not, Int.not_lt] at hd) <;> (try simp at hs))
        | refine T_ret ?_
        | refine leave_of (.inr rfl) _ rfl ?_
        | refine leave_of (.inl rfl) _ rfl ?_
        | refine leaveA_of (.inr rfl) _ rfl ?_
        | refine leaveA_of (.inl rfl) _ rfl ?_
        | refine wif_intro ?_ (fun hc => ?_)
        | refine And.intro ?_ ?_
        | intro hc
      | simp (maxSteps := 4000000) only [wops_nil, wops_cons, wstep_none, wrun_call, wrun_mv, wrun_bin, wrun_load, wrun_iaddrS, wrun_len, wrun_bslice, wrun_app, wop, aop, ev, look, put_some, writes, ores_some, ores_ite_none, ores_map, ores_bind, binV, thenK, blockK, intV, lenOf, elsOf, szOk, value, cut, hget, fillA, putCells, AV.parts, isOne, mkAgg, List.flatten_cons, List.flatten_nil, rowsOf, List.map_cons, List.map_nil, List.length_cons, List.length_nil, List.getElem?_cons_zero, List.getElem?_cons_succ, List.set_cons_zero, List.set_cons_succ, List.take_succ_cons, List.take_zero, List.take_nil, List.drop_succ_cons, List.drop_zero, List.drop_nil, List.cons_append, List.nil_append, List.append_nil, List.append_assoc, List.replicate_zero, List.replicate_succ, List.all_cons, List.all_nil, List.isEmpty_cons, List.length_append, Option.pure_def, Option.bind_eq_bind, Option.getD_some, Option.map_some, if_true, if_false, Nat.reduceEqDiff, Nat.reduceAdd, Nat.add_zero, Nat.zero_add, Nat.sub_zero, Nat.mul_one, Nat.le_refl, reduceCtorEq, Bool.and_true, Bool.and_false, Bool.or_true, Bool.false_eq_true, eq_self, true_and, and_true, and_self, decide_true, beq_self_eq_true, freeze, lidsL, lids, List.flatMap_cons, List.flatMap_nil, List.all_cons, ren, renB, shiftρ, renR_ints, Int.toNat_natCast, *]
      | simp (disch := omega) only [wrapI]
      | (with_reducible show wcall _ false (.lit (.func (.func 28) _ _)) _ _ _ _; refine wcall_fn (h28) ?_ ?_ ?_; (next => simp [rfyL, rfy, hget, ints, take_rfy, Int.toNat_natCast, renR_rws]); (next => simp [plainL, plain, plainR, Int.toNat_natCast, renR_rws]))
      | omega)
    all_goals first | exact f0.1 _ | (simp [St.only, get_mk, look]; done)
end Go.Abs
