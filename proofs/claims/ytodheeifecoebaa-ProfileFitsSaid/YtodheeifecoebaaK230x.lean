import Derived.Test.YtodheeifecoebaaK210
import Derived.Test.YtodheeifecoebaaK209x
set_option linter.all false
set_option linter.unusedVariables false
set_option linter.unusedSimpArgs false
set_option linter.unusedSectionVars false
namespace Go.Abs
open Go.Proofs
/-! products of lists; terms and heights -/
def dotN (xs ys : List Int) (n : Nat) : Int := sm (fun i => xs.getD i 0 * ys.getD i 0) n
theorem mul_bd {x y A B : Int} (hx : -A ≤ x ∧ x ≤ A) (hy : -B ≤ y ∧ y ≤ B) (hB : 0 ≤ B) : -(A * B) ≤ x * y ∧ x * y ≤ A * B := by
  have h1 : 0 ≤ (A - x) * (B + y) := Int.mul_nonneg (by omega) (by omega)
  have h2 : 0 ≤ (A + x) * (B - y) := Int.mul_nonneg (by omega) (by omega)
  have h3 : 0 ≤ (A - x) * (B - y) := Int.mul_nonneg (by omega) (by omega)
  have h4 : 0 ≤ (A + x) * (B + y) := Int.mul_nonneg (by omega) (by omega)
  simp only [Int.sub_mul, Int.add_mul, Int.mul_add, Int.mul_sub] at h1 h2 h3 h4
  omega
theorem dot_bd {xs ys : List Int} {A B : Int} (hB : 0 ≤ B) (n : Nat) (hx : ∀ i, i < n → -A ≤ xs.getD i 0 ∧ xs.getD i 0 ≤ A) (hy : ∀ i, i < n → -B ≤ ys.getD i 0 ∧ ys.getD i 0 ≤ B) : -(n * (A * B)) ≤ dotN xs ys n ∧ dotN xs ys n ≤ n * (A * B) :=
  sm_bd n fun i hi => mul_bd (hx i hi) (hy i hi) hB
set_option maxHeartbeats 8000000 in
theorem k136 {n1 n2 : Bool} {xs ys : List Int} (hl : xs.length ≤ ys.length) (hn : xs.length ≤ 20) (hb : ∀ i, i < xs.length → -1000000 ≤ xs.getD i 0 * ys.getD i 0 ∧ xs.getD i 0 * ys.getD i 0 ≤ 1000000) :
    Fn Try.prog 136 [ints n1 xs, ints n2 ys] (i64 (dotN xs ys xs.length)) [] := by
  refine fn_of e136 ?_
  unfold c136
  repeat' (first
    | ((with_reducible refine T_calm ?_ ?_); rfl)
    | with_reducible first
      | refine T_seq ?_
      | refine T_reg ?_
      | refine T_draw ?_
      | refine T_skip ?_
      | refine T_exit ?_
      | refine T_block ?_
      | refine T_cond_t rfl ?_
      | refine T_cond_f rfl ?_
      | refine wdW_cons rfl ?_
      | ((first | refine T_cond rfl (fun hc => ?_) (fun hc => ?_) | refine wguard_split (fun hc => ?_) (fun hc => ?_) | refine wguardX_split (fun hc => ?_) (fun hc => ?_)) <;> have hd := hc <;> (try simp (disch := omega) only [wrapI] at hd) <;> have hs := hd <;> (try simp only [Bool.not_eq_true', Bool.not_eq_false', Bool.and_eq_true, Bool.and_eq_false_iff, Bool.or_eq_true, Bool.or_eq_false_iff, decide_eq_true_eq, decide_eq_false_iff_not, beq_iff_eq, bne_iff_ne, beq_eq_false_iff_ne, bne_eq_false_iff_eq, Bool.not_true, Bool.not_false, gt_iff_lt, ge_iff_le, Int.not_lt, Int.not_le, ne_eq, Decidable.not_not] at hd) <;> (try simp at hs))
      | refine T_ret ?_
      | refine leave_of (.inr rfl) _ rfl ?_
      | refine leave_of (.inl rfl) _ rfl ?_
      | refine leaveA_of (.inr rfl) _ rfl ?_
      | refine leaveA_of (.inl rfl) _ rfl ?_
      | refine wif_intro ?_ (fun hc => ?_)
      | refine And.intro ?_ ?_
      | intro hc
    | simp (maxSteps := 4000000) only [wops_nil, wops_cons, wstep_none, wrun_mv, wrun_len, wop, aop, ev, look, put_some, writes, ores_some, ores_map, ores_bind, thenK, intV, lenOf, hget, List.map_cons, List.map_nil, List.length_nil, List.append_nil, List.replicate_zero, List.zipIdx_cons, List.zipIdx_nil, List.length_map, Option.pure_def, Option.bind_eq_bind, if_true, if_false, Nat.reduceEqDiff, Nat.reduceAdd, Nat.zero_add, reduceCtorEq, eq_self, *]
    | simp (disch := omega) only [getD_ints, wrapI]
    | omega)
  refine T_for [0, 1, 5, 8, 9] (fun k => ⟨[(0, ints n1 xs), (1, ints n2 ys), (5, i64 (dotN xs ys k)), (8, i64 xs.length), (9, i64 k)], []⟩) xs.length (fun _ => True) 0 rfl trivial (Nat.zero_le _) ?_
  intro k hk _
  unfold c136l0
  by_cases hkn : k < xs.length
  · have g1 : (xs.map fun x => [i64 x]).getD k [] = [i64 (xs.getD k 0)] := getD_ints hkn
    have g2 : (ys.map fun x => [i64 x]).getD k [] = [i64 (ys.getD k 0)] := getD_ints (by omega)
    have h1 := hb k hkn
    have h2 : -(k * 1000000) ≤ dotN xs ys k ∧ dotN xs ys k ≤ k * 1000000 := sm_bd (B := 1000000) k fun i hi => hb i (by omega)
    have e : dotN xs ys (k + 1) = dotN xs ys k + xs.getD k 0 * ys.getD k 0 := rfl
    rw [e]
    have ew1 : IntKind.i64.wrap (xs.getD k 0 * ys.getD k 0) = xs.getD k 0 * ys.getD k 0 := wrapI (by omega) (by omega)
    have ew2 : IntKind.i64.wrap (dotN xs ys k + xs.getD k 0 * ys.getD k 0) = dotN xs ys k + xs.getD k 0 * ys.getD k 0 := wrapI (by omega) (by omega)
    clear hb e
    generalize dotN xs ys k = d at *
    generalize xs.getD k 0 = x at *
    generalize ys.getD k 0 = y at *
    repeat' (first
      | ((with_reducible refine T_calm ?_ ?_); rfl)
      | with_reducible first
        | refine T_seq ?_
        | refine T_reg ?_
        | refine T_draw ?_
        | refine T_skip ?_
        | refine T_exit ?_
        | refine T_block ?_
        | refine T_cond_t rfl ?_
        | refine T_cond_f rfl ?_
        | refine wdW_cons rfl ?_
        | ((first | refine T_cond rfl (fun hc => ?_) (fun hc => ?_) | refine wguard_split (fun hc => ?_) (fun hc => ?_) | refine wguardX_split (fun hc => ?_) (fun hc => ?_)) <;> have hd := hc <;> (try simp (disch := omega) only [wrapI] at hd) <;> have hs := hd <;> (try simp only [decide_eq_true_eq, decide_eq_false_iff_not, Int.not_lt] at hd) <;> (try simp at hs))
        | refine T_ret ?_
        | refine leave_of (.inr rfl) _ rfl ?_
        | refine leave_of (.inl rfl) _ rfl ?_
        | refine leaveA_of (.inr rfl) _ rfl ?_
        | refine leaveA_of (.inl rfl) _ rfl ?_
        | refine wif_intro ?_ (fun hc => ?_)
        | refine And.intro ?_ ?_
        | intro hc
      | simp (maxSteps := 4000000) only [wops_nil, wops_cons, wstep_none, wrun_mv, wrun_bin, wrun_load, wrun_iaddrS, get_mk, wop, aop, ev, look, put_some, writes, ores_some, ores_ite_none, binV, thenK, blockK, value, cut, hget, mkAgg, tupOf, List.map_cons, List.map_nil, List.length_cons, List.length_nil, List.take_succ_cons, List.take_nil, List.drop_zero, List.append_nil, List.replicate_zero, List.length_map, Option.map_some, if_true, if_false, Nat.reduceEqDiff, Nat.zero_add, Nat.zero_ne_one, reduceCtorEq, Bool.false_eq_true, eq_self, true_and, and_true, and_self, decide_true, ren, Int.toNat_natCast, *]
      | simp (disch := omega) only [wrapI]
      | omega)
    all_goals first | (simp [St.only, get_mk, look]; done)
  · have hke : k = xs.length := by omega
    subst hke
    clear hb
    repeat' (first
      | ((with_reducible refine T_calm ?_ ?_); rfl)
      | with_reducible first
        | refine T_seq ?_
        | refine T_reg ?_
        | refine T_draw ?_
        | refine T_skip ?_
        | refine T_exit ?_
        | refine T_block ?_
        | refine T_cond_t rfl ?_
        | refine T_cond_f rfl ?_
        | refine wdW_cons rfl ?_
        | ((first | refine T_cond rfl (fun hc => ?_) (fun hc => ?_) | refine wguard_split (fun hc => ?_) (fun hc => ?_) | refine wguardX_split (fun hc => ?_) (fun hc => ?_)) <;> have hd := hc <;> (try simp (disch := omega) only [wrapI] at hd) <;> have hs := hd <;> (try simp only [decide_eq_true_eq, decide_eq_false_iff_not, Int.not_lt] at hd) <;> (try simp at hs))
        | refine T_ret ?_
        | refine leave_of (.inr rfl) _ rfl ?_
        | refine leave_of (.inl rfl) _ rfl ?_
        | refine leaveA_of (.inr rfl) _ rfl ?_
        | refine leaveA_of (.inl rfl) _ rfl ?_
        | refine wif_intro ?_ (fun hc => ?_)
        | refine And.intro ?_ ?_
        | intro hc
      | simp (maxSteps := 4000000) only [wops_nil, wops_cons, wstep_none, wrun_mv, wrun_bin, get_mk, wop, aop, ev, look, put_some, writes, ores_some, binV, thenK, blockK, tupOf, List.length_nil, List.append_nil, List.replicate_zero, Option.map_some, if_true, if_false, Nat.reduceEqDiff, reduceCtorEq, eq_self, and_true, false_and, ren, *]
      | simp (disch := omega) only [getD_ints, wrapI]
      | omega)
    all_goals first | rfl
set_option maxHeartbeats 8000000 in
theorem k140 {n1 n2 : Bool} {xs ys : List Int} (hl : xs.length ≤ ys.length) (hn : xs.length ≤ 20) (hb : ∀ i, i < xs.length → -1000000 ≤ xs.getD i 0 * ys.getD i 0 ∧ xs.getD i 0 * ys.getD i 0 ≤ 1000000) :
    Fn Try.prog 140 [ints n1 xs, ints n2 ys] (i64 (dotN xs ys xs.length)) [] := by
  refine fn_of e140 ?_
  unfold c140
  repeat' (first
    | ((with_reducible refine T_calm ?_ ?_); rfl)
    | with_reducible first
      | refine T_seq ?_
      | refine T_reg ?_
      | refine T_draw ?_
      | refine T_skip ?_
      | refine T_exit ?_
      | refine T_block ?_
      | refine T_cond_t rfl ?_
      | refine T_cond_f rfl ?_
      | refine wdW_cons rfl ?_
      | ((first | refine T_cond rfl (fun hc => ?_) (fun hc => ?_) | refine wguard_split (fun hc => ?_) (fun hc => ?_) | refine wguardX_split (fun hc => ?_) (fun hc => ?_)) <;> have hd := hc <;> (try simp (disch := omega) only [wrapI] at hd) <;> have hs := hd <;> (try simp only [Bool.not_eq_true', Bool.not_eq_false', Bool.and_eq_true, Bool.and_eq_false_iff, Bool.or_eq_true, Bool.or_eq_false_iff, decide_eq_true_eq, decide_eq_false_iff_not, beq_iff_eq, bne_iff_ne, beq_eq_false_iff_ne, bne_eq_false_iff_eq, Bool.not_true, Bool.not_false, gt_iff_lt, ge_iff_le, Int.not_lt, Int.not_le, ne_eq, Decidable.not_not] at hd) <;> (try simp at hs))
      | refine T_ret ?_
      | refine leave_of (.inr rfl) _ rfl ?_
      | refine leave_of (.inl rfl) _ rfl ?_
      | refine leaveA_of (.inr rfl) _ rfl ?_
      | refine leaveA_of (.inl rfl) _ rfl ?_
      | refine wif_intro ?_ (fun hc => ?_)
      | refine And.intro ?_ ?_
      | intro hc
    | simp (maxSteps := 4000000) only [wops_nil, wops_cons, wstep_none, wrun_mv, wop, aop, ev, put_some, writes, ores_some, thenK, List.map_cons, List.map_nil, List.length_nil, List.append_nil, List.replicate_zero, List.zipIdx_cons, List.zipIdx_nil, Nat.reduceAdd, Nat.zero_add, *]
    | simp (disch := omega) only [getD_ints, wrapI]
    | omega)
  refine T_for [0, 1, 5, 6] (fun k => ⟨[(0, ints n1 xs), (1, ints n2 ys), (5, i64 (dotN xs ys k)), (6, i64 k)], []⟩) xs.length (fun _ => True) 0 rfl trivial (Nat.zero_le _) ?_
  intro k hk _
  unfold c140l0
  by_cases hkn : k < xs.length
  · have g1 : (xs.map fun x => [i64 x]).getD k [] = [i64 (xs.getD k 0)] := getD_ints hkn
    have g2 : (ys.map fun x => [i64 x]).getD k [] = [i64 (ys.getD k 0)] := getD_ints (by omega)
    have h1 := hb k hkn
    have h2 : -(k * 1000000) ≤ dotN xs ys k ∧ dotN xs ys k ≤ k * 1000000 := sm_bd (B := 1000000) k fun i hi => hb i (by omega)
    have e : dotN xs ys (k + 1) = dotN xs ys k + xs.getD k 0 * ys.getD k 0 := rfl
    rw [e]
    have ew1 : IntKind.i64.wrap (xs.getD k 0 * ys.getD k 0) = xs.getD k 0 * ys.getD k 0 := wrapI (by omega) (by omega)
    have ew2 : IntKind.i64.wrap (dotN xs ys k + xs.getD k 0 * ys.getD k 0) = dotN xs ys k + xs.getD k 0 * ys.getD k 0 := wrapI (by omega) (by omega)
    clear hb e
    generalize dotN xs ys k = d at *
    generalize xs.getD k 0 = x at *
    generalize ys.getD k 0 = y at *
    repeat' (first
      | ((with_reducible refine T_calm ?_ ?_); rfl)
      | with_reducible first
        | refine T_seq ?_
        | refine T_reg ?_
        | refine T_draw ?_
        | refine T_skip ?_
        | refine T_exit ?_
        | refine T_block ?_
        | refine T_cond_t rfl ?_
        | refine T_cond_f rfl ?_
        | refine wdW_cons rfl ?_
        | ((first | refine T_cond rfl (fun hc => ?_) (fun hc => ?_) | refine wguard_split (fun hc => ?_) (fun hc => ?_) | refine wguardX_split (fun hc => ?_) (fun hc => ?_)) <;> have hd := hc <;> (try simp (disch := omega) only [wrapI] at hd) <;> have hs := hd <;> (try simp only [decide_eq_true_eq, decide_eq_false_iff_not, Int.not_lt] at hd) <;> (try simp at hs))
        | refine T_ret ?_
        | refine leave_of (.inr rfl) _ rfl ?_
        | refine leave_of (.inl rfl) _ rfl ?_
        | refine leaveA_of (.inr rfl) _ rfl ?_
        | refine leaveA_of (.inl rfl) _ rfl ?_
        | refine wif_intro ?_ (fun hc => ?_)
        | refine And.intro ?_ ?_
        | intro hc
      | simp (maxSteps := 4000000) only [wops_nil, wops_cons, wstep_none, wrun_mv, wrun_bin, wrun_load, wrun_iaddrS, wrun_len, get_mk, wop, aop, ev, look, put_some, writes, ores_some, ores_ite_none, ores_map, ores_bind, binV, thenK, blockK, intV, lenOf, value, cut, hget, mkAgg, tupOf, List.map_cons, List.map_nil, List.length_cons, List.length_nil, List.take_succ_cons, List.take_nil, List.drop_zero, List.append_nil, List.replicate_zero, List.length_map, Option.pure_def, Option.bind_eq_bind, Option.map_some, if_true, if_false, Nat.reduceEqDiff, Nat.zero_add, Nat.zero_ne_one, reduceCtorEq, Bool.false_eq_true, eq_self, true_and, and_true, and_self, decide_true, ren, Int.toNat_natCast, *]
      | simp (disch := omega) only [wrapI]
      | omega)
    all_goals first | (simp [St.only, get_mk, look]; done)
  · have hke : k = xs.length := by omega
    subst hke
    clear hb
    repeat' (first
      | ((with_reducible refine T_calm ?_ ?_); rfl)
      | with_reducible first
        | refine T_seq ?_
        | refine T_reg ?_
        | refine T_draw ?_
        | refine T_skip ?_
        | refine T_exit ?_
        | refine T_block ?_
        | refine T_cond_t rfl ?_
        | refine T_cond_f rfl ?_
        | refine wdW_cons rfl ?_
        | ((first | refine T_cond rfl (fun hc => ?_) (fun hc => ?_) | refine wguard_split (fun hc => ?_) (fun hc => ?_) | refine wguardX_split (fun hc => ?_) (fun hc => ?_)) <;> have hd := hc <;> (try simp (disch := omega) only [wrapI] at hd) <;> have hs := hd <;> (try simp only [decide_eq_true_eq, decide_eq_false_iff_not, Int.not_lt] at hd) <;> (try simp at hs))
        | refine T_ret ?_
        | refine leave_of (.inr rfl) _ rfl ?_
        | refine leave_of (.inl rfl) _ rfl ?_
        | refine leaveA_of (.inr rfl) _ rfl ?_
        | refine leaveA_of (.inl rfl) _ rfl ?_
        | refine wif_intro ?_ (fun hc => ?_)
        | refine And.intro ?_ ?_
        | intro hc
      | simp (maxSteps := 4000000) only [wops_nil, wops_cons, wstep_none, wrun_mv, wrun_bin, wrun_len, get_mk, wop, aop, ev, look, put_some, writes, ores_some, ores_map, ores_bind, binV, thenK, blockK, intV, lenOf, hget, tupOf, List.length_nil, List.append_nil, List.replicate_zero, List.length_map, Option.pure_def, Option.bind_eq_bind, Option.map_some, if_true, if_false, Nat.reduceEqDiff, reduceCtorEq, eq_self, and_true, false_and, ren, *]
      | simp (disch := omega) only [getD_ints, wrapI]
      | omega)
    all_goals first | rfl
set_option maxHeartbeats 8000000 in
theorem k149 (n : Int) : Fn Try.prog 149 [i64 n] (bl (outB 100 n)) [] := by
  refine fn_of e149 ?_
  unfold c149
  repeat' (first
    | with_reducible first
      | refine T_seq ?_
      | refine T_reg ?_
      | refine T_skip ?_
      | refine T_exit ?_
      | refine T_block ?_
      | refine T_cond_t rfl ?_
      | refine T_cond_f rfl ?_
      | (show wcall _ false (.lit (.func (.func 92) _ _)) _ _ _ _; refine wcall_fn (k92 _ _ _) rfl (by simp [plainL, plain]) ?_)
      | ((first | refine T_cond rfl (fun hc => ?_) (fun hc => ?_) | refine wguard_split (fun hc => ?_) (fun hc => ?_)) <;> have hd := hc <;> (try simp (disch := omega) only [wrapI] at hd) <;> have hs := hd <;> (try simp only [Bool.not_eq_true', Bool.not_eq_false', Bool.and_eq_true, Bool.and_eq_false_iff, Bool.or_eq_true, Bool.or_eq_false_iff, decide_eq_true_eq, decide_eq_false_iff_not, beq_iff_eq, bne_iff_ne, beq_eq_false_iff_ne, bne_eq_false_iff_eq, Bool.not_true, Bool.not_false, gt_iff_lt, ge_iff_le, Int.not_lt, Int.not_le, ne_eq, Decidable.not_not] at hd) <;> (try simp at hs))
      | refine T_ret ?_
      | refine leave_of (.inr rfl) _ rfl ?_
      | refine leave_of (.inl rfl) _ rfl ?_
      | refine leaveA_of (.inr rfl) _ rfl ?_
      | refine leaveA_of (.inl rfl) _ rfl ?_
      | refine wif_intro ?_ (fun hc => ?_)
      | refine And.intro ?_ ?_
      | intro hc
    | simp (maxSteps := 4000000) only [wops_nil, wops_cons, wstep_none, wrun_call, wrun_mv, wrun_not, get_mk, wop, aop, ev, look, put_some, writes, ores_some, thenK, boolV, tupOf, List.map_cons, List.map_nil, List.length_nil, List.append_nil, List.replicate_zero, List.zipIdx_cons, List.zipIdx_nil, if_true, if_false, Nat.reduceEqDiff, Nat.zero_add, reduceCtorEq, eq_self, Int.reduceNeg, freeze, lidsL, lids, List.flatMap_cons, List.flatMap_nil, ren, *]
    | simp (disch := omega) only [getD_ints, wrapI]
    | (with_reducible show wcall _ false (.lit (.func (.func 92) _ _)) _ _ _ _; refine wcall_fn (k92 _ _ _) ?_ ?_ ?_; (next => simp [rfyL, rfy, hget, ints, take_rfy]); (next => simp [plainL, plain, plainR]))
    | omega)
  exact rfl
set_option maxHeartbeats 8000000 in
theorem k150 (n : Int) : Fn Try.prog 150 [i64 n] (bl (outB 5000 n)) [] := by
  refine fn_of e150 ?_
  unfold c150
  repeat' (first
    | with_reducible first
      | refine T_seq ?_
      | refine T_reg ?_
      | refine T_skip ?_
      | refine T_exit ?_
      | refine T_block ?_
      | refine T_cond_t rfl ?_
      | refine T_cond_f rfl ?_
      | (show wcall _ false (.lit (.func (.func 92) _ _)) _ _ _ _; refine wcall_fn (k92 _ _ _) rfl (by simp [plainL, plain]) ?_)
      | ((first | refine T_cond rfl (fun hc => ?_) (fun hc => ?_) | refine wguard_split (fun hc => ?_) (fun hc => ?_)) <;> have hd := hc <;> (try simp (disch := omega) only [wrapI] at hd) <;> have hs := hd <;> (try simp only [Bool.not_eq_true', Bool.not_eq_false', Bool.and_eq_true, Bool.and_eq_false_iff, Bool.or_eq_true, Bool.or_eq_false_iff, decide_eq_true_eq, decide_eq_false_iff_not, beq_iff_eq, bne_iff_ne, beq_eq_false_iff_ne, bne_eq_false_iff_eq, Bool.not_true, Bool.not_false, gt_iff_lt, ge_iff_le, Int.not_lt, Int.not_le, ne_eq, Decidable.not_not] at hd) <;> (try simp at hs))
      | refine T_ret ?_
      | refine leave_of (.inr rfl) _ rfl ?_
      | refine leave_of (.inl rfl) _ rfl ?_
      | refine leaveA_of (.inr rfl) _ rfl ?_
      | refine leaveA_of (.inl rfl) _ rfl ?_
      | refine wif_intro ?_ (fun hc => ?_)
      | refine And.intro ?_ ?_
      | intro hc
    | simp (maxSteps := 4000000) only [wops_nil, wops_cons, wstep_none, wrun_call, wrun_mv, wrun_not, get_mk, wop, aop, ev, look, put_some, writes, ores_some, thenK, boolV, tupOf, List.map_cons, List.map_nil, List.length_nil, List.append_nil, List.replicate_zero, List.zipIdx_cons, List.zipIdx_nil, if_true, if_false, Nat.reduceEqDiff, Nat.zero_add, reduceCtorEq, eq_self, Int.reduceNeg, freeze, lidsL, lids, List.flatMap_cons, List.flatMap_nil, ren, *]
    | simp (disch := omega) only [getD_ints, wrapI]
    | (with_reducible show wcall _ false (.lit (.func (.func 92) _ _)) _ _ _ _; refine wcall_fn (k92 _ _ _) ?_ ?_ ?_; (next => simp [rfyL, rfy, hget, ints, take_rfy]); (next => simp [plainL, plain, plainR]))
    | omega)
  exact rfl
set_option maxHeartbeats 8000000 in
theorem k138 (n : Int) : Fn Try.prog 138 [i64 n] (bl (outB 10000000000000 n)) [] := by
  refine fn_of e138 ?_
  unfold c138
  repeat' (first
    | with_reducible first
      | refine T_seq ?_
      | refine T_reg ?_
      | refine T_skip ?_
      | refine T_exit ?_
      | refine T_block ?_
      | refine T_cond_t rfl ?_
      | refine T_cond_f rfl ?_
      | (show wcall _ false (.lit (.func (.func 92) _ _)) _ _ _ _; refine wcall_fn (k92 _ _ _) rfl (by simp [plainL, plain]) ?_)
      | ((first | refine T_cond rfl (fun hc => ?_) (fun hc => ?_) | refine wguard_split (fun hc => ?_) (fun hc => ?_)) <;> have hd := hc <;> (try simp (disch := omega) only [wrapI] at hd) <;> have hs := hd <;> (try simp only [Bool.not_eq_true', Bool.not_eq_false', Bool.and_eq_true, Bool.and_eq_false_iff, Bool.or_eq_true, Bool.or_eq_false_iff, decide_eq_true_eq, decide_eq_false_iff_not, beq_iff_eq, bne_iff_ne, beq_eq_false_iff_ne, bne_eq_false_iff_eq, Bool.not_true, Bool.not_false, gt_iff_lt, ge_iff_le, Int.not_lt, Int.not_le, ne_eq, Decidable.not_not] at hd) <;> (try simp at hs))
      | refine T_ret ?_
      | refine leave_of (.inr rfl) _ rfl ?_
      | refine leave_of (.inl rfl) _ rfl ?_
      | refine leaveA_of (.inr rfl) _ rfl ?_
      | refine leaveA_of (.inl rfl) _ rfl ?_
      | refine wif_intro ?_ (fun hc => ?_)
      | refine And.intro ?_ ?_
      | intro hc
    | simp (maxSteps := 4000000) only [wops_nil, wops_cons, wstep_none, wrun_call, wrun_mv, wrun_not, get_mk, wop, aop, ev, look, put_some, writes, ores_some, thenK, boolV, tupOf, List.map_cons, List.map_nil, List.length_nil, List.append_nil, List.replicate_zero, List.zipIdx_cons, List.zipIdx_nil, if_true, if_false, Nat.reduceEqDiff, Nat.zero_add, reduceCtorEq, eq_self, Int.reduceNeg, freeze, lidsL, lids, List.flatMap_cons, List.flatMap_nil, ren, *]
    | simp (disch := omega) only [getD_ints, wrapI]
    | (with_reducible show wcall _ false (.lit (.func (.func 92) _ _)) _ _ _ _; refine wcall_fn (k92 _ _ _) ?_ ?_ ?_; (next => simp [rfyL, rfy, hget, ints, take_rfy]); (next => simp [plainL, plain, plainR]))
    | omega)
  exact rfl
set_option maxHeartbeats 8000000 in
theorem k148 {H : List Blk} {id : Nat} {o n hn : Bool} {ht0 : List Int} (r : Bool × List Int) (hg : H[id]? = some (.cells o n 1 [[ints hn ht0]])) :
    ACall Try.prog 148 ([] ++ [ints r.1 r.2] ++ [.loc id 0 0]) H fun v H' => v = bl (((r.2.length : Nat) : Int) != ((ht0.length : Nat) : Int)) ∧ H' = H := by
  refine envOf_all e148 ?_
  have hg2 := hg
  unfold c148
  repeat' (first
    | with_reducible first
      | refine T_seq ?_
      | refine T_reg ?_
      | refine T_skip ?_
      | refine T_exit ?_
      | refine T_block ?_
      | refine T_cond_t rfl ?_
      | refine T_cond_f rfl ?_
      | ((first | refine T_cond rfl (fun hc => ?_) (fun hc => ?_) | refine wguard_split (fun hc => ?_) (fun hc => ?_)) <;> have hd := hc <;> (try simp (disch := omega) only [wrapI] at hd) <;> have hs := hd <;> (try simp only [Bool.not_eq_true', Bool.not_eq_false', Bool.and_eq_true, Bool.and_eq_false_iff, Bool.or_eq_true, Bool.or_eq_false_iff, decide_eq_true_eq, decide_eq_false_iff_not, beq_iff_eq, bne_iff_ne, beq_eq_false_iff_ne, bne_eq_false_iff_eq, Bool.not_true, Bool.not_false, gt_iff_lt, ge_iff_le, Int.not_lt, Int.not_le, ne_eq, Decidable.not_not] at hd) <;> (try simp at hs))
      | refine T_ret ?_
      | refine leave_of (.inr rfl) _ rfl ?_
      | refine leave_of (.inl rfl) _ rfl ?_
      | refine leaveA_of (.inr rfl) _ rfl ?_
      | refine leaveA_of (.inl rfl) _ rfl ?_
      | refine wif_intro ?_ (fun hc => ?_)
      | refine And.intro ?_ ?_
      | intro hc
    | simp (maxSteps := 4000000) only [wops_nil, wops_cons, wstep_none, wrun_mv, wrun_bin, wrun_load, wrun_len, get_mk, wop, aop, ev, look, put_some, writes, ores_some, ores_map, ores_bind, binV, thenK, intV, lenOf, value, cut, hget, mkAgg, tupOf, List.map_cons, List.map_nil, List.length_cons, List.length_nil, List.take_succ_cons, List.take_nil, List.drop_zero, List.cons_append, List.nil_append, List.append_nil, List.replicate_zero, List.getD_cons_zero, List.zipIdx_cons, List.zipIdx_nil, List.length_map, Option.pure_def, Option.bind_eq_bind, Option.getD_some, Option.map_some, if_true, if_false, Nat.reduceEqDiff, Nat.reduceAdd, Nat.zero_add, Nat.zero_ne_one, reduceCtorEq, Bool.false_eq_true, eq_self, *]
    | simp (disch := omega) only [getD_ints, wrapI]
    | omega)
  all_goals first | exact ⟨rfl, rfl⟩
/-- the error of terms and heights -/
def checkF (rows : List (Bool × List Int)) (ht0 : List Int) : Int :=
  if ¬(1 ≤ ht0.length ∧ ht0.length ≤ 20) then 10 else if ¬(1 ≤ rows.length ∧ rows.length ≤ 2) then 10
  else if rows.any (fun r => ((r.2.length : Nat) : Int) != ((ht0.length : Nat) : Int)) = true then 10 else if rows.any (fun r => r.2.any (outB 100)) = true then 2 else if ht0.any (outB 5000) = true then 2 else 0
set_option maxHeartbeats 8000000 in
theorem k135n {b hn : Bool} {n : Nat} {ht0 : List Int} (hl : ht0.length < 1000000) : Fn Try.prog 135 [.sl b n [], ints hn ht0] (i64 10) [] := by
  refine fn_of e135 ?_
  by_cases h1 : ¬(1 ≤ ht0.length ∧ ht0.length ≤ 20)
  · unfold c135
    repeat' (first
      | with_reducible first
        | refine T_seq ?_
        | refine T_reg ?_
        | refine T_skip ?_
        | refine T_exit ?_
        | refine T_block ?_
        | refine T_cond_t rfl ?_
        | refine T_cond_f rfl ?_
        | (show wcall _ false (.lit (.func (.func 92) _ _)) _ _ _ _; refine wcall_fn (k92 _ _ _) rfl (by simp [plainL, plain]) ?_)
        | ((first | refine T_cond rfl (fun hc => ?_) (fun hc => ?_) | refine wguard_split (fun hc => ?_) (fun hc => ?_)) <;> have hd := hc <;> (try simp (disch := omega) only [wrapI] at hd) <;> have hs := hd <;> (try simp only [Bool.not_eq_true', Bool.not_eq_false', Bool.and_eq_true, Bool.and_eq_false_iff, decide_eq_true_eq, decide_eq_false_iff_not, Bool.not_false, Int.not_le] at hd) <;> (try simp at hs))
        | refine T_ret ?_
        | refine leave_of (.inr rfl) _ rfl ?_
        | refine leave_of (.inl rfl) _ rfl ?_
        | refine leaveA_of (.inr rfl) _ rfl ?_
        | refine leaveA_of (.inl rfl) _ rfl ?_
        | refine wif_intro ?_ (fun hc => ?_)
        | refine And.intro ?_ ?_
        | intro hc
      | simp (maxSteps := 4000000) only [wops_nil, wops_cons, wstep_none, wstep_some, wguard_ff, wguard_tf, wrun_call, wrun_mv, wrun_pick, wrun_not, wrun_load, wrun_len, wrun_box, get_mk, wop, aop, ev, look, put_some, writes, ores_some, ores_map, ores_bind, thenK, boolV, intV, lenOf, value, cut, hget, AV.parts, isOne, toLits, mkAgg, tupOf, List.map_cons, List.map_nil, List.length_cons, List.length_nil, List.getElem?_cons_zero, List.set_cons_zero, List.take_succ_cons, List.take_nil, List.drop_zero, List.nil_append, List.append_nil, List.replicate_zero, List.replicate_succ, List.getD_cons_zero, List.zipIdx_cons, List.zipIdx_nil, List.all_cons, List.all_nil, List.length_map, Option.pure_def, Option.bind_eq_bind, Option.getD_some, Option.map_some, if_true, if_false, Nat.reduceEqDiff, Nat.reduceAdd, Nat.add_zero, Nat.zero_add, Nat.zero_ne_one, reduceCtorEq, Bool.not_true, Bool.not_false, Bool.and_true, Bool.false_eq_true, eq_self, true_and, and_self, decide_true, freeze, lidsL, lids, List.flatMap_cons, List.flatMap_nil, List.all_cons, ren, *]
      | simp (disch := omega) only [getD_ints, wrapI]
      | (with_reducible show wcall _ false (.lit (.func (.func 92) _ _)) _ _ _ _; refine wcall_fn (k92 _ _ _) ?_ ?_ ?_; (next => simp [rfyL, rfy, hget, ints, take_rfy]); (next => simp [plainL, plain, plainR]))
      | omega)
    all_goals first | rfl
  · unfold c135
    repeat' (first
      | with_reducible first
        | refine T_seq ?_
        | refine T_reg ?_
        | refine T_skip ?_
        | refine T_exit ?_
        | refine T_block ?_
        | refine T_cond_t rfl ?_
        | refine T_cond_f rfl ?_
        | (show wcall _ false (.lit (.func (.func 92) _ _)) _ _ _ _; refine wcall_fn (k92 _ _ _) rfl (by simp [plainL, plain]) ?_)
        | ((first | refine T_cond rfl (fun hc => ?_) (fun hc => ?_) | refine wguard_split (fun hc => ?_) (fun hc => ?_)) <;> have hd := hc <;> (try simp (disch := omega) only [wrapI] at hd) <;> have hs := hd <;> (try simp only [Bool.not_eq_true', Bool.not_eq_false', Bool.and_eq_true, Bool.and_eq_false_iff, decide_eq_true_eq, decide_eq_false_iff_not, Bool.not_false, Int.not_le] at hd) <;> (try simp at hs))
        | refine T_ret ?_
        | refine leave_of (.inr rfl) _ rfl ?_
        | refine leave_of (.inl rfl) _ rfl ?_
        | refine leaveA_of (.inr rfl) _ rfl ?_
        | refine leaveA_of (.inl rfl) _ rfl ?_
        | refine wif_intro ?_ (fun hc => ?_)
        | refine And.intro ?_ ?_
        | intro hc
      | simp (maxSteps := 4000000) only [wops_nil, wops_cons, wstep_none, wstep_some, wguard_ff, wguard_tf, wrun_call, wrun_mv, wrun_pick, wrun_not, wrun_load, wrun_len, wrun_box, get_mk, wop, aop, ev, look, put_some, writes, ores_some, ores_map, ores_bind, thenK, boolV, intV, lenOf, value, cut, hget, AV.parts, isOne, toLits, mkAgg, tupOf, List.map_cons, List.map_nil, List.length_cons, List.length_nil, List.getElem?_cons_zero, List.set_cons_zero, List.take_succ_cons, List.take_nil, List.drop_zero, List.nil_append, List.append_nil, List.replicate_zero, List.replicate_succ, List.getD_cons_zero, List.zipIdx_cons, List.zipIdx_nil, List.all_cons, List.all_nil, List.length_map, Option.pure_def, Option.bind_eq_bind, Option.getD_some, Option.map_some, if_true, if_false, Nat.reduceEqDiff, Nat.reduceAdd, Nat.add_zero, Nat.zero_add, Nat.zero_ne_one, reduceCtorEq, Bool.not_true, Bool.not_false, Bool.and_true, Bool.false_eq_true, eq_self, true_and, and_self, decide_true, freeze, lidsL, lids, List.flatMap_cons, List.flatMap_nil, List.all_cons, ren, *]
      | simp (disch := omega) only [getD_ints, wrapI]
      | (with_reducible show wcall _ false (.lit (.func (.func 92) _ _)) _ _ _ _; refine wcall_fn (k92 _ _ _) ?_ ?_ ?_; (next => simp [rfyL, rfy, hget, ints, take_rfy]); (next => simp [plainL, plain, plainR]))
      | omega)
    all_goals first | rfl
set_option maxHeartbeats 8000000 in
theorem k135 {nil hn : Bool} {rows : List (Bool × List Int)} {ht0 : List Int} (hl : rows.length < 1000000) (hr : ∀ t, t < rows.length → (rowN rows t).2.length < 1000000) (hlh : ht0.length < 1000000) :
    Fn Try.prog 135 [.sl nil 1 (rows.map fun r => [ints r.1 r.2]), ints hn ht0] (i64 (checkF rows ht0)) [] := by
  refine fn_of e135 ?_
  have hl2 : (rows.map fun r => [ints r.1 r.2]).length = rows.length := by simp
  have h99 := k99c (first := []) (cap := [.loc 0 0 0]) (gf := 148) (H := [.cells true false 1 [[ints hn ht0]]]) nil rows (by omega) (fun r => k148 r rfl)
  have h90 := k90g k150 hn ht0 (by omega)
  unfold checkF
  by_cases h1 : ¬(1 ≤ ht0.length ∧ ht0.length ≤ 20)
  · rw [if_pos h1]
    clear h99 hr
    unfold c135
    repeat' (first
      | with_reducible first
        | refine T_seq ?_
        | refine T_reg ?_
        | refine T_skip ?_
        | refine T_exit ?_
        | refine T_block ?_
        | refine T_cond_t rfl ?_
        | refine T_cond_f rfl ?_
        | (show wcall _ false (.lit (.func (.func 92) _ _)) _ _ _ _; refine wcall_fn (k92 _ _ _) rfl (by simp [plainL, plain]) ?_)
        | ((first | refine T_cond rfl (fun hc => ?_) (fun hc => ?_) | refine wguard_split (fun hc => ?_) (fun hc => ?_)) <;> have hd := hc <;> (try simp (disch := omega) only [wrapI] at hd) <;> have hs := hd <;> (try simp only [Bool.not_eq_true', Bool.not_eq_false', Bool.and_eq_true, Bool.and_eq_false_iff, decide_eq_true_eq, decide_eq_false_iff_not, Bool.not_false, Int.not_le] at hd) <;> (try simp at hs))
        | refine T_ret ?_
        | refine leave_of (.inr rfl) _ rfl ?_
        | refine leave_of (.inl rfl) _ rfl ?_
        | refine leaveA_of (.inr rfl) _ rfl ?_
        | refine leaveA_of (.inl rfl) _ rfl ?_
        | refine wif_intro ?_ (fun hc => ?_)
        | refine And.intro ?_ ?_
        | intro hc
      | simp (maxSteps := 4000000) only [wops_nil, wops_cons, wstep_none, wstep_some, wguard_ff, wguard_tf, wrun_call, wrun_mv, wrun_pick, wrun_not, wrun_load, wrun_len, wrun_mkf, wrun_box, get_mk, wop, aop, ev, look, put_some, writes, ores_some, ores_map, ores_bind, thenK, boolV, intV, lenOf, value, cut, hget, AV.parts, isOne, toLits, mkAgg, tupOf, List.map_cons, List.map_nil, List.length_cons, List.length_nil, List.getElem?_cons_zero, List.set_cons_zero, List.take_succ_cons, List.take_nil, List.drop_zero, List.nil_append, List.append_nil, List.replicate_zero, List.replicate_succ, List.getD_cons_zero, List.zipIdx_cons, List.zipIdx_nil, List.all_cons, List.all_nil, List.length_map, Option.pure_def, Option.bind_eq_bind, Option.getD_some, Option.map_some, if_true, if_false, Nat.reduceEqDiff, Nat.reduceAdd, Nat.add_zero, Nat.zero_add, Nat.zero_ne_one, reduceCtorEq, Bool.not_true, Bool.not_false, Bool.and_true, Bool.false_eq_true, eq_self, true_and, and_self, decide_true, freeze, lidsL, lids, List.flatMap_cons, List.flatMap_nil, List.all_cons, ren, *]
      | simp (disch := omega) only [getD_ints, wrapI]
      | (with_reducible show wcall _ false (.lit (.func (.func 92) _ _)) _ _ _ _; refine wcall_fn (k92 _ _ _) ?_ ?_ ?_; (next => simp [rfyL, rfy, hget, ints, take_rfy, renR_rws]); (next => simp [plainL, plain, plainR, renR_rws]))
      | omega)
    all_goals first | rfl
  rw [if_neg h1]
  by_cases h2 : ¬(1 ≤ rows.length ∧ rows.length ≤ 2)
  · rw [if_pos h2]
    clear h99 hr
    unfold c135
    repeat' (first
      | with_reducible first
        | refine T_seq ?_
        | refine T_reg ?_
        | refine T_skip ?_
        | refine T_exit ?_
        | refine T_block ?_
        | refine T_cond_t rfl ?_
        | refine T_cond_f rfl ?_
        | (show wcall _ false (.lit (.func (.func 92) _ _)) _ _ _ _; refine wcall_fn (k92 _ _ _) rfl (by simp [plainL, plain]) ?_)
        | ((first | refine T_cond rfl (fun hc => ?_) (fun hc => ?_) | refine wguard_split (fun hc => ?_) (fun hc => ?_)) <;> have hd := hc <;> (try simp (disch := omega) only [wrapI] at hd) <;> have hs := hd <;> (try simp only [Bool.not_eq_true', Bool.not_eq_false', Bool.and_eq_true, Bool.and_eq_false_iff, decide_eq_true_eq, decide_eq_false_iff_not, Bool.not_false, Int.not_le] at hd) <;> (try simp at hs))
        | refine T_ret ?_
        | refine leave_of (.inr rfl) _ rfl ?_
        | refine leave_of (.inl rfl) _ rfl ?_
        | refine leaveA_of (.inr rfl) _ rfl ?_
        | refine leaveA_of (.inl rfl) _ rfl ?_
        | refine wif_intro ?_ (fun hc => ?_)
        | refine And.intro ?_ ?_
        | intro hc
      | simp (maxSteps := 4000000) only [wops_nil, wops_cons, wstep_none, wstep_some, wguard_ff, wguard_tf, wrun_call, wrun_mv, wrun_pick, wrun_not, wrun_load, wrun_len, wrun_mkf, wrun_box, get_mk, wop, aop, ev, look, put_some, writes, ores_some, ores_map, ores_bind, thenK, boolV, intV, lenOf, value, cut, hget, AV.parts, isOne, toLits, mkAgg, tupOf, List.map_cons, List.map_nil, List.length_cons, List.length_nil, List.getElem?_cons_zero, List.set_cons_zero, List.take_succ_cons, List.take_nil, List.drop_zero, List.nil_append, List.append_nil, List.replicate_zero, List.replicate_succ, List.getD_cons_zero, List.zipIdx_cons, List.zipIdx_nil, List.all_cons, List.all_nil, List.length_map, Option.pure_def, Option.bind_eq_bind, Option.getD_some, Option.map_some, if_true, if_false, Nat.reduceEqDiff, Nat.reduceAdd, Nat.add_zero, Nat.zero_add, Nat.zero_ne_one, reduceCtorEq, Bool.not_true, Bool.not_false, Bool.and_true, Bool.false_eq_true, eq_self, true_and, and_self, decide_true, freeze, lidsL, lids, List.flatMap_cons, List.flatMap_nil, List.all_cons, ren, *]
      | simp (disch := omega) only [getD_ints, wrapI]
      | (with_reducible show wcall _ false (.lit (.func (.func 92) _ _)) _ _ _ _; refine wcall_fn (k92 _ _ _) ?_ ?_ ?_; (next => simp [rfyL, rfy, hget, ints, take_rfy, renR_rws]); (next => simp [plainL, plain, plainR, renR_rws]))
      | omega)
    all_goals first | rfl
  rw [if_neg h2]
  by_cases h4 : rows.any (fun r => ((r.2.length : Nat) : Int) != ((ht0.length : Nat) : Int)) = true
  · rw [if_pos h4]
    rw [h4] at h99
    replace h99 := And.intro h99 trivial
    clear hr
    unfold c135
    repeat' (first
      | with_reducible first
        | refine T_seq ?_
        | refine T_reg ?_
        | refine T_skip ?_
        | refine T_exit ?_
        | refine T_block ?_
        | refine T_cond_t rfl ?_
        | refine T_cond_f rfl ?_
        | (show wcall _ false (.lit (.func (.func 92) _ _)) _ _ _ _; refine wcall_fn (k92 _ _ _) rfl (by simp [plainL, plain]) ?_)
        | ((first | refine T_cond rfl (fun hc => ?_) (fun hc => ?_) | refine wguard_split (fun hc => ?_) (fun hc => ?_)) <;> have hd := hc <;> (try simp (disch := omega) only [wrapI] at hd) <;> have hs := hd <;> (try simp only [Bool.not_eq_true', Bool.not_eq_false', Bool.and_eq_true, Bool.and_eq_false_iff, decide_eq_true_eq, decide_eq_false_iff_not, Bool.not_false, Int.not_le] at hd) <;> (try simp at hs))
        | refine T_ret ?_
        | refine leave_of (.inr rfl) _ rfl ?_
        | refine leave_of (.inl rfl) _ rfl ?_
        | refine leaveA_of (.inr rfl) _ rfl ?_
        | refine leaveA_of (.inl rfl) _ rfl ?_
        | refine wif_intro ?_ (fun hc => ?_)
        | refine And.intro ?_ ?_
        | intro hc
      | simp (maxSteps := 4000000) only [wops_nil, wops_cons, wstep_none, wstep_some, wguard_ff, wguard_tf, wrun_call, wrun_mv, wrun_pick, wrun_not, wrun_load, wrun_len, wrun_mkf, wrun_box, get_mk, wop, aop, ev, look, put_some, writes, ores_some, ores_map, ores_bind, thenK, boolV, intV, lenOf, value, cut, hget, AV.parts, isOne, toLits, mkAgg, tupOf, List.map_cons, List.map_nil, List.length_cons, List.length_nil, List.getElem?_cons_zero, List.set_cons_zero, List.take_succ_cons, List.take_nil, List.drop_zero, List.nil_append, List.append_nil, List.replicate_zero, List.replicate_succ, List.getD_cons_zero, List.zipIdx_cons, List.zipIdx_nil, List.all_cons, List.all_nil, List.length_map, Option.pure_def, Option.bind_eq_bind, Option.getD_some, Option.map_some, if_true, if_false, Nat.reduceEqDiff, Nat.reduceAdd, Nat.add_zero, Nat.zero_add, Nat.zero_ne_one, reduceCtorEq, Bool.not_true, Bool.not_false, Bool.and_true, Bool.false_eq_true, eq_self, true_and, and_self, decide_true, freeze, lidsL, lids, List.flatMap_cons, List.flatMap_nil, List.all_cons, ren, *]
      | simp (disch := omega) only [getD_ints, wrapI]
      | (with_reducible show wcall _ false (.lit (.func (.func 92) _ _)) _ _ _ _; refine wcall_fn (k92 _ _ _) ?_ ?_ ?_; (next => simp [rfyL, rfy, hget, ints, take_rfy, renR_rws]); (next => simp [plainL, plain, plainR, renR_rws]))
      | omega)
    refine wcall_raw (h99.1.mono ?_)
    rintro r H' ⟨rfl, rfl⟩
    clear h99
    repeat' (first
      | with_reducible first
        | refine T_seq ?_
        | refine T_reg ?_
        | refine T_skip ?_
        | refine T_exit ?_
        | refine T_block ?_
        | refine T_cond_t rfl ?_
        | refine T_cond_f rfl ?_
        | ((first | refine T_cond rfl (fun hc => ?_) (fun hc => ?_) | refine wguard_split (fun hc => ?_) (fun hc => ?_)) <;> have hd := hc <;> (try simp (disch := omega) only [wrapI] at hd) <;> have hs := hd <;> (try simp only [Bool.not_eq_true', Bool.not_eq_false', Bool.and_eq_true, Bool.and_eq_false_iff, Bool.or_eq_true, Bool.or_eq_false_iff, decide_eq_true_eq, decide_eq_false_iff_not, beq_iff_eq, bne_iff_ne, beq_eq_false_iff_ne, bne_eq_false_iff_eq, Bool.not_true, Bool.not_false, gt_iff_lt, ge_iff_le, Int.not_lt, Int.not_le, ne_eq, Decidable.not_not] at hd) <;> (try simp at hs))
        | refine T_ret ?_
        | refine leave_of (.inr rfl) _ rfl ?_
        | refine leave_of (.inl rfl) _ rfl ?_
        | refine leaveA_of (.inr rfl) _ rfl ?_
        | refine leaveA_of (.inl rfl) _ rfl ?_
        | refine wif_intro ?_ (fun hc => ?_)
        | refine And.intro ?_ ?_
        | intro hc
      | simp (maxSteps := 4000000) only [wops_nil, wops_cons, wstep_none, wrun_mv, wrun_pick, get_mk, wop, aop, ev, look, put_some, writes, ores_some, thenK, tupOf, List.length_cons, List.length_nil, List.append_nil, List.replicate_zero, if_true, if_false, Nat.reduceEqDiff, Nat.zero_add, reduceCtorEq, Bool.false_eq_true, eq_self, ren, *]
      | simp (disch := omega) only [getD_ints, wrapI]
      | omega)
    all_goals first | rfl
  rw [if_neg h4]
  simp only [Bool.not_eq_true] at h4
  rw [h4] at h99
  replace h99 := And.intro h99 trivial
  replace h90 := And.intro h90 trivial
  replace hr := And.intro hr trivial
  unfold c135
  repeat' (first
    | with_reducible first
      | refine T_seq ?_
      | refine T_reg ?_
      | refine T_skip ?_
      | refine T_exit ?_
      | refine T_block ?_
      | refine T_cond_t rfl ?_
      | refine T_cond_f rfl ?_
      | (show wcall _ false (.lit (.func (.func 92) _ _)) _ _ _ _; refine wcall_fn (k92 _ _ _) rfl (by simp [plainL, plain]) ?_)
      | ((first | refine T_cond rfl (fun hc => ?_) (fun hc => ?_) | refine wguard_split (fun hc => ?_) (fun hc => ?_)) <;> have hd := hc <;> (try simp (disch := omega) only [wrapI] at hd) <;> have hs := hd <;> (try simp only [Bool.not_eq_true', Bool.not_eq_false', Bool.and_eq_true, Bool.and_eq_false_iff, decide_eq_true_eq, decide_eq_false_iff_not, Bool.not_false, Int.not_le] at hd) <;> (try simp at hs))
      | refine T_ret ?_
      | refine leave_of (.inr rfl) _ rfl ?_
      | refine leave_of (.inl rfl) _ rfl ?_
      | refine leaveA_of (.inr rfl) _ rfl ?_
      | refine leaveA_of (.inl rfl) _ rfl ?_
      | refine wif_intro ?_ (fun hc => ?_)
      | refine And.intro ?_ ?_
      | intro hc
    | simp (maxSteps := 4000000) only [wops_nil, wops_cons, wstep_none, wstep_some, wguard_ff, wguard_tf, wrun_call, wrun_mv, wrun_pick, wrun_not, wrun_load, wrun_len, wrun_mkf, wrun_box, get_mk, wop, aop, ev, look, put_some, writes, ores_some, ores_map, ores_bind, thenK, boolV, intV, lenOf, value, cut, hget, AV.parts, isOne, toLits, mkAgg, tupOf, List.map_cons, List.map_nil, List.length_cons, List.length_nil, List.getElem?_cons_zero, List.set_cons_zero, List.take_succ_cons, List.take_nil, List.drop_zero, List.nil_append, List.append_nil, List.replicate_zero, List.replicate_succ, List.getD_cons_zero, List.zipIdx_cons, List.zipIdx_nil, List.all_cons, List.all_nil, List.length_map, Option.pure_def, Option.bind_eq_bind, Option.getD_some, Option.map_some, if_true, if_false, Nat.reduceEqDiff, Nat.reduceAdd, Nat.add_zero, Nat.zero_add, Nat.zero_ne_one, reduceCtorEq, Bool.not_true, Bool.not_false, Bool.and_true, Bool.false_eq_true, eq_self, true_and, and_self, decide_true, freeze, lidsL, lids, List.flatMap_cons, List.flatMap_nil, List.all_cons, ren, *]
    | simp (disch := omega) only [getD_ints, wrapI]
    | (with_reducible show wcall _ false (.lit (.func (.func 92) _ _)) _ _ _ _; refine wcall_fn (k92 _ _ _) ?_ ?_ ?_; (next => simp [rfyL, rfy, hget, ints, take_rfy, renR_rws]); (next => simp [plainL, plain, plainR, renR_rws]))
    | omega)
  refine wcall_raw (h99.1.mono ?_)
  rintro r H' ⟨rfl, rfl⟩
  clear h99
  repeat' (first
    | with_reducible first
      | refine T_seq ?_
      | refine T_reg ?_
      | refine T_skip ?_
      | refine T_exit ?_
      | refine T_block ?_
      | refine T_cond_t rfl ?_
      | refine T_cond_f rfl ?_
      | ((first | refine T_cond rfl (fun hc => ?_) (fun hc => ?_) | refine wguard_split (fun hc => ?_) (fun hc => ?_)) <;> have hd := hc <;> (try simp (disch := omega) only [wrapI] at hd) <;> have hs := hd <;> (try simp only [Bool.not_eq_true', Bool.not_eq_false', Bool.and_eq_true, Bool.and_eq_false_iff, Bool.or_eq_true, Bool.or_eq_false_iff, decide_eq_true_eq, decide_eq_false_iff_not, beq_iff_eq, bne_iff_ne, beq_eq_false_iff_ne, bne_eq_false_iff_eq, Bool.not_true, Bool.not_false, gt_iff_lt, ge_iff_le, Int.not_lt, Int.not_le, ne_eq, Decidable.not_not] at hd) <;> (try simp at hs))
      | refine T_ret ?_
      | refine leave_of (.inr rfl) _ rfl ?_
      | refine leave_of (.inl rfl) _ rfl ?_
      | refine leaveA_of (.inr rfl) _ rfl ?_
      | refine leaveA_of (.inl rfl) _ rfl ?_
      | refine wif_intro ?_ (fun hc => ?_)
      | refine And.intro ?_ ?_
      | intro hc
    | simp (maxSteps := 4000000) only [wops_nil, wops_cons, wstep_none, wrun_mv, wrun_pick, wrun_len, wop, aop, ev, look, put_some, writes, ores_some, ores_map, ores_bind, thenK, intV, lenOf, hget, List.length_cons, List.length_nil, List.append_nil, List.replicate_zero, Option.pure_def, Option.bind_eq_bind, if_true, if_false, Nat.reduceEqDiff, Nat.zero_add, reduceCtorEq, Bool.false_eq_true, eq_self, *]
    | simp (disch := omega) only [getD_ints, wrapI]
    | omega)
  refine T_for [3, 22, 23, 24] (fun t => ⟨[(3, .loc 0 0 0), (22, .sl nil 1 (rows.map fun r => [ints r.1 r.2])), (23, i64 rows.length), (24, i64 t)], [.cells true false 1 [[ints hn ht0]]]⟩) rows.length (fun t => (rows.drop t).any (fun r => r.2.any (outB 100)) = rows.any (fun r => r.2.any (outB 100))) 0 ?_ rfl (Nat.zero_le _) ?_
  · simp [St.only, get_mk, look]
  intro t ht hI
  by_cases htn : t < rows.length
  · rw [drop_rowN htn, List.any_cons] at hI
    have h1 := rws_get htn
    have h90 := k90g k149 (rowN rows t).1 (rowN rows t).2 (by have := hr.1 t htn; omega)
    replace hI := And.intro hI trivial
    clear hr
    unfold c135l0
    repeat' (first
      | with_reducible first
        | refine T_seq ?_
        | refine T_reg ?_
        | refine T_skip ?_
        | refine T_exit ?_
        | refine T_block ?_
        | refine T_cond_t rfl ?_
        | refine T_cond_f rfl ?_
        | ((first | refine T_cond rfl (fun hc => ?_) (fun hc => ?_) | refine wguard_split (fun hc => ?_) (fun hc => ?_)) <;> have hd := hc <;> (try simp (disch := omega) only [wrapI] at hd) <;> have hs := hd <;> (try simp only [decide_eq_true_eq, decide_eq_false_iff_not, Int.not_lt] at hd) <;> (try simp at hs))
        | refine T_ret ?_
        | refine leave_of (.inr rfl) _ rfl ?_
        | refine leave_of (.inl rfl) _ rfl ?_
        | refine leaveA_of (.inr rfl) _ rfl ?_
        | refine leaveA_of (.inl rfl) _ rfl ?_
        | refine wif_intro ?_ (fun hc => ?_)
        | refine And.intro ?_ ?_
        | intro hc
      | simp (maxSteps := 4000000) only [wops_nil, wops_cons, wstep_none, wrun_call, wrun_mv, wrun_bin, wrun_load, wrun_iaddrS, wop, aop, ev, look, put_some, writes, ores_some, ores_ite_none, binV, thenK, blockK, value, cut, hget, toLits, mkAgg, List.map_cons, List.map_nil, List.length_cons, List.length_nil, List.getElem?_cons_zero, List.take_succ_cons, List.take_nil, List.drop_zero, List.append_nil, List.replicate_zero, List.getD_cons_zero, Option.getD_some, Option.map_some, if_true, if_false, Nat.reduceEqDiff, Nat.zero_add, reduceCtorEq, Bool.false_eq_true, eq_self, true_and, and_true, and_self, decide_true, Int.toNat_natCast, *]
      | simp (disch := omega) only [getD_ints, wrapI]
      | omega)
    refine wcall_rawfn h90 (by simp [plainL, plain]) ?_
    clear h90
    cases hb : (rowN rows t).2.any (outB 100) with
    | true =>
      rw [hb, Bool.true_or] at hI
      rw [← hI.1, if_pos rfl]
      clear hI
      repeat' (first
        | with_reducible first
          | refine T_seq ?_
          | refine T_reg ?_
          | refine T_skip ?_
          | refine T_exit ?_
          | refine T_block ?_
          | refine T_cond_t rfl ?_
          | refine T_cond_f rfl ?_
          | ((first | refine T_cond rfl (fun hc => ?_) (fun hc => ?_) | refine wguard_split (fun hc => ?_) (fun hc => ?_)) <;> have hd := hc <;> (try simp (disch := omega) only [wrapI] at hd) <;> have hs := hd <;> (try simp only [Bool.not_eq_true', Bool.not_eq_false', Bool.and_eq_true, Bool.and_eq_false_iff, Bool.or_eq_true, Bool.or_eq_false_iff, decide_eq_true_eq, decide_eq_false_iff_not, beq_iff_eq, bne_iff_ne, beq_eq_false_iff_ne, bne_eq_false_iff_eq, Bool.not_true, Bool.not_false, gt_iff_lt, ge_iff_le, Int.not_lt, Int.not_le, ne_eq, Decidable.not_not] at hd) <;> (try simp at hs))
          | refine T_ret ?_
          | refine leave_of (.inr rfl) _ rfl ?_
          | refine leave_of (.inl rfl) _ rfl ?_
          | refine leaveA_of (.inr rfl) _ rfl ?_
          | refine leaveA_of (.inl rfl) _ rfl ?_
          | refine wif_intro ?_ (fun hc => ?_)
          | refine And.intro ?_ ?_
          | intro hc
        | simp (maxSteps := 4000000) only [wops_nil, wops_cons, wstep_none, wrun_mv, get_mk, wop, aop, ev, look, put_some, writes, ores_some, thenK, blockK, tupOf, List.length_cons, List.length_nil, List.append_nil, List.replicate_zero, if_true, if_false, Nat.reduceEqDiff, Nat.zero_add, eq_self, ren, *]
        | simp (disch := omega) only [getD_ints, wrapI]
        | omega)
      all_goals first | rfl
    | false =>
      rw [hb, Bool.false_or] at hI
      repeat' (first
        | with_reducible first
          | refine T_seq ?_
          | refine T_reg ?_
          | refine T_skip ?_
          | refine T_exit ?_
          | refine T_block ?_
          | refine T_cond_t rfl ?_
          | refine T_cond_f rfl ?_
          | ((first | refine T_cond rfl (fun hc => ?_) (fun hc => ?_) | refine wguard_split (fun hc => ?_) (fun hc => ?_)) <;> have hd := hc <;> (try simp (disch := omega) only [wrapI] at hd) <;> have hs := hd <;> (try simp only [Bool.not_eq_true', Bool.not_eq_false', Bool.and_eq_true, Bool.and_eq_false_iff, Bool.or_eq_true, Bool.or_eq_false_iff, decide_eq_true_eq, decide_eq_false_iff_not, beq_iff_eq, bne_iff_ne, beq_eq_false_iff_ne, bne_eq_false_iff_eq, Bool.not_true, Bool.not_false, gt_iff_lt, ge_iff_le, Int.not_lt, Int.not_le, ne_eq, Decidable.not_not] at hd) <;> (try simp at hs))
          | refine T_ret ?_
          | refine leave_of (.inr rfl) _ rfl ?_
          | refine leave_of (.inl rfl) _ rfl ?_
          | refine leaveA_of (.inr rfl) _ rfl ?_
          | refine leaveA_of (.inl rfl) _ rfl ?_
          | refine wif_intro ?_ (fun hc => ?_)
          | refine And.intro ?_ ?_
          | intro hc
        | simp (maxSteps := 4000000) only [wops_nil, wops_cons, wstep_none, wrun_mv, wrun_bin, wop, aop, ev, look, put_some, writes, ores_some, binV, thenK, blockK, List.length_cons, List.length_nil, List.append_nil, List.replicate_zero, Option.map_some, if_true, if_false, Nat.reduceEqDiff, Nat.zero_add, reduceCtorEq, eq_self, true_and, *]
        | simp (disch := omega) only [wrapI]
        | omega)
      all_goals first | exact hI.1 | (simp [St.only, get_mk, look]; done)
  · rw [List.drop_of_length_le (by omega)] at hI
    rw [← hI]
    clear hI hr
    unfold c135l0
    repeat' (first
      | with_reducible first
        | refine T_seq ?_
        | refine T_reg ?_
        | refine T_skip ?_
        | refine T_exit ?_
        | refine T_block ?_
        | refine T_cond_t rfl ?_
        | refine T_cond_f rfl ?_
        | ((first | refine T_cond rfl (fun hc => ?_) (fun hc => ?_) | refine wguard_split (fun hc => ?_) (fun hc => ?_)) <;> have hd := hc <;> (try simp (disch := omega) only [wrapI] at hd) <;> have hs := hd <;> (try simp only [decide_eq_true_eq, decide_eq_false_iff_not, Int.not_lt] at hd) <;> (try simp at hs))
        | refine T_ret ?_
        | refine leave_of (.inr rfl) _ rfl ?_
        | refine leave_of (.inl rfl) _ rfl ?_
        | refine leaveA_of (.inr rfl) _ rfl ?_
        | refine leaveA_of (.inl rfl) _ rfl ?_
        | refine wif_intro ?_ (fun hc => ?_)
        | refine And.intro ?_ ?_
        | intro hc
      | simp (maxSteps := 4000000) only [wops_nil, wops_cons, wstep_none, wrun_call, wrun_mv, wrun_bin, wrun_load, wrun_iaddrS, wop, aop, ev, look, put_some, writes, ores_some, ores_none, ores_ite_none, ores_map, binV, thenK, blockK, value, cut, hget, toLits, mkAgg, List.map_cons, List.map_nil, List.length_cons, List.length_nil, List.getElem?_cons_zero, List.take_succ_cons, List.take_nil, List.drop_zero, List.append_nil, List.replicate_zero, List.getD_cons_zero, Option.getD_some, Option.map_some, if_true, if_false, Nat.reduceEqDiff, Nat.zero_add, reduceCtorEq, Bool.false_eq_true, eq_self, and_true, and_self, false_and, decide_true, *]
      | simp (disch := omega) only [getD_ints]
      | omega)
    refine wcall_rawfn h90.1 (by simp [plainL, plain]) ?_
    clear h90
    cases hb : ht0.any (outB 5000) with
    | true =>
      rw [if_neg (by simp), if_pos rfl]
      clear hb
      repeat' (first
        | with_reducible first
          | refine T_seq ?_
          | refine T_reg ?_
          | refine T_skip ?_
          | refine T_exit ?_
          | refine T_block ?_
          | refine T_cond_t rfl ?_
          | refine T_cond_f rfl ?_
          | ((first | refine T_cond rfl (fun hc => ?_) (fun hc => ?_) | refine wguard_split (fun hc => ?_) (fun hc => ?_)) <;> have hd := hc <;> (try simp (disch := omega) only [wrapI] at hd) <;> have hs := hd <;> (try simp only [Bool.not_eq_true', Bool.not_eq_false', Bool.and_eq_true, Bool.and_eq_false_iff, Bool.or_eq_true, Bool.or_eq_false_iff, decide_eq_true_eq, decide_eq_false_iff_not, beq_iff_eq, bne_iff_ne, beq_eq_false_iff_ne, bne_eq_false_iff_eq, Bool.not_true, Bool.not_false, gt_iff_lt, ge_iff_le, Int.not_lt, Int.not_le, ne_eq, Decidable.not_not] at hd) <;> (try simp at hs))
          | refine T_ret ?_
          | refine leave_of (.inr rfl) _ rfl ?_
          | refine leave_of (.inl rfl) _ rfl ?_
          | refine leaveA_of (.inr rfl) _ rfl ?_
          | refine leaveA_of (.inl rfl) _ rfl ?_
          | refine wif_intro ?_ (fun hc => ?_)
          | refine And.intro ?_ ?_
          | intro hc
        | simp (maxSteps := 4000000) only [wops_nil, wops_cons, wstep_none, wrun_mv, get_mk, wop, aop, ev, look, put_some, writes, ores_some, thenK, tupOf, List.length_cons, List.length_nil, List.append_nil, List.replicate_zero, if_true, if_false, Nat.reduceEqDiff, Nat.zero_add, eq_self, ren, *]
        | simp (disch := omega) only [getD_ints, wrapI]
        | omega)
      all_goals first | rfl
    | false =>
      rw [if_neg (by simp), if_neg (by simp)]
      clear hb
      repeat' (first
        | with_reducible first
          | refine T_seq ?_
          | refine T_reg ?_
          | refine T_skip ?_
          | refine T_exit ?_
          | refine T_block ?_
          | refine T_cond_t rfl ?_
          | refine T_cond_f rfl ?_
          | ((first | refine T_cond rfl (fun hc => ?_) (fun hc => ?_) | refine wguard_split (fun hc => ?_) (fun hc => ?_)) <;> have hd := hc <;> (try simp (disch := omega) only [wrapI] at hd) <;> have hs := hd <;> (try simp only [Bool.not_eq_true', Bool.not_eq_false', Bool.and_eq_true, Bool.and_eq_false_iff, Bool.or_eq_true, Bool.or_eq_false_iff, decide_eq_true_eq, decide_eq_false_iff_not, beq_iff_eq, bne_iff_ne, beq_eq_false_iff_ne, bne_eq_false_iff_eq, Bool.not_true, Bool.not_false, gt_iff_lt, ge_iff_le, Int.not_lt, Int.not_le, ne_eq, Decidable.not_not] at hd) <;> (try simp at hs))
          | refine T_ret ?_
          | refine leave_of (.inr rfl) _ rfl ?_
          | refine leave_of (.inl rfl) _ rfl ?_
          | refine leaveA_of (.inr rfl) _ rfl ?_
          | refine leaveA_of (.inl rfl) _ rfl ?_
          | refine wif_intro ?_ (fun hc => ?_)
          | refine And.intro ?_ ?_
          | intro hc
        | simp (maxSteps := 4000000) only [wops_nil, wops_cons, wstep_none, wrun_mv, get_mk, wop, aop, ev, look, put_some, writes, ores_some, thenK, tupOf, List.length_cons, List.length_nil, List.append_nil, List.replicate_zero, if_true, if_false, Nat.reduceEqDiff, Nat.zero_add, eq_self, ren, *]
        | simp (disch := omega) only [getD_ints, wrapI]
        | omega)
      all_goals first | rfl
set_option maxHeartbeats 8000000 in
theorem k80 {nil hn : Bool} {rows : List (Bool × List Int)} {ht0 : List Int} (hl : rows.length < 1000000) (hlh : ht0.length < 1000000) :
    Fn Try.prog 80 [.sl nil 1 (rows.map fun r => [ints r.1 r.2]), ints hn ht0] (i64 (checkF rows ht0)) [] := by
  refine fn_of e80 ?_
  have hl2 : (rows.map fun r => [ints r.1 r.2]).length = rows.length := by simp
  unfold checkF
  by_cases h1 : ¬(1 ≤ ht0.length ∧ ht0.length ≤ 20)
  · rw [if_pos h1]
    unfold c80
    repeat' (first
      | with_reducible first
        | refine T_seq ?_
        | refine T_reg ?_
        | refine T_skip ?_
        | refine T_exit ?_
        | refine T_block ?_
        | refine T_cond_t rfl ?_
        | refine T_cond_f rfl ?_
        | (show wcall _ false (.lit (.func (.func 32) _ _)) _ _ _ _; refine wcall_fn (k32 _ _ _) rfl (by simp [plainL, plain]) ?_)
        | ((first | refine T_cond rfl (fun hc => ?_) (fun hc => ?_) | refine wguard_split (fun hc => ?_) (fun hc => ?_)) <;> have hd := hc <;> (try simp (disch := omega) only [wrapI] at hd) <;> have hs := hd <;> (try simp only [Bool.not_eq_true', Bool.not_eq_false', Bool.and_eq_true, Bool.and_eq_false_iff, decide_eq_true_eq, decide_eq_false_iff_not, Bool.not_false, Int.not_le] at hd) <;> (try simp at hs))
        | refine T_ret ?_
        | refine leave_of (.inr rfl) _ rfl ?_
        | refine leave_of (.inl rfl) _ rfl ?_
        | refine leaveA_of (.inr rfl) _ rfl ?_
        | refine leaveA_of (.inl rfl) _ rfl ?_
        | refine wif_intro ?_ (fun hc => ?_)
        | refine And.intro ?_ ?_
        | intro hc
      | simp (maxSteps := 4000000) only [wops_nil, wops_cons, wstep_none, wstep_some, wguard_ff, wguard_tf, wrun_call, wrun_mv, wrun_pick, wrun_not, wrun_len, get_mk, wop, aop, ev, look, put_some, writes, ores_some, ores_map, ores_bind, thenK, boolV, intV, lenOf, hget, tupOf, List.map_cons, List.map_nil, List.length_nil, List.append_nil, List.replicate_zero, List.zipIdx_cons, List.zipIdx_nil, List.length_map, Option.pure_def, Option.bind_eq_bind, if_true, if_false, Nat.reduceEqDiff, Nat.reduceAdd, Nat.zero_add, Nat.zero_ne_one, reduceCtorEq, Bool.not_true, Bool.not_false, Bool.and_true, Bool.false_eq_true, eq_self, decide_true, freeze, lidsL, lids, List.flatMap_cons, List.flatMap_nil, ren, *]
      | simp (disch := omega) only [getD_ints, wrapI]
      | (with_reducible show wcall _ false (.lit (.func (.func 32) _ _)) _ _ _ _; refine wcall_fn (k32 _ _ _) ?_ ?_ ?_; (next => simp [rfyL, rfy, hget, ints, take_rfy, renR_rws]); (next => simp [plainL, plain, plainR, renR_rws]))
      | omega)
    all_goals first | rfl
  rw [if_neg h1]
  by_cases h2 : ¬(1 ≤ rows.length ∧ rows.length ≤ 2)
  · rw [if_pos h2]
    unfold c80
    repeat' (first
      | with_reducible first
        | refine T_seq ?_
        | refine T_reg ?_
        | refine T_skip ?_
        | refine T_exit ?_
        | refine T_block ?_
        | refine T_cond_t rfl ?_
        | refine T_cond_f rfl ?_
        | (show wcall _ false (.lit (.func (.func 32) _ _)) _ _ _ _; refine wcall_fn (k32 _ _ _) rfl (by simp [plainL, plain]) ?_)
        | ((first | refine T_cond rfl (fun hc => ?_) (fun hc => ?_) | refine wguard_split (fun hc => ?_) (fun hc => ?_)) <;> have hd := hc <;> (try simp (disch := omega) only [wrapI] at hd) <;> have hs := hd <;> (try simp only [Bool.not_eq_true', Bool.not_eq_false', Bool.and_eq_true, Bool.and_eq_false_iff, decide_eq_true_eq, decide_eq_false_iff_not, Bool.not_false, Int.not_le] at hd) <;> (try simp at hs))
        | refine T_ret ?_
        | refine leave_of (.inr rfl) _ rfl ?_
        | refine leave_of (.inl rfl) _ rfl ?_
        | refine leaveA_of (.inr rfl) _ rfl ?_
        | refine leaveA_of (.inl rfl) _ rfl ?_
        | refine wif_intro ?_ (fun hc => ?_)
        | refine And.intro ?_ ?_
        | intro hc
      | simp (maxSteps := 4000000) only [wops_nil, wops_cons, wstep_none, wstep_some, wguard_ff, wguard_tf, wrun_call, wrun_mv, wrun_pick, wrun_not, wrun_len, get_mk, wop, aop, ev, look, put_some, writes, ores_some, ores_map, ores_bind, thenK, boolV, intV, lenOf, hget, tupOf, List.map_cons, List.map_nil, List.length_nil, List.append_nil, List.replicate_zero, List.zipIdx_cons, List.zipIdx_nil, List.length_map, Option.pure_def, Option.bind_eq_bind, if_true, if_false, Nat.reduceEqDiff, Nat.reduceAdd, Nat.zero_add, Nat.zero_ne_one, reduceCtorEq, Bool.not_true, Bool.not_false, Bool.and_true, Bool.false_eq_true, eq_self, decide_true, freeze, lidsL, lids, List.flatMap_cons, List.flatMap_nil, ren, *]
      | simp (disch := omega) only [getD_ints, wrapI]
      | (with_reducible show wcall _ false (.lit (.func (.func 32) _ _)) _ _ _ _; refine wcall_fn (k32 _ _ _) ?_ ?_ ?_; (next => simp [rfyL, rfy, hget, ints, take_rfy, renR_rws]); (next => simp [plainL, plain, plainR, renR_rws]))
      | omega)
    all_goals first | rfl
  rw [if_neg h2]
  unfold c80
  repeat' (first
    | with_reducible first
      | refine T_seq ?_
      | refine T_reg ?_
      | refine T_skip ?_
      | refine T_exit ?_
      | refine T_block ?_
      | refine T_cond_t rfl ?_
      | refine T_cond_f rfl ?_
      | (show wcall _ false (.lit (.func (.func 32) _ _)) _ _ _ _; refine wcall_fn (k32 _ _ _) rfl (by simp [plainL, plain]) ?_)
      | ((first | refine T_cond rfl (fun hc => ?_) (fun hc => ?_) | refine wguard_split (fun hc => ?_) (fun hc => ?_)) <;> have hd := hc <;> (try simp (disch := omega) only [wrapI] at hd) <;> have hs := hd <;> (try simp only [Bool.not_eq_true', Bool.not_eq_false', Bool.and_eq_true, Bool.and_eq_false_iff, decide_eq_true_eq, decide_eq_false_iff_not, Bool.not_false, Int.not_le] at hd) <;> (try simp at hs))
      | refine T_ret ?_
      | refine leave_of (.inr rfl) _ rfl ?_
      | refine leave_of (.inl rfl) _ rfl ?_
      | refine leaveA_of (.inr rfl) _ rfl ?_
      | refine leaveA_of (.inl rfl) _ rfl ?_
      | refine wif_intro ?_ (fun hc => ?_)
      | refine And.intro ?_ ?_
      | intro hc
    | simp (maxSteps := 4000000) only [wops_nil, wops_cons, wstep_none, wstep_some, wguard_ff, wguard_tf, wrun_call, wrun_mv, wrun_pick, wrun_not, wrun_len, get_mk, wop, aop, ev, look, put_some, writes, ores_some, ores_map, ores_bind, thenK, boolV, intV, lenOf, hget, tupOf, List.map_cons, List.map_nil, List.length_nil, List.append_nil, List.replicate_zero, List.zipIdx_cons, List.zipIdx_nil, List.length_map, Option.pure_def, Option.bind_eq_bind, if_true, if_false, Nat.reduceEqDiff, Nat.reduceAdd, Nat.zero_add, Nat.zero_ne_one, reduceCtorEq, Bool.not_true, Bool.not_false, Bool.and_true, Bool.false_eq_true, eq_self, decide_true, freeze, lidsL, lids, List.flatMap_cons, List.flatMap_nil, ren, *]
    | simp (disch := omega) only [getD_ints, wrapI]
    | (with_reducible show wcall _ false (.lit (.func (.func 32) _ _)) _ _ _ _; refine wcall_fn (k32 _ _ _) ?_ ?_ ?_; (next => simp [rfyL, rfy, hget, ints, take_rfy, renR_rws]); (next => simp [plainL, plain, plainR, renR_rws]))
    | omega)
  refine T_for [0, 1, 5] (fun t => ⟨[(0, .sl nil 1 (rows.map fun r => [ints r.1 r.2])), (1, ints hn ht0), (5, i64 t)], []⟩) rows.length (fun t => (rows.drop t).any (fun r => ((r.2.length : Nat) : Int) != ((ht0.length : Nat) : Int)) = rows.any (fun r => ((r.2.length : Nat) : Int) != ((ht0.length : Nat) : Int))) 0 ?_ rfl (Nat.zero_le _) ?_
  · simp [St.only, get_mk, look]
  intro t ht hI
  by_cases htn : t < rows.length
  · rw [drop_rowN htn, List.any_cons] at hI
    have h1 := rws_get htn
    cases hb : ((((rowN rows t).2.length : Nat) : Int) != ((ht0.length : Nat) : Int)) with
    | true =>
      rw [hb, Bool.true_or] at hI
      rw [← hI, if_pos rfl]
      clear hI
      unfold c80l0
      repeat' (first
        | with_reducible first
          | refine T_seq ?_
          | refine T_reg ?_
          | refine T_skip ?_
          | refine T_exit ?_
          | refine T_block ?_
          | refine T_cond_t rfl ?_
          | refine T_cond_f rfl ?_
          | ((first | refine T_cond rfl (fun hc => ?_) (fun hc => ?_) | refine wguard_split (fun hc => ?_) (fun hc => ?_)) <;> have hd := hc <;> (try simp (disch := omega) only [wrapI] at hd) <;> have hs := hd <;> (try simp only [decide_eq_true_eq, decide_eq_false_iff_not, Int.not_lt] at hd) <;> (try simp at hs))
          | refine T_ret ?_
          | refine leave_of (.inr rfl) _ rfl ?_
          | refine leave_of (.inl rfl) _ rfl ?_
          | refine leaveA_of (.inr rfl) _ rfl ?_
          | refine leaveA_of (.inl rfl) _ rfl ?_
          | refine wif_intro ?_ (fun hc => ?_)
          | refine And.intro ?_ ?_
          | intro hc
        | simp (maxSteps := 4000000) only [wops_nil, wops_cons, wstep_none, wrun_mv, wrun_bin, wrun_load, wrun_iaddrS, wrun_len, get_mk, wop, aop, ev, look, put_some, writes, ores_some, ores_ite_none, ores_map, ores_bind, binV, thenK, blockK, intV, lenOf, value, cut, hget, mkAgg, tupOf, List.length_cons, List.length_nil, List.take_succ_cons, List.take_nil, List.drop_zero, List.append_nil, List.replicate_zero, List.length_map, Option.pure_def, Option.bind_eq_bind, Option.map_some, if_true, if_false, Nat.reduceEqDiff, Nat.zero_add, Nat.zero_ne_one, reduceCtorEq, Bool.false_eq_true, eq_self, true_and, and_true, and_self, decide_true, ren, Int.toNat_natCast, *]
        | simp (disch := omega) only [getD_ints, wrapI]
        | omega)
      all_goals first | rfl
    | false =>
      rw [hb, Bool.false_or] at hI
      replace hI := And.intro hI trivial
      unfold c80l0
      repeat' (first
        | with_reducible first
          | refine T_seq ?_
          | refine T_reg ?_
          | refine T_skip ?_
          | refine T_exit ?_
          | refine T_block ?_
          | refine T_cond_t rfl ?_
          | refine T_cond_f rfl ?_
          | ((first | refine T_cond rfl (fun hc => ?_) (fun hc => ?_) | refine wguard_split (fun hc => ?_) (fun hc => ?_)) <;> have hd := hc <;> (try simp (disch := omega) only [wrapI] at hd) <;> have hs := hd <;> (try simp only [decide_eq_true_eq, decide_eq_false_iff_not, Int.not_lt] at hd) <;> (try simp at hs))
          | refine T_ret ?_
          | refine leave_of (.inr rfl) _ rfl ?_
          | refine leave_of (.inl rfl) _ rfl ?_
          | refine leaveA_of (.inr rfl) _ rfl ?_
          | refine leaveA_of (.inl rfl) _ rfl ?_
          | refine wif_intro ?_ (fun hc => ?_)
          | refine And.intro ?_ ?_
          | intro hc
        | simp (maxSteps := 4000000) only [wops_nil, wops_cons, wstep_none, wrun_mv, wrun_bin, wrun_load, wrun_iaddrS, wrun_len, wop, aop, ev, look, put_some, writes, ores_some, ores_ite_none, ores_map, ores_bind, binV, thenK, blockK, intV, lenOf, value, cut, hget, mkAgg, List.length_cons, List.length_nil, List.take_succ_cons, List.take_nil, List.drop_zero, List.append_nil, List.replicate_zero, List.length_map, Option.pure_def, Option.bind_eq_bind, Option.map_some, if_true, if_false, Nat.reduceEqDiff, Nat.zero_add, Nat.zero_ne_one, reduceCtorEq, Bool.false_eq_true, eq_self, true_and, and_true, and_self, decide_true, Int.toNat_natCast, *]
        | simp (disch := omega) only [wrapI]
        | omega)
      all_goals first | exact hI.1 | (simp [St.only, get_mk, look]; done)
  · rw [List.drop_of_length_le (by omega)] at hI
    replace hI : rows.any (fun r => ((r.2.length : Nat) : Int) != ((ht0.length : Nat) : Int)) = false := hI.symm
    rw [if_neg (by rw [hI]; simp)]
    have hrow : ∀ t, t < rows.length → (((rowN rows t).2.length : Nat) : Int) = ((ht0.length : Nat) : Int) := fun t ht => by
      have := any_rowN hI ht; simpa using this
    clear hI
    have hte : t = rows.length := by omega
    subst hte
    replace hrow := And.intro hrow trivial
    unfold c80l0
    repeat' (first
      | with_reducible first
        | refine T_seq ?_
        | refine T_reg ?_
        | refine T_skip ?_
        | refine T_exit ?_
        | refine T_block ?_
        | refine T_cond_t rfl ?_
        | refine T_cond_f rfl ?_
        | ((first | refine T_cond rfl (fun hc => ?_) (fun hc => ?_) | refine wguard_split (fun hc => ?_) (fun hc => ?_)) <;> have hd := hc <;> (try simp (disch := omega) only [wrapI] at hd) <;> have hs := hd <;> (try simp only [decide_eq_true_eq, decide_eq_false_iff_not, Int.not_lt] at hd) <;> (try simp at hs))
        | refine T_ret ?_
        | refine leave_of (.inr rfl) _ rfl ?_
        | refine leave_of (.inl rfl) _ rfl ?_
        | refine leaveA_of (.inr rfl) _ rfl ?_
        | refine leaveA_of (.inl rfl) _ rfl ?_
        | refine wif_intro ?_ (fun hc => ?_)
        | refine And.intro ?_ ?_
        | intro hc
      | simp (maxSteps := 4000000) only [wops_nil, wops_cons, wstep_none, wrun_mv, wrun_bin, wrun_len, wop, aop, ev, look, put_some, writes, ores_some, ores_map, ores_bind, binV, thenK, blockK, intV, lenOf, hget, List.length_nil, List.append_nil, List.replicate_zero, Option.pure_def, Option.bind_eq_bind, Option.map_some, if_true, if_false, Nat.reduceEqDiff, reduceCtorEq, eq_self, false_and, *]
      | simp (disch := omega) only [getD_ints, wrapI]
      | omega)
    refine T_for [0, 1, 6] (fun t => ⟨[(0, .sl nil 1 (rows.map fun r => [ints r.1 r.2])), (1, ints hn ht0), (6, i64 t)], []⟩) rows.length (fun t => (rows.drop t).any (fun r => r.2.any (outB 100)) = rows.any (fun r => r.2.any (outB 100))) 0 ?_ rfl (Nat.zero_le _) ?_
    · simp [St.only, get_mk, look]
    intro t ht hI
    by_cases htn : t < rows.length
    · rw [drop_rowN htn, List.any_cons] at hI
      have h1 := rws_get htn
      have he := hrow.1 t htn
      clear hrow
      generalize hA : rows.any (fun r => r.2.any (outB 100)) = A at *
      replace hI := And.intro hI trivial
      unfold c80l2
      repeat' (first
        | with_reducible first
          | refine T_seq ?_
          | refine T_reg ?_
          | refine T_skip ?_
          | refine T_exit ?_
          | refine T_block ?_
          | refine T_cond_t rfl ?_
          | refine T_cond_f rfl ?_
          | ((first | refine T_cond rfl (fun hc => ?_) (fun hc => ?_) | refine wguard_split (fun hc => ?_) (fun hc => ?_)) <;> have hd := hc <;> (try simp (disch := omega) only [wrapI] at hd) <;> have hs := hd <;> (try simp only [decide_eq_true_eq, decide_eq_false_iff_not, Int.not_lt] at hd) <;> (try simp at hs))
          | refine T_ret ?_
          | refine leave_of (.inr rfl) _ rfl ?_
          | refine leave_of (.inl rfl) _ rfl ?_
          | refine leaveA_of (.inr rfl) _ rfl ?_
          | refine leaveA_of (.inl rfl) _ rfl ?_
          | refine wif_intro ?_ (fun hc => ?_)
          | refine And.intro ?_ ?_
          | intro hc
        | simp (maxSteps := 4000000) only [wops_nil, wops_cons, wstep_none, wrun_mv, wrun_bin, wrun_len, wop, aop, ev, look, put_some, writes, ores_some, ores_map, ores_bind, binV, thenK, blockK, intV, lenOf, hget, List.length_nil, List.append_nil, List.replicate_zero, Option.pure_def, Option.bind_eq_bind, Option.map_some, if_true, if_false, Nat.reduceEqDiff, reduceCtorEq, eq_self, true_and, decide_true, *]
        | simp (disch := omega) only [getD_ints, wrapI]
        | omega)
      refine T_for [0, 1, 6, 7] (fun i => ⟨[(0, .sl nil 1 (rows.map fun r => [ints r.1 r.2])), (1, ints hn ht0), (6, i64 t), (7, i64 i)], []⟩) (rowN rows t).2.length (fun i => ((rowN rows t).2.drop i).any (outB 100) = (rowN rows t).2.any (outB 100)) 0 ?_ rfl (Nat.zero_le _) ?_
      · simp [St.only, get_mk, look]
      intro i hi hJ
      by_cases hin : i < (rowN rows t).2.length
      · have g1 : ((rowN rows t).2.map fun x => [i64 x]).getD i [] = [i64 ((rowN rows t).2.getD i 0)] := getD_ints hin
        rw [drop_getI hin, List.any_cons] at hJ
        have ho : outB 100 ((rowN rows t).2.getD i 0) = !(decide (-100 ≤ (rowN rows t).2.getD i 0) && decide ((rowN rows t).2.getD i 0 ≤ 100)) := rfl
        rw [ho] at hJ
        clear ho
        generalize (rowN rows t).2.getD i 0 = v at *
        have h32 := k32 v (-100) 100
        cases hb : (decide (-100 ≤ v) && decide (v ≤ 100)) with
        | true =>
          rw [hb] at h32 hJ
          rw [Bool.not_true, Bool.false_or] at hJ
          clear hb
          replace hJ := And.intro hJ trivial
          unfold c80l1
          repeat' (first
            | with_reducible first
              | refine T_seq ?_
              | refine T_reg ?_
              | refine T_skip ?_
              | refine T_exit ?_
              | refine T_block ?_
              | refine T_cond_t rfl ?_
              | refine T_cond_f rfl ?_
              | (show wcall _ false (.lit (.func (.func 32) _ _)) _ _ _ _; refine wcall_fn (h32) rfl (by simp [plainL, plain]) ?_)
              | ((first | refine T_cond rfl (fun hc => ?_) (fun hc => ?_) | refine wguard_split (fun hc => ?_) (fun hc => ?_)) <;> have hd := hc <;> (try simp (disch := omega) only [wrapI] at hd) <;> have hs := hd <;> (try simp only [decide_eq_true_eq, decide_eq_false_iff_not, Int.not_lt] at hd) <;> (try simp at hs))
              | refine T_ret ?_
              | refine leave_of (.inr rfl) _ rfl ?_
              | refine leave_of (.inl rfl) _ rfl ?_
              | refine leaveA_of (.inr rfl) _ rfl ?_
              | refine leaveA_of (.inl rfl) _ rfl ?_
              | refine wif_intro ?_ (fun hc => ?_)
              | refine And.intro ?_ ?_
              | intro hc
            | simp (maxSteps := 4000000) only [wops_nil, wops_cons, wstep_none, wrun_call, wrun_mv, wrun_bin, wrun_not, wrun_load, wrun_iaddrS, wrun_len, wop, aop, ev, look, put_some, writes, ores_some, ores_ite_none, ores_map, ores_bind, binV, thenK, blockK, boolV, intV, lenOf, value, cut, hget, mkAgg, List.map_cons, List.map_nil, List.length_cons, List.length_nil, List.take_succ_cons, List.take_nil, List.drop_zero, List.append_nil, List.replicate_zero, List.length_map, Option.pure_def, Option.bind_eq_bind, Option.map_some, if_true, if_false, Nat.reduceEqDiff, Nat.zero_add, Nat.zero_ne_one, reduceCtorEq, Bool.not_true, Bool.false_eq_true, eq_self, true_and, and_true, and_self, decide_true, Int.reduceNeg, freeze, lidsL, lids, List.flatMap_cons, List.flatMap_nil, ren, Int.toNat_natCast, *]
            | simp (disch := omega) only [wrapI]
            | (with_reducible show wcall _ false (.lit (.func (.func 32) _ _)) _ _ _ _; refine wcall_fn (h32) ?_ ?_ ?_; (next => simp [rfyL, rfy, hget, ints, take_rfy, Int.toNat_natCast]); (next => simp [plainL, plain, plainR, Int.toNat_natCast]))
            | omega)
          all_goals first | exact hJ.1 | (simp [St.only, get_mk, look]; done)
        | false =>
          rw [hb] at h32 hJ
          rw [Bool.not_false, Bool.true_or] at hJ
          rw [← hJ, Bool.true_or] at hI
          rw [← hI.1, if_pos rfl]
          clear hb hJ hI hA
          unfold c80l1
          repeat' (first
            | with_reducible first
              | refine T_seq ?_
              | refine T_reg ?_
              | refine T_skip ?_
              | refine T_exit ?_
              | refine T_block ?_
              | refine T_cond_t rfl ?_
              | refine T_cond_f rfl ?_
              | (show wcall _ false (.lit (.func (.func 32) _ _)) _ _ _ _; refine wcall_fn (h32) rfl (by simp [plainL, plain]) ?_)
              | ((first | refine T_cond rfl (fun hc => ?_) (fun hc => ?_) | refine wguard_split (fun hc => ?_) (fun hc => ?_)) <;> have hd := hc <;> (try simp (disch := omega) only [wrapI] at hd) <;> have hs := hd <;> (try simp only [decide_eq_true_eq, decide_eq_false_iff_not, Int.not_lt] at hd) <;> (try simp at hs))
              | refine T_ret ?_
              | refine leave_of (.inr rfl) _ rfl ?_
              | refine leave_of (.inl rfl) _ rfl ?_
              | refine leaveA_of (.inr rfl) _ rfl ?_
              | refine leaveA_of (.inl rfl) _ rfl ?_
              | refine wif_intro ?_ (fun hc => ?_)
              | refine And.intro ?_ ?_
              | intro hc
            | simp (maxSteps := 4000000) only [wops_nil, wops_cons, wstep_none, wrun_call, wrun_mv, wrun_bin, wrun_not, wrun_load, wrun_iaddrS, wrun_len, get_mk, wop, aop, ev, look, put_some, writes, ores_some, ores_ite_none, ores_map, ores_bind, binV, thenK, blockK, boolV, intV, lenOf, value, cut, hget, mkAgg, tupOf, List.map_cons, List.map_nil, List.length_cons, List.length_nil, List.take_succ_cons, List.take_nil, List.drop_zero, List.append_nil, List.replicate_zero, List.length_map, Option.pure_def, Option.bind_eq_bind, Option.map_some, if_true, if_false, Nat.reduceEqDiff, Nat.zero_add, Nat.zero_ne_one, reduceCtorEq, Bool.not_false, Bool.false_eq_true, eq_self, true_and, and_true, and_self, decide_true, Int.reduceNeg, freeze, lidsL, lids, List.flatMap_cons, List.flatMap_nil, ren, Int.toNat_natCast, *]
            | simp (disch := omega) only [wrapI]
            | (with_reducible show wcall _ false (.lit (.func (.func 32) _ _)) _ _ _ _; refine wcall_fn (h32) ?_ ?_ ?_; (next => simp [rfyL, rfy, hget, ints, take_rfy, Int.toNat_natCast]); (next => simp [plainL, plain, plainR, Int.toNat_natCast]))
            | omega)
          all_goals first | rfl
      · rw [List.drop_of_length_le (by omega)] at hJ
        replace hJ : (rowN rows t).2.any (outB 100) = false := hJ.symm
        rw [hJ, Bool.false_or] at hI
        clear hJ
        unfold c80l1
        repeat' (first
          | with_reducible first
            | refine T_seq ?_
            | refine T_reg ?_
            | refine T_skip ?_
            | refine T_exit ?_
            | refine T_block ?_
            | refine T_cond_t rfl ?_
            | refine T_cond_f rfl ?_
            | ((first | refine T_cond rfl (fun hc => ?_) (fun hc => ?_) | refine wguard_split (fun hc => ?_) (fun hc => ?_)) <;> have hd := hc <;> (try simp (disch := omega) only [wrapI] at hd) <;> have hs := hd <;> (try simp only [decide_eq_true_eq, decide_eq_false_iff_not, Int.not_lt] at hd) <;> (try simp at hs))
            | refine T_ret ?_
            | refine leave_of (.inr rfl) _ rfl ?_
            | refine leave_of (.inl rfl) _ rfl ?_
            | refine leaveA_of (.inr rfl) _ rfl ?_
            | refine leaveA_of (.inl rfl) _ rfl ?_
            | refine wif_intro ?_ (fun hc => ?_)
            | refine And.intro ?_ ?_
            | intro hc
          | simp (maxSteps := 4000000) only [wops_nil, wops_cons, wstep_none, wrun_call, wrun_mv, wrun_bin, wrun_load, wrun_iaddrS, wrun_len, wop, aop, ev, look, put_some, writes, ores_some, ores_none, ores_ite_none, ores_map, ores_bind, binV, thenK, blockK, intV, lenOf, value, cut, hget, mkAgg, List.map_cons, List.map_nil, List.length_cons, List.length_nil, List.take_succ_cons, List.take_nil, List.drop_zero, List.append_nil, List.replicate_zero, List.length_map, Option.pure_def, Option.bind_eq_bind, Option.map_some, if_true, if_false, Nat.reduceEqDiff, Nat.zero_add, Nat.zero_ne_one, reduceCtorEq, Bool.false_eq_true, eq_self, true_and, and_true, and_self, false_and, decide_true, Int.reduceNeg, Int.toNat_natCast, *]
          | simp (disch := omega) only [getD_ints, wrapI]
          | omega)
        all_goals first | (rw [hA]; exact hI.1) | exact hI.1 | (simp [St.only, get_mk, look]; done)
    · rw [List.drop_of_length_le (by omega)] at hI
      rw [← hI]
      clear hI hrow
      have hte : t = rows.length := by omega
      subst hte
      rw [if_neg (by simp)]
      unfold c80l2
      repeat' (first
        | with_reducible first
          | refine T_seq ?_
          | refine T_reg ?_
          | refine T_skip ?_
          | refine T_exit ?_
          | refine T_block ?_
          | refine T_cond_t rfl ?_
          | refine T_cond_f rfl ?_
          | ((first | refine T_cond rfl (fun hc => ?_) (fun hc => ?_) | refine wguard_split (fun hc => ?_) (fun hc => ?_)) <;> have hd := hc <;> (try simp (disch := omega) only [wrapI] at hd) <;> have hs := hd <;> (try simp only [Bool.not_eq_true', Bool.not_eq_false', Bool.and_eq_true, Bool.and_eq_false_iff, Bool.or_eq_true, Bool.or_eq_false_iff, decide_eq_true_eq, decide_eq_false_iff_not, beq_iff_eq, bne_iff_ne, beq_eq_false_iff_ne, bne_eq_false_iff_eq, Bool.not_true, Bool.not_false, gt_iff_lt, ge_iff_le, Int.not_lt, Int.not_le, ne_eq, Decidable.not_not] at hd) <;> (try simp at hs))
          | refine T_ret ?_
          | refine leave_of (.inr rfl) _ rfl ?_
          | refine leave_of (.inl rfl) _ rfl ?_
          | refine leaveA_of (.inr rfl) _ rfl ?_
          | refine leaveA_of (.inl rfl) _ rfl ?_
          | refine wif_intro ?_ (fun hc => ?_)
          | refine And.intro ?_ ?_
          | intro hc
        | simp (maxSteps := 4000000) only [wops_nil, wops_cons, wstep_none, wrun_mv, wrun_bin, wrun_len, wop, aop, ev, look, put_some, writes, ores_some, ores_map, ores_bind, binV, thenK, blockK, intV, lenOf, hget, List.length_nil, List.append_nil, List.replicate_zero, Option.pure_def, Option.bind_eq_bind, Option.map_some, if_true, if_false, Nat.reduceEqDiff, reduceCtorEq, eq_self, false_and, *]
        | simp (disch := omega) only [getD_ints, wrapI]
        | omega)
      refine T_for [1, 8] (fun i => ⟨[(1, ints hn ht0), (8, i64 i)], []⟩) ht0.length (fun i => (ht0.drop i).any (outB 5000) = ht0.any (outB 5000)) 0 ?_ rfl (Nat.zero_le _) ?_
      · simp [St.only, get_mk, look]
      intro i hi hJ
      by_cases hin : i < ht0.length
      · have g1 : (ht0.map fun x => [i64 x]).getD i [] = [i64 (ht0.getD i 0)] := getD_ints hin
        rw [drop_getI hin, List.any_cons] at hJ
        have ho : outB 5000 (ht0.getD i 0) = !(decide (-5000 ≤ ht0.getD i 0) && decide (ht0.getD i 0 ≤ 5000)) := rfl
        rw [ho] at hJ
        clear ho
        generalize ht0.getD i 0 = v at *
        have h32 := k32 v (-5000) 5000
        cases hb : (decide (-5000 ≤ v) && decide (v ≤ 5000)) with
        | true =>
          rw [hb] at h32 hJ
          rw [Bool.not_true, Bool.false_or] at hJ
          clear hb
          replace hJ := And.intro hJ trivial
          unfold c80l3
          repeat' (first
            | with_reducible first
              | refine T_seq ?_
              | refine T_reg ?_
              | refine T_skip ?_
              | refine T_exit ?_
              | refine T_block ?_
              | refine T_cond_t rfl ?_
              | refine T_cond_f rfl ?_
              | (show wcall _ false (.lit (.func (.func 32) _ _)) _ _ _ _; refine wcall_fn (h32) rfl (by simp [plainL, plain]) ?_)
              | ((first | refine T_cond rfl (fun hc => ?_) (fun hc => ?_) | refine wguard_split (fun hc => ?_) (fun hc => ?_)) <;> have hd := hc <;> (try simp (disch := omega) only [wrapI] at hd) <;> have hs := hd <;> (try simp only [decide_eq_true_eq, decide_eq_false_iff_not, Int.not_lt] at hd) <;> (try simp at hs))
              | refine T_ret ?_
              | refine leave_of (.inr rfl) _ rfl ?_
              | refine leave_of (.inl rfl) _ rfl ?_
              | refine leaveA_of (.inr rfl) _ rfl ?_
              | refine leaveA_of (.inl rfl) _ rfl ?_
              | refine wif_intro ?_ (fun hc => ?_)
              | refine And.intro ?_ ?_
              | intro hc
            | simp (maxSteps := 4000000) only [wops_nil, wops_cons, wstep_none, wrun_call, wrun_mv, wrun_bin, wrun_not, wrun_load, wrun_iaddrS, wrun_len, get_mk, wop, aop, ev, look, put_some, writes, ores_some, ores_ite_none, ores_map, ores_bind, binV, thenK, blockK, boolV, intV, lenOf, value, cut, hget, mkAgg, tupOf, List.map_cons, List.map_nil, List.length_cons, List.length_nil, List.take_succ_cons, List.take_nil, List.drop_zero, List.append_nil, List.replicate_zero, List.length_map, Option.pure_def, Option.bind_eq_bind, Option.map_some, if_true, if_false, Nat.reduceEqDiff, Nat.zero_add, reduceCtorEq, Bool.not_true, Bool.false_eq_true, eq_self, true_and, and_true, and_self, decide_true, Int.reduceNeg, freeze, lidsL, lids, List.flatMap_cons, List.flatMap_nil, ren, Int.toNat_natCast, *]
            | simp (disch := omega) only [wrapI]
            | (with_reducible show wcall _ false (.lit (.func (.func 32) _ _)) _ _ _ _; refine wcall_fn (h32) ?_ ?_ ?_; (next => simp [rfyL, rfy, hget, ints, take_rfy, Int.toNat_natCast]); (next => simp [plainL, plain, plainR, Int.toNat_natCast]))
            | omega)
          all_goals first | exact hJ.1 | (simp [St.only, get_mk, look]; done)
        | false =>
          rw [hb] at h32 hJ
          rw [Bool.not_false, Bool.true_or] at hJ
          rw [← hJ, if_pos rfl]
          clear hb hJ
          unfold c80l3
          repeat' (first
            | with_reducible first
              | refine T_seq ?_
              | refine T_reg ?_
              | refine T_skip ?_
              | refine T_exit ?_
              | refine T_block ?_
              | refine T_cond_t rfl ?_
              | refine T_cond_f rfl ?_
              | (show wcall _ false (.lit (.func (.func 32) _ _)) _ _ _ _; refine wcall_fn (h32) rfl (by simp [plainL, plain]) ?_)
              | ((first | refine T_cond rfl (fun hc => ?_) (fun hc => ?_) | refine wguard_split (fun hc => ?_) (fun hc => ?_)) <;> have hd := hc <;> (try simp (disch := omega) only [wrapI] at hd) <;> have hs := hd <;> (try simp only [decide_eq_true_eq, decide_eq_false_iff_not, Int.not_lt] at hd) <;> (try simp at hs))
              | refine T_ret ?_
              | refine leave_of (.inr rfl) _ rfl ?_
              | refine leave_of (.inl rfl) _ rfl ?_
              | refine leaveA_of (.inr rfl) _ rfl ?_
              | refine leaveA_of (.inl rfl) _ rfl ?_
              | refine wif_intro ?_ (fun hc => ?_)
              | refine And.intro ?_ ?_
              | intro hc
            | simp (maxSteps := 4000000) only [wops_nil, wops_cons, wstep_none, wrun_call, wrun_mv, wrun_bin, wrun_not, wrun_load, wrun_iaddrS, wrun_len, get_mk, wop, aop, ev, look, put_some, writes, ores_some, ores_ite_none, ores_map, ores_bind, binV, thenK, blockK, boolV, intV, lenOf, value, cut, hget, mkAgg, tupOf, List.map_cons, List.map_nil, List.length_cons, List.length_nil, List.take_succ_cons, List.take_nil, List.drop_zero, List.append_nil, List.replicate_zero, List.length_map, Option.pure_def, Option.bind_eq_bind, Option.map_some, if_true, if_false, Nat.reduceEqDiff, Nat.zero_add, reduceCtorEq, Bool.not_false, Bool.false_eq_true, eq_self, true_and, and_true, and_self, decide_true, Int.reduceNeg, freeze, lidsL, lids, List.flatMap_cons, List.flatMap_nil, ren, Int.toNat_natCast, *]
            | simp (disch := omega) only [getD_ints, wrapI]
            | (with_reducible show wcall _ false (.lit (.func (.func 32) _ _)) _ _ _ _; refine wcall_fn (h32) ?_ ?_ ?_; (next => simp [rfyL, rfy, hget, ints, take_rfy, Int.toNat_natCast]); (next => simp [plainL, plain, plainR, Int.toNat_natCast]))
            | omega)
          all_goals first | rfl
      · rw [List.drop_of_length_le (by omega)] at hJ
        rw [← hJ]
        clear hJ
        unfold c80l3
        repeat' (first
          | with_reducible first
            | refine T_seq ?_
            | refine T_reg ?_
            | refine T_skip ?_
            | refine T_exit ?_
            | refine T_block ?_
            | refine T_cond_t rfl ?_
            | refine T_cond_f rfl ?_
            | ((first | refine T_cond rfl (fun hc => ?_) (fun hc => ?_) | refine wguard_split (fun hc => ?_) (fun hc => ?_)) <;> have hd := hc <;> (try simp (disch := omega) only [wrapI] at hd) <;> have hs := hd <;> (try simp only [decide_eq_true_eq, decide_eq_false_iff_not, Int.not_lt] at hd) <;> (try simp at hs))
            | refine T_ret ?_
            | refine leave_of (.inr rfl) _ rfl ?_
            | refine leave_of (.inl rfl) _ rfl ?_
            | refine leaveA_of (.inr rfl) _ rfl ?_
            | refine leaveA_of (.inl rfl) _ rfl ?_
            | refine wif_intro ?_ (fun hc => ?_)
            | refine And.intro ?_ ?_
            | intro hc
          | simp (maxSteps := 4000000) only [wops_nil, wops_cons, wstep_none, wrun_call, wrun_mv, wrun_bin, wrun_load, wrun_iaddrS, wrun_len, get_mk, wop, aop, ev, look, put_some, writes, ores_some, ores_none, ores_ite_none, ores_map, ores_bind, binV, thenK, blockK, intV, lenOf, value, cut, hget, mkAgg, tupOf, List.map_cons, List.map_nil, List.length_cons, List.length_nil, List.take_succ_cons, List.take_nil, List.drop_zero, List.append_nil, List.replicate_zero, List.length_map, Option.pure_def, Option.bind_eq_bind, Option.map_some, if_true, if_false, Nat.reduceEqDiff, Nat.zero_add, reduceCtorEq, Bool.false_eq_true, eq_self, and_true, and_self, false_and, decide_true, Int.reduceNeg, ren, Int.toNat_natCast, *]
          | simp (disch := omega) only [getD_ints]
          | omega)
        all_goals first | rfl
end Go.Abs
