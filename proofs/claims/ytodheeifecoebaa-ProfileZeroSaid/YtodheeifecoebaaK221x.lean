import Derived.Test.YtodheeifecoebaaK210
import Derived.Test.YtodheeifecoebaaK209x
set_option linter.all false
set_option linter.unusedVariables false
set_option linter.unusedSimpArgs false
set_option linter.unusedSectionVars false
namespace Go.Abs
open Go.Proofs
/-! MirrorPart, RestPart; lists of fractions compared -/
set_option maxHeartbeats 8000000 in
theorem k23 (n1 n2 : Bool) (xs : List (Int × Int)) (hl : xs.length < 1000000) : Fn Try.prog 23 [.sl n1 2 (prR xs), .sl n2 2 (prR xs)] (bl true) [] := by
  refine fn_of e23 ?_
  have hel := prR_len xs
  unfold c23
  repeat' (first
    | ((with_reducible refine T_calm ?_ ?_); rfl)
    | with_reducible first
      | refine T_seq ?_
      | refine T_reg ?_
      | refine T_draw ?_
      | refine T_skip ?_
      | refine T_exit ?_
      | refine T_block ?_
      | refine T_cond_t rfl ?_
      | refine T_cond_f rfl ?_
      | refine wdW_cons rfl ?_
      | ((first | refine T_cond rfl (fun hc => ?_) (fun hc => ?_) | refine wguard_split (fun hc => ?_) (fun hc => ?_) | refine wguardX_split (fun hc => ?_) (fun hc => ?_)) <;> have hd := hc <;> (try simp (disch := omega) only [wrapI] at hd) <;> have hs := hd <;> (try simp only [bne_iff_ne, bne_eq_false_iff_eq, ne_eq] at hd) <;> (try simp at hs))
      | refine T_ret ?_
      | refine leave_of (.inr rfl) _ rfl ?_
      | refine leave_of (.inl rfl) _ rfl ?_
      | refine leaveA_of (.inr rfl) _ rfl ?_
      | refine leaveA_of (.inl rfl) _ rfl ?_
      | refine wif_intro ?_ (fun hc => ?_)
      | refine And.intro ?_ ?_
      | intro hc
    | simp (maxSteps := 4000000) only [wops_nil, wops_cons, wstep_none, wrun_mv, wrun_bin, wrun_len, wop, aop, ev, look, put_some, writes, ores_some, ores_map, ores_bind, binV, thenK, intV, lenOf, hget, List.map_cons, List.map_nil, List.length_nil, List.append_nil, List.replicate_zero, List.zipIdx_cons, List.zipIdx_nil, Option.pure_def, Option.bind_eq_bind, Option.map_some, if_true, if_false, Nat.reduceEqDiff, Nat.reduceAdd, Nat.zero_add, Nat.zero_ne_one, reduceCtorEq, eq_self, *]
    | simp (disch := omega) only [getD_ints, wrapI]
    | omega)
  refine T_for [0, 1, 5] (fun k => ⟨[(0, .sl n1 2 (prR xs)), (1, .sl n2 2 (prR xs)), (5, i64 k)], []⟩) xs.length (fun _ => True) 0 rfl trivial (Nat.zero_le _) ?_
  intro k hk _
  unfold c23l0
  by_cases hkz : k < xs.length
  · have hg := prR_get hkz
    repeat' (first
      | ((with_reducible refine T_calm ?_ ?_); rfl)
      | with_reducible first
        | refine T_seq ?_
        | refine T_reg ?_
        | refine T_draw ?_
        | refine T_skip ?_
        | refine T_exit ?_
        | refine T_block ?_
        | refine T_cond_t rfl ?_
        | refine T_cond_f rfl ?_
        | refine wdW_cons rfl ?_
        | ((first | refine T_cond rfl (fun hc => ?_) (fun hc => ?_) | refine wguard_split (fun hc => ?_) (fun hc => ?_) | refine wguardX_split (fun hc => ?_) (fun hc => ?_)) <;> have hd := hc <;> (try simp (disch := omega) only [wrapI] at hd) <;> have hs := hd <;> (try simp only [decide_eq_true_eq, decide_eq_false_iff_not, Int.not_lt] at hd) <;> (try simp at hs))
        | refine T_ret ?_
        | refine leave_of (.inr rfl) _ rfl ?_
        | refine leave_of (.inl rfl) _ rfl ?_
        | refine leaveA_of (.inr rfl) _ rfl ?_
        | refine leaveA_of (.inl rfl) _ rfl ?_
        | refine wif_intro ?_ (fun hc => ?_)
        | refine And.intro ?_ ?_
        | intro hc
      | simp (maxSteps := 4000000) only [wops_nil, wops_cons, wstep_none, wrun_mv, wrun_bin, wrun_eqAgg, wrun_load, wrun_iaddrS, wrun_len, get_mk, wop, aop, ev, look, put_some, writes, ores_some, ores_ite_none, ores_map, ores_bind, binV, thenK, blockK, boolV, intV, lenOf, value, cut, hget, toLits, mkAgg, tupOf, cellsEq, cellEq, List.map_cons, List.map_nil, List.length_cons, List.length_nil, List.take_succ_cons, List.take_nil, List.drop_zero, List.append_nil, List.replicate_zero, Option.pure_def, Option.bind_eq_bind, Option.map_some, if_true, if_false, Nat.reduceEqDiff, Nat.reduceAdd, Nat.zero_add, Nat.zero_ne_one, reduceCtorEq, Bool.not_true, eq_self, true_and, and_true, and_self, decide_true, beq_self_eq_true, ren, Int.toNat_natCast, *]
      | simp (disch := omega) only [wrapI]
      | omega)
    all_goals exact rfl
  · skip
    repeat' (first
      | ((with_reducible refine T_calm ?_ ?_); rfl)
      | with_reducible first
        | refine T_seq ?_
        | refine T_reg ?_
        | refine T_draw ?_
        | refine T_skip ?_
        | refine T_exit ?_
        | refine T_block ?_
        | refine T_cond_t rfl ?_
        | refine T_cond_f rfl ?_
        | refine wdW_cons rfl ?_
        | ((first | refine T_cond rfl (fun hc => ?_) (fun hc => ?_) | refine wguard_split (fun hc => ?_) (fun hc => ?_) | refine wguardX_split (fun hc => ?_) (fun hc => ?_)) <;> have hd := hc <;> (try simp (disch := omega) only [wrapI] at hd) <;> have hs := hd <;> (try simp only [decide_eq_true_eq, decide_eq_false_iff_not, Int.not_lt] at hd) <;> (try simp at hs))
        | refine T_ret ?_
        | refine leave_of (.inr rfl) _ rfl ?_
        | refine leave_of (.inl rfl) _ rfl ?_
        | refine leaveA_of (.inr rfl) _ rfl ?_
        | refine leaveA_of (.inl rfl) _ rfl ?_
        | refine wif_intro ?_ (fun hc => ?_)
        | refine And.intro ?_ ?_
        | intro hc
      | simp (maxSteps := 4000000) only [wops_nil, wops_cons, wstep_none, wrun_mv, wrun_bin, wrun_eqAgg, wrun_load, wrun_iaddrS, wrun_len, get_mk, wop, aop, ev, look, put_some, writes, ores_some, ores_none, ores_ite_none, ores_map, ores_bind, binV, thenK, blockK, boolV, intV, lenOf, value, cut, hget, mkAgg, tupOf, List.map_cons, List.map_nil, List.length_nil, List.drop_zero, List.append_nil, List.replicate_zero, Option.pure_def, Option.bind_eq_bind, Option.map_some, if_true, if_false, Nat.reduceEqDiff, Nat.zero_ne_one, reduceCtorEq, eq_self, and_true, and_self, false_and, decide_true, ren, *]
      | simp (disch := omega) only [getD_ints]
      | omega)
set_option maxHeartbeats 8000000 in
theorem k24 (x b : Int) (hx : -4611686018427387904 ≤ x ∧ x ≤ 4611686018427387904) (hb : 1 ≤ b ∧ b ≤ 4611686018427387904) : Fn Try.prog 24 [i64 x, i64 b] (i64 (x % b)) [] := by
  refine fn_of e24 ?_
  have h1 := Int.emod_nonneg x (b := b) (by omega)
  have h2 := Int.emod_lt_of_pos x (b := b) (by omega)
  have e : x % b = if x.tmod b < 0 then x.tmod b + b else x.tmod b := by
    rw [Int.tmod_eq_emod]
    split
    · simp; intro h; omega
    · rename_i h
      rw [Int.natAbs_of_nonneg (by omega)]
      split <;> omega
  have h3 : -b < x.tmod b ∧ x.tmod b < b := by
    have := tmod_lt x (b := b) (by omega)
    omega
  rw [e]
  clear e h1 h2
  generalize hm : x.tmod b = m at *
  unfold c24
  repeat' (first
    | with_reducible first
      | refine T_seq ?_
      | refine T_reg ?_
      | refine T_skip ?_
      | refine T_exit ?_
      | refine T_block ?_
      | refine T_cond_t rfl ?_
      | refine T_cond_f rfl ?_
      | ((first | refine T_cond rfl (fun hc => ?_) (fun hc => ?_) | refine wguard_split (fun hc => ?_) (fun hc => ?_)) <;> have hd := hc <;> (try simp (disch := omega) only [wrapI] at hd) <;> have hs := hd <;> (try simp only [decide_eq_true_eq, decide_eq_false_iff_not, Int.not_lt] at hd) <;> (try simp at hs))
      | refine T_ret ?_
      | refine leave_of (.inr rfl) _ rfl ?_
      | refine leave_of (.inl rfl) _ rfl ?_
      | refine leaveA_of (.inr rfl) _ rfl ?_
      | refine leaveA_of (.inl rfl) _ rfl ?_
      | refine wif_intro ?_ (fun hc => ?_)
      | refine And.intro ?_ ?_
      | intro hc
    | simp (maxSteps := 4000000) only [wops_nil, wops_cons, wstep_none, wrun_mv, wrun_bin, get_mk, wop, aop, ev, look, put_some, writes, ores_some, ores_none_ite, ores_map, binV, thenK, tupOf, List.map_cons, List.map_nil, List.length_nil, List.append_nil, List.replicate_zero, List.zipIdx_cons, List.zipIdx_nil, Option.map_some, if_true, if_false, Nat.reduceEqDiff, Nat.reduceAdd, Nat.zero_add, Nat.zero_ne_one, reduceCtorEq, eq_self, decide_true, ren, *]
    | simp (disch := omega) only [wrapI]
    | omega)
  all_goals first | rfl | (rw [if_pos (by omega)]; done) | (rw [if_neg (by omega)]; done)
/-! errors are handed on -/
section
variable {S e : Int} {b : Bool} {n : Nat} {E : List (List AV)}
end
/-! what a valid set of maps is -/
structure TmOk (n s : Nat) (rows : List (Bool × List Int)) : Prop where
  hk : 1 ≤ rows.length ∧ rows.length ≤ 12
  hn : rows.length * s = n
  hn2 : 1 ≤ n ∧ n ≤ 24
  hr : ∀ t, t < rows.length → (rowN rows t).2.length = n
  hb : ∀ t i, t < rows.length → i < n → -100000 ≤ V rows t i ∧ V rows t i ≤ 100000
section
variable {n s : Nat} {nil : Bool} {rows : List (Bool × List Int)}
end
end Go.Abs
