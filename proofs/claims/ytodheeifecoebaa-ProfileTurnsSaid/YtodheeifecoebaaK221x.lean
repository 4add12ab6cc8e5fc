import Derived.Test.YtodheeifecoebaaK210
import Derived.Test.YtodheeifecoebaaK209x
set_option linter.all false
set_option linter.unusedVariables false
set_option linter.unusedSimpArgs false
set_option linter.unusedSectionVars false
namespace Go.Abs
open Go.Proofs
/-! MirrorPart, RestPart; lists of fractions compared -/
set_option maxHeartbeats 8000000 in
theorem k23 (n1 n2 : Bool) (xs : List (Int × Int)) (hl : xs.length < 1000000) : Fn Try.prog 23 [.sl n1 2 (prR xs), .sl n2 2 (prR xs)] (bl true) [] := by
  refine fn_of e23 ?_
  have hel := prR_len xs
  unfold c23
  repeat' (first
    | ((with_reducible refine T_calm ?_ ?_); rfl)
    | with_reducible first
      | refine T_seq ?_
      | refine T_reg ?_
      | refine T_draw ?_
      | refine T_skip ?_
      | refine T_exit ?_
      | refine T_block ?_
      | refine T_cond_t rfl ?_
      | refine T_cond_f rfl ?_
      | refine wdW_cons rfl ?_
      | ((first | refine T_cond rfl (fun hc => ?_) (fun hc => ?_) | refine wguard_split (fun hc => ?_) (fun hc => ?_) | refine wguardX_split (fun hc => ?_) (fun hc => ?_)) <;> have hd := hc <;> (try simp (disch := omega) only [wrapI] at hd) <;> have hs := hd <;> (try simp only [bne_iff_ne, bne_eq_false_iff_eq, ne_eq] at hd) <;> (try simp at hs))
      | refine T_ret ?_
      | refine leave_of (.inr rfl) _ rfl ?_
      | refine leave_of (.inl rfl) _ rfl ?_
      | refine leaveA_of (.inr rfl) _ rfl ?_
      | refine leaveA_of (.inl rfl) _ rfl ?_
      | refine wif_intro ?_ (fun hc => ?_)
      | refine And.intro ?_ ?_
      | intro hc
    | simp (maxSteps := 4000000) only [wops_nil, wops_cons, wstep_none, wrun_mv, wrun_bin, wrun_len, wop, aop, ev, look, put_some, writes, ores_some, ores_map, ores_bind, binV, thenK, intV, lenOf, hget, List.map_cons, List.map_nil, List.length_nil, List.append_nil, List.replicate_zero, List.zipIdx_cons, List.zipIdx_nil, Option.pure_def, Option.bind_eq_bind, Option.map_some, if_true, if_false, Nat.reduceEqDiff, Nat.reduceAdd, Nat.zero_add, Nat.zero_ne_one, reduceCtorEq, eq_self, *]
    | simp (disch := omega) only [getD_ints, wrapI]
    | omega)
  refine T_for [0, 1, 5] (fun k => ⟨[(0, .sl n1 2 (prR xs)), (1, .sl n2 2 (prR xs)), (5, i64 k)], []⟩) xs.length (fun _ => True) 0 rfl trivial (Nat.zero_le _) ?_
  intro k hk _
  unfold c23l0
  by_cases hkz : k < xs.length
  · have hg := prR_get hkz
    repeat' (first
      | ((with_reducible refine T_calm ?_ ?_); rfl)
      | with_reducible first
        | refine T_seq ?_
        | refine T_reg ?_
        | refine T_draw ?_
        | refine T_skip ?_
        | refine T_exit ?_
        | refine T_block ?_
        | refine T_cond_t rfl ?_
        | refine T_cond_f rfl ?_
        | refine wdW_cons rfl ?_
        | ((first | refine T_cond rfl (fun hc => ?_) (fun hc => ?_) | refine wguard_split (fun hc => ?_) (fun hc => ?_) | refine wguardX_split (fun hc => ?_) (fun hc => ?_)) <;> have hd := hc <;> (try simp (disch := omega) only [wrapI] at hd) <;> have hs := hd <;> (try simp only [decide_eq_true_eq, decide_eq_false_iff_not, Int.not_lt] at hd) <;> (try simp at hs))
        | refine T_ret ?_
        | refine leave_of (.inr rfl) _ rfl ?_
        | refine leave_of (.inl rfl) _ rfl ?_
        | refine leaveA_of (.inr rfl) _ rfl ?_
        | refine leaveA_of (.inl rfl) _ rfl ?_
        | refine wif_intro ?_ (fun hc => ?_)
        | refine And.intro ?_ ?_
        | intro hc
      | simp (maxSteps := 4000000) only [wops_nil, wops_cons, wstep_none, wrun_mv, wrun_bin, wrun_eqAgg, wrun_load, wrun_iaddrS, wrun_len, get_mk, wop, aop, ev, look, put_some, writes, ores_some, ores_ite_none, ores_map, ores_bind, binV, thenK, blockK, boolV, intV, lenOf, value, cut, hget, toLits, mkAgg, tupOf, cellsEq, cellEq, List.map_cons, List.map_nil, List.length_cons, List.length_nil, List.take_succ_cons, List.take_nil, List.drop_zero, List.append_nil, List.replicate_zero, Option.pure_def, Option.bind_eq_bind, Option.map_some, if_true, if_false, Nat.reduceEqDiff, Nat.reduceAdd, Nat.zero_add, Nat.zero_ne_one, reduceCtorEq, Bool.not_true, eq_self, true_and, and_true, and_self, decide_true, beq_self_eq_true, ren, Int.toNat_natCast, *]
      | simp (disch := omega) only [wrapI]
      | omega)
    all_goals exact rfl
  · skip
    repeat' (first
      | ((with_reducible refine T_calm ?_ ?_); rfl)
      | with_reducible first
        | refine T_seq ?_
        | refine T_reg ?_
        | refine T_draw ?_
        | refine T_skip ?_
        | refine T_exit ?_
        | refine T_block ?_
        | refine T_cond_t rfl ?_
        | refine T_cond_f rfl ?_
        | refine wdW_cons rfl ?_
        | ((first | refine T_cond rfl (fun hc => ?_) (fun hc => ?_) | refine wguard_split (fun hc => ?_) (fun hc => ?_) | refine wguardX_split (fun hc => ?_) (fun hc => ?_)) <;> have hd := hc <;> (try simp (disch := omega) only [wrapI] at hd) <;> have hs := hd <;> (try simp only [decide_eq_true_eq, decide_eq_false_iff_not, Int.not_lt] at hd) <;> (try simp at hs))
        | refine T_ret ?_
        | refine leave_of (.inr rfl) _ rfl ?_
        | refine leave_of (.inl rfl) _ rfl ?_
        | refine leaveA_of (.inr rfl) _ rfl ?_
        | refine leaveA_of (.inl rfl) _ rfl ?_
        | refine wif_intro ?_ (fun hc => ?_)
        | refine And.intro ?_ ?_
        | intro hc
      | simp (maxSteps := 4000000) only [wops_nil, wops_cons, wstep_none, wrun_mv, wrun_bin, wrun_eqAgg, wrun_load, wrun_iaddrS, wrun_len, get_mk, wop, aop, ev, look, put_some, writes, ores_some, ores_none, ores_ite_none, ores_map, ores_bind, binV, thenK, blockK, boolV, intV, lenOf, value, cut, hget, mkAgg, tupOf, List.map_cons, List.map_nil, List.length_nil, List.drop_zero, List.append_nil, List.replicate_zero, Option.pure_def, Option.bind_eq_bind, Option.map_some, if_true, if_false, Nat.reduceEqDiff, Nat.zero_ne_one, reduceCtorEq, eq_self, and_true, and_self, false_and, decide_true, ren, *]
      | simp (disch := omega) only [getD_ints]
      | omega)
set_option maxHeartbeats 8000000 in
theorem k24 (x b : Int) (hx : -4611686018427387904 ≤ x ∧ x ≤ 4611686018427387904) (hb : 1 ≤ b ∧ b ≤ 4611686018427387904) : Fn Try.prog 24 [i64 x, i64 b] (i64 (x % b)) [] := by
  refine fn_of e24 ?_
  have h1 := Int.emod_nonneg x (b := b) (by omega)
  have h2 := Int.emod_lt_of_pos x (b := b) (by omega)
  have e : x % b = if x.tmod b < 0 then x.tmod b + b else x.tmod b := by
    rw [Int.tmod_eq_emod]
    split
    · simp; intro h; omega
    · rename_i h
      rw [Int.natAbs_of_nonneg (by omega)]
      split <;> omega
  have h3 : -b < x.tmod b ∧ x.tmod b < b := by
    have := tmod_lt x (b := b) (by omega)
    omega
  rw [e]
  clear e h1 h2
  generalize hm : x.tmod b = m at *
  unfold c24
  repeat' (first
    | with_reducible first
      | refine T_seq ?_
      | refine T_reg ?_
      | refine T_skip ?_
      | refine T_exit ?_
      | refine T_block ?_
      | refine T_cond_t rfl ?_
      | refine T_cond_f rfl ?_
      | ((first | refine T_cond rfl (fun hc => ?_) (fun hc => ?_) | refine wguard_split (fun hc => ?_) (fun hc => ?_)) <;> have hd := hc <;> (try simp (disch := omega) only [wrapI] at hd) <;> have hs := hd <;> (try simp only [decide_eq_true_eq, decide_eq_false_iff_not, Int.not_lt] at hd) <;> (try simp at hs))
      | refine T_ret ?_
      | refine leave_of (.inr rfl) _ rfl ?_
      | refine leave_of (.inl rfl) _ rfl ?_
      | refine leaveA_of (.inr rfl) _ rfl ?_
      | refine leaveA_of (.inl rfl) _ rfl ?_
      | refine wif_intro ?_ (fun hc => ?_)
      | refine And.intro ?_ ?_
      | intro hc
    | simp (maxSteps := 4000000) only [wops_nil, wops_cons, wstep_none, wrun_mv, wrun_bin, get_mk, wop, aop, ev, look, put_some, writes, ores_some, ores_none_ite, ores_map, binV, thenK, tupOf, List.map_cons, List.map_nil, List.length_nil, List.append_nil, List.replicate_zero, List.zipIdx_cons, List.zipIdx_nil, Option.map_some, if_true, if_false, Nat.reduceEqDiff, Nat.reduceAdd, Nat.zero_add, Nat.zero_ne_one, reduceCtorEq, eq_self, decide_true, ren, *]
    | simp (disch := omega) only [wrapI]
    | omega)
  all_goals first | rfl | (rw [if_pos (by omega)]; done) | (rw [if_neg (by omega)]; done)
/-! errors are handed on -/
section
variable {S e : Int} {b : Bool} {n : Nat} {E : List (List AV)}
set_option maxHeartbeats 8000000 in
theorem k21e (hE : plainR E = true) (h37 : Fn Try.prog 37 [.agg [i64 S, .sl b n E]] (i64 e) []) (he : e ≠ 0) : Fn Try.prog 21 [.agg [i64 S, .sl b n E]] (.tup [.sl true 0 [], i64 e]) [] := by
  refine fn_of e21 ?_
  have hd1 : (e != 0) = true := by simp only [bne_iff_ne]; exact he
  have hrE := fun ρ => renR_plain ρ E hE
  unfold c21
  repeat' (first
    | with_reducible first
      | refine T_seq ?_
      | refine T_reg ?_
      | refine T_skip ?_
      | refine T_exit ?_
      | refine T_block ?_
      | refine T_cond_t rfl ?_
      | refine T_cond_f rfl ?_
      | (show wcall _ false (.lit (.func (.func 37) _ _)) _ _ _ _; refine wcall_fn (h37) rfl (by simp [plainL, plain, hE]) ?_)
      | ((first | refine T_cond rfl (fun hc => ?_) (fun hc => ?_) | refine wguard_split (fun hc => ?_) (fun hc => ?_)) <;> have hd := hc <;> (try simp (disch := omega) only [wrapI] at hd) <;> have hs := hd <;> (try simp only [Bool.not_eq_true', Bool.not_eq_false', Bool.and_eq_true, Bool.and_eq_false_iff, Bool.or_eq_true, Bool.or_eq_false_iff, decide_eq_true_eq, decide_eq_false_iff_not, beq_iff_eq, bne_iff_ne, beq_eq_false_iff_ne, bne_eq_false_iff_eq, Bool.not_true, Bool.not_false, gt_iff_lt, ge_iff_le, Int.not_lt, Int.not_le, ne_eq, Decidable.not_not] at hd) <;> (try simp at hs))
      | refine T_ret ?_
      | refine leave_of (.inr rfl) _ rfl ?_
      | refine leave_of (.inl rfl) _ rfl ?_
      | refine leaveA_of (.inr rfl) _ rfl ?_
      | refine leaveA_of (.inl rfl) _ rfl ?_
      | refine wif_intro ?_ (fun hc => ?_)
      | refine And.intro ?_ ?_
      | intro hc
    | simp (maxSteps := 4000000) only [wops_nil, wops_cons, wstep_none, wrun_call, wrun_mv, wrun_bin, wrun_load, wrun_box, get_mk, wop, aop, ev, look, put_some, writes, ores_some, binV, thenK, value, cut, hget, AV.parts, isOne, toLits, mkAgg, tupOf, List.map_cons, List.map_nil, List.length_cons, List.length_nil, List.getElem?_cons_zero, List.set_cons_zero, List.take_succ_cons, List.take_nil, List.drop_zero, List.nil_append, List.append_nil, List.replicate_zero, List.replicate_succ, List.getD_cons_zero, List.zipIdx_cons, List.zipIdx_nil, List.all_cons, List.all_nil, Option.getD_some, Option.map_some, Option.map_none, if_true, if_false, Nat.reduceEqDiff, Nat.reduceAdd, Nat.add_zero, Nat.zero_add, Nat.zero_ne_one, reduceCtorEq, Bool.and_true, eq_self, true_and, and_self, freeze, lidsL, lids, List.flatMap_cons, List.flatMap_nil, List.all_cons, ren, renL, renR, *]
    | simp (disch := omega) only [getD_ints, wrapI]
    | (with_reducible show wcall _ false (.lit (.func (.func 37) _ _)) _ _ _ _; refine wcall_fn (h37) ?_ ?_ ?_; (next => simp [rfyL, rfy, hget, ints, take_rfy, hE, hrE]); (next => simp [plainL, plain, plainR, hE, hrE]))
    | omega)
set_option maxHeartbeats 8000000 in
theorem k35e (hE : plainR E = true) (h37 : Fn Try.prog 37 [.agg [i64 S, .sl b n E]] (i64 e) []) (he : e ≠ 0) : Fn Try.prog 35 [.agg [i64 S, .sl b n E]] (.tup [.sl true 0 [], i64 e]) [] := by
  refine fn_of e35 ?_
  have hd1 : (e != 0) = true := by simp only [bne_iff_ne]; exact he
  have hrE := fun ρ => renR_plain ρ E hE
  unfold c35
  repeat' (first
    | with_reducible first
      | refine T_seq ?_
      | refine T_reg ?_
      | refine T_skip ?_
      | refine T_exit ?_
      | refine T_block ?_
      | refine T_cond_t rfl ?_
      | refine T_cond_f rfl ?_
      | (show wcall _ false (.lit (.func (.func 37) _ _)) _ _ _ _; refine wcall_fn (h37) rfl (by simp [plainL, plain, hE]) ?_)
      | ((first | refine T_cond rfl (fun hc => ?_) (fun hc => ?_) | refine wguard_split (fun hc => ?_) (fun hc => ?_)) <;> have hd := hc <;> (try simp (disch := omega) only [wrapI] at hd) <;> have hs := hd <;> (try simp only [Bool.not_eq_true', Bool.not_eq_false', Bool.and_eq_true, Bool.and_eq_false_iff, Bool.or_eq_true, Bool.or_eq_false_iff, decide_eq_true_eq, decide_eq_false_iff_not, beq_iff_eq, bne_iff_ne, beq_eq_false_iff_ne, bne_eq_false_iff_eq, Bool.not_true, Bool.not_false, gt_iff_lt, ge_iff_le, Int.not_lt, Int.not_le, ne_eq, Decidable.not_not] at hd) <;> (try simp at hs))
      | refine T_ret ?_
      | refine leave_of (.inr rfl) _ rfl ?_
      | refine leave_of (.inl rfl) _ rfl ?_
      | refine leaveA_of (.inr rfl) _ rfl ?_
      | refine leaveA_of (.inl rfl) _ rfl ?_
      | refine wif_intro ?_ (fun hc => ?_)
      | refine And.intro ?_ ?_
      | intro hc
    | simp (maxSteps := 4000000) only [wops_nil, wops_cons, wstep_none, wrun_call, wrun_mv, wrun_bin, wrun_load, wrun_box, get_mk, wop, aop, ev, look, put_some, writes, ores_some, binV, thenK, value, cut, hget, AV.parts, isOne, toLits, mkAgg, tupOf, List.map_cons, List.map_nil, List.length_cons, List.length_nil, List.getElem?_cons_zero, List.set_cons_zero, List.take_succ_cons, List.take_nil, List.drop_zero, List.nil_append, List.append_nil, List.replicate_zero, List.replicate_succ, List.getD_cons_zero, List.zipIdx_cons, List.zipIdx_nil, List.all_cons, List.all_nil, Option.getD_some, Option.map_some, Option.map_none, if_true, if_false, Nat.reduceEqDiff, Nat.reduceAdd, Nat.add_zero, Nat.zero_add, Nat.zero_ne_one, reduceCtorEq, Bool.and_true, eq_self, true_and, and_self, freeze, lidsL, lids, List.flatMap_cons, List.flatMap_nil, List.all_cons, ren, renL, renR, *]
    | simp (disch := omega) only [getD_ints, wrapI]
    | (with_reducible show wcall _ false (.lit (.func (.func 37) _ _)) _ _ _ _; refine wcall_fn (h37) ?_ ?_ ?_; (next => simp [rfyL, rfy, hget, ints, take_rfy, hE, hrE]); (next => simp [plainL, plain, plainR, hE, hrE]))
    | omega)
set_option maxHeartbeats 8000000 in
theorem k22e (hE : plainR E = true) (h37 : Fn Try.prog 37 [.agg [i64 S, .sl b n E]] (i64 e) []) (he : e ≠ 0) : Fn Try.prog 22 [.agg [i64 S, .sl b n E]] (.tup [frV (0, 0), i64 e]) [] := by
  refine fn_of e22 ?_
  have hd1 : (e != 0) = true := by simp only [bne_iff_ne]; exact he
  have hrE := fun ρ => renR_plain ρ E hE
  unfold c22
  repeat' (first
    | ((with_reducible refine T_calm ?_ ?_); rfl)
    | with_reducible first
      | refine T_seq ?_
      | refine T_reg ?_
      | refine T_draw ?_
      | refine T_skip ?_
      | refine T_exit ?_
      | refine T_block ?_
      | refine T_cond_t rfl ?_
      | refine T_cond_f rfl ?_
      | refine wdW_cons rfl ?_
      | (show wcall _ false (.lit (.func (.func 37) _ _)) _ _ _ _; refine wcall_fn (h37) rfl (by simp [plainL, plain, hE]) ?_)
      | (show wcallX _ false (.lit (.func (.func 37) _ _)) _ _ _ _; refine wcallX_fn (h37) rfl (by simp [plainL, plain, plainR, hE, hrE]) ?_)
      | ((first | refine T_cond rfl (fun hc => ?_) (fun hc => ?_) | refine wguard_split (fun hc => ?_) (fun hc => ?_) | refine wguardX_split (fun hc => ?_) (fun hc => ?_)) <;> have hd := hc <;> (try simp (disch := omega) only [wrapI] at hd) <;> have hs := hd <;> (try simp only [Bool.not_eq_true', Bool.not_eq_false', Bool.and_eq_true, Bool.and_eq_false_iff, Bool.or_eq_true, Bool.or_eq_false_iff, decide_eq_true_eq, decide_eq_false_iff_not, beq_iff_eq, bne_iff_ne, beq_eq_false_iff_ne, bne_eq_false_iff_eq, Bool.not_true, Bool.not_false, gt_iff_lt, ge_iff_le, Int.not_lt, Int.not_le, ne_eq, Decidable.not_not] at hd) <;> (try simp at hs))
      | refine T_ret ?_
      | refine leave_of (.inr rfl) _ rfl ?_
      | refine leave_of (.inl rfl) _ rfl ?_
      | refine leaveA_of (.inr rfl) _ rfl ?_
      | refine leaveA_of (.inl rfl) _ rfl ?_
      | refine wif_intro ?_ (fun hc => ?_)
      | refine And.intro ?_ ?_
      | intro hc
    | simp (maxSteps := 4000000) only [wops_nil, wops_cons, wstep_none, wrun_call, wrun_mv, wrun_bin, wrun_build, wrun_load, wrun_store, wrun_alloc, wrun_box, get_mk, wop, aop, ev, look, put_some, put_none, writes, ores_some, binV, thenK, value, cut, hget, fillA, putCells, AV.parts, isOne, toLits, mkAgg, tupOf, ofValue_int, List.map_cons, List.map_nil, List.length_cons, List.length_nil, List.getElem?_cons_zero, List.getElem?_cons_succ, List.set_cons_zero, List.set_cons_succ, List.take_succ_cons, List.take_zero, List.take_nil, List.drop_succ_cons, List.drop_zero, List.drop_nil, List.nil_append, List.append_nil, List.replicate_zero, List.replicate_succ, List.getD_cons_zero, List.zipIdx_cons, List.zipIdx_nil, List.all_cons, List.all_nil, Option.getD_some, Option.map_some, Option.map_none, if_true, if_false, Nat.reduceEqDiff, Nat.reduceAdd, Nat.reduceLT, Nat.add_zero, Nat.zero_add, Nat.le_refl, Nat.zero_ne_one, reduceCtorEq, Bool.and_true, eq_self, true_and, and_self, freeze, lidsL, lids, List.flatMap_cons, List.flatMap_nil, List.all_cons, ren, renL, *]
    | simp (disch := omega) only [getD_ints, wrapI]
    | (with_reducible show wcall _ false (.lit (.func (.func 37) _ _)) _ _ _ _; refine wcall_fn (h37) ?_ ?_ ?_; (next => simp [rfyL, rfy, hget, ints, take_rfy, hE, hrE]); (next => simp [plainL, plain, plainR, hE, hrE]))
    | (with_reducible show wcallX _ false (.lit (.func (.func 37) _ _)) _ _ _ _; refine wcallX_fn (h37) ?_ ?_ ?_; (next => simp [rfyL, rfy, hget, ints, take_rfy, hE, hrE]); (next => simp [plainL, plain, plainR, hE, hrE]))
    | omega)
  all_goals first | rfl
end
/-! what a valid set of maps is -/
structure TmOk (n s : Nat) (rows : List (Bool × List Int)) : Prop where
  hk : 1 ≤ rows.length ∧ rows.length ≤ 12
  hn : rows.length * s = n
  hn2 : 1 ≤ n ∧ n ≤ 24
  hr : ∀ t, t < rows.length → (rowN rows t).2.length = n
  hb : ∀ t i, t < rows.length → i < n → -100000 ≤ V rows t i ∧ V rows t i ≤ 100000
section
variable {n s : Nat} {nil : Bool} {rows : List (Bool × List Int)}
set_option maxHeartbeats 8000000 in
theorem k35 (h : TmOk n s rows) (h0 : checkT n rows = 0) : Gv 1 Try.prog 35 [tmV n nil rows] [.sl false 2 (prR (pl (fun i => lowD (rst (V rows) rows.length i) rows.length) n)), i64 0] := by
  refine gv_of e35 ?_
  obtain ⟨hk, hn, hn2, hr, hb⟩ := h
  have h37 := k37 (S := (n : Int)) (nil := nil) (rows := rows) (by omega) (fun t ht => by rw [hr t ht]; omega)
  rw [h0] at h37
  have h86 := k86 (nil := nil) hk hn hn2 hr hb
  have hl := mk_len n (rst (V rows) rows.length)
  have hl2 := mk_len n (mir (V rows) rows.length s n)
  have h87 := k87 (nl := false) (xs := mk n (rst (V rows) rows.length)) (d := rows.length) (fun k hk2 => by
    rw [hl] at hk2
    rw [mk_get hk2]
    have := rst_bd (V := V rows) (B := 100000) (k := rows.length) (i := k) (fun t ht => hb t k ht hk2)
    omega) (by omega) (by omega)
  have e : pl (fun i => lowD ((mk n (rst (V rows) rows.length)).getD i 0) rows.length) n = pl (fun i => lowD (rst (V rows) rows.length i) rows.length) n := pl_congr fun i hi => by rw [mk_get hi]
  rw [hl, e] at h87
  have hlr : (rows.map fun r => [ints r.1 r.2]).length = rows.length := by simp
  have hp := plain_rws rows
  clear hr hb h0 e
  generalize mk n (rst (V rows) rows.length) = L at *
  generalize mk n (mir (V rows) rows.length s n) = M at *
  generalize hq : pl (fun i => lowD (rst (V rows) rows.length i) rows.length) n = Q at *
  replace h37 := And.intro h37 trivial
  replace h86 := And.intro h86 trivial
  have hQ : Q.length = n := hq ▸ pl_len _ _
  have g87 := Gv.of_fn 1 h87 [.lsl 0 0 n] (ws := [.sl false 2 (prR Q)]) rfl (by simp only [List.map_cons, List.map_nil]; rw [rfy_prB (d := 0) (own := true) rfl hQ]) (by simp only [plainL, plain, plain_prR]; rfl)
  clear h87
  replace g87 := And.intro g87 trivial
  unfold c35
  repeat' (first
    | with_reducible first
      | refine T_seq ?_
      | refine T_reg ?_
      | refine T_skip ?_
      | refine T_exit ?_
      | refine T_block ?_
      | refine T_cond_t rfl ?_
      | refine T_cond_f rfl ?_
      | (show wcall _ false (.lit (.func (.func 37) _ _)) _ _ _ _; refine wcall_fn (h37.1) rfl (by simp [plainL, plain, plain_rws]) ?_)
      | (show wcall _ false (.lit (.func (.func 86) _ _)) _ _ _ _; refine wcall_fn (h86.1) rfl (by simp [plainL, plain, plain_rws]) ?_)
      | ((first | refine T_cond rfl (fun hc => ?_) (fun hc => ?_) | refine wguard_split (fun hc => ?_) (fun hc => ?_)) <;> have hd := hc <;> (try simp (disch := omega) only [wrapI] at hd) <;> have hs := hd <;> (try simp only [Bool.not_eq_true', Bool.not_eq_false', Bool.and_eq_true, Bool.and_eq_false_iff, Bool.or_eq_true, Bool.or_eq_false_iff, decide_eq_true_eq, decide_eq_false_iff_not, beq_iff_eq, bne_iff_ne, beq_eq_false_iff_ne, bne_eq_false_iff_eq, Bool.not_true, Bool.not_false, gt_iff_lt, ge_iff_le, Int.not_lt, Int.not_le, ne_eq, Decidable.not_not] at hd) <;> (try simp at hs))
      | refine T_ret ?_
      | refine wif_intro ?_ (fun hc => ?_)
      | refine And.intro ?_ ?_
      | intro hc
    | simp (maxSteps := 4000000) only [wops_nil, wops_cons, wstep_none, wrun_call, wrun_mv, wrun_bin, wrun_ext, wrun_load, wrun_faddr, wrun_len, wrun_box, wop, aop, ev, look, put_some, writes, ores_some, ores_map, ores_bind, binV, thenK, intV, lenOf, value, cut, hget, AV.parts, isOne, toLits, mkAgg, List.map_cons, List.map_nil, List.length_cons, List.length_nil, List.getElem?_cons_zero, List.getElem?_cons_succ, List.set_cons_zero, List.take_succ_cons, List.take_nil, List.drop_succ_cons, List.drop_zero, List.cons_append, List.nil_append, List.append_nil, List.replicate_zero, List.replicate_succ, List.getD_cons_zero, List.zipIdx_cons, List.zipIdx_nil, List.all_cons, List.all_nil, Option.pure_def, Option.bind_eq_bind, Option.getD_some, Option.map_some, Option.map_none, if_true, if_false, Nat.reduceEqDiff, Nat.reduceAdd, Nat.add_zero, Nat.zero_add, Nat.zero_ne_one, reduceCtorEq, Bool.and_true, Bool.false_eq_true, eq_self, true_and, and_self, freeze, lidsL, lids, List.flatMap_cons, List.flatMap_nil, List.all_cons, ren, renL, renB, shiftρ, renR_ints, *]
    | simp (disch := omega) only [getD_ints, wrapI]
    | (with_reducible show wcall _ false (.lit (.func (.func 37) _ _)) _ _ _ _; refine wcall_fn (h37.1) ?_ ?_ ?_; (next => simp [rfyL, rfy, hget, ints, take_rfy, renR_rws, renR_prR, plain_rws]); (next => simp [plainL, plain, plainR, renR_rws, renR_prR, plain_rws]))
    | (with_reducible show wcall _ false (.lit (.func (.func 86) _ _)) _ _ _ _; refine wcall_fn (h86.1) ?_ ?_ ?_; (next => simp [rfyL, rfy, hget, ints, take_rfy, renR_rws, renR_prR, plain_rws]); (next => simp [plainL, plain, plainR, renR_rws, renR_prR, plain_rws]))
    | omega)
  refine wcall_E1 g87.1 (by simp only [rfyL, List.map_cons, List.map_nil]; rw [rfy_iB (d := 5) (own := true) (xs := L) rfl hl]; rfl) (by simp [plainL, plain]) ?_
  intro v H' hx hv
  replace hv := And.intro hv trivial
  clear hx g87
  repeat' (first
    | with_reducible first
      | refine T_seq ?_
      | refine T_reg ?_
      | refine T_skip ?_
      | refine T_exit ?_
      | refine T_block ?_
      | refine T_cond_t rfl ?_
      | refine T_cond_f rfl ?_
      | ((first | refine T_cond rfl (fun hc => ?_) (fun hc => ?_) | refine wguard_split (fun hc => ?_) (fun hc => ?_)) <;> have hd := hc <;> (try simp (disch := omega) only [wrapI] at hd) <;> have hs := hd <;> (try simp only [Bool.not_eq_true', Bool.not_eq_false', Bool.and_eq_true, Bool.and_eq_false_iff, Bool.or_eq_true, Bool.or_eq_false_iff, decide_eq_true_eq, decide_eq_false_iff_not, beq_iff_eq, bne_iff_ne, beq_eq_false_iff_ne, bne_eq_false_iff_eq, Bool.not_true, Bool.not_false, gt_iff_lt, ge_iff_le, Int.not_lt, Int.not_le, ne_eq, Decidable.not_not] at hd) <;> (try simp at hs))
      | refine T_ret ?_
      | refine wif_intro ?_ (fun hc => ?_)
      | refine And.intro ?_ ?_
      | intro hc
    | simp (maxSteps := 4000000) only [wops_nil, wops_cons, wstep_none, wrun_mv, wop, aop, ev, look, put_some, writes, ores_some, thenK, if_true, if_false, Nat.reduceEqDiff, reduceCtorEq, eq_self, *]
    | simp (disch := omega) only [getD_ints, wrapI]
    | omega)
  refine leave_g (.inr rfl) [v, i64 0] rfl ?_ (by simp only [plainL, plain, plain_prR]; rfl)
  simp only [List.map_cons, List.map_nil, hv.1.1, rfy0]
set_option maxHeartbeats 8000000 in
theorem k21 (h : TmOk n s rows) (h0 : checkT n rows = 0) : Gv 1 Try.prog 21 [tmV n nil rows] [.sl false 2 (prR (pl (fun i => lowD (mir (V rows) rows.length s n i) (rows.length * rows.length)) n)), i64 0] := by
  refine gv_of e21 ?_
  obtain ⟨hk, hn, hn2, hr, hb⟩ := h
  have h37 := k37 (S := (n : Int)) (nil := nil) (rows := rows) (by omega) (fun t ht => by rw [hr t ht]; omega)
  rw [h0] at h37
  have h86 := k86 (nil := nil) hk hn hn2 hr hb
  have hkk : 1 ≤ (rows.length : Int) * (rows.length : Int) ∧ (rows.length : Int) * (rows.length : Int) ≤ 144 := by
    have h1 := Nat.mul_le_mul hk.1 hk.1
    have h2 := Nat.mul_le_mul hk.2 hk.2
    rw [← Int.natCast_mul]; omega
  have ew : IntKind.i64.wrap ((rows.length : Int) * (rows.length : Int)) = (rows.length : Int) * (rows.length : Int) := wrapI (by omega) (by omega)
  have hl := mk_len n (rst (V rows) rows.length)
  have hl2 := mk_len n (mir (V rows) rows.length s n)
  have h87 := k87 (nl := false) (xs := mk n (mir (V rows) rows.length s n)) (d := rows.length * rows.length) (fun k hk2 => by
    rw [hl2] at hk2
    rw [mk_get hk2]
    have := mirp_bd (V := V rows) (k := rows.length) (s := s) (n := n) (j := k) (u := rows.length) (by omega) hk.2 (Nat.le_refl _) hb
    have e1 : mirp (V rows) rows.length s n rows.length k = mir (V rows) rows.length s n k := rfl
    omega) (by omega) (by omega)
  have e : pl (fun i => lowD ((mk n (mir (V rows) rows.length s n)).getD i 0) (rows.length * rows.length)) n = pl (fun i => lowD (mir (V rows) rows.length s n i) (rows.length * rows.length)) n := pl_congr fun i hi => by rw [mk_get hi]
  rw [hl2, e] at h87
  have hlr : (rows.map fun r => [ints r.1 r.2]).length = rows.length := by simp
  have hp := plain_rws rows
  clear hr hb h0 e
  generalize mk n (rst (V rows) rows.length) = L at *
  generalize mk n (mir (V rows) rows.length s n) = M at *
  generalize hq : pl (fun i => lowD (mir (V rows) rows.length s n i) (rows.length * rows.length)) n = Q at *
  replace h37 := And.intro h37 trivial
  replace h86 := And.intro h86 trivial
  have hQ : Q.length = n := hq ▸ pl_len _ _
  have g87 := Gv.of_fn 1 h87 [.lsl 0 0 n] (ws := [.sl false 2 (prR Q)]) rfl (by simp only [List.map_cons, List.map_nil]; rw [rfy_prB (d := 0) (own := true) rfl hQ]) (by simp only [plainL, plain, plain_prR]; rfl)
  clear h87
  replace g87 := And.intro g87 trivial
  unfold c21
  repeat' (first
    | with_reducible first
      | refine T_seq ?_
      | refine T_reg ?_
      | refine T_skip ?_
      | refine T_exit ?_
      | refine T_block ?_
      | refine T_cond_t rfl ?_
      | refine T_cond_f rfl ?_
      | (show wcall _ false (.lit (.func (.func 37) _ _)) _ _ _ _; refine wcall_fn (h37.1) rfl (by simp [plainL, plain, plain_rws]) ?_)
      | (show wcall _ false (.lit (.func (.func 86) _ _)) _ _ _ _; refine wcall_fn (h86.1) rfl (by simp [plainL, plain, plain_rws]) ?_)
      | ((first | refine T_cond rfl (fun hc => ?_) (fun hc => ?_) | refine wguard_split (fun hc => ?_) (fun hc => ?_)) <;> have hd := hc <;> (try simp (disch := omega) only [wrapI] at hd) <;> have hs := hd <;> (try simp only [Bool.not_eq_true', Bool.not_eq_false', Bool.and_eq_true, Bool.and_eq_false_iff, Bool.or_eq_true, Bool.or_eq_false_iff, decide_eq_true_eq, decide_eq_false_iff_not, beq_iff_eq, bne_iff_ne, beq_eq_false_iff_ne, bne_eq_false_iff_eq, Bool.not_true, Bool.not_false, gt_iff_lt, ge_iff_le, Int.not_lt, Int.not_le, ne_eq, Decidable.not_not] at hd) <;> (try simp at hs))
      | refine T_ret ?_
      | refine wif_intro ?_ (fun hc => ?_)
      | refine And.intro ?_ ?_
      | intro hc
    | simp (maxSteps := 4000000) only [wops_nil, wops_cons, wstep_none, wrun_call, wrun_mv, wrun_bin, wrun_ext, wrun_load, wrun_faddr, wrun_len, wrun_box, wop, aop, ev, look, put_some, writes, ores_some, ores_map, ores_bind, binV, thenK, intV, lenOf, value, cut, hget, AV.parts, isOne, toLits, mkAgg, List.map_cons, List.map_nil, List.length_cons, List.length_nil, List.getElem?_cons_zero, List.getElem?_cons_succ, List.set_cons_zero, List.take_succ_cons, List.take_nil, List.drop_succ_cons, List.drop_zero, List.cons_append, List.nil_append, List.append_nil, List.replicate_zero, List.replicate_succ, List.getD_cons_zero, List.zipIdx_cons, List.zipIdx_nil, List.all_cons, List.all_nil, Option.pure_def, Option.bind_eq_bind, Option.getD_some, Option.map_some, Option.map_none, if_true, if_false, Nat.reduceEqDiff, Nat.reduceAdd, Nat.add_zero, Nat.zero_add, Nat.zero_ne_one, reduceCtorEq, Bool.and_true, Bool.false_eq_true, eq_self, true_and, and_self, freeze, lidsL, lids, List.flatMap_cons, List.flatMap_nil, List.all_cons, ren, renL, renB, shiftρ, renR_ints, *]
    | simp (disch := omega) only [getD_ints, wrapI]
    | (with_reducible show wcall _ false (.lit (.func (.func 37) _ _)) _ _ _ _; refine wcall_fn (h37.1) ?_ ?_ ?_; (next => simp [rfyL, rfy, hget, ints, take_rfy, renR_rws, renR_prR, plain_rws]); (next => simp [plainL, plain, plainR, renR_rws, renR_prR, plain_rws]))
    | (with_reducible show wcall _ false (.lit (.func (.func 86) _ _)) _ _ _ _; refine wcall_fn (h86.1) ?_ ?_ ?_; (next => simp [rfyL, rfy, hget, ints, take_rfy, renR_rws, renR_prR, plain_rws]); (next => simp [plainL, plain, plainR, renR_rws, renR_prR, plain_rws]))
    | omega)
  refine wcall_E1 g87.1 (by simp only [rfyL, List.map_cons, List.map_nil]; rw [rfy_iB (d := 5) (own := true) (xs := M) rfl hl2]; rfl) (by simp [plainL, plain]) ?_
  intro v H' hx hv
  replace hv := And.intro hv trivial
  clear hx g87
  repeat' (first
    | with_reducible first
      | refine T_seq ?_
      | refine T_reg ?_
      | refine T_skip ?_
      | refine T_exit ?_
      | refine T_block ?_
      | refine T_cond_t rfl ?_
      | refine T_cond_f rfl ?_
      | ((first | refine T_cond rfl (fun hc => ?_) (fun hc => ?_) | refine wguard_split (fun hc => ?_) (fun hc => ?_)) <;> have hd := hc <;> (try simp (disch := omega) only [wrapI] at hd) <;> have hs := hd <;> (try simp only [Bool.not_eq_true', Bool.not_eq_false', Bool.and_eq_true, Bool.and_eq_false_iff, Bool.or_eq_true, Bool.or_eq_false_iff, decide_eq_true_eq, decide_eq_false_iff_not, beq_iff_eq, bne_iff_ne, beq_eq_false_iff_ne, bne_eq_false_iff_eq, Bool.not_true, Bool.not_false, gt_iff_lt, ge_iff_le, Int.not_lt, Int.not_le, ne_eq, Decidable.not_not] at hd) <;> (try simp at hs))
      | refine T_ret ?_
      | refine wif_intro ?_ (fun hc => ?_)
      | refine And.intro ?_ ?_
      | intro hc
    | simp (maxSteps := 4000000) only [wops_nil, wops_cons, wstep_none, wrun_mv, wop, aop, ev, look, put_some, writes, ores_some, thenK, if_true, if_false, Nat.reduceEqDiff, reduceCtorEq, eq_self, *]
    | simp (disch := omega) only [getD_ints, wrapI]
    | omega)
  refine leave_g (.inr rfl) [v, i64 0] rfl ?_ (by simp only [plainL, plain, plain_prR]; rfl)
  simp only [List.map_cons, List.map_nil, hv.1.1, rfy0]
end
end Go.Abs
