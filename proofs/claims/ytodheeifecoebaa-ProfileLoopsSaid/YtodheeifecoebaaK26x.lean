import Derived.Test.YtodheeifecoebaaK25x
set_option linter.all false
set_option linter.unusedVariables false
set_option linter.unusedSimpArgs false
set_option linter.unusedSectionVars false
namespace Go.Abs
open Go.Proofs
/-- the specification's step -/
def refStep (w : Int) (ph : List Int) (a b : Int) : Int × Int :=
  if rthereB ph a && rthereB ph b then (if besideB w a b then (stepI ph a b, 0) else (0, 14)) else (0, 6)
theorem there_eq {ph : List Int} (hp : okPh ph) (c : Int) : rthereB ph c = thereB ph c := by
  unfold rthereB thereB
  have := hp c.toNat
  rw [Bool.eq_iff_iff]; simp only [decide_eq_true_eq]; omega
theorem besideB_symm (w a b : Int) : besideB w b a = besideB w a b := by
  unfold besideB lo2 hi2
  by_cases h : a < b
  · have h2 : ¬ b < a := by omega
    simp [h, h2]
  · by_cases h2 : b < a
    · simp [h, h2]
    · have : a = b := by omega
      subst this; rfl
theorem thereB_r {ph : List Int} {c : Int} (h : thereB ph c = true) : 0 ≤ c ∧ c < ph.length := by
  unfold thereB at h; simp only [decide_eq_true_eq] at h; omega
set_option maxHeartbeats 8000000 in
theorem k64a (w : Int) (nil : Bool) (ph : List Int) (a b : Int) (hl : ph.length < 1000000) (hp : okPh ph) (hw : 1 ≤ w ∧ w ≤ 1000000) (hab : ¬ b < a) : Fn Try.prog 64 [fmap w nil ph, i64 a, i64 b] (.tup [i64 (refStep w ph a b).1, i64 (refStep w ph a b).2]) [] := by
  refine fn_of e64 ?_
  unfold c64 refStep
  have hl2 : ph.length < 4611686018427387904 := by omega
  cases ha : rthereB ph a with
  | false =>
    repeat' (first
      | ((with_reducible refine T_calm ?_ ?_); rfl)
      | with_reducible first
        | refine T_seq ?_
        | refine T_reg ?_
        | refine T_draw ?_
        | refine T_skip ?_
        | refine T_exit ?_
        | refine T_block ?_
        | refine T_cond_t rfl ?_
        | refine T_cond_f rfl ?_
        | refine wdW_cons rfl ?_
        | (show wcall _ false (.lit (.func (.func 124) _ _)) _ _ _ _; refine wcall_fn (k124 _ _ _ _ hl2) rfl (by simp [plainL, plain]) ?_)
        | (show wcallX _ false (.lit (.func (.func 124) _ _)) _ _ _ _; refine wcallX_fn (k124 _ _ _ _ hl2) rfl (by simp [plainL, plain, plainR, ha]) ?_)
        | ((first | refine T_cond rfl (fun hc => ?_) (fun hc => ?_) | refine wguard_split (fun hc => ?_) (fun hc => ?_) | refine wguardX_split (fun hc => ?_) (fun hc => ?_)) <;> have hd := hc <;> (try simp (disch := omega) only [wrapI] at hd) <;> have hs := hd <;> (try simp only [Bool.not_eq_true', Bool.not_eq_false', Bool.and_eq_true, Bool.and_eq_false_iff, Bool.or_eq_true, Bool.or_eq_false_iff, decide_eq_true_eq, decide_eq_false_iff_not, beq_iff_eq, bne_iff_ne, beq_eq_false_iff_ne, bne_eq_false_iff_eq, Bool.not_true, Bool.not_false, gt_iff_lt, ge_iff_le, Int.not_lt, Int.not_le, ne_eq, Decidable.not_not] at hd) <;> (try simp at hs))
        | refine T_ret ?_
        | refine leave_of (.inr rfl) _ rfl ?_
        | refine leave_of (.inl rfl) _ rfl ?_
        | refine leaveA_of (.inr rfl) _ rfl ?_
        | refine leaveA_of (.inl rfl) _ rfl ?_
        | refine wif_intro ?_ (fun hc => ?_)
        | refine And.intro ?_ ?_
        | intro hc
      | simp (maxSteps := 4000000) only [wops_nil, wops_cons, wstep_none, wstep_some, wguard_tf, wrun_call, wrun_mv, wrun_pick, wrun_not, wrun_load, wrun_box, get_mk, wop, aop, ev, look, put_some, writes, ores_some, thenK, boolV, value, cut, hget, AV.parts, isOne, toLits, mkAgg, tupOf, List.map_cons, List.map_nil, List.length_cons, List.length_nil, List.getElem?_cons_zero, List.set_cons_zero, List.take_succ_cons, List.take_nil, List.drop_zero, List.nil_append, List.append_nil, List.replicate_zero, List.replicate_succ, List.getD_cons_zero, List.zipIdx_cons, List.zipIdx_nil, List.all_cons, List.all_nil, Option.getD_some, Option.map_some, Option.map_none, if_true, if_false, Nat.reduceEqDiff, Nat.reduceAdd, Nat.add_zero, Nat.zero_add, Nat.zero_ne_one, reduceCtorEq, Bool.not_false, Bool.and_true, Bool.false_and, Bool.false_eq_true, eq_self, true_and, and_self, freeze, lidsL, lids, List.flatMap_cons, List.flatMap_nil, List.all_cons, ren, renL, *]
      | simp (disch := omega) only [getD_ints, wrapI]
      | (with_reducible show wcall _ false (.lit (.func (.func 124) _ _)) _ _ _ _; refine wcall_fn (k124 _ _ _ _ hl2) ?_ ?_ ?_; (next => simp [rfyL, rfy, hget, ints, take_rfy, ha]); (next => simp [plainL, plain, plainR, ha]))
      | (with_reducible show wcallX _ false (.lit (.func (.func 124) _ _)) _ _ _ _; refine wcallX_fn (k124 _ _ _ _ hl2) ?_ ?_ ?_; (next => simp [rfyL, rfy, hget, ints, take_rfy, ha]); (next => simp [plainL, plain, plainR, ha]))
      | omega)
  | true =>
    cases hb : rthereB ph b with
    | false =>
      repeat' (first
        | ((with_reducible refine T_calm ?_ ?_); rfl)
        | with_reducible first
          | refine T_seq ?_
          | refine T_reg ?_
          | refine T_draw ?_
          | refine T_skip ?_
          | refine T_exit ?_
          | refine T_block ?_
          | refine T_cond_t rfl ?_
          | refine T_cond_f rfl ?_
          | refine wdW_cons rfl ?_
          | (show wcall _ false (.lit (.func (.func 124) _ _)) _ _ _ _; refine wcall_fn (k124 _ _ _ _ hl2) rfl (by simp [plainL, plain]) ?_)
          | (show wcallX _ false (.lit (.func (.func 124) _ _)) _ _ _ _; refine wcallX_fn (k124 _ _ _ _ hl2) rfl (by simp [plainL, plain, plainR, ha, hb]) ?_)
          | ((first | refine T_cond rfl (fun hc => ?_) (fun hc => ?_) | refine wguard_split (fun hc => ?_) (fun hc => ?_) | refine wguardX_split (fun hc => ?_) (fun hc => ?_)) <;> have hd := hc <;> (try simp (disch := omega) only [wrapI] at hd) <;> have hs := hd <;> (try simp only [Bool.not_eq_true', Bool.not_eq_false', Bool.and_eq_true, Bool.and_eq_false_iff, Bool.or_eq_true, Bool.or_eq_false_iff, decide_eq_true_eq, decide_eq_false_iff_not, beq_iff_eq, bne_iff_ne, beq_eq_false_iff_ne, bne_eq_false_iff_eq, Bool.not_true, Bool.not_false, gt_iff_lt, ge_iff_le, Int.not_lt, Int.not_le, ne_eq, Decidable.not_not] at hd) <;> (try simp at hs))
          | refine T_ret ?_
          | refine leave_of (.inr rfl) _ rfl ?_
          | refine leave_of (.inl rfl) _ rfl ?_
          | refine leaveA_of (.inr rfl) _ rfl ?_
          | refine leaveA_of (.inl rfl) _ rfl ?_
          | refine wif_intro ?_ (fun hc => ?_)
          | refine And.intro ?_ ?_
          | intro hc
        | simp (maxSteps := 4000000) only [wops_nil, wops_cons, wstep_none, wstep_some, wguard_ff, wrun_call, wrun_mv, wrun_pick, wrun_not, wrun_load, wrun_box, get_mk, wop, aop, ev, look, put_some, writes, ores_some, thenK, boolV, value, cut, hget, AV.parts, isOne, toLits, mkAgg, tupOf, List.map_cons, List.map_nil, List.length_cons, List.length_nil, List.getElem?_cons_zero, List.set_cons_zero, List.take_succ_cons, List.take_nil, List.drop_zero, List.nil_append, List.append_nil, List.replicate_zero, List.replicate_succ, List.getD_cons_zero, List.zipIdx_cons, List.zipIdx_nil, List.all_cons, List.all_nil, Option.getD_some, Option.map_some, Option.map_none, if_true, if_false, Nat.reduceEqDiff, Nat.reduceAdd, Nat.add_zero, Nat.zero_add, Nat.zero_ne_one, reduceCtorEq, Bool.not_true, Bool.not_false, Bool.and_true, Bool.and_false, Bool.false_eq_true, eq_self, true_and, and_self, freeze, lidsL, lids, List.flatMap_cons, List.flatMap_nil, List.all_cons, ren, renL, *]
        | simp (disch := omega) only [getD_ints, wrapI]
        | (with_reducible show wcall _ false (.lit (.func (.func 124) _ _)) _ _ _ _; refine wcall_fn (k124 _ _ _ _ hl2) ?_ ?_ ?_; (next => simp [rfyL, rfy, hget, ints, take_rfy, ha, hb]); (next => simp [plainL, plain, plainR, ha, hb]))
        | (with_reducible show wcallX _ false (.lit (.func (.func 124) _ _)) _ _ _ _; refine wcallX_fn (k124 _ _ _ _ hl2) ?_ ?_ ?_; (next => simp [rfyL, rfy, hget, ints, take_rfy, ha, hb]); (next => simp [plainL, plain, plainR, ha, hb]))
        | omega)
    | true =>
      have h3 := thereB_r (there_eq hp a ▸ ha)
      have h4 := thereB_r (there_eq hp b ▸ hb)
      have h1 := hp a.toNat
      have h2 := hp b.toNat
      have hz : id (stepI ph a b = (ph.getD b.toNat 0 - ph.getD a.toNat 0 + 500) % 1000 - 500) := by
        show stepI ph a b = _
        unfold stepI stp; rw [if_neg hab]
      cases hn : besideB w a b with
      | false =>
        repeat' (first
          | ((with_reducible refine T_calm ?_ ?_); rfl)
          | with_reducible first
            | refine T_seq ?_
            | refine T_reg ?_
            | refine T_draw ?_
            | refine T_skip ?_
            | refine T_exit ?_
            | refine T_block ?_
            | refine T_cond_t rfl ?_
            | refine T_cond_f rfl ?_
            | refine wdW_cons rfl ?_
            | (show wcall _ false (.lit (.func (.func 124) _ _)) _ _ _ _; refine wcall_fn (k124 _ _ _ _ hl2) rfl (by simp [plainL, plain]) ?_)
            | (show wcallX _ false (.lit (.func (.func 124) _ _)) _ _ _ _; refine wcallX_fn (k124 _ _ _ _ hl2) rfl (by simp [plainL, plain, plainR, ha, hb, hn]) ?_)
            | (show wcall _ false (.lit (.func (.func 125) _ _)) _ _ _ _; refine wcall_fn (k125 _ _ _ _ _ hw (by omega) (by omega)) rfl (by simp [plainL, plain]) ?_)
            | (show wcallX _ false (.lit (.func (.func 125) _ _)) _ _ _ _; refine wcallX_fn (k125 _ _ _ _ _ hw (by omega) (by omega)) rfl (by simp [plainL, plain, plainR, ha, hb, hn]) ?_)
            | ((first | refine T_cond rfl (fun hc => ?_) (fun hc => ?_) | refine wguard_split (fun hc => ?_) (fun hc => ?_) | refine wguardX_split (fun hc => ?_) (fun hc => ?_)) <;> have hd := hc <;> (try simp (disch := omega) only [wrapI] at hd) <;> have hs := hd <;> (try simp only [Bool.not_eq_true', Bool.not_eq_false', Bool.and_eq_true, Bool.and_eq_false_iff, Bool.or_eq_true, Bool.or_eq_false_iff, decide_eq_true_eq, decide_eq_false_iff_not, beq_iff_eq, bne_iff_ne, beq_eq_false_iff_ne, bne_eq_false_iff_eq, Bool.not_true, Bool.not_false, gt_iff_lt, ge_iff_le, Int.not_lt, Int.not_le, ne_eq, Decidable.not_not] at hd) <;> (try simp at hs))
            | refine T_ret ?_
            | refine leave_of (.inr rfl) _ rfl ?_
            | refine leave_of (.inl rfl) _ rfl ?_
            | refine leaveA_of (.inr rfl) _ rfl ?_
            | refine leaveA_of (.inl rfl) _ rfl ?_
            | refine wif_intro ?_ (fun hc => ?_)
            | refine And.intro ?_ ?_
            | intro hc
          | simp (maxSteps := 4000000) only [wops_nil, wops_cons, wstep_none, wstep_some, wguard_ff, wrun_call, wrun_mv, wrun_pick, wrun_not, wrun_load, wrun_box, get_mk, wop, aop, ev, look, put_some, writes, ores_some, thenK, boolV, value, cut, hget, AV.parts, isOne, toLits, mkAgg, tupOf, List.map_cons, List.map_nil, List.length_cons, List.length_nil, List.getElem?_cons_zero, List.set_cons_zero, List.take_succ_cons, List.take_nil, List.drop_zero, List.nil_append, List.append_nil, List.replicate_zero, List.replicate_succ, List.getD_cons_zero, List.zipIdx_cons, List.zipIdx_nil, List.all_cons, List.all_nil, Option.getD_some, Option.map_some, Option.map_none, if_true, if_false, Nat.reduceEqDiff, Nat.reduceAdd, Nat.add_zero, Nat.zero_add, Nat.zero_ne_one, reduceCtorEq, Bool.not_true, Bool.not_false, Bool.and_true, Bool.false_eq_true, eq_self, true_and, and_self, freeze, lidsL, lids, List.flatMap_cons, List.flatMap_nil, List.all_cons, ren, renL, *]
          | simp (disch := omega) only [getD_ints, wrapI]
          | (with_reducible show wcall _ false (.lit (.func (.func 124) _ _)) _ _ _ _; refine wcall_fn (k124 _ _ _ _ hl2) ?_ ?_ ?_; (next => simp [rfyL, rfy, hget, ints, take_rfy, ha, hb, hn]); (next => simp [plainL, plain, plainR, ha, hb, hn]))
          | (with_reducible show wcallX _ false (.lit (.func (.func 124) _ _)) _ _ _ _; refine wcallX_fn (k124 _ _ _ _ hl2) ?_ ?_ ?_; (next => simp [rfyL, rfy, hget, ints, take_rfy, ha, hb, hn]); (next => simp [plainL, plain, plainR, ha, hb, hn]))
          | (with_reducible show wcall _ false (.lit (.func (.func 125) _ _)) _ _ _ _; refine wcall_fn (k125 _ _ _ _ _ hw (by omega) (by omega)) ?_ ?_ ?_; (next => simp [rfyL, rfy, hget, ints, take_rfy, ha, hb, hn]); (next => simp [plainL, plain, plainR, ha, hb, hn]))
          | (with_reducible show wcallX _ false (.lit (.func (.func 125) _ _)) _ _ _ _; refine wcallX_fn (k125 _ _ _ _ _ hw (by omega) (by omega)) ?_ ?_ ?_; (next => simp [rfyL, rfy, hget, ints, take_rfy, ha, hb, hn]); (next => simp [plainL, plain, plainR, ha, hb, hn]))
          | omega)
      | true =>
        repeat' (first
          | ((with_reducible refine T_calm ?_ ?_); rfl)
          | with_reducible first
            | refine T_seq ?_
            | refine T_reg ?_
            | refine T_draw ?_
            | refine T_skip ?_
            | refine T_exit ?_
            | refine T_block ?_
            | refine T_cond_t rfl ?_
            | refine T_cond_f rfl ?_
            | refine wdW_cons rfl ?_
            | (show wcall _ false (.lit (.func (.func 124) _ _)) _ _ _ _; refine wcall_fn (k124 _ _ _ _ hl2) rfl (by simp [plainL, plain]) ?_)
            | (show wcallX _ false (.lit (.func (.func 124) _ _)) _ _ _ _; refine wcallX_fn (k124 _ _ _ _ hl2) rfl (by simp [plainL, plain, plainR, ha, hb, hn]) ?_)
            | (show wcall _ false (.lit (.func (.func 125) _ _)) _ _ _ _; refine wcall_fn (k125 _ _ _ _ _ hw (by omega) (by omega)) rfl (by simp [plainL, plain]) ?_)
            | (show wcallX _ false (.lit (.func (.func 125) _ _)) _ _ _ _; refine wcallX_fn (k125 _ _ _ _ _ hw (by omega) (by omega)) rfl (by simp [plainL, plain, plainR, ha, hb, hn]) ?_)
            | (show wcall _ false (.lit (.func (.func 24) _ _)) _ _ _ _; refine wcall_fn (k24 _ _ (by omega) (by omega) (by omega) (by omega)) rfl (by simp [plainL, plain, plainR, ha, hb, hn]) ?_)
            | (show wcallX _ false (.lit (.func (.func 24) _ _)) _ _ _ _; refine wcallX_fn (k24 _ _ (by omega) (by omega) (by omega) (by omega)) rfl (by simp [plainL, plain]) ?_)
            | ((first | refine T_cond rfl (fun hc => ?_) (fun hc => ?_) | refine wguard_split (fun hc => ?_) (fun hc => ?_) | refine wguardX_split (fun hc => ?_) (fun hc => ?_)) <;> have hd := hc <;> (try simp (disch := omega) only [wrapI] at hd) <;> have hs := hd <;> (try simp only [Bool.not_eq_true', Bool.not_eq_false', Bool.and_eq_true, Bool.and_eq_false_iff, Bool.or_eq_true, Bool.or_eq_false_iff, decide_eq_true_eq, decide_eq_false_iff_not, beq_iff_eq, bne_iff_ne, beq_eq_false_iff_ne, bne_eq_false_iff_eq, Bool.not_true, Bool.not_false, gt_iff_lt, ge_iff_le, Int.not_lt, Int.not_le, ne_eq, Decidable.not_not] at hd) <;> (try simp at hs))
            | refine T_ret ?_
            | refine leave_of (.inr rfl) _ rfl ?_
            | refine leave_of (.inl rfl) _ rfl ?_
            | refine leaveA_of (.inr rfl) _ rfl ?_
            | refine leaveA_of (.inl rfl) _ rfl ?_
            | refine wif_intro ?_ (fun hc => ?_)
            | refine And.intro ?_ ?_
            | intro hc
          | simp (maxSteps := 4000000) only [wops_nil, wops_cons, wstep_none, wstep_some, wguard_ff, wrun_call, wrun_mv, wrun_pick, wrun_bin, wrun_not, wrun_load, wrun_faddr, wrun_iaddrS, wrun_box, wrunX_mv, wrunX_bin, wrunX_load, wrunX_faddr, wrunX_iaddrS, wdW_nil, wstepX_none, wrunX_call, get_mk, wop, aop, ev, look, put_some, writes, ores_some, ores_ite_none, ores_map, binV, thenK, boolV, value, cut, hget, AV.parts, isOne, toLits, mkAgg, tupOf, List.map_cons, List.map_nil, List.length_cons, List.length_nil, List.getElem?_cons_zero, List.set_cons_zero, List.take_succ_cons, List.take_nil, List.drop_succ_cons, List.drop_zero, List.nil_append, List.append_nil, List.replicate_zero, List.replicate_succ, List.getD_cons_zero, List.zipIdx_cons, List.zipIdx_nil, List.all_cons, List.all_nil, List.length_map, Option.getD_some, Option.map_some, Option.map_none, if_true, if_false, Nat.reduceEqDiff, Nat.reduceAdd, Nat.add_zero, Nat.zero_add, Nat.zero_ne_one, reduceCtorEq, Bool.not_true, Bool.and_true, Bool.false_eq_true, eq_self, true_and, and_self, decide_false, freeze, lidsL, lids, List.flatMap_cons, List.flatMap_nil, List.all_cons, ren, renL, *]
          | simp (disch := omega) only [getD_ints, wrapI]
          | (with_reducible show wcall _ false (.lit (.func (.func 124) _ _)) _ _ _ _; refine wcall_fn (k124 _ _ _ _ hl2) ?_ ?_ ?_; (next => simp [rfyL, rfy, hget, ints, take_rfy, ha, hb, hn]); (next => simp [plainL, plain, plainR, ha, hb, hn]))
          | (with_reducible show wcallX _ false (.lit (.func (.func 124) _ _)) _ _ _ _; refine wcallX_fn (k124 _ _ _ _ hl2) ?_ ?_ ?_; (next => simp [rfyL, rfy, hget, ints, take_rfy, ha, hb, hn]); (next => simp [plainL, plain, plainR, ha, hb, hn]))
          | (with_reducible show wcall _ false (.lit (.func (.func 125) _ _)) _ _ _ _; refine wcall_fn (k125 _ _ _ _ _ hw (by omega) (by omega)) ?_ ?_ ?_; (next => simp [rfyL, rfy, hget, ints, take_rfy, ha, hb, hn]); (next => simp [plainL, plain, plainR, ha, hb, hn]))
          | (with_reducible show wcallX _ false (.lit (.func (.func 125) _ _)) _ _ _ _; refine wcallX_fn (k125 _ _ _ _ _ hw (by omega) (by omega)) ?_ ?_ ?_; (next => simp [rfyL, rfy, hget, ints, take_rfy, ha, hb, hn]); (next => simp [plainL, plain, plainR, ha, hb, hn]))
          | (with_reducible show wcall _ false (.lit (.func (.func 24) _ _)) _ _ _ _; refine wcall_fn (k24 _ _ (by omega) (by omega) (by omega) (by omega)) ?_ ?_ ?_; (next => simp [rfyL, rfy, hget, ints, take_rfy, ha, hb, hn]); (next => simp [plainL, plain, plainR, ha, hb, hn]))
          | (with_reducible show wcallX _ false (.lit (.func (.func 24) _ _)) _ _ _ _; refine wcallX_fn (k24 _ _ (by omega) (by omega) (by omega) (by omega)) ?_ ?_ ?_; (next => simp [rfyL, rfy, hget, ints, take_rfy, ha, hb, hn]); (next => simp [plainL, plain, plainR, ha, hb, hn]))
          | omega)
        all_goals (rw [show stepI ph a b = _ from hz])
set_option maxHeartbeats 8000000 in
theorem k64 (w : Int) (nil : Bool) (ph : List Int) (a b : Int) (hl : ph.length < 1000000) (hp : okPh ph) (hw : 1 ≤ w ∧ w ≤ 1000000) : Fn Try.prog 64 [fmap w nil ph, i64 a, i64 b] (.tup [i64 (refStep w ph a b).1, i64 (refStep w ph a b).2]) [] := by
  by_cases hab : ¬ b < a
  · exact k64a w nil ph a b hl hp hw hab
  have hab : b < a := by omega
  refine fn_of e64 ?_
  have hl2 : ph.length < 4611686018427387904 := by omega
  have hrec := k64a w nil ph b a hl hp hw (by omega)
  unfold refStep at hrec
  unfold c64 refStep
  cases ha : rthereB ph a with
  | false =>
    repeat' (first
      | ((with_reducible refine T_calm ?_ ?_); rfl)
      | with_reducible first
        | refine T_seq ?_
        | refine T_reg ?_
        | refine T_draw ?_
        | refine T_skip ?_
        | refine T_exit ?_
        | refine T_block ?_
        | refine T_cond_t rfl ?_
        | refine T_cond_f rfl ?_
        | refine wdW_cons rfl ?_
        | (show wcall _ false (.lit (.func (.func 124) _ _)) _ _ _ _; refine wcall_fn (k124 _ _ _ _ hl2) rfl (by simp [plainL, plain]) ?_)
        | (show wcallX _ false (.lit (.func (.func 124) _ _)) _ _ _ _; refine wcallX_fn (k124 _ _ _ _ hl2) rfl (by simp [plainL, plain, plainR, ha]) ?_)
        | ((first | refine T_cond rfl (fun hc => ?_) (fun hc => ?_) | refine wguard_split (fun hc => ?_) (fun hc => ?_) | refine wguardX_split (fun hc => ?_) (fun hc => ?_)) <;> have hd := hc <;> (try simp (disch := omega) only [wrapI] at hd) <;> have hs := hd <;> (try simp only [Bool.not_eq_true', Bool.not_eq_false', Bool.and_eq_true, Bool.and_eq_false_iff, Bool.or_eq_true, Bool.or_eq_false_iff, decide_eq_true_eq, decide_eq_false_iff_not, beq_iff_eq, bne_iff_ne, beq_eq_false_iff_ne, bne_eq_false_iff_eq, Bool.not_true, Bool.not_false, gt_iff_lt, ge_iff_le, Int.not_lt, Int.not_le, ne_eq, Decidable.not_not] at hd) <;> (try simp at hs))
        | refine T_ret ?_
        | refine leave_of (.inr rfl) _ rfl ?_
        | refine leave_of (.inl rfl) _ rfl ?_
        | refine leaveA_of (.inr rfl) _ rfl ?_
        | refine leaveA_of (.inl rfl) _ rfl ?_
        | refine wif_intro ?_ (fun hc => ?_)
        | refine And.intro ?_ ?_
        | intro hc
      | simp (maxSteps := 4000000) only [wops_nil, wops_cons, wstep_none, wstep_some, wguard_tf, wrun_call, wrun_mv, wrun_pick, wrun_not, wrun_load, wrun_box, get_mk, wop, aop, ev, look, put_some, writes, ores_some, thenK, boolV, value, cut, hget, AV.parts, isOne, toLits, mkAgg, tupOf, List.map_cons, List.map_nil, List.length_cons, List.length_nil, List.getElem?_cons_zero, List.set_cons_zero, List.take_succ_cons, List.take_nil, List.drop_zero, List.nil_append, List.append_nil, List.replicate_zero, List.replicate_succ, List.getD_cons_zero, List.zipIdx_cons, List.zipIdx_nil, List.all_cons, List.all_nil, Option.getD_some, Option.map_some, Option.map_none, if_true, if_false, Nat.reduceEqDiff, Nat.reduceAdd, Nat.add_zero, Nat.zero_add, Nat.zero_ne_one, reduceCtorEq, Bool.not_false, Bool.and_true, Bool.false_and, Bool.false_eq_true, eq_self, true_and, and_self, freeze, lidsL, lids, List.flatMap_cons, List.flatMap_nil, List.all_cons, ren, renL, *]
      | simp (disch := omega) only [getD_ints, wrapI]
      | (with_reducible show wcall _ false (.lit (.func (.func 124) _ _)) _ _ _ _; refine wcall_fn (k124 _ _ _ _ hl2) ?_ ?_ ?_; (next => simp [rfyL, rfy, hget, ints, take_rfy, ha]); (next => simp [plainL, plain, plainR, ha]))
      | (with_reducible show wcallX _ false (.lit (.func (.func 124) _ _)) _ _ _ _; refine wcallX_fn (k124 _ _ _ _ hl2) ?_ ?_ ?_; (next => simp [rfyL, rfy, hget, ints, take_rfy, ha]); (next => simp [plainL, plain, plainR, ha]))
      | omega)
  | true =>
    cases hb : rthereB ph b with
    | false =>
      repeat' (first
        | ((with_reducible refine T_calm ?_ ?_); rfl)
        | with_reducible first
          | refine T_seq ?_
          | refine T_reg ?_
          | refine T_draw ?_
          | refine T_skip ?_
          | refine T_exit ?_
          | refine T_block ?_
          | refine T_cond_t rfl ?_
          | refine T_cond_f rfl ?_
          | refine wdW_cons rfl ?_
          | (show wcall _ false (.lit (.func (.func 124) _ _)) _ _ _ _; refine wcall_fn (k124 _ _ _ _ hl2) rfl (by simp [plainL, plain]) ?_)
          | (show wcallX _ false (.lit (.func (.func 124) _ _)) _ _ _ _; refine wcallX_fn (k124 _ _ _ _ hl2) rfl (by simp [plainL, plain, plainR, ha, hb]) ?_)
          | ((first | refine T_cond rfl (fun hc => ?_) (fun hc => ?_) | refine wguard_split (fun hc => ?_) (fun hc => ?_) | refine wguardX_split (fun hc => ?_) (fun hc => ?_)) <;> have hd := hc <;> (try simp (disch := omega) only [wrapI] at hd) <;> have hs := hd <;> (try simp only [Bool.not_eq_true', Bool.not_eq_false', Bool.and_eq_true, Bool.and_eq_false_iff, Bool.or_eq_true, Bool.or_eq_false_iff, decide_eq_true_eq, decide_eq_false_iff_not, beq_iff_eq, bne_iff_ne, beq_eq_false_iff_ne, bne_eq_false_iff_eq, Bool.not_true, Bool.not_false, gt_iff_lt, ge_iff_le, Int.not_lt, Int.not_le, ne_eq, Decidable.not_not] at hd) <;> (try simp at hs))
          | refine T_ret ?_
          | refine leave_of (.inr rfl) _ rfl ?_
          | refine leave_of (.inl rfl) _ rfl ?_
          | refine leaveA_of (.inr rfl) _ rfl ?_
          | refine leaveA_of (.inl rfl) _ rfl ?_
          | refine wif_intro ?_ (fun hc => ?_)
          | refine And.intro ?_ ?_
          | intro hc
        | simp (maxSteps := 4000000) only [wops_nil, wops_cons, wstep_none, wstep_some, wguard_ff, wrun_call, wrun_mv, wrun_pick, wrun_not, wrun_load, wrun_box, get_mk, wop, aop, ev, look, put_some, writes, ores_some, thenK, boolV, value, cut, hget, AV.parts, isOne, toLits, mkAgg, tupOf, List.map_cons, List.map_nil, List.length_cons, List.length_nil, List.getElem?_cons_zero, List.set_cons_zero, List.take_succ_cons, List.take_nil, List.drop_zero, List.nil_append, List.append_nil, List.replicate_zero, List.replicate_succ, List.getD_cons_zero, List.zipIdx_cons, List.zipIdx_nil, List.all_cons, List.all_nil, Option.getD_some, Option.map_some, Option.map_none, if_true, if_false, Nat.reduceEqDiff, Nat.reduceAdd, Nat.add_zero, Nat.zero_add, Nat.zero_ne_one, reduceCtorEq, Bool.not_true, Bool.not_false, Bool.and_true, Bool.and_false, Bool.false_eq_true, eq_self, true_and, and_self, freeze, lidsL, lids, List.flatMap_cons, List.flatMap_nil, List.all_cons, ren, renL, *]
        | simp (disch := omega) only [getD_ints, wrapI]
        | (with_reducible show wcall _ false (.lit (.func (.func 124) _ _)) _ _ _ _; refine wcall_fn (k124 _ _ _ _ hl2) ?_ ?_ ?_; (next => simp [rfyL, rfy, hget, ints, take_rfy, ha, hb]); (next => simp [plainL, plain, plainR, ha, hb]))
        | (with_reducible show wcallX _ false (.lit (.func (.func 124) _ _)) _ _ _ _; refine wcallX_fn (k124 _ _ _ _ hl2) ?_ ?_ ?_; (next => simp [rfyL, rfy, hget, ints, take_rfy, ha, hb]); (next => simp [plainL, plain, plainR, ha, hb]))
        | omega)
    | true =>
      have h3 := thereB_r (there_eq hp a ▸ ha)
      have h4 := thereB_r (there_eq hp b ▸ hb)
      cases hn : besideB w a b with
      | false =>
        repeat' (first
          | ((with_reducible refine T_calm ?_ ?_); rfl)
          | with_reducible first
            | refine T_seq ?_
            | refine T_reg ?_
            | refine T_draw ?_
            | refine T_skip ?_
            | refine T_exit ?_
            | refine T_block ?_
            | refine T_cond_t rfl ?_
            | refine T_cond_f rfl ?_
            | refine wdW_cons rfl ?_
            | (show wcall _ false (.lit (.func (.func 124) _ _)) _ _ _ _; refine wcall_fn (k124 _ _ _ _ hl2) rfl (by simp [plainL, plain]) ?_)
            | (show wcallX _ false (.lit (.func (.func 124) _ _)) _ _ _ _; refine wcallX_fn (k124 _ _ _ _ hl2) rfl (by simp [plainL, plain, plainR, ha, hb, hn]) ?_)
            | (show wcall _ false (.lit (.func (.func 125) _ _)) _ _ _ _; refine wcall_fn (k125 _ _ _ _ _ hw (by omega) (by omega)) rfl (by simp [plainL, plain]) ?_)
            | (show wcallX _ false (.lit (.func (.func 125) _ _)) _ _ _ _; refine wcallX_fn (k125 _ _ _ _ _ hw (by omega) (by omega)) rfl (by simp [plainL, plain, plainR, ha, hb, hn]) ?_)
            | ((first | refine T_cond rfl (fun hc => ?_) (fun hc => ?_) | refine wguard_split (fun hc => ?_) (fun hc => ?_) | refine wguardX_split (fun hc => ?_) (fun hc => ?_)) <;> have hd := hc <;> (try simp (disch := omega) only [wrapI] at hd) <;> have hs := hd <;> (try simp only [Bool.not_eq_true', Bool.not_eq_false', Bool.and_eq_true, Bool.and_eq_false_iff, Bool.or_eq_true, Bool.or_eq_false_iff, decide_eq_true_eq, decide_eq_false_iff_not, beq_iff_eq, bne_iff_ne, beq_eq_false_iff_ne, bne_eq_false_iff_eq, Bool.not_true, Bool.not_false, gt_iff_lt, ge_iff_le, Int.not_lt, Int.not_le, ne_eq, Decidable.not_not] at hd) <;> (try simp at hs))
            | refine T_ret ?_
            | refine leave_of (.inr rfl) _ rfl ?_
            | refine leave_of (.inl rfl) _ rfl ?_
            | refine leaveA_of (.inr rfl) _ rfl ?_
            | refine leaveA_of (.inl rfl) _ rfl ?_
            | refine wif_intro ?_ (fun hc => ?_)
            | refine And.intro ?_ ?_
            | intro hc
          | simp (maxSteps := 4000000) only [wops_nil, wops_cons, wstep_none, wstep_some, wguard_ff, wrun_call, wrun_mv, wrun_pick, wrun_not, wrun_load, wrun_box, get_mk, wop, aop, ev, look, put_some, writes, ores_some, thenK, boolV, value, cut, hget, AV.parts, isOne, toLits, mkAgg, tupOf, List.map_cons, List.map_nil, List.length_cons, List.length_nil, List.getElem?_cons_zero, List.set_cons_zero, List.take_succ_cons, List.take_nil, List.drop_zero, List.nil_append, List.append_nil, List.replicate_zero, List.replicate_succ, List.getD_cons_zero, List.zipIdx_cons, List.zipIdx_nil, List.all_cons, List.all_nil, Option.getD_some, Option.map_some, Option.map_none, if_true, if_false, Nat.reduceEqDiff, Nat.reduceAdd, Nat.add_zero, Nat.zero_add, Nat.zero_ne_one, reduceCtorEq, Bool.not_true, Bool.not_false, Bool.and_true, Bool.false_eq_true, eq_self, true_and, and_self, freeze, lidsL, lids, List.flatMap_cons, List.flatMap_nil, List.all_cons, ren, renL, *]
          | simp (disch := omega) only [getD_ints, wrapI]
          | (with_reducible show wcall _ false (.lit (.func (.func 124) _ _)) _ _ _ _; refine wcall_fn (k124 _ _ _ _ hl2) ?_ ?_ ?_; (next => simp [rfyL, rfy, hget, ints, take_rfy, ha, hb, hn]); (next => simp [plainL, plain, plainR, ha, hb, hn]))
          | (with_reducible show wcallX _ false (.lit (.func (.func 124) _ _)) _ _ _ _; refine wcallX_fn (k124 _ _ _ _ hl2) ?_ ?_ ?_; (next => simp [rfyL, rfy, hget, ints, take_rfy, ha, hb, hn]); (next => simp [plainL, plain, plainR, ha, hb, hn]))
          | (with_reducible show wcall _ false (.lit (.func (.func 125) _ _)) _ _ _ _; refine wcall_fn (k125 _ _ _ _ _ hw (by omega) (by omega)) ?_ ?_ ?_; (next => simp [rfyL, rfy, hget, ints, take_rfy, ha, hb, hn]); (next => simp [plainL, plain, plainR, ha, hb, hn]))
          | (with_reducible show wcallX _ false (.lit (.func (.func 125) _ _)) _ _ _ _; refine wcallX_fn (k125 _ _ _ _ _ hw (by omega) (by omega)) ?_ ?_ ?_; (next => simp [rfyL, rfy, hget, ints, take_rfy, ha, hb, hn]); (next => simp [plainL, plain, plainR, ha, hb, hn]))
          | omega)
      | true =>
        have e0 : ∀ x : Int, 0 - x = -x := fun x => by omega
        have hz : stepI ph a b = - stepI ph b a := by
          unfold stepI; rw [if_pos hab, if_neg (by omega)]
        have hz2 := stp_r (ph.getD a.toNat 0 - ph.getD b.toNat 0)
        have hz3 : stepI ph b a = stp (ph.getD a.toNat 0 - ph.getD b.toNat 0) := by unfold stepI; rw [if_neg (by omega)]
        rw [← hz3] at hz2
        clear hz3
        replace hz : id (stepI ph a b = - stepI ph b a) := hz
        rw [besideB_symm, hn, ha, hb] at hrec
        simp only [Bool.and_self, if_true] at hrec
        have h64 := hrec
        replace hrec := True.intro
        repeat' (first
          | ((with_reducible refine T_calm ?_ ?_); rfl)
          | with_reducible first
            | refine T_seq ?_
            | refine T_reg ?_
            | refine T_draw ?_
            | refine T_skip ?_
            | refine T_exit ?_
            | refine T_block ?_
            | refine T_cond_t rfl ?_
            | refine T_cond_f rfl ?_
            | refine wdW_cons rfl ?_
            | (show wcall _ false (.lit (.func (.func 124) _ _)) _ _ _ _; refine wcall_fn (k124 _ _ _ _ hl2) rfl (by simp [plainL, plain]) ?_)
            | (show wcallX _ false (.lit (.func (.func 124) _ _)) _ _ _ _; refine wcallX_fn (k124 _ _ _ _ hl2) rfl (by simp [plainL, plain, plainR, ha, hb, hn, e0]) ?_)
            | (show wcall _ false (.lit (.func (.func 125) _ _)) _ _ _ _; refine wcall_fn (k125 _ _ _ _ _ hw (by omega) (by omega)) rfl (by simp [plainL, plain]) ?_)
            | (show wcallX _ false (.lit (.func (.func 125) _ _)) _ _ _ _; refine wcallX_fn (k125 _ _ _ _ _ hw (by omega) (by omega)) rfl (by simp [plainL, plain, plainR, ha, hb, hn, e0]) ?_)
            | (show wcall _ false (.lit (.func (.func 64) _ _)) _ _ _ _; refine wcall_fn (h64) rfl (by simp [plainL, plain]) ?_)
            | (show wcallX _ false (.lit (.func (.func 64) _ _)) _ _ _ _; refine wcallX_fn (h64) rfl (by simp [plainL, plain, plainR, ha, hb, hn, e0]) ?_)
            | ((first | refine T_cond rfl (fun hc => ?_) (fun hc => ?_) | refine wguard_split (fun hc => ?_) (fun hc => ?_) | refine wguardX_split (fun hc => ?_) (fun hc => ?_)) <;> have hd := hc <;> (try simp (disch := omega) only [wrapI] at hd) <;> have hs := hd <;> (try simp only [Bool.not_eq_true', Bool.not_eq_false', Bool.and_eq_true, Bool.and_eq_false_iff, Bool.or_eq_true, Bool.or_eq_false_iff, decide_eq_true_eq, decide_eq_false_iff_not, beq_iff_eq, bne_iff_ne, beq_eq_false_iff_ne, bne_eq_false_iff_eq, Bool.not_true, Bool.not_false, gt_iff_lt, ge_iff_le, Int.not_lt, Int.not_le, ne_eq, Decidable.not_not] at hd) <;> (try simp at hs))
            | refine T_ret ?_
            | refine leave_of (.inr rfl) _ rfl ?_
            | refine leave_of (.inl rfl) _ rfl ?_
            | refine leaveA_of (.inr rfl) _ rfl ?_
            | refine leaveA_of (.inl rfl) _ rfl ?_
            | refine wif_intro ?_ (fun hc => ?_)
            | refine And.intro ?_ ?_
            | intro hc
          | simp (maxSteps := 4000000) only [wops_nil, wops_cons, wstep_none, wstep_some, wguard_ff, wrun_call, wrun_mv, wrun_pick, wrun_bin, wrun_neg, wrun_not, wrun_ext, wrun_load, wrun_box, get_mk, wop, aop, ev, look, put_some, writes, ores_some, binV, thenK, boolV, value, cut, hget, AV.parts, isOne, toLits, mkAgg, tupOf, List.map_cons, List.map_nil, List.length_cons, List.length_nil, List.getElem?_cons_zero, List.getElem?_cons_succ, List.set_cons_zero, List.take_succ_cons, List.take_nil, List.drop_zero, List.nil_append, List.append_nil, List.replicate_zero, List.replicate_succ, List.getD_cons_zero, List.zipIdx_cons, List.zipIdx_nil, List.all_cons, List.all_nil, Option.getD_some, Option.map_some, Option.map_none, if_true, if_false, Nat.reduceEqDiff, Nat.reduceAdd, Nat.add_zero, Nat.zero_add, Nat.zero_ne_one, reduceCtorEq, Bool.not_true, Bool.and_true, Bool.false_eq_true, eq_self, true_and, and_self, decide_true, freeze, lidsL, lids, List.flatMap_cons, List.flatMap_nil, List.all_cons, ren, renL, *]
          | simp (disch := omega) only [wrapI]
          | (with_reducible show wcall _ false (.lit (.func (.func 124) _ _)) _ _ _ _; refine wcall_fn (k124 _ _ _ _ hl2) ?_ ?_ ?_; (next => simp [rfyL, rfy, hget, ints, take_rfy, ha, hb, hn, e0]); (next => simp [plainL, plain, plainR, ha, hb, hn, e0]))
          | (with_reducible show wcallX _ false (.lit (.func (.func 124) _ _)) _ _ _ _; refine wcallX_fn (k124 _ _ _ _ hl2) ?_ ?_ ?_; (next => simp [rfyL, rfy, hget, ints, take_rfy, ha, hb, hn, e0]); (next => simp [plainL, plain, plainR, ha, hb, hn, e0]))
          | (with_reducible show wcall _ false (.lit (.func (.func 125) _ _)) _ _ _ _; refine wcall_fn (k125 _ _ _ _ _ hw (by omega) (by omega)) ?_ ?_ ?_; (next => simp [rfyL, rfy, hget, ints, take_rfy, ha, hb, hn, e0]); (next => simp [plainL, plain, plainR, ha, hb, hn, e0]))
          | (with_reducible show wcallX _ false (.lit (.func (.func 125) _ _)) _ _ _ _; refine wcallX_fn (k125 _ _ _ _ _ hw (by omega) (by omega)) ?_ ?_ ?_; (next => simp [rfyL, rfy, hget, ints, take_rfy, ha, hb, hn, e0]); (next => simp [plainL, plain, plainR, ha, hb, hn, e0]))
          | (with_reducible show wcall _ false (.lit (.func (.func 64) _ _)) _ _ _ _; refine wcall_fn (h64) ?_ ?_ ?_; (next => simp [rfyL, rfy, hget, ints, take_rfy, ha, hb, hn, e0]); (next => simp [plainL, plain, plainR, ha, hb, hn, e0]))
          | (with_reducible show wcallX _ false (.lit (.func (.func 64) _ _)) _ _ _ _; refine wcallX_fn (h64) ?_ ?_ ?_; (next => simp [rfyL, rfy, hget, ints, take_rfy, ha, hb, hn, e0]); (next => simp [plainL, plain, plainR, ha, hb, hn, e0]))
          | omega)
        all_goals (rw [show stepI ph a b = _ from hz])
end Go.Abs
