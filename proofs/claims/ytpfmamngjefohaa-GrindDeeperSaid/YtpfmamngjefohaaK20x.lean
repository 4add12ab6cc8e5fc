import Derived.Test.YtpfmamngjefohaaK10x
set_option linter.all false
set_option linter.unusedVariables false
set_option linter.unusedSimpArgs false
set_option linter.unusedSectionVars false
namespace Go.Abs
open Go.Proofs
/-! sequences of grits -/
/-- the first error of so many -/
def fe (e : Nat → Int) : Nat → Int
  | 0 => 0
  | k + 1 => if fe e k ≠ 0 then fe e k else e k
theorem fe_stop {e : Nat → Int} {k : Nat} (h0 : fe e k = 0) (h : e k ≠ 0) : ∀ n, k < n → fe e n = e k := by
  intro n
  induction n with
  | zero => intro hn; omega
  | succ n ih =>
    intro hn
    rcases Nat.lt_succ_iff_lt_or_eq.1 hn with h1 | rfl
    · have := ih h1
      simp only [fe]
      rw [if_pos (by rw [this]; exact h), this]
    · simp only [fe]
      rw [if_neg (by rw [h0]; simp)]
theorem fe_next {e : Nat → Int} {k : Nat} (h0 : fe e k = 0) (h : e k = 0) : fe e (k + 1) = 0 := by
  simp only [fe]; rw [if_neg (by rw [h0]; simp), h]
abbrev prV (a b : Int) : AV := .lit (.agg #[.int .i64 a, .int .i64 b])
def dpB (a b : Int) : Bool := (decide (0 ≤ a) && decide (a ≤ 1000000)) && (decide (0 ≤ b) && decide (b ≤ 1000000))
def cdE (l : List Gr) (a b : Int) : Int := if gE l ≠ 0 then gE l else if dpB a b = false then 2 else 0
set_option maxHeartbeats 8000000 in
theorem k65 (nil : Bool) (l : List Gr) (a b : Int) (hl : l.length < 1000000) (hsz : ∀ k, k < l.length → (l.getD k gr0).nm.size ≤ 30) : Fn Try.prog 65 [gts nil l, prV a b] (i64 (cdE l a b)) [] := by
  refine fn_of e65 ?_
  have h45 := k45 nil l hl hsz
  have h80a := k80 a 0 1000000
  have h80b := k80 b 0 1000000
  unfold cdE dpB
  by_cases h0 : gE l = 0
  · rw [if_neg (fun h => h h0)]
    rw [h0] at h45
    clear h0 hsz
    cases a1 : (decide (0 ≤ a) && decide (a ≤ 1000000)) with
    | false =>
      rw [a1] at h80a
      clear a1
      unfold c65
      repeat' (first
        | with_reducible first
          | refine T_seq ?_
          | refine T_reg ?_
          | refine T_skip ?_
          | refine T_exit ?_
          | refine T_block ?_
          | refine T_cond_t rfl ?_
          | refine T_cond_f rfl ?_
          | (show wcall _ false (.lit (.func (.func 45) _ _)) _ _ _ _; refine wcall_fn (h45) rfl (by simp [plainL, plain, plainR_gR]) ?_)
          | (show wcall _ false (.lit (.func (.func 80) _ _)) _ _ _ _; refine wcall_fn (h80a) rfl (by simp [plainL, plain]) ?_)
          | ((first | refine T_cond rfl (fun hc => ?_) (fun hc => ?_) | refine wguard_split (fun hc => ?_) (fun hc => ?_)) <;> have hd := hc <;> (try simp (disch := omega) only [wrapI] at hd) <;> have hs := hd <;> (try simp only [Bool.not_eq_true', Bool.not_eq_false', Bool.and_eq_true, Bool.and_eq_false_iff, Bool.or_eq_true, Bool.or_eq_false_iff, decide_eq_true_eq, decide_eq_false_iff_not, beq_iff_eq, bne_iff_ne, beq_eq_false_iff_ne, bne_eq_false_iff_eq, Bool.not_true, Bool.not_false, gt_iff_lt, ge_iff_le, Int.not_lt, Int.not_le, ne_eq, Decidable.not_not] at hd) <;> (try simp at hs))
          | refine T_ret ?_
          | refine leave_of (.inr rfl) _ rfl ?_
          | refine leave_of (.inl rfl) _ rfl ?_
          | refine leaveA_of (.inr rfl) _ rfl ?_
          | refine leaveA_of (.inl rfl) _ rfl ?_
          | refine wif_intro ?_ (fun hc => ?_)
          | refine And.intro ?_ ?_
          | intro hc
        | simp (maxSteps := 4000000) only [wops_nil, wops_cons, wstep_none, wstep_some, wguard_tf, wrun_call, wrun_mv, wrun_pick, wrun_bin, wrun_not, wrun_load, wrun_iaddrA, wrun_box, get_mk, wop, aop, ev, look, put_some, writes, ores_some, ores_ite_none, binV, thenK, boolV, value, cut, hget, AV.parts, isOne, mkAgg, tupOf, ofValue_int, List.map_cons, List.map_nil, List.length_cons, List.length_nil, List.getElem?_cons_zero, List.set_cons_zero, List.take_succ_cons, List.take_zero, List.drop_zero, List.nil_append, List.append_nil, List.replicate_zero, List.replicate_succ, List.getD_cons_zero, List.zipIdx_cons, List.zipIdx_nil, List.all_cons, List.all_nil, Option.getD_some, Option.map_some, if_true, if_false, Nat.reduceEqDiff, Nat.reduceAdd, Nat.add_zero, Nat.zero_add, Nat.mul_one, Nat.zero_ne_one, reduceCtorEq, Bool.not_false, Bool.and_true, Bool.false_and, Bool.false_eq_true, eq_self, true_and, and_self, freeze, lidsL, lids, List.flatMap_cons, List.flatMap_nil, List.all_cons, ren, Int.toNat_zero, *]
        | simp (disch := omega) only [getD_ints, wrapI]
        | (with_reducible show wcall _ false (.lit (.func (.func 45) _ _)) _ _ _ _; refine wcall_fn (h45) ?_ ?_ ?_; (next => simp [rfyL, rfy, hget, ints, take_rfy, plainR_gR, Int.toNat_zero, Int.toNat_one]); (next => simp [plainL, plain, plainR, plainR_gR, Int.toNat_zero, Int.toNat_one]))
        | (with_reducible show wcall _ false (.lit (.func (.func 80) _ _)) _ _ _ _; refine wcall_fn (h80a) ?_ ?_ ?_; (next => simp [rfyL, rfy, hget, ints, take_rfy, plainR_gR, Int.toNat_zero, Int.toNat_one]); (next => simp [plainL, plain, plainR, plainR_gR, Int.toNat_zero, Int.toNat_one]))
        | omega)
      all_goals first | rfl
    | true =>
      rw [a1] at h80a
      cases a2 : (decide (0 ≤ b) && decide (b ≤ 1000000)) with
      | false =>
        rw [a2] at h80b
        clear a1 a2
        unfold c65
        repeat' (first
          | with_reducible first
            | refine T_seq ?_
            | refine T_reg ?_
            | refine T_skip ?_
            | refine T_exit ?_
            | refine T_block ?_
            | refine T_cond_t rfl ?_
            | refine T_cond_f rfl ?_
            | (show wcall _ false (.lit (.func (.func 45) _ _)) _ _ _ _; refine wcall_fn (h45) rfl (by simp [plainL, plain, plainR_gR]) ?_)
            | (show wcall _ false (.lit (.func (.func 80) _ _)) _ _ _ _; refine wcall_fn (h80a) rfl (by simp [plainL, plain]) ?_)
            | (show wcall _ false (.lit (.func (.func 80) _ _)) _ _ _ _; refine wcall_fn (h80b) rfl (by simp [plainL, plain]) ?_)
            | ((first | refine T_cond rfl (fun hc => ?_) (fun hc => ?_) | refine wguard_split (fun hc => ?_) (fun hc => ?_)) <;> have hd := hc <;> (try simp (disch := omega) only [wrapI] at hd) <;> have hs := hd <;> (try simp only [Bool.not_eq_true', Bool.not_eq_false', Bool.and_eq_true, Bool.and_eq_false_iff, Bool.or_eq_true, Bool.or_eq_false_iff, decide_eq_true_eq, decide_eq_false_iff_not, beq_iff_eq, bne_iff_ne, beq_eq_false_iff_ne, bne_eq_false_iff_eq, Bool.not_true, Bool.not_false, gt_iff_lt, ge_iff_le, Int.not_lt, Int.not_le, ne_eq, Decidable.not_not] at hd) <;> (try simp at hs))
            | refine T_ret ?_
            | refine leave_of (.inr rfl) _ rfl ?_
            | refine leave_of (.inl rfl) _ rfl ?_
            | refine leaveA_of (.inr rfl) _ rfl ?_
            | refine leaveA_of (.inl rfl) _ rfl ?_
            | refine wif_intro ?_ (fun hc => ?_)
            | refine And.intro ?_ ?_
            | intro hc
          | simp (maxSteps := 4000000) only [wops_nil, wops_cons, wstep_none, wstep_some, wguard_ff, wrun_call, wrun_mv, wrun_pick, wrun_bin, wrun_not, wrun_load, wrun_iaddrA, wrun_box, get_mk, wop, aop, ev, look, put_some, writes, ores_some, ores_ite_none, binV, thenK, boolV, value, cut, hget, AV.parts, isOne, mkAgg, tupOf, ofValue_int, List.map_cons, List.map_nil, List.length_cons, List.length_nil, List.getElem?_cons_zero, List.set_cons_zero, List.take_succ_cons, List.take_zero, List.take_nil, List.drop_succ_cons, List.drop_zero, List.nil_append, List.append_nil, List.replicate_zero, List.replicate_succ, List.getD_cons_zero, List.zipIdx_cons, List.zipIdx_nil, List.all_cons, List.all_nil, Option.getD_some, Option.map_some, if_true, if_false, Nat.reduceEqDiff, Nat.reduceAdd, Nat.add_zero, Nat.zero_add, Nat.mul_one, Nat.zero_ne_one, reduceCtorEq, Bool.not_true, Bool.not_false, Bool.and_true, Bool.and_false, Bool.false_eq_true, eq_self, true_and, and_self, freeze, lidsL, lids, List.flatMap_cons, List.flatMap_nil, List.all_cons, ren, Int.toNat_zero, Int.toNat_one, *]
          | simp (disch := omega) only [getD_ints, wrapI]
          | (with_reducible show wcall _ false (.lit (.func (.func 45) _ _)) _ _ _ _; refine wcall_fn (h45) ?_ ?_ ?_; (next => simp [rfyL, rfy, hget, ints, take_rfy, plainR_gR, Int.toNat_zero, Int.toNat_one]); (next => simp [plainL, plain, plainR, plainR_gR, Int.toNat_zero, Int.toNat_one]))
          | (with_reducible show wcall _ false (.lit (.func (.func 80) _ _)) _ _ _ _; refine wcall_fn (h80a) ?_ ?_ ?_; (next => simp [rfyL, rfy, hget, ints, take_rfy, plainR_gR, Int.toNat_zero, Int.toNat_one]); (next => simp [plainL, plain, plainR, plainR_gR, Int.toNat_zero, Int.toNat_one]))
          | (with_reducible show wcall _ false (.lit (.func (.func 80) _ _)) _ _ _ _; refine wcall_fn (h80b) ?_ ?_ ?_; (next => simp [rfyL, rfy, hget, ints, take_rfy, plainR_gR, Int.toNat_zero, Int.toNat_one]); (next => simp [plainL, plain, plainR, plainR_gR, Int.toNat_zero, Int.toNat_one]))
          | omega)
        all_goals first | rfl
      | true =>
        rw [a2] at h80b
        clear a1 a2
        unfold c65
        repeat' (first
          | with_reducible first
            | refine T_seq ?_
            | refine T_reg ?_
            | refine T_skip ?_
            | refine T_exit ?_
            | refine T_block ?_
            | refine T_cond_t rfl ?_
            | refine T_cond_f rfl ?_
            | (show wcall _ false (.lit (.func (.func 45) _ _)) _ _ _ _; refine wcall_fn (h45) rfl (by simp [plainL, plain, plainR_gR]) ?_)
            | (show wcall _ false (.lit (.func (.func 80) _ _)) _ _ _ _; refine wcall_fn (h80a) rfl (by simp [plainL, plain]) ?_)
            | (show wcall _ false (.lit (.func (.func 80) _ _)) _ _ _ _; refine wcall_fn (h80b) rfl (by simp [plainL, plain]) ?_)
            | ((first | refine T_cond rfl (fun hc => ?_) (fun hc => ?_) | refine wguard_split (fun hc => ?_) (fun hc => ?_)) <;> have hd := hc <;> (try simp (disch := omega) only [wrapI] at hd) <;> have hs := hd <;> (try simp only [Bool.not_eq_true', Bool.not_eq_false', Bool.and_eq_true, Bool.and_eq_false_iff, Bool.or_eq_true, Bool.or_eq_false_iff, decide_eq_true_eq, decide_eq_false_iff_not, beq_iff_eq, bne_iff_ne, beq_eq_false_iff_ne, bne_eq_false_iff_eq, Bool.not_true, Bool.not_false, gt_iff_lt, ge_iff_le, Int.not_lt, Int.not_le, ne_eq, Decidable.not_not] at hd) <;> (try simp at hs))
            | refine T_ret ?_
            | refine leave_of (.inr rfl) _ rfl ?_
            | refine leave_of (.inl rfl) _ rfl ?_
            | refine leaveA_of (.inr rfl) _ rfl ?_
            | refine leaveA_of (.inl rfl) _ rfl ?_
            | refine wif_intro ?_ (fun hc => ?_)
            | refine And.intro ?_ ?_
            | intro hc
          | simp (maxSteps := 4000000) only [wops_nil, wops_cons, wstep_none, wstep_some, wguard_ff, wrun_call, wrun_mv, wrun_pick, wrun_bin, wrun_not, wrun_load, wrun_iaddrA, wrun_box, get_mk, wop, aop, ev, look, put_some, writes, ores_some, ores_ite_none, binV, thenK, boolV, value, cut, hget, AV.parts, isOne, mkAgg, tupOf, ofValue_int, List.map_cons, List.map_nil, List.length_cons, List.length_nil, List.getElem?_cons_zero, List.set_cons_zero, List.take_succ_cons, List.take_zero, List.take_nil, List.drop_succ_cons, List.drop_zero, List.nil_append, List.append_nil, List.replicate_zero, List.replicate_succ, List.getD_cons_zero, List.zipIdx_cons, List.zipIdx_nil, List.all_cons, List.all_nil, Option.getD_some, Option.map_some, if_true, if_false, Nat.reduceEqDiff, Nat.reduceAdd, Nat.add_zero, Nat.zero_add, Nat.mul_one, Nat.zero_ne_one, reduceCtorEq, Bool.not_true, Bool.and_true, Bool.false_eq_true, eq_self, true_and, and_self, freeze, lidsL, lids, List.flatMap_cons, List.flatMap_nil, List.all_cons, ren, Int.toNat_zero, Int.toNat_one, *]
          | simp (disch := omega) only [getD_ints, wrapI]
          | (with_reducible show wcall _ false (.lit (.func (.func 45) _ _)) _ _ _ _; refine wcall_fn (h45) ?_ ?_ ?_; (next => simp [rfyL, rfy, hget, ints, take_rfy, plainR_gR, Int.toNat_zero, Int.toNat_one]); (next => simp [plainL, plain, plainR, plainR_gR, Int.toNat_zero, Int.toNat_one]))
          | (with_reducible show wcall _ false (.lit (.func (.func 80) _ _)) _ _ _ _; refine wcall_fn (h80a) ?_ ?_ ?_; (next => simp [rfyL, rfy, hget, ints, take_rfy, plainR_gR, Int.toNat_zero, Int.toNat_one]); (next => simp [plainL, plain, plainR, plainR_gR, Int.toNat_zero, Int.toNat_one]))
          | (with_reducible show wcall _ false (.lit (.func (.func 80) _ _)) _ _ _ _; refine wcall_fn (h80b) ?_ ?_ ?_; (next => simp [rfyL, rfy, hget, ints, take_rfy, plainR_gR, Int.toNat_zero, Int.toNat_one]); (next => simp [plainL, plain, plainR, plainR_gR, Int.toNat_zero, Int.toNat_one]))
          | omega)
        all_goals first | rfl
  · rw [if_pos h0]
    have d0 : (gE l != 0) = true := by simp only [bne_iff_ne]; exact h0
    clear h0 hsz
    generalize gE l = c at *
    unfold c65
    repeat' (first
      | with_reducible first
        | refine T_seq ?_
        | refine T_reg ?_
        | refine T_skip ?_
        | refine T_exit ?_
        | refine T_block ?_
        | refine T_cond_t rfl ?_
        | refine T_cond_f rfl ?_
        | (show wcall _ false (.lit (.func (.func 45) _ _)) _ _ _ _; refine wcall_fn (h45) rfl (by simp [plainL, plain, plainR_gR]) ?_)
        | ((first | refine T_cond rfl (fun hc => ?_) (fun hc => ?_) | refine wguard_split (fun hc => ?_) (fun hc => ?_)) <;> have hd := hc <;> (try simp (disch := omega) only [wrapI] at hd) <;> have hs := hd <;> (try simp only [Bool.not_eq_true', Bool.not_eq_false', Bool.and_eq_true, Bool.and_eq_false_iff, Bool.or_eq_true, Bool.or_eq_false_iff, decide_eq_true_eq, decide_eq_false_iff_not, beq_iff_eq, bne_iff_ne, beq_eq_false_iff_ne, bne_eq_false_iff_eq, Bool.not_true, Bool.not_false, gt_iff_lt, ge_iff_le, Int.not_lt, Int.not_le, ne_eq, Decidable.not_not] at hd) <;> (try simp at hs))
        | refine T_ret ?_
        | refine leave_of (.inr rfl) _ rfl ?_
        | refine leave_of (.inl rfl) _ rfl ?_
        | refine leaveA_of (.inr rfl) _ rfl ?_
        | refine leaveA_of (.inl rfl) _ rfl ?_
        | refine wif_intro ?_ (fun hc => ?_)
        | refine And.intro ?_ ?_
        | intro hc
      | simp (maxSteps := 4000000) only [wops_nil, wops_cons, wstep_none, wrun_call, wrun_mv, wrun_bin, wrun_box, get_mk, wop, aop, ev, look, put_some, writes, ores_some, binV, thenK, AV.parts, isOne, tupOf, ofValue_int, List.map_cons, List.map_nil, List.length_cons, List.length_nil, List.getElem?_cons_zero, List.set_cons_zero, List.nil_append, List.append_nil, List.replicate_zero, List.replicate_succ, List.zipIdx_cons, List.zipIdx_nil, List.all_cons, List.all_nil, Option.map_some, if_true, if_false, Nat.reduceEqDiff, Nat.reduceAdd, Nat.add_zero, Nat.zero_add, Nat.zero_ne_one, reduceCtorEq, Bool.and_true, eq_self, true_and, and_self, freeze, lidsL, lids, List.flatMap_cons, List.flatMap_nil, List.all_cons, ren, *]
      | simp (disch := omega) only [getD_ints, wrapI]
      | (with_reducible show wcall _ false (.lit (.func (.func 45) _ _)) _ _ _ _; refine wcall_fn (h45) ?_ ?_ ?_; (next => simp [rfyL, rfy, hget, ints, take_rfy, plainR_gR]); (next => simp [plainL, plain, plainR, plainR_gR]))
      | omega)
    all_goals first | rfl
theorem ceil_b {n d : Int} (hn : 0 ≤ n) (hd : 1 ≤ d) : 0 ≤ ceil n d ∧ ceil n d ≤ n := by
  unfold ceil
  have h1 := Int.mul_ediv_add_emod (-n) d
  have h2 := Int.emod_nonneg (-n) (show d ≠ 0 by omega)
  have h3 := Int.emod_lt_of_pos (-n) (show 0 < d by omega)
  have h4 : (-n) / d ≤ 0 := by
    rcases (by omega : (-n) / d ≤ 0 ∨ 1 ≤ (-n) / d) with h | h
    · exact h
    · have : d * 1 ≤ d * ((-n) / d) := Int.mul_le_mul_of_nonneg_left h (by omega)
      omega
  have h5 : -n ≤ (-n) / d := by
    have : d * ((-n) / d) ≤ 1 * ((-n) / d) := Int.mul_le_mul_of_nonpos_right hd h4
    rcases (by omega : -n ≤ (-n) / d ∨ (-n) / d ≤ -n - 1) with h | h
    · exact h
    · have h6 : d * ((-n) / d) ≤ d * (-n - 1) := Int.mul_le_mul_of_nonneg_left h (by omega)
      have h7 : d * (-n - 1) = d * (-n) - d := by rw [Int.mul_sub, Int.mul_one]
      have h8 : d * (-n) ≤ 1 * (-n) := Int.mul_le_mul_of_nonpos_right hd (by omega)
      omega
  omega
end Go.Abs
