import Derived.Test.YtpfmamngjefohaaK10x
set_option linter.all false
set_option linter.unusedVariables false
set_option linter.unusedSimpArgs false
set_option linter.unusedSectionVars false
namespace Go.Abs
open Go.Proofs
/-! sequences of grits -/
/-- the first error of so many -/
def fe (e : Nat → Int) : Nat → Int
  | 0 => 0
  | k + 1 => if fe e k ≠ 0 then fe e k else e k
theorem fe_stop {e : Nat → Int} {k : Nat} (h0 : fe e k = 0) (h : e k ≠ 0) : ∀ n, k < n → fe e n = e k := by
  intro n
  induction n with
  | zero => intro hn; omega
  | succ n ih =>
    intro hn
    rcases Nat.lt_succ_iff_lt_or_eq.1 hn with h1 | rfl
    · have := ih h1
      simp only [fe]
      rw [if_pos (by rw [this]; exact h), this]
    · simp only [fe]
      rw [if_neg (by rw [h0]; simp)]
theorem fe_next {e : Nat → Int} {k : Nat} (h0 : fe e k = 0) (h : e k = 0) : fe e (k + 1) = 0 := by
  simp only [fe]; rw [if_neg (by rw [h0]; simp), h]
theorem fe_all {e : Nat → Int} : ∀ {n : Nat}, fe e n = 0 → ∀ k, k < n → e k = 0
  | 0, _, k, hk => by omega
  | n + 1, h, k, hk => by
    simp only [fe] at h
    by_cases h0 : fe e n ≠ 0
    · rw [if_pos h0] at h; exact (h0 h).elim
    · rw [if_neg h0] at h
      rcases Nat.lt_succ_iff_lt_or_eq.1 hk with h1 | rfl
      · exact fe_all (by simpa using h0) k h1
      · exact h
abbrev prV (a b : Int) : AV := .lit (.agg #[.int .i64 a, .int .i64 b])
def dpB (a b : Int) : Bool := (decide (0 ≤ a) && decide (a ≤ 1000000)) && (decide (0 ≤ b) && decide (b ≤ 1000000))
def cdE (l : List Gr) (a b : Int) : Int := if gE l ≠ 0 then gE l else if dpB a b = false then 2 else 0
set_option maxHeartbeats 8000000 in
theorem k65 (nil : Bool) (l : List Gr) (a b : Int) (hl : l.length < 1000000) (hsz : ∀ k, k < l.length → (l.getD k gr0).nm.size ≤ 30) : Fn Try.prog 65 [gts nil l, prV a b] (i64 (cdE l a b)) [] := by
  refine fn_of e65 ?_
  have h45 := k45 nil l hl hsz
  have h80a := k80 a 0 1000000
  have h80b := k80 b 0 1000000
  unfold cdE dpB
  by_cases h0 : gE l = 0
  · rw [if_neg (fun h => h h0)]
    rw [h0] at h45
    clear h0 hsz
    cases a1 : (decide (0 ≤ a) && decide (a ≤ 1000000)) with
    | false =>
      rw [a1] at h80a
      clear a1
      unfold c65
      repeat' (first
        | with_reducible first
          | refine T_seq ?_
          | refine T_reg ?_
          | refine T_skip ?_
          | refine T_exit ?_
          | refine T_block ?_
          | refine T_cond_t rfl ?_
          | refine T_cond_f rfl ?_
          | (show wcall _ false (.lit (.func (.func 45) _ _)) _ _ _ _; refine wcall_fn (h45) rfl (by simp [plainL, plain, plainR_gR]) ?_)
          | (show wcall _ false (.lit (.func (.func 80) _ _)) _ _ _ _; refine wcall_fn (h80a) rfl (by simp [plainL, plain]) ?_)
          | ((first | refine T_cond rfl (fun hc => ?_) (fun hc => ?_) | refine wguard_split (fun hc => ?_) (fun hc => ?_)) <;> have hd := hc <;> (try simp (disch := omega) only [wrapI] at hd) <;> have hs := hd <;> (try simp only [Bool.not_eq_true', Bool.not_eq_false', Bool.and_eq_true, Bool.and_eq_false_iff, Bool.or_eq_true, Bool.or_eq_false_iff, decide_eq_true_eq, decide_eq_false_iff_not, beq_iff_eq, bne_iff_ne, beq_eq_false_iff_ne, bne_eq_false_iff_eq, Bool.not_true, Bool.not_false, gt_iff_lt, ge_iff_le, Int.not_lt, Int.not_le, ne_eq, Decidable.not_not] at hd) <;> (try simp at hs))
          | refine T_ret ?_
          | refine leave_of (.inr rfl) _ rfl ?_
          | refine leave_of (.inl rfl) _ rfl ?_
          | refine leaveA_of (.inr rfl) _ rfl ?_
          | refine leaveA_of (.inl rfl) _ rfl ?_
          | refine wif_intro ?_ (fun hc => ?_)
          | refine And.intro ?_ ?_
          | intro hc
        | simp (maxSteps := 4000000) only [wops_nil, wops_cons, wstep_none, wstep_some, wguard_tf, wrun_call, wrun_mv, wrun_pick, wrun_bin, wrun_not, wrun_load, wrun_iaddrA, wrun_box, get_mk, wop, aop, ev, look, put_some, writes, ores_some, ores_ite_none, binV, thenK, boolV, value, cut, hget, AV.parts, isOne, mkAgg, tupOf, ofValue_int, List.map_cons, List.map_nil, List.length_cons, List.length_nil, List.getElem?_cons_zero, List.set_cons_zero, List.take_succ_cons, List.take_zero, List.drop_zero, List.nil_append, List.append_nil, List.replicate_zero, List.replicate_succ, List.getD_cons_zero, List.zipIdx_cons, List.zipIdx_nil, List.all_cons, List.all_nil, Option.getD_some, Option.map_some, if_true, if_false, Nat.reduceEqDiff, Nat.reduceAdd, Nat.add_zero, Nat.zero_add, Nat.mul_one, Nat.zero_ne_one, reduceCtorEq, Bool.not_false, Bool.and_true, Bool.false_and, Bool.false_eq_true, eq_self, true_and, and_self, freeze, lidsL, lids, List.flatMap_cons, List.flatMap_nil, List.all_cons, ren, Int.toNat_zero, *]
        | simp (disch := omega) only [getD_ints, wrapI]
        | (with_reducible show wcall _ false (.lit (.func (.func 45) _ _)) _ _ _ _; refine wcall_fn (h45) ?_ ?_ ?_; (next => simp [rfyL, rfy, hget, ints, take_rfy, plainR_gR, Int.toNat_zero, Int.toNat_one]); (next => simp [plainL, plain, plainR, plainR_gR, Int.toNat_zero, Int.toNat_one]))
        | (with_reducible show wcall _ false (.lit (.func (.func 80) _ _)) _ _ _ _; refine wcall_fn (h80a) ?_ ?_ ?_; (next => simp [rfyL, rfy, hget, ints, take_rfy, plainR_gR, Int.toNat_zero, Int.toNat_one]); (next => simp [plainL, plain, plainR, plainR_gR, Int.toNat_zero, Int.toNat_one]))
        | omega)
      all_goals first | rfl
    | true =>
      rw [a1] at h80a
      cases a2 : (decide (0 ≤ b) && decide (b ≤ 1000000)) with
      | false =>
        rw [a2] at h80b
        clear a1 a2
        unfold c65
        repeat' (first
          | with_reducible first
            | refine T_seq ?_
            | refine T_reg ?_
            | refine T_skip ?_
            | refine T_exit ?_
            | refine T_block ?_
            | refine T_cond_t rfl ?_
            | refine T_cond_f rfl ?_
            | (show wcall _ false (.lit (.func (.func 45) _ _)) _ _ _ _; refine wcall_fn (h45) rfl (by simp [plainL, plain, plainR_gR]) ?_)
            | (show wcall _ false (.lit (.func (.func 80) _ _)) _ _ _ _; refine wcall_fn (h80a) rfl (by simp [plainL, plain]) ?_)
            | (show wcall _ false (.lit (.func (.func 80) _ _)) _ _ _ _; refine wcall_fn (h80b) rfl (by simp [plainL, plain]) ?_)
            | ((first | refine T_cond rfl (fun hc => ?_) (fun hc => ?_) | refine wguard_split (fun hc => ?_) (fun hc => ?_)) <;> have hd := hc <;> (try simp (disch := omega) only [wrapI] at hd) <;> have hs := hd <;> (try simp only [Bool.not_eq_true', Bool.not_eq_false', Bool.and_eq_true, Bool.and_eq_false_iff, Bool.or_eq_true, Bool.or_eq_false_iff, decide_eq_true_eq, decide_eq_false_iff_not, beq_iff_eq, bne_iff_ne, beq_eq_false_iff_ne, bne_eq_false_iff_eq, Bool.not_true, Bool.not_false, gt_iff_lt, ge_iff_le, Int.not_lt, Int.not_le, ne_eq, Decidable.not_not] at hd) <;> (try simp at hs))
            | refine T_ret ?_
            | refine leave_of (.inr rfl) _ rfl ?_
            | refine leave_of (.inl rfl) _ rfl ?_
            | refine leaveA_of (.inr rfl) _ rfl ?_
            | refine leaveA_of (.inl rfl) _ rfl ?_
            | refine wif_intro ?_ (fun hc => ?_)
            | refine And.intro ?_ ?_
            | intro hc
          | simp (maxSteps := 4000000) only [wops_nil, wops_cons, wstep_none, wstep_some, wguard_ff, wrun_call, wrun_mv, wrun_pick, wrun_bin, wrun_not, wrun_load, wrun_iaddrA, wrun_box, get_mk, wop, aop, ev, look, put_some, writes, ores_some, ores_ite_none, binV, thenK, boolV, value, cut, hget, AV.parts, isOne, mkAgg, tupOf, ofValue_int, List.map_cons, List.map_nil, List.length_cons, List.length_nil, List.getElem?_cons_zero, List.set_cons_zero, List.take_succ_cons, List.take_zero, List.take_nil, List.drop_succ_cons, List.drop_zero, List.nil_append, List.append_nil, List.replicate_zero, List.replicate_succ, List.getD_cons_zero, List.zipIdx_cons, List.zipIdx_nil, List.all_cons, List.all_nil, Option.getD_some, Option.map_some, if_true, if_false, Nat.reduceEqDiff, Nat.reduceAdd, Nat.add_zero, Nat.zero_add, Nat.mul_one, Nat.zero_ne_one, reduceCtorEq, Bool.not_true, Bool.not_false, Bool.and_true, Bool.and_false, Bool.false_eq_true, eq_self, true_and, and_self, freeze, lidsL, lids, List.flatMap_cons, List.flatMap_nil, List.all_cons, ren, Int.toNat_zero, Int.toNat_one, *]
          | simp (disch := omega) only [getD_ints, wrapI]
          | (with_reducible show wcall _ false (.lit (.func (.func 45) _ _)) _ _ _ _; refine wcall_fn (h45) ?_ ?_ ?_; (next => simp [rfyL, rfy, hget, ints, take_rfy, plainR_gR, Int.toNat_zero, Int.toNat_one]); (next => simp [plainL, plain, plainR, plainR_gR, Int.toNat_zero, Int.toNat_one]))
          | (with_reducible show wcall _ false (.lit (.func (.func 80) _ _)) _ _ _ _; refine wcall_fn (h80a) ?_ ?_ ?_; (next => simp [rfyL, rfy, hget, ints, take_rfy, plainR_gR, Int.toNat_zero, Int.toNat_one]); (next => simp [plainL, plain, plainR, plainR_gR, Int.toNat_zero, Int.toNat_one]))
          | (with_reducible show wcall _ false (.lit (.func (.func 80) _ _)) _ _ _ _; refine wcall_fn (h80b) ?_ ?_ ?_; (next => simp [rfyL, rfy, hget, ints, take_rfy, plainR_gR, Int.toNat_zero, Int.toNat_one]); (next => simp [plainL, plain, plainR, plainR_gR, Int.toNat_zero, Int.toNat_one]))
          | omega)
        all_goals first | rfl
      | true =>
        rw [a2] at h80b
        clear a1 a2
        unfold c65
        repeat' (first
          | with_reducible first
            | refine T_seq ?_
            | refine T_reg ?_
            | refine T_skip ?_
            | refine T_exit ?_
            | refine T_block ?_
            | refine T_cond_t rfl ?_
            | refine T_cond_f rfl ?_
            | (show wcall _ false (.lit (.func (.func 45) _ _)) _ _ _ _; refine wcall_fn (h45) rfl (by simp [plainL, plain, plainR_gR]) ?_)
            | (show wcall _ false (.lit (.func (.func 80) _ _)) _ _ _ _; refine wcall_fn (h80a) rfl (by simp [plainL, plain]) ?_)
            | (show wcall _ false (.lit (.func (.func 80) _ _)) _ _ _ _; refine wcall_fn (h80b) rfl (by simp [plainL, plain]) ?_)
            | ((first | refine T_cond rfl (fun hc => ?_) (fun hc => ?_) | refine wguard_split (fun hc => ?_) (fun hc => ?_)) <;> have hd := hc <;> (try simp (disch := omega) only [wrapI] at hd) <;> have hs := hd <;> (try simp only [Bool.not_eq_true', Bool.not_eq_false', Bool.and_eq_true, Bool.and_eq_false_iff, Bool.or_eq_true, Bool.or_eq_false_iff, decide_eq_true_eq, decide_eq_false_iff_not, beq_iff_eq, bne_iff_ne, beq_eq_false_iff_ne, bne_eq_false_iff_eq, Bool.not_true, Bool.not_false, gt_iff_lt, ge_iff_le, Int.not_lt, Int.not_le, ne_eq, Decidable.not_not] at hd) <;> (try simp at hs))
            | refine T_ret ?_
            | refine leave_of (.inr rfl) _ rfl ?_
            | refine leave_of (.inl rfl) _ rfl ?_
            | refine leaveA_of (.inr rfl) _ rfl ?_
            | refine leaveA_of (.inl rfl) _ rfl ?_
            | refine wif_intro ?_ (fun hc => ?_)
            | refine And.intro ?_ ?_
            | intro hc
          | simp (maxSteps := 4000000) only [wops_nil, wops_cons, wstep_none, wstep_some, wguard_ff, wrun_call, wrun_mv, wrun_pick, wrun_bin, wrun_not, wrun_load, wrun_iaddrA, wrun_box, get_mk, wop, aop, ev, look, put_some, writes, ores_some, ores_ite_none, binV, thenK, boolV, value, cut, hget, AV.parts, isOne, mkAgg, tupOf, ofValue_int, List.map_cons, List.map_nil, List.length_cons, List.length_nil, List.getElem?_cons_zero, List.set_cons_zero, List.take_succ_cons, List.take_zero, List.take_nil, List.drop_succ_cons, List.drop_zero, List.nil_append, List.append_nil, List.replicate_zero, List.replicate_succ, List.getD_cons_zero, List.zipIdx_cons, List.zipIdx_nil, List.all_cons, List.all_nil, Option.getD_some, Option.map_some, if_true, if_false, Nat.reduceEqDiff, Nat.reduceAdd, Nat.add_zero, Nat.zero_add, Nat.mul_one, Nat.zero_ne_one, reduceCtorEq, Bool.not_true, Bool.and_true, Bool.false_eq_true, eq_self, true_and, and_self, freeze, lidsL, lids, List.flatMap_cons, List.flatMap_nil, List.all_cons, ren, Int.toNat_zero, Int.toNat_one, *]
          | simp (disch := omega) only [getD_ints, wrapI]
          | (with_reducible show wcall _ false (.lit (.func (.func 45) _ _)) _ _ _ _; refine wcall_fn (h45) ?_ ?_ ?_; (next => simp [rfyL, rfy, hget, ints, take_rfy, plainR_gR, Int.toNat_zero, Int.toNat_one]); (next => simp [plainL, plain, plainR, plainR_gR, Int.toNat_zero, Int.toNat_one]))
          | (with_reducible show wcall _ false (.lit (.func (.func 80) _ _)) _ _ _ _; refine wcall_fn (h80a) ?_ ?_ ?_; (next => simp [rfyL, rfy, hget, ints, take_rfy, plainR_gR, Int.toNat_zero, Int.toNat_one]); (next => simp [plainL, plain, plainR, plainR_gR, Int.toNat_zero, Int.toNat_one]))
          | (with_reducible show wcall _ false (.lit (.func (.func 80) _ _)) _ _ _ _; refine wcall_fn (h80b) ?_ ?_ ?_; (next => simp [rfyL, rfy, hget, ints, take_rfy, plainR_gR, Int.toNat_zero, Int.toNat_one]); (next => simp [plainL, plain, plainR, plainR_gR, Int.toNat_zero, Int.toNat_one]))
          | omega)
        all_goals first | rfl
  · rw [if_pos h0]
    have d0 : (gE l != 0) = true := by simp only [bne_iff_ne]; exact h0
    clear h0 hsz
    generalize gE l = c at *
    unfold c65
    repeat' (first
      | with_reducible first
        | refine T_seq ?_
        | refine T_reg ?_
        | refine T_skip ?_
        | refine T_exit ?_
        | refine T_block ?_
        | refine T_cond_t rfl ?_
        | refine T_cond_f rfl ?_
        | (show wcall _ false (.lit (.func (.func 45) _ _)) _ _ _ _; refine wcall_fn (h45) rfl (by simp [plainL, plain, plainR_gR]) ?_)
        | ((first | refine T_cond rfl (fun hc => ?_) (fun hc => ?_) | refine wguard_split (fun hc => ?_) (fun hc => ?_)) <;> have hd := hc <;> (try simp (disch := omega) only [wrapI] at hd) <;> have hs := hd <;> (try simp only [Bool.not_eq_true', Bool.not_eq_false', Bool.and_eq_true, Bool.and_eq_false_iff, Bool.or_eq_true, Bool.or_eq_false_iff, decide_eq_true_eq, decide_eq_false_iff_not, beq_iff_eq, bne_iff_ne, beq_eq_false_iff_ne, bne_eq_false_iff_eq, Bool.not_true, Bool.not_false, gt_iff_lt, ge_iff_le, Int.not_lt, Int.not_le, ne_eq, Decidable.not_not] at hd) <;> (try simp at hs))
        | refine T_ret ?_
        | refine leave_of (.inr rfl) _ rfl ?_
        | refine leave_of (.inl rfl) _ rfl ?_
        | refine leaveA_of (.inr rfl) _ rfl ?_
        | refine leaveA_of (.inl rfl) _ rfl ?_
        | refine wif_intro ?_ (fun hc => ?_)
        | refine And.intro ?_ ?_
        | intro hc
      | simp (maxSteps := 4000000) only [wops_nil, wops_cons, wstep_none, wrun_call, wrun_mv, wrun_bin, wrun_box, get_mk, wop, aop, ev, look, put_some, writes, ores_some, binV, thenK, AV.parts, isOne, tupOf, ofValue_int, List.map_cons, List.map_nil, List.length_cons, List.length_nil, List.getElem?_cons_zero, List.set_cons_zero, List.nil_append, List.append_nil, List.replicate_zero, List.replicate_succ, List.zipIdx_cons, List.zipIdx_nil, List.all_cons, List.all_nil, Option.map_some, if_true, if_false, Nat.reduceEqDiff, Nat.reduceAdd, Nat.add_zero, Nat.zero_add, Nat.zero_ne_one, reduceCtorEq, Bool.and_true, eq_self, true_and, and_self, freeze, lidsL, lids, List.flatMap_cons, List.flatMap_nil, List.all_cons, ren, *]
      | simp (disch := omega) only [getD_ints, wrapI]
      | (with_reducible show wcall _ false (.lit (.func (.func 45) _ _)) _ _ _ _; refine wcall_fn (h45) ?_ ?_ ?_; (next => simp [rfyL, rfy, hget, ints, take_rfy, plainR_gR]); (next => simp [plainL, plain, plainR, plainR_gR]))
      | omega)
    all_goals first | rfl
/-- the depth behind k steps, the error of a step, the minutes -/
def sqD (l : List Gr) (q : List Int) (a : Int) (k : Nat) : Int := if k = 0 then a else (l.getD (q.getD (k - 1) 0).toNat gr0).dm
def sqR (l : List Gr) (x : Int) : Bool := decide (0 ≤ x) && decide (x ≤ (l.length : Int) - 1)
def sqe (l : List Gr) (q : List Int) (a : Int) (k : Nat) : Int := if sqR l (q.getD k 0) = false then 6 else if (l.getD (q.getD k 0).toNat gr0).dm ≥ sqD l q a k then 9 else 0
def sqS (l : List Gr) (q : List Int) (a : Int) : Nat → Int
  | 0 => 0
  | k + 1 => sqS l q a k + ceil (sqD l q a k) (l.getD (q.getD k 0).toNat gr0).rt
def sqE (l : List Gr) (q : List Int) (a b : Int) : Int := if dpB a b = false then 2 else if q.length > 12 then 8 else if fe (sqe l q a) q.length ≠ 0 then fe (sqe l q a) q.length else if sqD l q a q.length > b then 14 else 0
def sqM (l : List Gr) (q : List Int) (a b : Int) : Int := if sqE l q a b = 0 then sqS l q a q.length else 0
theorem ceil_b {n d : Int} (hn : 0 ≤ n) (hd : 1 ≤ d) : 0 ≤ ceil n d ∧ ceil n d ≤ n := by
  unfold ceil
  have h1 := Int.mul_ediv_add_emod (-n) d
  have h2 := Int.emod_nonneg (-n) (show d ≠ 0 by omega)
  have h3 := Int.emod_lt_of_pos (-n) (show 0 < d by omega)
  have h4 : (-n) / d ≤ 0 := by
    rcases (by omega : (-n) / d ≤ 0 ∨ 1 ≤ (-n) / d) with h | h
    · exact h
    · have : d * 1 ≤ d * ((-n) / d) := Int.mul_le_mul_of_nonneg_left h (by omega)
      omega
  have h5 : -n ≤ (-n) / d := by
    have : d * ((-n) / d) ≤ 1 * ((-n) / d) := Int.mul_le_mul_of_nonpos_right hd h4
    rcases (by omega : -n ≤ (-n) / d ∨ (-n) / d ≤ -n - 1) with h | h
    · exact h
    · have h6 : d * ((-n) / d) ≤ d * (-n - 1) := Int.mul_le_mul_of_nonneg_left h (by omega)
      have h7 : d * (-n - 1) = d * (-n) - d := by rw [Int.mul_sub, Int.mul_one]
      have h8 : d * (-n) ≤ 1 * (-n) := Int.mul_le_mul_of_nonpos_right hd (by omega)
      omega
  omega
theorem sqR_iff {l : List Gr} {x : Int} : sqR l x = true ↔ 0 ≤ x ∧ x ≤ (l.length : Int) - 1 := by unfold sqR; simp
theorem sqe_r {l : List Gr} {q : List Int} {a : Int} {k : Nat} (h : sqe l q a k = 0) : 0 ≤ q.getD k 0 ∧ q.getD k 0 ≤ (l.length : Int) - 1 := by
  unfold sqe at h
  cases hr : sqR l (q.getD k 0) with
  | false => rw [hr] at h; simp at h
  | true => exact sqR_iff.1 hr
/-- what is known behind k right steps -/
theorem sq_bd {l : List Gr} {q : List Int} {a : Int} (ha : 0 ≤ a ∧ a ≤ 1000000) (hg : gE l = 0) : ∀ k, (∀ j, j < k → sqe l q a j = 0) → (0 ≤ sqD l q a k ∧ sqD l q a k ≤ 1000000) ∧ 0 ≤ sqS l q a k ∧ sqS l q a k ≤ 1000000 * (k : Int)
  | 0, _ => by unfold sqD; rw [if_pos rfl]; exact ⟨ha, by simp [sqS]⟩
  | k + 1, h => by
    obtain ⟨h1, h2, h3⟩ := sq_bd ha hg k fun j hj => h j (by omega)
    have h4 := sqe_r (h k (by omega))
    have h5 := (gE_ok hg).2 (q.getD k 0).toNat (by omega)
    have h6 := ceil_b h1.1 h5.2.1
    refine ⟨?_, ?_⟩
    · unfold sqD; rw [if_neg (by omega), Nat.add_sub_cancel]; exact h5.1
    · simp only [sqS]; push_cast; omega
end Go.Abs
