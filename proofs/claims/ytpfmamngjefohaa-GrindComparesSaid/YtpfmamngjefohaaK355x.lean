import Derived.Test.YtpfmamngjefohaaK4x
import Derived.Test.YtpfmamngjefohaaK22x
set_option linter.all false
set_option linter.unusedVariables false
set_option linter.unusedSimpArgs false
set_option linter.unusedSectionVars false
namespace Go.Abs
open Go.Proofs
/-! compare of the reference -/
theorem cmpI_l {a b : Int} (h : a < b) : cmpI a b = -1 := by unfold cmpI; rw [if_pos h]
theorem cmpI_g {a b : Int} (h : b < a) : cmpI a b = 1 := by unfold cmpI; rw [if_neg (by omega), if_pos h]
theorem cmpI_s {a b c d : Int} (h : a - b = c - d) : cmpI a b = cmpI c d := by
  rcases Int.lt_trichotomy a b with g | g | g
  · rw [cmpI_l g, cmpI_l (by omega)]
  · rw [cmpI_zero.2 g, cmpI_zero.2 (by omega)]
  · rw [cmpI_g g, cmpI_g (by omega)]
/-- unequal whole parts decide -/
theorem cmp_whole {n d m k : Int} (hd : 1 ≤ d) (hk : 1 ≤ k) (h : n / d < m / k) : n * k < m * d := by
  have h1 : n < (n / d + 1) * d := Int.lt_ediv_add_one_mul_self n (by omega)
  have h2 : m / k * k ≤ m := Int.ediv_mul_le m (by omega)
  have h3 : n * k < (n / d + 1) * d * k := Int.mul_lt_mul_of_pos_right h1 (by omega)
  have h4 : (n / d + 1) * d * k ≤ (m / k) * d * k := Int.mul_le_mul_of_nonneg_right (Int.mul_le_mul_of_nonneg_right (by omega) (by omega)) (by omega)
  have h5 : m / k * d * k = m / k * k * d := by rw [Int.mul_assoc, Int.mul_comm d k, ← Int.mul_assoc]
  have h6 : m / k * k * d ≤ m * d := Int.mul_le_mul_of_nonneg_right h2 (by omega)
  omega
/-- equal whole parts may be left out -/
theorem cmp_rest {n d m k : Int} (h : n / d = m / k) : cmpI (n * k) (m * d) = cmpI ((n - n / d * d) * k) ((m - m / k * k) * d) := by
  refine cmpI_s ?_
  rw [Int.sub_mul, Int.sub_mul, h]
  have : m / k * d * k = m / k * k * d := by rw [Int.mul_assoc, Int.mul_comm d k, ← Int.mul_assoc]
  omega
set_option maxHeartbeats 8000000 in
theorem k68l {R n d m k : Int} (hn : -1000000000000000000 ≤ n ∧ n ≤ 1000000000000000000) (hm : -1000000000000000000 ≤ m ∧ m ≤ 1000000000000000000) (hd : 1 ≤ d ∧ d ≤ 1000000000000000000) (hk : 1 ≤ k ∧ k ≤ 1000000000000000000) (hR : cmpI (n * k) (m * d) = R) (K : Exit → St → Prop)
    (hE : ∀ τ : St, τ.get 8 = i64 R → K .ret τ) {bb : Nat} :
    T none Try.prog muts 53 bb c68l0 ⟨[(0, i64 n), (1, i64 d), (2, i64 m), (3, i64 k)], []⟩ (thenK (fun s' => ∃ a b : Int, (1 ≤ a ∧ a < k) ∧ (1 ≤ b ∧ b < d) ∧ cmpI (k * b) (d * a) = R ∧ (s'.only [0, 1, 2, 3]) = ⟨[(0, i64 k), (1, i64 a), (2, i64 d), (3, i64 b)], []⟩) K) := by
  have h83a := k83 n d (by omega) (by omega)
  have h83b := k83 m k (by omega) (by omega)
  have p1 : n / d * d ≤ n := Int.ediv_mul_le n (by omega)
  have p2 : n < (n / d + 1) * d := Int.lt_ediv_add_one_mul_self n (by omega)
  have p3 : m / k * k ≤ m := Int.ediv_mul_le m (by omega)
  have p4 : m < (m / k + 1) * k := Int.lt_ediv_add_one_mul_self m (by omega)
  rw [Int.add_mul, Int.one_mul] at p2 p4
  obtain ⟨nd, hnd, ew1⟩ : ∃ nd, nd = n / d * d ∧ IntKind.i64.wrap (n / d * d) = nd := ⟨_, rfl, wrapI (by omega) (by omega)⟩
  obtain ⟨mk, hmk, ew3⟩ : ∃ mk, mk = m / k * k ∧ IntKind.i64.wrap (m / k * k) = mk := ⟨_, rfl, wrapI (by omega) (by omega)⟩
  obtain ⟨n1, hn1, ew2⟩ : ∃ n1, n1 = n - nd ∧ IntKind.i64.wrap (n - nd) = n1 := ⟨_, rfl, wrapI (by omega) (by omega)⟩
  obtain ⟨m1, hm1, ew4⟩ : ∃ m1, m1 = m - mk ∧ IntKind.i64.wrap (m - mk) = m1 := ⟨_, rfl, wrapI (by omega) (by omega)⟩
  by_cases h1 : n / d = m / k
  · have hr := cmp_rest (n := n) (d := d) (m := m) (k := k) h1
    rw [hR] at hr
    have d1 : (n / d != m / k) = false := by rw [h1]; simp
    rw [← hnd, ← hmk, ← hn1, ← hm1] at hr
    have e1 : n1 < d := by omega
    have e2 : m1 < k := by omega
    have e3 : 0 ≤ n1 := by omega
    have e4 : 0 ≤ m1 := by omega
    clear p1 p2 p3 p4 h1 hR hnd hmk hn1 hm1
    generalize n / d = p at *
    generalize m / k = q at *
    by_cases z1 : n1 = 0
    · subst z1
      by_cases z2 : m1 = 0
      · subst z2
        have : R = 0 := by rw [hr, Int.zero_mul, Int.zero_mul]; rfl
        subst this
        have f := PLift.up hE
        clear hE hr hn hm hd hk e1 e2 e3 e4
        unfold c68l0
        repeat' (first
          | with_reducible first
            | refine T_seq ?_
            | refine T_reg ?_
            | refine T_skip ?_
            | refine T_exit ?_
            | refine T_block ?_
            | refine T_cond_t rfl ?_
            | refine T_cond_f rfl ?_
            | (show wcall _ false (.lit (.func (.func 83) _ _)) _ _ _ _; refine wcall_fn (h83a) rfl (by simp [plainL, plain]) ?_)
            | (show wcall _ false (.lit (.func (.func 83) _ _)) _ _ _ _; refine wcall_fn (h83b) rfl (by simp [plainL, plain]) ?_)
            | ((first | refine T_cond rfl (fun hc => ?_) (fun hc => ?_) | refine wguard_split (fun hc => ?_) (fun hc => ?_)) <;> have hd := hc <;> (try simp (disch := omega) only [wrapI] at hd) <;> have hs := hd <;> (try simp only [Bool.not_eq_true', Bool.not_eq_false', Bool.and_eq_true, Bool.and_eq_false_iff, Bool.or_eq_true, Bool.or_eq_false_iff, decide_eq_true_eq, decide_eq_false_iff_not, beq_iff_eq, bne_iff_ne, beq_eq_false_iff_ne, bne_eq_false_iff_eq, Bool.not_true, Bool.not_false, gt_iff_lt, ge_iff_le, Int.not_lt, Int.not_le, ne_eq, Decidable.not_not] at hd) <;> (try simp at hs))
            | refine T_ret ?_
            | refine wif_intro ?_ (fun hc => ?_)
            | refine And.intro ?_ ?_
            | intro hc
          | simp (maxSteps := 4000000) only [wops_nil, wops_cons, wstep_none, wstep_some, wguard_true, wguard_tf, wrun_call, wrun_mv, wrun_pick, wrun_bin, wop, aop, ev, look, put_some, writes, ores_some, binV, thenK, blockK, List.map_cons, List.map_nil, List.length_nil, List.append_nil, List.replicate_zero, Option.map_some, if_true, if_false, Nat.reduceEqDiff, Nat.zero_ne_one, reduceCtorEq, eq_self, beq_self_eq_true, Int.reduceNeg, freeze, lidsL, lids, List.flatMap_cons, List.flatMap_nil, ren, *]
          | simp (disch := omega) only [getD_ints, wrapI]
          | (with_reducible show wcall _ false (.lit (.func (.func 83) _ _)) _ _ _ _; refine wcall_fn (h83a) ?_ ?_ ?_; (next => simp [rfyL, rfy, hget, ints, take_rfy]); (next => simp [plainL, plain, plainR]))
          | (with_reducible show wcall _ false (.lit (.func (.func 83) _ _)) _ _ _ _; refine wcall_fn (h83b) ?_ ?_ ?_; (next => simp [rfyL, rfy, hget, ints, take_rfy]); (next => simp [plainL, plain, plainR]))
          | omega)
        all_goals first | exact f.down _ rfl
      · have : R = -1 := by
          rw [hr, Int.zero_mul]
          exact cmpI_l (Int.mul_pos (by omega) (by omega))
        subst this
        have f := PLift.up hE
        have d2 : (m1 == 0) = false := by simpa using z2
        clear hE hr hn hm hd hk e1 e2 e3 e4 z2
        unfold c68l0
        repeat' (first
          | with_reducible first
            | refine T_seq ?_
            | refine T_reg ?_
            | refine T_skip ?_
            | refine T_exit ?_
            | refine T_block ?_
            | refine T_cond_t rfl ?_
            | refine T_cond_f rfl ?_
            | (show wcall _ false (.lit (.func (.func 83) _ _)) _ _ _ _; refine wcall_fn (h83a) rfl (by simp [plainL, plain]) ?_)
            | (show wcall _ false (.lit (.func (.func 83) _ _)) _ _ _ _; refine wcall_fn (h83b) rfl (by simp [plainL, plain]) ?_)
            | ((first | refine T_cond rfl (fun hc => ?_) (fun hc => ?_) | refine wguard_split (fun hc => ?_) (fun hc => ?_)) <;> have hd := hc <;> (try simp (disch := omega) only [wrapI] at hd) <;> have hs := hd <;> (try simp only [Bool.not_eq_true', Bool.not_eq_false', Bool.and_eq_true, Bool.and_eq_false_iff, Bool.or_eq_true, Bool.or_eq_false_iff, decide_eq_true_eq, decide_eq_false_iff_not, beq_iff_eq, bne_iff_ne, beq_eq_false_iff_ne, bne_eq_false_iff_eq, Bool.not_true, Bool.not_false, gt_iff_lt, ge_iff_le, Int.not_lt, Int.not_le, ne_eq, Decidable.not_not] at hd) <;> (try simp at hs))
            | refine T_ret ?_
            | refine wif_intro ?_ (fun hc => ?_)
            | refine And.intro ?_ ?_
            | intro hc
          | simp (maxSteps := 4000000) only [wops_nil, wops_cons, wstep_none, wstep_some, wguard_true, wguard_tf, wrun_call, wrun_mv, wrun_pick, wrun_bin, wop, aop, ev, look, put_some, writes, ores_some, binV, thenK, blockK, List.map_cons, List.map_nil, List.length_nil, List.append_nil, List.replicate_zero, Option.map_some, if_true, if_false, Nat.reduceEqDiff, Nat.zero_ne_one, reduceCtorEq, eq_self, beq_self_eq_true, Int.reduceNeg, freeze, lidsL, lids, List.flatMap_cons, List.flatMap_nil, ren, *]
          | simp (disch := omega) only [getD_ints, wrapI]
          | (with_reducible show wcall _ false (.lit (.func (.func 83) _ _)) _ _ _ _; refine wcall_fn (h83a) ?_ ?_ ?_; (next => simp [rfyL, rfy, hget, ints, take_rfy]); (next => simp [plainL, plain, plainR]))
          | (with_reducible show wcall _ false (.lit (.func (.func 83) _ _)) _ _ _ _; refine wcall_fn (h83b) ?_ ?_ ?_; (next => simp [rfyL, rfy, hget, ints, take_rfy]); (next => simp [plainL, plain, plainR]))
          | omega)
        all_goals first | exact f.down _ rfl
    · have d3 : (n1 == 0) = false := by simpa using z1
      by_cases z2 : m1 = 0
      · subst z2
        have : R = 1 := by
          rw [hr, Int.zero_mul]
          exact cmpI_g (Int.mul_pos (by omega) (by omega))
        subst this
        have f := PLift.up hE
        clear hE hr hn hm hd hk e1 e2 e3 e4 z1
        unfold c68l0
        repeat' (first
          | with_reducible first
            | refine T_seq ?_
            | refine T_reg ?_
            | refine T_skip ?_
            | refine T_exit ?_
            | refine T_block ?_
            | refine T_cond_t rfl ?_
            | refine T_cond_f rfl ?_
            | (show wcall _ false (.lit (.func (.func 83) _ _)) _ _ _ _; refine wcall_fn (h83a) rfl (by simp [plainL, plain]) ?_)
            | (show wcall _ false (.lit (.func (.func 83) _ _)) _ _ _ _; refine wcall_fn (h83b) rfl (by simp [plainL, plain]) ?_)
            | ((first | refine T_cond rfl (fun hc => ?_) (fun hc => ?_) | refine wguard_split (fun hc => ?_) (fun hc => ?_)) <;> have hd := hc <;> (try simp (disch := omega) only [wrapI] at hd) <;> have hs := hd <;> (try simp only [Bool.not_eq_true', Bool.not_eq_false', Bool.and_eq_true, Bool.and_eq_false_iff, Bool.or_eq_true, Bool.or_eq_false_iff, decide_eq_true_eq, decide_eq_false_iff_not, beq_iff_eq, bne_iff_ne, beq_eq_false_iff_ne, bne_eq_false_iff_eq, Bool.not_true, Bool.not_false, gt_iff_lt, ge_iff_le, Int.not_lt, Int.not_le, ne_eq, Decidable.not_not] at hd) <;> (try simp at hs))
            | refine T_ret ?_
            | refine wif_intro ?_ (fun hc => ?_)
            | refine And.intro ?_ ?_
            | intro hc
          | simp (maxSteps := 4000000) only [wops_nil, wops_cons, wstep_none, wstep_some, wguard_ff, wguard_ft, wrun_call, wrun_mv, wrun_pick, wrun_bin, wop, aop, ev, look, put_some, writes, ores_some, binV, thenK, blockK, List.map_cons, List.map_nil, List.length_nil, List.append_nil, List.replicate_zero, Option.map_some, if_true, if_false, Nat.reduceEqDiff, Nat.zero_ne_one, reduceCtorEq, Bool.false_eq_true, eq_self, beq_self_eq_true, Int.reduceNeg, freeze, lidsL, lids, List.flatMap_cons, List.flatMap_nil, ren, *]
          | simp (disch := omega) only [getD_ints, wrapI]
          | (with_reducible show wcall _ false (.lit (.func (.func 83) _ _)) _ _ _ _; refine wcall_fn (h83a) ?_ ?_ ?_; (next => simp [rfyL, rfy, hget, ints, take_rfy]); (next => simp [plainL, plain, plainR]))
          | (with_reducible show wcall _ false (.lit (.func (.func 83) _ _)) _ _ _ _; refine wcall_fn (h83b) ?_ ?_ ?_; (next => simp [rfyL, rfy, hget, ints, take_rfy]); (next => simp [plainL, plain, plainR]))
          | omega)
        all_goals first | exact f.down _ rfl
      · have d2 : (m1 == 0) = false := by simpa using z2
        have hx : ∃ a b : Int, (1 ≤ a ∧ a < k) ∧ (1 ≤ b ∧ b < d) ∧ cmpI (k * b) (d * a) = R ∧ (a = m1 ∧ b = n1) := ⟨m1, n1, by omega, by omega, by rw [hr, Int.mul_comm k, Int.mul_comm d], rfl, rfl⟩
        replace hx := PLift.up hx
        clear hE hr hn hm hd hk e1 e2 e3 e4 z1 z2
        unfold c68l0
        repeat' (first
          | with_reducible first
            | refine T_seq ?_
            | refine T_reg ?_
            | refine T_skip ?_
            | refine T_exit ?_
            | refine T_block ?_
            | refine T_cond_t rfl ?_
            | refine T_cond_f rfl ?_
            | (show wcall _ false (.lit (.func (.func 83) _ _)) _ _ _ _; refine wcall_fn (h83a) rfl (by simp [plainL, plain]) ?_)
            | (show wcall _ false (.lit (.func (.func 83) _ _)) _ _ _ _; refine wcall_fn (h83b) rfl (by simp [plainL, plain]) ?_)
            | ((first | refine T_cond rfl (fun hc => ?_) (fun hc => ?_) | refine wguard_split (fun hc => ?_) (fun hc => ?_)) <;> have hd := hc <;> (try simp (disch := omega) only [wrapI] at hd) <;> have hs := hd <;> (try simp only [Bool.not_eq_true', Bool.not_eq_false', Bool.and_eq_true, Bool.and_eq_false_iff, Bool.or_eq_true, Bool.or_eq_false_iff, decide_eq_true_eq, decide_eq_false_iff_not, beq_iff_eq, bne_iff_ne, beq_eq_false_iff_ne, bne_eq_false_iff_eq, Bool.not_true, Bool.not_false, gt_iff_lt, ge_iff_le, Int.not_lt, Int.not_le, ne_eq, Decidable.not_not] at hd) <;> (try simp at hs))
            | refine T_ret ?_
            | refine wif_intro ?_ (fun hc => ?_)
            | refine And.intro ?_ ?_
            | intro hc
          | simp (maxSteps := 4000000) only [wops_nil, wops_cons, wstep_none, wstep_some, wguard_ff, wrun_call, wrun_mv, wrun_pick, wrun_bin, wop, aop, ev, look, put_some, writes, ores_some, binV, thenK, blockK, List.map_cons, List.map_nil, List.length_nil, List.append_nil, List.replicate_zero, Option.map_some, if_true, if_false, Nat.reduceEqDiff, Nat.zero_ne_one, reduceCtorEq, Bool.false_eq_true, eq_self, Int.reduceNeg, freeze, lidsL, lids, List.flatMap_cons, List.flatMap_nil, ren, *]
          | simp (disch := omega) only [getD_ints, wrapI]
          | (with_reducible show wcall _ false (.lit (.func (.func 83) _ _)) _ _ _ _; refine wcall_fn (h83a) ?_ ?_ ?_; (next => simp [rfyL, rfy, hget, ints, take_rfy]); (next => simp [plainL, plain, plainR]))
          | (with_reducible show wcall _ false (.lit (.func (.func 83) _ _)) _ _ _ _; refine wcall_fn (h83b) ?_ ?_ ?_; (next => simp [rfyL, rfy, hget, ints, take_rfy]); (next => simp [plainL, plain, plainR]))
          | omega)
        obtain ⟨a, b, x1, x2, x3, rfl, rfl⟩ := hx.down
        exact ⟨_, _, x1, x2, x3, by simp [St.only, get_mk, look]⟩
  · have d1 : (n / d != m / k) = true := by simpa using h1
    by_cases h2 : n / d < m / k
    · have hr := cmp_whole hd.1 hk.1 h2
      rw [cmpI_l hr] at hR
      have d2 : decide (n / d < m / k) = true := decide_eq_true h2
      subst hR
      have f := PLift.up hE
      clear hE hr hn hm hd hk p1 p2 p3 p4 h1 h2 ew1 ew2 ew3 ew4 hnd hmk hn1 hm1
      generalize n / d = p at *
      generalize m / k = q at *
      unfold c68l0
      repeat' (first
        | with_reducible first
          | refine T_seq ?_
          | refine T_reg ?_
          | refine T_skip ?_
          | refine T_exit ?_
          | refine T_block ?_
          | refine T_cond_t rfl ?_
          | refine T_cond_f rfl ?_
          | (show wcall _ false (.lit (.func (.func 83) _ _)) _ _ _ _; refine wcall_fn (h83a) rfl (by simp [plainL, plain]) ?_)
          | (show wcall _ false (.lit (.func (.func 83) _ _)) _ _ _ _; refine wcall_fn (h83b) rfl (by simp [plainL, plain]) ?_)
          | ((first | refine T_cond rfl (fun hc => ?_) (fun hc => ?_) | refine wguard_split (fun hc => ?_) (fun hc => ?_)) <;> have hd := hc <;> (try simp (disch := omega) only [wrapI] at hd) <;> have hs := hd <;> (try simp only [Bool.not_eq_true', Bool.not_eq_false', Bool.and_eq_true, Bool.and_eq_false_iff, Bool.or_eq_true, Bool.or_eq_false_iff, decide_eq_true_eq, decide_eq_false_iff_not, beq_iff_eq, bne_iff_ne, beq_eq_false_iff_ne, bne_eq_false_iff_eq, Bool.not_true, Bool.not_false, gt_iff_lt, ge_iff_le, Int.not_lt, Int.not_le, ne_eq, Decidable.not_not] at hd) <;> (try simp at hs))
          | refine T_ret ?_
          | refine wif_intro ?_ (fun hc => ?_)
          | refine And.intro ?_ ?_
          | intro hc
        | simp (maxSteps := 4000000) only [wops_nil, wops_cons, wstep_none, wrun_call, wrun_mv, wrun_bin, wop, aop, ev, look, put_some, writes, ores_some, binV, thenK, blockK, List.map_cons, List.map_nil, List.length_nil, List.append_nil, List.replicate_zero, Option.map_some, if_true, if_false, Nat.reduceEqDiff, Nat.zero_ne_one, reduceCtorEq, eq_self, Int.reduceNeg, freeze, lidsL, lids, List.flatMap_cons, List.flatMap_nil, ren, *]
        | simp (disch := omega) only [getD_ints, wrapI]
        | (with_reducible show wcall _ false (.lit (.func (.func 83) _ _)) _ _ _ _; refine wcall_fn (h83a) ?_ ?_ ?_; (next => simp [rfyL, rfy, hget, ints, take_rfy]); (next => simp [plainL, plain, plainR]))
        | (with_reducible show wcall _ false (.lit (.func (.func 83) _ _)) _ _ _ _; refine wcall_fn (h83b) ?_ ?_ ?_; (next => simp [rfyL, rfy, hget, ints, take_rfy]); (next => simp [plainL, plain, plainR]))
        | omega)
      all_goals first | exact f.down _ rfl
    · have hr := cmp_whole (n := m) (d := k) (m := n) (k := d) hk.1 hd.1 (by omega)
      rw [cmpI_g hr] at hR
      have d2 : decide (n / d < m / k) = false := decide_eq_false h2
      subst hR
      have f := PLift.up hE
      clear hE hr hn hm hd hk p1 p2 p3 p4 h1 h2 ew1 ew2 ew3 ew4 hnd hmk hn1 hm1
      generalize n / d = p at *
      generalize m / k = q at *
      unfold c68l0
      repeat' (first
        | with_reducible first
          | refine T_seq ?_
          | refine T_reg ?_
          | refine T_skip ?_
          | refine T_exit ?_
          | refine T_block ?_
          | refine T_cond_t rfl ?_
          | refine T_cond_f rfl ?_
          | (show wcall _ false (.lit (.func (.func 83) _ _)) _ _ _ _; refine wcall_fn (h83a) rfl (by simp [plainL, plain]) ?_)
          | (show wcall _ false (.lit (.func (.func 83) _ _)) _ _ _ _; refine wcall_fn (h83b) rfl (by simp [plainL, plain]) ?_)
          | ((first | refine T_cond rfl (fun hc => ?_) (fun hc => ?_) | refine wguard_split (fun hc => ?_) (fun hc => ?_)) <;> have hd := hc <;> (try simp (disch := omega) only [wrapI] at hd) <;> have hs := hd <;> (try simp only [Bool.not_eq_true', Bool.not_eq_false', Bool.and_eq_true, Bool.and_eq_false_iff, Bool.or_eq_true, Bool.or_eq_false_iff, decide_eq_true_eq, decide_eq_false_iff_not, beq_iff_eq, bne_iff_ne, beq_eq_false_iff_ne, bne_eq_false_iff_eq, Bool.not_true, Bool.not_false, gt_iff_lt, ge_iff_le, Int.not_lt, Int.not_le, ne_eq, Decidable.not_not] at hd) <;> (try simp at hs))
          | refine T_ret ?_
          | refine wif_intro ?_ (fun hc => ?_)
          | refine And.intro ?_ ?_
          | intro hc
        | simp (maxSteps := 4000000) only [wops_nil, wops_cons, wstep_none, wrun_call, wrun_mv, wrun_bin, wop, aop, ev, look, put_some, writes, ores_some, binV, thenK, blockK, List.map_cons, List.map_nil, List.length_nil, List.append_nil, List.replicate_zero, Option.map_some, if_true, if_false, Nat.reduceEqDiff, Nat.zero_ne_one, reduceCtorEq, eq_self, Int.reduceNeg, freeze, lidsL, lids, List.flatMap_cons, List.flatMap_nil, ren, *]
        | simp (disch := omega) only [getD_ints, wrapI]
        | (with_reducible show wcall _ false (.lit (.func (.func 83) _ _)) _ _ _ _; refine wcall_fn (h83a) ?_ ?_ ?_; (next => simp [rfyL, rfy, hget, ints, take_rfy]); (next => simp [plainL, plain, plainR]))
        | (with_reducible show wcall _ false (.lit (.func (.func 83) _ _)) _ _ _ _; refine wcall_fn (h83b) ?_ ?_ ?_; (next => simp [rfyL, rfy, hget, ints, take_rfy]); (next => simp [plainL, plain, plainR]))
        | omega)
      all_goals first | exact f.down _ rfl
def I68 (R : Int) (c : Nat) (s : St) : Prop := ∃ n d m k : Int, (-1000000000000000000 ≤ n ∧ n ≤ 1000000000000000000) ∧ (-1000000000000000000 ≤ m ∧ m ≤ 1000000000000000000) ∧ (1 ≤ d ∧ d ≤ 1000000000000000000) ∧ (1 ≤ k ∧ k ≤ 1000000000000000000) ∧ cmpI (n * k) (m * d) = R ∧ c = (d + k).toNat ∧ s = ⟨[(0, i64 n), (1, i64 d), (2, i64 m), (3, i64 k)], []⟩
set_option maxHeartbeats 8000000 in
theorem k68 (n d m k : Int) (hn : -1000000000000000000 ≤ n ∧ n ≤ 1000000000000000000) (hm : -1000000000000000000 ≤ m ∧ m ≤ 1000000000000000000) (hd : 1 ≤ d ∧ d ≤ 1000000000000000000) (hk : 1 ≤ k ∧ k ≤ 1000000000000000000) : Fn Try.prog 68 [i64 n, i64 d, i64 m, i64 k] (i64 (cmpI (n * k) (m * d))) [] := by
  refine fn_of e68 ?_
  have hR : ∃ R, cmpI (n * k) (m * d) = R := ⟨_, rfl⟩
  obtain ⟨R, hR⟩ := hR
  rw [hR]
  have hI : I68 R (d + k).toNat ⟨[(0, i64 n), (1, i64 d), (2, i64 m), (3, i64 k)], []⟩ := ⟨n, d, m, k, hn, hm, hd, hk, hR, rfl, rfl⟩
  replace hI := PLift.up hI
  clear hn hm hd hk hR
  unfold c68
  repeat' (first
    | with_reducible first
      | refine T_seq ?_
      | refine T_reg ?_
      | refine T_skip ?_
      | refine T_exit ?_
      | refine T_block ?_
      | refine T_cond_t rfl ?_
      | refine T_cond_f rfl ?_
      | ((first | refine T_cond rfl (fun hc => ?_) (fun hc => ?_) | refine wguard_split (fun hc => ?_) (fun hc => ?_)) <;> have hd := hc <;> (try simp (disch := omega) only [wrapI] at hd) <;> have hs := hd <;> (try simp only [Bool.not_eq_true', Bool.not_eq_false', Bool.and_eq_true, Bool.and_eq_false_iff, Bool.or_eq_true, Bool.or_eq_false_iff, decide_eq_true_eq, decide_eq_false_iff_not, beq_iff_eq, bne_iff_ne, beq_eq_false_iff_ne, bne_eq_false_iff_eq, Bool.not_true, Bool.not_false, gt_iff_lt, ge_iff_le, Int.not_lt, Int.not_le, ne_eq, Decidable.not_not] at hd) <;> (try simp at hs))
      | refine T_ret ?_
      | refine leave_of (.inr rfl) _ rfl ?_
      | refine leave_of (.inl rfl) _ rfl ?_
      | refine leaveA_of (.inr rfl) _ rfl ?_
      | refine leaveA_of (.inl rfl) _ rfl ?_
      | refine wif_intro ?_ (fun hc => ?_)
      | refine And.intro ?_ ?_
      | intro hc
    | simp (maxSteps := 4000000) only [wops_nil, wops_cons, wstep_none, wrun_mv, wop, aop, ev, put_some, writes, ores_some, thenK, List.map_cons, List.map_nil, List.length_nil, List.append_nil, List.replicate_zero, List.zipIdx_cons, List.zipIdx_nil, Nat.reduceAdd, Nat.zero_add, *]
    | simp (disch := omega) only [getD_ints, wrapI]
    | omega)
  refine T_loop_only [0, 1, 2, 3] (I68 R) (d + k).toNat (by simpa [St.only, get_mk, look] using hI.down) ?_
  rintro c s ⟨n, d, m, k, h1, h2, h3, h4, h5, h6, rfl⟩
  refine T_thenR (k68l h1 h2 h3 h4 h5 _ fun τ t8 => ?_) fun s' ⟨a, b, g1, g2, g3, g4⟩ => ⟨(a + b).toNat, by omega, k, a, d, b, by omega, by omega, by omega, by omega, g3, rfl, g4⟩
  have h8 : leave 0 [.tmp 8] (fun r' H' => r' = i64 R ∧ H' = []) .ret τ := leave0 (v := i64 R) (.inr rfl) (by simp [resL, resAV, t8]) (fun _ => rfl) ⟨rfl, rfl⟩
  exact h8
end Go.Abs
