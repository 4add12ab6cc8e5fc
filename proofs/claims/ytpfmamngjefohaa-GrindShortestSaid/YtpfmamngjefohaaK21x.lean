import Derived.Test.YtpfmamngjefohaaK20x
set_option linter.all false
set_option linter.unusedVariables false
set_option linter.unusedSimpArgs false
set_option linter.unusedSectionVars false
namespace Go.Abs
open Go.Proofs
/-! CheckSequence -/
set_option maxHeartbeats 8000000 in
theorem k52 (nil nq : Bool) (l : List Gr) (q : List Int) (a b : Int) (hl : l.length < 1000000) (hsz : ∀ k, k < l.length → (l.getD k gr0).nm.size ≤ 30) (hg : gE l = 0) : Fn Try.prog 52 [gts nil l, ints nq q, prV a b] (.tup [i64 (sqM l q a b), i64 (sqE l q a b)]) [] := by
  refine fn_of e52 ?_
  have hll := gR_len l
  have hql : (q.map fun x => [i64 x]).length = q.length := by simp
  have h65 := k65 nil l a b hl hsz
  unfold cdE at h65
  rw [if_neg (fun h => h hg)] at h65
  have hMz : sqE l q a b ≠ 0 → sqM l q a b = 0 := fun h => by unfold sqM; rw [if_neg h]
  cases hd0 : dpB a b with
  | false =>
    rw [hd0, if_pos rfl] at h65
    have hE : sqE l q a b = 2 := by unfold sqE; rw [hd0, if_pos rfl]
    rw [hMz (by rw [hE]; simp), hE]
    clear hMz hE hsz hg hd0
    unfold c52
    repeat' (first
      | ((with_reducible refine T_calm ?_ ?_); rfl)
      | with_reducible first
        | refine T_seq ?_
        | refine T_reg ?_
        | refine T_draw ?_
        | refine T_skip ?_
        | refine T_exit ?_
        | refine T_block ?_
        | refine T_cond_t rfl ?_
        | refine T_cond_f rfl ?_
        | refine wdW_cons rfl ?_
        | (show wcall _ false (.lit (.func (.func 65) _ _)) _ _ _ _; refine wcall_fn (h65) rfl (by simp [plainL, plain, plainR_gR]) ?_)
        | (show wcallX _ false (.lit (.func (.func 65) _ _)) _ _ _ _; refine wcallX_fn (h65) rfl (by simp [plainL, plain, plainR, plainR_gR, Int.toNat_zero, Int.toNat_one]) ?_)
        | ((first | refine T_cond rfl (fun hc => ?_) (fun hc => ?_) | refine wguard_split (fun hc => ?_) (fun hc => ?_) | refine wguardX_split (fun hc => ?_) (fun hc => ?_)) <;> have hd := hc <;> (try simp (disch := omega) only [wrapI] at hd) <;> have hs := hd <;> (try simp only [Bool.not_eq_true', Bool.not_eq_false', Bool.and_eq_true, Bool.and_eq_false_iff, Bool.or_eq_true, Bool.or_eq_false_iff, decide_eq_true_eq, decide_eq_false_iff_not, beq_iff_eq, bne_iff_ne, beq_eq_false_iff_ne, bne_eq_false_iff_eq, Bool.not_true, Bool.not_false, gt_iff_lt, ge_iff_le, Int.not_lt, Int.not_le, ne_eq, Decidable.not_not] at hd) <;> (try simp at hs))
        | refine T_ret ?_
        | refine leave_of (.inr rfl) _ rfl ?_
        | refine leave_of (.inl rfl) _ rfl ?_
        | refine leaveA_of (.inr rfl) _ rfl ?_
        | refine leaveA_of (.inl rfl) _ rfl ?_
        | refine wif_intro ?_ (fun hc => ?_)
        | refine And.intro ?_ ?_
        | intro hc
      | simp (maxSteps := 4000000) only [wops_nil, wops_cons, wstep_none, wrun_call, wrun_mv, wrun_bin, wrun_load, wrun_box, get_mk, wop, aop, ev, look, put_some, writes, ores_some, binV, thenK, value, cut, hget, AV.parts, isOne, toLits, mkAgg, tupOf, ofValue_int, List.map_cons, List.map_nil, List.length_cons, List.length_nil, List.getElem?_cons_zero, List.set_cons_zero, List.take_succ_cons, List.take_nil, List.drop_zero, List.nil_append, List.append_nil, List.replicate_zero, List.replicate_succ, List.getD_cons_zero, List.zipIdx_cons, List.zipIdx_nil, List.all_cons, List.all_nil, Option.getD_some, Option.map_some, if_true, if_false, Nat.reduceEqDiff, Nat.reduceAdd, Nat.add_zero, Nat.zero_add, reduceCtorEq, Bool.and_true, eq_self, true_and, and_self, freeze, lidsL, lids, List.flatMap_cons, List.flatMap_nil, List.all_cons, ren, renL, *]
      | simp (disch := omega) only [getD_ints, wrapI]
      | (with_reducible show wcall _ false (.lit (.func (.func 65) _ _)) _ _ _ _; refine wcall_fn (h65) ?_ ?_ ?_; (next => simp [rfyL, rfy, hget, ints, take_rfy, plainR_gR, Int.toNat_zero, Int.toNat_one]); (next => simp [plainL, plain, plainR, plainR_gR, Int.toNat_zero, Int.toNat_one]))
      | (with_reducible show wcallX _ false (.lit (.func (.func 65) _ _)) _ _ _ _; refine wcallX_fn (h65) ?_ ?_ ?_; (next => simp [rfyL, rfy, hget, ints, take_rfy, plainR_gR, Int.toNat_zero, Int.toNat_one]); (next => simp [plainL, plain, plainR, plainR_gR, Int.toNat_zero, Int.toNat_one]))
      | omega)
    all_goals first | rfl
  | true =>
    rw [hd0, if_neg (by simp)] at h65
    by_cases h12 : q.length > 12
    · have hE : sqE l q a b = 8 := by unfold sqE; rw [hd0, if_neg (by simp), if_pos h12]
      rw [hMz (by rw [hE]; simp), hE]
      have d1 : decide ((q.length : Int) > 12) = true := decide_eq_true (by omega)
      clear hMz hE hsz hg hd0 h12
      unfold c52
      repeat' (first
        | ((with_reducible refine T_calm ?_ ?_); rfl)
        | with_reducible first
          | refine T_seq ?_
          | refine T_reg ?_
          | refine T_draw ?_
          | refine T_skip ?_
          | refine T_exit ?_
          | refine T_block ?_
          | refine T_cond_t rfl ?_
          | refine T_cond_f rfl ?_
          | refine wdW_cons rfl ?_
          | (show wcall _ false (.lit (.func (.func 65) _ _)) _ _ _ _; refine wcall_fn (h65) rfl (by simp [plainL, plain, plainR_gR]) ?_)
          | (show wcallX _ false (.lit (.func (.func 65) _ _)) _ _ _ _; refine wcallX_fn (h65) rfl (by simp [plainL, plain, plainR, plainR_gR, Int.toNat_zero, Int.toNat_one]) ?_)
          | ((first | refine T_cond rfl (fun hc => ?_) (fun hc => ?_) | refine wguard_split (fun hc => ?_) (fun hc => ?_) | refine wguardX_split (fun hc => ?_) (fun hc => ?_)) <;> have hd := hc <;> (try simp (disch := omega) only [wrapI] at hd) <;> have hs := hd <;> (try simp only [Bool.not_eq_true', Bool.not_eq_false', Bool.and_eq_true, Bool.and_eq_false_iff, Bool.or_eq_true, Bool.or_eq_false_iff, decide_eq_true_eq, decide_eq_false_iff_not, beq_iff_eq, bne_iff_ne, beq_eq_false_iff_ne, bne_eq_false_iff_eq, Bool.not_true, Bool.not_false, gt_iff_lt, ge_iff_le, Int.not_lt, Int.not_le, ne_eq, Decidable.not_not] at hd) <;> (try simp at hs))
          | refine T_ret ?_
          | refine leave_of (.inr rfl) _ rfl ?_
          | refine leave_of (.inl rfl) _ rfl ?_
          | refine leaveA_of (.inr rfl) _ rfl ?_
          | refine leaveA_of (.inl rfl) _ rfl ?_
          | refine wif_intro ?_ (fun hc => ?_)
          | refine And.intro ?_ ?_
          | intro hc
        | simp (maxSteps := 4000000) only [wops_nil, wops_cons, wstep_none, wrun_call, wrun_mv, wrun_bin, wrun_load, wrun_len, wrun_box, get_mk, wop, aop, ev, look, put_some, writes, ores_some, ores_map, ores_bind, binV, thenK, intV, lenOf, value, cut, hget, AV.parts, isOne, toLits, mkAgg, tupOf, ofValue_int, List.map_cons, List.map_nil, List.length_cons, List.length_nil, List.getElem?_cons_zero, List.set_cons_zero, List.take_succ_cons, List.take_nil, List.drop_zero, List.nil_append, List.append_nil, List.replicate_zero, List.replicate_succ, List.getD_cons_zero, List.zipIdx_cons, List.zipIdx_nil, List.all_cons, List.all_nil, Option.pure_def, Option.bind_eq_bind, Option.getD_some, Option.map_some, if_true, if_false, Nat.reduceEqDiff, Nat.reduceAdd, Nat.add_zero, Nat.zero_add, Nat.zero_ne_one, reduceCtorEq, Bool.and_true, eq_self, true_and, and_self, freeze, lidsL, lids, List.flatMap_cons, List.flatMap_nil, List.all_cons, ren, renL, *]
        | simp (disch := omega) only [getD_ints, wrapI]
        | (with_reducible show wcall _ false (.lit (.func (.func 65) _ _)) _ _ _ _; refine wcall_fn (h65) ?_ ?_ ?_; (next => simp [rfyL, rfy, hget, ints, take_rfy, plainR_gR, Int.toNat_zero, Int.toNat_one]); (next => simp [plainL, plain, plainR, plainR_gR, Int.toNat_zero, Int.toNat_one]))
        | (with_reducible show wcallX _ false (.lit (.func (.func 65) _ _)) _ _ _ _; refine wcallX_fn (h65) ?_ ?_ ?_; (next => simp [rfyL, rfy, hget, ints, take_rfy, plainR_gR, Int.toNat_zero, Int.toNat_one]); (next => simp [plainL, plain, plainR, plainR_gR, Int.toNat_zero, Int.toNat_one]))
        | omega)
      all_goals first | rfl
    · have d1 : decide ((q.length : Int) > 12) = false := decide_eq_false (by omega)
      have ha : 0 ≤ a ∧ a ≤ 1000000 := by
        unfold dpB at hd0; simp only [Bool.and_eq_true, decide_eq_true_eq] at hd0; exact hd0.1
      have hbd := fun k h => sq_bd (l := l) (q := q) ha hg k h
      have hrt := (gE_ok hg).2
      have hE0 : sqE l q a b = if fe (sqe l q a) q.length ≠ 0 then fe (sqe l q a) q.length else if sqD l q a q.length > b then 14 else 0 := by
        unfold sqE; rw [hd0, if_neg (by simp), if_neg h12]
      have hstop : ∀ k, k < q.length → fe (sqe l q a) k = 0 → sqe l q a k ≠ 0 → sqM l q a b = 0 ∧ sqE l q a b = sqe l q a k := fun k hk h0 h => by
        have h1 := fe_stop h0 h q.length hk
        have h2 : sqE l q a b = sqe l q a k := by rw [hE0, h1, if_pos h]
        exact ⟨hMz (by rw [h2]; exact h), h2⟩
      have hend : fe (sqe l q a) q.length = 0 → (sqD l q a q.length > b → sqM l q a b = 0 ∧ sqE l q a b = 14) ∧ (¬sqD l q a q.length > b → sqM l q a b = sqS l q a q.length ∧ sqE l q a b = 0) := fun h0 => by
        refine ⟨fun h => ?_, fun h => ?_⟩
        · have h2 : sqE l q a b = 14 := by rw [hE0, if_neg (fun h' => h' h0), if_pos h]
          exact ⟨hMz (by rw [h2]; simp), h2⟩
        · have h2 : sqE l q a b = 0 := by rw [hE0, if_neg (fun h' => h' h0), if_neg h]
          exact ⟨by unfold sqM; rw [if_pos h2], h2⟩
      have hS0 : sqS l q a 0 = 0 := rfl
      have hD0 : sqD l q a 0 = a := if_pos rfl
      replace hstop := PLift.up hstop
      replace hend := PLift.up hend
      replace hbd := PLift.up hbd
      replace hrt := PLift.up hrt
      replace hS0 := PLift.up hS0
      replace hD0 := PLift.up hD0
      clear hE0 hMz hsz hg hd0
      generalize sqM l q a b = RM at *
      generalize sqE l q a b = RE at *
      unfold c52
      repeat' (first
        | ((with_reducible refine T_calm ?_ ?_); rfl)
        | with_reducible first
          | refine T_seq ?_
          | refine T_reg ?_
          | refine T_draw ?_
          | refine T_skip ?_
          | refine T_exit ?_
          | refine T_block ?_
          | refine T_cond_t rfl ?_
          | refine T_cond_f rfl ?_
          | refine wdW_cons rfl ?_
          | (show wcall _ false (.lit (.func (.func 65) _ _)) _ _ _ _; refine wcall_fn (h65) rfl (by simp [plainL, plain, plainR_gR]) ?_)
          | (show wcallX _ false (.lit (.func (.func 65) _ _)) _ _ _ _; refine wcallX_fn (h65) rfl (by simp [plainL, plain, plainR, plainR_gR, Int.toNat_zero, Int.toNat_one]) ?_)
          | ((first | refine T_cond rfl (fun hc => ?_) (fun hc => ?_) | refine wguard_split (fun hc => ?_) (fun hc => ?_) | refine wguardX_split (fun hc => ?_) (fun hc => ?_)) <;> have hd := hc <;> (try simp (disch := omega) only [wrapI] at hd) <;> have hs := hd <;> (try simp only [Bool.not_eq_true', Bool.not_eq_false', Bool.and_eq_true, Bool.and_eq_false_iff, Bool.or_eq_true, Bool.or_eq_false_iff, decide_eq_true_eq, decide_eq_false_iff_not, beq_iff_eq, bne_iff_ne, beq_eq_false_iff_ne, bne_eq_false_iff_eq, Bool.not_true, Bool.not_false, gt_iff_lt, ge_iff_le, Int.not_lt, Int.not_le, ne_eq, Decidable.not_not] at hd) <;> (try simp at hs))
          | refine T_ret ?_
          | refine leave_of (.inr rfl) _ rfl ?_
          | refine leave_of (.inl rfl) _ rfl ?_
          | refine leaveA_of (.inr rfl) _ rfl ?_
          | refine leaveA_of (.inl rfl) _ rfl ?_
          | refine wif_intro ?_ (fun hc => ?_)
          | refine And.intro ?_ ?_
          | intro hc
        | simp (maxSteps := 4000000) only [wops_nil, wops_cons, wstep_none, wrun_call, wrun_mv, wrun_bin, wrun_load, wrun_iaddrA, wrun_len, wrun_box, wop, aop, ev, look, put_some, writes, ores_some, ores_ite_none, ores_map, ores_bind, binV, thenK, intV, lenOf, value, cut, hget, AV.parts, isOne, toLits, mkAgg, ofValue_int, List.map_cons, List.map_nil, List.length_cons, List.length_nil, List.getElem?_cons_zero, List.set_cons_zero, List.take_succ_cons, List.take_zero, List.take_nil, List.drop_zero, List.nil_append, List.append_nil, List.replicate_zero, List.replicate_succ, List.getD_cons_zero, List.zipIdx_cons, List.zipIdx_nil, List.all_cons, List.all_nil, Option.pure_def, Option.bind_eq_bind, Option.getD_some, Option.map_some, if_true, if_false, Nat.reduceEqDiff, Nat.reduceAdd, Nat.add_zero, Nat.zero_add, Nat.mul_one, Nat.zero_ne_one, reduceCtorEq, Bool.and_true, Bool.false_eq_true, eq_self, true_and, and_self, freeze, lidsL, lids, List.flatMap_cons, List.flatMap_nil, List.all_cons, ren, Int.toNat_zero, *]
        | simp (disch := omega) only [getD_ints, wrapI]
        | (with_reducible show wcall _ false (.lit (.func (.func 65) _ _)) _ _ _ _; refine wcall_fn (h65) ?_ ?_ ?_; (next => simp [rfyL, rfy, hget, ints, take_rfy, plainR_gR, Int.toNat_zero, Int.toNat_one]); (next => simp [plainL, plain, plainR, plainR_gR, Int.toNat_zero, Int.toNat_one]))
        | (with_reducible show wcallX _ false (.lit (.func (.func 65) _ _)) _ _ _ _; refine wcallX_fn (h65) ?_ ?_ ?_; (next => simp [rfyL, rfy, hget, ints, take_rfy, plainR_gR, Int.toNat_zero, Int.toNat_one]); (next => simp [plainL, plain, plainR, plainR_gR, Int.toNat_zero, Int.toNat_one]))
        | omega)
      refine T_for [0, 5, 9, 10, 24, 25, 26] (fun k => ⟨[(0, gts nil l), (5, .loc 0 0 0), (9, i64 (sqS l q a k)), (10, i64 (sqD l q a k)), (24, ints nq q), (25, i64 q.length), (26, i64 k)], [.cells true false 2 [[i64 a, i64 b]]]⟩) q.length (fun k => fe (sqe l q a) k = 0) 0 ?_ rfl (Nat.zero_le _) ?_
      · rw [hS0.down, hD0.down]; simp [St.only, get_mk, look]
      clear h65 d1 hS0 hD0
      intro k hk hI
      have hB := hbd.down k (fun j hj => fe_all hI j hj)
      by_cases hkn : k < q.length
      · have g1 : (q.map fun x => [i64 x]).getD k [] = [i64 (q.getD k 0)] := getD_ints hkn
        have h80 := k80 (q.getD k 0) 0 ((l.length : Int) - 1)
        have hst := hstop.down k hkn hI
        have hnx := fun h => fe_next (e := sqe l q a) hI h
        have hSS : sqS l q a (k + 1) = sqS l q a k + ceil (sqD l q a k) (l.getD (q.getD k 0).toNat gr0).rt := rfl
        have hDD : sqD l q a (k + 1) = (l.getD (q.getD k 0).toNat gr0).dm := by unfold sqD; rw [if_neg (by omega), Nat.add_sub_cancel]
        unfold sqe sqR at hst
        clear hstop hend hbd
        cases a1 : (decide (0 ≤ q.getD k 0) && decide (q.getD k 0 ≤ (l.length : Int) - 1)) with
        | false =>
          rw [a1] at h80 hst
          rw [if_pos rfl] at hst
          obtain ⟨e1, e2⟩ := hst (by simp)
          rw [e1, e2]
          clear hst hnx hrt hI a1 hSS hDD
          unfold c52l0
          repeat' (first
            | ((with_reducible refine T_calm ?_ ?_); rfl)
            | with_reducible first
              | refine T_seq ?_
              | refine T_reg ?_
              | refine T_draw ?_
              | refine T_skip ?_
              | refine T_exit ?_
              | refine T_block ?_
              | refine T_cond_t rfl ?_
              | refine T_cond_f rfl ?_
              | refine wdW_cons rfl ?_
              | (show wcall _ false (.lit (.func (.func 80) _ _)) _ _ _ _; refine wcall_fn (h80) rfl (by simp [plainL, plain]) ?_)
              | (show wcallX _ false (.lit (.func (.func 80) _ _)) _ _ _ _; refine wcallX_fn (h80) rfl (by simp [plainL, plain, plainR, Int.toNat_natCast, plainR_gR]) ?_)
              | ((first | refine T_cond rfl (fun hc => ?_) (fun hc => ?_) | refine wguard_split (fun hc => ?_) (fun hc => ?_) | refine wguardX_split (fun hc => ?_) (fun hc => ?_)) <;> have hd := hc <;> (try simp (disch := omega) only [wrapI] at hd) <;> have hs := hd <;> (try simp only [decide_eq_true_eq, decide_eq_false_iff_not, Int.not_lt] at hd) <;> (try simp at hs))
              | refine T_ret ?_
              | refine leave_of (.inr rfl) _ rfl ?_
              | refine leave_of (.inl rfl) _ rfl ?_
              | refine leaveA_of (.inr rfl) _ rfl ?_
              | refine leaveA_of (.inl rfl) _ rfl ?_
              | refine wif_intro ?_ (fun hc => ?_)
              | refine And.intro ?_ ?_
              | intro hc
            | simp (maxSteps := 4000000) only [wops_nil, wops_cons, wstep_none, wrun_call, wrun_mv, wrun_bin, wrun_not, wrun_load, wrun_iaddrS, wrun_iaddrA, wrun_len, get_mk, wop, aop, ev, look, put_some, writes, ores_some, ores_none, ores_ite_none, ores_map, ores_bind, binV, thenK, blockK, boolV, intV, lenOf, value, cut, hget, mkAgg, tupOf, List.map_cons, List.map_nil, List.length_cons, List.length_nil, List.getElem?_cons_zero, List.take_succ_cons, List.take_nil, List.drop_zero, List.append_nil, List.replicate_zero, List.getD_cons_zero, Option.pure_def, Option.bind_eq_bind, Option.getD_some, Option.map_some, if_true, if_false, Nat.reduceEqDiff, Nat.zero_add, Nat.mul_one, reduceCtorEq, Bool.not_false, Bool.false_eq_true, eq_self, true_and, and_true, and_self, decide_true, freeze, lidsL, lids, List.flatMap_cons, List.flatMap_nil, ren, renL, Int.toNat_natCast, *]
            | simp (disch := omega) only [wrapI]
            | (with_reducible show wcall _ false (.lit (.func (.func 80) _ _)) _ _ _ _; refine wcall_fn (h80) ?_ ?_ ?_; (next => simp [rfyL, rfy, hget, ints, take_rfy, Int.toNat_natCast, plainR_gR]); (next => simp [plainL, plain, plainR, Int.toNat_natCast, plainR_gR]))
            | (with_reducible show wcallX _ false (.lit (.func (.func 80) _ _)) _ _ _ _; refine wcallX_fn (h80) ?_ ?_ ?_; (next => simp [rfyL, rfy, hget, ints, take_rfy, Int.toNat_natCast, plainR_gR]); (next => simp [plainL, plain, plainR, Int.toNat_natCast, plainR_gR]))
            | omega)
          all_goals first | rfl
        | true =>
          rw [a1] at h80 hst
          rw [if_neg (by simp)] at hst
          have hx : 0 ≤ q.getD k 0 ∧ q.getD k 0 ≤ (l.length : Int) - 1 := by simpa using a1
          have hxk : (q.getD k 0).toNat < l.length := by omega
          have g2 := gR_get hxk
          have hr := hrt.down _ hxk
          by_cases hge : (l.getD (q.getD k 0).toNat gr0).dm ≥ sqD l q a k
          · rw [if_pos hge] at hst
            obtain ⟨e1, e2⟩ := hst (by simp)
            rw [e1, e2]
            have d2 : decide ((l.getD (q.getD k 0).toNat gr0).dm ≥ sqD l q a k) = true := decide_eq_true hge
            clear hst hnx hrt hI a1 hge hSS hDD
            unfold c52l0
            repeat' (first
              | ((with_reducible refine T_calm ?_ ?_); rfl)
              | with_reducible first
                | refine T_seq ?_
                | refine T_reg ?_
                | refine T_draw ?_
                | refine T_skip ?_
                | refine T_exit ?_
                | refine T_block ?_
                | refine T_cond_t rfl ?_
                | refine T_cond_f rfl ?_
                | refine wdW_cons rfl ?_
                | (show wcall _ false (.lit (.func (.func 80) _ _)) _ _ _ _; refine wcall_fn (h80) rfl (by simp [plainL, plain]) ?_)
                | (show wcallX _ false (.lit (.func (.func 80) _ _)) _ _ _ _; refine wcallX_fn (h80) rfl (by simp [plainL, plain, plainR, Int.toNat_natCast, plainR_gR]) ?_)
                | ((first | refine T_cond rfl (fun hc => ?_) (fun hc => ?_) | refine wguard_split (fun hc => ?_) (fun hc => ?_) | refine wguardX_split (fun hc => ?_) (fun hc => ?_)) <;> have hd := hc <;> (try simp (disch := omega) only [wrapI] at hd) <;> have hs := hd <;> (try simp only [decide_eq_true_eq, decide_eq_false_iff_not, Int.not_lt] at hd) <;> (try simp at hs))
                | refine T_ret ?_
                | refine leave_of (.inr rfl) _ rfl ?_
                | refine leave_of (.inl rfl) _ rfl ?_
                | refine leaveA_of (.inr rfl) _ rfl ?_
                | refine leaveA_of (.inl rfl) _ rfl ?_
                | refine wif_intro ?_ (fun hc => ?_)
                | refine And.intro ?_ ?_
                | intro hc
              | simp (maxSteps := 4000000) only [wops_nil, wops_cons, wstep_none, wrun_call, wrun_mv, wrun_bin, wrun_not, wrun_load, wrun_faddr, wrun_iaddrS, wrun_iaddrA, wrun_len, get_mk, wop, aop, ev, look, put_some, writes, ores_some, ores_none, ores_ite_none, ores_map, ores_bind, binV, thenK, blockK, boolV, intV, lenOf, value, cut, hget, mkAgg, tupOf, List.map_cons, List.map_nil, List.length_cons, List.length_nil, List.getElem?_cons_zero, List.take_succ_cons, List.take_zero, List.take_nil, List.drop_succ_cons, List.drop_zero, List.append_nil, List.replicate_zero, List.getD_cons_zero, Option.pure_def, Option.bind_eq_bind, Option.getD_some, Option.map_some, if_true, if_false, Nat.reduceEqDiff, Nat.zero_add, Nat.mul_one, reduceCtorEq, Bool.not_true, Bool.false_eq_true, eq_self, true_and, and_true, and_self, decide_true, freeze, lidsL, lids, List.flatMap_cons, List.flatMap_nil, ren, renL, Int.toNat_natCast, *]
              | simp (disch := omega) only [wrapI]
              | (with_reducible show wcall _ false (.lit (.func (.func 80) _ _)) _ _ _ _; refine wcall_fn (h80) ?_ ?_ ?_; (next => simp [rfyL, rfy, hget, ints, take_rfy, Int.toNat_natCast, plainR_gR]); (next => simp [plainL, plain, plainR, Int.toNat_natCast, plainR_gR]))
              | (with_reducible show wcallX _ false (.lit (.func (.func 80) _ _)) _ _ _ _; refine wcallX_fn (h80) ?_ ?_ ?_; (next => simp [rfyL, rfy, hget, ints, take_rfy, Int.toNat_natCast, plainR_gR]); (next => simp [plainL, plain, plainR, Int.toNat_natCast, plainR_gR]))
              | omega)
            all_goals first | rfl
          · have d2 : decide ((l.getD (q.getD k 0).toNat gr0).dm ≥ sqD l q a k) = false := decide_eq_false hge
            have hn0 := PLift.up (hnx (by unfold sqe sqR; rw [a1, if_neg (by simp), if_neg hge]))
            have h84 := k84 (l.getD (q.getD k 0).toNat gr0) (sqD l q a k) (by omega) (by omega)
            have hcb := ceil_b (n := sqD l q a k) (d := (l.getD (q.getD k 0).toNat gr0).rt) hB.1.1 hr.2.1
            have ew : IntKind.i64.wrap (sqS l q a k + ceil (sqD l q a k) (l.getD (q.getD k 0).toNat gr0).rt) = sqS l q a k + ceil (sqD l q a k) (l.getD (q.getD k 0).toNat gr0).rt := wrapI (by omega) (by omega)
            rw [hSS, hDD]
            clear hst hnx hrt hI a1 hge hSS hDD
            unfold c52l0
            repeat' (first
              | ((with_reducible refine T_calm ?_ ?_); rfl)
              | with_reducible first
                | refine T_seq ?_
                | refine T_reg ?_
                | refine T_draw ?_
                | refine T_skip ?_
                | refine T_exit ?_
                | refine T_block ?_
                | refine T_cond_t rfl ?_
                | refine T_cond_f rfl ?_
                | refine wdW_cons rfl ?_
                | (show wcall _ false (.lit (.func (.func 80) _ _)) _ _ _ _; refine wcall_fn (h80) rfl (by simp [plainL, plain]) ?_)
                | (show wcallX _ false (.lit (.func (.func 80) _ _)) _ _ _ _; refine wcallX_fn (h80) rfl (by simp [plainL, plain, plainR, Int.toNat_natCast, plainR_gR]) ?_)
                | (show wcall _ false (.lit (.func (.func 84) _ _)) _ _ _ _; refine wcall_fn (h84) rfl (by simp [plainL, plain, plainR, Int.toNat_natCast, plainR_gR]) ?_)
                | (show wcallX _ false (.lit (.func (.func 84) _ _)) _ _ _ _; refine wcallX_fn (h84) rfl (by simp [plainL, plain]) ?_)
                | ((first | refine T_cond rfl (fun hc => ?_) (fun hc => ?_) | refine wguard_split (fun hc => ?_) (fun hc => ?_) | refine wguardX_split (fun hc => ?_) (fun hc => ?_)) <;> have hd := hc <;> (try simp (disch := omega) only [wrapI] at hd) <;> have hs := hd <;> (try simp only [decide_eq_true_eq, decide_eq_false_iff_not, Int.not_lt] at hd) <;> (try simp at hs))
                | refine T_ret ?_
                | refine leave_of (.inr rfl) _ rfl ?_
                | refine leave_of (.inl rfl) _ rfl ?_
                | refine leaveA_of (.inr rfl) _ rfl ?_
                | refine leaveA_of (.inl rfl) _ rfl ?_
                | refine wif_intro ?_ (fun hc => ?_)
                | refine And.intro ?_ ?_
                | intro hc
              | simp (maxSteps := 4000000) only [wops_nil, wops_cons, wstep_none, wrun_call, wrun_mv, wrun_bin, wrun_not, wrun_load, wrun_faddr, wrun_iaddrS, wrun_iaddrA, wrun_len, wrunX_mv, wrunX_bin, wrunX_load, wrunX_faddr, wrunX_iaddrS, wdW_nil, wstepX_none, wrunX_call, wop, aop, ev, look, put_some, writes, ores_some, ores_none, ores_ite_none, ores_map, ores_bind, binV, thenK, blockK, boolV, intV, lenOf, value, cut, hget, toLits, mkAgg, List.map_cons, List.map_nil, List.length_cons, List.length_nil, List.getElem?_cons_zero, List.take_succ_cons, List.take_zero, List.take_nil, List.drop_succ_cons, List.drop_zero, List.append_nil, List.replicate_zero, List.getD_cons_zero, Option.pure_def, Option.bind_eq_bind, Option.getD_some, Option.map_some, if_true, if_false, Nat.reduceEqDiff, Nat.reduceAdd, Nat.zero_add, Nat.mul_one, reduceCtorEq, Bool.not_true, Bool.false_eq_true, eq_self, true_and, and_true, and_self, decide_true, freeze, lidsL, lids, List.flatMap_cons, List.flatMap_nil, ren, Int.toNat_natCast, *]
              | simp (disch := omega) only [wrapI]
              | (with_reducible show wcall _ false (.lit (.func (.func 80) _ _)) _ _ _ _; refine wcall_fn (h80) ?_ ?_ ?_; (next => simp [rfyL, rfy, hget, ints, take_rfy, Int.toNat_natCast, plainR_gR]); (next => simp [plainL, plain, plainR, Int.toNat_natCast, plainR_gR]))
              | (with_reducible show wcallX _ false (.lit (.func (.func 80) _ _)) _ _ _ _; refine wcallX_fn (h80) ?_ ?_ ?_; (next => simp [rfyL, rfy, hget, ints, take_rfy, Int.toNat_natCast, plainR_gR]); (next => simp [plainL, plain, plainR, Int.toNat_natCast, plainR_gR]))
              | (with_reducible show wcall _ false (.lit (.func (.func 84) _ _)) _ _ _ _; refine wcall_fn (h84) ?_ ?_ ?_; (next => simp [rfyL, rfy, hget, ints, take_rfy, Int.toNat_natCast, plainR_gR]); (next => simp [plainL, plain, plainR, Int.toNat_natCast, plainR_gR]))
              | (with_reducible show wcallX _ false (.lit (.func (.func 84) _ _)) _ _ _ _; refine wcallX_fn (h84) ?_ ?_ ?_; (next => simp [rfyL, rfy, hget, ints, take_rfy, Int.toNat_natCast, plainR_gR]); (next => simp [plainL, plain, plainR, Int.toNat_natCast, plainR_gR]))
              | omega)
            all_goals first | exact hn0.down | (simp [St.only, get_mk, look]; done)
      · have hke : k = q.length := by omega
        subst hke
        obtain ⟨f1, f2⟩ := hend.down hI
        clear hstop hend hbd hrt hI
        by_cases hgt : sqD l q a q.length > b
        · obtain ⟨e1, e2⟩ := f1 hgt
          rw [e1, e2]
          have d2 : decide (sqD l q a q.length > b) = true := decide_eq_true hgt
          clear f1 f2 hgt
          unfold c52l0
          repeat' (first
            | ((with_reducible refine T_calm ?_ ?_); rfl)
            | with_reducible first
              | refine T_seq ?_
              | refine T_reg ?_
              | refine T_draw ?_
              | refine T_skip ?_
              | refine T_exit ?_
              | refine T_block ?_
              | refine T_cond_t rfl ?_
              | refine T_cond_f rfl ?_
              | refine wdW_cons rfl ?_
              | ((first | refine T_cond rfl (fun hc => ?_) (fun hc => ?_) | refine wguard_split (fun hc => ?_) (fun hc => ?_) | refine wguardX_split (fun hc => ?_) (fun hc => ?_)) <;> have hd := hc <;> (try simp (disch := omega) only [wrapI] at hd) <;> have hs := hd <;> (try simp only [decide_eq_true_eq, decide_eq_false_iff_not, Int.not_lt] at hd) <;> (try simp at hs))
              | refine T_ret ?_
              | refine leave_of (.inr rfl) _ rfl ?_
              | refine leave_of (.inl rfl) _ rfl ?_
              | refine leaveA_of (.inr rfl) _ rfl ?_
              | refine leaveA_of (.inl rfl) _ rfl ?_
              | refine wif_intro ?_ (fun hc => ?_)
              | refine And.intro ?_ ?_
              | intro hc
            | simp (maxSteps := 4000000) only [wops_nil, wops_cons, wstep_none, wrun_mv, wrun_bin, wrun_load, wrun_iaddrA, get_mk, wop, aop, ev, look, put_some, writes, ores_some, ores_ite_none, binV, thenK, blockK, value, cut, hget, mkAgg, tupOf, List.length_cons, List.length_nil, List.getElem?_cons_zero, List.take_succ_cons, List.take_nil, List.drop_succ_cons, List.drop_zero, List.append_nil, List.replicate_zero, List.getD_cons_zero, Option.getD_some, Option.map_some, if_true, if_false, Nat.reduceEqDiff, Nat.zero_add, Nat.mul_one, reduceCtorEq, Bool.false_eq_true, eq_self, false_and, ren, renL, Int.toNat_natCast, Int.toNat_one, *]
            | simp (disch := omega) only [getD_ints, wrapI]
            | omega)
          all_goals first | rfl
        · obtain ⟨e1, e2⟩ := f2 hgt
          rw [e1, e2]
          have d2 : decide (sqD l q a q.length > b) = false := decide_eq_false hgt
          clear f1 f2 hgt
          unfold c52l0
          repeat' (first
            | ((with_reducible refine T_calm ?_ ?_); rfl)
            | with_reducible first
              | refine T_seq ?_
              | refine T_reg ?_
              | refine T_draw ?_
              | refine T_skip ?_
              | refine T_exit ?_
              | refine T_block ?_
              | refine T_cond_t rfl ?_
              | refine T_cond_f rfl ?_
              | refine wdW_cons rfl ?_
              | ((first | refine T_cond rfl (fun hc => ?_) (fun hc => ?_) | refine wguard_split (fun hc => ?_) (fun hc => ?_) | refine wguardX_split (fun hc => ?_) (fun hc => ?_)) <;> have hd := hc <;> (try simp (disch := omega) only [wrapI] at hd) <;> have hs := hd <;> (try simp only [decide_eq_true_eq, decide_eq_false_iff_not, Int.not_lt] at hd) <;> (try simp at hs))
              | refine T_ret ?_
              | refine leave_of (.inr rfl) _ rfl ?_
              | refine leave_of (.inl rfl) _ rfl ?_
              | refine leaveA_of (.inr rfl) _ rfl ?_
              | refine leaveA_of (.inl rfl) _ rfl ?_
              | refine wif_intro ?_ (fun hc => ?_)
              | refine And.intro ?_ ?_
              | intro hc
            | simp (maxSteps := 4000000) only [wops_nil, wops_cons, wstep_none, wrun_mv, wrun_bin, wrun_load, wrun_iaddrA, get_mk, wop, aop, ev, look, put_some, writes, ores_some, ores_ite_none, binV, thenK, blockK, value, cut, hget, mkAgg, tupOf, List.length_cons, List.length_nil, List.getElem?_cons_zero, List.take_succ_cons, List.take_nil, List.drop_succ_cons, List.drop_zero, List.append_nil, List.replicate_zero, List.getD_cons_zero, Option.getD_some, Option.map_some, if_true, if_false, Nat.reduceEqDiff, Nat.zero_add, Nat.mul_one, reduceCtorEq, Bool.false_eq_true, eq_self, false_and, ren, renL, Int.toNat_natCast, Int.toNat_one, *]
            | simp (disch := omega) only [getD_ints, wrapI]
            | omega)
          all_goals first | rfl
end Go.Abs
