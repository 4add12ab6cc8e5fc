import Derived.Test.YtpfmamngjefohaaK4x
set_option linter.all false
set_option linter.unusedVariables false
set_option linter.unusedSimpArgs false
set_option linter.unusedSectionVars false
namespace Go.Abs
open Go.Proofs
/-! CheckGrits of the reference -/
set_option maxHeartbeats 8000000 in
theorem k44 (nil : Bool) (l : List Gr) (hl : l.length < 1000000) (hsz : ∀ k, k < l.length → (l.getD k gr0).nm.size ≤ 30) : Fn Try.prog 44 [gts nil l] (i64 (gE l)) [] := by
  refine fn_of e44 ?_
  have hll := gR_len l
  by_cases h12 : l.length > 12
  · have hE : gE l = 8 := if_pos h12
    rw [hE]
    have d1 : decide ((l.length : Int) > 12) = true := decide_eq_true (by omega)
    clear hE h12 hsz
    unfold c44
    repeat' (first
      | with_reducible first
        | refine T_seq ?_
        | refine T_reg ?_
        | refine T_skip ?_
        | refine T_exit ?_
        | refine T_block ?_
        | refine T_cond_t rfl ?_
        | refine T_cond_f rfl ?_
        | ((first | refine T_cond rfl (fun hc => ?_) (fun hc => ?_) | refine wguard_split (fun hc => ?_) (fun hc => ?_)) <;> have hd := hc <;> (try simp (disch := omega) only [wrapI] at hd) <;> have hs := hd <;> (try simp only [Bool.not_eq_true', Bool.not_eq_false', Bool.and_eq_true, Bool.and_eq_false_iff, Bool.or_eq_true, Bool.or_eq_false_iff, decide_eq_true_eq, decide_eq_false_iff_not, beq_iff_eq, bne_iff_ne, beq_eq_false_iff_ne, bne_eq_false_iff_eq, Bool.not_true, Bool.not_false, gt_iff_lt, ge_iff_le, Int.not_lt, Int.not_le, ne_eq, Decidable.not_not] at hd) <;> (try simp at hs))
        | refine T_ret ?_
        | refine leave_of (.inr rfl) _ rfl ?_
        | refine leave_of (.inl rfl) _ rfl ?_
        | refine leaveA_of (.inr rfl) _ rfl ?_
        | refine leaveA_of (.inl rfl) _ rfl ?_
        | refine wif_intro ?_ (fun hc => ?_)
        | refine And.intro ?_ ?_
        | intro hc
      | simp (maxSteps := 4000000) only [wops_nil, wops_cons, wstep_none, wrun_mv, wrun_bin, wrun_len, get_mk, wop, aop, ev, look, put_some, writes, ores_some, ores_map, ores_bind, binV, thenK, intV, lenOf, hget, tupOf, List.map_cons, List.map_nil, List.length_nil, List.append_nil, List.replicate_zero, List.zipIdx_cons, List.zipIdx_nil, Option.pure_def, Option.bind_eq_bind, Option.map_some, if_true, if_false, Nat.reduceEqDiff, Nat.zero_add, reduceCtorEq, eq_self, ren, *]
      | simp (disch := omega) only [getD_ints, wrapI]
      | omega)
    all_goals first | rfl
  · have d1 : decide ((l.length : Int) > 12) = false := decide_eq_false (by omega)
    have hE : gE l = gErs l l.length := if_neg h12
    rw [hE]
    have hstop := fun k (hk : k < l.length) (h0 : gErs l k = 0) (h : gErr l k ≠ 0) => gErs_stop h0 h l.length hk
    have hnext := fun k (h0 : gErs l k = 0) (h : gErr l k = 0) => gErs_next h0 h
    have hend : gErs l l.length = 0 → gErs l l.length = 0 := fun h => h
    replace hstop := PLift.up hstop
    replace hnext := PLift.up hnext
    replace hend := PLift.up hend
    replace hsz := PLift.up hsz
    clear hE h12
    have hRe : ∃ R, R = gErs l l.length := ⟨_, rfl⟩
    obtain ⟨R, hRe⟩ := hRe
    rw [← hRe] at hstop hend ⊢
    replace hRe := PLift.up hRe
    unfold c44
    repeat' (first
      | with_reducible first
        | refine T_seq ?_
        | refine T_reg ?_
        | refine T_skip ?_
        | refine T_exit ?_
        | refine T_block ?_
        | refine T_cond_t rfl ?_
        | refine T_cond_f rfl ?_
        | ((first | refine T_cond rfl (fun hc => ?_) (fun hc => ?_) | refine wguard_split (fun hc => ?_) (fun hc => ?_)) <;> have hd := hc <;> (try simp (disch := omega) only [wrapI] at hd) <;> have hs := hd <;> (try simp only [Bool.not_eq_true', Bool.not_eq_false', Bool.and_eq_true, Bool.and_eq_false_iff, Bool.or_eq_true, Bool.or_eq_false_iff, decide_eq_true_eq, decide_eq_false_iff_not, beq_iff_eq, bne_iff_ne, beq_eq_false_iff_ne, bne_eq_false_iff_eq, Bool.not_true, Bool.not_false, gt_iff_lt, ge_iff_le, Int.not_lt, Int.not_le, ne_eq, Decidable.not_not] at hd) <;> (try simp at hs))
        | refine T_ret ?_
        | refine leave_of (.inr rfl) _ rfl ?_
        | refine leave_of (.inl rfl) _ rfl ?_
        | refine leaveA_of (.inr rfl) _ rfl ?_
        | refine leaveA_of (.inl rfl) _ rfl ?_
        | refine wif_intro ?_ (fun hc => ?_)
        | refine And.intro ?_ ?_
        | intro hc
      | simp (maxSteps := 4000000) only [wops_nil, wops_cons, wstep_none, wrun_mv, wrun_bin, wrun_len, wop, aop, ev, look, put_some, writes, ores_some, ores_map, ores_bind, binV, thenK, intV, lenOf, hget, List.map_cons, List.map_nil, List.length_nil, List.append_nil, List.replicate_zero, List.zipIdx_cons, List.zipIdx_nil, Option.pure_def, Option.bind_eq_bind, Option.map_some, if_true, if_false, Nat.reduceEqDiff, Nat.zero_add, reduceCtorEq, eq_self, *]
      | simp (disch := omega) only [getD_ints, wrapI]
      | omega)
    refine T_for [0, 3] (fun k => ⟨[(0, gts nil l), (3, i64 k)], []⟩) l.length (fun k => gErs l k = 0) 0 rfl rfl (Nat.zero_le _) ?_
    clear d1
    intro k hk hI
    by_cases hkn : k < l.length
    · have g1 := gR_get hkn
      have h33 := k33 (l.getD k gr0).nm (by have := hsz.down k hkn; omega)
      have h85 := k85 nil l (l.getD k gr0).nm hl
      have hdup := gAt_dup hkn
      have h15a := k15 (l.getD k gr0).dm 0 1000000
      have h15b := k15 (l.getD k gr0).rt 1 100000
      have hst := fun h => hstop.down k hkn hI h
      have hnx := fun h => hnext.down k hI h
      unfold gErr at hst hnx
      clear hstop hnext hend hI hsz hRe
      cases a1 : nmB (l.getD k gr0).nm with
      | false =>
        rw [a1] at h33 hst
        have hr := hst (by simp)
        rw [if_pos rfl] at hr
        rw [hr]
        clear hst hnx hr h85 h15a h15b hdup a1
        unfold c44l0
        repeat' (first
          | with_reducible first
            | refine T_seq ?_
            | refine T_reg ?_
            | refine T_skip ?_
            | refine T_exit ?_
            | refine T_block ?_
            | refine T_cond_t rfl ?_
            | refine T_cond_f rfl ?_
            | (show wcall _ false (.lit (.func (.func 33) _ _)) _ _ _ _; refine wcall_fn (h33) rfl (by simp [plainL, plain]) ?_)
            | ((first | refine T_cond rfl (fun hc => ?_) (fun hc => ?_) | refine wguard_split (fun hc => ?_) (fun hc => ?_)) <;> have hd := hc <;> (try simp (disch := omega) only [wrapI] at hd) <;> have hs := hd <;> (try simp only [decide_eq_true_eq, decide_eq_false_iff_not, Int.not_lt] at hd) <;> (try simp at hs))
            | refine T_ret ?_
            | refine leave_of (.inr rfl) _ rfl ?_
            | refine leave_of (.inl rfl) _ rfl ?_
            | refine leaveA_of (.inr rfl) _ rfl ?_
            | refine leaveA_of (.inl rfl) _ rfl ?_
            | refine wif_intro ?_ (fun hc => ?_)
            | refine And.intro ?_ ?_
            | intro hc
          | simp (maxSteps := 4000000) only [wops_nil, wops_cons, wstep_none, wrun_call, wrun_mv, wrun_bin, wrun_not, wrun_load, wrun_faddr, wrun_iaddrS, wrun_len, get_mk, wop, aop, ev, look, put_some, writes, ores_some, ores_ite_none, ores_map, ores_bind, binV, thenK, blockK, boolV, intV, lenOf, value, cut, hget, mkAgg, tupOf, List.map_cons, List.map_nil, List.length_cons, List.length_nil, List.take_succ_cons, List.take_zero, List.drop_zero, List.append_nil, List.replicate_zero, Option.pure_def, Option.bind_eq_bind, Option.map_some, if_true, if_false, Nat.reduceEqDiff, Nat.add_zero, Nat.zero_add, reduceCtorEq, Bool.not_false, Bool.false_eq_true, eq_self, true_and, and_true, and_self, decide_true, freeze, lidsL, lids, List.flatMap_cons, List.flatMap_nil, ren, Int.toNat_natCast, *]
          | simp (disch := omega) only [getD_ints, wrapI]
          | (with_reducible show wcall _ false (.lit (.func (.func 33) _ _)) _ _ _ _; refine wcall_fn (h33) ?_ ?_ ?_; (next => simp [rfyL, rfy, hget, ints, take_rfy, Int.toNat_natCast]); (next => simp [plainL, plain, plainR, Int.toNat_natCast]))
          | omega)
        all_goals first | rfl
      | true =>
        rw [a1] at h33 hst hnx
        rw [if_neg (by simp)] at hst hnx
        cases a2 : gDup l k with
        | true =>
          rw [a2] at hdup hst
          have hr := hst (by simp)
          rw [if_pos rfl] at hr
          rw [hr]
          clear hst hnx hr h15a h15b a1 a2
          unfold c44l0
          repeat' (first
            | with_reducible first
              | refine T_seq ?_
              | refine T_reg ?_
              | refine T_skip ?_
              | refine T_exit ?_
              | refine T_block ?_
              | refine T_cond_t rfl ?_
              | refine T_cond_f rfl ?_
              | (show wcall _ false (.lit (.func (.func 33) _ _)) _ _ _ _; refine wcall_fn (h33) rfl (by simp [plainL, plain]) ?_)
              | (show wcall _ false (.lit (.func (.func 85) _ _)) _ _ _ _; refine wcall_fn (h85) rfl (by simp [plainL, plain, plainR_gR]) ?_)
              | ((first | refine T_cond rfl (fun hc => ?_) (fun hc => ?_) | refine wguard_split (fun hc => ?_) (fun hc => ?_)) <;> have hd := hc <;> (try simp (disch := omega) only [wrapI] at hd) <;> have hs := hd <;> (try simp only [decide_eq_true_eq, decide_eq_false_iff_not, Int.not_lt] at hd) <;> (try simp at hs))
              | refine T_ret ?_
              | refine leave_of (.inr rfl) _ rfl ?_
              | refine leave_of (.inl rfl) _ rfl ?_
              | refine leaveA_of (.inr rfl) _ rfl ?_
              | refine leaveA_of (.inl rfl) _ rfl ?_
              | refine wif_intro ?_ (fun hc => ?_)
              | refine And.intro ?_ ?_
              | intro hc
            | simp (maxSteps := 4000000) only [wops_nil, wops_cons, wstep_none, wrun_call, wrun_mv, wrun_bin, wrun_not, wrun_load, wrun_faddr, wrun_iaddrS, wrun_len, get_mk, wop, aop, ev, look, put_some, writes, ores_some, ores_ite_none, ores_map, ores_bind, binV, thenK, blockK, boolV, intV, lenOf, value, cut, hget, mkAgg, tupOf, List.map_cons, List.map_nil, List.length_cons, List.length_nil, List.take_succ_cons, List.take_zero, List.drop_zero, List.append_nil, List.replicate_zero, Option.pure_def, Option.bind_eq_bind, Option.map_some, if_true, if_false, Nat.reduceEqDiff, Nat.add_zero, Nat.zero_add, reduceCtorEq, Bool.not_true, Bool.false_eq_true, eq_self, true_and, and_true, and_self, decide_true, freeze, lidsL, lids, List.flatMap_cons, List.flatMap_nil, ren, Int.toNat_natCast, *]
            | simp (disch := omega) only [getD_ints, wrapI]
            | (with_reducible show wcall _ false (.lit (.func (.func 33) _ _)) _ _ _ _; refine wcall_fn (h33) ?_ ?_ ?_; (next => simp [rfyL, rfy, hget, ints, take_rfy, Int.toNat_natCast, plainR_gR]); (next => simp [plainL, plain, plainR, Int.toNat_natCast, plainR_gR]))
            | (with_reducible show wcall _ false (.lit (.func (.func 85) _ _)) _ _ _ _; refine wcall_fn (h85) ?_ ?_ ?_; (next => simp [rfyL, rfy, hget, ints, take_rfy, Int.toNat_natCast, plainR_gR]); (next => simp [plainL, plain, plainR, Int.toNat_natCast, plainR_gR]))
            | omega)
          all_goals first | rfl
        | false =>
          rw [a2] at hdup hst hnx
          rw [if_neg (by simp)] at hst hnx
          unfold gRng at hst hnx
          cases a3 : (decide (0 ≤ (l.getD k gr0).dm) && decide ((l.getD k gr0).dm ≤ 1000000)) with
          | false =>
            rw [a3] at h15a hst
            have hr := hst (by simp)
            rw [if_pos (by simp)] at hr
            rw [hr]
            clear hst hnx hr h15b a1 a2 a3
            unfold c44l0
            repeat' (first
              | with_reducible first
                | refine T_seq ?_
                | refine T_reg ?_
                | refine T_skip ?_
                | refine T_exit ?_
                | refine T_block ?_
                | refine T_cond_t rfl ?_
                | refine T_cond_f rfl ?_
                | (show wcall _ false (.lit (.func (.func 33) _ _)) _ _ _ _; refine wcall_fn (h33) rfl (by simp [plainL, plain]) ?_)
                | (show wcall _ false (.lit (.func (.func 85) _ _)) _ _ _ _; refine wcall_fn (h85) rfl (by simp [plainL, plain, plainR_gR]) ?_)
                | (show wcall _ false (.lit (.func (.func 15) _ _)) _ _ _ _; refine wcall_fn (h15a) rfl (by simp [plainL, plain]) ?_)
                | ((first | refine T_cond rfl (fun hc => ?_) (fun hc => ?_) | refine wguard_split (fun hc => ?_) (fun hc => ?_)) <;> have hd := hc <;> (try simp (disch := omega) only [wrapI] at hd) <;> have hs := hd <;> (try simp only [decide_eq_true_eq, decide_eq_false_iff_not, Int.not_lt] at hd) <;> (try simp at hs))
                | refine T_ret ?_
                | refine leave_of (.inr rfl) _ rfl ?_
                | refine leave_of (.inl rfl) _ rfl ?_
                | refine leaveA_of (.inr rfl) _ rfl ?_
                | refine leaveA_of (.inl rfl) _ rfl ?_
                | refine wif_intro ?_ (fun hc => ?_)
                | refine And.intro ?_ ?_
                | intro hc
              | simp (maxSteps := 4000000) only [wops_nil, wops_cons, wstep_none, wstep_some, wguard_tf, wrun_call, wrun_mv, wrun_pick, wrun_bin, wrun_not, wrun_load, wrun_faddr, wrun_iaddrS, wrun_len, get_mk, wop, aop, ev, look, put_some, writes, ores_some, ores_ite_none, ores_map, ores_bind, binV, thenK, blockK, boolV, intV, lenOf, value, cut, hget, mkAgg, tupOf, List.map_cons, List.map_nil, List.length_cons, List.length_nil, List.take_succ_cons, List.take_zero, List.drop_succ_cons, List.drop_zero, List.append_nil, List.replicate_zero, Option.pure_def, Option.bind_eq_bind, Option.map_some, if_true, if_false, Nat.reduceEqDiff, Nat.add_zero, Nat.zero_add, reduceCtorEq, Bool.not_true, Bool.not_false, Bool.false_eq_true, eq_self, true_and, and_true, and_self, decide_true, freeze, lidsL, lids, List.flatMap_cons, List.flatMap_nil, ren, Int.toNat_natCast, *]
              | simp (disch := omega) only [getD_ints, wrapI]
              | (with_reducible show wcall _ false (.lit (.func (.func 33) _ _)) _ _ _ _; refine wcall_fn (h33) ?_ ?_ ?_; (next => simp [rfyL, rfy, hget, ints, take_rfy, Int.toNat_natCast, plainR_gR]); (next => simp [plainL, plain, plainR, Int.toNat_natCast, plainR_gR]))
              | (with_reducible show wcall _ false (.lit (.func (.func 85) _ _)) _ _ _ _; refine wcall_fn (h85) ?_ ?_ ?_; (next => simp [rfyL, rfy, hget, ints, take_rfy, Int.toNat_natCast, plainR_gR]); (next => simp [plainL, plain, plainR, Int.toNat_natCast, plainR_gR]))
              | (with_reducible show wcall _ false (.lit (.func (.func 15) _ _)) _ _ _ _; refine wcall_fn (h15a) ?_ ?_ ?_; (next => simp [rfyL, rfy, hget, ints, take_rfy, Int.toNat_natCast, plainR_gR]); (next => simp [plainL, plain, plainR, Int.toNat_natCast, plainR_gR]))
              | omega)
            all_goals first | rfl
          | true =>
            rw [a3] at h15a hst hnx
            cases a4 : (decide (1 ≤ (l.getD k gr0).rt) && decide ((l.getD k gr0).rt ≤ 100000)) with
            | false =>
              rw [a4] at h15b hst
              have hr := hst (by simp)
              rw [if_pos (by simp)] at hr
              rw [hr]
              clear hst hnx hr a1 a2 a3 a4
              unfold c44l0
              repeat' (first
                | with_reducible first
                  | refine T_seq ?_
                  | refine T_reg ?_
                  | refine T_skip ?_
                  | refine T_exit ?_
                  | refine T_block ?_
                  | refine T_cond_t rfl ?_
                  | refine T_cond_f rfl ?_
                  | (show wcall _ false (.lit (.func (.func 33) _ _)) _ _ _ _; refine wcall_fn (h33) rfl (by simp [plainL, plain]) ?_)
                  | (show wcall _ false (.lit (.func (.func 85) _ _)) _ _ _ _; refine wcall_fn (h85) rfl (by simp [plainL, plain, plainR_gR]) ?_)
                  | (show wcall _ false (.lit (.func (.func 15) _ _)) _ _ _ _; refine wcall_fn (h15a) rfl (by simp [plainL, plain]) ?_)
                  | (show wcall _ false (.lit (.func (.func 15) _ _)) _ _ _ _; refine wcall_fn (h15b) rfl (by simp [plainL, plain]) ?_)
                  | ((first | refine T_cond rfl (fun hc => ?_) (fun hc => ?_) | refine wguard_split (fun hc => ?_) (fun hc => ?_)) <;> have hd := hc <;> (try simp (disch := omega) only [wrapI] at hd) <;> have hs := hd <;> (try simp only [decide_eq_true_eq, decide_eq_false_iff_not, Int.not_lt] at hd) <;> (try simp at hs))
                  | refine T_ret ?_
                  | refine leave_of (.inr rfl) _ rfl ?_
                  | refine leave_of (.inl rfl) _ rfl ?_
                  | refine leaveA_of (.inr rfl) _ rfl ?_
                  | refine leaveA_of (.inl rfl) _ rfl ?_
                  | refine wif_intro ?_ (fun hc => ?_)
                  | refine And.intro ?_ ?_
                  | intro hc
                | simp (maxSteps := 4000000) only [wops_nil, wops_cons, wstep_none, wstep_some, wguard_ff, wrun_call, wrun_mv, wrun_pick, wrun_bin, wrun_not, wrun_load, wrun_faddr, wrun_iaddrS, wrun_len, get_mk, wop, aop, ev, look, put_some, writes, ores_some, ores_ite_none, ores_map, ores_bind, binV, thenK, blockK, boolV, intV, lenOf, value, cut, hget, mkAgg, tupOf, List.map_cons, List.map_nil, List.length_cons, List.length_nil, List.take_succ_cons, List.take_zero, List.take_nil, List.drop_succ_cons, List.drop_zero, List.append_nil, List.replicate_zero, Option.pure_def, Option.bind_eq_bind, Option.map_some, if_true, if_false, Nat.reduceEqDiff, Nat.add_zero, Nat.zero_add, reduceCtorEq, Bool.not_true, Bool.not_false, Bool.false_eq_true, eq_self, true_and, and_true, and_self, decide_true, freeze, lidsL, lids, List.flatMap_cons, List.flatMap_nil, ren, Int.toNat_natCast, *]
                | simp (disch := omega) only [getD_ints, wrapI]
                | (with_reducible show wcall _ false (.lit (.func (.func 33) _ _)) _ _ _ _; refine wcall_fn (h33) ?_ ?_ ?_; (next => simp [rfyL, rfy, hget, ints, take_rfy, Int.toNat_natCast, plainR_gR]); (next => simp [plainL, plain, plainR, Int.toNat_natCast, plainR_gR]))
                | (with_reducible show wcall _ false (.lit (.func (.func 85) _ _)) _ _ _ _; refine wcall_fn (h85) ?_ ?_ ?_; (next => simp [rfyL, rfy, hget, ints, take_rfy, Int.toNat_natCast, plainR_gR]); (next => simp [plainL, plain, plainR, Int.toNat_natCast, plainR_gR]))
                | (with_reducible show wcall _ false (.lit (.func (.func 15) _ _)) _ _ _ _; refine wcall_fn (h15a) ?_ ?_ ?_; (next => simp [rfyL, rfy, hget, ints, take_rfy, Int.toNat_natCast, plainR_gR]); (next => simp [plainL, plain, plainR, Int.toNat_natCast, plainR_gR]))
                | (with_reducible show wcall _ false (.lit (.func (.func 15) _ _)) _ _ _ _; refine wcall_fn (h15b) ?_ ?_ ?_; (next => simp [rfyL, rfy, hget, ints, take_rfy, Int.toNat_natCast, plainR_gR]); (next => simp [plainL, plain, plainR, Int.toNat_natCast, plainR_gR]))
                | omega)
              all_goals first | rfl
            | true =>
              rw [a4] at h15b hnx
              have hr := PLift.up (hnx (by simp))
              clear hst hnx a1 a2 a3 a4
              unfold c44l0
              repeat' (first
                | with_reducible first
                  | refine T_seq ?_
                  | refine T_reg ?_
                  | refine T_skip ?_
                  | refine T_exit ?_
                  | refine T_block ?_
                  | refine T_cond_t rfl ?_
                  | refine T_cond_f rfl ?_
                  | (show wcall _ false (.lit (.func (.func 33) _ _)) _ _ _ _; refine wcall_fn (h33) rfl (by simp [plainL, plain]) ?_)
                  | (show wcall _ false (.lit (.func (.func 85) _ _)) _ _ _ _; refine wcall_fn (h85) rfl (by simp [plainL, plain, plainR_gR]) ?_)
                  | (show wcall _ false (.lit (.func (.func 15) _ _)) _ _ _ _; refine wcall_fn (h15a) rfl (by simp [plainL, plain]) ?_)
                  | (show wcall _ false (.lit (.func (.func 15) _ _)) _ _ _ _; refine wcall_fn (h15b) rfl (by simp [plainL, plain]) ?_)
                  | ((first | refine T_cond rfl (fun hc => ?_) (fun hc => ?_) | refine wguard_split (fun hc => ?_) (fun hc => ?_)) <;> have hd := hc <;> (try simp (disch := omega) only [wrapI] at hd) <;> have hs := hd <;> (try simp only [decide_eq_true_eq, decide_eq_false_iff_not, Int.not_lt] at hd) <;> (try simp at hs))
                  | refine T_ret ?_
                  | refine leave_of (.inr rfl) _ rfl ?_
                  | refine leave_of (.inl rfl) _ rfl ?_
                  | refine leaveA_of (.inr rfl) _ rfl ?_
                  | refine leaveA_of (.inl rfl) _ rfl ?_
                  | refine wif_intro ?_ (fun hc => ?_)
                  | refine And.intro ?_ ?_
                  | intro hc
                | simp (maxSteps := 4000000) only [wops_nil, wops_cons, wstep_none, wstep_some, wguard_ff, wrun_call, wrun_mv, wrun_pick, wrun_bin, wrun_not, wrun_load, wrun_faddr, wrun_iaddrS, wrun_len, get_mk, wop, aop, ev, look, put_some, writes, ores_some, ores_ite_none, ores_map, ores_bind, binV, thenK, blockK, boolV, intV, lenOf, value, cut, hget, mkAgg, tupOf, List.map_cons, List.map_nil, List.length_cons, List.length_nil, List.take_succ_cons, List.take_zero, List.take_nil, List.drop_succ_cons, List.drop_zero, List.append_nil, List.replicate_zero, Option.pure_def, Option.bind_eq_bind, Option.map_some, if_true, if_false, Nat.reduceEqDiff, Nat.add_zero, Nat.zero_add, reduceCtorEq, Bool.not_true, Bool.false_eq_true, eq_self, true_and, and_true, and_self, decide_true, freeze, lidsL, lids, List.flatMap_cons, List.flatMap_nil, ren, Int.toNat_natCast, *]
                | simp (disch := omega) only [wrapI]
                | (with_reducible show wcall _ false (.lit (.func (.func 33) _ _)) _ _ _ _; refine wcall_fn (h33) ?_ ?_ ?_; (next => simp [rfyL, rfy, hget, ints, take_rfy, Int.toNat_natCast, plainR_gR]); (next => simp [plainL, plain, plainR, Int.toNat_natCast, plainR_gR]))
                | (with_reducible show wcall _ false (.lit (.func (.func 85) _ _)) _ _ _ _; refine wcall_fn (h85) ?_ ?_ ?_; (next => simp [rfyL, rfy, hget, ints, take_rfy, Int.toNat_natCast, plainR_gR]); (next => simp [plainL, plain, plainR, Int.toNat_natCast, plainR_gR]))
                | (with_reducible show wcall _ false (.lit (.func (.func 15) _ _)) _ _ _ _; refine wcall_fn (h15a) ?_ ?_ ?_; (next => simp [rfyL, rfy, hget, ints, take_rfy, Int.toNat_natCast, plainR_gR]); (next => simp [plainL, plain, plainR, Int.toNat_natCast, plainR_gR]))
                | (with_reducible show wcall _ false (.lit (.func (.func 15) _ _)) _ _ _ _; refine wcall_fn (h15b) ?_ ?_ ?_; (next => simp [rfyL, rfy, hget, ints, take_rfy, Int.toNat_natCast, plainR_gR]); (next => simp [plainL, plain, plainR, Int.toNat_natCast, plainR_gR]))
                | omega)
              all_goals first | exact hr.down | (simp [St.only, get_mk, look]; done)
    · have hke : k = l.length := by omega
      subst hke
      have hr : R = 0 := hRe.down.trans hI
      rw [hr]
      clear hI hstop hnext hend hsz hRe hr
      unfold c44l0
      repeat' (first
        | with_reducible first
          | refine T_seq ?_
          | refine T_reg ?_
          | refine T_skip ?_
          | refine T_exit ?_
          | refine T_block ?_
          | refine T_cond_t rfl ?_
          | refine T_cond_f rfl ?_
          | ((first | refine T_cond rfl (fun hc => ?_) (fun hc => ?_) | refine wguard_split (fun hc => ?_) (fun hc => ?_)) <;> have hd := hc <;> (try simp (disch := omega) only [wrapI] at hd) <;> have hs := hd <;> (try simp only [decide_eq_true_eq, decide_eq_false_iff_not, Int.not_lt] at hd) <;> (try simp at hs))
          | refine T_ret ?_
          | refine leave_of (.inr rfl) _ rfl ?_
          | refine leave_of (.inl rfl) _ rfl ?_
          | refine leaveA_of (.inr rfl) _ rfl ?_
          | refine leaveA_of (.inl rfl) _ rfl ?_
          | refine wif_intro ?_ (fun hc => ?_)
          | refine And.intro ?_ ?_
          | intro hc
        | simp (maxSteps := 4000000) only [wops_nil, wops_cons, wstep_none, wrun_mv, wrun_bin, wrun_len, get_mk, wop, aop, ev, look, put_some, writes, ores_some, ores_map, ores_bind, binV, thenK, blockK, intV, lenOf, hget, tupOf, List.length_nil, List.append_nil, List.replicate_zero, Option.pure_def, Option.bind_eq_bind, Option.map_some, if_true, if_false, Nat.reduceEqDiff, reduceCtorEq, eq_self, false_and, ren, *]
        | simp (disch := omega) only [getD_ints, wrapI]
        | omega)
      all_goals first | rfl
end Go.Abs
