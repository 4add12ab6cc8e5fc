import Derived.Test.YtpfmamngjefohaaK10x
set_option linter.all false
set_option linter.unusedVariables false
set_option linter.unusedSimpArgs false
set_option linter.unusedSectionVars false
namespace Go.Abs
open Go.Proofs
/-! GrindGrits -/
set_option maxHeartbeats 8000000 in
theorem k7 (nil : Bool) (l : List Gr) (g d : Int) (hl0 : l.length ≤ 9223372036854775807) : Fn Try.prog 7 [gts nil l, i64 g, i64 d] (bl true) [] := by
  refine fn_of e7 ?_
  have h13 := k13
  have hll := gR_len l
  have h14 := k14 nil l hl0
  cases hg : gritB l with
  | false =>
    rw [hg] at h14
    clear hg
    unfold c7
    repeat' (first
      | with_reducible first
        | refine T_seq ?_
        | refine T_reg ?_
        | refine T_skip ?_
        | refine T_exit ?_
        | refine T_block ?_
        | refine T_cond_t rfl ?_
        | refine T_cond_f rfl ?_
        | (show wcall _ false (.lit (.func (.func 13) _ _)) _ _ _ _; refine wcall_fn (h13) rfl (by simp [plainL]) ?_)
        | (show wcall _ false (.lit (.func (.func 14) _ _)) _ _ _ _; refine wcall_fn (h14) rfl (by simp [plainL, plain, plainR_gR]) ?_)
        | ((first | refine T_cond rfl (fun hc => ?_) (fun hc => ?_) | refine wguard_split (fun hc => ?_) (fun hc => ?_)) <;> have hd := hc <;> (try simp (disch := omega) only [wrapI] at hd) <;> have hs := hd <;> (try simp only [Bool.not_eq_true', Bool.not_eq_false', Bool.and_eq_true, Bool.and_eq_false_iff, Bool.or_eq_true, Bool.or_eq_false_iff, decide_eq_true_eq, decide_eq_false_iff_not, beq_iff_eq, bne_iff_ne, beq_eq_false_iff_ne, bne_eq_false_iff_eq, Bool.not_true, Bool.not_false, gt_iff_lt, ge_iff_le, Int.not_lt, Int.not_le, ne_eq, Decidable.not_not] at hd) <;> (try simp at hs))
        | refine T_ret ?_
        | refine leave_of (.inr rfl) _ rfl ?_
        | refine leave_of (.inl rfl) _ rfl ?_
        | refine leaveA_of (.inr rfl) _ rfl ?_
        | refine leaveA_of (.inl rfl) _ rfl ?_
        | refine wif_intro ?_ (fun hc => ?_)
        | refine And.intro ?_ ?_
        | intro hc
      | simp (maxSteps := 4000000) only [wops_nil, wops_cons, wstep_none, wrun_call, wrun_mv, wrun_not, get_mk, wop, aop, ev, look, put_some, writes, ores_some, thenK, boolV, tupOf, List.map_cons, List.map_nil, List.length_nil, List.append_nil, List.replicate_zero, List.zipIdx_cons, List.zipIdx_nil, if_true, if_false, Nat.reduceEqDiff, Nat.reduceAdd, Nat.zero_add, reduceCtorEq, Bool.not_true, Bool.not_false, eq_self, freeze, lidsL, lids, List.flatMap_cons, List.flatMap_nil, ren, *]
      | simp (disch := omega) only [getD_ints, wrapI]
      | (with_reducible show wcall _ false (.lit (.func (.func 13) _ _)) _ _ _ _; refine wcall_fn (h13) ?_ ?_ ?_; (next => simp [rfyL, rfy, hget, ints, take_rfy, plainR_gR]); (next => simp [plainL, plain, plainR, plainR_gR]))
      | (with_reducible show wcall _ false (.lit (.func (.func 14) _ _)) _ _ _ _; refine wcall_fn (h14) ?_ ?_ ?_; (next => simp [rfyL, rfy, hget, ints, take_rfy, plainR_gR]); (next => simp [plainL, plain, plainR, plainR_gR]))
      | omega)
    all_goals first | rfl
  | true =>
    rw [hg] at h14
    unfold gritB at hg
    simp only [Bool.and_eq_true, Bool.or_eq_true, decide_eq_true_eq] at hg
    have hsz := shB_all.1 hg.1
    have hl : l.length < 1000000 := by omega
    have h17 := k17 nil l hl
    have h43 := k43 false l g d hl hsz
    have h44 := k44 nil l hl hsz
    have h45 := k45 false l hl hsz
    have h15 := k15 g 0 ((l.length : Int) - 1)
    have h46 := k46 d
    have hMz : stE l g d ≠ 0 → stM l g d = 0 := fun h => by unfold stM; rw [if_neg h]
    clear hg
    by_cases h0 : gE l = 0
    · obtain ⟨h12, hr⟩ := gE_ok h0
      rw [h0] at h44 h45
      by_cases h1 : 0 ≤ g ∧ g ≤ (l.length : Int) - 1
      · rw [show (decide ((0 : Int) ≤ g) && decide (g ≤ (l.length : Int) - 1)) = true by rw [decide_eq_true h1.1, decide_eq_true h1.2]; rfl] at h15
        obtain ⟨k, rfl⟩ : ∃ k : Nat, g = k := ⟨g.toNat, by omega⟩
        have hk : k < l.length := by omega
        have g1 := gR_get hk
        by_cases h2 : 0 ≤ d ∧ d ≤ 1000000
        · rw [show (decide ((0 : Int) ≤ d) && decide (d ≤ 1000000)) = true by rw [decide_eq_true h2.1, decide_eq_true h2.2]; rfl] at h46
          have hE : stE l k d = 0 := by
            unfold stE; rw [if_neg (fun h => h h0), if_neg (fun h => h h1), if_neg (fun h => h h2)]
          have hM : stM l k d = ceil d (l.getD k gr0).rt := by unfold stM; rw [if_pos hE, Int.toNat_natCast]
          rw [hE, hM] at h43
          have h47 := k47 d (l.getD k gr0).rt (by omega) (by have := (hr k hk).2; omega)
          have ec : (ceil d (l.getD k gr0).rt == ceil d (l.getD k gr0).rt) = true := by simp
          clear h0 hr hsz hE hM hMz
          generalize ceil d (l.getD k gr0).rt = C at *
          unfold c7
          repeat' (first
            | with_reducible first
              | refine T_seq ?_
              | refine T_reg ?_
              | refine T_skip ?_
              | refine T_exit ?_
              | refine T_block ?_
              | refine T_cond_t rfl ?_
              | refine T_cond_f rfl ?_
              | (show wcall _ false (.lit (.func (.func 13) _ _)) _ _ _ _; refine wcall_fn (h13) rfl (by simp [plainL]) ?_)
              | (show wcall _ false (.lit (.func (.func 14) _ _)) _ _ _ _; refine wcall_fn (h14) rfl (by simp [plainL, plain, plainR_gR]) ?_)
              | (show wcall _ false (.lit (.func (.func 17) _ _)) _ _ _ _; refine wcall_fn (h17) rfl (by simp [plainL, plain, plainR_gR]) ?_)
              | (show wcall _ false (.lit (.func (.func 43) _ _)) _ _ _ _; refine wcall_fn (h43) rfl (by simp [plainL, plain, plainR_gR]) ?_)
              | (show wcall _ false (.lit (.func (.func 44) _ _)) _ _ _ _; refine wcall_fn (h44) rfl (by simp [plainL, plain, plainR_gR]) ?_)
              | (show wcall _ false (.lit (.func (.func 45) _ _)) _ _ _ _; refine wcall_fn (h45) rfl (by simp [plainL, plain, plainR_gR]) ?_)
              | (show wcall _ false (.lit (.func (.func 15) _ _)) _ _ _ _; refine wcall_fn (h15) rfl (by simp [plainL, plain]) ?_)
              | (show wcall _ false (.lit (.func (.func 46) _ _)) _ _ _ _; refine wcall_fn (h46) rfl (by simp [plainL, plain]) ?_)
              | (show wcall _ false (.lit (.func (.func 47) _ _)) _ _ _ _; refine wcall_fn (h47) rfl (by simp [plainL, plain]) ?_)
              | ((first | refine T_cond rfl (fun hc => ?_) (fun hc => ?_) | refine wguard_split (fun hc => ?_) (fun hc => ?_)) <;> have hd := hc <;> (try simp (disch := omega) only [wrapI] at hd) <;> have hs := hd <;> (try simp only [Bool.not_eq_true', Bool.not_eq_false', Bool.and_eq_true, Bool.and_eq_false_iff, Bool.or_eq_true, Bool.or_eq_false_iff, decide_eq_true_eq, decide_eq_false_iff_not, beq_iff_eq, bne_iff_ne, beq_eq_false_iff_ne, bne_eq_false_iff_eq, Bool.not_true, Bool.not_false, gt_iff_lt, ge_iff_le, Int.not_lt, Int.not_le, ne_eq, Decidable.not_not] at hd) <;> (try simp at hs))
              | refine T_ret ?_
              | refine leave_of (.inr rfl) _ rfl ?_
              | refine leave_of (.inl rfl) _ rfl ?_
              | refine leaveA_of (.inr rfl) _ rfl ?_
              | refine leaveA_of (.inl rfl) _ rfl ?_
              | refine wif_intro ?_ (fun hc => ?_)
              | refine And.intro ?_ ?_
              | intro hc
            | simp (maxSteps := 4000000) only [wops_nil, wops_cons, wstep_none, wstep_some, wguard_true, wrun_call, wrun_mv, wrun_pick, wrun_bin, wrun_not, wrun_ext, wrun_load, wrun_faddr, wrun_iaddrS, wrun_len, get_mk, wop, aop, ev, look, put_some, writes, ores_some, ores_ite_none, ores_map, ores_bind, binV, thenK, boolV, intV, lenOf, value, cut, hget, mkAgg, tupOf, List.map_cons, List.map_nil, List.length_cons, List.length_nil, List.getElem?_cons_zero, List.getElem?_cons_succ, List.set_cons_zero, List.set_cons_succ, List.take_succ_cons, List.take_nil, List.drop_succ_cons, List.drop_zero, List.cons_append, List.nil_append, List.append_nil, List.replicate_zero, List.zipIdx_cons, List.zipIdx_nil, Option.pure_def, Option.bind_eq_bind, Option.getD_some, Option.map_some, if_true, if_false, Nat.reduceEqDiff, Nat.reduceAdd, Nat.add_zero, Nat.zero_add, Nat.zero_ne_one, reduceCtorEq, Bool.not_true, Bool.false_eq_true, eq_self, true_and, and_true, beq_self_eq_true, freeze, lidsL, lids, List.flatMap_cons, List.flatMap_nil, ren, renL, renB, shiftρ, Int.toNat_natCast, gR_take, gR_lids, renR_gR, freeze1, *]
            | simp (disch := omega) only [wrapI]
            | (with_reducible show wcall _ false (.lit (.func (.func 13) _ _)) _ _ _ _; refine wcall_fn (h13) ?_ ?_ ?_; (next => simp [rfyL, rfy, hget, ints, take_rfy, Int.toNat_natCast, plainR_gR, gR_len, gR_take, gR_rfy, gR_lids, renR_gR, freeze1]); (next => simp [plainL, plain, plainR, Int.toNat_natCast, plainR_gR, gR_len, gR_take, gR_rfy, gR_lids, renR_gR, freeze1]))
            | (with_reducible show wcall _ false (.lit (.func (.func 14) _ _)) _ _ _ _; refine wcall_fn (h14) ?_ ?_ ?_; (next => simp [rfyL, rfy, hget, ints, take_rfy, Int.toNat_natCast, plainR_gR, gR_len, gR_take, gR_rfy, gR_lids, renR_gR, freeze1]); (next => simp [plainL, plain, plainR, Int.toNat_natCast, plainR_gR, gR_len, gR_take, gR_rfy, gR_lids, renR_gR, freeze1]))
            | (with_reducible show wcall _ false (.lit (.func (.func 17) _ _)) _ _ _ _; refine wcall_fn (h17) ?_ ?_ ?_; (next => simp [rfyL, rfy, hget, ints, take_rfy, Int.toNat_natCast, plainR_gR, gR_len, gR_take, gR_rfy, gR_lids, renR_gR, freeze1]); (next => simp [plainL, plain, plainR, Int.toNat_natCast, plainR_gR, gR_len, gR_take, gR_rfy, gR_lids, renR_gR, freeze1]))
            | (with_reducible show wcall _ false (.lit (.func (.func 43) _ _)) _ _ _ _; refine wcall_fn (h43) ?_ ?_ ?_; (next => simp [rfyL, rfy, hget, gR_len, gR_take, gR_rfy]); (next => simp [plainL, plain, plainR_gR]))
            | (with_reducible show wcall _ false (.lit (.func (.func 44) _ _)) _ _ _ _; refine wcall_fn (h44) ?_ ?_ ?_; (next => simp [rfyL, rfy, hget, ints, take_rfy, Int.toNat_natCast, plainR_gR, gR_len, gR_take, gR_rfy, gR_lids, renR_gR, freeze1]); (next => simp [plainL, plain, plainR, Int.toNat_natCast, plainR_gR, gR_len, gR_take, gR_rfy, gR_lids, renR_gR, freeze1]))
            | (with_reducible show wcall _ false (.lit (.func (.func 45) _ _)) _ _ _ _; refine wcall_fn (h45) ?_ ?_ ?_; (next => simp [rfyL, rfy, hget, gR_len, gR_take, gR_rfy]); (next => simp [plainL, plain, plainR_gR]))
            | (with_reducible show wcall _ false (.lit (.func (.func 15) _ _)) _ _ _ _; refine wcall_fn (h15) ?_ ?_ ?_; (next => simp [rfyL, rfy, hget, ints, take_rfy, Int.toNat_natCast, plainR_gR, gR_len, gR_take, gR_rfy, gR_lids, renR_gR, freeze1]); (next => simp [plainL, plain, plainR, Int.toNat_natCast, plainR_gR, gR_len, gR_take, gR_rfy, gR_lids, renR_gR, freeze1]))
            | (with_reducible show wcall _ false (.lit (.func (.func 46) _ _)) _ _ _ _; refine wcall_fn (h46) ?_ ?_ ?_; (next => simp [rfyL, rfy, hget, ints, take_rfy, Int.toNat_natCast, plainR_gR, gR_len, gR_take, gR_rfy, gR_lids, renR_gR, freeze1]); (next => simp [plainL, plain, plainR, Int.toNat_natCast, plainR_gR, gR_len, gR_take, gR_rfy, gR_lids, renR_gR, freeze1]))
            | (with_reducible show wcall _ false (.lit (.func (.func 47) _ _)) _ _ _ _; refine wcall_fn (h47) ?_ ?_ ?_; (next => simp [rfyL, rfy, hget, ints, take_rfy, Int.toNat_natCast, plainR_gR, gR_len, gR_take, gR_rfy, gR_lids, renR_gR, freeze1]); (next => simp [plainL, plain, plainR, Int.toNat_natCast, plainR_gR, gR_len, gR_take, gR_rfy, gR_lids, renR_gR, freeze1]))
            | omega)
          all_goals first | rfl
        · rw [show (decide ((0 : Int) ≤ d) && decide (d ≤ 1000000)) = false by rw [← Bool.decide_and]; exact decide_eq_false h2] at h46
          have hE : stE l k d = 2 := by
            unfold stE; rw [if_neg (fun h => h h0), if_neg (fun h => h h1), if_pos h2]
          rw [hMz (by rw [hE]; simp), hE] at h43
          clear h0 hr hsz h2 hE hMz
          unfold c7
          repeat' (first
            | with_reducible first
              | refine T_seq ?_
              | refine T_reg ?_
              | refine T_skip ?_
              | refine T_exit ?_
              | refine T_block ?_
              | refine T_cond_t rfl ?_
              | refine T_cond_f rfl ?_
              | (show wcall _ false (.lit (.func (.func 13) _ _)) _ _ _ _; refine wcall_fn (h13) rfl (by simp [plainL]) ?_)
              | (show wcall _ false (.lit (.func (.func 14) _ _)) _ _ _ _; refine wcall_fn (h14) rfl (by simp [plainL, plain, plainR_gR]) ?_)
              | (show wcall _ false (.lit (.func (.func 17) _ _)) _ _ _ _; refine wcall_fn (h17) rfl (by simp [plainL, plain, plainR_gR]) ?_)
              | (show wcall _ false (.lit (.func (.func 43) _ _)) _ _ _ _; refine wcall_fn (h43) rfl (by simp [plainL, plain, plainR_gR]) ?_)
              | (show wcall _ false (.lit (.func (.func 44) _ _)) _ _ _ _; refine wcall_fn (h44) rfl (by simp [plainL, plain, plainR_gR]) ?_)
              | (show wcall _ false (.lit (.func (.func 45) _ _)) _ _ _ _; refine wcall_fn (h45) rfl (by simp [plainL, plain, plainR_gR]) ?_)
              | (show wcall _ false (.lit (.func (.func 15) _ _)) _ _ _ _; refine wcall_fn (h15) rfl (by simp [plainL, plain]) ?_)
              | (show wcall _ false (.lit (.func (.func 46) _ _)) _ _ _ _; refine wcall_fn (h46) rfl (by simp [plainL, plain]) ?_)
              | ((first | refine T_cond rfl (fun hc => ?_) (fun hc => ?_) | refine wguard_split (fun hc => ?_) (fun hc => ?_)) <;> have hd := hc <;> (try simp (disch := omega) only [wrapI] at hd) <;> have hs := hd <;> (try simp only [Bool.not_eq_true', Bool.not_eq_false', Bool.and_eq_true, Bool.and_eq_false_iff, Bool.or_eq_true, Bool.or_eq_false_iff, decide_eq_true_eq, decide_eq_false_iff_not, beq_iff_eq, bne_iff_ne, beq_eq_false_iff_ne, bne_eq_false_iff_eq, Bool.not_true, Bool.not_false, gt_iff_lt, ge_iff_le, Int.not_lt, Int.not_le, ne_eq, Decidable.not_not] at hd) <;> (try simp at hs))
              | refine T_ret ?_
              | refine leave_of (.inr rfl) _ rfl ?_
              | refine leave_of (.inl rfl) _ rfl ?_
              | refine leaveA_of (.inr rfl) _ rfl ?_
              | refine leaveA_of (.inl rfl) _ rfl ?_
              | refine wif_intro ?_ (fun hc => ?_)
              | refine And.intro ?_ ?_
              | intro hc
            | simp (maxSteps := 4000000) only [wops_nil, wops_cons, wstep_none, wstep_some, wguard_true, wrun_call, wrun_mv, wrun_pick, wrun_bin, wrun_not, wrun_ext, wrun_len, get_mk, wop, aop, ev, look, put_some, writes, ores_some, ores_map, ores_bind, binV, thenK, boolV, intV, lenOf, hget, tupOf, List.map_cons, List.map_nil, List.length_cons, List.length_nil, List.getElem?_cons_zero, List.getElem?_cons_succ, List.set_cons_zero, List.set_cons_succ, List.drop_zero, List.cons_append, List.nil_append, List.append_nil, List.replicate_zero, List.zipIdx_cons, List.zipIdx_nil, Option.pure_def, Option.bind_eq_bind, Option.getD_some, Option.map_some, if_true, if_false, Nat.reduceEqDiff, Nat.reduceAdd, Nat.add_zero, Nat.zero_add, Nat.zero_ne_one, reduceCtorEq, Bool.not_true, Bool.not_false, eq_self, beq_self_eq_true, freeze, lidsL, lids, List.flatMap_cons, List.flatMap_nil, ren, renL, renB, shiftρ, gR_take, gR_lids, renR_gR, freeze1, *]
            | simp (disch := omega) only [wrapI]
            | (with_reducible show wcall _ false (.lit (.func (.func 13) _ _)) _ _ _ _; refine wcall_fn (h13) ?_ ?_ ?_; (next => simp [rfyL, rfy, hget, ints, take_rfy, Int.toNat_natCast, plainR_gR, gR_len, gR_take, gR_rfy, gR_lids, renR_gR, freeze1]); (next => simp [plainL, plain, plainR, Int.toNat_natCast, plainR_gR, gR_len, gR_take, gR_rfy, gR_lids, renR_gR, freeze1]))
            | (with_reducible show wcall _ false (.lit (.func (.func 14) _ _)) _ _ _ _; refine wcall_fn (h14) ?_ ?_ ?_; (next => simp [rfyL, rfy, hget, ints, take_rfy, Int.toNat_natCast, plainR_gR, gR_len, gR_take, gR_rfy, gR_lids, renR_gR, freeze1]); (next => simp [plainL, plain, plainR, Int.toNat_natCast, plainR_gR, gR_len, gR_take, gR_rfy, gR_lids, renR_gR, freeze1]))
            | (with_reducible show wcall _ false (.lit (.func (.func 17) _ _)) _ _ _ _; refine wcall_fn (h17) ?_ ?_ ?_; (next => simp [rfyL, rfy, hget, ints, take_rfy, Int.toNat_natCast, plainR_gR, gR_len, gR_take, gR_rfy, gR_lids, renR_gR, freeze1]); (next => simp [plainL, plain, plainR, Int.toNat_natCast, plainR_gR, gR_len, gR_take, gR_rfy, gR_lids, renR_gR, freeze1]))
            | (with_reducible show wcall _ false (.lit (.func (.func 43) _ _)) _ _ _ _; refine wcall_fn (h43) ?_ ?_ ?_; (next => simp [rfyL, rfy, hget, gR_len, gR_take, gR_rfy]); (next => simp [plainL, plain, plainR_gR]))
            | (with_reducible show wcall _ false (.lit (.func (.func 44) _ _)) _ _ _ _; refine wcall_fn (h44) ?_ ?_ ?_; (next => simp [rfyL, rfy, hget, ints, take_rfy, Int.toNat_natCast, plainR_gR, gR_len, gR_take, gR_rfy, gR_lids, renR_gR, freeze1]); (next => simp [plainL, plain, plainR, Int.toNat_natCast, plainR_gR, gR_len, gR_take, gR_rfy, gR_lids, renR_gR, freeze1]))
            | (with_reducible show wcall _ false (.lit (.func (.func 45) _ _)) _ _ _ _; refine wcall_fn (h45) ?_ ?_ ?_; (next => simp [rfyL, rfy, hget, gR_len, gR_take, gR_rfy]); (next => simp [plainL, plain, plainR_gR]))
            | (with_reducible show wcall _ false (.lit (.func (.func 15) _ _)) _ _ _ _; refine wcall_fn (h15) ?_ ?_ ?_; (next => simp [rfyL, rfy, hget, ints, take_rfy, Int.toNat_natCast, plainR_gR, gR_len, gR_take, gR_rfy, gR_lids, renR_gR, freeze1]); (next => simp [plainL, plain, plainR, Int.toNat_natCast, plainR_gR, gR_len, gR_take, gR_rfy, gR_lids, renR_gR, freeze1]))
            | (with_reducible show wcall _ false (.lit (.func (.func 46) _ _)) _ _ _ _; refine wcall_fn (h46) ?_ ?_ ?_; (next => simp [rfyL, rfy, hget, ints, take_rfy, Int.toNat_natCast, plainR_gR, gR_len, gR_take, gR_rfy, gR_lids, renR_gR, freeze1]); (next => simp [plainL, plain, plainR, Int.toNat_natCast, plainR_gR, gR_len, gR_take, gR_rfy, gR_lids, renR_gR, freeze1]))
            | omega)
          all_goals first | rfl
      · rw [show (decide ((0 : Int) ≤ g) && decide (g ≤ (l.length : Int) - 1)) = false by rw [← Bool.decide_and]; exact decide_eq_false h1] at h15
        have hE : stE l g d = 6 := by
          unfold stE; rw [if_neg (fun h => h h0), if_pos h1]
        rw [hMz (by rw [hE]; simp), hE] at h43
        clear h0 hr hsz h1 hE hMz
        unfold c7
        repeat' (first
          | with_reducible first
            | refine T_seq ?_
            | refine T_reg ?_
            | refine T_skip ?_
            | refine T_exit ?_
            | refine T_block ?_
            | refine T_cond_t rfl ?_
            | refine T_cond_f rfl ?_
            | (show wcall _ false (.lit (.func (.func 13) _ _)) _ _ _ _; refine wcall_fn (h13) rfl (by simp [plainL]) ?_)
            | (show wcall _ false (.lit (.func (.func 14) _ _)) _ _ _ _; refine wcall_fn (h14) rfl (by simp [plainL, plain, plainR_gR]) ?_)
            | (show wcall _ false (.lit (.func (.func 17) _ _)) _ _ _ _; refine wcall_fn (h17) rfl (by simp [plainL, plain, plainR_gR]) ?_)
            | (show wcall _ false (.lit (.func (.func 43) _ _)) _ _ _ _; refine wcall_fn (h43) rfl (by simp [plainL, plain, plainR_gR]) ?_)
            | (show wcall _ false (.lit (.func (.func 44) _ _)) _ _ _ _; refine wcall_fn (h44) rfl (by simp [plainL, plain, plainR_gR]) ?_)
            | (show wcall _ false (.lit (.func (.func 45) _ _)) _ _ _ _; refine wcall_fn (h45) rfl (by simp [plainL, plain, plainR_gR]) ?_)
            | (show wcall _ false (.lit (.func (.func 15) _ _)) _ _ _ _; refine wcall_fn (h15) rfl (by simp [plainL, plain]) ?_)
            | ((first | refine T_cond rfl (fun hc => ?_) (fun hc => ?_) | refine wguard_split (fun hc => ?_) (fun hc => ?_)) <;> have hd := hc <;> (try simp (disch := omega) only [wrapI] at hd) <;> have hs := hd <;> (try simp only [beq_iff_eq, beq_eq_false_iff_ne, Bool.not_true, ne_eq] at hd) <;> (try simp at hs))
            | refine T_ret ?_
            | refine leave_of (.inr rfl) _ rfl ?_
            | refine leave_of (.inl rfl) _ rfl ?_
            | refine leaveA_of (.inr rfl) _ rfl ?_
            | refine leaveA_of (.inl rfl) _ rfl ?_
            | refine wif_intro ?_ (fun hc => ?_)
            | refine And.intro ?_ ?_
            | intro hc
          | simp (maxSteps := 4000000) only [wops_nil, wops_cons, wstep_none, wstep_some, wguard_true, wguard_ft, wrun_call, wrun_mv, wrun_pick, wrun_bin, wrun_not, wrun_ext, wrun_len, get_mk, wop, aop, ev, look, put_some, writes, ores_some, ores_map, ores_bind, binV, thenK, boolV, intV, lenOf, hget, tupOf, List.map_cons, List.map_nil, List.length_cons, List.length_nil, List.getElem?_cons_zero, List.getElem?_cons_succ, List.set_cons_zero, List.set_cons_succ, List.drop_zero, List.cons_append, List.nil_append, List.append_nil, List.replicate_zero, List.zipIdx_cons, List.zipIdx_nil, Option.pure_def, Option.bind_eq_bind, Option.getD_some, Option.map_some, if_true, if_false, Nat.reduceEqDiff, Nat.reduceAdd, Nat.add_zero, Nat.zero_add, Nat.zero_ne_one, reduceCtorEq, Bool.not_true, Bool.not_false, Bool.false_eq_true, eq_self, beq_self_eq_true, freeze, lidsL, lids, List.flatMap_cons, List.flatMap_nil, ren, renL, renB, shiftρ, gR_take, gR_lids, renR_gR, freeze1, *]
          | simp (disch := omega) only [wrapI]
          | (with_reducible show wcall _ false (.lit (.func (.func 13) _ _)) _ _ _ _; refine wcall_fn (h13) ?_ ?_ ?_; (next => simp [rfyL, rfy, hget, ints, take_rfy, Int.toNat_natCast, plainR_gR, gR_len, gR_take, gR_rfy, gR_lids, renR_gR, freeze1]); (next => simp [plainL, plain, plainR, Int.toNat_natCast, plainR_gR, gR_len, gR_take, gR_rfy, gR_lids, renR_gR, freeze1]))
          | (with_reducible show wcall _ false (.lit (.func (.func 14) _ _)) _ _ _ _; refine wcall_fn (h14) ?_ ?_ ?_; (next => simp [rfyL, rfy, hget, ints, take_rfy, Int.toNat_natCast, plainR_gR, gR_len, gR_take, gR_rfy, gR_lids, renR_gR, freeze1]); (next => simp [plainL, plain, plainR, Int.toNat_natCast, plainR_gR, gR_len, gR_take, gR_rfy, gR_lids, renR_gR, freeze1]))
          | (with_reducible show wcall _ false (.lit (.func (.func 17) _ _)) _ _ _ _; refine wcall_fn (h17) ?_ ?_ ?_; (next => simp [rfyL, rfy, hget, ints, take_rfy, Int.toNat_natCast, plainR_gR, gR_len, gR_take, gR_rfy, gR_lids, renR_gR, freeze1]); (next => simp [plainL, plain, plainR, Int.toNat_natCast, plainR_gR, gR_len, gR_take, gR_rfy, gR_lids, renR_gR, freeze1]))
          | (with_reducible show wcall _ false (.lit (.func (.func 43) _ _)) _ _ _ _; refine wcall_fn (h43) ?_ ?_ ?_; (next => simp [rfyL, rfy, hget, gR_len, gR_take, gR_rfy]); (next => simp [plainL, plain, plainR_gR]))
          | (with_reducible show wcall _ false (.lit (.func (.func 44) _ _)) _ _ _ _; refine wcall_fn (h44) ?_ ?_ ?_; (next => simp [rfyL, rfy, hget, ints, take_rfy, Int.toNat_natCast, plainR_gR, gR_len, gR_take, gR_rfy, gR_lids, renR_gR, freeze1]); (next => simp [plainL, plain, plainR, Int.toNat_natCast, plainR_gR, gR_len, gR_take, gR_rfy, gR_lids, renR_gR, freeze1]))
          | (with_reducible show wcall _ false (.lit (.func (.func 45) _ _)) _ _ _ _; refine wcall_fn (h45) ?_ ?_ ?_; (next => simp [rfyL, rfy, hget, gR_len, gR_take, gR_rfy]); (next => simp [plainL, plain, plainR_gR]))
          | (with_reducible show wcall _ false (.lit (.func (.func 15) _ _)) _ _ _ _; refine wcall_fn (h15) ?_ ?_ ?_; (next => simp [rfyL, rfy, hget, ints, take_rfy, Int.toNat_natCast, plainR_gR, gR_len, gR_take, gR_rfy, gR_lids, renR_gR, freeze1]); (next => simp [plainL, plain, plainR, Int.toNat_natCast, plainR_gR, gR_len, gR_take, gR_rfy, gR_lids, renR_gR, freeze1]))
          | omega)
        all_goals first | rfl
    · have hE : stE l g d = gE l := if_pos h0
      rw [hMz (by rw [hE]; exact h0), hE] at h43
      have d0 : (gE l != 0) = true := by simp only [bne_iff_ne]; exact h0
      have d1 : (gE l == 0) = false := by simp only [beq_eq_false_iff_ne]; exact h0
      have d2 : (gE l != gE l) = false := by simp
      have d3 : (gE l == gE l) = true := by simp
      clear h0 hsz hE hMz
      generalize gE l = c at *
      unfold c7
      repeat' (first
        | with_reducible first
          | refine T_seq ?_
          | refine T_reg ?_
          | refine T_skip ?_
          | refine T_exit ?_
          | refine T_block ?_
          | refine T_cond_t rfl ?_
          | refine T_cond_f rfl ?_
          | (show wcall _ false (.lit (.func (.func 13) _ _)) _ _ _ _; refine wcall_fn (h13) rfl (by simp [plainL]) ?_)
          | (show wcall _ false (.lit (.func (.func 14) _ _)) _ _ _ _; refine wcall_fn (h14) rfl (by simp [plainL, plain, plainR_gR]) ?_)
          | (show wcall _ false (.lit (.func (.func 17) _ _)) _ _ _ _; refine wcall_fn (h17) rfl (by simp [plainL, plain, plainR_gR]) ?_)
          | (show wcall _ false (.lit (.func (.func 43) _ _)) _ _ _ _; refine wcall_fn (h43) rfl (by simp [plainL, plain, plainR_gR]) ?_)
          | (show wcall _ false (.lit (.func (.func 44) _ _)) _ _ _ _; refine wcall_fn (h44) rfl (by simp [plainL, plain, plainR_gR]) ?_)
          | (show wcall _ false (.lit (.func (.func 45) _ _)) _ _ _ _; refine wcall_fn (h45) rfl (by simp [plainL, plain, plainR_gR]) ?_)
          | ((first | refine T_cond rfl (fun hc => ?_) (fun hc => ?_) | refine wguard_split (fun hc => ?_) (fun hc => ?_)) <;> have hd := hc <;> (try simp (disch := omega) only [wrapI] at hd) <;> have hs := hd <;> (try simp only [Bool.not_eq_true', Bool.not_eq_false', Bool.and_eq_true, Bool.and_eq_false_iff, Bool.or_eq_true, Bool.or_eq_false_iff, decide_eq_true_eq, decide_eq_false_iff_not, beq_iff_eq, bne_iff_ne, beq_eq_false_iff_ne, bne_eq_false_iff_eq, Bool.not_true, Bool.not_false, gt_iff_lt, ge_iff_le, Int.not_lt, Int.not_le, ne_eq, Decidable.not_not] at hd) <;> (try simp at hs))
          | refine T_ret ?_
          | refine leave_of (.inr rfl) _ rfl ?_
          | refine leave_of (.inl rfl) _ rfl ?_
          | refine leaveA_of (.inr rfl) _ rfl ?_
          | refine leaveA_of (.inl rfl) _ rfl ?_
          | refine wif_intro ?_ (fun hc => ?_)
          | refine And.intro ?_ ?_
          | intro hc
        | simp (maxSteps := 4000000) only [wops_nil, wops_cons, wstep_none, wstep_some, wguard_true, wguard_ft, wrun_call, wrun_mv, wrun_pick, wrun_bin, wrun_not, wrun_ext, get_mk, wop, aop, ev, look, put_some, writes, ores_some, binV, thenK, boolV, hget, tupOf, List.map_cons, List.map_nil, List.length_cons, List.length_nil, List.getElem?_cons_zero, List.getElem?_cons_succ, List.set_cons_zero, List.set_cons_succ, List.drop_zero, List.cons_append, List.nil_append, List.append_nil, List.replicate_zero, List.zipIdx_cons, List.zipIdx_nil, Option.getD_some, Option.map_some, if_true, if_false, Nat.reduceEqDiff, Nat.reduceAdd, Nat.add_zero, Nat.zero_add, Nat.zero_ne_one, reduceCtorEq, Bool.not_true, Bool.false_eq_true, eq_self, beq_self_eq_true, freeze, lidsL, lids, List.flatMap_cons, List.flatMap_nil, ren, renL, renB, shiftρ, gR_take, gR_lids, renR_gR, freeze1, *]
        | simp (disch := omega) only [getD_ints, wrapI]
        | (with_reducible show wcall _ false (.lit (.func (.func 13) _ _)) _ _ _ _; refine wcall_fn (h13) ?_ ?_ ?_; (next => simp [rfyL, rfy, hget, ints, take_rfy, Int.toNat_natCast, plainR_gR, gR_len, gR_take, gR_rfy, gR_lids, renR_gR, freeze1]); (next => simp [plainL, plain, plainR, Int.toNat_natCast, plainR_gR, gR_len, gR_take, gR_rfy, gR_lids, renR_gR, freeze1]))
        | (with_reducible show wcall _ false (.lit (.func (.func 14) _ _)) _ _ _ _; refine wcall_fn (h14) ?_ ?_ ?_; (next => simp [rfyL, rfy, hget, ints, take_rfy, Int.toNat_natCast, plainR_gR, gR_len, gR_take, gR_rfy, gR_lids, renR_gR, freeze1]); (next => simp [plainL, plain, plainR, Int.toNat_natCast, plainR_gR, gR_len, gR_take, gR_rfy, gR_lids, renR_gR, freeze1]))
        | (with_reducible show wcall _ false (.lit (.func (.func 17) _ _)) _ _ _ _; refine wcall_fn (h17) ?_ ?_ ?_; (next => simp [rfyL, rfy, hget, ints, take_rfy, Int.toNat_natCast, plainR_gR, gR_len, gR_take, gR_rfy, gR_lids, renR_gR, freeze1]); (next => simp [plainL, plain, plainR, Int.toNat_natCast, plainR_gR, gR_len, gR_take, gR_rfy, gR_lids, renR_gR, freeze1]))
        | (with_reducible show wcall _ false (.lit (.func (.func 43) _ _)) _ _ _ _; refine wcall_fn (h43) ?_ ?_ ?_; (next => simp [rfyL, rfy, hget, gR_len, gR_take, gR_rfy]); (next => simp [plainL, plain, plainR_gR]))
        | (with_reducible show wcall _ false (.lit (.func (.func 44) _ _)) _ _ _ _; refine wcall_fn (h44) ?_ ?_ ?_; (next => simp [rfyL, rfy, hget, ints, take_rfy, Int.toNat_natCast, plainR_gR, gR_len, gR_take, gR_rfy, gR_lids, renR_gR, freeze1]); (next => simp [plainL, plain, plainR, Int.toNat_natCast, plainR_gR, gR_len, gR_take, gR_rfy, gR_lids, renR_gR, freeze1]))
        | (with_reducible show wcall _ false (.lit (.func (.func 45) _ _)) _ _ _ _; refine wcall_fn (h45) ?_ ?_ ?_; (next => simp [rfyL, rfy, hget, gR_len, gR_take, gR_rfy]); (next => simp [plainL, plain, plainR_gR]))
        | omega)
      all_goals first | rfl
end Go.Abs
