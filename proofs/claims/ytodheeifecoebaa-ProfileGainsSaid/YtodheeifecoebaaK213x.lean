import Derived.Test.YtodheeifecoebaaK211x
set_option linter.all false
set_option linter.unusedVariables false
set_option linter.unusedSimpArgs false
set_option linter.unusedSectionVars false
namespace Go.Abs
open Go.Proofs
set_option maxHeartbeats 8000000 in
theorem k16t {z : Nat} {nil : Bool} {l m : List Rd} {r : Rd} {n f e75 : Int} {M M' : List (List Int)} {w13 : AV} (hz : 1 ≤ z ∧ z ≤ 40) (hM : Sq z M)
    (hb : ∀ i j, i < z → j < z → -41000000 ≤ mget M i j ∧ mget M i j ≤ 41000000)
    (h75 : Gv 6 Try.prog 75 [i64 z, rdgs nil l, rdV r] [w13, i64 e75])
    (hcase : (e75 ≠ 0 ∧ n = 0 ∧ f = e75) ∨ (e75 = 0 ∧ f = 0 ∧ w13 = rdgs false m ∧ Sq z M' ∧ (∀ i j, i < z → j < z → -41000000 ≤ mget M' i j ∧ mget M' i j ≤ 41000000) ∧ Gv 6 Try.prog 70 [i64 z, rdgs false m] [tblV M', bl true] ∧ n = wsum (encD M z) z - wsum (encD M' z) z ∧ 0 ≤ n))
    {o : Bool} {H : List Blk} (hH0 : H[0]? = some (.cells o false 4 [rrow r])) {v : AV} (hv : Rds 6 H v (tblV M)) :
    T none Try.prog muts 125 0 c16r2 ⟨[(0, i64 z), (1, rdgs nil l), (5, .loc 0 0 0), (9, i64 n), (10, i64 f), (11, v)], H⟩ (leave 0 [ARes.tmp 6] fun r' H' => r' = bl true ∧ H' = []) := by
  replace h75 := And.intro h75 trivial
  replace hcase := And.intro hcase trivial
  replace hv := And.intro hv trivial
  replace hM := And.intro hM trivial
  replace hb := And.intro hb trivial
  unfold c16r2
  repeat' (first
    | ((with_reducible refine T_calm ?_ ?_); rfl)
    | with_reducible first
      | refine T_seq ?_
      | refine T_reg ?_
      | refine T_draw ?_
      | refine T_skip ?_
      | refine T_exit ?_
      | refine T_block ?_
      | refine T_cond_t rfl ?_
      | refine T_cond_f rfl ?_
      | refine wdW_cons rfl ?_
      | ((first | refine T_cond rfl (fun hc => ?_) (fun hc => ?_) | refine wguard_split (fun hc => ?_) (fun hc => ?_) | refine wguardX_split (fun hc => ?_) (fun hc => ?_)) <;> have hd := hc <;> (try simp (disch := omega) only [wrapI] at hd) <;> have hs := hd <;> (try simp only [Bool.not_eq_true', Bool.not_eq_false', Bool.and_eq_true, Bool.and_eq_false_iff, Bool.or_eq_true, Bool.or_eq_false_iff, decide_eq_true_eq, decide_eq_false_iff_not, beq_iff_eq, bne_iff_ne, beq_eq_false_iff_ne, bne_eq_false_iff_eq, Bool.not_true, Bool.not_false, gt_iff_lt, ge_iff_le, Int.not_lt, Int.not_le, ne_eq, Decidable.not_not] at hd) <;> (try simp at hs))
      | refine T_ret ?_
      | refine leave_of (.inr rfl) _ rfl ?_
      | refine leave_of (.inl rfl) _ rfl ?_
      | refine leaveA_of (.inr rfl) _ rfl ?_
      | refine leaveA_of (.inl rfl) _ rfl ?_
      | refine wif_intro ?_ (fun hc => ?_)
      | refine And.intro ?_ ?_
      | intro hc
    | simp (maxSteps := 4000000) only [wops_cons, wstep_none, wrun_call, wrun_mv, wrun_load, wop, aop, ev, look, put_some, writes, ores_some, value, cut, hget, toLits, mkAgg, List.map_cons, List.map_nil, List.length_cons, List.length_nil, List.take_succ_cons, List.take_nil, List.drop_zero, List.append_nil, List.replicate_zero, List.getD_cons_zero, Option.getD_some, Option.map_some, if_true, if_false, Nat.reduceEqDiff, Nat.reduceAdd, Nat.zero_add, Nat.zero_ne_one, reduceCtorEq, eq_self, *]
    | simp (disch := omega) only [getD_ints, wrapI]
    | omega)
  refine wcall_E2 h75.1 rfl (by simp [plainL, plain]) ?_
  intro v13 ve H1 hx h13 hve
  have := hve.lit; subst this
  replace hv := And.intro (hv.1.ext hx) trivial
  replace h13 := And.intro h13 trivial
  clear hve hx h75 hH0
  rcases hcase.1 with ⟨he, rfl, rfl⟩ | ⟨rfl, rfl, rfl, hM', hb', h70, hn, hn0⟩
  · have hd1 : (f != 0) = true := by simp only [bne_iff_ne]; exact he
    clear hcase h13 hv hM hb
    repeat' (first
      | ((with_reducible refine T_calm ?_ ?_); rfl)
      | with_reducible first
        | refine T_seq ?_
        | refine T_reg ?_
        | refine T_draw ?_
        | refine T_skip ?_
        | refine T_exit ?_
        | refine T_block ?_
        | refine T_cond_t rfl ?_
        | refine T_cond_f rfl ?_
        | refine wdW_cons rfl ?_
        | ((first | refine T_cond rfl (fun hc => ?_) (fun hc => ?_) | refine wguard_split (fun hc => ?_) (fun hc => ?_) | refine wguardX_split (fun hc => ?_) (fun hc => ?_)) <;> have hd := hc <;> (try simp (disch := omega) only [wrapI] at hd) <;> have hs := hd <;> (try simp only [Bool.not_eq_true', Bool.not_eq_false', Bool.and_eq_true, Bool.and_eq_false_iff, Bool.or_eq_true, Bool.or_eq_false_iff, decide_eq_true_eq, decide_eq_false_iff_not, beq_iff_eq, bne_iff_ne, beq_eq_false_iff_ne, bne_eq_false_iff_eq, Bool.not_true, Bool.not_false, gt_iff_lt, ge_iff_le, Int.not_lt, Int.not_le, ne_eq, Decidable.not_not] at hd) <;> (try simp at hs))
        | refine T_ret ?_
        | refine leave_of (.inr rfl) _ rfl ?_
        | refine leave_of (.inl rfl) _ rfl ?_
        | refine leaveA_of (.inr rfl) _ rfl ?_
        | refine leaveA_of (.inl rfl) _ rfl ?_
        | refine wif_intro ?_ (fun hc => ?_)
        | refine And.intro ?_ ?_
        | intro hc
      | simp (maxSteps := 4000000) only [wops_nil, wops_cons, wstep_none, wstep_some, wguard_true, wrun_mv, wrun_pick, wrun_bin, wrun_ext, get_mk, wop, aop, ev, look, put_some, writes, ores_some, binV, thenK, tupOf, List.getElem?_cons_zero, List.getElem?_cons_succ, List.append_nil, List.replicate_zero, Option.map_some, if_true, if_false, Nat.reduceEqDiff, reduceCtorEq, eq_self, beq_self_eq_true, ren, *]
      | simp (disch := omega) only [getD_ints, wrapI]
      | omega)
  · clear hcase
    replace h70 := And.intro h70 trivial
    replace hM' := And.intro hM' trivial
    replace hb' := And.intro hb' trivial
    replace hn := And.intro hn trivial
    repeat' (first
      | ((with_reducible refine T_calm ?_ ?_); rfl)
      | with_reducible first
        | refine T_seq ?_
        | refine T_reg ?_
        | refine T_draw ?_
        | refine T_skip ?_
        | refine T_exit ?_
        | refine T_block ?_
        | refine T_cond_t rfl ?_
        | refine T_cond_f rfl ?_
        | refine wdW_cons rfl ?_
        | ((first | refine T_cond rfl (fun hc => ?_) (fun hc => ?_) | refine wguard_split (fun hc => ?_) (fun hc => ?_) | refine wguardX_split (fun hc => ?_) (fun hc => ?_)) <;> have hd := hc <;> (try simp (disch := omega) only [wrapI] at hd) <;> have hs := hd <;> (try simp only [Bool.not_eq_true', Bool.not_eq_false', Bool.and_eq_true, Bool.and_eq_false_iff, Bool.or_eq_true, Bool.or_eq_false_iff, decide_eq_true_eq, decide_eq_false_iff_not, beq_iff_eq, bne_iff_ne, beq_eq_false_iff_ne, bne_eq_false_iff_eq, Bool.not_true, Bool.not_false, gt_iff_lt, ge_iff_le, Int.not_lt, Int.not_le, ne_eq, Decidable.not_not] at hd) <;> (try simp at hs))
        | refine T_ret ?_
        | refine leave_of (.inr rfl) _ rfl ?_
        | refine leave_of (.inl rfl) _ rfl ?_
        | refine leaveA_of (.inr rfl) _ rfl ?_
        | refine leaveA_of (.inl rfl) _ rfl ?_
        | refine wif_intro ?_ (fun hc => ?_)
        | refine And.intro ?_ ?_
        | intro hc
      | simp (maxSteps := 4000000) only [wops_nil, wops_cons, wstep_none, wrun_call, wrun_mv, wrun_bin, wrun_ext, wop, aop, ev, look, put_some, writes, ores_some, binV, thenK, List.map_cons, List.map_nil, List.getElem?_cons_zero, List.getElem?_cons_succ, List.append_nil, List.replicate_zero, Option.map_some, if_true, if_false, Nat.reduceEqDiff, reduceCtorEq, eq_self, *]
      | simp (disch := omega) only [getD_ints, wrapI]
      | omega)
    refine wcall_E2 h70.1 (rL2 h13.1 (Nat.le_refl _) _) (by simp [plainL, plain]) ?_
    intro v14 vb H2 hx h14 hvb
    have := hvb.lit; subst this
    replace hv := And.intro (hv.1.ext hx) trivial
    replace h14 := And.intro h14 trivial
    clear hvb hx h13 h70
    repeat' (first
      | ((with_reducible refine T_calm ?_ ?_); rfl)
      | with_reducible first
        | refine T_seq ?_
        | refine T_reg ?_
        | refine T_draw ?_
        | refine T_skip ?_
        | refine T_exit ?_
        | refine T_block ?_
        | refine T_cond_t rfl ?_
        | refine T_cond_f rfl ?_
        | refine wdW_cons rfl ?_
        | ((first | refine T_cond rfl (fun hc => ?_) (fun hc => ?_) | refine wguard_split (fun hc => ?_) (fun hc => ?_) | refine wguardX_split (fun hc => ?_) (fun hc => ?_)) <;> have hd := hc <;> (try simp (disch := omega) only [wrapI] at hd) <;> have hs := hd <;> (try simp only [Bool.not_eq_true', Bool.not_eq_false', Bool.and_eq_true, Bool.and_eq_false_iff, Bool.or_eq_true, Bool.or_eq_false_iff, decide_eq_true_eq, decide_eq_false_iff_not, beq_iff_eq, bne_iff_ne, beq_eq_false_iff_ne, bne_eq_false_iff_eq, Bool.not_true, Bool.not_false, gt_iff_lt, ge_iff_le, Int.not_lt, Int.not_le, ne_eq, Decidable.not_not] at hd) <;> (try simp at hs))
        | refine T_ret ?_
        | refine leave_of (.inr rfl) _ rfl ?_
        | refine leave_of (.inl rfl) _ rfl ?_
        | refine leaveA_of (.inr rfl) _ rfl ?_
        | refine leaveA_of (.inl rfl) _ rfl ?_
        | refine wif_intro ?_ (fun hc => ?_)
        | refine And.intro ?_ ?_
        | intro hc
      | simp (maxSteps := 4000000) only [wops_nil, wops_cons, wstep_none, wstep_some, wguard_true, wrun_call, wrun_mv, wrun_bin, wrun_ext, wop, aop, ev, look, put_some, writes, ores_some, binV, thenK, List.map_cons, List.map_nil, List.getElem?_cons_zero, List.getElem?_cons_succ, List.append_nil, List.replicate_zero, Option.map_some, if_true, if_false, Nat.reduceEqDiff, reduceCtorEq, eq_self, beq_self_eq_true, *]
      | simp (disch := omega) only [getD_ints, wrapI]
      | omega)
    have h51 := k51 hz hM.1 (fun i j hi hj => by have := hb.1 i j hi hj; omega)
    have g51 := Gv.of_fn 6 h51 [.lsl 0 0 z] (ws := [.sl false 2 (erD (encD M z))]) rfl (by show [rfy _ (4 + 2) _] = _; rw [er_rfy (own := true) rfl (encD_len M z)]) (by simp only [plainL, plain_er]; rfl)
    refine wcall_E1 g51 (rL1 hv.1 (Nat.le_refl _)) (by simp only [plainL, plain_tbl]; rfl) ?_
    intro v113 H3 hx h113
    replace h14 := And.intro (h14.1.ext hx) trivial
    replace h113 := And.intro h113 trivial
    clear hx hv h51 g51
    repeat' (first
      | ((with_reducible refine T_calm ?_ ?_); rfl)
      | with_reducible first
        | refine T_seq ?_
        | refine T_reg ?_
        | refine T_draw ?_
        | refine T_skip ?_
        | refine T_exit ?_
        | refine T_block ?_
        | refine T_cond_t rfl ?_
        | refine T_cond_f rfl ?_
        | refine wdW_cons rfl ?_
        | ((first | refine T_cond rfl (fun hc => ?_) (fun hc => ?_) | refine wguard_split (fun hc => ?_) (fun hc => ?_) | refine wguardX_split (fun hc => ?_) (fun hc => ?_)) <;> have hd := hc <;> (try simp (disch := omega) only [wrapI] at hd) <;> have hs := hd <;> (try simp only [Bool.not_eq_true', Bool.not_eq_false', Bool.and_eq_true, Bool.and_eq_false_iff, Bool.or_eq_true, Bool.or_eq_false_iff, decide_eq_true_eq, decide_eq_false_iff_not, beq_iff_eq, bne_iff_ne, beq_eq_false_iff_ne, bne_eq_false_iff_eq, Bool.not_true, Bool.not_false, gt_iff_lt, ge_iff_le, Int.not_lt, Int.not_le, ne_eq, Decidable.not_not] at hd) <;> (try simp at hs))
        | refine T_ret ?_
        | refine leave_of (.inr rfl) _ rfl ?_
        | refine leave_of (.inl rfl) _ rfl ?_
        | refine leaveA_of (.inr rfl) _ rfl ?_
        | refine leaveA_of (.inl rfl) _ rfl ?_
        | refine wif_intro ?_ (fun hc => ?_)
        | refine And.intro ?_ ?_
        | intro hc
      | simp (maxSteps := 4000000) only [wops_cons, wstep_some, wguard_true, wrun_call, ev, look, put_some, List.map_cons, List.map_nil, if_true, if_false, Nat.reduceEqDiff, reduceCtorEq, eq_self, *]
      | simp (disch := omega) only [getD_ints, wrapI]
      | omega)
    have hel := encD_len M z
    have hel' := encD_len M' z
    have h76 := k76 (n := false) (xs := encD M z) (by omega) (fun k hk => by rw [encD_get M z k (by omega)]; dsimp only; have b1 := hb.1 0 k (by omega) (by omega); have b2 := hb.1 k 0 (by omega) (by omega); omega)
    rw [hel] at h76
    refine wcall_E0 h76 rfl (rL1 h113.1 (Nat.le_refl _)) (by simp only [plainL, plain_er]; rfl) ?_
    intro H4 hx
    replace h14 := And.intro (h14.1.ext hx) trivial
    clear hx h113 h76
    repeat' (first
      | ((with_reducible refine T_calm ?_ ?_); rfl)
      | with_reducible first
        | refine T_seq ?_
        | refine T_reg ?_
        | refine T_draw ?_
        | refine T_skip ?_
        | refine T_exit ?_
        | refine T_block ?_
        | refine T_cond_t rfl ?_
        | refine T_cond_f rfl ?_
        | refine wdW_cons rfl ?_
        | ((first | refine T_cond rfl (fun hc => ?_) (fun hc => ?_) | refine wguard_split (fun hc => ?_) (fun hc => ?_) | refine wguardX_split (fun hc => ?_) (fun hc => ?_)) <;> have hd := hc <;> (try simp (disch := omega) only [wrapI] at hd) <;> have hs := hd <;> (try simp only [Bool.not_eq_true', Bool.not_eq_false', Bool.and_eq_true, Bool.and_eq_false_iff, Bool.or_eq_true, Bool.or_eq_false_iff, decide_eq_true_eq, decide_eq_false_iff_not, beq_iff_eq, bne_iff_ne, beq_eq_false_iff_ne, bne_eq_false_iff_eq, Bool.not_true, Bool.not_false, gt_iff_lt, ge_iff_le, Int.not_lt, Int.not_le, ne_eq, Decidable.not_not] at hd) <;> (try simp at hs))
        | refine T_ret ?_
        | refine leave_of (.inr rfl) _ rfl ?_
        | refine leave_of (.inl rfl) _ rfl ?_
        | refine leaveA_of (.inr rfl) _ rfl ?_
        | refine leaveA_of (.inl rfl) _ rfl ?_
        | refine wif_intro ?_ (fun hc => ?_)
        | refine And.intro ?_ ?_
        | intro hc
      | simp (maxSteps := 4000000) only [wops_cons, wstep_some, wguard_true, wrun_call, wrun_mv, wop, aop, ev, look, put_some, writes, ores_some, List.map_cons, List.map_nil, if_true, if_false, Nat.reduceEqDiff, reduceCtorEq, eq_self, *]
      | simp (disch := omega) only [getD_ints, wrapI]
      | omega)
    have h51 := k51 hz hM'.1 (fun i j hi hj => by have := hb'.1 i j hi hj; omega)
    have g51 := Gv.of_fn 6 h51 [.lsl 0 0 z] (ws := [.sl false 2 (erD (encD M' z))]) rfl (by show [rfy _ (4 + 2) _] = _; rw [er_rfy (own := true) rfl (encD_len M' z)]) (by simp only [plainL, plain_er]; rfl)
    refine wcall_E1 g51 (rL1 h14.1 (Nat.le_refl _)) (by simp only [plainL, plain_tbl]; rfl) ?_
    intro v116 H5 hx h116
    replace h116 := And.intro h116 trivial
    clear hx h14 h51 g51
    repeat' (first
      | ((with_reducible refine T_calm ?_ ?_); rfl)
      | with_reducible first
        | refine T_seq ?_
        | refine T_reg ?_
        | refine T_draw ?_
        | refine T_skip ?_
        | refine T_exit ?_
        | refine T_block ?_
        | refine T_cond_t rfl ?_
        | refine T_cond_f rfl ?_
        | refine wdW_cons rfl ?_
        | ((first | refine T_cond rfl (fun hc => ?_) (fun hc => ?_) | refine wguard_split (fun hc => ?_) (fun hc => ?_) | refine wguardX_split (fun hc => ?_) (fun hc => ?_)) <;> have hd := hc <;> (try simp (disch := omega) only [wrapI] at hd) <;> have hs := hd <;> (try simp only [Bool.not_eq_true', Bool.not_eq_false', Bool.and_eq_true, Bool.and_eq_false_iff, Bool.or_eq_true, Bool.or_eq_false_iff, decide_eq_true_eq, decide_eq_false_iff_not, beq_iff_eq, bne_iff_ne, beq_eq_false_iff_ne, bne_eq_false_iff_eq, Bool.not_true, Bool.not_false, gt_iff_lt, ge_iff_le, Int.not_lt, Int.not_le, ne_eq, Decidable.not_not] at hd) <;> (try simp at hs))
        | refine T_ret ?_
        | refine leave_of (.inr rfl) _ rfl ?_
        | refine leave_of (.inl rfl) _ rfl ?_
        | refine leaveA_of (.inr rfl) _ rfl ?_
        | refine leaveA_of (.inl rfl) _ rfl ?_
        | refine wif_intro ?_ (fun hc => ?_)
        | refine And.intro ?_ ?_
        | intro hc
      | simp (maxSteps := 4000000) only [wops_cons, wstep_some, wguard_true, wrun_call, ev, look, put_some, List.map_cons, List.map_nil, if_true, if_false, Nat.reduceEqDiff, reduceCtorEq, eq_self, *]
      | simp (disch := omega) only [getD_ints, wrapI]
      | omega)
    have h76 := k76 (n := false) (xs := encD M' z) (by omega) (fun k hk => by rw [encD_get M' z k (by omega)]; dsimp only; have b1 := hb'.1 0 k (by omega) (by omega); have b2 := hb'.1 k 0 (by omega) (by omega); omega)
    rw [hel'] at h76
    have r1 := wsum_r (xs := encD M z) (fun k hk => by rw [encD_get M z k (by omega)]; dsimp only; have b1 := hb.1 0 k (by omega) (by omega); have b2 := hb.1 k 0 (by omega) (by omega); omega) z (by omega)
    have r2 := wsum_r (xs := encD M' z) (fun k hk => by rw [encD_get M' z k (by omega)]; dsimp only; have b1 := hb'.1 0 k (by omega) (by omega); have b2 := hb'.1 k 0 (by omega) (by omega); omega) z (by omega)
    refine wcall_E0 h76 rfl (rL1 h116.1 (Nat.le_refl _)) (by simp only [plainL, plain_er]; rfl) ?_
    intro H6 hx
    clear hx h116 h76
    generalize wsum (encD M z) z = s1 at *
    generalize wsum (encD M' z) z = s2 at *
    clear hM hM' hb hb'
    replace hn := hn.1
    subst hn
    have ew : IntKind.i64.wrap (s1 - s2) = s1 - s2 := wrapI (by omega) (by omega)
    repeat' (first
      | ((with_reducible refine T_calm ?_ ?_); rfl)
      | with_reducible first
        | refine T_seq ?_
        | refine T_reg ?_
        | refine T_draw ?_
        | refine T_skip ?_
        | refine T_exit ?_
        | refine T_block ?_
        | refine T_cond_t rfl ?_
        | refine T_cond_f rfl ?_
        | refine wdW_cons rfl ?_
        | ((first | refine T_cond rfl (fun hc => ?_) (fun hc => ?_) | refine wguard_split (fun hc => ?_) (fun hc => ?_) | refine wguardX_split (fun hc => ?_) (fun hc => ?_)) <;> have hd := hc <;> (try simp (disch := omega) only [wrapI] at hd) <;> have hs := hd <;> (try simp only [Bool.not_eq_true', Bool.not_eq_false', Bool.and_eq_true, Bool.and_eq_false_iff, Bool.or_eq_true, Bool.or_eq_false_iff, decide_eq_true_eq, decide_eq_false_iff_not, beq_iff_eq, bne_iff_ne, beq_eq_false_iff_ne, bne_eq_false_iff_eq, Bool.not_true, Bool.not_false, gt_iff_lt, ge_iff_le, Int.not_lt, Int.not_le, ne_eq, Decidable.not_not] at hd) <;> (try simp at hs))
        | refine T_ret ?_
        | refine leave_of (.inr rfl) _ rfl ?_
        | refine leave_of (.inl rfl) _ rfl ?_
        | refine leaveA_of (.inr rfl) _ rfl ?_
        | refine leaveA_of (.inl rfl) _ rfl ?_
        | refine wif_intro ?_ (fun hc => ?_)
        | refine And.intro ?_ ?_
        | intro hc
      | simp (maxSteps := 4000000) only [wops_nil, wops_cons, wstep_none, wstep_some, wguard_true, wrun_mv, wrun_pick, wrun_bin, get_mk, wop, aop, ev, look, put_some, writes, ores_some, binV, thenK, tupOf, Option.map_some, if_true, if_false, Nat.reduceEqDiff, reduceCtorEq, eq_self, decide_true, beq_self_eq_true, ren, *]
      | simp (disch := omega) only [getD_ints, wrapI]
      | omega)
theorem T_only {P : Program} {muts : List FuncId} {N b : Nat} {σ S : St} {K : Exit → St → Prop} {md : Option Nat} {ac : ACode} (ts : List Nat) (h : σ.only ts = S) (hT : T md P muts N b ac S K) : T md P muts N b ac σ K :=
  T_weak (weak_only ts) (by rw [h]; exact hT)
set_option maxHeartbeats 8000000 in
theorem k16m {z : Nat} {nil : Bool} {l m : List Rd} {r : Rd} {n f e72 e75 p1 p2 : Int} {M M' : List (List Int)} {w13 : AV} (hz : 1 ≤ z ∧ z ≤ 40) (hM : Sq z M)
    (hb : ∀ i j, i < z → j < z → -41000000 ≤ mget M i j ∧ mget M i j ≤ 41000000)
    (h49 : Gv 6 Try.prog 49 [i64 z, rdgs nil l] [tblV M, i64 0])
    (hp : (z = 1 ∧ e72 = 12 ∧ p1 = 0 ∧ p2 = 0) ∨ (2 ≤ z ∧ e72 = 0 ∧ p1 = (wOut M z z).1 ∧ p2 = (wOut M z z).2))
    (h75 : Gv 6 Try.prog 75 [i64 z, rdgs nil l, rdV r] [w13, i64 e75])
    (hcase : (e75 ≠ 0 ∧ n = 0 ∧ f = e75) ∨ (e75 = 0 ∧ f = 0 ∧ w13 = rdgs false m ∧ Sq z M' ∧ (∀ i j, i < z → j < z → -41000000 ≤ mget M' i j ∧ mget M' i j ≤ 41000000) ∧ Gv 6 Try.prog 70 [i64 z, rdgs false m] [tblV M', bl true] ∧ n = wsum (encD M z) z - wsum (encD M' z) z ∧ 0 ≤ n)) :
    T none Try.prog muts 125 0 c16r1 ⟨[(0, i64 z), (1, rdgs nil l), (5, .loc 0 0 0), (7, .loc 1 0 0), (8, i64 e72), (9, i64 n), (10, i64 f)], [.cells true false 4 [rrow r], .cells true false 2 [[i64 p1, i64 p2]]]⟩ (leave 0 [ARes.tmp 6] fun r' H' => r' = bl true ∧ H' = []) := by
  have ht := fun (o : Bool) (H : List Blk) (hH0 : H[0]? = some (.cells o false 4 [rrow r])) (v : AV) (hv : Rds 6 H v (tblV M)) => k16t hz hM hb h75 hcase hH0 hv
  replace ht := And.intro ht trivial
  replace h49 := And.intro h49 trivial
  clear h75 hcase
  replace hM := And.intro hM trivial
  replace hb := And.intro hb trivial
  unfold c16r1
  repeat' (first
    | ((with_reducible refine T_calm ?_ ?_); rfl)
    | with_reducible first
      | refine T_seq ?_
      | refine T_reg ?_
      | refine T_draw ?_
      | refine T_skip ?_
      | refine T_exit ?_
      | refine T_block ?_
      | refine T_cond_t rfl ?_
      | refine T_cond_f rfl ?_
      | refine wdW_cons rfl ?_
      | ((first | refine T_cond rfl (fun hc => ?_) (fun hc => ?_) | refine wguard_split (fun hc => ?_) (fun hc => ?_) | refine wguardX_split (fun hc => ?_) (fun hc => ?_)) <;> have hd := hc <;> (try simp (disch := omega) only [wrapI] at hd) <;> have hs := hd <;> (try simp only [Bool.not_eq_true', Bool.not_eq_false', Bool.and_eq_true, Bool.and_eq_false_iff, Bool.or_eq_true, Bool.or_eq_false_iff, decide_eq_true_eq, decide_eq_false_iff_not, beq_iff_eq, bne_iff_ne, beq_eq_false_iff_ne, bne_eq_false_iff_eq, Bool.not_true, Bool.not_false, gt_iff_lt, ge_iff_le, Int.not_lt, Int.not_le, ne_eq, Decidable.not_not] at hd) <;> (try simp at hs))
      | refine T_ret ?_
      | refine leave_of (.inr rfl) _ rfl ?_
      | refine leave_of (.inl rfl) _ rfl ?_
      | refine leaveA_of (.inr rfl) _ rfl ?_
      | refine leaveA_of (.inl rfl) _ rfl ?_
      | refine wif_intro ?_ (fun hc => ?_)
      | refine And.intro ?_ ?_
      | intro hc
    | simp (maxSteps := 4000000) only [wops_cons, wstep_none, wrun_call, wrun_mv, wop, aop, ev, look, put_some, writes, ores_some, List.map_cons, List.map_nil, List.length_cons, List.length_nil, List.append_nil, List.replicate_zero, if_true, if_false, Nat.reduceEqDiff, Nat.reduceAdd, Nat.zero_add, Nat.zero_ne_one, reduceCtorEq, eq_self, *]
    | simp (disch := omega) only [getD_ints, wrapI]
    | omega)
  refine wcall_E2 h49.1 rfl (by simp [plainL, plain]) ?_
  intro v11 ve H1 hx h11 hve
  have := hve.lit; subst this
  obtain ⟨o0, hH0⟩ := hx.cell (id := 0) rfl
  obtain ⟨o1, hH1⟩ := hx.cell (id := 1) rfl
  replace h11 := And.intro h11 trivial
  clear hve hx h49
  rcases hp with ⟨rfl, rfl, rfl, rfl⟩ | ⟨hz2, rfl, rfl, rfl⟩
  · have hlt : 1 < H1.length := (List.getElem?_eq_some_iff.1 hH1).1
    repeat' (first
      | ((with_reducible refine T_calm ?_ ?_); rfl)
      | with_reducible first
        | refine T_seq ?_
        | refine T_reg ?_
        | refine T_draw ?_
        | refine T_skip ?_
        | refine T_exit ?_
        | refine T_block ?_
        | refine T_cond_t rfl ?_
        | refine T_cond_f rfl ?_
        | refine wdW_cons rfl ?_
        | ((first | refine T_cond rfl (fun hc => ?_) (fun hc => ?_) | refine wguard_split (fun hc => ?_) (fun hc => ?_) | refine wguardX_split (fun hc => ?_) (fun hc => ?_)) <;> have hd := hc <;> (try simp (disch := omega) only [wrapI] at hd) <;> have hs := hd <;> (try simp only [decide_eq_true_eq, decide_eq_false_iff_not, beq_iff_eq, bne_iff_ne, beq_eq_false_iff_ne, bne_eq_false_iff_eq, Bool.not_true, Bool.not_false, gt_iff_lt, Int.not_lt, ne_eq] at hd) <;> (try simp at hs))
        | refine T_ret ?_
        | refine leave_of (.inr rfl) _ rfl ?_
        | refine leave_of (.inl rfl) _ rfl ?_
        | refine leaveA_of (.inr rfl) _ rfl ?_
        | refine leaveA_of (.inl rfl) _ rfl ?_
        | refine wif_intro ?_ (fun hc => ?_)
        | refine And.intro ?_ ?_
        | intro hc
      | simp (maxSteps := 4000000) only [wops_nil, wops_cons, wstep_none, wguardX_undef, wrun_mv, wrun_pick, wrun_bin, wrun_eqAgg, wrun_ext, wrun_build, wrun_load, wrunX_mv, wrunX_pick, wrunX_bin, wrunX_eqAgg, wrunX_build, wrunX_load, wdW_nil, wstepX_none, wstepX_some, wguardX_true, wguardX_ff, wguardX_ft, wop, aop, ev, look, put_some, writes, ores_some, binV, thenK, boolV, value, cut, hget, fillA, toLits, mkAgg, cellsEq, cellEq, List.map_nil, List.length_cons, List.length_nil, List.getElem?_cons_zero, List.getElem?_cons_succ, List.take_succ_cons, List.take_nil, List.drop_zero, List.append_nil, List.replicate_zero, List.getD_cons_zero, Option.getD_some, Option.map_some, if_true, if_false, Nat.reduceEqDiff, Nat.reduceAdd, Nat.zero_add, reduceCtorEq, Bool.not_true, Bool.false_eq_true, eq_self, and_self, beq_self_eq_true, *]
      | simp (disch := omega) only [getD_ints, wrapI]
      | (with_reducible refine wdW_cons ?_ ?_; (next => simp [chk, foot, compatB, argsOf, St.get, target, ev, look, lidsL, kind, wids, tops, opds, topId, hlt]; done))
      | omega)
    refine T_only [0, 1, 5, 9, 10, 11] ?_ (ht.1 o0 H1 hH0 v11 h11.1)
    simp [St.only, get_mk, look]
  · have hz1 : ((z : Int) == 1) = false := by simp only [beq_eq_false_iff_ne]; omega
    have hz3 : decide ((z : Int) > 1) = true := by simp only [decide_eq_true_eq]; omega
    have h74 := k74 (z := z) (D := M) (by omega) hM.1 hb.1
    have hlt : 1 < H1.length := (List.getElem?_eq_some_iff.1 hH1).1
    repeat' (first
      | ((with_reducible refine T_calm ?_ ?_); rfl)
      | with_reducible first
        | refine T_seq ?_
        | refine T_reg ?_
        | refine T_draw ?_
        | refine T_skip ?_
        | refine T_exit ?_
        | refine T_block ?_
        | refine T_cond_t rfl ?_
        | refine T_cond_f rfl ?_
        | refine wdW_cons rfl ?_
        | ((first | refine T_cond rfl (fun hc => ?_) (fun hc => ?_) | refine wguard_split (fun hc => ?_) (fun hc => ?_) | refine wguardX_split (fun hc => ?_) (fun hc => ?_)) <;> have hd := hc <;> (try simp (disch := omega) only [wrapI] at hd) <;> have hs := hd <;> (try simp only [bne_iff_ne, bne_eq_false_iff_eq, Bool.not_false, ne_eq] at hd) <;> (try simp at hs))
        | refine T_ret ?_
        | refine leave_of (.inr rfl) _ rfl ?_
        | refine leave_of (.inl rfl) _ rfl ?_
        | refine leaveA_of (.inr rfl) _ rfl ?_
        | refine leaveA_of (.inl rfl) _ rfl ?_
        | refine wif_intro ?_ (fun hc => ?_)
        | refine And.intro ?_ ?_
        | intro hc
      | simp (maxSteps := 4000000) only [wops_nil, wops_cons, wstep_none, wguardX_undef, wrun_mv, wrun_pick, wrun_bin, wrun_ext, wrun_load, wrunX_mv, wrunX_pick, wrunX_bin, wrunX_load, wstepX_none, wstepX_some, wguardX_true, wguardX_ff, wguardX_ft, wrunX_call, wop, aop, ev, look, put_some, writes, ores_some, binV, thenK, value, cut, hget, toLits, mkAgg, List.map_cons, List.map_nil, List.length_cons, List.length_nil, List.getElem?_cons_zero, List.getElem?_cons_succ, List.take_succ_cons, List.take_nil, List.drop_zero, List.append_nil, List.replicate_zero, List.getD_cons_zero, Option.getD_some, Option.map_some, if_true, if_false, Nat.reduceEqDiff, Nat.reduceAdd, Nat.zero_add, reduceCtorEq, Bool.false_eq_true, eq_self, *]
      | simp (disch := omega) only [getD_ints, wrapI]
      | (with_reducible refine wdW_cons ?_ ?_; (next => simp [chk, foot, compatB, argsOf, St.get, target, ev, look, lidsL, kind, wids, tops, opds, topId, hlt]; done))
      | omega)
    refine wcallX_E0 h74 rfl (rL1 h11.1 (Nat.le_refl _)) (by simp only [plainL, plain_tbl]; rfl) ?_
    intro H2 hx
    obtain ⟨o2, hH2⟩ := hx.cell hH0
    obtain ⟨o3, hH3⟩ := hx.cell hH1
    replace h11 := And.intro (h11.1.ext hx) trivial
    replace hx := And.intro hx trivial
    repeat' (first
      | ((with_reducible refine T_calm ?_ ?_); rfl)
      | with_reducible first
        | refine T_seq ?_
        | refine T_reg ?_
        | refine T_draw ?_
        | refine T_skip ?_
        | refine T_exit ?_
        | refine T_block ?_
        | refine T_cond_t rfl ?_
        | refine T_cond_f rfl ?_
        | refine wdW_cons rfl ?_
        | ((first | refine T_cond rfl (fun hc => ?_) (fun hc => ?_) | refine wguard_split (fun hc => ?_) (fun hc => ?_) | refine wguardX_split (fun hc => ?_) (fun hc => ?_)) <;> have hd := hc <;> (try simp (disch := omega) only [wrapI] at hd) <;> have hs := hd <;> (try simp only [Bool.not_eq_true', Bool.not_eq_false', Bool.and_eq_true, Bool.and_eq_false_iff, Bool.or_eq_true, Bool.or_eq_false_iff, decide_eq_true_eq, decide_eq_false_iff_not, beq_iff_eq, bne_iff_ne, beq_eq_false_iff_ne, bne_eq_false_iff_eq, Bool.not_true, Bool.not_false, gt_iff_lt, ge_iff_le, Int.not_lt, Int.not_le, ne_eq, Decidable.not_not] at hd) <;> (try simp at hs))
        | refine T_ret ?_
        | refine leave_of (.inr rfl) _ rfl ?_
        | refine leave_of (.inl rfl) _ rfl ?_
        | refine leaveA_of (.inr rfl) _ rfl ?_
        | refine leaveA_of (.inl rfl) _ rfl ?_
        | refine wif_intro ?_ (fun hc => ?_)
        | refine And.intro ?_ ?_
        | intro hc
      | simp (maxSteps := 4000000) only [wrun_pick, wrun_eqAgg, wrunX_pick, wrunX_eqAgg, wdW_nil, wstepX_none, wstepX_some, wguardX_true, wguardX_ff, wop, aop, ev, look, put_some, writes, ores_some, thenK, boolV, cellsEq, cellEq, List.length_cons, List.length_nil, Option.map_some, if_true, if_false, Nat.reduceEqDiff, Nat.zero_add, reduceCtorEq, Bool.not_true, Bool.false_eq_true, eq_self, and_self, beq_self_eq_true, *]
      | simp (disch := omega) only [getD_ints, wrapI]
      | (with_reducible refine wdW_cons ?_ ?_; (next => simp [chk, foot, compatB, argsOf, St.get, target, ev, look, lidsL, hget, kind, wids, tops, opds, topId, hlt]; done))
      | omega)
    refine T_only [0, 1, 5, 9, 10, 11] ?_ (ht.1 o2 H2 hH2 v11 h11.1)
    simp [St.only, get_mk, look]
end Go.Abs
