import Derived.Test.YtodheeifecoebaaK238x
set_option linter.all false
set_option linter.unusedVariables false
set_option linter.unusedSimpArgs false
set_option linter.unusedSectionVars false
namespace Go.Abs
open Go.Proofs
section
variable {nil hn fn : Bool} {rows : List (Bool × List Int)} {h nums : List Int} {den : Int}
theorem rds_nil {H : List Blk} {a : AV} (ha : Rds 1 H a (.sl true 0 [])) : a = .sl true 0 [] ∨ ∃ id i o els, a = .lsl id i 0 ∧ H[id]? = some (.cells o true 0 els) := by
  rcases ha.sl with rfl | ⟨id, i, n, o, els, rfl, h1, h2, h3⟩
  · exact .inl rfl
  · have h4 := congrArg List.length h3
    simp at h4
    have : n = 0 := by omega
    subst this
    exact .inr ⟨id, i, o, els, rfl, h1⟩
set_option maxHeartbeats 8000000 in
theorem k17x {e : Int} (he : e ≠ 0) (h80 : Fn Try.prog 80 [.sl nil 1 (rows.map fun r => [ints r.1 r.2]), ints hn h] (i64 e) []) (a : AV) (N : Nat) (o o8 : Bool) (H : List Blk) (hH0 : H[0]? = some (bX o fn nums den)) (hHN : H[N]? = some (.cells o8 false 2 [[a, i64 0]])) (ha : Rds 1 H a (.sl true 0 [])) :
    T none Try.prog muts 135 0 c17r2 ⟨[(0, .sl nil 1 (rows.map fun r => [ints r.1 r.2])), (1, ints hn h), (5, .loc 0 0 0), (8, .loc N 0 0), (9, i64 e), (10, i64 e)], H⟩ (leave 0 [ARes.tmp 6] fun r' H' => r' = bl true ∧ H' = []) := by
  have hp := plain_rws rows
  have hd1 : (e != 0) = true := by simp only [bne_iff_ne]; exact he
  replace h80 := And.intro h80 trivial
  replace ha := And.intro ha trivial
  unfold c17r2
  repeat' (first
    | ((with_reducible refine T_calm ?_ ?_); rfl)
    | with_reducible first
      | refine T_seq ?_
      | refine T_reg ?_
      | refine T_draw ?_
      | refine T_skip ?_
      | refine T_exit ?_
      | refine T_block ?_
      | refine T_cond_t rfl ?_
      | refine T_cond_f rfl ?_
      | refine wdW_cons rfl ?_
      | ((first | refine T_cond rfl (fun hc => ?_) (fun hc => ?_) | refine wguard_split (fun hc => ?_) (fun hc => ?_) | refine wguardX_split (fun hc => ?_) (fun hc => ?_)) <;> have hd := hc <;> (try simp (disch := omega) only [wrapI] at hd) <;> have hs := hd <;> (try simp only [Bool.not_eq_true', Bool.not_eq_false', Bool.and_eq_true, Bool.and_eq_false_iff, Bool.or_eq_true, Bool.or_eq_false_iff, decide_eq_true_eq, decide_eq_false_iff_not, beq_iff_eq, bne_iff_ne, beq_eq_false_iff_ne, bne_eq_false_iff_eq, Bool.not_true, Bool.not_false, gt_iff_lt, ge_iff_le, Int.not_lt, Int.not_le, ne_eq, Decidable.not_not] at hd) <;> (try simp at hs))
      | refine T_ret ?_
      | refine leave_of (.inr rfl) _ rfl ?_
      | refine leave_of (.inl rfl) _ rfl ?_
      | refine leaveA_of (.inr rfl) _ rfl ?_
      | refine leaveA_of (.inl rfl) _ rfl ?_
      | refine wif_intro ?_ (fun hc => ?_)
      | refine And.intro ?_ ?_
      | intro hc
    | simp (maxSteps := 4000000) only [wops_cons, wstep_none, wrun_call, wrun_mv, wop, aop, ev, look, put_some, writes, ores_some, List.map_cons, List.map_nil, List.append_nil, List.replicate_zero, if_true, if_false, Nat.reduceEqDiff, Nat.zero_ne_one, reduceCtorEq, eq_self, *]
    | simp (disch := omega) only [getD_ints, wrapI]
    | omega)
  refine wcall_E0 h80.1 rfl rfl (by simp [plainL, plain, plain_rws]) ?_
  intro H1 hx
  obtain ⟨o1, hH1⟩ := hx.cell hH0
  obtain ⟨p1, hN1⟩ := hx.cell hHN
  have ha1 := ha.1.ext hx
  clear hx ha hH0 hHN
  rcases rds_nil ha1 with rfl | ⟨id, i, o2, els, rfl, hid⟩
  · clear ha1
    repeat' (first
      | ((with_reducible refine T_calm ?_ ?_); rfl)
      | with_reducible first
        | refine T_seq ?_
        | refine T_reg ?_
        | refine T_draw ?_
        | refine T_skip ?_
        | refine T_exit ?_
        | refine T_block ?_
        | refine T_cond_t rfl ?_
        | refine T_cond_f rfl ?_
        | refine wdW_cons rfl ?_
        | ((first | refine T_cond rfl (fun hc => ?_) (fun hc => ?_) | refine wguard_split (fun hc => ?_) (fun hc => ?_) | refine wguardX_split (fun hc => ?_) (fun hc => ?_)) <;> have hd := hc <;> (try simp (disch := omega) only [wrapI] at hd) <;> have hs := hd <;> (try simp only [beq_iff_eq, beq_eq_false_iff_ne, Bool.not_true, ne_eq] at hd) <;> (try simp at hs))
        | refine T_ret ?_
        | refine leave_of (.inr rfl) _ rfl ?_
        | refine leave_of (.inl rfl) _ rfl ?_
        | refine leaveA_of (.inr rfl) _ rfl ?_
        | refine leaveA_of (.inl rfl) _ rfl ?_
        | refine wif_intro ?_ (fun hc => ?_)
        | refine And.intro ?_ ?_
        | intro hc
      | simp (maxSteps := 4000000) only [wops_nil, wops_cons, wstep_none, wstep_some, wguard_true, wrun_mv, wrun_pick, wrun_bin, wrun_load, wrun_faddr, wrun_len, get_mk, wop, aop, ev, look, put_some, writes, ores_some, ores_map, ores_bind, binV, thenK, intV, lenOf, value, cut, hget, mkAgg, tupOf, List.length_cons, List.length_nil, List.take_succ_cons, List.take_zero, List.take_nil, List.drop_succ_cons, List.drop_zero, List.append_nil, List.replicate_zero, List.getD_cons_zero, Option.pure_def, Option.bind_eq_bind, Option.getD_some, Option.map_some, if_true, if_false, Nat.reduceEqDiff, Nat.add_zero, Nat.zero_add, reduceCtorEq, Bool.false_eq_true, eq_self, beq_self_eq_true, ren, *]
      | simp (disch := omega) only [getD_ints, wrapI]
      | omega)
    all_goals first | rfl
  · clear ha1
    repeat' (first
      | ((with_reducible refine T_calm ?_ ?_); rfl)
      | with_reducible first
        | refine T_seq ?_
        | refine T_reg ?_
        | refine T_draw ?_
        | refine T_skip ?_
        | refine T_exit ?_
        | refine T_block ?_
        | refine T_cond_t rfl ?_
        | refine T_cond_f rfl ?_
        | refine wdW_cons rfl ?_
        | ((first | refine T_cond rfl (fun hc => ?_) (fun hc => ?_) | refine wguard_split (fun hc => ?_) (fun hc => ?_) | refine wguardX_split (fun hc => ?_) (fun hc => ?_)) <;> have hd := hc <;> (try simp (disch := omega) only [wrapI] at hd) <;> have hs := hd <;> (try simp only [beq_iff_eq, beq_eq_false_iff_ne, Bool.not_true, ne_eq] at hd) <;> (try simp at hs))
        | refine T_ret ?_
        | refine leave_of (.inr rfl) _ rfl ?_
        | refine leave_of (.inl rfl) _ rfl ?_
        | refine leaveA_of (.inr rfl) _ rfl ?_
        | refine leaveA_of (.inl rfl) _ rfl ?_
        | refine wif_intro ?_ (fun hc => ?_)
        | refine And.intro ?_ ?_
        | intro hc
      | simp (maxSteps := 4000000) only [wops_nil, wops_cons, wstep_none, wstep_some, wguard_true, wrun_mv, wrun_pick, wrun_bin, wrun_load, wrun_faddr, wrun_len, get_mk, wop, aop, ev, look, put_some, writes, ores_some, ores_map, ores_bind, binV, thenK, intV, lenOf, value, cut, hget, mkAgg, tupOf, List.length_cons, List.length_nil, List.take_succ_cons, List.take_zero, List.take_nil, List.drop_succ_cons, List.drop_zero, List.append_nil, List.replicate_zero, List.getD_cons_zero, Option.pure_def, Option.bind_eq_bind, Option.getD_some, Option.map_some, if_true, if_false, Nat.reduceEqDiff, Nat.add_zero, Nat.zero_add, reduceCtorEq, Bool.false_eq_true, eq_self, beq_self_eq_true, ren, *]
      | simp (disch := omega) only [getD_ints, wrapI]
      | omega)
    all_goals first | rfl
set_option maxHeartbeats 8000000 in
theorem k17z (hc : checkF rows h = 0) (hD : fD rows h = 0) (hlh : h.length ≤ 25) (hln : nums.length ≤ 4) (a : AV) (N : Nat) (o o8 : Bool) (H : List Blk) (hH0 : H[0]? = some (bX o fn nums den)) (hHN : H[N]? = some (.cells o8 false 2 [[a, i64 0]])) (ha : Rds 1 H a (.sl true 0 [])) :
    T none Try.prog muts 135 0 c17r2 ⟨[(0, .sl nil 1 (rows.map fun r => [ints r.1 r.2])), (1, ints hn h), (5, .loc 0 0 0), (8, .loc N 0 0), (9, i64 11), (10, i64 (chkF rows h nums den))], H⟩ (leave 0 [ARes.tmp 6] fun r' H' => r' = bl true ∧ H' = []) := by
  have hp := plain_rws rows
  have h80 := k80 (nil := nil) (hn := hn) (rows := rows) (ht0 := h) (by have := (checkF_ok hc).hk; omega) (by omega)
  have h81 := k81 (nil := nil) (hn := hn) (fn := fn) (den := den) hc (show nums.length < 1000000 by omega)
  have h82 := k82 (nil := nil) (hn := hn) hc
  rw [hc] at h80
  rw [if_pos hD] at h82
  generalize chkF rows h nums den = c at *
  have hcc : (c != c) = false := by simp
  clear hc hD
  replace h80 := And.intro h80 trivial
  replace h81 := And.intro h81 trivial
  replace h82 := And.intro h82 trivial
  replace ha := And.intro ha trivial
  unfold c17r2
  repeat' (first
    | ((with_reducible refine T_calm ?_ ?_); rfl)
    | with_reducible first
      | refine T_seq ?_
      | refine T_reg ?_
      | refine T_draw ?_
      | refine T_skip ?_
      | refine T_exit ?_
      | refine T_block ?_
      | refine T_cond_t rfl ?_
      | refine T_cond_f rfl ?_
      | refine wdW_cons rfl ?_
      | ((first | refine T_cond rfl (fun hc => ?_) (fun hc => ?_) | refine wguard_split (fun hc => ?_) (fun hc => ?_) | refine wguardX_split (fun hc => ?_) (fun hc => ?_)) <;> have hd := hc <;> (try simp (disch := omega) only [wrapI] at hd) <;> have hs := hd <;> (try simp only [Bool.not_eq_true', Bool.not_eq_false', Bool.and_eq_true, Bool.and_eq_false_iff, Bool.or_eq_true, Bool.or_eq_false_iff, decide_eq_true_eq, decide_eq_false_iff_not, beq_iff_eq, bne_iff_ne, beq_eq_false_iff_ne, bne_eq_false_iff_eq, Bool.not_true, Bool.not_false, gt_iff_lt, ge_iff_le, Int.not_lt, Int.not_le, ne_eq, Decidable.not_not] at hd) <;> (try simp at hs))
      | refine T_ret ?_
      | refine leave_of (.inr rfl) _ rfl ?_
      | refine leave_of (.inl rfl) _ rfl ?_
      | refine leaveA_of (.inr rfl) _ rfl ?_
      | refine leaveA_of (.inl rfl) _ rfl ?_
      | refine wif_intro ?_ (fun hc => ?_)
      | refine And.intro ?_ ?_
      | intro hc
    | simp (maxSteps := 4000000) only [wops_cons, wstep_none, wrun_call, wrun_mv, wop, aop, ev, look, put_some, writes, ores_some, List.map_cons, List.map_nil, List.append_nil, List.replicate_zero, if_true, if_false, Nat.reduceEqDiff, Nat.zero_ne_one, reduceCtorEq, eq_self, *]
    | simp (disch := omega) only [getD_ints, wrapI]
    | omega)
  refine wcall_E0 h80.1 rfl rfl (by simp [plainL, plain, plain_rws]) ?_
  intro H1 hx
  obtain ⟨o1, hH1⟩ := hx.cell hH0
  obtain ⟨p1, hN1⟩ := hx.cell hHN
  replace ha := And.intro (ha.1.ext hx) trivial
  clear hx hH0 hHN
  repeat' (first
    | ((with_reducible refine T_calm ?_ ?_); rfl)
    | with_reducible first
      | refine T_seq ?_
      | refine T_reg ?_
      | refine T_draw ?_
      | refine T_skip ?_
      | refine T_exit ?_
      | refine T_block ?_
      | refine T_cond_t rfl ?_
      | refine T_cond_f rfl ?_
      | refine wdW_cons rfl ?_
      | ((first | refine T_cond rfl (fun hc => ?_) (fun hc => ?_) | refine wguard_split (fun hc => ?_) (fun hc => ?_) | refine wguardX_split (fun hc => ?_) (fun hc => ?_)) <;> have hd := hc <;> (try simp (disch := omega) only [wrapI] at hd) <;> have hs := hd <;> (try simp only [Bool.not_eq_true', Bool.not_eq_false', Bool.and_eq_true, Bool.and_eq_false_iff, Bool.or_eq_true, Bool.or_eq_false_iff, decide_eq_true_eq, decide_eq_false_iff_not, beq_iff_eq, bne_iff_ne, beq_eq_false_iff_ne, bne_eq_false_iff_eq, Bool.not_true, Bool.not_false, gt_iff_lt, ge_iff_le, Int.not_lt, Int.not_le, ne_eq, Decidable.not_not] at hd) <;> (try simp at hs))
      | refine T_ret ?_
      | refine leave_of (.inr rfl) _ rfl ?_
      | refine leave_of (.inl rfl) _ rfl ?_
      | refine leaveA_of (.inr rfl) _ rfl ?_
      | refine leaveA_of (.inl rfl) _ rfl ?_
      | refine wif_intro ?_ (fun hc => ?_)
      | refine And.intro ?_ ?_
      | intro hc
    | simp (maxSteps := 4000000) only [wops_nil, wops_cons, wstep_none, wrun_call, wrun_mv, wrun_bin, wrun_load, wop, aop, ev, look, put_some, writes, ores_some, binV, thenK, value, cut, hget, toLits, mkAgg, List.map_cons, List.map_nil, List.length_cons, List.length_nil, List.take_succ_cons, List.take_nil, List.drop_zero, List.append_nil, List.replicate_zero, List.getD_cons_zero, Option.getD_some, Option.map_some, if_true, if_false, Nat.reduceEqDiff, Nat.reduceAdd, Nat.zero_add, Nat.zero_ne_one, reduceCtorEq, eq_self, *]
    | simp (disch := omega) only [getD_ints, wrapI]
    | omega)
  refine wcall_E0 h81.1 rfl rfl (by simp [plainL, plain, plain_rws]) ?_
  intro H2 hx
  obtain ⟨o2, hH2⟩ := hx.cell hH1
  obtain ⟨p2, hN2⟩ := hx.cell hN1
  replace ha := And.intro (ha.1.ext hx) trivial
  clear hx hH1 hN1
  have hat0 := at_ap hH2
  have hatN := at_ap hN2
  repeat' (first
    | ((with_reducible refine T_calm ?_ ?_); rfl)
    | with_reducible first
      | refine T_seq ?_
      | refine T_reg ?_
      | refine T_draw ?_
      | refine T_skip ?_
      | refine T_exit ?_
      | refine T_block ?_
      | refine T_cond_t rfl ?_
      | refine T_cond_f rfl ?_
      | refine wdW_cons rfl ?_
      | ((first | refine T_cond rfl (fun hc => ?_) (fun hc => ?_) | refine wguard_split (fun hc => ?_) (fun hc => ?_) | refine wguardX_split (fun hc => ?_) (fun hc => ?_)) <;> have hd := hc <;> (try simp (disch := omega) only [wrapI] at hd) <;> have hs := hd <;> (try simp only [Bool.not_eq_true', Bool.not_eq_false', Bool.and_eq_true, Bool.and_eq_false_iff, Bool.or_eq_true, Bool.or_eq_false_iff, decide_eq_true_eq, decide_eq_false_iff_not, beq_iff_eq, bne_iff_ne, beq_eq_false_iff_ne, bne_eq_false_iff_eq, Bool.not_true, Bool.not_false, gt_iff_lt, ge_iff_le, Int.not_lt, Int.not_le, ne_eq, Decidable.not_not] at hd) <;> (try simp at hs))
      | refine T_ret ?_
      | refine leave_of (.inr rfl) _ rfl ?_
      | refine leave_of (.inl rfl) _ rfl ?_
      | refine leaveA_of (.inr rfl) _ rfl ?_
      | refine leaveA_of (.inl rfl) _ rfl ?_
      | refine wif_intro ?_ (fun hc => ?_)
      | refine And.intro ?_ ?_
      | intro hc
    | simp (maxSteps := 4000000) only [wops_nil, wops_cons, wstep_none, wrun_call, wrun_mv, wrun_bin, wop, aop, ev, look, put_some, writes, ores_some, binV, thenK, List.map_cons, List.map_nil, List.replicate_zero, List.replicate_succ, Option.map_some, if_true, if_false, Nat.reduceEqDiff, Nat.zero_ne_one, reduceCtorEq, eq_self, *]
    | simp (disch := omega) only [getD_ints, wrapI]
    | omega)
  refine wcall_F2 h82.1 rfl (by simp [plainL, plain, plain_rws]) ?_
  intro v1 v2 H3 hx hR h1 h2
  have := h2.lit; subst this
  obtain ⟨a2, rfl, ha2⟩ := h1.agg2
  have hM3 := hR H2.length (by rw [List.getElem?_append_right (Nat.le_refl _), Nat.sub_self]; rfl)
  obtain ⟨o3, hH3⟩ := hx.cell (hat0 _)
  obtain ⟨p3, hN3⟩ := hx.cell (hatN _)
  have ha3 := (ha.1.app [Blk.resv]).ext hx
  have hform := ha2.forms
  have hNlt := (List.getElem?_eq_some_iff.1 hN2).1
  have hMlt := (List.getElem?_eq_some_iff.1 hM3).1
  generalize H2.length = M at *
  clear hx hR h1 h2 ha ha2 hat0 hatN hH2 hN2
  have hs1 : ∀ B : Blk, (H3.set M B)[M]? = some B := fun B => List.getElem?_set_self hMlt
  have hsN : ∀ B : Blk, (H3.set M B)[N]? = some (.cells p3 false 2 [[a, i64 0]]) := fun B => by rw [List.getElem?_set_ne (by omega)]; exact hN3
  have hss : ∀ B B' : Blk, (H3.set M B).set M B' = H3.set M B' := fun B B' => List.set_set ..
  rcases rds_nil ha3 with rfl | ⟨id, i, o4, els, rfl, hid⟩
  · clear ha3 hN3 hH3
    repeat' (first
      | ((with_reducible refine T_calm ?_ ?_); rfl)
      | with_reducible first
        | refine T_seq ?_
        | refine T_reg ?_
        | refine T_draw ?_
        | refine T_skip ?_
        | refine T_exit ?_
        | refine T_block ?_
        | refine T_cond_t rfl ?_
        | refine T_cond_f rfl ?_
        | refine wdW_cons rfl ?_
        | ((first | refine T_cond rfl (fun hc => ?_) (fun hc => ?_) | refine wguard_split (fun hc => ?_) (fun hc => ?_) | refine wguardX_split (fun hc => ?_) (fun hc => ?_)) <;> have hd := hc <;> (try simp (disch := omega) only [wrapI] at hd) <;> have hs := hd <;> (try simp only [beq_iff_eq, beq_eq_false_iff_ne, Bool.not_true, ne_eq] at hd) <;> (try simp at hs))
        | refine T_ret ?_
        | refine leave_of (.inr rfl) _ rfl ?_
        | refine leave_of (.inl rfl) _ rfl ?_
        | refine leaveA_of (.inr rfl) _ rfl ?_
        | refine leaveA_of (.inl rfl) _ rfl ?_
        | refine wif_intro ?_ (fun hc => ?_)
        | refine And.intro ?_ ?_
        | intro hc
      | simp (maxSteps := 4000000) only [wops_nil, wops_cons, wstep_none, wstep_some, wguard_true, wrun_mv, wrun_pick, wrun_bin, wrun_not, wrun_ext, wrun_load, wrun_store, wrun_faddr, wrun_len, wrun_alloc, get_mk, wop, aop, ev, look, put_some, put_none, writes, ores_some, ores_ite_none, ores_map, ores_bind, binV, thenK, boolV, intV, lenOf, value, cut, hget, putCells, AV.parts, isOne, mkAgg, tupOf, List.length_cons, List.length_nil, List.getElem?_cons_zero, List.getElem?_cons_succ, List.set_cons_zero, List.take_succ_cons, List.take_zero, List.take_nil, List.drop_succ_cons, List.drop_zero, List.drop_nil, List.nil_append, List.append_nil, List.append_assoc, List.replicate_zero, List.getD_cons_zero, List.all_cons, List.all_nil, Option.pure_def, Option.bind_eq_bind, Option.getD_some, Option.map_some, if_true, if_false, Nat.reduceEqDiff, Nat.reduceAdd, Nat.reduceLT, Nat.add_zero, Nat.zero_add, Nat.le_refl, reduceCtorEq, Bool.not_false, Bool.and_true, Bool.false_eq_true, eq_self, true_and, and_true, and_self, beq_self_eq_true, List.all_cons, ren, *]
      | simp (disch := omega) only [getD_ints, wrapI]
      | omega)
    all_goals first | (rcases hform with rfl | ⟨_, _, _, rfl⟩ <;> rfl) | rfl
  · have hne : id ≠ M := fun e => by rw [e, hM3] at hid; simp at hid
    have hsi : ∀ B : Blk, (H3.set M B)[id]? = some (.cells o4 true 0 els) := fun B => by rw [List.getElem?_set_ne (fun e => hne e.symm)]; exact hid
    clear ha3 hN3 hH3 hid
    repeat' (first
      | ((with_reducible refine T_calm ?_ ?_); rfl)
      | with_reducible first
        | refine T_seq ?_
        | refine T_reg ?_
        | refine T_draw ?_
        | refine T_skip ?_
        | refine T_exit ?_
        | refine T_block ?_
        | refine T_cond_t rfl ?_
        | refine T_cond_f rfl ?_
        | refine wdW_cons rfl ?_
        | ((first | refine T_cond rfl (fun hc => ?_) (fun hc => ?_) | refine wguard_split (fun hc => ?_) (fun hc => ?_) | refine wguardX_split (fun hc => ?_) (fun hc => ?_)) <;> have hd := hc <;> (try simp (disch := omega) only [wrapI] at hd) <;> have hs := hd <;> (try simp only [beq_iff_eq, beq_eq_false_iff_ne, Bool.not_true, ne_eq] at hd) <;> (try simp at hs))
        | refine T_ret ?_
        | refine leave_of (.inr rfl) _ rfl ?_
        | refine leave_of (.inl rfl) _ rfl ?_
        | refine leaveA_of (.inr rfl) _ rfl ?_
        | refine leaveA_of (.inl rfl) _ rfl ?_
        | refine wif_intro ?_ (fun hc => ?_)
        | refine And.intro ?_ ?_
        | intro hc
      | simp (maxSteps := 4000000) only [wops_nil, wops_cons, wstep_none, wstep_some, wguard_true, wrun_mv, wrun_pick, wrun_bin, wrun_not, wrun_ext, wrun_load, wrun_store, wrun_faddr, wrun_len, wrun_alloc, get_mk, wop, aop, ev, look, put_some, put_none, writes, ores_some, ores_ite_none, ores_map, ores_bind, binV, thenK, boolV, intV, lenOf, value, cut, hget, putCells, AV.parts, isOne, mkAgg, tupOf, List.length_cons, List.length_nil, List.getElem?_cons_zero, List.getElem?_cons_succ, List.set_cons_zero, List.take_succ_cons, List.take_zero, List.take_nil, List.drop_succ_cons, List.drop_zero, List.drop_nil, List.nil_append, List.append_nil, List.append_assoc, List.replicate_zero, List.getD_cons_zero, List.all_cons, List.all_nil, Option.pure_def, Option.bind_eq_bind, Option.getD_some, Option.map_some, if_true, if_false, Nat.reduceEqDiff, Nat.reduceAdd, Nat.reduceLT, Nat.add_zero, Nat.zero_add, Nat.le_refl, reduceCtorEq, Bool.not_false, Bool.and_true, Bool.false_eq_true, eq_self, true_and, and_true, and_self, beq_self_eq_true, List.all_cons, ren, *]
      | simp (disch := omega) only [getD_ints, wrapI]
      | omega)
    all_goals first | (rcases hform with rfl | ⟨_, _, _, rfl⟩ <;> rfl) | rfl
set_option maxHeartbeats 8000000 in
theorem k17y {L : List Int} {d : Int} (hc : checkF rows h = 0) (hD : fD rows h ≠ 0) (hL : L = dvL (fN rows h) (gfP (fN rows h) (fD rows h) (fN rows h).length)) (hd : d = (fD rows h).tdiv (gfP (fN rows h) (fD rows h) (fN rows h).length)) (hlh : h.length ≤ 25) (hln : nums.length ≤ 4) (a : AV) (N : Nat) (o o8 : Bool) (H : List Blk) (hH0 : H[0]? = some (bX o fn nums den)) (hHN : H[N]? = some (.cells o8 false 2 [[a, i64 d]])) (ha : Rds 1 H a (ints false L)) :
    T none Try.prog muts 135 0 c17r2 ⟨[(0, .sl nil 1 (rows.map fun r => [ints r.1 r.2])), (1, ints hn h), (5, .loc 0 0 0), (8, .loc N 0 0), (9, i64 0), (10, i64 (chkF rows h nums den))], H⟩ (leave 0 [ARes.tmp 6] fun r' H' => r' = bl true ∧ H' = []) := by
  have hp := plain_rws rows
  have o1 := (checkF_ok hc)
  have hNl := o1.N.1
  have hk2 := o1.hk
  have hLl : L.length ≤ 2 := by rw [hL, dvL_len]; omega
  have h80 := k80 (nil := nil) (hn := hn) (rows := rows) (ht0 := h) (by omega) (by omega)
  have h81 := k81 (nil := nil) (hn := hn) (fn := fn) (den := den) hc (show nums.length < 1000000 by omega)
  have h82 := k82 (nil := nil) (hn := hn) hc
  have h79 := k79 (nil := nil) (hn := hn) (fn := false) (nums := L) (den := d) hc (by omega)
  have hok := fit_ok hc hD
  rw [← hL, ← hd] at hok
  rw [hok] at h79
  rw [hc] at h80
  rw [if_neg hD] at h82
  unfold fitW at h82
  rw [← hL, ← hd] at h82
  have h48 := k48i false false L (by omega)
  generalize chkF rows h nums den = c at *
  have hcc : (c != c) = false := by simp
  have hpL : plainL [ints false L, ints false L] = true := by simp [plainL, plain]
  clear hc hD hL hd o1 hNl hok
  replace h80 := And.intro h80 trivial
  replace h81 := And.intro h81 trivial
  replace h82 := And.intro h82 trivial
  replace h79 := And.intro h79 trivial
  replace h48 := And.intro h48 trivial
  replace ha := And.intro ha trivial
  unfold c17r2
  repeat' (first
    | ((with_reducible refine T_calm ?_ ?_); rfl)
    | with_reducible first
      | refine T_seq ?_
      | refine T_reg ?_
      | refine T_draw ?_
      | refine T_skip ?_
      | refine T_exit ?_
      | refine T_block ?_
      | refine T_cond_t rfl ?_
      | refine T_cond_f rfl ?_
      | refine wdW_cons rfl ?_
      | ((first | refine T_cond rfl (fun hc => ?_) (fun hc => ?_) | refine wguard_split (fun hc => ?_) (fun hc => ?_) | refine wguardX_split (fun hc => ?_) (fun hc => ?_)) <;> have hd := hc <;> (try simp (disch := omega) only [wrapI] at hd) <;> have hs := hd <;> (try simp only [Bool.not_eq_true', Bool.not_eq_false', Bool.and_eq_true, Bool.and_eq_false_iff, Bool.or_eq_true, Bool.or_eq_false_iff, decide_eq_true_eq, decide_eq_false_iff_not, beq_iff_eq, bne_iff_ne, beq_eq_false_iff_ne, bne_eq_false_iff_eq, Bool.not_true, Bool.not_false, gt_iff_lt, ge_iff_le, Int.not_lt, Int.not_le, ne_eq, Decidable.not_not] at hd) <;> (try simp at hs))
      | refine T_ret ?_
      | refine leave_of (.inr rfl) _ rfl ?_
      | refine leave_of (.inl rfl) _ rfl ?_
      | refine leaveA_of (.inr rfl) _ rfl ?_
      | refine leaveA_of (.inl rfl) _ rfl ?_
      | refine wif_intro ?_ (fun hc => ?_)
      | refine And.intro ?_ ?_
      | intro hc
    | simp (maxSteps := 4000000) only [wops_cons, wstep_none, wrun_call, wrun_mv, wop, aop, ev, look, put_some, writes, ores_some, List.map_cons, List.map_nil, List.append_nil, List.replicate_zero, if_true, if_false, Nat.reduceEqDiff, Nat.zero_ne_one, reduceCtorEq, eq_self, *]
    | simp (disch := omega) only [getD_ints, wrapI]
    | omega)
  refine wcall_E0 h80.1 rfl rfl (by simp [plainL, plain, plain_rws]) ?_
  intro H1 hx
  obtain ⟨o1, hH1⟩ := hx.cell hH0
  obtain ⟨p1, hN1⟩ := hx.cell hHN
  replace ha := And.intro (ha.1.ext hx) trivial
  clear hx hH0 hHN
  repeat' (first
    | ((with_reducible refine T_calm ?_ ?_); rfl)
    | with_reducible first
      | refine T_seq ?_
      | refine T_reg ?_
      | refine T_draw ?_
      | refine T_skip ?_
      | refine T_exit ?_
      | refine T_block ?_
      | refine T_cond_t rfl ?_
      | refine T_cond_f rfl ?_
      | refine wdW_cons rfl ?_
      | ((first | refine T_cond rfl (fun hc => ?_) (fun hc => ?_) | refine wguard_split (fun hc => ?_) (fun hc => ?_) | refine wguardX_split (fun hc => ?_) (fun hc => ?_)) <;> have hd := hc <;> (try simp (disch := omega) only [wrapI] at hd) <;> have hs := hd <;> (try simp only [Bool.not_eq_true', Bool.not_eq_false', Bool.and_eq_true, Bool.and_eq_false_iff, Bool.or_eq_true, Bool.or_eq_false_iff, decide_eq_true_eq, decide_eq_false_iff_not, beq_iff_eq, bne_iff_ne, beq_eq_false_iff_ne, bne_eq_false_iff_eq, Bool.not_true, Bool.not_false, gt_iff_lt, ge_iff_le, Int.not_lt, Int.not_le, ne_eq, Decidable.not_not] at hd) <;> (try simp at hs))
      | refine T_ret ?_
      | refine leave_of (.inr rfl) _ rfl ?_
      | refine leave_of (.inl rfl) _ rfl ?_
      | refine leaveA_of (.inr rfl) _ rfl ?_
      | refine leaveA_of (.inl rfl) _ rfl ?_
      | refine wif_intro ?_ (fun hc => ?_)
      | refine And.intro ?_ ?_
      | intro hc
    | simp (maxSteps := 4000000) only [wops_nil, wops_cons, wstep_none, wrun_call, wrun_mv, wrun_bin, wrun_load, wop, aop, ev, look, put_some, writes, ores_some, binV, thenK, value, cut, hget, toLits, mkAgg, List.map_cons, List.map_nil, List.length_cons, List.length_nil, List.take_succ_cons, List.take_nil, List.drop_zero, List.append_nil, List.replicate_zero, List.getD_cons_zero, Option.getD_some, Option.map_some, if_true, if_false, Nat.reduceEqDiff, Nat.reduceAdd, Nat.zero_add, Nat.zero_ne_one, reduceCtorEq, eq_self, *]
    | simp (disch := omega) only [getD_ints, wrapI]
    | omega)
  refine wcall_E0 h81.1 rfl rfl (by simp [plainL, plain, plain_rws]) ?_
  intro H2 hx
  obtain ⟨o2, hH2⟩ := hx.cell hH1
  obtain ⟨p2, hN2⟩ := hx.cell hN1
  replace ha := And.intro (ha.1.ext hx) trivial
  clear hx hH1 hN1
  have hatN := at_ap hN2
  repeat' (first
    | ((with_reducible refine T_calm ?_ ?_); rfl)
    | with_reducible first
      | refine T_seq ?_
      | refine T_reg ?_
      | refine T_draw ?_
      | refine T_skip ?_
      | refine T_exit ?_
      | refine T_block ?_
      | refine T_cond_t rfl ?_
      | refine T_cond_f rfl ?_
      | refine wdW_cons rfl ?_
      | ((first | refine T_cond rfl (fun hc => ?_) (fun hc => ?_) | refine wguard_split (fun hc => ?_) (fun hc => ?_) | refine wguardX_split (fun hc => ?_) (fun hc => ?_)) <;> have hd := hc <;> (try simp (disch := omega) only [wrapI] at hd) <;> have hs := hd <;> (try simp only [Bool.not_eq_true', Bool.not_eq_false', Bool.and_eq_true, Bool.and_eq_false_iff, Bool.or_eq_true, Bool.or_eq_false_iff, decide_eq_true_eq, decide_eq_false_iff_not, beq_iff_eq, bne_iff_ne, beq_eq_false_iff_ne, bne_eq_false_iff_eq, Bool.not_true, Bool.not_false, gt_iff_lt, ge_iff_le, Int.not_lt, Int.not_le, ne_eq, Decidable.not_not] at hd) <;> (try simp at hs))
      | refine T_ret ?_
      | refine leave_of (.inr rfl) _ rfl ?_
      | refine leave_of (.inl rfl) _ rfl ?_
      | refine leaveA_of (.inr rfl) _ rfl ?_
      | refine leaveA_of (.inl rfl) _ rfl ?_
      | refine wif_intro ?_ (fun hc => ?_)
      | refine And.intro ?_ ?_
      | intro hc
    | simp (maxSteps := 4000000) only [wops_nil, wops_cons, wstep_none, wrun_call, wrun_mv, wrun_bin, wop, aop, ev, look, put_some, writes, ores_some, binV, thenK, List.map_cons, List.map_nil, List.replicate_zero, List.replicate_succ, Option.map_some, if_true, if_false, Nat.reduceEqDiff, Nat.zero_ne_one, reduceCtorEq, eq_self, *]
    | simp (disch := omega) only [getD_ints, wrapI]
    | omega)
  refine wcall_F2 h82.1 rfl (by simp [plainL, plain, plain_rws]) ?_
  intro v1 v2 H3 hx hR h1 h2
  have := h2.lit; subst this
  obtain ⟨a2, rfl, ha2⟩ := h1.agg2
  have hM3 := hR H2.length (by rw [List.getElem?_append_right (Nat.le_refl _), Nat.sub_self]; rfl)
  obtain ⟨p3, hN3⟩ := hx.cell (hatN _)
  have ha3 := (ha.1.app [Blk.resv]).ext hx
  have hform := ha2.forms
  have hnl := ha3.nolit
  have hNlt := (List.getElem?_eq_some_iff.1 hN2).1
  have hMlt := (List.getElem?_eq_some_iff.1 hM3).1
  generalize H2.length = M at *
  clear hx hR h1 h2 ha hatN hH2 hN2
  have hs1 : ∀ B : Blk, (H3.set M B)[M]? = some B := fun B => List.getElem?_set_self hMlt
  have hsN : ∀ B : Blk, (H3.set M B)[N]? = some (.cells p3 false 2 [[a, i64 d]]) := fun B => by rw [List.getElem?_set_ne (by omega)]; exact hN3
  have hss : ∀ B B' : Blk, (H3.set M B).set M B' = H3.set M B' := fun B B' => List.set_set ..
  have ha4 := And.intro (fun B => ha3.ext (Ext.set_resv hM3 B)) trivial
  have ha5 := And.intro (fun B => ha2.ext (Ext.set_resv hM3 B)) trivial
  clear ha3 hN3 ha2
  repeat' (first
    | ((with_reducible refine T_calm ?_ ?_); rfl)
    | with_reducible first
      | refine T_seq ?_
      | refine T_reg ?_
      | refine T_draw ?_
      | refine T_skip ?_
      | refine T_exit ?_
      | refine T_block ?_
      | refine T_cond_t rfl ?_
      | refine T_cond_f rfl ?_
      | refine wdW_cons rfl ?_
      | ((first | refine T_cond rfl (fun hc => ?_) (fun hc => ?_) | refine wguard_split (fun hc => ?_) (fun hc => ?_) | refine wguardX_split (fun hc => ?_) (fun hc => ?_)) <;> have hd := hc <;> (try simp (disch := omega) only [wrapI] at hd) <;> have hs := hd <;> (try simp only [Bool.not_eq_true', Bool.not_eq_false', Bool.and_eq_true, Bool.and_eq_false_iff, Bool.or_eq_true, Bool.or_eq_false_iff, decide_eq_true_eq, decide_eq_false_iff_not, beq_iff_eq, bne_iff_ne, beq_eq_false_iff_ne, bne_eq_false_iff_eq, Bool.not_true, Bool.not_false, gt_iff_lt, ge_iff_le, Int.not_lt, Int.not_le, ne_eq, Decidable.not_not] at hd) <;> (try simp at hs))
      | refine T_ret ?_
      | refine leave_of (.inr rfl) _ rfl ?_
      | refine leave_of (.inl rfl) _ rfl ?_
      | refine leaveA_of (.inr rfl) _ rfl ?_
      | refine leaveA_of (.inl rfl) _ rfl ?_
      | refine wif_intro ?_ (fun hc => ?_)
      | refine And.intro ?_ ?_
      | intro hc
    | simp (maxSteps := 4000000) only [wops_nil, wops_cons, wstep_none, wstep_some, wguard_true, wrun_call, wrun_mv, wrun_pick, wrun_bin, wrun_not, wrun_ext, wrun_load, wrun_store, wrun_faddr, wrun_alloc, wop, aop, ev, look, put_some, put_none, writes, ores_some, ores_ite_none, binV, thenK, boolV, value, cut, hget, putCells, AV.parts, isOne, mkAgg, List.map_cons, List.map_nil, List.length_cons, List.length_nil, List.getElem?_cons_zero, List.getElem?_cons_succ, List.set_cons_zero, List.take_succ_cons, List.take_zero, List.take_nil, List.drop_succ_cons, List.drop_zero, List.drop_nil, List.nil_append, List.append_nil, List.append_assoc, List.replicate_zero, List.getD_cons_zero, List.all_cons, List.all_nil, Option.getD_some, Option.map_some, if_true, if_false, Nat.reduceEqDiff, Nat.reduceAdd, Nat.reduceLT, Nat.add_zero, Nat.zero_add, Nat.le_refl, reduceCtorEq, Bool.not_true, Bool.and_true, Bool.false_eq_true, eq_self, true_and, and_true, and_self, beq_self_eq_true, List.all_cons, *]
    | simp (disch := omega) only [getD_ints, wrapI]
    | omega)
  all_goals try (rcases hform with rfl | ⟨_, _, _, rfl⟩ <;> rfl)
  clear hform
  refine wcall_E0 h48.1 rfl (rLL (ha4.1 _) (ha5.1 _) (by omega) (by omega)) hpL ?_
  intro H4 hx
  obtain ⟨p4, hN4⟩ := hx.cell (hsN _)
  have ha6 := And.intro ((ha4.1 _).ext hx) trivial
  clear hx ha4 ha5 hs1 hsN hss
  repeat' (first
    | ((with_reducible refine T_calm ?_ ?_); rfl)
    | with_reducible first
      | refine T_seq ?_
      | refine T_reg ?_
      | refine T_draw ?_
      | refine T_skip ?_
      | refine T_exit ?_
      | refine T_block ?_
      | refine T_cond_t rfl ?_
      | refine T_cond_f rfl ?_
      | refine wdW_cons rfl ?_
      | ((first | refine T_cond rfl (fun hc => ?_) (fun hc => ?_) | refine wguard_split (fun hc => ?_) (fun hc => ?_) | refine wguardX_split (fun hc => ?_) (fun hc => ?_)) <;> have hd := hc <;> (try simp (disch := omega) only [wrapI] at hd) <;> have hs := hd <;> (try simp only [Bool.not_eq_true', Bool.not_eq_false', Bool.and_eq_true, Bool.and_eq_false_iff, Bool.or_eq_true, Bool.or_eq_false_iff, decide_eq_true_eq, decide_eq_false_iff_not, beq_iff_eq, bne_iff_ne, beq_eq_false_iff_ne, bne_eq_false_iff_eq, Bool.not_true, Bool.not_false, gt_iff_lt, ge_iff_le, Int.not_lt, Int.not_le, ne_eq, Decidable.not_not] at hd) <;> (try simp at hs))
      | refine T_ret ?_
      | refine leave_of (.inr rfl) _ rfl ?_
      | refine leave_of (.inl rfl) _ rfl ?_
      | refine leaveA_of (.inr rfl) _ rfl ?_
      | refine leaveA_of (.inl rfl) _ rfl ?_
      | refine wif_intro ?_ (fun hc => ?_)
      | refine And.intro ?_ ?_
      | intro hc
    | simp (maxSteps := 4000000) only [wops_cons, wstep_none, wstep_some, wguard_true, wrun_call, wrun_mv, wrun_pick, wrun_load, wop, aop, ev, look, put_some, writes, ores_some, value, cut, hget, mkAgg, List.map_cons, List.map_nil, List.length_cons, List.length_nil, List.take_succ_cons, List.take_nil, List.drop_zero, List.getD_cons_zero, Option.getD_some, Option.map_some, if_true, if_false, Nat.reduceEqDiff, Nat.reduceAdd, Nat.zero_add, Nat.zero_ne_one, reduceCtorEq, eq_self, *]
    | simp (disch := omega) only [getD_ints, wrapI]
    | omega)
  refine wcall_E0 h79.1 rfl (rL3 (d1 := 6) (d2 := 6) (rds_self hp) (rds_self (by simp)) (rds_agg _ ha6.1) (by omega) (by omega) (by omega)) (by simp [plainL, plain, plain_rws]) ?_
  intro H5 hx
  clear hx ha6
  repeat' (first
    | ((with_reducible refine T_calm ?_ ?_); rfl)
    | with_reducible first
      | refine T_seq ?_
      | refine T_reg ?_
      | refine T_draw ?_
      | refine T_skip ?_
      | refine T_exit ?_
      | refine T_block ?_
      | refine T_cond_t rfl ?_
      | refine T_cond_f rfl ?_
      | refine wdW_cons rfl ?_
      | ((first | refine T_cond rfl (fun hc => ?_) (fun hc => ?_) | refine wguard_split (fun hc => ?_) (fun hc => ?_) | refine wguardX_split (fun hc => ?_) (fun hc => ?_)) <;> have hd := hc <;> (try simp (disch := omega) only [wrapI] at hd) <;> have hs := hd <;> (try simp only [Bool.not_eq_true', Bool.not_eq_false', Bool.and_eq_true, Bool.and_eq_false_iff, Bool.or_eq_true, Bool.or_eq_false_iff, decide_eq_true_eq, decide_eq_false_iff_not, beq_iff_eq, bne_iff_ne, beq_eq_false_iff_ne, bne_eq_false_iff_eq, Bool.not_true, Bool.not_false, gt_iff_lt, ge_iff_le, Int.not_lt, Int.not_le, ne_eq, Decidable.not_not] at hd) <;> (try simp at hs))
      | refine T_ret ?_
      | refine leave_of (.inr rfl) _ rfl ?_
      | refine leave_of (.inl rfl) _ rfl ?_
      | refine leaveA_of (.inr rfl) _ rfl ?_
      | refine leaveA_of (.inl rfl) _ rfl ?_
      | refine wif_intro ?_ (fun hc => ?_)
      | refine And.intro ?_ ?_
      | intro hc
    | simp (maxSteps := 4000000) only [wops_nil, wops_cons, wstep_none, wstep_some, wguard_true, wrun_mv, wrun_pick, wrun_bin, get_mk, wop, aop, ev, look, put_some, writes, ores_some, binV, thenK, tupOf, Option.map_some, if_true, if_false, Nat.reduceEqDiff, reduceCtorEq, eq_self, beq_self_eq_true, ren, *]
    | simp (disch := omega) only [getD_ints, wrapI]
    | omega)
  all_goals first | rfl
set_option maxHeartbeats 8000000 in
theorem k17 (nil hn fn : Bool) (rows : List (Bool × List Int)) (h nums : List Int) (den : Int) : Fn Try.prog 17 [.sl nil 1 (rows.map fun r => [ints r.1 r.2]), ints hn h, .agg [ints fn nums, i64 den]] (bl true) [] := by
  cases hf : fewF rows h nums with
  | false => exact k17f hf
  | true =>
    refine k17b hf ?_
    unfold fewF at hf
    simp only [Bool.and_eq_true, decide_eq_true_eq, Bool.not_eq_true'] at hf
    obtain ⟨⟨⟨f1, f2⟩, f3⟩, f4⟩ := hf
    have hr : ∀ t, t < rows.length → (rowN rows t).2.length ≤ 25 := fun t ht => by have := any_rowN f4 ht; simpa using this
    have hcp := k78 (nil := nil) (rows := rows) (by omega) (fun t ht => by have := hr t ht; omega)
    obtain ⟨b, n, E, hW, hE, h135⟩ := cp_casesF rows h f1 hr f2
    by_cases hc : checkF rows h = 0
    · have hk := (checkF_ok hc).hk
      have hc2 : checkF (cpR rows) h = 0 := by rw [cp_checkF]; exact hc
      have h79 := k79 (nil := false) (hn := false) (fn := false) (rows := cpR rows) (nums := nums) (den := den) hc2 (by omega)
      have h77 := k77 (nil := false) (hn := false) (rows := cpR rows) hc2
      rw [cp_chkF] at h79
      unfold fitW at h77
      rw [cp_fN, cp_fD] at h77
      rw [cp_W (by omega)] at hcp
      by_cases hD : fD rows h = 0
      · rw [if_pos hD] at h77
        exact k17s hcp (plain_rws _) f2 f3 h77 h79 (fun a N o o8 H h1 h2 h3 => k17z hc hD f2 f3 a N o o8 H h1 h2 h3)
      · rw [if_neg hD] at h77
        exact k17s hcp (plain_rws _) f2 f3 h77 h79 (fun a N o o8 H h1 h2 h3 => k17y hc hD rfl rfl f2 f3 a N o o8 H h1 h2 h3)
    · rw [hW] at hcp
      have h80 := k80 (nil := nil) (hn := hn) (rows := rows) (ht0 := h) (by omega) (by omega)
      exact k17s hcp hE f2 f3 (k77e hE h135 hc) (k79e hE h135 hc) (fun a N o o8 H h1 h2 h3 => k17x hc h80 a N o o8 H h1 h2 h3)
end
end Go.Abs
