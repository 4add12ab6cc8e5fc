import Derived.Test.YtodheeifecoebaaK237x
set_option linter.all false
set_option linter.unusedVariables false
set_option linter.unusedSimpArgs false
set_option linter.unusedSectionVars false
namespace Go.Abs
open Go.Proofs
section
variable {nil hn fn : Bool} {rows : List (Bool × List Int)} {h nums : List Int} {den : Int}
/-! up to what the two programs say -/
set_option maxHeartbeats 8000000 in
theorem k17s {b : Bool} {n : Nat} {E W : List (List AV)} {wn : Bool} {wz : Nat} {e79 e77 d : Int} (hcp : Gv 2 Try.prog 78 [.sl nil 1 (rows.map fun r => [ints r.1 r.2])] [.sl b n E]) (hE : plainR E = true) (hlh : h.length ≤ 25) (hln : nums.length ≤ 4)
    (h77 : Gv 2 Try.prog 77 [.sl b n E, ints false h] [.agg [.sl wn wz W, i64 d], i64 e77])
    (h79 : Fn Try.prog 79 [.sl b n E, ints false h, .agg [ints false nums, i64 den]] (i64 e79) [])
    (hT : ∀ (a : AV) (N : Nat) (o o8 : Bool) (H : List Blk), H[0]? = some (bX o fn nums den) → H[N]? = some (.cells o8 false 2 [[a, i64 d]]) → Rds 1 H a (.sl wn wz W) →
      T none Try.prog muts 135 0 c17r2 ⟨[(0, .sl nil 1 (rows.map fun r => [ints r.1 r.2])), (1, ints hn h), (5, .loc 0 0 0), (8, .loc N 0 0), (9, i64 e77), (10, i64 e79)], H⟩ (leave 0 [ARes.tmp 6] fun r' H' => r' = bl true ∧ H' = [])) :
    T none Try.prog muts 135 0 c17r1 ⟨[(0, .sl nil 1 (rows.map fun r => [ints r.1 r.2])), (1, ints hn h), (5, .loc 0 0 0)], [bX true fn nums den]⟩ (leave 0 [ARes.tmp 6] fun r' H' => r' = bl true ∧ H' = []) := by
  have hp := plain_rws rows
  have h28 := k28 hn h (by omega)
  have h28n := k28 fn nums (by omega)
  have g28 := Gv.of_fn 1 h28 [.lsl 0 0 h.length] (ws := [ints false h]) rfl (by simp only [List.map_cons, List.map_nil]; rw [rfy_iB (d := 0) (own := true) rfl rfl]) (by simp [plainL, plain])
  clear h28
  have hpE : plainL [.sl b n E, ints false h] = true := by simp [plainL, plain, hE]
  have hpF : plainL [.sl b n E, ints false h, .agg [ints false nums, i64 den]] = true := by simp [plainL, plain, hE]
  replace hcp := And.intro hcp trivial
  replace h77 := And.intro h77 trivial
  replace h79 := And.intro h79 trivial
  replace g28 := And.intro g28 trivial
  replace h28n := And.intro h28n trivial
  replace hT := And.intro hT trivial
  unfold c17r1
  repeat' (first
    | ((with_reducible refine T_calm ?_ ?_); rfl)
    | with_reducible first
      | refine T_seq ?_
      | refine T_reg ?_
      | refine T_draw ?_
      | refine T_skip ?_
      | refine T_exit ?_
      | refine T_block ?_
      | refine T_cond_t rfl ?_
      | refine T_cond_f rfl ?_
      | refine wdW_cons rfl ?_
      | ((first | refine T_cond rfl (fun hc => ?_) (fun hc => ?_) | refine wguard_split (fun hc => ?_) (fun hc => ?_) | refine wguardX_split (fun hc => ?_) (fun hc => ?_)) <;> have hd := hc <;> (try simp (disch := omega) only [wrapI] at hd) <;> have hs := hd <;> (try simp only [Bool.not_eq_true', Bool.not_eq_false', Bool.and_eq_true, Bool.and_eq_false_iff, Bool.or_eq_true, Bool.or_eq_false_iff, decide_eq_true_eq, decide_eq_false_iff_not, beq_iff_eq, bne_iff_ne, beq_eq_false_iff_ne, bne_eq_false_iff_eq, Bool.not_true, Bool.not_false, gt_iff_lt, ge_iff_le, Int.not_lt, Int.not_le, ne_eq, Decidable.not_not] at hd) <;> (try simp at hs))
      | refine T_ret ?_
      | refine leave_of (.inr rfl) _ rfl ?_
      | refine leave_of (.inl rfl) _ rfl ?_
      | refine leaveA_of (.inr rfl) _ rfl ?_
      | refine leaveA_of (.inl rfl) _ rfl ?_
      | refine wif_intro ?_ (fun hc => ?_)
      | refine And.intro ?_ ?_
      | intro hc
    | simp (maxSteps := 4000000) only [wops_cons, wstep_none, wrun_call, wrun_mv, wop, aop, ev, look, put_some, writes, ores_some, List.map_cons, List.map_nil, List.length_cons, List.length_nil, List.cons_append, List.nil_append, List.replicate_zero, List.replicate_succ, if_true, if_false, Nat.reduceEqDiff, Nat.zero_add, reduceCtorEq, eq_self, *]
    | simp (disch := omega) only [getD_ints, wrapI]
    | omega)
  refine wcall_F1 hcp.1 rfl (by simp [plainL, plain, plain_rws]) ?_
  intro v44 H1 hx hR h44
  have hN1 := hR 1 rfl
  obtain ⟨o1, hH1⟩ := hx.cell (id := 0) rfl
  replace h44 := And.intro h44 trivial
  clear hx hR
  repeat' (first
    | ((with_reducible refine T_calm ?_ ?_); rfl)
    | with_reducible first
      | refine T_seq ?_
      | refine T_reg ?_
      | refine T_draw ?_
      | refine T_skip ?_
      | refine T_exit ?_
      | refine T_block ?_
      | refine T_cond_t rfl ?_
      | refine T_cond_f rfl ?_
      | refine wdW_cons rfl ?_
      | ((first | refine T_cond rfl (fun hc => ?_) (fun hc => ?_) | refine wguard_split (fun hc => ?_) (fun hc => ?_) | refine wguardX_split (fun hc => ?_) (fun hc => ?_)) <;> have hd := hc <;> (try simp (disch := omega) only [wrapI] at hd) <;> have hs := hd <;> (try simp only [Bool.not_eq_true', Bool.not_eq_false', Bool.and_eq_true, Bool.and_eq_false_iff, Bool.or_eq_true, Bool.or_eq_false_iff, decide_eq_true_eq, decide_eq_false_iff_not, beq_iff_eq, bne_iff_ne, beq_eq_false_iff_ne, bne_eq_false_iff_eq, Bool.not_true, Bool.not_false, gt_iff_lt, ge_iff_le, Int.not_lt, Int.not_le, ne_eq, Decidable.not_not] at hd) <;> (try simp at hs))
      | refine T_ret ?_
      | refine leave_of (.inr rfl) _ rfl ?_
      | refine leave_of (.inl rfl) _ rfl ?_
      | refine leaveA_of (.inr rfl) _ rfl ?_
      | refine leaveA_of (.inl rfl) _ rfl ?_
      | refine wif_intro ?_ (fun hc => ?_)
      | refine And.intro ?_ ?_
      | intro hc
    | simp (maxSteps := 4000000) only [wops_cons, wstep_none, wrun_call, wrun_mv, wop, aop, ev, look, put_some, writes, ores_some, List.map_cons, List.map_nil, if_true, if_false, Nat.reduceEqDiff, Nat.zero_ne_one, reduceCtorEq, eq_self, *]
    | simp (disch := omega) only [getD_ints, wrapI]
    | omega)
  refine wcall_F1 g28.1 rfl (by simp [plainL, plain]) ?_
  intro v46 H2 hx hR h46
  have hN2 := hR 1 hN1
  obtain ⟨o2, hH2⟩ := hx.cell hH1
  replace h44 := And.intro (h44.1.ext hx) trivial
  replace h46 := And.intro h46 trivial
  clear hx hR hN1 hH1
  repeat' (first
    | ((with_reducible refine T_calm ?_ ?_); rfl)
    | with_reducible first
      | refine T_seq ?_
      | refine T_reg ?_
      | refine T_draw ?_
      | refine T_skip ?_
      | refine T_exit ?_
      | refine T_block ?_
      | refine T_cond_t rfl ?_
      | refine T_cond_f rfl ?_
      | refine wdW_cons rfl ?_
      | ((first | refine T_cond rfl (fun hc => ?_) (fun hc => ?_) | refine wguard_split (fun hc => ?_) (fun hc => ?_) | refine wguardX_split (fun hc => ?_) (fun hc => ?_)) <;> have hd := hc <;> (try simp (disch := omega) only [wrapI] at hd) <;> have hs := hd <;> (try simp only [Bool.not_eq_true', Bool.not_eq_false', Bool.and_eq_true, Bool.and_eq_false_iff, Bool.or_eq_true, Bool.or_eq_false_iff, decide_eq_true_eq, decide_eq_false_iff_not, beq_iff_eq, bne_iff_ne, beq_eq_false_iff_ne, bne_eq_false_iff_eq, Bool.not_true, Bool.not_false, gt_iff_lt, ge_iff_le, Int.not_lt, Int.not_le, ne_eq, Decidable.not_not] at hd) <;> (try simp at hs))
      | refine T_ret ?_
      | refine leave_of (.inr rfl) _ rfl ?_
      | refine leave_of (.inl rfl) _ rfl ?_
      | refine leaveA_of (.inr rfl) _ rfl ?_
      | refine leaveA_of (.inl rfl) _ rfl ?_
      | refine wif_intro ?_ (fun hc => ?_)
      | refine And.intro ?_ ?_
      | intro hc
    | simp (maxSteps := 4000000) only [wops_cons, wstep_none, wrun_call, ev, look, put_some, List.map_cons, List.map_nil, if_true, if_false, Nat.reduceEqDiff, reduceCtorEq, eq_self, *]
    | simp (disch := omega) only [getD_ints, wrapI]
    | omega)
  refine wcall_F2 h77.1 (rLL h44.1 h46.1 (by omega) (by omega)) hpE ?_
  intro v48 v49 H3 hx hR h48 h49
  have hN3 := hR 1 hN2
  obtain ⟨o3, hH3⟩ := hx.cell hH2
  have := h49.lit; subst this
  obtain ⟨a, rfl, ha⟩ := h48.agg2
  clear hx hR hN2 hH2 h44 h46 h49 h48
  have hform := ha.forms
  have hnl := ha.nolit
  have hNlt := (List.getElem?_eq_some_iff.1 hN3).1
  have hs1 : ∀ B : Blk, (H3.set 1 B)[1]? = some B := fun B => List.getElem?_set_self hNlt
  have hs0 : ∀ B : Blk, (H3.set 1 B)[0]? = some (bX o3 fn nums den) := fun B => by rw [List.getElem?_set_ne (by omega)]; exact hH3
  have hss : ∀ B B' : Blk, (H3.set 1 B).set 1 B' = H3.set 1 B' := fun B B' => List.set_set ..
  have hae : ∀ B, Rds 1 (H3.set 1 B) a (.sl wn wz W) := fun B => ha.ext (Ext.set_resv hN3 B)
  replace hae := And.intro hae trivial
  have hlen : ∀ B : Blk, (H3.set 1 B).length = H3.length := fun B => List.length_set ..
  have hlt0 : 0 < H3.length := by omega
  clear ha
  repeat' (first
    | ((with_reducible refine T_calm ?_ ?_); rfl)
    | with_reducible first
      | refine T_seq ?_
      | refine T_reg ?_
      | refine T_draw ?_
      | refine T_skip ?_
      | refine T_exit ?_
      | refine T_block ?_
      | refine T_cond_t rfl ?_
      | refine T_cond_f rfl ?_
      | refine wdW_cons rfl ?_
      | ((first | refine T_cond rfl (fun hc => ?_) (fun hc => ?_) | refine wguard_split (fun hc => ?_) (fun hc => ?_) | refine wguardX_split (fun hc => ?_) (fun hc => ?_)) <;> have hd := hc <;> (try simp (disch := omega) only [wrapI] at hd) <;> have hs := hd <;> (try simp only [Bool.not_eq_true', Bool.not_eq_false', Bool.and_eq_true, Bool.and_eq_false_iff, Bool.or_eq_true, Bool.or_eq_false_iff, decide_eq_true_eq, decide_eq_false_iff_not, beq_iff_eq, bne_iff_ne, beq_eq_false_iff_ne, bne_eq_false_iff_eq, Bool.not_true, Bool.not_false, gt_iff_lt, ge_iff_le, Int.not_lt, Int.not_le, ne_eq, Decidable.not_not] at hd) <;> (try simp at hs))
      | refine T_ret ?_
      | refine leave_of (.inr rfl) _ rfl ?_
      | refine leave_of (.inl rfl) _ rfl ?_
      | refine leaveA_of (.inr rfl) _ rfl ?_
      | refine leaveA_of (.inl rfl) _ rfl ?_
      | refine wif_intro ?_ (fun hc => ?_)
      | refine And.intro ?_ ?_
      | intro hc
    | simp (maxSteps := 4000000) only [wops_nil, wops_cons, wstep_none, wrun_mv, wrun_ext, wrun_store, wrun_alloc, wrunX_mv, wstepX_none, wrunX_call, wop, aop, ev, look, put_some, put_none, writes, ores_some, ores_ite_none, thenK, hget, putCells, AV.parts, isOne, List.map_cons, List.map_nil, List.length_cons, List.length_nil, List.getElem?_cons_zero, List.getElem?_cons_succ, List.set_cons_zero, List.take_zero, List.drop_succ_cons, List.drop_nil, List.nil_append, List.append_nil, List.append_assoc, List.replicate_zero, List.getD_cons_zero, List.all_cons, List.all_nil, Option.getD_some, Option.map_some, if_true, if_false, Nat.reduceEqDiff, Nat.reduceAdd, Nat.reduceLT, Nat.add_zero, Nat.zero_add, Nat.le_refl, reduceCtorEq, Bool.and_true, eq_self, true_and, and_true, and_self, List.all_cons, *]
    | simp (disch := omega) only [getD_ints, wrapI]
    | (with_reducible refine wdW_cons ?_ ?_; (next => simp [chk, foot, compatB, argsOf, St.get, target, ev, look, lidsL, hget, kind, wids, tops, opds, topId, hlen, hlt0]; done))
    | omega)
  all_goals try (rcases hform with rfl | ⟨_, _, _, rfl⟩ <;> rfl)
  clear hform
  refine wcallX_E1 hcp.1 rfl (by simp [plainL, plain, plain_rws]) (by simp only [plain, hE]) (rfy_sl ..) ?_
  intro v51 H4 hx h51
  obtain ⟨o4, hH4⟩ := hx.cell (hs0 _)
  obtain ⟨p4, hN4⟩ := hx.cell (hs1 _)
  have ha := And.intro ((hae.1 _).ext hx) trivial
  replace h51 := And.intro h51 trivial
  clear hx hae hs0 hs1 hss hN3 hH3 hNlt
  have hlt4 : 0 < H4.length := (List.getElem?_eq_some_iff.1 hH4).1
  repeat' (first
    | ((with_reducible refine T_calm ?_ ?_); rfl)
    | with_reducible first
      | refine T_seq ?_
      | refine T_reg ?_
      | refine T_draw ?_
      | refine T_skip ?_
      | refine T_exit ?_
      | refine T_block ?_
      | refine T_cond_t rfl ?_
      | refine T_cond_f rfl ?_
      | refine wdW_cons rfl ?_
      | ((first | refine T_cond rfl (fun hc => ?_) (fun hc => ?_) | refine wguard_split (fun hc => ?_) (fun hc => ?_) | refine wguardX_split (fun hc => ?_) (fun hc => ?_)) <;> have hd := hc <;> (try simp (disch := omega) only [wrapI] at hd) <;> have hs := hd <;> (try simp only [Bool.not_eq_true', Bool.not_eq_false', Bool.and_eq_true, Bool.and_eq_false_iff, Bool.or_eq_true, Bool.or_eq_false_iff, decide_eq_true_eq, decide_eq_false_iff_not, beq_iff_eq, bne_iff_ne, beq_eq_false_iff_ne, bne_eq_false_iff_eq, Bool.not_true, Bool.not_false, gt_iff_lt, ge_iff_le, Int.not_lt, Int.not_le, ne_eq, Decidable.not_not] at hd) <;> (try simp at hs))
      | refine T_ret ?_
      | refine leave_of (.inr rfl) _ rfl ?_
      | refine leave_of (.inl rfl) _ rfl ?_
      | refine leaveA_of (.inr rfl) _ rfl ?_
      | refine leaveA_of (.inl rfl) _ rfl ?_
      | refine wif_intro ?_ (fun hc => ?_)
      | refine And.intro ?_ ?_
      | intro hc
    | simp (maxSteps := 4000000) only [wrun_mv, wrunX_mv, wstepX_none, wrunX_call, wop, aop, ev, look, put_some, writes, ores_some, List.map_cons, List.map_nil, if_true, if_false, Nat.reduceEqDiff, Nat.zero_ne_one, reduceCtorEq, eq_self, *]
    | simp (disch := omega) only [getD_ints, wrapI]
    | (with_reducible refine wdW_cons ?_ ?_; (next => simp [chk, foot, compatB, argsOf, St.get, target, ev, look, lidsL, hget, kind, wids, tops, opds, topId, hlen, hlt0, hlt4]; done))
    | omega)
  refine wcallX_E1 g28.1 rfl (by simp [plainL, plain]) (by simp [plain]) (rfy_sl ..) ?_
  intro v53 H5 hx h53
  obtain ⟨o5, hH5⟩ := hx.cell hH4
  obtain ⟨p5, hN5⟩ := hx.cell hN4
  replace ha := And.intro (ha.1.ext hx) trivial
  replace h51 := And.intro (h51.1.ext hx) trivial
  replace h53 := And.intro h53 trivial
  clear hx hH4 hN4
  have hlt5 : 0 < H5.length := (List.getElem?_eq_some_iff.1 hH5).1
  repeat' (first
    | ((with_reducible refine T_calm ?_ ?_); rfl)
    | with_reducible first
      | refine T_seq ?_
      | refine T_reg ?_
      | refine T_draw ?_
      | refine T_skip ?_
      | refine T_exit ?_
      | refine T_block ?_
      | refine T_cond_t rfl ?_
      | refine T_cond_f rfl ?_
      | refine wdW_cons rfl ?_
      | ((first | refine T_cond rfl (fun hc => ?_) (fun hc => ?_) | refine wguard_split (fun hc => ?_) (fun hc => ?_) | refine wguardX_split (fun hc => ?_) (fun hc => ?_)) <;> have hd := hc <;> (try simp (disch := omega) only [wrapI] at hd) <;> have hs := hd <;> (try simp only [Bool.not_eq_true', Bool.not_eq_false', Bool.and_eq_true, Bool.and_eq_false_iff, Bool.or_eq_true, Bool.or_eq_false_iff, decide_eq_true_eq, decide_eq_false_iff_not, beq_iff_eq, bne_iff_ne, beq_eq_false_iff_ne, bne_eq_false_iff_eq, Bool.not_true, Bool.not_false, gt_iff_lt, ge_iff_le, Int.not_lt, Int.not_le, ne_eq, Decidable.not_not] at hd) <;> (try simp at hs))
      | refine T_ret ?_
      | refine leave_of (.inr rfl) _ rfl ?_
      | refine leave_of (.inl rfl) _ rfl ?_
      | refine leaveA_of (.inr rfl) _ rfl ?_
      | refine leaveA_of (.inl rfl) _ rfl ?_
      | refine wif_intro ?_ (fun hc => ?_)
      | refine And.intro ?_ ?_
      | intro hc
    | simp (maxSteps := 4000000) only [wrun_load, wrun_faddr, wrunX_load, wrunX_faddr, wstepX_none, wrunX_call, wop, aop, ev, look, put_some, writes, ores_some, value, cut, hget, toLits, mkAgg, List.map_cons, List.map_nil, List.length_cons, List.length_nil, List.take_succ_cons, List.take_zero, List.drop_zero, List.getD_cons_zero, Option.getD_some, Option.map_some, if_true, if_false, Nat.reduceEqDiff, Nat.add_zero, Nat.zero_add, reduceCtorEq, Bool.false_eq_true, eq_self, *]
    | simp (disch := omega) only [getD_ints, wrapI]
    | (with_reducible refine wdW_cons ?_ ?_; (next => simp [chk, foot, compatB, argsOf, St.get, target, ev, look, lidsL, kind, wids, tops, opds, topId, hlen, hlt0, hlt4]; done))
    | omega)
  refine wcallX_I h28n.1 rfl (by simp [plainL, plain]) ?_
  intro id H6 hx hid
  obtain ⟨o6, hH6⟩ := hx.cell hH5
  obtain ⟨p6, hN6⟩ := hx.cell hN5
  replace ha := And.intro (ha.1.ext hx) trivial
  replace h51 := And.intro (h51.1.ext hx) trivial
  replace h53 := And.intro (h53.1.ext hx) trivial
  have h56 := And.intro (rds_agg (d := 1) (.int .i64 den) (rds_iB (d := 0) hid rfl)) trivial
  clear hx hH5 hN5 hid
  have hlt6 : 0 < H6.length := (List.getElem?_eq_some_iff.1 hH6).1
  repeat' (first
    | ((with_reducible refine T_calm ?_ ?_); rfl)
    | with_reducible first
      | refine T_seq ?_
      | refine T_reg ?_
      | refine T_draw ?_
      | refine T_skip ?_
      | refine T_exit ?_
      | refine T_block ?_
      | refine T_cond_t rfl ?_
      | refine T_cond_f rfl ?_
      | refine wdW_cons rfl ?_
      | ((first | refine T_cond rfl (fun hc => ?_) (fun hc => ?_) | refine wguard_split (fun hc => ?_) (fun hc => ?_) | refine wguardX_split (fun hc => ?_) (fun hc => ?_)) <;> have hd := hc <;> (try simp (disch := omega) only [wrapI] at hd) <;> have hs := hd <;> (try simp only [Bool.not_eq_true', Bool.not_eq_false', Bool.and_eq_true, Bool.and_eq_false_iff, Bool.or_eq_true, Bool.or_eq_false_iff, decide_eq_true_eq, decide_eq_false_iff_not, beq_iff_eq, bne_iff_ne, beq_eq_false_iff_ne, bne_eq_false_iff_eq, Bool.not_true, Bool.not_false, gt_iff_lt, ge_iff_le, Int.not_lt, Int.not_le, ne_eq, Decidable.not_not] at hd) <;> (try simp at hs))
      | refine T_ret ?_
      | refine leave_of (.inr rfl) _ rfl ?_
      | refine leave_of (.inl rfl) _ rfl ?_
      | refine leaveA_of (.inr rfl) _ rfl ?_
      | refine leaveA_of (.inl rfl) _ rfl ?_
      | refine wif_intro ?_ (fun hc => ?_)
      | refine And.intro ?_ ?_
      | intro hc
    | simp (maxSteps := 4000000) only [wrun_build, wrun_load, wrun_faddr, wrunX_build, wrunX_load, wrunX_faddr, wstepX_none, wrunX_call, wop, aop, ev, look, put_some, writes, ores_some, value, cut, hget, fillA, putCells, AV.parts, isOne, toLits, mkAgg, List.map_cons, List.map_nil, List.length_cons, List.length_nil, List.take_succ_cons, List.take_zero, List.take_nil, List.drop_succ_cons, List.drop_zero, List.drop_nil, List.cons_append, List.nil_append, List.append_nil, List.getD_cons_zero, List.all_cons, List.all_nil, Option.getD_some, Option.map_some, if_true, if_false, Nat.reduceEqDiff, Nat.reduceAdd, Nat.reduceLeDiff, Nat.zero_add, Nat.le_refl, reduceCtorEq, Bool.and_true, Bool.false_eq_true, eq_self, and_self, List.all_cons, *]
    | simp (disch := omega) only [getD_ints, wrapI]
    | (with_reducible refine wdW_cons ?_ ?_; (next => simp [chk, foot, compatB, argsOf, St.get, target, ev, look, lidsL, kind, wids, tops, opds, topId, hlen, hlt0, hlt4, hlt5]; done))
    | omega)
  refine wcallX_E0 h79.1 rfl (rL3 h51.1 h53.1 h56.1 (by omega) (by omega) (by omega)) hpF ?_
  intro H7 hx
  obtain ⟨o7, hH7⟩ := hx.cell hH6
  obtain ⟨p7, hN7⟩ := hx.cell hN6
  replace ha := And.intro (ha.1.ext hx) trivial
  clear hx h51 h53 h56 hH6 hN6
  repeat' (first
    | ((with_reducible refine T_calm ?_ ?_); rfl)
    | with_reducible first
      | refine T_seq ?_
      | refine T_reg ?_
      | refine T_draw ?_
      | refine T_skip ?_
      | refine T_exit ?_
      | refine T_block ?_
      | refine T_cond_t rfl ?_
      | refine T_cond_f rfl ?_
      | refine wdW_cons rfl ?_
      | ((first | refine T_cond rfl (fun hc => ?_) (fun hc => ?_) | refine wguard_split (fun hc => ?_) (fun hc => ?_) | refine wguardX_split (fun hc => ?_) (fun hc => ?_)) <;> have hd := hc <;> (try simp (disch := omega) only [wrapI] at hd) <;> have hs := hd <;> (try simp only [Bool.not_eq_true', Bool.not_eq_false', Bool.and_eq_true, Bool.and_eq_false_iff, Bool.or_eq_true, Bool.or_eq_false_iff, decide_eq_true_eq, decide_eq_false_iff_not, beq_iff_eq, bne_iff_ne, beq_eq_false_iff_ne, bne_eq_false_iff_eq, Bool.not_true, Bool.not_false, gt_iff_lt, ge_iff_le, Int.not_lt, Int.not_le, ne_eq, Decidable.not_not] at hd) <;> (try simp at hs))
      | refine T_ret ?_
      | refine leave_of (.inr rfl) _ rfl ?_
      | refine leave_of (.inl rfl) _ rfl ?_
      | refine leaveA_of (.inr rfl) _ rfl ?_
      | refine leaveA_of (.inl rfl) _ rfl ?_
      | refine wif_intro ?_ (fun hc => ?_)
      | refine And.intro ?_ ?_
      | intro hc
    | simp (maxSteps := 4000000) only [wrun_mv, wrunX_mv, wdW_nil, wstepX_none, wop, aop, ev, look, put_some, writes, ores_some, thenK, if_true, if_false, Nat.reduceEqDiff, reduceCtorEq, eq_self, *]
    | simp (disch := omega) only [getD_ints, wrapI]
    | (with_reducible refine wdW_cons ?_ ?_; (next => simp [chk, foot, compatB, argsOf, St.get, target, ev, look, lidsL, hget, kind, wids, tops, opds, topId, hlen, hlt0, hlt4, hlt5, hlt6]; done))
    | omega)
  refine T_onlyF [0, 1, 5, 8, 9, 10] ?_ (hT.1 a 1 _ _ H7 hH7 hN7 ha.1)
  simp [St.only, get_mk, look]
end
end Go.Abs
