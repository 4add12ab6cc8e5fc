import Derived.Test.YtpfmamngjefohaaK381x
set_option linter.all false
set_option linter.unusedVariables false
set_option linter.unusedSimpArgs false
set_option linter.unusedSectionVars false
namespace Go.Abs
open Go.Proofs
/-! GrindAdds: LeftFor, the three cases -/
abbrev KL : Exit → St → Prop := leave 0 [.tmp 4] (fun r' H' => r' = bl true ∧ H' = [])
set_option maxHeartbeats 8000000 in
theorem k11ce {nil n1 n2 n3 o nl : Bool} {l : List Sk} {lo hi : List Int} {s : List Ss} {x : Ss} {L D Z : Int} {H : List Blk} (hxm : x.mi.size < 1000000) (hH : H[0]? = some (.cells o nl 6 [dyR n1 lo n2 hi n3 s x])) (h22 : Gv 2 Try.prog 22 [sts nil l] [cpS l]) (h23 : Gv 2 Try.prog 23 [dmV n1 lo n2 hi] [dmV false lo false hi]) (h30 : Gv 1 Try.prog 30 [sss n3 s] [sss false s])
    (h58 : Fn Try.prog 58 [cpS l, dmV false lo false hi, sss false s, tx x.mi] (.tup [zA, i64 L]) []) (h26 : Fn Try.prog 26 [sts nil l, dmV n1 lo n2 hi] (i64 D) []) (h59 : D = 0 → Fn Try.prog 59 [sts nil l, sss n3 s] (i64 Z) []) (hL : L = if D ≠ 0 then D else if Z ≠ 0 then Z else mrE x.mi) (hL0 : L ≠ 0) : T none Try.prog muts 148 0 c11r2 ⟨[(0, sts nil l), (3, .loc 0 0 0)], H⟩ KL := by
  have hp : plain (cpS l) = true := plain_cpS l
  have y0 := (List.getElem?_eq_some_iff.1 hH).1
  have hr0 := (cells_sub (X := []) (H := H) rfl).1 [.resv]
  have h33 := k33 x.mi hxm
  have hLL : (L == L) = true := by simp
  have h61 := k61z
  replace h22 := And.intro h22 trivial
  replace h23 := And.intro h23 trivial
  replace h30 := And.intro h30 trivial
  replace h58 := And.intro h58 trivial
  replace h26 := And.intro h26 trivial
  replace h59 := PLift.up h59
  replace hL := PLift.up hL
  replace hr0 := PLift.up hr0
  have a0 := at_in hH
  unfold c11r2
  repeat' (first | ((with_reducible refine T_calm ?_ ?_); rfl) | (with_reducible first | refine T_seq ?_ | refine T_reg ?_ | refine T_draw ?_ | refine T_skip ?_ | refine T_exit ?_ | refine T_block ?_ | refine T_cond_t rfl ?_ | refine T_cond_f rfl ?_ | refine wdW_cons rfl ?_ | refine T_ret ?_ | refine wif_intro ?_ (fun hc => ?_) | refine And.intro ?_ ?_ | intro hc) | simp (maxSteps := 4000000) only [wrun_mv, wrunX_mv, wstepX_none, wrunX_call, wop, aop, ev, look, put_some, writes, ores_some, List.map_cons, List.map_nil, List.replicate_zero, List.replicate_succ, if_true, if_false, Nat.reduceEqDiff, reduceCtorEq, eq_self, *] | simp (disch := omega) only [getD_ints, wrapI] | (with_reducible refine wdW_cons ?_ ?_; (next => simp [chk, foot, compatB, argsOf, St.get, target, ev, look, lidsL, hget, kind, AOp.isRaw, wids, wtops, tops, opds, topId, plainR_sk, plainR_ss, y0]; done)) | omega)
  refine wcallX_F1 h22.1 rfl (by simp [plainL, plain, plainR_sk]) hp (rfy_plain _ hp 2) ?_
  intro v1 H1 hx1 hr1 hv1
  obtain ⟨q1, g1⟩ := hx1.cell (a0 _)
  have y1 := (List.getElem?_eq_some_iff.1 g1).1
  replace hr1 := PLift.up (hr1 _ hr0.down)
  have yr1 := (List.getElem?_eq_some_iff.1 hr1.down).1
  clear hx1 hr0
  repeat' (first | ((with_reducible refine T_calm ?_ ?_); rfl) | (with_reducible first | refine T_seq ?_ | refine T_reg ?_ | refine T_draw ?_ | refine T_skip ?_ | refine T_exit ?_ | refine T_block ?_ | refine T_cond_t rfl ?_ | refine T_cond_f rfl ?_ | refine wdW_cons rfl ?_ | refine T_ret ?_ | refine wif_intro ?_ (fun hc => ?_) | refine And.intro ?_ ?_ | intro hc) | simp (maxSteps := 4000000) only [wrun_load, wrun_faddr, wrunX_load, wrunX_faddr, wstepX_none, wrunX_call, wop, aop, ev, look, put_some, writes, ores_some, value, cut, hget, toLits, mkAgg, List.map_cons, List.map_nil, List.length_cons, List.length_nil, List.take_succ_cons, List.take_zero, List.drop_zero, List.getD_cons_zero, Option.getD_some, Option.map_some, if_true, if_false, Nat.reduceEqDiff, Nat.reduceAdd, Nat.add_zero, Nat.zero_add, reduceCtorEq, eq_self, *] | simp (disch := omega) only [getD_ints, wrapI] | (with_reducible refine wdW_cons ?_ ?_; (next => simp [chk, foot, compatB, argsOf, St.get, target, ev, look, lidsL, kind, AOp.isRaw, wids, tops, opds, topId]; done)) | omega)
  refine wcallX_F1 h23.1 rfl (by simp [plainL, plain]) (by simp [plain, plainL]) (rfy_plain _ (by simp [plain, plainL]) 2) ?_
  intro v2 H2 hx2 hr2 hv2
  obtain ⟨q2, g2⟩ := hx2.cell g1
  have y2 := (List.getElem?_eq_some_iff.1 g2).1
  replace hr2 := PLift.up (hr2 _ hr1.down)
  have yr2 := (List.getElem?_eq_some_iff.1 hr2.down).1
  replace hv1 := hv1.ext hx2
  clear hx2 hr1
  repeat' (first | ((with_reducible refine T_calm ?_ ?_); rfl) | (with_reducible first | refine T_seq ?_ | refine T_reg ?_ | refine T_draw ?_ | refine T_skip ?_ | refine T_exit ?_ | refine T_block ?_ | refine T_cond_t rfl ?_ | refine T_cond_f rfl ?_ | refine wdW_cons rfl ?_ | refine T_ret ?_ | refine wif_intro ?_ (fun hc => ?_) | refine And.intro ?_ ?_ | intro hc) | simp (maxSteps := 4000000) only [wrun_load, wrun_faddr, wrunX_load, wrunX_faddr, wstepX_none, wrunX_call, wop, aop, ev, look, put_some, writes, ores_some, value, cut, hget, toLits, mkAgg, List.map_cons, List.map_nil, List.length_cons, List.length_nil, List.take_succ_cons, List.take_zero, List.drop_succ_cons, List.drop_zero, List.getD_cons_zero, Option.getD_some, Option.map_some, if_true, if_false, Nat.reduceEqDiff, Nat.zero_add, reduceCtorEq, Bool.false_eq_true, eq_self, *] | simp (disch := omega) only [getD_ints, wrapI] | (with_reducible refine wdW_cons ?_ ?_; (next => simp [chk, foot, compatB, argsOf, St.get, target, ev, look, lidsL, kind, AOp.isRaw, wids, tops, opds, topId, y1]; done)) | omega)
  refine wcallX_F1 h30.1 rfl (by simp [plainL, plain, plainR_ss]) (by simp [plain, plainR_ss]) (rfy_plain _ (by simp [plain, plainR_ss]) 1) ?_
  intro v3 H3 hx3 hr3 hv3
  obtain ⟨q3, g3⟩ := hx3.cell g2
  have y3 := (List.getElem?_eq_some_iff.1 g3).1
  replace hr3 := PLift.up (hr3 _ hr2.down)
  have yr3 := (List.getElem?_eq_some_iff.1 hr3.down).1
  replace hv1 := hv1.ext hx3
  replace hv2 := hv2.ext hx3
  clear hx3 hr2
  repeat' (first | ((with_reducible refine T_calm ?_ ?_); rfl) | (with_reducible first | refine T_seq ?_ | refine T_reg ?_ | refine T_draw ?_ | refine T_skip ?_ | refine T_exit ?_ | refine T_block ?_ | refine T_cond_t rfl ?_ | refine T_cond_f rfl ?_ | refine wdW_cons rfl ?_ | refine T_ret ?_ | refine wif_intro ?_ (fun hc => ?_) | refine And.intro ?_ ?_ | intro hc) | simp (maxSteps := 4000000) only [wrun_load, wrun_faddr, wrunX_load, wrunX_faddr, wstepX_none, wrunX_call, wop, aop, ev, look, put_some, writes, ores_some, value, cut, hget, toLits, mkAgg, List.map_cons, List.map_nil, List.length_cons, List.length_nil, List.take_succ_cons, List.take_zero, List.drop_succ_cons, List.drop_zero, List.getD_cons_zero, Option.getD_some, Option.map_some, if_true, if_false, Nat.reduceEqDiff, Nat.add_zero, Nat.zero_add, reduceCtorEq, Bool.false_eq_true, eq_self, *] | simp (disch := omega) only [getD_ints, wrapI] | (with_reducible refine wdW_cons ?_ ?_; (next => simp [chk, foot, compatB, argsOf, St.get, target, ev, look, lidsL, kind, AOp.isRaw, wids, tops, opds, topId, y1, y2]; done)) | omega)
  refine wcallX_F0 h58.1 (by simp [plain, plainL, plainR]) (rL4 hv1 hv2 hv3 (rds_plain (d := 0) (v := tx x.mi) rfl) (by omega) (by omega) (by omega) (by omega)) (by simp [plainL, plain, hp, plainR_ss]) ?_
  intro H4 hx4 hr4
  obtain ⟨q4, g4⟩ := hx4.cell g3
  have y4 := (List.getElem?_eq_some_iff.1 g4).1
  have r4 := hr4 _ hr3.down
  have m1 := hv1.resv (by omega) hr3.down
  have m2 := hv2.resv (by omega) hr3.down
  have m3 := hv3.resv (by omega) hr3.down
  have yN := (List.getElem?_eq_some_iff.1 r4).1
  have nN : 0 ≠ H.length := by omega
  have nM : ¬H = [] := fun h => by rw [h] at y0; simp at y0
  have sN : ∀ v, (H4.set H.length v)[H.length]? = some v := fun v => List.getElem?_set_self yN
  have s0 : ∀ v, (H4.set H.length v)[0]? = some _ := fun v => look_off g4 nN v
  have ss : ∀ v w, (H4.set H.length v).set H.length w = H4.set H.length w := fun v w => List.set_set ..
  clear hx4 hr4 hr3 hv1 hv2 hv3 hH g1 g2 g3 h22 h23 h30 h58 y1 y2 y3 a0
  repeat' (first | ((with_reducible refine T_calm ?_ ?_); rfl) | (with_reducible first | refine T_seq ?_ | refine T_reg ?_ | refine T_draw ?_ | refine T_skip ?_ | refine T_exit ?_ | refine T_block ?_ | refine T_cond_t rfl ?_ | refine T_cond_f rfl ?_ | refine wdW_cons rfl ?_ | refine T_ret ?_ | refine wif_intro ?_ (fun hc => ?_) | refine And.intro ?_ ?_ | intro hc) | simp (maxSteps := 4000000) only [wops_cons, wstep_none, wrun_call, wrun_mv, wrun_ext, wrun_load, wrun_store, wrun_faddr, wrun_alloc, wrunX_mv, wrunX_ext, wrunX_store, wrunX_alloc, wdW_nil, wstepX_none, wop, aop, ev, look, put_some, put_none, writes, ores_some, thenK, value, cut, hget, putCells, AV.parts, isOne, toLits, mkAgg, List.map_cons, List.map_nil, List.length_cons, List.length_nil, List.getElem?_cons_zero, List.getElem?_cons_succ, List.set_cons_zero, List.take_succ_cons, List.take_zero, List.drop_succ_cons, List.drop_zero, List.drop_nil, List.nil_append, List.append_nil, List.replicate_zero, List.getD_cons_zero, List.all_cons, List.all_nil, Option.getD_some, Option.map_some, if_true, if_false, Nat.reduceEqDiff, Nat.reduceAdd, Nat.reduceLT, Nat.add_zero, Nat.zero_add, Nat.le_refl, reduceCtorEq, Bool.and_true, eq_self, true_and, and_self, List.all_cons, *] | simp (disch := omega) only [getD_ints, wrapI] | (with_reducible refine wdW_cons ?_ ?_; (next => simp [chk, foot, compatB, argsOf, St.get, target, ev, look, lidsL, kind, AOp.isRaw, wids, tops, opds, topId, nM, m1, m2, m3, yr1, yr2, yr3, lids]; done)) | omega)
  refine wcall_E0 h26.1 rfl (rL2 (rds_plain (d := 0) (v := sts nil l) (plainR_sk l)) (rds_plain (d := 0) (v := dmV n1 lo n2 hi) (by simp [plain, plainL])) (by omega) (by omega)) (by simp [plainL, plain, plainR_sk]) ?_
  intro H5 hx5
  obtain ⟨o5, e0⟩ := hx5.cell (s0 _)
  obtain ⟨p5, eN⟩ := hx5.cell (sN _)
  clear hx5 sN s0 ss h26 g4 r4 yN y4 nM m1 m2 m3 yr1 yr2 yr3
  generalize H.length = N at *
  have hL0' : (L == 0) = false := by simpa using hL0
  by_cases hD : D = 0
  · subst hD
    have h59' := And.intro (h59.down rfl) trivial
    clear h59
    repeat' (first | ((with_reducible refine T_calm ?_ ?_); rfl) | (with_reducible first | refine T_seq ?_ | refine T_reg ?_ | refine T_draw ?_ | refine T_skip ?_ | refine T_exit ?_ | refine T_block ?_ | refine T_cond_t rfl ?_ | refine T_cond_f rfl ?_ | refine wdW_cons rfl ?_ | refine T_ret ?_ | refine wif_intro ?_ (fun hc => ?_) | refine And.intro ?_ ?_ | intro hc) | simp (maxSteps := 4000000) only [wops_nil, wops_cons, wstep_none, wrun_call, wrun_mv, wrun_bin, wrun_load, wrun_faddr, wop, aop, ev, look, put_some, writes, ores_some, binV, thenK, value, cut, hget, mkAgg, List.map_cons, List.map_nil, List.length_cons, List.length_nil, List.take_succ_cons, List.take_zero, List.drop_succ_cons, List.drop_zero, List.append_nil, List.replicate_zero, List.getD_cons_zero, Option.getD_some, Option.map_some, if_true, if_false, Nat.reduceEqDiff, Nat.zero_add, reduceCtorEq, Bool.false_eq_true, eq_self, beq_self_eq_true, *] | simp (disch := omega) only [getD_ints, wrapI] | omega)
    refine wcall_E0 h59'.1 rfl (rL2 (rds_plain (d := 0) (v := sts nil l) (plainR_sk l)) (rds_plain (d := 0) (v := sss n3 s) (plainR_ss s)) (by omega) (by omega)) (by simp [plainL, plain, plainR_sk, plainR_ss]) ?_
    intro H6 hx6
    obtain ⟨o6, f0⟩ := hx6.cell e0
    obtain ⟨p6, fN⟩ := hx6.cell eN
    obtain ⟨u1, u2, u3, u4⟩ := cells_sub (X := []) (H := H6) rfl
    have a0 := at_in f0
    have aN := at_in fN
    clear hx6 e0 eN h59'
    by_cases hZ : Z = 0
    · subst hZ
      have hl := hL.down
      rw [if_neg (fun h => h rfl), if_neg (fun h => h rfl)] at hl
      unfold mrE at hl
      cases hn : nmB x.mi with
      | true =>
        rw [hn, if_neg (by simp)] at hl
        exact (hL0 hl).elim
      | false =>
        rw [hn, if_pos rfl] at hl
        rw [hn] at h33
        subst hl
        clear hL hL0 hn
        repeat' (first | ((with_reducible refine T_calm ?_ ?_); rfl) | (with_reducible first | refine T_seq ?_ | refine T_reg ?_ | refine T_draw ?_ | refine T_skip ?_ | refine T_exit ?_ | refine T_block ?_ | refine T_cond_t rfl ?_ | refine T_cond_f rfl ?_ | refine wdW_cons rfl ?_ | (show wcall _ false (.lit (.func (.func 33) _ _)) _ _ _ _; refine wcall_fn (h33) rfl (by simp [plainL, plain]) ?_) | (show wcallX _ false (.lit (.func (.func 33) _ _)) _ _ _ _; refine wcallX_fn (h33) rfl (by simp [plainL, plain, plainR, plainR_sk]) ?_) | (show wcall _ false (.lit (.func (.func 61) _ _)) _ _ _ _; refine wcall_fn (h61) rfl (by simp [plainL, plain, plainR]) ?_) | (show wcallX _ false (.lit (.func (.func 61) _ _)) _ _ _ _; refine wcallX_fn (h61) rfl (by simp [plainL, plain, plainR, plainR_sk]) ?_) | refine T_ret ?_ | refine leave_of (.inr rfl) _ rfl ?_ | refine leave_of (.inl rfl) _ rfl ?_ | refine leaveA_of (.inr rfl) _ rfl ?_ | refine leaveA_of (.inl rfl) _ rfl ?_ | refine wif_intro ?_ (fun hc => ?_) | refine And.intro ?_ ?_ | intro hc) | simp (maxSteps := 4000000) only [wops_nil, wops_cons, wstep_none, wstep_some, wguard_true, wrun_call, wrun_mv, wrun_pick, wrun_bin, wrun_not, wrun_load, wrun_faddr, wrun_alloc, get_mk, wop, aop, ev, look, put_some, writes, ores_some, binV, thenK, boolV, value, cut, hget, toLits, mkAgg, tupOf, List.map_cons, List.map_nil, List.length_cons, List.length_nil, List.getElem?_cons_zero, List.set_cons_zero, List.take_succ_cons, List.take_zero, List.take_nil, List.drop_succ_cons, List.drop_zero, List.append_nil, List.replicate_zero, List.replicate_succ, List.getD_cons_zero, List.length_append, Option.getD_some, Option.map_some, if_true, if_false, Nat.reduceEqDiff, Nat.reduceAdd, Nat.add_zero, Nat.zero_add, reduceCtorEq, Bool.not_false, Bool.false_eq_true, eq_self, true_and, beq_self_eq_true, freeze, lidsL, lids, List.flatMap_cons, List.flatMap_nil, ren, *] | simp (disch := omega) only [getD_ints, wrapI] | (with_reducible show wcall _ false (.lit (.func (.func 33) _ _)) _ _ _ _; refine wcall_fn (h33) ?_ ?_ ?_; (next => simp [rfyL, rfy, hget, ints, take_rfy, plainR_sk]); (next => simp [plainL, plain, plainR, plainR_sk])) | (with_reducible show wcallX _ false (.lit (.func (.func 33) _ _)) _ _ _ _; refine wcallX_fn (h33) ?_ ?_ ?_; (next => simp [rfyL, rfy, hget, ints, take_rfy, plainR_sk]); (next => simp [plainL, plain, plainR, plainR_sk])) | (with_reducible show wcall _ false (.lit (.func (.func 61) _ _)) _ _ _ _; refine wcall_fn (h61) ?_ ?_ ?_; (next => simp [rfyL, rfy, hget, ints, take_rfy, plainR_sk]); (next => simp [plainL, plain, plainR, plainR_sk])) | (with_reducible show wcallX _ false (.lit (.func (.func 61) _ _)) _ _ _ _; refine wcallX_fn (h61) ?_ ?_ ?_; (next => simp [rfyL, rfy, hget, ints, take_rfy, plainR_sk]); (next => simp [plainL, plain, plainR, plainR_sk])) | omega)
        all_goals first | rfl
    · have hl := hL.down
      rw [if_neg (fun h => h rfl), if_pos hZ] at hl
      subst hl
      clear hL hL0 hZ
      repeat' (first | ((with_reducible refine T_calm ?_ ?_); rfl) | (with_reducible first | refine T_seq ?_ | refine T_reg ?_ | refine T_draw ?_ | refine T_skip ?_ | refine T_exit ?_ | refine T_block ?_ | refine T_cond_t rfl ?_ | refine T_cond_f rfl ?_ | refine wdW_cons rfl ?_ | (show wcall _ false (.lit (.func (.func 61) _ _)) _ _ _ _; refine wcall_fn (h61) rfl (by simp [plainL, plain, plainR]) ?_) | (show wcallX _ false (.lit (.func (.func 61) _ _)) _ _ _ _; refine wcallX_fn (h61) rfl (by simp [plainL, plain, plainR, plainR_sk]) ?_) | refine T_ret ?_ | refine leave_of (.inr rfl) _ rfl ?_ | refine leave_of (.inl rfl) _ rfl ?_ | refine leaveA_of (.inr rfl) _ rfl ?_ | refine leaveA_of (.inl rfl) _ rfl ?_ | refine wif_intro ?_ (fun hc => ?_) | refine And.intro ?_ ?_ | intro hc) | simp (maxSteps := 4000000) only [wops_nil, wops_cons, wstep_none, wstep_some, wguard_true, wguard_ft, wrun_call, wrun_mv, wrun_pick, wrun_bin, wrun_load, wrun_alloc, get_mk, wop, aop, ev, look, put_some, writes, ores_some, binV, thenK, value, cut, hget, toLits, mkAgg, tupOf, List.map_cons, List.map_nil, List.length_cons, List.length_nil, List.getElem?_cons_zero, List.set_cons_zero, List.take_succ_cons, List.take_nil, List.drop_zero, List.append_nil, List.replicate_zero, List.replicate_succ, List.getD_cons_zero, List.length_append, Option.getD_some, Option.map_some, if_true, if_false, Nat.reduceEqDiff, Nat.reduceAdd, Nat.add_zero, Nat.zero_add, reduceCtorEq, Bool.false_eq_true, eq_self, true_and, beq_self_eq_true, freeze, lidsL, lids, List.flatMap_cons, List.flatMap_nil, ren, *] | simp (disch := omega) only [getD_ints, wrapI] | (with_reducible show wcall _ false (.lit (.func (.func 61) _ _)) _ _ _ _; refine wcall_fn (h61) ?_ ?_ ?_; (next => simp [rfyL, rfy, hget, ints, take_rfy, plainR_sk]); (next => simp [plainL, plain, plainR, plainR_sk])) | (with_reducible show wcallX _ false (.lit (.func (.func 61) _ _)) _ _ _ _; refine wcallX_fn (h61) ?_ ?_ ?_; (next => simp [rfyL, rfy, hget, ints, take_rfy, plainR_sk]); (next => simp [plainL, plain, plainR, plainR_sk])) | omega)
      all_goals first | rfl
  · have hl := hL.down
    rw [if_pos hD] at hl
    subst hl
    obtain ⟨u1, u2, u3, u4⟩ := cells_sub (X := []) (H := H5) rfl
    have a0 := at_in e0
    have aN := at_in eN
    clear hL hL0 hD h59
    repeat' (first | ((with_reducible refine T_calm ?_ ?_); rfl) | (with_reducible first | refine T_seq ?_ | refine T_reg ?_ | refine T_draw ?_ | refine T_skip ?_ | refine T_exit ?_ | refine T_block ?_ | refine T_cond_t rfl ?_ | refine T_cond_f rfl ?_ | refine wdW_cons rfl ?_ | (show wcall _ false (.lit (.func (.func 61) _ _)) _ _ _ _; refine wcall_fn (h61) rfl (by simp [plainL, plain, plainR]) ?_) | (show wcallX _ false (.lit (.func (.func 61) _ _)) _ _ _ _; refine wcallX_fn (h61) rfl (by simp [plainL, plain, plainR, plainR_sk]) ?_) | refine T_ret ?_ | refine leave_of (.inr rfl) _ rfl ?_ | refine leave_of (.inl rfl) _ rfl ?_ | refine leaveA_of (.inr rfl) _ rfl ?_ | refine leaveA_of (.inl rfl) _ rfl ?_ | refine wif_intro ?_ (fun hc => ?_) | refine And.intro ?_ ?_ | intro hc) | simp (maxSteps := 4000000) only [wops_nil, wops_cons, wstep_none, wstep_some, wguard_true, wguard_ft, wrun_call, wrun_mv, wrun_pick, wrun_bin, wrun_load, wrun_alloc, get_mk, wop, aop, ev, look, put_some, writes, ores_some, binV, thenK, value, cut, hget, toLits, mkAgg, tupOf, List.map_cons, List.map_nil, List.length_cons, List.length_nil, List.getElem?_cons_zero, List.set_cons_zero, List.take_succ_cons, List.take_nil, List.drop_zero, List.append_nil, List.replicate_zero, List.replicate_succ, List.getD_cons_zero, List.length_append, Option.getD_some, Option.map_some, if_true, if_false, Nat.reduceEqDiff, Nat.reduceAdd, Nat.add_zero, Nat.zero_add, reduceCtorEq, Bool.false_eq_true, eq_self, true_and, beq_self_eq_true, freeze, lidsL, lids, List.flatMap_cons, List.flatMap_nil, ren, *] | simp (disch := omega) only [getD_ints, wrapI] | (with_reducible show wcall _ false (.lit (.func (.func 61) _ _)) _ _ _ _; refine wcall_fn (h61) ?_ ?_ ?_; (next => simp [rfyL, rfy, hget, ints, take_rfy, plainR_sk]); (next => simp [plainL, plain, plainR, plainR_sk])) | (with_reducible show wcallX _ false (.lit (.func (.func 61) _ _)) _ _ _ _; refine wcallX_fn (h61) ?_ ?_ ?_; (next => simp [rfyL, rfy, hget, ints, take_rfy, plainR_sk]); (next => simp [plainL, plain, plainR, plainR_sk])) | omega)
    all_goals first | rfl
end Go.Abs
