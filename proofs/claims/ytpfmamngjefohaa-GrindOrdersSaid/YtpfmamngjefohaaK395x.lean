import Derived.Test.YtpfmamngjefohaaK394x
set_option linter.all false
set_option linter.unusedVariables false
set_option linter.unusedSimpArgs false
set_option linter.unusedSectionVars false
namespace Go.Abs
open Go.Proofs
/-! GrindOrders: one session more -/
abbrev KO : Exit → St → Prop := leave 0 [.tmp 4] (fun r' H' => r' = bl true ∧ H' = [])
set_option maxHeartbeats 8000000 in
theorem k12c {nil n1 n2 n3 o nl ow : Bool} {l : List Sk} {lo hi W : List Int} {s q : List Ss} {x : Ss} {b : ByteArray} {iw : Nat} {H : List Blk} {t : ACode} {K : Exit → St → Prop} (hH : H[0]? = some (.cells o nl 6 [dyR n1 lo n2 hi n3 s x])) (hw : H[iw]? = some (.cells ow false 1 (W.map fun x => [i64 x]))) (h22 : Gv 2 Try.prog 22 [sts nil l] [cpS l]) (h23 : Gv 2 Try.prog 23 [dmV n1 lo n2 hi] [dmV false lo false hi]) (h30 : Gv 1 Try.prog 30 [sss n3 s] [sss false s])
    (h56 : Fn Try.prog 56 [cpS l, dmV false lo false hi, sss false s, ssV x] (.tup [.lsl 0 0 q.length, i64 0]) [.cells false false 3 (ssR q)])
    (hnext : ∀ H' o' ow' iy oy, H'[0]? = some (.cells o' nl 6 [dyR n1 lo n2 hi n3 s x]) → H'[iw]? = some (.cells ow' false 1 (W.map fun x => [i64 x])) → H'[iy]? = some (.cells oy false 3 (ssR q)) → T none Try.prog muts 312 0 t ⟨[(0, sts nil l), (3, .loc 0 0 0), (5, tx b), (6, .lsl iw 0 W.length), (15, .lsl iy 0 q.length)], H'⟩ K) :
    T none Try.prog muts 312 0 (c12r3 t) ⟨[(0, sts nil l), (3, .loc 0 0 0), (5, tx b), (6, .lsl iw 0 W.length)], H⟩ K := by
  have hp : plain (cpS l) = true := plain_cpS l
  have y0 := (List.getElem?_eq_some_iff.1 hH).1
  replace h22 := And.intro h22 trivial
  replace h23 := And.intro h23 trivial
  replace h30 := And.intro h30 trivial
  replace h56 := And.intro h56 trivial
  replace hnext := PLift.up hnext
  replace hw := PLift.up hw
  unfold c12r3
  repeat' (first | ((with_reducible refine T_calm ?_ ?_); rfl) | (with_reducible first | refine T_seq ?_ | refine T_reg ?_ | refine T_draw ?_ | refine T_skip ?_ | refine T_exit ?_ | refine T_block ?_ | refine T_cond_t rfl ?_ | refine T_cond_f rfl ?_ | refine wdW_cons rfl ?_ | refine T_ret ?_ | refine wif_intro ?_ (fun hc => ?_) | refine And.intro ?_ ?_ | intro hc) | simp (maxSteps := 4000000) only [wrun_mv, wrunX_mv, wstepX_none, wrunX_call, wop, aop, ev, look, put_some, writes, ores_some, List.map_cons, List.map_nil, List.append_nil, List.replicate_zero, if_true, if_false, Nat.reduceEqDiff, reduceCtorEq, eq_self, *] | simp (disch := omega) only [getD_ints, wrapI] | (with_reducible refine wdW_cons ?_ ?_; (next => simp [chk, foot, compatB, argsOf, St.get, target, ev, look, lidsL, hget, kind, AOp.isRaw, wids, wtops, tops, opds, topId, plainR_sk, plainR_ss, y0]; done)) | omega)
  refine wcallX_E1 h22.1 rfl (by simp [plainL, plain, plainR_sk]) hp (rfy_plain _ hp 2) ?_
  intro v1 H1 hx1 hv1
  obtain ⟨q1, g1⟩ := hx1.cell hH
  obtain ⟨w1, gw1⟩ := hx1.cell hw.down
  have y1 := (List.getElem?_eq_some_iff.1 g1).1
  replace gw1 := PLift.up gw1
  clear hx1 hw
  repeat' (first | ((with_reducible refine T_calm ?_ ?_); rfl) | (with_reducible first | refine T_seq ?_ | refine T_reg ?_ | refine T_draw ?_ | refine T_skip ?_ | refine T_exit ?_ | refine T_block ?_ | refine T_cond_t rfl ?_ | refine T_cond_f rfl ?_ | refine wdW_cons rfl ?_ | refine T_ret ?_ | refine wif_intro ?_ (fun hc => ?_) | refine And.intro ?_ ?_ | intro hc) | simp (maxSteps := 4000000) only [wrun_load, wrun_faddr, wrunX_load, wrunX_faddr, wstepX_none, wrunX_call, wop, aop, ev, look, put_some, writes, ores_some, value, cut, hget, toLits, mkAgg, List.map_cons, List.map_nil, List.length_cons, List.length_nil, List.take_succ_cons, List.take_zero, List.drop_zero, List.getD_cons_zero, Option.getD_some, Option.map_some, if_true, if_false, Nat.reduceEqDiff, Nat.reduceAdd, Nat.add_zero, Nat.zero_add, reduceCtorEq, eq_self, *] | simp (disch := omega) only [getD_ints, wrapI] | (with_reducible refine wdW_cons ?_ ?_; (next => simp [chk, foot, compatB, argsOf, St.get, target, ev, look, lidsL, kind, AOp.isRaw, wids, tops, opds, topId, y0]; done)) | omega)
  refine wcallX_E1 h23.1 rfl (by simp [plainL, plain]) (by simp [plain, plainL]) (rfy_plain _ (by simp [plain, plainL]) 2) ?_
  intro v2 H2 hx2 hv2
  obtain ⟨q2, g2⟩ := hx2.cell g1
  obtain ⟨w2, gw2⟩ := hx2.cell gw1.down
  have y2 := (List.getElem?_eq_some_iff.1 g2).1
  replace hv1 := hv1.ext hx2
  replace gw2 := PLift.up gw2
  clear hx2 gw1
  repeat' (first | ((with_reducible refine T_calm ?_ ?_); rfl) | (with_reducible first | refine T_seq ?_ | refine T_reg ?_ | refine T_draw ?_ | refine T_skip ?_ | refine T_exit ?_ | refine T_block ?_ | refine T_cond_t rfl ?_ | refine T_cond_f rfl ?_ | refine wdW_cons rfl ?_ | refine T_ret ?_ | refine wif_intro ?_ (fun hc => ?_) | refine And.intro ?_ ?_ | intro hc) | simp (maxSteps := 4000000) only [wrun_load, wrun_faddr, wrunX_load, wrunX_faddr, wstepX_none, wrunX_call, wop, aop, ev, look, put_some, writes, ores_some, value, cut, hget, toLits, mkAgg, List.map_cons, List.map_nil, List.length_cons, List.length_nil, List.take_succ_cons, List.take_zero, List.drop_succ_cons, List.drop_zero, List.getD_cons_zero, Option.getD_some, Option.map_some, if_true, if_false, Nat.reduceEqDiff, Nat.zero_add, reduceCtorEq, Bool.false_eq_true, eq_self, *] | simp (disch := omega) only [getD_ints, wrapI] | (with_reducible refine wdW_cons ?_ ?_; (next => simp [chk, foot, compatB, argsOf, St.get, target, ev, look, lidsL, kind, AOp.isRaw, wids, tops, opds, topId, y0, y1]; done)) | omega)
  refine wcallX_E1 h30.1 rfl (by simp [plainL, plain, plainR_ss]) (by simp [plain, plainR_ss]) (rfy_plain _ (by simp [plain, plainR_ss]) 1) ?_
  intro v3 H3 hx3 hv3
  obtain ⟨q3, g3⟩ := hx3.cell g2
  obtain ⟨w3, gw3⟩ := hx3.cell gw2.down
  have y3 := (List.getElem?_eq_some_iff.1 g3).1
  replace hv1 := hv1.ext hx3
  replace hv2 := hv2.ext hx3
  replace gw3 := PLift.up gw3
  clear hx3 gw2
  repeat' (first | ((with_reducible refine T_calm ?_ ?_); rfl) | (with_reducible first | refine T_seq ?_ | refine T_reg ?_ | refine T_draw ?_ | refine T_skip ?_ | refine T_exit ?_ | refine T_block ?_ | refine T_cond_t rfl ?_ | refine T_cond_f rfl ?_ | refine wdW_cons rfl ?_ | refine T_ret ?_ | refine wif_intro ?_ (fun hc => ?_) | refine And.intro ?_ ?_ | intro hc) | simp (maxSteps := 4000000) only [wrun_load, wrun_faddr, wrunX_load, wrunX_faddr, wstepX_none, wrunX_call, wop, aop, ev, look, put_some, writes, ores_some, value, cut, hget, toLits, mkAgg, List.map_cons, List.map_nil, List.length_cons, List.length_nil, List.take_succ_cons, List.take_nil, List.drop_succ_cons, List.drop_zero, List.getD_cons_zero, Option.getD_some, Option.map_some, if_true, if_false, Nat.reduceEqDiff, Nat.reduceAdd, Nat.zero_add, reduceCtorEq, eq_self, *] | simp (disch := omega) only [getD_ints, wrapI] | (with_reducible refine wdW_cons ?_ ?_; (next => simp [chk, foot, compatB, argsOf, St.get, target, ev, look, lidsL, kind, AOp.isRaw, wids, tops, opds, topId, y0, y1, y2]; done)) | omega)
  refine wcallX_S h56.1 (rL4 hv1 hv2 hv3 (rds_plain (d := 0) (v := ssV x) rfl) (by omega) (by omega) (by omega) (by omega)) (by simp [plainL, plain, hp, plainR_ss]) ?_
  intro iy H4 hx4 hby
  obtain ⟨q4, g4⟩ := hx4.cell g3
  obtain ⟨w4, gw4⟩ := hx4.cell gw3.down
  have y4 := (List.getElem?_eq_some_iff.1 g4).1
  replace gw4 := PLift.up gw4
  replace hby := PLift.up hby
  clear hx4 hv1 hv2 hv3 hH g1 g2 g3 h22 h23 h30 h56 y0 y1 y2 y3 gw3
  repeat' (first | ((with_reducible refine T_calm ?_ ?_); rfl) | (with_reducible first | refine T_seq ?_ | refine T_reg ?_ | refine T_draw ?_ | refine T_skip ?_ | refine T_exit ?_ | refine T_block ?_ | refine T_cond_t rfl ?_ | refine T_cond_f rfl ?_ | refine wdW_cons rfl ?_ | refine T_ret ?_ | refine wif_intro ?_ (fun hc => ?_) | refine And.intro ?_ ?_ | intro hc) | simp (maxSteps := 4000000) only [wops_nil, wops_cons, wstep_none, wrun_mv, wrun_bin, wrun_ext, wrunX_mv, wrunX_ext, wdW_nil, wstepX_none, wop, aop, ev, look, put_some, writes, ores_some, binV, thenK, List.getElem?_cons_zero, List.getElem?_cons_succ, List.append_nil, List.replicate_zero, Option.map_some, if_true, if_false, Nat.reduceEqDiff, reduceCtorEq, eq_self, *] | simp (disch := omega) only [getD_ints, wrapI] | (with_reducible refine wdW_cons ?_ ?_; (next => simp [chk, foot, compatB, argsOf, St.get, target, ev, look, lidsL, hget, kind, AOp.isRaw, wids, wtops, tops, opds, topId, plainR_sk, y4]; done)) | omega)
  exact T_onlyU [0, 3, 5, 6, 15] rfl (hnext.down _ q4 w4 iy false g4 gw4.down hby.down)
set_option maxHeartbeats 8000000 in
theorem k12ce {nil n1 n2 n3 o nl : Bool} {l : List Sk} {lo hi W : List Int} {s : List Ss} {x : Ss} {b : ByteArray} {iw : Nat} {E : Int} {H : List Blk} {t : ACode} (hH : H[0]? = some (.cells o nl 6 [dyR n1 lo n2 hi n3 s x])) (h22 : Gv 2 Try.prog 22 [sts nil l] [cpS l]) (h23 : Gv 2 Try.prog 23 [dmV n1 lo n2 hi] [dmV false lo false hi]) (h30 : Gv 1 Try.prog 30 [sss n3 s] [sss false s])
    (h56 : Fn Try.prog 56 [cpS l, dmV false lo false hi, sss false s, ssV x] (.tup [.sl true 0 [], i64 E]) []) (hE : E ≠ 0) :
    T none Try.prog muts 312 0 (c12r3 t) ⟨[(0, sts nil l), (3, .loc 0 0 0), (5, tx b), (6, .lsl iw 0 W.length)], H⟩ KO := by
  have hp : plain (cpS l) = true := plain_cpS l
  have y0 := (List.getElem?_eq_some_iff.1 hH).1
  have d0 : (E != 0) = true := by simp only [bne_iff_ne]; exact hE
  replace h22 := And.intro h22 trivial
  replace h23 := And.intro h23 trivial
  replace h30 := And.intro h30 trivial
  replace h56 := And.intro h56 trivial
  clear hE
  unfold c12r3
  repeat' (first | ((with_reducible refine T_calm ?_ ?_); rfl) | (with_reducible first | refine T_seq ?_ | refine T_reg ?_ | refine T_draw ?_ | refine T_skip ?_ | refine T_exit ?_ | refine T_block ?_ | refine T_cond_t rfl ?_ | refine T_cond_f rfl ?_ | refine wdW_cons rfl ?_ | refine T_ret ?_ | refine leave_of (.inr rfl) _ rfl ?_ | refine leave_of (.inl rfl) _ rfl ?_ | refine leaveA_of (.inr rfl) _ rfl ?_ | refine leaveA_of (.inl rfl) _ rfl ?_ | refine wif_intro ?_ (fun hc => ?_) | refine And.intro ?_ ?_ | intro hc) | simp (maxSteps := 4000000) only [wrun_mv, wrunX_mv, wstepX_none, wrunX_call, wop, aop, ev, look, put_some, writes, ores_some, List.map_cons, List.map_nil, List.append_nil, List.replicate_zero, if_true, if_false, Nat.reduceEqDiff, reduceCtorEq, eq_self, *] | simp (disch := omega) only [getD_ints, wrapI] | (with_reducible refine wdW_cons ?_ ?_; (next => simp [chk, foot, compatB, argsOf, St.get, target, ev, look, lidsL, hget, kind, AOp.isRaw, wids, wtops, tops, opds, topId, plainR_sk, plainR_ss, y0]; done)) | omega)
  refine wcallX_E1 h22.1 rfl (by simp [plainL, plain, plainR_sk]) hp (rfy_plain _ hp 2) ?_
  intro v1 H1 hx1 hv1
  obtain ⟨q1, g1⟩ := hx1.cell hH
  have y1 := (List.getElem?_eq_some_iff.1 g1).1
  clear hx1
  repeat' (first | ((with_reducible refine T_calm ?_ ?_); rfl) | (with_reducible first | refine T_seq ?_ | refine T_reg ?_ | refine T_draw ?_ | refine T_skip ?_ | refine T_exit ?_ | refine T_block ?_ | refine T_cond_t rfl ?_ | refine T_cond_f rfl ?_ | refine wdW_cons rfl ?_ | refine T_ret ?_ | refine leave_of (.inr rfl) _ rfl ?_ | refine leave_of (.inl rfl) _ rfl ?_ | refine leaveA_of (.inr rfl) _ rfl ?_ | refine leaveA_of (.inl rfl) _ rfl ?_ | refine wif_intro ?_ (fun hc => ?_) | refine And.intro ?_ ?_ | intro hc) | simp (maxSteps := 4000000) only [wrun_load, wrun_faddr, wrunX_load, wrunX_faddr, wstepX_none, wrunX_call, wop, aop, ev, look, put_some, writes, ores_some, value, cut, hget, toLits, mkAgg, List.map_cons, List.map_nil, List.length_cons, List.length_nil, List.take_succ_cons, List.take_zero, List.drop_zero, List.getD_cons_zero, Option.getD_some, Option.map_some, if_true, if_false, Nat.reduceEqDiff, Nat.reduceAdd, Nat.add_zero, Nat.zero_add, reduceCtorEq, eq_self, *] | simp (disch := omega) only [getD_ints, wrapI] | (with_reducible refine wdW_cons ?_ ?_; (next => simp [chk, foot, compatB, argsOf, St.get, target, ev, look, lidsL, kind, AOp.isRaw, wids, tops, opds, topId, y0]; done)) | omega)
  refine wcallX_E1 h23.1 rfl (by simp [plainL, plain]) (by simp [plain, plainL]) (rfy_plain _ (by simp [plain, plainL]) 2) ?_
  intro v2 H2 hx2 hv2
  obtain ⟨q2, g2⟩ := hx2.cell g1
  have y2 := (List.getElem?_eq_some_iff.1 g2).1
  replace hv1 := hv1.ext hx2
  clear hx2
  repeat' (first | ((with_reducible refine T_calm ?_ ?_); rfl) | (with_reducible first | refine T_seq ?_ | refine T_reg ?_ | refine T_draw ?_ | refine T_skip ?_ | refine T_exit ?_ | refine T_block ?_ | refine T_cond_t rfl ?_ | refine T_cond_f rfl ?_ | refine wdW_cons rfl ?_ | refine T_ret ?_ | refine leave_of (.inr rfl) _ rfl ?_ | refine leave_of (.inl rfl) _ rfl ?_ | refine leaveA_of (.inr rfl) _ rfl ?_ | refine leaveA_of (.inl rfl) _ rfl ?_ | refine wif_intro ?_ (fun hc => ?_) | refine And.intro ?_ ?_ | intro hc) | simp (maxSteps := 4000000) only [wrun_load, wrun_faddr, wrunX_load, wrunX_faddr, wstepX_none, wrunX_call, wop, aop, ev, look, put_some, writes, ores_some, value, cut, hget, toLits, mkAgg, List.map_cons, List.map_nil, List.length_cons, List.length_nil, List.take_succ_cons, List.take_zero, List.drop_succ_cons, List.drop_zero, List.getD_cons_zero, Option.getD_some, Option.map_some, if_true, if_false, Nat.reduceEqDiff, Nat.zero_add, reduceCtorEq, Bool.false_eq_true, eq_self, *] | simp (disch := omega) only [getD_ints, wrapI] | (with_reducible refine wdW_cons ?_ ?_; (next => simp [chk, foot, compatB, argsOf, St.get, target, ev, look, lidsL, kind, AOp.isRaw, wids, tops, opds, topId, y0, y1]; done)) | omega)
  refine wcallX_E1 h30.1 rfl (by simp [plainL, plain, plainR_ss]) (by simp [plain, plainR_ss]) (rfy_plain _ (by simp [plain, plainR_ss]) 1) ?_
  intro v3 H3 hx3 hv3
  obtain ⟨q3, g3⟩ := hx3.cell g2
  have y3 := (List.getElem?_eq_some_iff.1 g3).1
  replace hv1 := hv1.ext hx3
  replace hv2 := hv2.ext hx3
  clear hx3
  repeat' (first | ((with_reducible refine T_calm ?_ ?_); rfl) | (with_reducible first | refine T_seq ?_ | refine T_reg ?_ | refine T_draw ?_ | refine T_skip ?_ | refine T_exit ?_ | refine T_block ?_ | refine T_cond_t rfl ?_ | refine T_cond_f rfl ?_ | refine wdW_cons rfl ?_ | refine T_ret ?_ | refine leave_of (.inr rfl) _ rfl ?_ | refine leave_of (.inl rfl) _ rfl ?_ | refine leaveA_of (.inr rfl) _ rfl ?_ | refine leaveA_of (.inl rfl) _ rfl ?_ | refine wif_intro ?_ (fun hc => ?_) | refine And.intro ?_ ?_ | intro hc) | simp (maxSteps := 4000000) only [wrun_load, wrun_faddr, wrunX_load, wrunX_faddr, wstepX_none, wrunX_call, wop, aop, ev, look, put_some, writes, ores_some, value, cut, hget, toLits, mkAgg, List.map_cons, List.map_nil, List.length_cons, List.length_nil, List.take_succ_cons, List.take_nil, List.drop_succ_cons, List.drop_zero, List.getD_cons_zero, Option.getD_some, Option.map_some, if_true, if_false, Nat.reduceEqDiff, Nat.reduceAdd, Nat.zero_add, reduceCtorEq, eq_self, *] | simp (disch := omega) only [getD_ints, wrapI] | (with_reducible refine wdW_cons ?_ ?_; (next => simp [chk, foot, compatB, argsOf, St.get, target, ev, look, lidsL, kind, AOp.isRaw, wids, tops, opds, topId, y0, y1, y2]; done)) | omega)
  refine wcallX_E0 h56.1 (by simp [plain, plainL, plainR]) (rL4 hv1 hv2 hv3 (rds_plain (d := 0) (v := ssV x) rfl) (by omega) (by omega) (by omega) (by omega)) (by simp [plainL, plain, hp, plainR_ss]) ?_
  intro H4 hx4
  obtain ⟨q4, g4⟩ := hx4.cell g3
  have y4 := (List.getElem?_eq_some_iff.1 g4).1
  clear hx4 hv1 hv2 hv3 hH g1 g2 g3 h22 h23 h30 h56 y0 y1 y2 y3
  repeat' (first | ((with_reducible refine T_calm ?_ ?_); rfl) | (with_reducible first | refine T_seq ?_ | refine T_reg ?_ | refine T_draw ?_ | refine T_skip ?_ | refine T_exit ?_ | refine T_block ?_ | refine T_cond_t rfl ?_ | refine T_cond_f rfl ?_ | refine wdW_cons rfl ?_ | refine T_ret ?_ | refine leave_of (.inr rfl) _ rfl ?_ | refine leave_of (.inl rfl) _ rfl ?_ | refine leaveA_of (.inr rfl) _ rfl ?_ | refine leaveA_of (.inl rfl) _ rfl ?_ | refine wif_intro ?_ (fun hc => ?_) | refine And.intro ?_ ?_ | intro hc) | simp (maxSteps := 4000000) only [wops_nil, wops_cons, wstep_none, wrun_mv, wrun_bin, wrun_ext, wrunX_mv, wrunX_ext, wdW_nil, wstepX_none, get_mk, wop, aop, ev, look, put_some, writes, ores_some, binV, thenK, tupOf, List.getElem?_cons_zero, List.getElem?_cons_succ, List.append_nil, List.replicate_zero, Option.map_some, if_true, if_false, Nat.reduceEqDiff, reduceCtorEq, eq_self, ren, *] | simp (disch := omega) only [getD_ints, wrapI] | (with_reducible refine wdW_cons ?_ ?_; (next => simp [chk, foot, compatB, argsOf, St.get, target, ev, look, lidsL, hget, kind, AOp.isRaw, wids, wtops, tops, opds, topId, plainR_sk, y4]; done)) | omega)
  all_goals first | rfl
section
variable {s : List (Nat × AV)} {h : List Blk} {K : St → Prop} {g : FuncId} {args args' : List AV} {e : Option Nat} {P : Program}
theorem wcallX_L {n : Nat} {c : Value} {xs : List Int} (hf : Fn P g args' (.tup [.lsl 0 0 n, .lit c]) [iC xs]) (he : rfyL (hget h) args = args') (hp : plainL args' = true)
    (hk : ∀ id H', Ext h H' → H'[id]? = some (iC xs) → K (St.put ⟨s, H'⟩ e (.tup [.lsl id 0 n, .lit c]))) : wcallX P false (.lit (.func (.func g) #[] #[])) args e ⟨s, h⟩ K := by
  refine wcallX_fn hf he hp ?_
  refine hk (0 + h.length) _ (Ext.call _ _ _) ?_
  rw [Nat.zero_add, List.getElem?_append_right (by rw [frzLen]; exact Nat.le_refl _), frzLen, Nat.sub_self]
  show some (renB _ (iC xs)) = _
  simp only [renB, renR_ints]
theorem wcall_L {n : Nat} {c : Value} {xs : List Int} (hf : Fn P g args' (.tup [.lsl 0 0 n, .lit c]) [iC xs]) (he : rfyL (hget h) args = args') (hp : plainL args' = true)
    (hk : ∀ id H', Ext h H' → H'[id]? = some (iC xs) → K (St.put ⟨s, H'⟩ e (.tup [.lsl id 0 n, .lit c]))) : wcall P false (.lit (.func (.func g) #[] #[])) args e ⟨s, h⟩ K := by
  refine wcall_fn hf he hp ?_
  refine hk (0 + h.length) _ (Ext.call _ _ _) ?_
  rw [Nat.zero_add, List.getElem?_append_right (by rw [frzLen]; exact Nat.le_refl _), frzLen, Nat.sub_self]
  show some (renB _ (iC xs)) = _
  simp only [renB, renR_ints]
end
abbrev iB (o : Bool) (xs : List Int) : Blk := .cells o false 1 (xs.map fun x => [i64 x])
abbrev dyB (o nl n1 : Bool) (lo : List Int) (n2 : Bool) (hi : List Int) (n3 : Bool) (s : List Ss) (x : Ss) : Blk := .cells o nl 6 [dyR n1 lo n2 hi n3 s x]
set_option maxHeartbeats 8000000 in
theorem k12d {nil n1 n2 n3 o nl ow oy : Bool} {l : List Sk} {lo hi W W2 : List Int} {s q : List Ss} {x : Ss} {b : ByteArray} {iw iy n : Nat} {H : List Blk} {t : ACode} {K : Exit → St → Prop} (hH : H[0]? = some (dyB o nl n1 lo n2 hi n3 s x)) (hw : H[iw]? = some (iB ow W)) (hy : H[iy]? = some (.cells oy false 3 (ssR q))) (h22 : Gv 2 Try.prog 22 [sts nil l] [cpS l]) (h29 : Fn Try.prog 29 [cpS l, sss false q, tx b] (.tup [.lsl 0 0 n, i64 0]) [iC W2])
    (hnext : ∀ H' o' ow' oy' ia oa, H'[0]? = some (dyB o' nl n1 lo n2 hi n3 s x) → H'[iw]? = some (iB ow' W) → H'[iy]? = some (.cells oy' false 3 (ssR q)) → H'[ia]? = some (iB oa W2) → T none Try.prog muts 312 0 t ⟨[(0, sts nil l), (3, .loc 0 0 0), (5, tx b), (6, .lsl iw 0 W.length), (15, .lsl iy 0 q.length), (17, .lsl ia 0 n), (18, i64 0)], H'⟩ K) :
    T none Try.prog muts 312 0 (c12r4 t) ⟨[(0, sts nil l), (3, .loc 0 0 0), (5, tx b), (6, .lsl iw 0 W.length), (15, .lsl iy 0 q.length)], H⟩ K := by
  have hp : plain (cpS l) = true := plain_cpS l
  replace h22 := And.intro h22 trivial
  replace h29 := And.intro h29 trivial
  replace hnext := PLift.up hnext
  replace hw := PLift.up hw
  replace hy := PLift.up hy
  unfold c12r4
  repeat' (first | ((with_reducible refine T_calm ?_ ?_); rfl) | (with_reducible first | refine T_seq ?_ | refine T_reg ?_ | refine T_draw ?_ | refine T_skip ?_ | refine T_exit ?_ | refine T_block ?_ | refine T_cond_t rfl ?_ | refine T_cond_f rfl ?_ | refine wdW_cons rfl ?_ | refine T_ret ?_ | refine wif_intro ?_ (fun hc => ?_) | refine And.intro ?_ ?_ | intro hc) | simp (maxSteps := 4000000) only [wops_cons, wstep_none, wrun_call, wrun_mv, wop, aop, ev, look, put_some, writes, ores_some, List.map_cons, List.map_nil, List.append_nil, List.replicate_zero, if_true, if_false, Nat.reduceEqDiff, reduceCtorEq, eq_self, *] | simp (disch := omega) only [getD_ints, wrapI] | omega)
  refine wcall_E1 h22.1 rfl (by simp [plainL, plain, plainR_sk]) ?_
  intro v1 H1 hx1 hv1
  obtain ⟨q1, g1⟩ := hx1.cell hH
  obtain ⟨w1, gw1⟩ := hx1.cell hw.down
  obtain ⟨p1, gy1⟩ := hx1.cell hy.down
  replace gw1 := PLift.up gw1
  replace gy1 := PLift.up gy1
  clear hx1 hw hy hH
  repeat' (first | ((with_reducible refine T_calm ?_ ?_); rfl) | (with_reducible first | refine T_seq ?_ | refine T_reg ?_ | refine T_draw ?_ | refine T_skip ?_ | refine T_exit ?_ | refine T_block ?_ | refine T_cond_t rfl ?_ | refine T_cond_f rfl ?_ | refine wdW_cons rfl ?_ | refine T_ret ?_ | refine wif_intro ?_ (fun hc => ?_) | refine And.intro ?_ ?_ | intro hc) | simp (maxSteps := 4000000) only [wops_cons, wstep_none, wrun_call, wrun_mv, wop, aop, ev, look, put_some, writes, ores_some, List.map_cons, List.map_nil, if_true, if_false, Nat.reduceEqDiff, reduceCtorEq, eq_self, *] | simp (disch := omega) only [getD_ints, wrapI] | omega)
  refine wcall_L h29.1 (rL3 hv1 (rds_row (d := 0) gy1.down (plainR_ss q) (ssR_len q)) (rds_plain (d := 0) (v := tx b) rfl) (by omega) (by omega) (by omega)) (by simp [plainL, plain, hp, plainR_ss]) ?_
  intro ia H2 hx2 hba
  obtain ⟨q2, g2⟩ := hx2.cell g1
  obtain ⟨w2, gw2⟩ := hx2.cell gw1.down
  obtain ⟨p2, gy2⟩ := hx2.cell gy1.down
  replace gw2 := PLift.up gw2
  replace gy2 := PLift.up gy2
  replace hba := PLift.up hba
  clear hx2 g1 gw1 gy1 hv1 h22 h29
  repeat' (first | ((with_reducible refine T_calm ?_ ?_); rfl) | (with_reducible first | refine T_seq ?_ | refine T_reg ?_ | refine T_draw ?_ | refine T_skip ?_ | refine T_exit ?_ | refine T_block ?_ | refine T_cond_t rfl ?_ | refine T_cond_f rfl ?_ | refine wdW_cons rfl ?_ | refine T_ret ?_ | refine wif_intro ?_ (fun hc => ?_) | refine And.intro ?_ ?_ | intro hc) | simp (maxSteps := 4000000) only [wops_nil, wops_cons, wstep_none, wrun_mv, wrun_ext, wop, aop, ev, look, put_some, writes, ores_some, thenK, List.getElem?_cons_zero, List.getElem?_cons_succ, Option.map_some, if_true, if_false, Nat.reduceEqDiff, reduceCtorEq, eq_self, *] | simp (disch := omega) only [getD_ints, wrapI] | omega)
  exact T_onlyU [0, 3, 5, 6, 15, 17, 18] rfl (hnext.down _ q2 w2 p2 ia true g2 gw2.down gy2.down hba.down)
end Go.Abs
