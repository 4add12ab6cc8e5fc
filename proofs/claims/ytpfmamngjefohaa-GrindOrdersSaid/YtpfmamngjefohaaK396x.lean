import Derived.Test.YtpfmamngjefohaaK395x
set_option linter.all false
set_option linter.unusedVariables false
set_option linter.unusedSimpArgs false
set_option linter.unusedSectionVars false
namespace Go.Abs
open Go.Proofs
/-! GrindOrders: the wear of one session; what is left -/
theorem ne_resv {H : List Blk} {i N : Nat} {o n : Bool} {z : Nat} {E : List (List AV)} (h : H[i]? = some (.cells o n z E)) (hN : H[N]? = some .resv) : i ≠ N := fun e => by rw [e, hN] at h; simp at h
set_option maxHeartbeats 8000000 in
theorem k12e {nil n1 n2 n3 o nl ow oa : Bool} {l : List Sk} {lo hi W W2 W3 : List Int} {s q : List Ss} {x : Ss} {b : ByteArray} {iw ia n : Nat} {vy : AV} {H : List Blk} {t : ACode} {K : Exit → St → Prop} (hH : H[0]? = some (dyB o nl n1 lo n2 hi n3 s x)) (hw : H[iw]? = some (iB ow W)) (hy : Rds 1 H vy (sss false q)) (ha : H[ia]? = some (iB oa W2)) (h22 : Gv 2 Try.prog 22 [sts nil l] [cpS l]) (h29 : Fn Try.prog 29 [cpS l, .sl false 3 [[tx x.mi, tx x.st, i64 x.mn]], tx b] (.tup [.lsl 0 0 n, i64 0]) [iC W3])
    (hnext : ∀ H' o' ow' oa' io oo, H'[0]? = some (dyB o' nl n1 lo n2 hi n3 s x) → H'[iw]? = some (iB ow' W) → Rds 1 H' vy (sss false q) → H'[ia]? = some (iB oa' W2) → H'[io]? = some (iB oo W3) → T none Try.prog muts 312 0 t ⟨[(0, sts nil l), (3, .loc 0 0 0), (5, tx b), (6, .lsl iw 0 W.length), (15, vy), (17, .lsl ia 0 n), (18, i64 0), (19, .lsl io 0 n), (20, i64 0)], H'⟩ K) :
    T none Try.prog muts 312 0 (c12r5 t) ⟨[(0, sts nil l), (3, .loc 0 0 0), (5, tx b), (6, .lsl iw 0 W.length), (15, vy), (17, .lsl ia 0 n), (18, i64 0)], H⟩ K := by
  have hp : plain (cpS l) = true := plain_cpS l
  have y0 := (List.getElem?_eq_some_iff.1 hH).1
  have hr0 := PLift.up ((cells_sub (X := []) (H := H) rfl).1 [.resv])
  have a0 := at_in hH
  replace h22 := And.intro h22 trivial
  replace h29 := And.intro h29 trivial
  replace hnext := PLift.up hnext
  replace hw := PLift.up (at_in hw)
  replace ha := PLift.up (at_in ha)
  replace hy := PLift.up (fun X => hy.ext (Ext.app H X))
  unfold c12r5
  repeat' (first | ((with_reducible refine T_calm ?_ ?_); rfl) | (with_reducible first | refine T_seq ?_ | refine T_reg ?_ | refine T_draw ?_ | refine T_skip ?_ | refine T_exit ?_ | refine T_block ?_ | refine T_cond_t rfl ?_ | refine T_cond_f rfl ?_ | refine wdW_cons rfl ?_ | refine T_ret ?_ | refine wif_intro ?_ (fun hc => ?_) | refine And.intro ?_ ?_ | intro hc) | simp (maxSteps := 4000000) only [wrun_mv, wrunX_mv, wstepX_none, wrunX_call, wop, aop, ev, look, put_some, writes, ores_some, List.map_cons, List.map_nil, List.replicate_zero, List.replicate_succ, if_true, if_false, Nat.reduceEqDiff, reduceCtorEq, eq_self, *] | simp (disch := omega) only [getD_ints, wrapI] | (with_reducible refine wdW_cons ?_ ?_; (next => simp [chk, foot, compatB, argsOf, St.get, target, ev, look, lidsL, hget, kind, AOp.isRaw, wids, wtops, tops, opds, topId, plainR_sk, y0]; done)) | omega)
  refine wcallX_F1 h22.1 rfl (by simp [plainL, plain, plainR_sk]) hp (rfy_plain _ hp 2) ?_
  intro v1 H1 hx1 hr1 hv1
  obtain ⟨q1, g1⟩ := hx1.cell (a0 _)
  obtain ⟨w1, gw1⟩ := hx1.cell (hw.down _)
  obtain ⟨p1, ga1⟩ := hx1.cell (ha.down _)
  have hy1 := PLift.up ((hy.down _).ext hx1)
  have r1 := hr1 _ hr0.down
  have y1 := (List.getElem?_eq_some_iff.1 g1).1
  have yN := (List.getElem?_eq_some_iff.1 r1).1
  have nN : 0 ≠ H.length := by omega
  have nM : ¬H = [] := fun h => by rw [h] at y0; simp at y0
  have m1 := hv1.resv (by omega) r1
  have sN : ∀ v, (H1.set H.length v)[H.length]? = some v := fun v => List.getElem?_set_self yN
  have s0 : ∀ v, (H1.set H.length v)[0]? = some _ := fun v => look_off g1 nN v
  have sw := PLift.up (fun v => look_off gw1 (ne_resv gw1 r1) v)
  have sa := PLift.up (fun v => look_off ga1 (ne_resv ga1 r1) v)
  have sy := PLift.up (fun v => hy1.down.ext (Ext.set_resv r1 v))
  have sv := PLift.up (fun v => hv1.ext (Ext.set_resv r1 v))
  clear hx1 hr1 hr0 hw ha hy hy1 gw1 ga1 hH a0 hv1
  repeat' (first | ((with_reducible refine T_calm ?_ ?_); rfl) | (with_reducible first | refine T_seq ?_ | refine T_reg ?_ | refine T_draw ?_ | refine T_skip ?_ | refine T_exit ?_ | refine T_block ?_ | refine T_cond_t rfl ?_ | refine T_cond_f rfl ?_ | refine wdW_cons rfl ?_ | refine T_ret ?_ | refine wif_intro ?_ (fun hc => ?_) | refine And.intro ?_ ?_ | intro hc) | simp (maxSteps := 4000000) only [wrun_mv, wrun_load, wrun_faddr, wrun_bslice, wrunX_mv, wrunX_load, wrunX_faddr, wrunX_bslice, wstepX_none, wrunX_call, wop, aop, ev, look, put_some, writes, ores_some, value, cut, hget, fillA, putCells, AV.parts, isOne, toLits, mkAgg, ofValue_int, ofValue_str, List.flatten_cons, List.flatten_nil, rowsOf, List.map_cons, List.map_nil, List.length_cons, List.length_nil, List.take_succ_cons, List.take_zero, List.take_nil, List.drop_succ_cons, List.drop_zero, List.drop_nil, List.nil_append, List.append_nil, List.replicate_zero, List.replicate_succ, List.getD_cons_zero, List.all_cons, List.all_nil, Option.getD_some, Option.map_some, if_true, if_false, Nat.reduceEqDiff, Nat.reduceAdd, Nat.add_zero, Nat.zero_add, Nat.zero_mul, Nat.le_refl, reduceCtorEq, Bool.and_true, eq_self, true_and, and_self, List.all_cons, *] | simp (disch := omega) only [getD_ints, wrapI] | (with_reducible refine wdW_cons ?_ ?_; (next => simp [chk, foot, compatB, argsOf, St.get, target, ev, look, lidsL, kind, AOp.isRaw, wids, tops, opds, topId, nM, lids]; done)) | omega)
  refine wcallX_L h29.1 (rL3 (sv.down _) (rds_row (d := 0) (sN _) rfl rfl) (rds_plain (d := 0) (v := tx b) rfl) (by omega) (by omega) (by omega)) (by simp [plainL, plain, hp, plainR]) ?_
  intro io H2 hx2 hbo
  obtain ⟨q2, g2⟩ := hx2.cell (s0 _)
  obtain ⟨w2, gw2⟩ := hx2.cell (sw.down _)
  obtain ⟨p2, ga2⟩ := hx2.cell (sa.down _)
  have hy2 := PLift.up ((sy.down _).ext hx2)
  replace gw2 := PLift.up gw2
  replace ga2 := PLift.up ga2
  replace hbo := PLift.up hbo
  have y2 := (List.getElem?_eq_some_iff.1 g2).1
  clear hx2 sN s0 sw sa sy sv m1 r1 yN nN nM h22 h29 g1
  repeat' (first | ((with_reducible refine T_calm ?_ ?_); rfl) | (with_reducible first | refine T_seq ?_ | refine T_reg ?_ | refine T_draw ?_ | refine T_skip ?_ | refine T_exit ?_ | refine T_block ?_ | refine T_cond_t rfl ?_ | refine T_cond_f rfl ?_ | refine wdW_cons rfl ?_ | refine T_ret ?_ | refine wif_intro ?_ (fun hc => ?_) | refine And.intro ?_ ?_ | intro hc) | simp (maxSteps := 4000000) only [wrun_mv, wrun_ext, wrunX_mv, wrunX_ext, wdW_nil, wstepX_none, wop, aop, ev, look, put_some, writes, ores_some, thenK, List.getElem?_cons_zero, List.getElem?_cons_succ, Option.map_some, if_true, if_false, Nat.reduceEqDiff, reduceCtorEq, eq_self, *] | simp (disch := omega) only [getD_ints, wrapI] | (with_reducible refine wdW_cons ?_ ?_; (next => simp [chk, foot, compatB, argsOf, St.get, target, ev, look, lidsL, hget, kind, AOp.isRaw, wids, wtops, tops, opds, topId, plainR_sk, y0, y2]; done)) | omega)
  exact T_onlyU [0, 3, 5, 6, 15, 17, 18, 19, 20] rfl (hnext.down _ q2 w2 p2 io true g2 gw2.down hy2.down ga2.down hbo.down)
set_option maxHeartbeats 8000000 in
theorem k12f {nil n1 n2 n3 o nl ow oa oo : Bool} {l : List Sk} {lo hi W W2 W3 L U : List Int} {s q : List Ss} {x : Ss} {b : ByteArray} {iw ia io n : Nat} {vy : AV} {H : List Blk} {t : ACode} {K : Exit → St → Prop} (hH : H[0]? = some (dyB o nl n1 lo n2 hi n3 s x)) (hw : H[iw]? = some (iB ow W)) (hy : Rds 1 H vy (sss false q)) (ha : H[ia]? = some (iB oa W2)) (ho : H[io]? = some (iB oo W3)) (h22 : Gv 2 Try.prog 22 [sts nil l] [cpS l]) (h23 : Gv 2 Try.prog 23 [dmV n1 lo n2 hi] [dmV false lo false hi])
    (h58 : Fn Try.prog 58 [cpS l, dmV false lo false hi, sss false q, tx b] (.tup [.agg [.lsl 0 0 n, .lsl 1 0 n], i64 0]) [iC L, iC U])
    (hnext : ∀ H' o' ow' oa' oo' N il iu on ol ou, H'[0]? = some (dyB o' nl n1 lo n2 hi n3 s x) → H'[iw]? = some (iB ow' W) → H'[ia]? = some (iB oa' W2) → H'[io]? = some (iB oo' W3) → H'[N]? = some (.cells on false 2 [[.lsl il 0 n, .lsl iu 0 n]]) → H'[il]? = some (iB ol L) → H'[iu]? = some (iB ou U) → T none Try.prog muts 312 0 t ⟨[(3, .loc 0 0 0), (6, .lsl iw 0 W.length), (17, .lsl ia 0 n), (18, i64 0), (19, .lsl io 0 n), (20, i64 0), (21, .loc N 0 0), (22, i64 0)], H'⟩ K) :
    T none Try.prog muts 312 0 (c12r6 t) ⟨[(0, sts nil l), (3, .loc 0 0 0), (5, tx b), (6, .lsl iw 0 W.length), (15, vy), (17, .lsl ia 0 n), (18, i64 0), (19, .lsl io 0 n), (20, i64 0)], H⟩ K := by
  have hp : plain (cpS l) = true := plain_cpS l
  have y0 := (List.getElem?_eq_some_iff.1 hH).1
  have hr0 := PLift.up ((cells_sub (X := []) (H := H) rfl).1 [.resv])
  have a0 := at_in hH
  replace h22 := And.intro h22 trivial
  replace h23 := And.intro h23 trivial
  replace h58 := And.intro h58 trivial
  replace hnext := PLift.up hnext
  replace hw := PLift.up (at_in hw)
  replace ha := PLift.up (at_in ha)
  replace ho := PLift.up (at_in ho)
  replace hy := PLift.up (fun X => hy.ext (Ext.app H X))
  unfold c12r6
  repeat' (first | ((with_reducible refine T_calm ?_ ?_); rfl) | (with_reducible first | refine T_seq ?_ | refine T_reg ?_ | refine T_draw ?_ | refine T_skip ?_ | refine T_exit ?_ | refine T_block ?_ | refine T_cond_t rfl ?_ | refine T_cond_f rfl ?_ | refine wdW_cons rfl ?_ | refine T_ret ?_ | refine wif_intro ?_ (fun hc => ?_) | refine And.intro ?_ ?_ | intro hc) | simp (maxSteps := 4000000) only [wrun_mv, wrunX_mv, wstepX_none, wrunX_call, wop, aop, ev, look, put_some, writes, ores_some, List.map_cons, List.map_nil, List.replicate_zero, List.replicate_succ, if_true, if_false, Nat.reduceEqDiff, reduceCtorEq, eq_self, *] | simp (disch := omega) only [getD_ints, wrapI] | (with_reducible refine wdW_cons ?_ ?_; (next => simp [chk, foot, compatB, argsOf, St.get, target, ev, look, lidsL, hget, kind, AOp.isRaw, wids, wtops, tops, opds, topId, plainR_sk, y0]; done)) | omega)
  refine wcallX_F1 h22.1 rfl (by simp [plainL, plain, plainR_sk]) hp (rfy_plain _ hp 2) ?_
  intro v1 H1 hx1 hr1 hv1
  obtain ⟨q1, g1⟩ := hx1.cell (a0 _)
  obtain ⟨w1, gw1⟩ := hx1.cell (hw.down _)
  obtain ⟨p1, ga1⟩ := hx1.cell (ha.down _)
  obtain ⟨t1, go1⟩ := hx1.cell (ho.down _)
  have hy1 := PLift.up ((hy.down _).ext hx1)
  have y1 := (List.getElem?_eq_some_iff.1 g1).1
  replace hr1 := PLift.up (hr1 _ hr0.down)
  have yr1 := (List.getElem?_eq_some_iff.1 hr1.down).1
  replace gw1 := PLift.up gw1
  replace ga1 := PLift.up ga1
  replace go1 := PLift.up go1
  clear hx1 hr0 hw ha ho hy
  repeat' (first | ((with_reducible refine T_calm ?_ ?_); rfl) | (with_reducible first | refine T_seq ?_ | refine T_reg ?_ | refine T_draw ?_ | refine T_skip ?_ | refine T_exit ?_ | refine T_block ?_ | refine T_cond_t rfl ?_ | refine T_cond_f rfl ?_ | refine wdW_cons rfl ?_ | refine T_ret ?_ | refine wif_intro ?_ (fun hc => ?_) | refine And.intro ?_ ?_ | intro hc) | simp (maxSteps := 4000000) only [wrun_load, wrun_faddr, wrunX_load, wrunX_faddr, wstepX_none, wrunX_call, wop, aop, ev, look, put_some, writes, ores_some, value, cut, hget, toLits, mkAgg, List.map_cons, List.map_nil, List.length_cons, List.length_nil, List.take_succ_cons, List.take_zero, List.drop_zero, List.getD_cons_zero, Option.getD_some, Option.map_some, if_true, if_false, Nat.reduceEqDiff, Nat.reduceAdd, Nat.add_zero, Nat.zero_add, reduceCtorEq, eq_self, *] | simp (disch := omega) only [getD_ints, wrapI] | (with_reducible refine wdW_cons ?_ ?_; (next => simp [chk, foot, compatB, argsOf, St.get, target, ev, look, lidsL, kind, AOp.isRaw, wids, tops, opds, topId]; done)) | omega)
  refine wcallX_F1 h23.1 rfl (by simp [plainL, plain]) (by simp [plain, plainL]) (rfy_plain _ (by simp [plain, plainL]) 2) ?_
  intro v2 H2 hx2 hr2 hv2
  obtain ⟨q2, g2⟩ := hx2.cell g1
  obtain ⟨w2, gw2⟩ := hx2.cell gw1.down
  obtain ⟨p2, ga2⟩ := hx2.cell ga1.down
  obtain ⟨t2, go2⟩ := hx2.cell go1.down
  have hy2 := PLift.up (hy1.down.ext hx2)
  have y2 := (List.getElem?_eq_some_iff.1 g2).1
  replace hr2 := PLift.up (hr2 _ hr1.down)
  have yr2 := (List.getElem?_eq_some_iff.1 hr2.down).1
  replace hv1 := hv1.ext hx2
  replace gw2 := PLift.up gw2
  replace ga2 := PLift.up ga2
  replace go2 := PLift.up go2
  clear hx2 hr1 gw1 ga1 go1 hy1
  repeat' (first | ((with_reducible refine T_calm ?_ ?_); rfl) | (with_reducible first | refine T_seq ?_ | refine T_reg ?_ | refine T_draw ?_ | refine T_skip ?_ | refine T_exit ?_ | refine T_block ?_ | refine T_cond_t rfl ?_ | refine T_cond_f rfl ?_ | refine wdW_cons rfl ?_ | refine T_ret ?_ | refine wif_intro ?_ (fun hc => ?_) | refine And.intro ?_ ?_ | intro hc) | simp (maxSteps := 4000000) only [wrun_mv, wrunX_mv, wstepX_none, wrunX_call, wop, aop, ev, look, put_some, writes, ores_some, List.map_cons, List.map_nil, if_true, if_false, Nat.reduceEqDiff, reduceCtorEq, eq_self, *] | simp (disch := omega) only [getD_ints, wrapI] | (with_reducible refine wdW_cons ?_ ?_; (next => simp [chk, foot, compatB, argsOf, St.get, target, ev, look, lidsL, hget, kind, AOp.isRaw, wids, wtops, tops, opds, topId, plainR_sk, y0, y1, y2]; done)) | omega)
  refine wcallX_D h58.1 (rL4 hv1 hv2 hy2.down (rds_plain (d := 0) (v := tx b) rfl) (by omega) (by omega) (by omega) (by omega)) (by simp [plainL, plain, hp, plainR_ss]) ?_
  intro il iu H4 hx4 hr4 hil hiu
  obtain ⟨q4, g4⟩ := hx4.cell g2
  obtain ⟨w4, gw4⟩ := hx4.cell gw2.down
  obtain ⟨p4, ga4⟩ := hx4.cell ga2.down
  obtain ⟨t4, go4⟩ := hx4.cell go2.down
  have y4 := (List.getElem?_eq_some_iff.1 g4).1
  have r4 := hr4 _ hr2.down
  have m1 := hv1.resv (by omega) hr2.down
  have m2 := hv2.resv (by omega) hr2.down
  have m3 := hy2.down.resv (by omega) hr2.down
  have yN := (List.getElem?_eq_some_iff.1 r4).1
  have nN : 0 ≠ H.length := by omega
  have nM : ¬H = [] := fun h => by rw [h] at y0; simp at y0
  have sN : ∀ v, (H4.set H.length v)[H.length]? = some v := fun v => List.getElem?_set_self yN
  have s0 : ∀ v, (H4.set H.length v)[0]? = some _ := fun v => look_off g4 nN v
  have sw := PLift.up (fun v => look_off gw4 (ne_resv gw4 r4) v)
  have sa := PLift.up (fun v => look_off ga4 (ne_resv ga4 r4) v)
  have so := PLift.up (fun v => look_off go4 (ne_resv go4 r4) v)
  have sl := PLift.up (fun v => look_off hil (ne_resv hil r4) v)
  have su := PLift.up (fun v => look_off hiu (ne_resv hiu r4) v)
  have ss : ∀ v w, (H4.set H.length v).set H.length w = H4.set H.length w := fun v w => List.set_set ..
  clear hx4 hr4 hr2 hv1 hv2 hH g1 g2 h22 h23 h58 y1 y2 a0 hil hiu gw4 ga4 go4 gw2 ga2 go2 hy2
  repeat' (first | ((with_reducible refine T_calm ?_ ?_); rfl) | (with_reducible first | refine T_seq ?_ | refine T_reg ?_ | refine T_draw ?_ | refine T_skip ?_ | refine T_exit ?_ | refine T_block ?_ | refine T_cond_t rfl ?_ | refine T_cond_f rfl ?_ | refine wdW_cons rfl ?_ | refine T_ret ?_ | refine wif_intro ?_ (fun hc => ?_) | refine And.intro ?_ ?_ | intro hc) | simp (maxSteps := 4000000) only [wrun_mv, wrun_ext, wrun_store, wrun_alloc, wrunX_mv, wrunX_ext, wrunX_store, wrunX_alloc, wdW_nil, wstepX_none, wop, aop, ev, look, put_some, put_none, writes, ores_some, thenK, hget, putCells, AV.parts, isOne, List.length_cons, List.length_nil, List.getElem?_cons_zero, List.getElem?_cons_succ, List.set_cons_zero, List.take_zero, List.drop_succ_cons, List.drop_nil, List.nil_append, List.append_nil, List.getD_cons_zero, List.all_cons, List.all_nil, Option.getD_some, Option.map_some, if_true, if_false, Nat.reduceEqDiff, Nat.reduceAdd, Nat.reduceLT, Nat.add_zero, Nat.zero_add, Nat.le_refl, reduceCtorEq, Bool.and_true, eq_self, true_and, and_self, List.all_cons, *] | simp (disch := omega) only [getD_ints, wrapI] | (with_reducible refine wdW_cons ?_ ?_; (next => simp [chk, foot, compatB, argsOf, St.get, target, ev, look, lidsL, kind, AOp.isRaw, wids, tops, opds, topId, nM, m1, m2, m3, yr1, yr2, lids]; done)) | omega)
  exact T_onlyU [3, 6, 17, 18, 19, 20, 21, 22] rfl (hnext.down _ q4 w4 p4 t4 H.length il iu true true true (s0 _) (sw.down _) (sa.down _) (so.down _) (sN _) (sl.down _) (su.down _))
end Go.Abs
