import Derived.Test.YtdedhipkncagjaaK512
set_option linter.all false
set_option linter.unusedVariables false
set_option linter.unusedSimpArgs false
set_option linter.unusedSectionVars false
namespace Go.Abs
open Go.Proofs
/-! TopNeverDigs: a session is tried -/
set_option maxHeartbeats 8000000 in
theorem k4sAok {n1 n2 n3 nil o o1 m1 oa ob : Bool} {l : List Sk} {s : List Ss} {b : ByteArray} {hs ws lo hi : List Int} {i n ia ib : Nat} {wv : AV} {H : List Blk} {t : ACode} {K : Exit → St → Prop} {bb : Nat} (hH : H[0]? = some (xB4 o nil l n3 s b)) (hD : H[1]? = some (.cells o1 m1 2 [[.lsl ia 0 n, .lsl ib 0 n]])) (ha : H[ia]? = some (iB oa lo)) (hb : H[ib]? = some (iB ob hi)) (hlo : lo.length = n) (hhi : hi.length = n) (hi9 : i < s.length) (hs9 : s.length ≤ 1000)
    (hsz : ¬(30 < (s.getD i ss0).mi.size) ∧ ¬(30 < (s.getD i ss0).st.size))
    (h17 : Fn Try.prog 17 [sts nil l, dmV false lo false hi, .sl false 3 (ssR ([] : List Ss)), ssV (s.getD i ss0)] (.tup [.lsl 0 0 (([] : List Ss).length + 1), i64 0]) [.cells false false 3 (ssR (([] : List Ss) ++ [s.getD i ss0]))])
    (hnext : ∀ H' iy o', Ext H H' → H'[H.length]? = some (.cells o' false 3 [[tx (s.getD i ss0).mi, tx (s.getD i ss0).st, i64 (s.getD i ss0).mn]]) → H'[iy]? = some (.cells false false 3 (ssR (([] : List Ss) ++ [s.getD i ss0]))) → T none Try.prog muts 217 bb t ⟨[(1, ints n1 hs), (2, ints n2 ws), (3, .loc 0 0 0), (8, .loc 1 0 0), (10, (.sl true 0 [])), (11, wv), (12, i64 i), (13, .loc H.length 0 0), (14, .lsl iy 0 (([] : List Ss).length + 1))], H'⟩ K) :
    T none Try.prog muts 217 bb (c4r4 t) ⟨[(1, ints n1 hs), (2, ints n2 ws), (3, .loc 0 0 0), (8, .loc 1 0 0), (10, (.sl true 0 [])), (11, wv), (12, i64 i)], H⟩ K := by
  have hll := ssR_len s
  have gg := ssR_get hi9
  have hic : (i : Int) < (s.length : Int) := by omega
  have y0 := (List.getElem?_eq_some_iff.1 hH).1
  have yD := (List.getElem?_eq_some_iff.1 hD).1
  have nM : ¬H = [] := fun h => by rw [h] at y0; simp at y0
  obtain ⟨u1, u2, u3, u4⟩ := cells_sub (X := []) (H := H) rfl
  have w1 : ¬H.length + 1 + 1 = H.length := by omega
  have w2 : ¬H.length + 1 = H.length := by omega
  have w3 : ¬H.length + 1 + 1 = H.length + 1 := by omega
  have w4 : ¬H.length = H.length + 1 + 1 := by omega
  have w5 : ¬H.length = H.length + 1 := by omega
  have u5 : ∀ Y, (H ++ Y)[H.length + 1 + 1]? = Y[2]? := fun Y => u2 Y 2
  have u6 : ∀ Y v, (H ++ Y).set (H.length + 1 + 1) v = H ++ Y.set 2 v := fun Y v => u4 Y 2 v
  have a0 := at_in hH
  have a1 := at_in hD
  have d1 : decide (((s.getD i ss0).mi.size : Int) > 30) = false := decide_eq_false (by omega)
  have d2 : decide (((s.getD i ss0).st.size : Int) > 30) = false := decide_eq_false (by omega)
  replace ha := PLift.up (at_in ha)
  replace hb := PLift.up (at_in hb)
  replace h17 := And.intro h17 trivial
  replace hnext := PLift.up hnext
  have hx0 := PLift.up (fun Y => Ext.app H Y)
  have hSp := plainR_ss ([] : List Ss)
  clear hsz
  generalize s.getD i ss0 = x at *
  unfold c4r4
  repeat' (first | ((with_reducible refine T_calm ?_ ?_); rfl) | (with_reducible first | refine T_seq ?_ | refine T_reg ?_ | refine T_draw ?_ | refine T_skip ?_ | refine T_exit ?_ | refine T_block ?_ | refine T_cond_t rfl ?_ | refine T_cond_f rfl ?_ | refine wdW_cons rfl ?_ | refine T_ret ?_ | refine wif_intro ?_ (fun hc => ?_) | refine And.intro ?_ ?_ | intro hc) | simp (maxSteps := 4000000) only [wops_nil, wops_cons, wstep_none, wstep_some, wguard_ff, wrun_mv, wrun_pick, wrun_bin, wrun_load, wrun_store, wrun_faddr, wrun_iaddrS, wrun_lenS, wrun_alloc, wrun_bslice, wrun_app, wrunX_mv, wrunX_load, wrunX_faddr, wrunX_bslice, wrunX_app, wstepX_none, wrunX_call, wop, aop, ev, look, put_some, put_none, writes, ores_some, ores_ite_none, binV, thenK, intV, elsOf, szOk, value, cut, hget, fillA, putCells, AV.parts, isOne, toLits, mkAgg, ofValue_int, ofValue_str, List.flatten_nil, rowsOf, List.map_cons, List.map_nil, List.length_cons, List.length_nil, List.getElem?_cons_zero, List.getElem?_cons_succ, List.set_cons_zero, List.set_cons_succ, List.take_succ_cons, List.take_zero, List.take_nil, List.drop_succ_cons, List.drop_zero, List.drop_nil, List.cons_append, List.nil_append, List.append_nil, List.append_assoc, List.replicate_zero, List.replicate_succ, List.getD_cons_zero, List.all_cons, List.all_nil, List.isEmpty_nil, List.length_append, Option.getD_some, Option.map_some, if_true, if_false, Nat.reduceEqDiff, Nat.reduceAdd, Nat.reduceLeDiff, Nat.reduceLT, Nat.reduceBEq, Nat.add_zero, Nat.zero_add, Nat.sub_self, Nat.zero_mul, Nat.le_refl, reduceCtorEq, Bool.and_true, Bool.or_false, Bool.false_eq_true, eq_self, true_and, and_true, and_self, List.all_cons, Int.toNat_natCast, *] | simp (disch := omega) only [getD_ints, wrapI] | (with_reducible refine wdW_cons ?_ ?_; (next => simp [chk, foot, compatB, St.get, ev, look, kind, AOp.isRaw, wids, wtops, tops, opds, topId, nM, w1]; done)) | omega)
  refine wcallX_S h17.1 (rL4 (rds_plain (d := 0) (by simp [plain, plainR_sk])) (rds_dm (rds_row (d := 0) (ha.down _) (plainR_ints _) (by rw [List.length_map]; exact hlo)) (rds_row (d := 0) (hb.down _) (plainR_ints _) (by rw [List.length_map]; exact hhi))) (rds_row (d := 0) ((u5 _).trans rfl) hSp rfl) (rds_plain (d := 0) (v := ssV x) rfl) (by omega) (by omega) (by omega) (by omega)) (by simp [plainL, plain, plainR_sk, hSp]) ?_
  intro iy H4 hx4 hby
  obtain ⟨q4, g4⟩ := hx4.cell ((u1 _).trans rfl)
  obtain ⟨q5, g5⟩ := hx4.cell (a0 _)
  have y4 := (List.getElem?_eq_some_iff.1 g5).1
  have hx := PLift.up ((hx0.down _).trans hx4)
  replace g4 := PLift.up g4
  replace hby := PLift.up hby
  clear hx4 hx0 hH hD ha hb h17 u1 u2 u3 u4 u5 u6 a0 a1 y0 yD nM w1 w2 w3 w4 w5 d1 d2
  repeat' (first | ((with_reducible refine T_calm ?_ ?_); rfl) | (with_reducible first | refine T_seq ?_ | refine T_reg ?_ | refine T_draw ?_ | refine T_skip ?_ | refine T_exit ?_ | refine T_block ?_ | refine T_cond_t rfl ?_ | refine T_cond_f rfl ?_ | refine wdW_cons rfl ?_ | refine T_ret ?_ | refine wif_intro ?_ (fun hc => ?_) | refine And.intro ?_ ?_ | intro hc) | simp (maxSteps := 4000000) only [wops_nil, wops_cons, wstep_none, wrun_mv, wrun_bin, wrun_ext, wrunX_mv, wrunX_ext, wdW_nil, wstepX_none, wop, aop, ev, look, put_some, writes, ores_some, binV, thenK, List.length_nil, List.getElem?_cons_zero, List.getElem?_cons_succ, List.append_nil, List.replicate_zero, Option.map_some, if_true, if_false, Nat.reduceEqDiff, Nat.zero_add, reduceCtorEq, eq_self, *] | simp (disch := omega) only [getD_ints, wrapI] | (with_reducible refine wdW_cons ?_ ?_; (next => simp [chk, foot, compatB, argsOf, St.get, target, ev, look, lidsL, hget, kind, AOp.isRaw, wids, wtops, tops, opds, topId, plainR_sk, y4]; done)) | omega)
  exact T_onlyU [1, 2, 3, 8, 10, 11, 12, 13, 14] rfl (hnext.down _ iy _ hx.down g4.down hby.down)
set_option maxHeartbeats 8000000 in
theorem k4sAer {n1 n2 n3 nil o o1 m1 oa ob : Bool} {l : List Sk} {s : List Ss} {b : ByteArray} {hs ws lo hi : List Int} {i n ia ib : Nat} {wv : AV} {H : List Blk} {t : ACode} {K : Exit → St → Prop} {bb : Nat} (hH : H[0]? = some (xB4 o nil l n3 s b)) (hD : H[1]? = some (.cells o1 m1 2 [[.lsl ia 0 n, .lsl ib 0 n]])) (ha : H[ia]? = some (iB oa lo)) (hb : H[ib]? = some (iB ob hi)) (hlo : lo.length = n) (hhi : hi.length = n) (hi9 : i < s.length) (hs9 : s.length ≤ 1000)
    (hsz : ¬(30 < (s.getD i ss0).mi.size) ∧ ¬(30 < (s.getD i ss0).st.size))
    {E : Int} (hE : E ≠ 0) (h17 : Fn Try.prog 17 [sts nil l, dmV false lo false hi, .sl false 3 (ssR ([] : List Ss)), ssV (s.getD i ss0)] (.tup [.sl true 0 [], i64 E]) [])
    (hnext : ∀ τ : St, Ext H τ.heap → (τ.only [1, 2, 3, 8, 10, 11, 12]).slots = [(1, ints n1 hs), (2, ints n2 ws), (3, .loc 0 0 0), (8, .loc 1 0 0), (10, (.sl true 0 [])), (11, wv), (12, i64 i)] → K (.exit 5) τ) :
    T none Try.prog muts 217 bb (c4r4 t) ⟨[(1, ints n1 hs), (2, ints n2 ws), (3, .loc 0 0 0), (8, .loc 1 0 0), (10, (.sl true 0 [])), (11, wv), (12, i64 i)], H⟩ K := by
  have hll := ssR_len s
  have gg := ssR_get hi9
  have hic : (i : Int) < (s.length : Int) := by omega
  have y0 := (List.getElem?_eq_some_iff.1 hH).1
  have yD := (List.getElem?_eq_some_iff.1 hD).1
  have nM : ¬H = [] := fun h => by rw [h] at y0; simp at y0
  obtain ⟨u1, u2, u3, u4⟩ := cells_sub (X := []) (H := H) rfl
  have w1 : ¬H.length + 1 + 1 = H.length := by omega
  have w2 : ¬H.length + 1 = H.length := by omega
  have w3 : ¬H.length + 1 + 1 = H.length + 1 := by omega
  have w4 : ¬H.length = H.length + 1 + 1 := by omega
  have w5 : ¬H.length = H.length + 1 := by omega
  have u5 : ∀ Y, (H ++ Y)[H.length + 1 + 1]? = Y[2]? := fun Y => u2 Y 2
  have u6 : ∀ Y v, (H ++ Y).set (H.length + 1 + 1) v = H ++ Y.set 2 v := fun Y v => u4 Y 2 v
  have a0 := at_in hH
  have a1 := at_in hD
  have d1 : decide (((s.getD i ss0).mi.size : Int) > 30) = false := decide_eq_false (by omega)
  have d2 : decide (((s.getD i ss0).st.size : Int) > 30) = false := decide_eq_false (by omega)
  have dE : (E != 0) = true := by simp only [bne_iff_ne]; exact hE
  replace ha := PLift.up (at_in ha)
  replace hb := PLift.up (at_in hb)
  replace h17 := And.intro h17 trivial
  replace hnext := PLift.up hnext
  have hx0 := PLift.up (fun Y => Ext.app H Y)
  have hSp := plainR_ss ([] : List Ss)
  clear hsz hE
  generalize s.getD i ss0 = x at *
  unfold c4r4
  repeat' (first | ((with_reducible refine T_calm ?_ ?_); rfl) | (with_reducible first | refine T_seq ?_ | refine T_reg ?_ | refine T_draw ?_ | refine T_skip ?_ | refine T_exit ?_ | refine T_block ?_ | refine T_cond_t rfl ?_ | refine T_cond_f rfl ?_ | refine wdW_cons rfl ?_ | refine T_ret ?_ | refine wif_intro ?_ (fun hc => ?_) | refine And.intro ?_ ?_ | intro hc) | simp (maxSteps := 4000000) only [wops_nil, wops_cons, wstep_none, wstep_some, wguard_ff, wrun_mv, wrun_pick, wrun_bin, wrun_load, wrun_store, wrun_faddr, wrun_iaddrS, wrun_lenS, wrun_alloc, wrun_bslice, wrun_app, wrunX_mv, wrunX_load, wrunX_faddr, wrunX_bslice, wrunX_app, wstepX_none, wrunX_call, wop, aop, ev, look, put_some, put_none, writes, ores_some, ores_ite_none, binV, thenK, intV, elsOf, szOk, value, cut, hget, fillA, putCells, AV.parts, isOne, toLits, mkAgg, ofValue_int, ofValue_str, List.flatten_nil, rowsOf, List.map_cons, List.map_nil, List.length_cons, List.length_nil, List.getElem?_cons_zero, List.getElem?_cons_succ, List.set_cons_zero, List.set_cons_succ, List.take_succ_cons, List.take_zero, List.take_nil, List.drop_succ_cons, List.drop_zero, List.drop_nil, List.cons_append, List.nil_append, List.append_nil, List.append_assoc, List.replicate_zero, List.replicate_succ, List.getD_cons_zero, List.all_cons, List.all_nil, List.isEmpty_nil, List.length_append, Option.getD_some, Option.map_some, if_true, if_false, Nat.reduceEqDiff, Nat.reduceAdd, Nat.reduceLeDiff, Nat.reduceLT, Nat.reduceBEq, Nat.add_zero, Nat.zero_add, Nat.sub_self, Nat.zero_mul, Nat.le_refl, reduceCtorEq, Bool.and_true, Bool.or_false, Bool.false_eq_true, eq_self, true_and, and_true, and_self, List.all_cons, Int.toNat_natCast, *] | simp (disch := omega) only [getD_ints, wrapI] | (with_reducible refine wdW_cons ?_ ?_; (next => simp [chk, foot, compatB, St.get, ev, look, kind, AOp.isRaw, wids, wtops, tops, opds, topId, nM, w1]; done)) | omega)
  refine wcallX_E0 h17.1 (by simp [plain, plainL, plainR]) (rL4 (rds_plain (d := 0) (by simp [plain, plainR_sk])) (rds_dm (rds_row (d := 0) (ha.down _) (plainR_ints _) (by rw [List.length_map]; exact hlo)) (rds_row (d := 0) (hb.down _) (plainR_ints _) (by rw [List.length_map]; exact hhi))) (rds_row (d := 0) ((u5 _).trans rfl) hSp rfl) (rds_plain (d := 0) (v := ssV x) rfl) (by omega) (by omega) (by omega) (by omega)) (by simp [plainL, plain, plainR_sk, hSp]) ?_
  intro H4 hx4
  obtain ⟨q5, g5⟩ := hx4.cell (a0 _)
  have y4 := (List.getElem?_eq_some_iff.1 g5).1
  have hx := PLift.up ((hx0.down _).trans hx4)
  clear hx4 hx0 hH hD ha hb h17 u1 u2 u3 u4 u5 u6 a0 a1 y0 yD nM w1 w2 w3 w4 w5 d1 d2
  repeat' (first | ((with_reducible refine T_calm ?_ ?_); rfl) | (with_reducible first | refine T_seq ?_ | refine T_reg ?_ | refine T_draw ?_ | refine T_skip ?_ | refine T_exit ?_ | refine T_block ?_ | refine T_cond_t rfl ?_ | refine T_cond_f rfl ?_ | refine wdW_cons rfl ?_ | refine T_ret ?_ | refine wif_intro ?_ (fun hc => ?_) | refine And.intro ?_ ?_ | intro hc) | simp (maxSteps := 4000000) only [wops_nil, wops_cons, wstep_none, wrun_mv, wrun_bin, wrun_ext, wrunX_mv, wrunX_ext, wdW_nil, wstepX_none, wop, aop, ev, look, put_some, writes, ores_some, binV, thenK, List.getElem?_cons_zero, List.getElem?_cons_succ, List.append_nil, List.replicate_zero, Option.map_some, if_true, if_false, Nat.reduceEqDiff, reduceCtorEq, eq_self, *] | simp (disch := omega) only [getD_ints, wrapI] | (with_reducible refine wdW_cons ?_ ?_; (next => simp [chk, foot, compatB, argsOf, St.get, target, ev, look, lidsL, hget, kind, AOp.isRaw, wids, wtops, tops, opds, topId, plainR_sk, y4]; done)) | omega)
  exact hnext.down _ hx.down (by simp [St.only, get_mk, look])
set_option maxHeartbeats 8000000 in
theorem k4sBok {n1 n2 n3 nil o o1 m1 oa ob oS : Bool} {l : List Sk} {s S : List Ss} {b : ByteArray} {hs ws lo hi : List Int} {i n ia ib is : Nat} {wv : AV} {H : List Blk} {t : ACode} {K : Exit → St → Prop} {bb : Nat} (hH : H[0]? = some (xB4 o nil l n3 s b)) (hD : H[1]? = some (.cells o1 m1 2 [[.lsl ia 0 n, .lsl ib 0 n]])) (ha : H[ia]? = some (iB oa lo)) (hb : H[ib]? = some (iB ob hi)) (hlo : lo.length = n) (hhi : hi.length = n) (hi9 : i < s.length) (hs9 : s.length ≤ 1000) (hS : H[is]? = some (.cells oS false 3 (ssR S))) (hS9 : S.length ≤ 1000)
    (hsz : ¬(30 < (s.getD i ss0).mi.size) ∧ ¬(30 < (s.getD i ss0).st.size))
    (h17 : Fn Try.prog 17 [sts nil l, dmV false lo false hi, .sl false 3 (ssR S), ssV (s.getD i ss0)] (.tup [.lsl 0 0 (S.length + 1), i64 0]) [.cells false false 3 (ssR (S ++ [s.getD i ss0]))])
    (hnext : ∀ H' iy o', Ext H H' → H'[H.length]? = some (.cells o' false 3 [[tx (s.getD i ss0).mi, tx (s.getD i ss0).st, i64 (s.getD i ss0).mn]]) → H'[iy]? = some (.cells false false 3 (ssR (S ++ [s.getD i ss0]))) → T none Try.prog muts 217 bb t ⟨[(1, ints n1 hs), (2, ints n2 ws), (3, .loc 0 0 0), (8, .loc 1 0 0), (10, (.lsl is 0 S.length)), (11, wv), (12, i64 i), (13, .loc H.length 0 0), (14, .lsl iy 0 (S.length + 1))], H'⟩ K) :
    T none Try.prog muts 217 bb (c4r4 t) ⟨[(1, ints n1 hs), (2, ints n2 ws), (3, .loc 0 0 0), (8, .loc 1 0 0), (10, (.lsl is 0 S.length)), (11, wv), (12, i64 i)], H⟩ K := by
  have hll := ssR_len s
  have gg := ssR_get hi9
  have hic : (i : Int) < (s.length : Int) := by omega
  have y0 := (List.getElem?_eq_some_iff.1 hH).1
  have yD := (List.getElem?_eq_some_iff.1 hD).1
  have nM : ¬H = [] := fun h => by rw [h] at y0; simp at y0
  obtain ⟨u1, u2, u3, u4⟩ := cells_sub (X := []) (H := H) rfl
  have w1 : ¬H.length + 1 + 1 = H.length := by omega
  have w2 : ¬H.length + 1 = H.length := by omega
  have w3 : ¬H.length + 1 + 1 = H.length + 1 := by omega
  have w4 : ¬H.length = H.length + 1 + 1 := by omega
  have w5 : ¬H.length = H.length + 1 := by omega
  have u5 : ∀ Y, (H ++ Y)[H.length + 1 + 1]? = Y[2]? := fun Y => u2 Y 2
  have u6 : ∀ Y v, (H ++ Y).set (H.length + 1 + 1) v = H ++ Y.set 2 v := fun Y v => u4 Y 2 v
  have a0 := at_in hH
  have a1 := at_in hD
  have d1 : decide (((s.getD i ss0).mi.size : Int) > 30) = false := decide_eq_false (by omega)
  have d2 : decide (((s.getD i ss0).st.size : Int) > 30) = false := decide_eq_false (by omega)
  have hSl := ssR_len S
  have htk : List.take S.length (ssR S) = ssR S := List.take_of_length_le (by omega)
  have yS := (List.getElem?_eq_some_iff.1 hS).1
  have aS := at_in hS
  have wS1 : ¬is = H.length := by omega
  have wS2 : ¬is = H.length + 1 := by omega
  have wS3 : ¬is = H.length + 1 + 1 := by omega
  replace ha := PLift.up (at_in ha)
  replace hb := PLift.up (at_in hb)
  replace h17 := And.intro h17 trivial
  replace hnext := PLift.up hnext
  have hx0 := PLift.up (fun Y => Ext.app H Y)
  have hSp := plainR_ss S
  clear hsz
  generalize s.getD i ss0 = x at *
  generalize ssR S = SR at *
  unfold c4r4
  repeat' (first | ((with_reducible refine T_calm ?_ ?_); rfl) | (with_reducible first | refine T_seq ?_ | refine T_reg ?_ | refine T_draw ?_ | refine T_skip ?_ | refine T_exit ?_ | refine T_block ?_ | refine T_cond_t rfl ?_ | refine T_cond_f rfl ?_ | refine wdW_cons rfl ?_ | refine T_ret ?_ | refine wif_intro ?_ (fun hc => ?_) | refine And.intro ?_ ?_ | intro hc) | simp (maxSteps := 4000000) only [wops_nil, wops_cons, wstep_none, wstep_some, wguard_ff, wrun_mv, wrun_pick, wrun_bin, wrun_load, wrun_store, wrun_faddr, wrun_iaddrS, wrun_lenS, wrun_alloc, wrun_bslice, wrun_app, wrunX_mv, wrunX_load, wrunX_faddr, wrunX_bslice, wrunX_app, wstepX_none, wrunX_call, wop, aop, ev, look, put_some, put_none, writes, ores_some, ores_ite_none, binV, thenK, intV, elsOf, szOk, value, cut, hget, fillA, putCells, AV.parts, isOne, toLits, mkAgg, ofValue_int, ofValue_str, List.flatten_nil, rowsOf, List.map_cons, List.map_nil, List.length_cons, List.length_nil, List.getElem?_cons_zero, List.getElem?_cons_succ, List.set_cons_zero, List.set_cons_succ, List.take_succ_cons, List.take_zero, List.take_nil, List.drop_succ_cons, List.drop_zero, List.drop_nil, List.cons_append, List.nil_append, List.append_nil, List.append_assoc, List.replicate_zero, List.replicate_succ, List.getD_cons_zero, List.all_cons, List.all_nil, List.length_append, Option.getD_some, Option.map_some, if_true, if_false, Nat.reduceEqDiff, Nat.reduceAdd, Nat.reduceLT, Nat.add_zero, Nat.zero_add, Nat.sub_zero, Nat.sub_self, Nat.le_refl, reduceCtorEq, Bool.and_true, Bool.false_and, Bool.or_true, Bool.false_eq_true, eq_self, true_and, and_true, and_self, beq_self_eq_true, List.all_cons, Int.toNat_natCast, *] | simp (disch := omega) only [getD_ints, wrapI] | (with_reducible refine wdW_cons ?_ ?_; (next => simp [chk, foot, compatB, St.get, ev, look, kind, AOp.isRaw, wids, wtops, tops, opds, topId, nM, w1]; done)) | omega)
  refine wcallX_S h17.1 (rL4 (rds_plain (d := 0) (by simp [plain, plainR_sk])) (rds_dm (rds_row (d := 0) (ha.down _) (plainR_ints _) (by rw [List.length_map]; exact hlo)) (rds_row (d := 0) (hb.down _) (plainR_ints _) (by rw [List.length_map]; exact hhi))) (rds_row (d := 0) ((u5 _).trans rfl) hSp hSl) (rds_plain (d := 0) (v := ssV x) rfl) (by omega) (by omega) (by omega) (by omega)) (by simp [plainL, plain, plainR_sk, hSp]) ?_
  intro iy H4 hx4 hby
  obtain ⟨q4, g4⟩ := hx4.cell ((u1 _).trans rfl)
  obtain ⟨q5, g5⟩ := hx4.cell (a0 _)
  have y4 := (List.getElem?_eq_some_iff.1 g5).1
  have hx := PLift.up ((hx0.down _).trans hx4)
  replace g4 := PLift.up g4
  replace hby := PLift.up hby
  clear hx4 hx0 hH hD ha hb h17 u1 u2 u3 u4 u5 u6 a0 a1 y0 yD nM w1 w2 w3 w4 w5 d1 d2 hS aS yS wS1 wS2 wS3
  repeat' (first | ((with_reducible refine T_calm ?_ ?_); rfl) | (with_reducible first | refine T_seq ?_ | refine T_reg ?_ | refine T_draw ?_ | refine T_skip ?_ | refine T_exit ?_ | refine T_block ?_ | refine T_cond_t rfl ?_ | refine T_cond_f rfl ?_ | refine wdW_cons rfl ?_ | refine T_ret ?_ | refine wif_intro ?_ (fun hc => ?_) | refine And.intro ?_ ?_ | intro hc) | simp (maxSteps := 4000000) only [wops_nil, wops_cons, wstep_none, wrun_mv, wrun_bin, wrun_ext, wrunX_mv, wrunX_ext, wdW_nil, wstepX_none, wop, aop, ev, look, put_some, writes, ores_some, binV, thenK, List.getElem?_cons_zero, List.getElem?_cons_succ, List.append_nil, List.replicate_zero, Option.map_some, if_true, if_false, Nat.reduceEqDiff, reduceCtorEq, eq_self, *] | simp (disch := omega) only [getD_ints, wrapI] | (with_reducible refine wdW_cons ?_ ?_; (next => simp [chk, foot, compatB, argsOf, St.get, target, ev, look, lidsL, hget, kind, AOp.isRaw, wids, wtops, tops, opds, topId, plainR_sk, y4]; done)) | omega)
  exact T_onlyU [1, 2, 3, 8, 10, 11, 12, 13, 14] rfl (hnext.down _ iy _ hx.down g4.down hby.down)
set_option maxHeartbeats 8000000 in
theorem k4sBer {n1 n2 n3 nil o o1 m1 oa ob oS : Bool} {l : List Sk} {s S : List Ss} {b : ByteArray} {hs ws lo hi : List Int} {i n ia ib is : Nat} {wv : AV} {H : List Blk} {t : ACode} {K : Exit → St → Prop} {bb : Nat} (hH : H[0]? = some (xB4 o nil l n3 s b)) (hD : H[1]? = some (.cells o1 m1 2 [[.lsl ia 0 n, .lsl ib 0 n]])) (ha : H[ia]? = some (iB oa lo)) (hb : H[ib]? = some (iB ob hi)) (hlo : lo.length = n) (hhi : hi.length = n) (hi9 : i < s.length) (hs9 : s.length ≤ 1000) (hS : H[is]? = some (.cells oS false 3 (ssR S))) (hS9 : S.length ≤ 1000)
    (hsz : ¬(30 < (s.getD i ss0).mi.size) ∧ ¬(30 < (s.getD i ss0).st.size))
    {E : Int} (hE : E ≠ 0) (h17 : Fn Try.prog 17 [sts nil l, dmV false lo false hi, .sl false 3 (ssR S), ssV (s.getD i ss0)] (.tup [.sl true 0 [], i64 E]) [])
    (hnext : ∀ τ : St, Ext H τ.heap → (τ.only [1, 2, 3, 8, 10, 11, 12]).slots = [(1, ints n1 hs), (2, ints n2 ws), (3, .loc 0 0 0), (8, .loc 1 0 0), (10, (.lsl is 0 S.length)), (11, wv), (12, i64 i)] → K (.exit 5) τ) :
    T none Try.prog muts 217 bb (c4r4 t) ⟨[(1, ints n1 hs), (2, ints n2 ws), (3, .loc 0 0 0), (8, .loc 1 0 0), (10, (.lsl is 0 S.length)), (11, wv), (12, i64 i)], H⟩ K := by
  have hll := ssR_len s
  have gg := ssR_get hi9
  have hic : (i : Int) < (s.length : Int) := by omega
  have y0 := (List.getElem?_eq_some_iff.1 hH).1
  have yD := (List.getElem?_eq_some_iff.1 hD).1
  have nM : ¬H = [] := fun h => by rw [h] at y0; simp at y0
  obtain ⟨u1, u2, u3, u4⟩ := cells_sub (X := []) (H := H) rfl
  have w1 : ¬H.length + 1 + 1 = H.length := by omega
  have w2 : ¬H.length + 1 = H.length := by omega
  have w3 : ¬H.length + 1 + 1 = H.length + 1 := by omega
  have w4 : ¬H.length = H.length + 1 + 1 := by omega
  have w5 : ¬H.length = H.length + 1 := by omega
  have u5 : ∀ Y, (H ++ Y)[H.length + 1 + 1]? = Y[2]? := fun Y => u2 Y 2
  have u6 : ∀ Y v, (H ++ Y).set (H.length + 1 + 1) v = H ++ Y.set 2 v := fun Y v => u4 Y 2 v
  have a0 := at_in hH
  have a1 := at_in hD
  have d1 : decide (((s.getD i ss0).mi.size : Int) > 30) = false := decide_eq_false (by omega)
  have d2 : decide (((s.getD i ss0).st.size : Int) > 30) = false := decide_eq_false (by omega)
  have hSl := ssR_len S
  have htk : List.take S.length (ssR S) = ssR S := List.take_of_length_le (by omega)
  have yS := (List.getElem?_eq_some_iff.1 hS).1
  have aS := at_in hS
  have wS1 : ¬is = H.length := by omega
  have wS2 : ¬is = H.length + 1 := by omega
  have wS3 : ¬is = H.length + 1 + 1 := by omega
  have dE : (E != 0) = true := by simp only [bne_iff_ne]; exact hE
  replace ha := PLift.up (at_in ha)
  replace hb := PLift.up (at_in hb)
  replace h17 := And.intro h17 trivial
  replace hnext := PLift.up hnext
  have hx0 := PLift.up (fun Y => Ext.app H Y)
  have hSp := plainR_ss S
  clear hsz hE
  generalize s.getD i ss0 = x at *
  generalize ssR S = SR at *
  unfold c4r4
  repeat' (first | ((with_reducible refine T_calm ?_ ?_); rfl) | (with_reducible first | refine T_seq ?_ | refine T_reg ?_ | refine T_draw ?_ | refine T_skip ?_ | refine T_exit ?_ | refine T_block ?_ | refine T_cond_t rfl ?_ | refine T_cond_f rfl ?_ | refine wdW_cons rfl ?_ | refine T_ret ?_ | refine wif_intro ?_ (fun hc => ?_) | refine And.intro ?_ ?_ | intro hc) | simp (maxSteps := 4000000) only [wops_nil, wops_cons, wstep_none, wstep_some, wguard_ff, wrun_mv, wrun_pick, wrun_bin, wrun_load, wrun_store, wrun_faddr, wrun_iaddrS, wrun_lenS, wrun_alloc, wrun_bslice, wrun_app, wrunX_mv, wrunX_load, wrunX_faddr, wrunX_bslice, wrunX_app, wstepX_none, wrunX_call, wop, aop, ev, look, put_some, put_none, writes, ores_some, ores_ite_none, binV, thenK, intV, elsOf, szOk, value, cut, hget, fillA, putCells, AV.parts, isOne, toLits, mkAgg, ofValue_int, ofValue_str, List.flatten_nil, rowsOf, List.map_cons, List.map_nil, List.length_cons, List.length_nil, List.getElem?_cons_zero, List.getElem?_cons_succ, List.set_cons_zero, List.set_cons_succ, List.take_succ_cons, List.take_zero, List.take_nil, List.drop_succ_cons, List.drop_zero, List.drop_nil, List.cons_append, List.nil_append, List.append_nil, List.append_assoc, List.replicate_zero, List.replicate_succ, List.getD_cons_zero, List.all_cons, List.all_nil, List.length_append, Option.getD_some, Option.map_some, if_true, if_false, Nat.reduceEqDiff, Nat.reduceAdd, Nat.reduceLT, Nat.add_zero, Nat.zero_add, Nat.sub_zero, Nat.sub_self, Nat.le_refl, reduceCtorEq, Bool.and_true, Bool.false_and, Bool.or_true, Bool.false_eq_true, eq_self, true_and, and_true, and_self, beq_self_eq_true, List.all_cons, Int.toNat_natCast, *] | simp (disch := omega) only [getD_ints, wrapI] | (with_reducible refine wdW_cons ?_ ?_; (next => simp [chk, foot, compatB, St.get, ev, look, kind, AOp.isRaw, wids, wtops, tops, opds, topId, nM, w1]; done)) | omega)
  refine wcallX_E0 h17.1 (by simp [plain, plainL, plainR]) (rL4 (rds_plain (d := 0) (by simp [plain, plainR_sk])) (rds_dm (rds_row (d := 0) (ha.down _) (plainR_ints _) (by rw [List.length_map]; exact hlo)) (rds_row (d := 0) (hb.down _) (plainR_ints _) (by rw [List.length_map]; exact hhi))) (rds_row (d := 0) ((u5 _).trans rfl) hSp hSl) (rds_plain (d := 0) (v := ssV x) rfl) (by omega) (by omega) (by omega) (by omega)) (by simp [plainL, plain, plainR_sk, hSp]) ?_
  intro H4 hx4
  obtain ⟨q5, g5⟩ := hx4.cell (a0 _)
  have y4 := (List.getElem?_eq_some_iff.1 g5).1
  have hx := PLift.up ((hx0.down _).trans hx4)
  clear hx4 hx0 hH hD ha hb h17 u1 u2 u3 u4 u5 u6 a0 a1 y0 yD nM w1 w2 w3 w4 w5 d1 d2 hS aS yS wS1 wS2 wS3
  repeat' (first | ((with_reducible refine T_calm ?_ ?_); rfl) | (with_reducible first | refine T_seq ?_ | refine T_reg ?_ | refine T_draw ?_ | refine T_skip ?_ | refine T_exit ?_ | refine T_block ?_ | refine T_cond_t rfl ?_ | refine T_cond_f rfl ?_ | refine wdW_cons rfl ?_ | refine T_ret ?_ | refine wif_intro ?_ (fun hc => ?_) | refine And.intro ?_ ?_ | intro hc) | simp (maxSteps := 4000000) only [wops_nil, wops_cons, wstep_none, wrun_mv, wrun_bin, wrun_ext, wrunX_mv, wrunX_ext, wdW_nil, wstepX_none, wop, aop, ev, look, put_some, writes, ores_some, binV, thenK, List.getElem?_cons_zero, List.getElem?_cons_succ, List.append_nil, List.replicate_zero, Option.map_some, if_true, if_false, Nat.reduceEqDiff, reduceCtorEq, eq_self, *] | simp (disch := omega) only [getD_ints, wrapI] | (with_reducible refine wdW_cons ?_ ?_; (next => simp [chk, foot, compatB, argsOf, St.get, target, ev, look, lidsL, hget, kind, AOp.isRaw, wids, wtops, tops, opds, topId, plainR_sk, y4]; done)) | omega)
  exact hnext.down _ hx.down (by simp [St.only, get_mk, look])
end Go.Abs
