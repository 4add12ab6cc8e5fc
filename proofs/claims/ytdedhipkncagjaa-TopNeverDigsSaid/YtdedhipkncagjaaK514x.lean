import Derived.Test.YtdedhipkncagjaaK513x
set_option linter.all false
set_option linter.unusedVariables false
set_option linter.unusedSimpArgs false
set_option linter.unusedSectionVars false
namespace Go.Abs
open Go.Proofs
/-! TopNeverDigs: the rest of a round -/
set_option maxHeartbeats 8000000 in
theorem k4long {n1 n2 n3 nil o : Bool} {l : List Sk} {s : List Ss} {b : ByteArray} {hs ws : List Int} {i : Nat} {sv wv : AV} {H : List Blk} {t : ACode} {K : Exit → St → Prop} {bb : Nat} (hH : H[0]? = some (xB4 o nil l n3 s b)) (hi9 : i < s.length) (hs9 : s.length ≤ 1000)
    (hsz : 30 < (s.getD i ss0).mi.size ∨ 30 < (s.getD i ss0).st.size) (hnext : ∀ τ : St, τ.get 6 = bl true → K .ret τ) :
    T none Try.prog muts 217 bb (c4r4 t) ⟨[(1, ints n1 hs), (2, ints n2 ws), (3, .loc 0 0 0), (8, .loc 1 0 0), (10, sv), (11, wv), (12, i64 i)], H⟩ K := by
  have hll := ssR_len s
  have gg := ssR_get hi9
  have hic : (i : Int) < (s.length : Int) := by omega
  obtain ⟨u1, u2, u3, u4⟩ := cells_sub (X := []) (H := H) rfl
  have a0 := at_in hH
  replace hnext := PLift.up hnext
  generalize s.getD i ss0 = x at *
  by_cases h1 : 30 < x.mi.size
  · have d1 : decide ((x.mi.size : Int) > 30) = true := decide_eq_true (by omega)
    clear h1 hsz
    unfold c4r4
    repeat' (first | ((with_reducible refine T_calm ?_ ?_); rfl) | (with_reducible first | refine T_seq ?_ | refine T_reg ?_ | refine T_draw ?_ | refine T_skip ?_ | refine T_exit ?_ | refine T_block ?_ | refine T_cond_t rfl ?_ | refine T_cond_f rfl ?_ | refine wdW_cons rfl ?_ | refine T_ret ?_ | refine wif_intro ?_ (fun hc => ?_) | refine And.intro ?_ ?_ | intro hc) | simp (maxSteps := 4000000) only [wops_nil, wops_cons, wstep_none, wstep_some, wguard_tf, wrun_mv, wrun_pick, wrun_bin, wrun_load, wrun_store, wrun_faddr, wrun_iaddrS, wrun_lenS, wrun_alloc, wop, aop, ev, look, put_some, put_none, writes, ores_some, ores_ite_none, binV, thenK, intV, value, cut, hget, putCells, AV.parts, isOne, toLits, mkAgg, ofValue_int, ofValue_str, List.map_cons, List.map_nil, List.length_cons, List.length_nil, List.getElem?_cons_zero, List.set_cons_zero, List.take_succ_cons, List.take_zero, List.take_nil, List.drop_succ_cons, List.drop_zero, List.drop_nil, List.nil_append, List.append_nil, List.append_assoc, List.replicate_zero, List.replicate_succ, List.getD_cons_zero, List.all_cons, List.all_nil, List.length_append, Option.getD_some, Option.map_some, if_true, if_false, Nat.reduceEqDiff, Nat.reduceAdd, Nat.reduceLT, Nat.add_zero, Nat.zero_add, Nat.le_refl, reduceCtorEq, Bool.and_true, Bool.false_eq_true, eq_self, true_and, and_true, and_self, List.all_cons, Int.toNat_natCast, *] | simp (disch := omega) only [getD_ints, wrapI] | omega)
    all_goals first | exact hnext.down _ rfl
  · have d1 : decide ((x.mi.size : Int) > 30) = false := decide_eq_false (by omega)
    have d2 : decide ((x.st.size : Int) > 30) = true := decide_eq_true (by rcases hsz with h | h <;> omega)
    clear h1 hsz
    unfold c4r4
    repeat' (first | ((with_reducible refine T_calm ?_ ?_); rfl) | (with_reducible first | refine T_seq ?_ | refine T_reg ?_ | refine T_draw ?_ | refine T_skip ?_ | refine T_exit ?_ | refine T_block ?_ | refine T_cond_t rfl ?_ | refine T_cond_f rfl ?_ | refine wdW_cons rfl ?_ | refine T_ret ?_ | refine wif_intro ?_ (fun hc => ?_) | refine And.intro ?_ ?_ | intro hc) | simp (maxSteps := 4000000) only [wops_nil, wops_cons, wstep_none, wstep_some, wguard_ff, wrun_mv, wrun_pick, wrun_bin, wrun_load, wrun_store, wrun_faddr, wrun_iaddrS, wrun_lenS, wrun_alloc, wop, aop, ev, look, put_some, put_none, writes, ores_some, ores_ite_none, binV, thenK, intV, value, cut, hget, putCells, AV.parts, isOne, toLits, mkAgg, ofValue_int, ofValue_str, List.map_cons, List.map_nil, List.length_cons, List.length_nil, List.getElem?_cons_zero, List.set_cons_zero, List.take_succ_cons, List.take_zero, List.take_nil, List.drop_succ_cons, List.drop_zero, List.drop_nil, List.nil_append, List.append_nil, List.append_assoc, List.replicate_zero, List.replicate_succ, List.getD_cons_zero, List.all_cons, List.all_nil, List.length_append, Option.getD_some, Option.map_some, if_true, if_false, Nat.reduceEqDiff, Nat.reduceAdd, Nat.reduceLT, Nat.add_zero, Nat.zero_add, Nat.le_refl, reduceCtorEq, Bool.and_true, Bool.false_eq_true, eq_self, true_and, and_true, and_self, List.all_cons, Int.toNat_natCast, *] | simp (disch := omega) only [getD_ints, wrapI] | omega)
    all_goals first | exact hnext.down _ rfl
abbrev SLm (n1 n2 : Bool) (hs ws : List Int) (N : Nat) (sv wv : AV) (i : Nat) (yv : AV) : List (Nat × AV) := [(1, ints n1 hs), (2, ints n2 ws), (3, .loc 0 0 0), (8, .loc 1 0 0), (10, sv), (11, wv), (12, i64 i), (13, .loc N 0 0), (14, yv)]
set_option maxHeartbeats 8000000 in
theorem k4lenA {n1 n2 oy : Bool} {hs ws : List Int} {i N iy : Nat} {wv : AV} {H : List Blk} {Y : List Ss} {t : ACode} {K : Exit → St → Prop} {bb : Nat} (hY : H[iy]? = some (.cells oy false 3 (ssR Y)))
    (hnext : T none Try.prog muts 217 bb t ⟨SLm n1 n2 hs ws N (.sl true 0 []) wv i (.lsl iy 0 (0 + 1)), H⟩ K) :
    T none Try.prog muts 217 bb (c4r5 t) ⟨SLm n1 n2 hs ws N (.sl true 0 []) wv i (.lsl iy 0 (0 + 1)), H⟩ K := by
  replace hnext := PLift.up hnext
  unfold c4r5
  repeat' (first | ((with_reducible refine T_calm ?_ ?_); rfl) | (with_reducible first | refine T_seq ?_ | refine T_reg ?_ | refine T_draw ?_ | refine T_skip ?_ | refine T_exit ?_ | refine T_block ?_ | refine T_cond_t rfl ?_ | refine T_cond_f rfl ?_ | refine wdW_cons rfl ?_ | refine T_ret ?_ | refine wif_intro ?_ (fun hc => ?_) | refine And.intro ?_ ?_ | intro hc) | simp (maxSteps := 4000000) only [wops_nil, wops_cons, wstep_none, wrun_mv, wrun_bin, wrun_len, wop, aop, ev, look, put_some, writes, ores_some, ores_map, ores_bind, binV, thenK, intV, lenOf, hget, List.length_nil, List.append_nil, List.replicate_zero, Option.pure_def, Option.bind_eq_bind, Option.getD_some, Option.map_some, if_true, if_false, Nat.reduceEqDiff, Nat.zero_add, reduceCtorEq, eq_self, *] | simp (disch := omega) only [wrapI] | omega)
  exact T_onlyU [1, 2, 3, 8, 10, 11, 12, 13, 14] rfl hnext.down
set_option maxHeartbeats 8000000 in
theorem k4lenB {n1 n2 oy oS : Bool} {hs ws : List Int} {i N iy is : Nat} {wv : AV} {H : List Blk} {S Y : List Ss} {t : ACode} {K : Exit → St → Prop} {bb : Nat} (hY : H[iy]? = some (.cells oy false 3 (ssR Y))) (hS : H[is]? = some (.cells oS false 3 (ssR S))) (hS9 : S.length ≤ 1000)
    (hnext : T none Try.prog muts 217 bb t ⟨SLm n1 n2 hs ws N (.lsl is 0 S.length) wv i (.lsl iy 0 (S.length + 1)), H⟩ K) :
    T none Try.prog muts 217 bb (c4r5 t) ⟨SLm n1 n2 hs ws N (.lsl is 0 S.length) wv i (.lsl iy 0 (S.length + 1)), H⟩ K := by
  have ew : IntKind.i64.wrap ((S.length : Int) + 1) = (S.length : Int) + 1 := wrapI (by omega) (by omega)
  have e1 : (((S.length + 1 : Nat) : Int) != (S.length : Int) + 1) = false := by simp
  have e2 : (((S.length : Int) + 1) != (S.length : Int) + 1) = false := by simp
  replace hnext := PLift.up hnext
  clear hS9
  unfold c4r5
  repeat' (first | ((with_reducible refine T_calm ?_ ?_); rfl) | (with_reducible first | refine T_seq ?_ | refine T_reg ?_ | refine T_draw ?_ | refine T_skip ?_ | refine T_exit ?_ | refine T_block ?_ | refine T_cond_t rfl ?_ | refine T_cond_f rfl ?_ | refine wdW_cons rfl ?_ | refine T_ret ?_ | refine wif_intro ?_ (fun hc => ?_) | refine And.intro ?_ ?_ | intro hc) | simp (maxSteps := 4000000) only [wops_nil, wops_cons, wstep_none, wrun_mv, wrun_bin, wrun_len, wop, aop, ev, look, put_some, writes, ores_some, ores_map, ores_bind, binV, thenK, intV, lenOf, hget, List.append_nil, List.replicate_zero, Option.pure_def, Option.bind_eq_bind, Option.getD_some, Option.map_some, if_true, if_false, Nat.reduceEqDiff, reduceCtorEq, eq_self, *] | simp (disch := omega) only [getD_ints, wrapI] | omega)
  exact T_onlyU [1, 2, 3, 8, 10, 11, 12, 13, 14] rfl hnext.down
set_option maxHeartbeats 8000000 in
theorem k4wearE {n1 n2 n3 nil o oN : Bool} {l : List Sk} {s : List Ss} {b : ByteArray} {hs ws : List Int} {i N : Nat} {x : Ss} {sv wv yv : AV} {H : List Blk} {E : Int} {K : Exit → St → Prop} {bb : Nat} (hH : H[0]? = some (xB4 o nil l n3 s b)) (hN : H[N]? = some (.cells oN false 3 [[tx x.mi, tx x.st, i64 x.mn]]))
    (hE : E ≠ 0) (h18 : Fn Try.prog 18 [sts nil l, .sl false 3 (ssR [x]), tx b] (.tup [.sl true 0 [], i64 E]) [])
    (hnext : ∀ τ : St, Ext H τ.heap → (τ.only [1, 2, 3, 8, 10, 11, 12]).slots = [(1, ints n1 hs), (2, ints n2 ws), (3, .loc 0 0 0), (8, .loc 1 0 0), (10, yv), (11, wv), (12, i64 i)] → K .normal τ) :
    T none Try.prog muts 217 bb c4r6 ⟨SLm n1 n2 hs ws N sv wv i yv, H⟩ K := by
  obtain ⟨u1, u2, u3, u4⟩ := cells_sub (X := []) (H := H) rfl
  have a0 := at_in hH
  have a1 := at_in hN
  have dE : (E == 0) = false := by simpa using hE
  have hx0 := PLift.up (fun Y => Ext.app H Y)
  replace hnext := PLift.up hnext
  replace h18 := And.intro h18 trivial
  clear hE
  unfold c4r6
  repeat' (first | ((with_reducible refine T_calm ?_ ?_); rfl) | (with_reducible first | refine T_seq ?_ | refine T_reg ?_ | refine T_draw ?_ | refine T_skip ?_ | refine T_exit ?_ | refine T_block ?_ | refine T_cond_t rfl ?_ | refine T_cond_f rfl ?_ | refine wdW_cons rfl ?_ | refine T_ret ?_ | refine wif_intro ?_ (fun hc => ?_) | refine And.intro ?_ ?_ | intro hc) | simp (maxSteps := 4000000) only [wops_cons, wstep_none, wrun_call, wrun_load, wrun_faddr, wrun_bslice, wop, aop, ev, look, put_some, writes, ores_some, value, cut, hget, fillA, putCells, AV.parts, isOne, toLits, mkAgg, ofValue_int, ofValue_str, List.flatten_cons, List.flatten_nil, rowsOf, List.map_cons, List.map_nil, List.length_cons, List.length_nil, List.getElem?_cons_zero, List.set_cons_zero, List.take_succ_cons, List.take_zero, List.take_nil, List.drop_succ_cons, List.drop_zero, List.drop_nil, List.nil_append, List.append_nil, List.replicate_zero, List.replicate_succ, List.getD_cons_zero, List.all_cons, List.all_nil, Option.getD_some, Option.map_some, if_true, if_false, Nat.reduceEqDiff, Nat.reduceAdd, Nat.add_zero, Nat.zero_add, Nat.zero_mul, Nat.le_refl, Bool.and_true, Bool.false_eq_true, eq_self, true_and, and_self, List.all_cons, *] | simp (disch := omega) only [getD_ints, wrapI] | omega)
  refine wcall_E0 h18.1 (by simp [plain, plainL, plainR]) (rL3 (rds_plain (d := 0) (by simp [plain, plainR_sk])) (rds_row (d := 0) (n := false) (z := 3) (els := ssR [x]) ((u1 _).trans rfl) (plainR_ss _) rfl) (rds_plain (d := 0) (v := tx b) rfl) (by omega) (by omega) (by omega)) (by simp [plainL, plain, plainR_sk, plainR_ss]) ?_
  intro H4 hx4
  have hx := PLift.up ((hx0.down _).trans hx4)
  clear hx4 hx0 hH hN h18 u1 u2 u3 u4 a0 a1
  repeat' (first | ((with_reducible refine T_calm ?_ ?_); rfl) | (with_reducible first | refine T_seq ?_ | refine T_reg ?_ | refine T_draw ?_ | refine T_skip ?_ | refine T_exit ?_ | refine T_block ?_ | refine T_cond_t rfl ?_ | refine T_cond_f rfl ?_ | refine wdW_cons rfl ?_ | refine T_ret ?_ | refine wif_intro ?_ (fun hc => ?_) | refine And.intro ?_ ?_ | intro hc) | simp (maxSteps := 4000000) only [wops_nil, wops_cons, wstep_none, wrun_mv, wrun_bin, wrun_ext, wop, aop, ev, look, put_some, writes, ores_some, binV, thenK, List.getElem?_cons_zero, List.getElem?_cons_succ, List.append_nil, List.replicate_zero, Option.map_some, if_true, if_false, Nat.reduceEqDiff, reduceCtorEq, eq_self, *] | simp (disch := omega) only [getD_ints, wrapI] | omega)
  exact hnext.down _ hx.down (by simp [St.only, get_mk, look])
set_option maxHeartbeats 8000000 in
theorem k4wearA {n1 n2 n3 nil o oN : Bool} {l : List Sk} {s : List Ss} {b : ByteArray} {hs ws w : List Int} {i N n : Nat} {x : Ss} {sv yv : AV} {H : List Blk} {K : Exit → St → Prop} {bb : Nat} (hH : H[0]? = some (xB4 o nil l n3 s b)) (hN : H[N]? = some (.cells oN false 3 [[tx x.mi, tx x.st, i64 x.mn]])) (hw9 : w.length = n)
    (h18 : Fn Try.prog 18 [sts nil l, .sl false 3 (ssR [x]), tx b] (.tup [.lsl 0 0 n, i64 0]) [iC w])
    (hnext : ∀ (τ : St) (v : AV) (iw : Nat), Ext H τ.heap → Rds 1 τ.heap v (ints false w) → τ.heap[iw]? = some (.cells true false 1 [[v]]) → (τ.only [1, 2, 3, 8, 10, 11, 12]).slots = [(1, ints n1 hs), (2, ints n2 ws), (3, .loc 0 0 0), (8, .loc 1 0 0), (10, yv), (11, .lsl iw 0 1), (12, i64 i)] → K .normal τ) :
    T none Try.prog muts 217 bb c4r6 ⟨SLm n1 n2 hs ws N sv (.sl true 0 []) i yv, H⟩ K := by
  obtain ⟨u1, u2, u3, u4⟩ := cells_sub (X := []) (H := H) rfl
  have a0 := at_in hH
  have a1 := at_in hN
  have hx0 := PLift.up (fun Y => Ext.app H Y)
  replace hnext := PLift.up hnext
  replace h18 := And.intro h18 trivial
  unfold c4r6
  repeat' (first | ((with_reducible refine T_calm ?_ ?_); rfl) | (with_reducible first | refine T_seq ?_ | refine T_reg ?_ | refine T_draw ?_ | refine T_skip ?_ | refine T_exit ?_ | refine T_block ?_ | refine T_cond_t rfl ?_ | refine T_cond_f rfl ?_ | refine wdW_cons rfl ?_ | refine T_ret ?_ | refine wif_intro ?_ (fun hc => ?_) | refine And.intro ?_ ?_ | intro hc) | simp (maxSteps := 4000000) only [wops_cons, wstep_none, wrun_call, wrun_load, wrun_faddr, wrun_bslice, wop, aop, ev, look, put_some, writes, ores_some, value, cut, hget, fillA, putCells, AV.parts, isOne, toLits, mkAgg, ofValue_int, ofValue_str, List.flatten_cons, List.flatten_nil, rowsOf, List.map_cons, List.map_nil, List.length_cons, List.length_nil, List.getElem?_cons_zero, List.set_cons_zero, List.take_succ_cons, List.take_zero, List.take_nil, List.drop_succ_cons, List.drop_zero, List.drop_nil, List.nil_append, List.append_nil, List.replicate_zero, List.replicate_succ, List.getD_cons_zero, List.all_cons, List.all_nil, Option.getD_some, Option.map_some, if_true, if_false, Nat.reduceEqDiff, Nat.reduceAdd, Nat.add_zero, Nat.zero_add, Nat.zero_mul, Nat.le_refl, Bool.and_true, Bool.false_eq_true, eq_self, true_and, and_self, List.all_cons, *] | simp (disch := omega) only [getD_ints, wrapI] | omega)
  refine wcall_L h18.1 (rL3 (rds_plain (d := 0) (by simp [plain, plainR_sk])) (rds_row (d := 0) (n := false) (z := 3) (els := ssR [x]) ((u1 _).trans rfl) (plainR_ss _) rfl) (rds_plain (d := 0) (v := tx b) rfl) (by omega) (by omega) (by omega)) (by simp [plainL, plain, plainR_sk, plainR_ss]) ?_
  intro id H4 hx4 hid
  have hx := PLift.up ((hx0.down _).trans hx4)
  have hr : PLift (Rds 1 H4 (.lsl id 0 n) (ints false w)) := PLift.up (rds_row (d := 0) hid (plainR_ints _) (by rw [List.length_map]; exact hw9))
  clear hx4 hx0 hH hN h18 u1 u2 u3 u4 a0 a1 hid
  obtain ⟨v1, v2, v3, v4⟩ := cells_sub (X := []) (H := H4) rfl
  have v5 : ∀ Y, (H4 ++ Y)[H4.length + 1]? = Y[1]? := fun Y => v2 Y 1
  repeat' (first | ((with_reducible refine T_calm ?_ ?_); rfl) | (with_reducible first | refine T_seq ?_ | refine T_reg ?_ | refine T_draw ?_ | refine T_skip ?_ | refine T_exit ?_ | refine T_block ?_ | refine T_cond_t rfl ?_ | refine T_cond_f rfl ?_ | refine wdW_cons rfl ?_ | refine T_ret ?_ | refine wif_intro ?_ (fun hc => ?_) | refine And.intro ?_ ?_ | intro hc) | simp (maxSteps := 4000000) only [wops_nil, wops_cons, wstep_none, wrun_mv, wrun_bin, wrun_ext, wrun_bslice, wrun_app, wop, aop, ev, look, put_some, writes, ores_some, binV, thenK, elsOf, szOk, hget, fillA, putCells, AV.parts, isOne, List.flatten_cons, List.flatten_nil, rowsOf, List.map_cons, List.map_nil, List.length_cons, List.length_nil, List.getElem?_cons_zero, List.getElem?_cons_succ, List.set_cons_zero, List.set_cons_succ, List.take_succ_cons, List.take_zero, List.take_nil, List.drop_succ_cons, List.drop_zero, List.drop_nil, List.nil_append, List.append_nil, List.replicate_zero, List.replicate_succ, List.all_cons, List.all_nil, List.isEmpty_nil, List.length_append, Option.getD_some, Option.map_some, if_true, if_false, Nat.reduceEqDiff, Nat.reduceAdd, Nat.reduceMul, Nat.reduceLeDiff, Nat.reduceBEq, Nat.add_zero, Nat.zero_add, Nat.sub_zero, Nat.zero_mul, Nat.mul_one, Nat.le_refl, reduceCtorEq, Bool.and_true, Bool.or_false, eq_self, true_and, and_self, beq_self_eq_true, List.all_cons, *] | simp (disch := omega) only [getD_ints, wrapI] | omega)
  exact hnext.down _ (.lsl id 0 n) (H4.length + 1) (hx.down.trans (Ext.app _ _)) (hr.down.ext (Ext.app _ _)) (v5 _) (by simp [St.only, get_mk, look])
set_option maxHeartbeats 8000000 in
theorem k4wearB {n1 n2 n3 nil o oN ow : Bool} {l : List Sk} {s : List Ss} {b : ByteArray} {hs ws w : List Int} {i N n iw0 m : Nat} {EE : List (List AV)} {x : Ss} {sv yv : AV} {H : List Blk} {K : Exit → St → Prop} {bb : Nat} (hH : H[0]? = some (xB4 o nil l n3 s b)) (hN : H[N]? = some (.cells oN false 3 [[tx x.mi, tx x.st, i64 x.mn]])) (hw9 : w.length = n)
    (hW : H[iw0]? = some (.cells ow false 1 EE)) (hEl : EE.length = m) (hm : m ≤ 1000)
    (h18 : Fn Try.prog 18 [sts nil l, .sl false 3 (ssR [x]), tx b] (.tup [.lsl 0 0 n, i64 0]) [iC w])
    (hnext : ∀ (τ : St) (v : AV) (iw : Nat), Ext H τ.heap → Rds 1 τ.heap v (ints false w) → τ.heap[iw]? = some (.cells true false 1 ([v] :: EE)) → (τ.only [1, 2, 3, 8, 10, 11, 12]).slots = [(1, ints n1 hs), (2, ints n2 ws), (3, .loc 0 0 0), (8, .loc 1 0 0), (10, yv), (11, .lsl iw 0 (1 + m)), (12, i64 i)] → K .normal τ) :
    T none Try.prog muts 217 bb c4r6 ⟨SLm n1 n2 hs ws N sv (.lsl iw0 0 m) i yv, H⟩ K := by
  obtain ⟨u1, u2, u3, u4⟩ := cells_sub (X := []) (H := H) rfl
  have a0 := at_in hH
  have a1 := at_in hN
  have a2 := PLift.up (at_in hW)
  have hx0 := PLift.up (fun Y => Ext.app H Y)
  replace hnext := PLift.up hnext
  replace h18 := And.intro h18 trivial
  unfold c4r6
  repeat' (first | ((with_reducible refine T_calm ?_ ?_); rfl) | (with_reducible first | refine T_seq ?_ | refine T_reg ?_ | refine T_draw ?_ | refine T_skip ?_ | refine T_exit ?_ | refine T_block ?_ | refine T_cond_t rfl ?_ | refine T_cond_f rfl ?_ | refine wdW_cons rfl ?_ | refine T_ret ?_ | refine wif_intro ?_ (fun hc => ?_) | refine And.intro ?_ ?_ | intro hc) | simp (maxSteps := 4000000) only [wops_cons, wstep_none, wrun_call, wrun_load, wrun_faddr, wrun_bslice, wop, aop, ev, look, put_some, writes, ores_some, value, cut, hget, fillA, putCells, AV.parts, isOne, toLits, mkAgg, ofValue_int, ofValue_str, List.flatten_cons, List.flatten_nil, rowsOf, List.map_cons, List.map_nil, List.length_cons, List.length_nil, List.getElem?_cons_zero, List.set_cons_zero, List.take_succ_cons, List.take_zero, List.take_nil, List.drop_succ_cons, List.drop_zero, List.drop_nil, List.nil_append, List.append_nil, List.replicate_zero, List.replicate_succ, List.getD_cons_zero, List.all_cons, List.all_nil, Option.getD_some, Option.map_some, if_true, if_false, Nat.reduceEqDiff, Nat.reduceAdd, Nat.add_zero, Nat.zero_add, Nat.zero_mul, Nat.le_refl, Bool.and_true, Bool.false_eq_true, eq_self, true_and, and_self, List.all_cons, *] | simp (disch := omega) only [getD_ints, wrapI] | omega)
  refine wcall_L h18.1 (rL3 (rds_plain (d := 0) (by simp [plain, plainR_sk])) (rds_row (d := 0) (n := false) (z := 3) (els := ssR [x]) ((u1 _).trans rfl) (plainR_ss _) rfl) (rds_plain (d := 0) (v := tx b) rfl) (by omega) (by omega) (by omega)) (by simp [plainL, plain, plainR_sk, plainR_ss]) ?_
  intro id H4 hx4 hid
  have hx := PLift.up ((hx0.down _).trans hx4)
  have hr : PLift (Rds 1 H4 (.lsl id 0 n) (ints false w)) := PLift.up (rds_row (d := 0) hid (plainR_ints _) (by rw [List.length_map]; exact hw9))
  obtain ⟨q4, g4⟩ := hx4.cell (a2.down _)
  have b2 := at_in g4
  have htk : List.take m EE = EE := List.take_of_length_le (by omega)
  have hne : EE.isEmpty = decide (m = 0) := by rw [← hEl]; cases EE <;> simp
  have hmc : ((1 + m) * 24 ≤ 140737488355328) = True := by simp; omega
  clear hx4 hx0 hH hN hW h18 u1 u2 u3 u4 a0 a1 a2 hid g4
  obtain ⟨v1, v2, v3, v4⟩ := cells_sub (X := []) (H := H4) rfl
  have v5 : ∀ Y, (H4 ++ Y)[H4.length + 1]? = Y[1]? := fun Y => v2 Y 1
  have v6 : ∀ Y v, (H4 ++ Y).set (H4.length + 1) v = H4 ++ Y.set 1 v := fun Y v => v4 Y 1 v
  repeat' (first | ((with_reducible refine T_calm ?_ ?_); rfl) | (with_reducible first | refine T_seq ?_ | refine T_reg ?_ | refine T_draw ?_ | refine T_skip ?_ | refine T_exit ?_ | refine T_block ?_ | refine T_cond_t rfl ?_ | refine T_cond_f rfl ?_ | refine wdW_cons rfl ?_ | refine T_ret ?_ | refine wif_intro ?_ (fun hc => ?_) | refine And.intro ?_ ?_ | intro hc) | simp (maxSteps := 4000000) only [wops_nil, wops_cons, wstep_none, wrun_mv, wrun_bin, wrun_ext, wrun_bslice, wrun_app, wop, aop, ev, look, put_some, writes, ores_some, binV, thenK, elsOf, szOk, hget, fillA, putCells, AV.parts, isOne, List.flatten_cons, List.flatten_nil, rowsOf, List.map_cons, List.map_nil, List.length_cons, List.length_nil, List.getElem?_cons_zero, List.getElem?_cons_succ, List.set_cons_zero, List.set_cons_succ, List.take_succ_cons, List.take_zero, List.take_nil, List.drop_succ_cons, List.drop_zero, List.drop_nil, List.cons_append, List.nil_append, List.append_nil, List.replicate_zero, List.replicate_succ, List.all_cons, List.all_nil, List.length_append, Option.getD_some, Option.map_some, if_true, if_false, Nat.reduceEqDiff, Nat.reduceAdd, Nat.add_zero, Nat.zero_add, Nat.sub_zero, Nat.mul_one, Nat.le_refl, reduceCtorEq, Bool.and_true, Bool.false_and, Bool.or_true, eq_self, true_and, and_self, beq_self_eq_true, List.all_cons, *] | simp (disch := omega) only [getD_ints, wrapI] | omega)
  exact hnext.down _ (.lsl id 0 n) (H4.length + 1) (hx.down.trans (Ext.app _ _)) (hr.down.ext (Ext.app _ _)) (v5 _) (by simp [St.only, get_mk, look])
end Go.Abs
