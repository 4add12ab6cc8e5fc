import Derived.Test.YtdedhipkncagjaaK542x
set_option linter.all false
set_option linter.unusedVariables false
set_option linter.unusedSimpArgs false
set_option linter.unusedSectionVars false
namespace Go.Abs
open Go.Proofs
/-! decides: the exact height of a zone -/
theorem rgR_set (L : List (Int × Int)) (z : Nat) (a b : Int) : (rgR L).set z [i64 a, i64 b] = rgR (L.set z (a, b)) := by
  unfold rgR; rw [List.map_set]
abbrev tB (pk sl : Int) : Blk := .cells true false 2 [[i64 pk, i64 sl]]
abbrev S35 (nb : Bool) (L : List (Int × Int)) (zone : Nat) (pk sl h : Int) (Lk : List (Int × Int)) : St := ⟨[(1, .sl nb 2 (rgR L)), (2, i64 zone), (3, .loc 0 0 0), (7, .lsl 1 0 L.length), (8, i64 h)], [tB pk sl, .cells true false 2 (rgR Lk)]⟩
set_option maxHeartbeats 8000000 in
theorem k35b {nb : Bool} {L Lk : List (Int × Int)} {pk sl h A I J : Int} {zone : Nat} (hz : zone < L.length) (hlen : Lk.length = L.length) (hR : ROk (Lk.set zone (h, h))) (hsl : 0 ≤ sl ∧ sl ≤ 200000) (hle : h ≤ (L.getD zone (0, 0)).2) (hh : -100000 ≤ h ∧ h ≤ 100000)
    (hj : jdg (Lk.set zone (h, h)) pk sl (prs L.length) 1 = (A, I, J)) (K : Exit → St → Prop) (hX : A = 0 → ∀ τ : St, τ.get 6 = bl false → K .ret τ)
    (hN : A ≠ 0 → ∀ τ : St, 2 ≤ τ.heap.length → τ.keep 0 [1, 2, 3, 7, 8] [0, 1] = S35 nb L zone pk sl (h + 1) (Lk.set zone (h, h)) → K .normal τ) : T none Try.prog muts 41 0 c35l0 (S35 nb L zone pk sl h Lk) K := by
  have hll := rgR_len L
  have hlk := rgR_len Lk
  have g1 := rgR_get hz
  have hls : (Lk.set zone (h, h)).length = L.length := by simp [hlen]
  have h27 := k27r (B0 := tB pk sl) (B2 := .resv) (o := true) (pk := pk) (A := A) (I := I) (J := J) hR hsl (by rw [hls]; exact hj)
  rw [hls] at h27
  have es := rgR_set Lk zone h h
  have hzn : (zone : Int) < (L.length : Int) := by omega
  have d1 : decide (h ≤ (L.getD zone (0, 0)).2) = true := decide_eq_true hle
  have ew : IntKind.i64.wrap (h + 1) = h + 1 := wrapI (by omega) (by omega)
  have hzk : zone < Lk.length := by omega
  have g2 := rgR_get hzk
  generalize (Lk.getD zone (0, 0)).1 = lk1 at *
  generalize (Lk.getD zone (0, 0)).2 = lk2 at *
  clear hR hj hle
  generalize (L.getD zone (0, 0)).1 = lo at *
  generalize (L.getD zone (0, 0)).2 = up at *
  generalize hM : Lk.set zone (h, h) = M at *
  replace h27 := PLift.up h27
  replace hX := PLift.up hX
  replace hN := PLift.up hN
  clear hM
  unfold c35l0
  repeat' (first | (with_reducible first | refine T_seq ?_ | refine T_reg ?_ | refine T_skip ?_ | refine T_exit ?_ | refine T_block ?_ | refine T_cond_t rfl ?_ | refine T_cond_f rfl ?_ | refine T_ret ?_ | refine wif_intro ?_ (fun hc => ?_) | refine And.intro ?_ ?_ | intro hc) | simp (maxSteps := 4000000) only [wops_nil, wops_cons, wstep_none, wrun_call, wrun_mv, wrun_bin, wrun_build, wrun_load, wrun_store, wrun_faddr, wrun_iaddrS, wop, aop, ev, look, put_some, put_none, writes, ores_some, ores_ite_none, ores_map, wif_true, binV, thenK, value, cut, hget, fillA, putCells, AV.parts, isOne, toLits, mkAgg, ofValue_int, List.map_cons, List.map_nil, List.length_cons, List.length_nil, List.getElem?_cons_zero, List.getElem?_cons_succ, List.set_cons_zero, List.set_cons_succ, List.take_succ_cons, List.take_zero, List.take_nil, List.drop_succ_cons, List.drop_zero, List.drop_nil, List.cons_append, List.nil_append, List.append_nil, List.append_assoc, List.replicate_zero, List.replicate_succ, List.getD_cons_zero, List.all_cons, List.all_nil, List.length_append, Option.getD_some, Option.map_some, if_true, if_false, Nat.reduceEqDiff, Nat.reduceAdd, Nat.reduceLeDiff, Nat.zero_add, Nat.le_refl, reduceCtorEq, Bool.and_true, Bool.false_eq_true, eq_self, true_and, and_true, and_self, List.all_cons, Int.toNat_natCast, *] | simp (disch := omega) only [getD_ints, wrapI] | omega)
  refine wcall_raw (h27.down.mono fun r H' hr => ?_)
  obtain ⟨rfl, x2, x3, x4, x5, x6, x7, x8, rfl⟩ := hr
  clear h27 es
  by_cases hA : A = 0
  · subst hA
    replace hX := PLift.up (hX.down rfl)
    clear hN
    repeat' (first | (with_reducible first | refine T_seq ?_ | refine T_reg ?_ | refine T_skip ?_ | refine T_exit ?_ | refine T_block ?_ | refine T_cond_t rfl ?_ | refine T_cond_f rfl ?_ | refine T_ret ?_ | refine wif_intro ?_ (fun hc => ?_) | refine And.intro ?_ ?_ | intro hc) | simp (maxSteps := 4000000) only [wops_nil, wops_cons, wstep_none, wrun_mv, wrun_bin, wrun_ext, wrun_store, wrun_alloc, wop, aop, ev, look, put_some, put_none, writes, ores_some, binV, thenK, blockK, hget, putCells, AV.parts, isOne, ofValue_int, List.map_cons, List.map_nil, List.length_cons, List.length_nil, List.getElem?_cons_zero, List.getElem?_cons_succ, List.set_cons_zero, List.set_cons_succ, List.take_zero, List.drop_succ_cons, List.drop_nil, List.cons_append, List.nil_append, List.append_nil, List.append_assoc, List.replicate_zero, List.getD_cons_zero, List.all_cons, List.all_nil, Option.getD_some, Option.map_some, if_true, if_false, Nat.reduceEqDiff, Nat.reduceAdd, Nat.reduceLT, Nat.add_zero, Nat.zero_add, Nat.le_refl, reduceCtorEq, Bool.and_true, eq_self, true_and, and_self, beq_self_eq_true, List.all_cons, *] | simp (disch := omega) only [getD_ints, wrapI] | omega)
    all_goals first | exact hX.down _ rfl
  · replace hN := PLift.up (hN.down hA)
    have d2 : (A == 0) = false := by simpa using hA
    clear hX hA
    repeat' (first | (with_reducible first | refine T_seq ?_ | refine T_reg ?_ | refine T_skip ?_ | refine T_exit ?_ | refine T_block ?_ | refine T_cond_t rfl ?_ | refine T_cond_f rfl ?_ | refine T_ret ?_ | refine wif_intro ?_ (fun hc => ?_) | refine And.intro ?_ ?_ | intro hc) | simp (maxSteps := 4000000) only [wops_nil, wops_cons, wstep_none, wrun_mv, wrun_bin, wrun_ext, wrun_store, wrun_alloc, wop, aop, ev, look, put_some, put_none, writes, ores_some, binV, thenK, blockK, hget, putCells, AV.parts, isOne, ofValue_int, List.map_cons, List.map_nil, List.length_cons, List.length_nil, List.getElem?_cons_zero, List.getElem?_cons_succ, List.set_cons_zero, List.set_cons_succ, List.take_zero, List.drop_succ_cons, List.drop_nil, List.cons_append, List.nil_append, List.append_nil, List.append_assoc, List.replicate_zero, List.getD_cons_zero, List.all_cons, List.all_nil, Option.getD_some, Option.map_some, if_true, if_false, Nat.reduceEqDiff, Nat.reduceAdd, Nat.reduceLT, Nat.add_zero, Nat.zero_add, Nat.le_refl, reduceCtorEq, Bool.and_true, eq_self, true_and, and_self, List.all_cons, *] | simp (disch := omega) only [getD_ints, wrapI] | omega)
    all_goals first | (refine hN.down _ (by simp) ?_; simp [St.keep, get_mk, look, ren, renL, renR, renB, renO, keepρ, pos, hget, renR_rgL]; done)
end Go.Abs
