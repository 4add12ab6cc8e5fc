import Derived.Test.YtodheeifecoebaaGreatDoorPCmin
import Derived.Test.YtodheeifecoebaaGreatDoorK121
set_option linter.all false
set_option linter.unusedVariables false
set_option linter.unusedSimpArgs false
set_option linter.unusedSectionVars false
namespace Go.Abs
open Go.Proofs
def c10r1 : ACode :=
 (.seq (.seq (.reg 0 [⟨(some 20), (.mv (.tmp 1)), none, 0⟩, ⟨(some 21), (.mv (.tmp 8)), none, 0⟩, ⟨(some 22), (.build [(.sl true 0 []), (.sl true 0 [])] [(0, (1, (.tmp 20))), (1, (1, (.tmp 21)))]), none, 0⟩, ⟨(some 23), (.mv (.val (.lit (.int .i64 0)))), none, 0⟩])
 (.block 0 (.loop c10l0)))
 (.seq (.reg 0 [⟨(some 41), (.mv (.tmp 8)), none, 0⟩, ⟨(some 6), (.mv (.tmp 41)), none, 0⟩, ⟨(some 7), (.mv (.val (.lit (.int .i64 0)))), none, 0⟩])
 .ret))
theorem c10_cut : c10 = (.seq (.reg 1 [⟨(some 5), (.box 4 (.tmp 2)), none, 0⟩, ⟨(some 6), (.mv (.val (.sl true 0 []))), none, 1⟩, ⟨(some 7), (.mv (.val (.lit (.int .i64 0)))), none, 1⟩])
 (.seq (.dreg 4 [(0, ⟨(some 14), (.bslice 4 0 [(.lit (.int .i64 0)), (.lit (.int .i64 0)), (.lit (.int .i64 0)), (.lit (.int .i64 0))] []), none, 0⟩), (1, ⟨(some 15), (.mv (.tmp 1)), none, 1⟩), (2, ⟨(some 16), (.app 4 32 (.tmp 14) (.tmp 15)), none, 1⟩), (3, ⟨(some 17), (.load 4 true (.tmp 5)), none, 2⟩), (4, ⟨(some 18), (.bslice 4 1 [(.lit (.int .i64 0)), (.lit (.int .i64 0)), (.lit (.int .i64 0)), (.lit (.int .i64 0))] [(0, (.tmp 17))]), none, 2⟩), (5, ⟨(some 19), (.app 4 32 (.tmp 16) (.tmp 18)), none, 3⟩), (6, ⟨(some 8), (.mv (.tmp 19)), none, 4⟩)] [[], [], [0, 1], [], [3], [2, 4, 0, 1, 3], [5, 0, 1, 2, 3, 4]])
 c10r1)) := rfl
/-! the specification's AddReading -/
set_option maxHeartbeats 8000000 in
theorem k10a {z : Nat} {nil : Bool} {l : List Rd} {R : AV} {new : List Blk} (r : Rd) (hl : l.length < 900000)
    (hT : T none Tryz.prog muts 42 0 c10r1 ⟨[(0, i64 z), (1, rdgs nil l), (8, .lsl 0 0 (l.length + 1))], [.cells true false 4 (rows4 (l ++ [r]))]⟩ (leave 0 [ARes.tmp 6, ARes.tmp 7] fun r' H' => r' = R ∧ H' = new)) :
    Fn Tryz.prog 10 [i64 z, rdgs nil l, rdV r] R new := by
  refine fn_of e10 ?_
  have hrl := rows4_len l
  have hm : rows4 l ++ [rrow r] = rows4 (l ++ [r]) := by simp [rows4]
  have ht : List.take l.length (rows4 l) = rows4 l := by rw [List.take_of_length_le (by omega)]
  rw [c10_cut]
  generalize l ++ [r] = m at *
  generalize hq : c10r1 = q at *
  replace hT := And.intro hT trivial
  repeat' (first | ((with_reducible refine T_calm ?_ ?_); rfl) | (with_reducible first | refine T_seq ?_ | refine T_reg ?_ | refine T_draw ?_ | refine T_skip ?_ | refine T_exit ?_ | refine T_block ?_ | refine T_cond_t rfl ?_ | refine T_cond_f rfl ?_ | refine wdW_cons rfl ?_ | refine T_ret ?_ | refine leave_of (.inr rfl) _ rfl ?_ | refine leave_of (.inl rfl) _ rfl ?_ | refine wif_intro ?_ (fun hc => ?_) | refine And.intro ?_ ?_ | intro hc) | simp (maxSteps := 4000000) only [wops_nil, wops_cons, wstep_none, wrun_mv, wrun_load, wrun_box, wrun_bslice, wrun_app, wrunX_mv, wrunX_load, wrunX_bslice, wrunX_app, wdW_nil, wstepX_none, wop, aop, ev, look, put_some, writes, ores_some, ores_ite_none, thenK, elsOf, szOk, value, cut, hget, fillA, putCells, AV.parts, isOne, toLits, mkAgg, ofValue_int, List.flatten_cons, List.flatten_nil, rowsOf, List.map_cons, List.map_nil, List.length_cons, List.length_nil, List.getElem?_cons_zero, List.getElem?_cons_succ, List.set_cons_zero, List.set_cons_succ, List.take_succ_cons, List.take_zero, List.take_nil, List.drop_succ_cons, List.drop_zero, List.drop_nil, List.cons_append, List.nil_append, List.append_nil, List.replicate_zero, List.replicate_succ, List.getD_cons_zero, List.zipIdx_cons, List.zipIdx_nil, List.all_cons, List.all_nil, List.isEmpty_cons, Option.getD_some, Option.map_some, if_true, if_false, Nat.reduceEqDiff, Nat.reduceAdd, Nat.add_zero, Nat.zero_add, Nat.sub_zero, Nat.sub_self, Nat.zero_mul, Nat.le_refl, Nat.zero_ne_one, reduceCtorEq, Bool.and_true, Bool.and_false, Bool.false_and, Bool.or_true, eq_self, true_and, and_self, beq_self_eq_true, List.all_cons, *] | simp (disch := omega) only [getD_ints, wrapI] | omega)
  refine T_keep [0, 1, 8] [4] (S := ⟨[(0, i64 z), (1, rdgs nil l), (8, .lsl 0 0 (l.length + 1))], [.cells true false 4 (rows4 m)]⟩) (by simp) (by simp) ?_ ?_
  · simp [St.keep, get_mk, look, ren, renB, renO, keepρ, pos, hget, renR_rows4]
  · exact hT.1
theorem re_m {H : List Blk} {i n : Nat} {o : Bool} {m : List Rd} (h : H[i]? = some (.cells o false 4 (rows4 m))) (hml : m.length = n) (z : Int) : rfyL (hget H) [i64 z, .lsl i 0 n] = [i64 z, rdgs false m] := by
  have hlm := rows4_len m
  have e : hget H i = .cells o false 4 (rows4 m) := by unfold hget; rw [h]; rfl
  simp only [rfyL, List.map_cons, List.map_nil]
  refine cons2 ?_ ?_
  · rfl
  · unfold rfy
    rw [e]
    dsimp only
    rw [if_pos (by omega), List.drop_zero]
    refine congrArg (fun x => [AV.sl false 4 x]) ?_
    have := take_rows4' (hget H) m
    rw [hml] at this
    rw [List.map_take]; exact this
theorem frz_m {H : List Blk} {i n : Nat} {o : Bool} {m : List Rd} (h : H[i]? = some (.cells o false 4 (rows4 m))) (z : Int) : (freeze H (lidsL (hget H) [i64 z, .lsl i 0 n]))[i]? = some (.cells false false 4 (rows4 m)) := frz_in h (by simp [lidsL, lids])
abbrev SL75 (z n : Nat) (nil : Bool) (l : List Rd) (k : Nat) : List (Nat × AV) := [(0, i64 z), (8, .lsl 0 0 n), (22, .agg [rdgs nil l, .lsl 0 0 n]), (23, i64 k)]
set_option maxHeartbeats 8000000 in
theorem k10l0 {z n : Nat} {nil : Bool} {l m : List Rd} {D : List (List Int)} (h8 : Fn Tryz.prog 8 [i64 z, rdgs nil l] (i64 0) []) (h29 : Fn Tryz.prog 29 [i64 z, rdgs nil l] (.tup [.lsl 0 0 z, bl true]) (tabB D z)) (P : Prop) (K : Exit → St → Prop) (H : List Blk) (hH : H[0]? = some (.cells true false 4 (rows4 m))) :
    T none Tryz.prog muts 42 0 c10l0 ⟨SL75 z n nil l 0, H⟩ (thenK (fun s' => 0 < 2 ∧ (s'.heap[0]? = some (.cells (decide (0 + 1 < 2)) false 4 (rows4 m)) ∧ (2 ≤ 0 + 1 → P)) ∧ (s'.only [0, 8, 22, 23]).slots = SL75 z n nil l (0 + 1)) K) := by
  have hx := fun X => at_app hH X
  have hd : decide (0 + 1 < 2) = true := rfl
  have hP : (2 ≤ 0 + 1 → P) ↔ True := ⟨fun _ => trivial, fun _ h => by omega⟩
  rw [hd, hP]
  clear hd hP
  unfold c10l0
  repeat' (first | ((with_reducible refine T_calm ?_ ?_); rfl) | (with_reducible first | refine T_seq ?_ | refine T_reg ?_ | refine T_draw ?_ | refine T_skip ?_ | refine T_exit ?_ | refine T_block ?_ | refine T_cond_t rfl ?_ | refine T_cond_f rfl ?_ | refine wdW_cons rfl ?_ | (show wcall _ false (.lit (.func (.func 8) _ _)) _ _ _ _; refine wcall_fn (h8) rfl (by simp [plainL, plain]) ?_) | (show wcallX _ false (.lit (.func (.func 8) _ _)) _ _ _ _; refine wcallX_fn (h8) rfl (by simp [plainL, plain, plainR, Int.toNat_natCast]) ?_) | (show wcall _ false (.lit (.func (.func 29) _ _)) _ _ _ _; refine wcall_fn (h29) rfl (by simp [plainL, plain]) ?_) | (show wcallX _ false (.lit (.func (.func 29) _ _)) _ _ _ _; refine wcallX_fn (h29) rfl (by simp [plainL, plain, plainR, Int.toNat_natCast]) ?_) | refine T_ret ?_ | refine leave_of (.inr rfl) _ rfl ?_ | refine leave_of (.inl rfl) _ rfl ?_ | refine wif_intro ?_ (fun hc => ?_) | refine And.intro ?_ ?_ | intro hc) | simp (maxSteps := 4000000) only [wops_nil, wops_cons, wstep_none, wrun_call, wrun_mv, wrun_bin, wrun_not, wrun_ext, wrun_idxA, wop, aop, ev, look, put_some, writes, ores_some, ores_ite_none, binV, thenK, blockK, boolV, value, cut, toLits, mkAgg, List.map_cons, List.map_nil, List.length_cons, List.length_nil, List.getElem?_cons_zero, List.getElem?_cons_succ, List.take_succ_cons, List.take_zero, List.drop_zero, List.append_nil, List.replicate_zero, List.length_append, List.length_map, Option.map_some, if_true, if_false, Nat.reduceEqDiff, Nat.reduceLT, Nat.zero_add, Nat.mul_one, reduceCtorEq, Bool.not_true, Bool.false_eq_true, eq_self, true_and, and_true, freeze, lidsL, lids, List.flatMap_cons, List.flatMap_nil, ren, renL, shiftρ, Int.toNat_natCast, *] | simp (disch := omega) only [wrapI] | (with_reducible show wcall _ false (.lit (.func (.func 8) _ _)) _ _ _ _; refine wcall_fn (h8) ?_ ?_ ?_; (next => simp [rfyL, rfy, hget, ints, take_rfy, Int.toNat_natCast]); (next => simp [plainL, plain, plainR, Int.toNat_natCast])) | (with_reducible show wcallX _ false (.lit (.func (.func 8) _ _)) _ _ _ _; refine wcallX_fn (h8) ?_ ?_ ?_; (next => simp [rfyL, rfy, hget, ints, take_rfy, Int.toNat_natCast]); (next => simp [plainL, plain, plainR, Int.toNat_natCast])) | (with_reducible show wcall _ false (.lit (.func (.func 29) _ _)) _ _ _ _; refine wcall_fn (h29) ?_ ?_ ?_; (next => simp [rfyL, rfy, hget, ints, take_rfy, Int.toNat_natCast]); (next => simp [plainL, plain, plainR, Int.toNat_natCast])) | (with_reducible show wcallX _ false (.lit (.func (.func 29) _ _)) _ _ _ _; refine wcallX_fn (h29) ?_ ?_ ?_; (next => simp [rfyL, rfy, hget, ints, take_rfy, Int.toNat_natCast]); (next => simp [plainL, plain, plainR, Int.toNat_natCast])) | omega)
  all_goals first | (simp [St.only, get_mk, look]; done)
set_option maxHeartbeats 8000000 in
theorem k10 {z : Nat} {nil : Bool} {l m : List Rd} {D : List (List Int)} {R : AV} {new : List Blk} (r : Rd) (e : Int) (hl : l.length < 900000) (hm : l ++ [r] = m) (h8 : Fn Tryz.prog 8 [i64 z, rdgs nil l] (i64 0) []) (h29 : Fn Tryz.prog 29 [i64 z, rdgs nil l] (.tup [.lsl 0 0 z, bl true]) (tabB D z))
    (h8m : Fn Tryz.prog 8 [i64 z, rdgs false m] (i64 e) [])
    (h29m : (e ≠ 0 ∧ R = .tup [.sl true 0 [], i64 e] ∧ new = []) ∨ (e = 0 ∧ R = .tup [.sl true 0 [], i64 13] ∧ new = [] ∧ Fn Tryz.prog 29 [i64 z, rdgs false m] (.tup [.sl true 0 [], bl false]) []) ∨
      (e = 0 ∧ R = .tup [.lsl 0 0 (l.length + 1), i64 0] ∧ new = [.cells false false 4 (rows4 m)] ∧ ∃ D2, Fn Tryz.prog 29 [i64 z, rdgs false m] (.tup [.lsl 0 0 z, bl true]) (tabB D2 z))) :
    Fn Tryz.prog 10 [i64 z, rdgs nil l, rdV r] R new := by
  refine k10a r hl ?_
  have hml : m.length = l.length + 1 := by rw [← hm]; simp
  rw [hm]
  clear hm
  generalize l.length + 1 = n at *
  have hl0 := fun K H hH => k10l0 (n := n) (m := m) h8 h29 (R = .tup [.lsl 0 0 n, i64 0] ∧ new = [.cells false false 4 (rows4 m)]) K H hH
  replace hl0 := And.intro hl0 trivial
  have hpl : plainL [i64 z, rdgs false m] = true := by simp [plainL, plain]
  replace h29m := And.intro h29m trivial
  clear h8 h29
  unfold c10r1
  repeat' (first | ((with_reducible refine T_calm ?_ ?_); rfl) | (with_reducible first | refine T_seq ?_ | refine T_reg ?_ | refine T_draw ?_ | refine T_skip ?_ | refine T_exit ?_ | refine T_block ?_ | refine T_cond_t rfl ?_ | refine T_cond_f rfl ?_ | refine wdW_cons rfl ?_ | refine T_ret ?_ | refine leave_of (.inr rfl) _ rfl ?_ | refine leave_of (.inl rfl) _ rfl ?_ | refine wif_intro ?_ (fun hc => ?_) | refine And.intro ?_ ?_ | intro hc) | simp (maxSteps := 4000000) only [wops_nil, wops_cons, wstep_none, wrun_mv, wrun_build, wop, aop, ev, look, put_some, writes, ores_some, ores_ite_none, ores_map, wif_true, thenK, fillA, putCells, AV.parts, isOne, toLits, mkAgg, List.map_cons, List.map_nil, List.length_cons, List.length_nil, List.take_succ_cons, List.take_zero, List.drop_succ_cons, List.drop_zero, List.drop_nil, List.cons_append, List.nil_append, List.append_nil, List.append_assoc, List.replicate_zero, List.all_cons, List.all_nil, List.length_append, if_true, if_false, Nat.reduceEqDiff, Nat.reduceAdd, Nat.reduceLeDiff, Nat.zero_add, Nat.le_refl, Nat.zero_ne_one, reduceCtorEq, Bool.and_true, eq_self, true_and, and_true, and_self, List.all_cons, *] | simp (disch := omega) only [getD_ints, wrapI] | omega)
  refine T_forH [0, 8, 22, 23] (SL75 z n nil l) 2 (fun k H => H[0]? = some (.cells (decide (k < 2)) false 4 (rows4 m)) ∧ (2 ≤ k → R = .tup [.lsl 0 0 n, i64 0] ∧ new = [.cells false false 4 (rows4 m)])) 0 ?_ ⟨rfl, fun h => by omega⟩ (Nat.zero_le _) ?_
  · simp [St.only, get_mk, look]
  intro k H hk ⟨hH, hR⟩
  by_cases hk0 : k = 0
  · subst hk0
    exact hl0.1 _ H hH
  clear hl0
  by_cases hk1 : k = 1
  · subst hk1
    have hre := And.intro (re_m hH hml z) trivial
    have hf := frz_m (n := n) hH z
    have hd2 : decide (1 + 1 < 2) = false := rfl
    rw [hd2]
    clear hd2
    have e2 : (((1 : Nat) : Int)).toNat = 1 := rfl
    clear hR
    unfold c10l0
    repeat' (first | ((with_reducible refine T_calm ?_ ?_); rfl) | (with_reducible first | refine T_seq ?_ | refine T_reg ?_ | refine T_draw ?_ | refine T_skip ?_ | refine T_exit ?_ | refine T_block ?_ | refine T_cond_t rfl ?_ | refine T_cond_f rfl ?_ | refine wdW_cons rfl ?_ | refine T_ret ?_ | refine leave_of (.inr rfl) _ rfl ?_ | refine leave_of (.inl rfl) _ rfl ?_ | refine wif_intro ?_ (fun hc => ?_) | refine And.intro ?_ ?_ | intro hc) | simp (maxSteps := 4000000) only [wops_nil, wops_cons, wstep_none, wrun_call, wrun_mv, wrun_bin, wrun_idxA, wop, aop, ev, look, put_some, writes, ores_some, ores_ite_none, binV, thenK, value, cut, toLits, mkAgg, List.map_cons, List.map_nil, List.length_cons, List.length_nil, List.take_succ_cons, List.take_nil, List.drop_succ_cons, List.drop_zero, List.append_nil, List.replicate_zero, Option.map_some, if_true, if_false, Nat.reduceEqDiff, Nat.reduceAdd, Nat.reduceLT, Nat.zero_add, Nat.mul_one, Nat.le_refl, reduceCtorEq, Bool.false_eq_true, eq_self, true_and, true_implies, *] | simp (disch := omega) only [getD_ints, wrapI] | omega)
    refine wcall_fn h8m hre.1 hpl ?_
    generalize freeze H (lidsL (hget H) [i64 z, .lsl 0 0 n]) = F at *
    have hre2 := And.intro (re_m hf hml z) trivial
    have hf2 := frz_m (n := n) hf z
    clear hre hH
    rcases h29m.1 with ⟨he, rfl, rfl⟩ | ⟨rfl, rfl, rfl, h29⟩ | ⟨rfl, rfl, rfl, D2, h29⟩
    · have hd1 : (e != 0) = true := by simp only [bne_iff_ne]; exact he
      clear h29m
      repeat' (first | ((with_reducible refine T_calm ?_ ?_); rfl) | (with_reducible first | refine T_seq ?_ | refine T_reg ?_ | refine T_draw ?_ | refine T_skip ?_ | refine T_exit ?_ | refine T_block ?_ | refine T_cond_t rfl ?_ | refine T_cond_f rfl ?_ | refine wdW_cons rfl ?_ | refine T_ret ?_ | refine leave_of (.inr rfl) _ rfl ?_ | refine leave_of (.inl rfl) _ rfl ?_ | refine wif_intro ?_ (fun hc => ?_) | refine And.intro ?_ ?_ | intro hc) | simp (maxSteps := 4000000) only [wops_nil, wops_cons, wstep_none, wrun_mv, wrun_bin, get_mk, wop, aop, ev, look, put_some, writes, ores_some, binV, thenK, blockK, tupOf, List.map_nil, List.append_nil, List.replicate_zero, Option.map_some, if_true, if_false, Nat.reduceEqDiff, reduceCtorEq, eq_self, false_and, and_false, ren, renL, renR, *] | simp (disch := omega) only [getD_ints, wrapI] | omega)
    · clear h29m
      repeat' (first | ((with_reducible refine T_calm ?_ ?_); rfl) | (with_reducible first | refine T_seq ?_ | refine T_reg ?_ | refine T_draw ?_ | refine T_skip ?_ | refine T_exit ?_ | refine T_block ?_ | refine T_cond_t rfl ?_ | refine T_cond_f rfl ?_ | refine wdW_cons rfl ?_ | refine T_ret ?_ | refine leave_of (.inr rfl) _ rfl ?_ | refine leave_of (.inl rfl) _ rfl ?_ | refine wif_intro ?_ (fun hc => ?_) | refine And.intro ?_ ?_ | intro hc) | simp (maxSteps := 4000000) only [wops_nil, wops_cons, wstep_none, wrun_call, wrun_mv, wrun_bin, wop, aop, ev, look, put_some, writes, ores_some, binV, thenK, List.map_cons, List.map_nil, List.append_nil, List.replicate_zero, Option.map_some, if_true, if_false, Nat.reduceEqDiff, reduceCtorEq, eq_self, false_and, and_false, ren, *] | simp (disch := omega) only [getD_ints, wrapI] | omega)
      refine wcall_fn h29 hre2.1 hpl ?_
      generalize freeze F (lidsL (hget F) [i64 z, .lsl 0 0 n]) = G at *
      clear hre2
      repeat' (first | ((with_reducible refine T_calm ?_ ?_); rfl) | (with_reducible first | refine T_seq ?_ | refine T_reg ?_ | refine T_draw ?_ | refine T_skip ?_ | refine T_exit ?_ | refine T_block ?_ | refine T_cond_t rfl ?_ | refine T_cond_f rfl ?_ | refine wdW_cons rfl ?_ | refine T_ret ?_ | refine leave_of (.inr rfl) _ rfl ?_ | refine leave_of (.inl rfl) _ rfl ?_ | refine wif_intro ?_ (fun hc => ?_) | refine And.intro ?_ ?_ | intro hc) | simp (maxSteps := 4000000) only [wops_nil, wops_cons, wstep_none, wrun_mv, wrun_not, wrun_ext, get_mk, wop, aop, ev, look, put_some, writes, ores_some, thenK, blockK, boolV, tupOf, List.map_nil, List.getElem?_cons_zero, List.getElem?_cons_succ, List.append_nil, List.replicate_zero, Option.map_some, if_true, if_false, Nat.reduceEqDiff, reduceCtorEq, Bool.not_false, eq_self, ren, renL, renR, *] | simp (disch := omega) only [getD_ints, wrapI] | omega)
    · clear h29m
      repeat' (first | ((with_reducible refine T_calm ?_ ?_); rfl) | (with_reducible first | refine T_seq ?_ | refine T_reg ?_ | refine T_draw ?_ | refine T_skip ?_ | refine T_exit ?_ | refine T_block ?_ | refine T_cond_t rfl ?_ | refine T_cond_f rfl ?_ | refine wdW_cons rfl ?_ | refine T_ret ?_ | refine leave_of (.inr rfl) _ rfl ?_ | refine leave_of (.inl rfl) _ rfl ?_ | refine wif_intro ?_ (fun hc => ?_) | refine And.intro ?_ ?_ | intro hc) | simp (maxSteps := 4000000) only [wops_nil, wops_cons, wstep_none, wrun_call, wrun_mv, wrun_bin, wop, aop, ev, look, put_some, writes, ores_some, binV, thenK, List.map_cons, List.map_nil, List.append_nil, List.replicate_zero, Option.map_some, if_true, if_false, Nat.reduceEqDiff, reduceCtorEq, eq_self, and_true, and_self, ren, *] | simp (disch := omega) only [getD_ints, wrapI] | omega)
      refine wcall_fn h29 hre2.1 hpl ?_
      generalize freeze F (lidsL (hget F) [i64 z, .lsl 0 0 n]) = G at *
      have hx := fun X => at_app hf2 X
      clear hre2
      repeat' (first | ((with_reducible refine T_calm ?_ ?_); rfl) | (with_reducible first | refine T_seq ?_ | refine T_reg ?_ | refine T_draw ?_ | refine T_skip ?_ | refine T_exit ?_ | refine T_block ?_ | refine T_cond_t rfl ?_ | refine T_cond_f rfl ?_ | refine wdW_cons rfl ?_ | refine T_ret ?_ | refine leave_of (.inr rfl) _ rfl ?_ | refine leave_of (.inl rfl) _ rfl ?_ | refine wif_intro ?_ (fun hc => ?_) | refine And.intro ?_ ?_ | intro hc) | simp (maxSteps := 4000000) only [wops_nil, wops_cons, wstep_none, wrun_mv, wrun_bin, wrun_not, wrun_ext, wop, aop, ev, look, put_some, writes, ores_some, binV, thenK, blockK, boolV, List.getElem?_cons_zero, List.getElem?_cons_succ, List.append_nil, List.replicate_zero, List.length_append, List.length_map, Option.map_some, if_true, if_false, Nat.reduceEqDiff, Nat.zero_add, reduceCtorEq, Bool.not_true, eq_self, true_and, ren, renL, shiftρ, *] | simp (disch := omega) only [wrapI] | omega)
      all_goals first | (simp [St.only, get_mk, look]; done)
  · have hk2 : k = 2 := by omega
    subst hk2
    have hHl := (List.getElem?_eq_some_iff.1 hH).1
    have hd2 : decide (2 < 2) = false := rfl
    rw [hd2] at hH
    clear hd2
    unfold c10l0
    obtain ⟨rfl, rfl⟩ := hR (Nat.le_refl _)
    clear h29m hR
    repeat' (first | ((with_reducible refine T_calm ?_ ?_); rfl) | (with_reducible first | refine T_seq ?_ | refine T_reg ?_ | refine T_draw ?_ | refine T_skip ?_ | refine T_exit ?_ | refine T_block ?_ | refine T_cond_t rfl ?_ | refine T_cond_f rfl ?_ | refine wdW_cons rfl ?_ | refine T_ret ?_ | refine wif_intro ?_ (fun hc => ?_) | refine And.intro ?_ ?_ | intro hc) | simp (maxSteps := 4000000) only [wops_nil, wops_cons, wstep_none, wrun_mv, wrun_bin, wop, aop, ev, look, put_some, writes, ores_some, binV, thenK, blockK, List.append_nil, List.replicate_zero, Option.map_some, if_true, if_false, Nat.reduceEqDiff, Nat.reduceAdd, Nat.reduceLeDiff, Nat.reduceLT, reduceCtorEq, eq_self, and_true, and_self, false_and, implies_true, decide_false, *] | simp (disch := omega) only [getD_ints, wrapI] | omega)
    exact leave_ids (.inr rfl) [.lsl 0 0 n, i64 0] [0] rfl (fun id hid => by simp at hid; subst hid; exact hHl) (by simp) ⟨by simp [tupOf, ren, renL, keepρ, pos], by simp [hget, hH, renB, renR_rows4]⟩
end Go.Abs
