import Derived.Test.YtpfmamngjefohaaK396x
set_option linter.all false
set_option linter.unusedVariables false
set_option linter.unusedSimpArgs false
set_option linter.unusedSectionVars false
namespace Go.Abs
open Go.Proofs
/-! GrindOrders: the last checks -/
structure OK12 (hi W W2 W3 L U : List Int) (n : Nat) : Prop where
  nn : n ≤ 1000
  lh : hi.length = n
  l1 : W.length = n
  l2 : W2.length = n
  l3 : W3.length = n
  l4 : L.length = n
  l5 : U.length = n
  s : ∀ z, z < n → W2.getD z 0 = W.getD z 0 + W3.getD z 0
  h : ∀ z, z < n → W2.getD z 0 ≤ hi.getD z 0
  u : ∀ z, z < n → U.getD z 0 = hi.getD z 0 - W2.getD z 0
  l : ∀ z, z < n → 0 ≤ L.getD z 0 ∧ L.getD z 0 ≤ U.getD z 0
  b : ∀ z, z < n → (-1000000000 ≤ W2.getD z 0 ∧ W2.getD z 0 ≤ 1000000000) ∧ (-1000000000 ≤ hi.getD z 0 ∧ hi.getD z 0 ≤ 1000000000)
abbrev SL12b (iw ia io N n z : Nat) : List (Nat × AV) := [(3, .loc 0 0 0), (6, .lsl iw 0 n), (17, .lsl ia 0 n), (19, .lsl io 0 n), (21, .loc N 0 0), (23, i64 z)]
set_option maxHeartbeats 8000000 in
theorem k12gl {n1 n2 n3 o nl ow oa oo on ol ou : Bool} {lo hi W W2 W3 L U : List Int} {s : List Ss} {x : Ss} {iw ia io N il iu n z : Nat} {H : List Blk} (hK : OK12 hi W W2 W3 L U n) (hz : z < n) (hH : H[0]? = some (dyB o nl n1 lo n2 hi n3 s x)) (hw : H[iw]? = some (iB ow W)) (ha : H[ia]? = some (iB oa W2)) (ho : H[io]? = some (iB oo W3)) (hN : H[N]? = some (.cells on false 2 [[.lsl il 0 n, .lsl iu 0 n]])) (hl : H[il]? = some (iB ol L)) (hu : H[iu]? = some (iB ou U)) (K : Exit → St → Prop) {bb : Nat} :
    T none Try.prog muts 312 bb c12l1 ⟨SL12b iw ia io N n z, H⟩ (thenK (fun s' => (z < n ∧ True) ∧ s'.only [3, 6, 17, 19, 21, 23] = ⟨SL12b iw ia io N n (z + 1), H⟩) K) := by
  have g1 : (W.map fun x => [i64 x]).getD z [] = [i64 (W.getD z 0)] := getD_ints (by rw [hK.l1]; exact hz)
  have g2 : (W2.map fun x => [i64 x]).getD z [] = [i64 (W2.getD z 0)] := getD_ints (by rw [hK.l2]; exact hz)
  have g3 : (W3.map fun x => [i64 x]).getD z [] = [i64 (W3.getD z 0)] := getD_ints (by rw [hK.l3]; exact hz)
  have g4 : (L.map fun x => [i64 x]).getD z [] = [i64 (L.getD z 0)] := getD_ints (by rw [hK.l4]; exact hz)
  have g5 : (U.map fun x => [i64 x]).getD z [] = [i64 (U.getD z 0)] := getD_ints (by rw [hK.l5]; exact hz)
  have g6 : (hi.map fun x => [i64 x]).getD z [] = [i64 (hi.getD z 0)] := getD_ints (by rw [hK.lh]; exact hz)
  have e1 : (W.map fun x => [i64 x]).length = n := by rw [List.length_map, hK.l1]
  have e2 : (W2.map fun x => [i64 x]).length = n := by rw [List.length_map, hK.l2]
  have e3 : (W3.map fun x => [i64 x]).length = n := by rw [List.length_map, hK.l3]
  have e4 : (L.map fun x => [i64 x]).length = n := by rw [List.length_map, hK.l4]
  have e5 : (U.map fun x => [i64 x]).length = n := by rw [List.length_map, hK.l5]
  have e6 : (hi.map fun x => [i64 x]).length = n := by rw [List.length_map, hK.lh]
  have s1 := hK.s z hz
  have s2 := hK.h z hz
  have s3 := hK.u z hz
  have s4 := hK.l z hz
  have s5 := hK.b z hz
  have hnn := hK.nn
  have ew1 : IntKind.i64.wrap (W.getD z 0 + W3.getD z 0) = W2.getD z 0 := by rw [← s1]; exact wrapI (by omega) (by omega)
  have ew2 : IntKind.i64.wrap (hi.getD z 0 - W2.getD z 0) = U.getD z 0 := by rw [s3]; exact wrapI (by omega) (by omega)
  have d1 : (W2.getD z 0 != W2.getD z 0) = false := by simp
  have d2 : decide (W2.getD z 0 > hi.getD z 0) = false := decide_eq_false (by omega)
  have d3 : (U.getD z 0 != U.getD z 0) = false := by simp
  have d4 : decide (L.getD z 0 < 0) = false := decide_eq_false (by omega)
  have d5 : decide (L.getD z 0 > U.getD z 0) = false := decide_eq_false (by omega)
  have hzn : (z : Int) < (n : Int) := by omega
  have y0 := (List.getElem?_eq_some_iff.1 hH).1
  have yw := (List.getElem?_eq_some_iff.1 hw).1
  have ya := (List.getElem?_eq_some_iff.1 ha).1
  have yo := (List.getElem?_eq_some_iff.1 ho).1
  have yN := (List.getElem?_eq_some_iff.1 hN).1
  have yl := (List.getElem?_eq_some_iff.1 hl).1
  have yu := (List.getElem?_eq_some_iff.1 hu).1
  clear hK s1 s2 s3 s4 s5
  generalize W.getD z 0 = x1 at *
  generalize W2.getD z 0 = x2 at *
  generalize W3.getD z 0 = x3 at *
  generalize L.getD z 0 = x4 at *
  generalize U.getD z 0 = x5 at *
  generalize hi.getD z 0 = x6 at *
  unfold c12l1
  repeat' (first | ((with_reducible refine T_calm ?_ ?_); rfl) | (with_reducible first | refine T_seq ?_ | refine T_reg ?_ | refine T_draw ?_ | refine T_skip ?_ | refine T_exit ?_ | refine T_block ?_ | refine T_cond_t rfl ?_ | refine T_cond_f rfl ?_ | refine wdW_cons rfl ?_ | refine T_ret ?_ | refine wif_intro ?_ (fun hc => ?_) | refine And.intro ?_ ?_ | intro hc) | simp (maxSteps := 4000000) only [wops_nil, wops_cons, wstep_none, wstep_some, wguard_ff, wrun_mv, wrun_pick, wrun_bin, wrun_load, wrun_faddr, wrun_iaddrS, wrun_len, wop, aop, ev, look, put_some, writes, ores_some, ores_ite_none, ores_map, ores_bind, binV, thenK, blockK, intV, lenOf, value, cut, hget, mkAgg, List.map_cons, List.map_nil, List.length_cons, List.length_nil, List.take_succ_cons, List.take_zero, List.take_nil, List.drop_succ_cons, List.drop_zero, List.append_nil, List.replicate_zero, List.getD_cons_zero, Option.pure_def, Option.bind_eq_bind, Option.getD_some, Option.map_some, if_true, if_false, Nat.reduceEqDiff, Nat.add_zero, Nat.zero_add, reduceCtorEq, Bool.false_eq_true, eq_self, true_and, and_true, and_self, decide_true, Int.toNat_natCast, *] | simp (disch := omega) only [wrapI] | (with_reducible refine wdW_cons ?_ ?_; (next => simp [chk, foot, compatB, argsOf, St.get, target, ev, look, lidsL, hget, kind, AOp.isRaw, wids, wtops, tops, opds, topId, Int.toNat_natCast, y0, yw, ya, yo, yN, yl, yu]; done)) | omega)
  all_goals first | rfl | exact ⟨⟨hz, trivial⟩, by simp [St.only, get_mk, look]⟩ | (simp [St.only, get_mk, look]; done) | exact hz
set_option maxHeartbeats 8000000 in
theorem k12g {n1 n2 n3 o nl ow oa oo on ol ou : Bool} {lo hi W W2 W3 L U : List Int} {s : List Ss} {x : Ss} {iw ia io N il iu n : Nat} {H : List Blk} (hK : OK12 hi W W2 W3 L U n) (hH : H[0]? = some (dyB o nl n1 lo n2 hi n3 s x)) (hw : H[iw]? = some (iB ow W)) (ha : H[ia]? = some (iB oa W2)) (ho : H[io]? = some (iB oo W3)) (hN : H[N]? = some (.cells on false 2 [[.lsl il 0 n, .lsl iu 0 n]])) (hl : H[il]? = some (iB ol L)) (hu : H[iu]? = some (iB ou U)) :
    T none Try.prog muts 312 0 c12r7 ⟨[(3, .loc 0 0 0), (6, .lsl iw 0 n), (17, .lsl ia 0 n), (18, i64 0), (19, .lsl io 0 n), (20, i64 0), (21, .loc N 0 0), (22, i64 0)], H⟩ KO := by
  have hrow := PLift.up (fun z hz K => k12gl (bb := 0) (z := z) hK hz hH hw ha ho hN hl hu K)
  have e6 : (hi.map fun x => [i64 x]).length = n := by rw [List.length_map, hK.lh]
  have hnn : ((n : Int) != (n : Int)) = false := by simp
  clear hK
  unfold c12r7
  repeat' (first | ((with_reducible refine T_calm ?_ ?_); rfl) | (with_reducible first | refine T_seq ?_ | refine T_reg ?_ | refine T_draw ?_ | refine T_skip ?_ | refine T_exit ?_ | refine T_block ?_ | refine T_cond_t rfl ?_ | refine T_cond_f rfl ?_ | refine wdW_cons rfl ?_ | ((first | refine T_cond rfl (fun hc => ?_) (fun hc => ?_) | refine wguard_split (fun hc => ?_) (fun hc => ?_) | refine wguardX_split (fun hc => ?_) (fun hc => ?_)) <;> have hd := hc <;> (try simp (disch := omega) only [wrapI] at hd) <;> have hs := hd <;> (try simp only [bne_iff_ne, bne_eq_false_iff_eq, Bool.not_false, ne_eq] at hd) <;> (try simp at hs)) | refine T_ret ?_ | refine leave_of (.inr rfl) _ rfl ?_ | refine leave_of (.inl rfl) _ rfl ?_ | refine leaveA_of (.inr rfl) _ rfl ?_ | refine leaveA_of (.inl rfl) _ rfl ?_ | refine wif_intro ?_ (fun hc => ?_) | refine And.intro ?_ ?_ | intro hc) | simp (maxSteps := 4000000) only [wops_nil, wops_cons, wstep_none, wstep_some, wguard_ff, wrun_mv, wrun_pick, wrun_bin, wrun_load, wrun_faddr, wrun_len, wop, aop, ev, look, put_some, writes, ores_some, ores_map, ores_bind, binV, thenK, intV, lenOf, value, cut, hget, mkAgg, List.length_cons, List.length_nil, List.take_succ_cons, List.take_zero, List.take_nil, List.drop_succ_cons, List.drop_zero, List.append_nil, List.replicate_zero, List.getD_cons_zero, Option.pure_def, Option.bind_eq_bind, Option.getD_some, Option.map_some, if_true, if_false, Nat.reduceEqDiff, Nat.add_zero, Nat.zero_add, reduceCtorEq, Bool.false_eq_true, eq_self, *] | simp (disch := omega) only [getD_ints, wrapI] | omega)
  refine T_for [3, 6, 17, 19, 21, 23] (fun z => ⟨SL12b iw ia io N n z, H⟩) n (fun _ => True) 0 ?_ trivial (Nat.zero_le _) ?_
  · simp [St.only, get_mk, look]
  intro z hz _
  by_cases hzn : z < n
  · exact hrow.down z hzn _
  · have hze : z = n := by omega
    subst hze
    have hkk : decide ((z : Int) < (z : Int)) = false := by simp
    clear hrow hN hH hnn e6
    unfold c12l1
    repeat' (first | ((with_reducible refine T_calm ?_ ?_); rfl) | (with_reducible first | refine T_seq ?_ | refine T_reg ?_ | refine T_draw ?_ | refine T_skip ?_ | refine T_exit ?_ | refine T_block ?_ | refine T_cond_t rfl ?_ | refine T_cond_f rfl ?_ | refine wdW_cons rfl ?_ | refine T_ret ?_ | refine leave_of (.inr rfl) _ rfl ?_ | refine leave_of (.inl rfl) _ rfl ?_ | refine leaveA_of (.inr rfl) _ rfl ?_ | refine leaveA_of (.inl rfl) _ rfl ?_ | refine wif_intro ?_ (fun hc => ?_) | refine And.intro ?_ ?_ | intro hc) | simp (maxSteps := 4000000) only [wops_nil, wops_cons, wstep_none, wrun_mv, wrun_bin, wrun_len, get_mk, wop, aop, ev, look, put_some, writes, ores_some, ores_map, ores_bind, binV, thenK, blockK, intV, lenOf, hget, tupOf, List.append_nil, List.replicate_zero, Option.pure_def, Option.bind_eq_bind, Option.getD_some, Option.map_some, if_true, if_false, Nat.reduceEqDiff, reduceCtorEq, eq_self, and_true, false_and, ren, *] | simp (disch := omega) only [getD_ints, wrapI] | omega)
    all_goals first | rfl
end Go.Abs
