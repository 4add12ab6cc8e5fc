import Derived.Test.YtpfmamngjefohaaK52x
set_option linter.all false
set_option linter.unusedVariables false
set_option linter.unusedSimpArgs false
set_option linter.unusedSectionVars false
namespace Go.Abs
open Go.Proofs
/-! try: the look where there is one already -/
set_option maxHeartbeats 8000000 in
theorem k94A {b : Nat} {id j i : Nat} {nil : Bool} {l : List Gr} {q p : List Int} {m M d w : Int} {H : List Blk} (hw : d ≤ w) (hq : q.length < 3000000) (hid : H[id]? = some (.cells true false 3 [[.lsl i 0 p.length, i64 M, bl true]])) (hi : H[i]? = some (.cells false false 1 (p.map fun x => [i64 x]))) (hj : H[j]? = some (.cells false false 1 (q.map fun x => [i64 x]))) (hx : m < M) (K : Exit → St → Prop) :
    T none Try.prog muts 115 b c94r0 ⟨SL94 id j nil l q m d w, H⟩ (thenK (fun s' => SB id (some (q, m)) s'.heap ∧ Kp id H s'.heap ∧ (s'.only [0, 1, 2, 3, 4, 5]).slots = SL94 id j nil l q m d w) K) := by
  have h53 := k53b false q (by omega)
  have hql : (q.map fun x => [i64 x]).length = q.length := by simp
  have hpl : (p.map fun x => [i64 x]).length = p.length := by simp
  have l0 := (List.getElem?_eq_some_iff.1 hid).1
  have l1 := (List.getElem?_eq_some_iff.1 hj).1
  have l2 := (List.getElem?_eq_some_iff.1 hi).1
  obtain ⟨u1, u2, u3, u4⟩ := cells_sub (X := []) (H := H) rfl
  have a0 := at_in hid
  have a1 := at_in hj
  have fz := freeze1_no hj
  have fz2 := freeze1_no hi
  have aS : ∀ (X : List Blk) (v : Blk), ((H ++ X).set id v)[id]? = some v := fun X v => List.getElem?_set_self (by rw [List.length_append]; omega)
  have hfin : ∀ v, v = Blk.cells true false 3 [[.lsl H.length 0 q.length, i64 m, bl true]] → SB id (some (q, m)) ((H ++ [Blk.cells true false 1 (q.map fun x => [i64 x])]).set id v) := fun v hv => by
    subst hv
    refine ⟨H.length, true, aS _ _, ?_⟩
    show ((H ++ _).set id _)[H.length]? = _
    rw [List.getElem?_set_ne (show id ≠ H.length by omega), u1]; rfl
  have hkp : ∀ v, Kp id H ((H ++ [Blk.cells true false 1 (q.map fun x => [i64 x])]).set id v) := fun v => (Kp.app id H _).trans (Kp.set id _ v)
  have hno : SB id (some (p, M)) H := ⟨i, false, hid, hi⟩
  have hkn := Kp.refl id H
  replace hfin := PLift.up hfin
  replace hkp := PLift.up hkp
  replace hno := PLift.up hno
  replace hkn := PLift.up hkn
  have d1 : decide (d ≤ w) = true := decide_eq_true hw
  have e0 : decide (m < M) = true := by simp; omega
  clear hw u4 hx
  unfold c94r0
  repeat' (first
    | ((with_reducible refine T_calm ?_ ?_); rfl)
    | with_reducible first
      | refine T_seq ?_
      | refine T_reg ?_
      | refine T_draw ?_
      | refine T_skip ?_
      | refine T_exit ?_
      | refine T_block ?_
      | refine T_cond_t rfl ?_
      | refine T_cond_f rfl ?_
      | refine wdW_cons rfl ?_
      | (show wcall _ false (.lit (.func (.func 53) _ _)) _ _ _ _; refine wcall_fn (h53) rfl (by simp [plainL, plain]) ?_)
      | (show wcallX _ false (.lit (.func (.func 53) _ _)) _ _ _ _; refine wcallX_fn (h53) rfl (by simp [plainL, plain, plainR, List.set_set, Int.toNat_natCast, iR_take, iR_rfy, iR_lids, hj, hi]) ?_)
      | ((first | refine T_cond rfl (fun hc => ?_) (fun hc => ?_) | refine wguard_split (fun hc => ?_) (fun hc => ?_) | refine wguardX_split (fun hc => ?_) (fun hc => ?_)) <;> have hd := hc <;> (try simp (disch := omega) only [wrapI] at hd) <;> have hs := hd <;> (try simp only [Bool.not_eq_true', Bool.not_eq_false', Bool.and_eq_true, Bool.and_eq_false_iff, Bool.or_eq_true, Bool.or_eq_false_iff, decide_eq_true_eq, decide_eq_false_iff_not, beq_iff_eq, bne_iff_ne, beq_eq_false_iff_ne, bne_eq_false_iff_eq, Bool.not_true, Bool.not_false, gt_iff_lt, ge_iff_le, Int.not_lt, Int.not_le, ne_eq, Decidable.not_not] at hd) <;> (try simp at hs))
      | refine T_ret ?_
      | refine wif_intro ?_ (fun hc => ?_)
      | refine And.intro ?_ ?_
      | intro hc
    | simp (maxSteps := 4000000) only [wops_nil, wops_cons, wstep_none, wstep_some, wguard_ff, wguard_tf, wgu, wrun_call, wrun_mv, wrun_pick, wrun_bin, wrun_not, wrun_load, wrun_store, wrun_faddr, wrun_nilck, wop, aop, ev, look, put_some, put_none, writes, ores_some, binV, thenK, boolV, value, cut, hget, putCells, AV.parts, isOne, mkAgg, List.map_cons, List.map_nil, List.length_cons, List.length_nil, List.set_cons_zero, List.take_succ_cons, List.take_zero, List.take_nil, List.drop_succ_cons, List.drop_zero, List.drop_nil, List.cons_append, List.nil_append, List.append_nil, List.append_assoc, List.replicate_zero, List.getD_cons_zero, List.all_cons, List.all_nil, Option.getD_some, Option.map_some, if_true, if_false, Nat.reduceEqDiff, Nat.reduceAdd, Nat.reduceLeDiff, Nat.reduceLT, Nat.add_zero, Nat.zero_add, Nat.le_refl, reduceCtorEq, Bool.not_true, Bool.and_true, Bool.false_eq_true, eq_self, true_and, and_self, freeze, lidsL, lids, List.flatMap_cons, List.flatMap_nil, List.all_cons, ren, renB, shiftρ, renR_ints, List.set_set, iR_take, iR_lids, *]
    | simp (disch := omega) only [getD_ints, wrapI]
    | (with_reducible show wcall _ false (.lit (.func (.func 53) _ _)) _ _ _ _; refine wcall_fn (h53) ?_ ?_ ?_; (next => simp [rfyL, rfy, hget, ints, iR_take, hj]); (next => simp [plainL, plain]))
    | (with_reducible show wcallX _ false (.lit (.func (.func 53) _ _)) _ _ _ _; refine wcallX_fn (h53) ?_ ?_ ?_; (next => simp [rfyL, rfy, hget, ints, take_rfy, List.set_set, Int.toNat_natCast, iR_take, iR_rfy, iR_lids, hj, hi]); (next => simp [plainL, plain, plainR, List.set_set, Int.toNat_natCast, iR_take, iR_rfy, iR_lids, hj, hi]))
    | omega)
  all_goals first | exact hfin.down _ rfl | exact hkp.down _ | exact hno.down | exact hkn.down | (simp [St.only, get_mk, look]; done)
set_option maxHeartbeats 8000000 in
theorem k94B {b : Nat} {id j i : Nat} {nil : Bool} {l : List Gr} {q p : List Int} {m M d w : Int} {H : List Blk} (hw : d ≤ w) (hq : q.length < 3000000) (hid : H[id]? = some (.cells true false 3 [[.lsl i 0 p.length, i64 M, bl true]])) (hi : H[i]? = some (.cells false false 1 (p.map fun x => [i64 x]))) (hj : H[j]? = some (.cells false false 1 (q.map fun x => [i64 x]))) (hx : M < m) (K : Exit → St → Prop) :
    T none Try.prog muts 115 b c94r0 ⟨SL94 id j nil l q m d w, H⟩ (thenK (fun s' => SB id (some (p, M)) s'.heap ∧ Kp id H s'.heap ∧ (s'.only [0, 1, 2, 3, 4, 5]).slots = SL94 id j nil l q m d w) K) := by
  have h53 := k53b false q (by omega)
  have hql : (q.map fun x => [i64 x]).length = q.length := by simp
  have hpl : (p.map fun x => [i64 x]).length = p.length := by simp
  have l0 := (List.getElem?_eq_some_iff.1 hid).1
  have l1 := (List.getElem?_eq_some_iff.1 hj).1
  have l2 := (List.getElem?_eq_some_iff.1 hi).1
  obtain ⟨u1, u2, u3, u4⟩ := cells_sub (X := []) (H := H) rfl
  have a0 := at_in hid
  have a1 := at_in hj
  have fz := freeze1_no hj
  have fz2 := freeze1_no hi
  have aS : ∀ (X : List Blk) (v : Blk), ((H ++ X).set id v)[id]? = some v := fun X v => List.getElem?_set_self (by rw [List.length_append]; omega)
  have hfin : ∀ v, v = Blk.cells true false 3 [[.lsl H.length 0 q.length, i64 m, bl true]] → SB id (some (q, m)) ((H ++ [Blk.cells true false 1 (q.map fun x => [i64 x])]).set id v) := fun v hv => by
    subst hv
    refine ⟨H.length, true, aS _ _, ?_⟩
    show ((H ++ _).set id _)[H.length]? = _
    rw [List.getElem?_set_ne (show id ≠ H.length by omega), u1]; rfl
  have hkp : ∀ v, Kp id H ((H ++ [Blk.cells true false 1 (q.map fun x => [i64 x])]).set id v) := fun v => (Kp.app id H _).trans (Kp.set id _ v)
  have hno : SB id (some (p, M)) H := ⟨i, false, hid, hi⟩
  have hkn := Kp.refl id H
  replace hfin := PLift.up hfin
  replace hkp := PLift.up hkp
  replace hno := PLift.up hno
  replace hkn := PLift.up hkn
  have d1 : decide (d ≤ w) = true := decide_eq_true hw
  have e0 : decide (m < M) = false := by simp; omega
  have e1 : (m == M) = false := by simp; omega
  clear hw u4 hx
  unfold c94r0
  repeat' (first
    | ((with_reducible refine T_calm ?_ ?_); rfl)
    | with_reducible first
      | refine T_seq ?_
      | refine T_reg ?_
      | refine T_draw ?_
      | refine T_skip ?_
      | refine T_exit ?_
      | refine T_block ?_
      | refine T_cond_t rfl ?_
      | refine T_cond_f rfl ?_
      | refine wdW_cons rfl ?_
      | (show wcall _ false (.lit (.func (.func 53) _ _)) _ _ _ _; refine wcall_fn (h53) rfl (by simp [plainL, plain, plainR, List.set_set, Int.toNat_natCast, iR_take, iR_rfy, iR_lids, hj, hi]) ?_)
      | (show wcallX _ false (.lit (.func (.func 53) _ _)) _ _ _ _; refine wcallX_fn (h53) rfl (by simp [plainL, plain, plainR, List.set_set, Int.toNat_natCast, iR_take, iR_rfy, iR_lids, hj, hi]) ?_)
      | ((first | refine T_cond rfl (fun hc => ?_) (fun hc => ?_) | refine wguard_split (fun hc => ?_) (fun hc => ?_) | refine wguardX_split (fun hc => ?_) (fun hc => ?_)) <;> have hd := hc <;> (try simp (disch := omega) only [wrapI] at hd) <;> have hs := hd <;> (try simp only [Bool.not_eq_true', Bool.not_eq_false', Bool.and_eq_true, Bool.and_eq_false_iff, Bool.or_eq_true, Bool.or_eq_false_iff, decide_eq_true_eq, decide_eq_false_iff_not, beq_iff_eq, bne_iff_ne, beq_eq_false_iff_ne, bne_eq_false_iff_eq, Bool.not_true, Bool.not_false, gt_iff_lt, ge_iff_le, Int.not_lt, Int.not_le, ne_eq, Decidable.not_not] at hd) <;> (try simp at hs))
      | refine T_ret ?_
      | refine wif_intro ?_ (fun hc => ?_)
      | refine And.intro ?_ ?_
      | intro hc
    | simp (maxSteps := 4000000) only [wops_nil, wops_cons, wstep_none, wstep_some, wguard_ff, wguard_ft, wgu, wrun_mv, wrun_pick, wrun_bin, wrun_not, wrun_load, wrun_faddr, wrun_nilck, wop, aop, ev, look, put_some, writes, ores_some, binV, thenK, boolV, value, cut, hget, mkAgg, List.length_cons, List.length_nil, List.take_succ_cons, List.take_zero, List.take_nil, List.drop_succ_cons, List.drop_zero, List.append_nil, List.replicate_zero, List.getD_cons_zero, Option.getD_some, Option.map_some, if_true, if_false, Nat.reduceEqDiff, Nat.zero_add, reduceCtorEq, Bool.not_true, Bool.false_eq_true, eq_self, *]
    | simp (disch := omega) only [getD_ints, wrapI]
    | (with_reducible show wcall _ false (.lit (.func (.func 53) _ _)) _ _ _ _; refine wcall_fn (h53) ?_ ?_ ?_; (next => simp [rfyL, rfy, hget, ints, take_rfy, List.set_set, Int.toNat_natCast, iR_take, iR_rfy, iR_lids, hj, hi]); (next => simp [plainL, plain, plainR, List.set_set, Int.toNat_natCast, iR_take, iR_rfy, iR_lids, hj, hi]))
    | (with_reducible show wcallX _ false (.lit (.func (.func 53) _ _)) _ _ _ _; refine wcallX_fn (h53) ?_ ?_ ?_; (next => simp [rfyL, rfy, hget, ints, take_rfy, List.set_set, Int.toNat_natCast, iR_take, iR_rfy, iR_lids, hj, hi]); (next => simp [plainL, plain, plainR, List.set_set, Int.toNat_natCast, iR_take, iR_rfy, iR_lids, hj, hi]))
    | omega)
  all_goals first | exact hfin.down _ rfl | exact hkp.down _ | exact hno.down | exact hkn.down | (simp [St.only, get_mk, look]; done)
set_option maxHeartbeats 8000000 in
theorem k94C {b : Nat} {id j i : Nat} {nil : Bool} {l : List Gr} {q p : List Int} {m M d w : Int} {H : List Blk} (hw : d ≤ w) (hq : q.length < 3000000) (hid : H[id]? = some (.cells true false 3 [[.lsl i 0 p.length, i64 M, bl true]])) (hi : H[i]? = some (.cells false false 1 (p.map fun x => [i64 x]))) (hj : H[j]? = some (.cells false false 1 (q.map fun x => [i64 x]))) (hx : m = M ∧ q.length < p.length) (K : Exit → St → Prop) :
    T none Try.prog muts 115 b c94r0 ⟨SL94 id j nil l q m d w, H⟩ (thenK (fun s' => SB id (some (q, m)) s'.heap ∧ Kp id H s'.heap ∧ (s'.only [0, 1, 2, 3, 4, 5]).slots = SL94 id j nil l q m d w) K) := by
  have h53 := k53b false q (by omega)
  have hql : (q.map fun x => [i64 x]).length = q.length := by simp
  have hpl : (p.map fun x => [i64 x]).length = p.length := by simp
  have l0 := (List.getElem?_eq_some_iff.1 hid).1
  have l1 := (List.getElem?_eq_some_iff.1 hj).1
  have l2 := (List.getElem?_eq_some_iff.1 hi).1
  obtain ⟨u1, u2, u3, u4⟩ := cells_sub (X := []) (H := H) rfl
  have a0 := at_in hid
  have a1 := at_in hj
  have fz := freeze1_no hj
  have fz2 := freeze1_no hi
  have aS : ∀ (X : List Blk) (v : Blk), ((H ++ X).set id v)[id]? = some v := fun X v => List.getElem?_set_self (by rw [List.length_append]; omega)
  have hfin : ∀ v, v = Blk.cells true false 3 [[.lsl H.length 0 q.length, i64 m, bl true]] → SB id (some (q, m)) ((H ++ [Blk.cells true false 1 (q.map fun x => [i64 x])]).set id v) := fun v hv => by
    subst hv
    refine ⟨H.length, true, aS _ _, ?_⟩
    show ((H ++ _).set id _)[H.length]? = _
    rw [List.getElem?_set_ne (show id ≠ H.length by omega), u1]; rfl
  have hkp : ∀ v, Kp id H ((H ++ [Blk.cells true false 1 (q.map fun x => [i64 x])]).set id v) := fun v => (Kp.app id H _).trans (Kp.set id _ v)
  have hno : SB id (some (p, M)) H := ⟨i, false, hid, hi⟩
  have hkn := Kp.refl id H
  replace hfin := PLift.up hfin
  replace hkp := PLift.up hkp
  replace hno := PLift.up hno
  replace hkn := PLift.up hkn
  have d1 : decide (d ≤ w) = true := decide_eq_true hw
  have e0 : decide (m < M) = false := by simp; omega
  have e1 : (m == M) = true := by simp; omega
  have e2 : decide ((q.length : Int) < (p.length : Int)) = true := by simp; omega
  clear hw u4 hx
  unfold c94r0
  repeat' (first
    | ((with_reducible refine T_calm ?_ ?_); rfl)
    | with_reducible first
      | refine T_seq ?_
      | refine T_reg ?_
      | refine T_draw ?_
      | refine T_skip ?_
      | refine T_exit ?_
      | refine T_block ?_
      | refine T_cond_t rfl ?_
      | refine T_cond_f rfl ?_
      | refine wdW_cons rfl ?_
      | (show wcall _ false (.lit (.func (.func 53) _ _)) _ _ _ _; refine wcall_fn (h53) rfl (by simp [plainL, plain]) ?_)
      | (show wcallX _ false (.lit (.func (.func 53) _ _)) _ _ _ _; refine wcallX_fn (h53) rfl (by simp [plainL, plain, plainR, List.set_set, Int.toNat_natCast, iR_take, iR_rfy, iR_lids, hj, hi]) ?_)
      | ((first | refine T_cond rfl (fun hc => ?_) (fun hc => ?_) | refine wguard_split (fun hc => ?_) (fun hc => ?_) | refine wguardX_split (fun hc => ?_) (fun hc => ?_)) <;> have hd := hc <;> (try simp (disch := omega) only [wrapI] at hd) <;> have hs := hd <;> (try simp only [Bool.not_eq_true', Bool.not_eq_false', Bool.and_eq_true, Bool.and_eq_false_iff, Bool.or_eq_true, Bool.or_eq_false_iff, decide_eq_true_eq, decide_eq_false_iff_not, beq_iff_eq, bne_iff_ne, beq_eq_false_iff_ne, bne_eq_false_iff_eq, Bool.not_true, Bool.not_false, gt_iff_lt, ge_iff_le, Int.not_lt, Int.not_le, ne_eq, Decidable.not_not] at hd) <;> (try simp at hs))
      | refine T_ret ?_
      | refine wif_intro ?_ (fun hc => ?_)
      | refine And.intro ?_ ?_
      | intro hc
    | simp (maxSteps := 4000000) only [wops_nil, wops_cons, wstep_none, wstep_some, wguard_true, wguard_ff, wguard_tf, wgu, wrun_call, wrun_mv, wrun_pick, wrun_bin, wrun_not, wrun_load, wrun_store, wrun_faddr, wrun_len, wrun_nilck, wop, aop, ev, look, put_some, put_none, writes, ores_some, ores_map, ores_bind, binV, thenK, boolV, intV, lenOf, value, cut, hget, putCells, AV.parts, isOne, mkAgg, List.map_cons, List.map_nil, List.length_cons, List.length_nil, List.set_cons_zero, List.take_succ_cons, List.take_zero, List.take_nil, List.drop_succ_cons, List.drop_zero, List.drop_nil, List.cons_append, List.nil_append, List.append_nil, List.append_assoc, List.replicate_zero, List.getD_cons_zero, List.all_cons, List.all_nil, Option.pure_def, Option.bind_eq_bind, Option.getD_some, Option.map_some, if_true, if_false, Nat.reduceEqDiff, Nat.reduceAdd, Nat.reduceLeDiff, Nat.reduceLT, Nat.add_zero, Nat.zero_add, Nat.le_refl, reduceCtorEq, Bool.not_true, Bool.and_true, Bool.false_eq_true, eq_self, true_and, and_self, freeze, lidsL, lids, List.flatMap_cons, List.flatMap_nil, List.all_cons, ren, renB, shiftρ, renR_ints, List.set_set, iR_take, iR_lids, *]
    | simp (disch := omega) only [getD_ints, wrapI]
    | (with_reducible show wcall _ false (.lit (.func (.func 53) _ _)) _ _ _ _; refine wcall_fn (h53) ?_ ?_ ?_; (next => simp [rfyL, rfy, hget, ints, iR_take, hj]); (next => simp [plainL, plain]))
    | (with_reducible show wcallX _ false (.lit (.func (.func 53) _ _)) _ _ _ _; refine wcallX_fn (h53) ?_ ?_ ?_; (next => simp [rfyL, rfy, hget, ints, take_rfy, List.set_set, Int.toNat_natCast, iR_take, iR_rfy, iR_lids, hj, hi]); (next => simp [plainL, plain, plainR, List.set_set, Int.toNat_natCast, iR_take, iR_rfy, iR_lids, hj, hi]))
    | omega)
  all_goals first | exact hfin.down _ rfl | exact hkp.down _ | exact hno.down | exact hkn.down | (simp [St.only, get_mk, look]; done)
end Go.Abs
