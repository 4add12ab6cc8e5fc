import Derived.Test.YtpfmamngjefohaaK58
set_option linter.all false
set_option linter.unusedVariables false
set_option linter.unusedSimpArgs false
set_option linter.unusedSectionVars false
namespace Go.Abs
open Go.Proofs
/-! try: the first call, whose sequence is nil -/
set_option maxHeartbeats 8000000 in
theorem k53z : Fn Try.prog 53 [.sl true 0 []] (.lsl 0 0 0) [.cells true false 1 []] := by
  refine fn_of e53 ?_
  unfold c53
  repeat' (first
    | with_reducible first
      | refine T_seq ?_
      | refine T_reg ?_
      | refine T_skip ?_
      | refine T_exit ?_
      | refine T_block ?_
      | refine T_cond_t rfl ?_
      | refine T_cond_f rfl ?_
      | ((first | refine T_cond rfl (fun hc => ?_) (fun hc => ?_) | refine wguard_split (fun hc => ?_) (fun hc => ?_)) <;> have hd := hc <;> (try simp (disch := omega) only [wrapI] at hd) <;> have hs := hd <;> (try simp only [Bool.not_eq_true', Bool.not_eq_false', Bool.and_eq_true, Bool.and_eq_false_iff, Bool.or_eq_true, Bool.or_eq_false_iff, decide_eq_true_eq, decide_eq_false_iff_not, beq_iff_eq, bne_iff_ne, beq_eq_false_iff_ne, bne_eq_false_iff_eq, Bool.not_true, Bool.not_false, gt_iff_lt, ge_iff_le, Int.not_lt, Int.not_le, ne_eq, Decidable.not_not] at hd) <;> (try simp at hs))
      | refine T_ret ?_
      | refine leave_ids (.inr rfl) _ [1] rfl (by simp) (by simp) ?_
      | refine leave_ids (.inl rfl) _ [1] rfl (by simp) (by simp) ?_
      | refine leaveA_of (.inr rfl) _ rfl ?_
      | refine leaveA_of (.inl rfl) _ rfl ?_
      | refine wif_intro ?_ (fun hc => ?_)
      | refine And.intro ?_ ?_
      | intro hc
    | simp (maxSteps := 4000000) only [wops_nil, wops_cons, wstep_none, wrun_mv, wrun_bslice, wrun_app, get_mk, wop, aop, ev, look, put_some, writes, ores_some, thenK, elsOf, szOk, hget, fillA, tupOf, List.flatten_nil, rowsOf, List.map_cons, List.map_nil, List.length_nil, List.getElem?_cons_zero, List.getElem?_cons_succ, List.set_cons_zero, List.set_cons_succ, List.take_nil, List.drop_nil, List.nil_append, List.append_nil, List.replicate_zero, List.replicate_succ, List.zipIdx_cons, List.zipIdx_nil, List.isEmpty_nil, Option.getD_some, Option.map_some, Option.map_none, if_true, if_false, Nat.reduceEqDiff, Nat.reduceLeDiff, Nat.reduceBEq, Nat.add_zero, Nat.zero_add, Nat.sub_self, Nat.zero_mul, Nat.mul_one, Nat.le_refl, reduceCtorEq, Bool.and_true, Bool.or_false, eq_self, true_and, and_self, ren, renR, renB, renO, keepρ, pos, Nat.not_lt_zero, *]
    | simp (disch := omega) only [getD_ints, wrapI]
    | omega)
  all_goals first | rfl
abbrev SL94z (id : Nat) (nil : Bool) (l : List Gr) (d w : Int) : List (Nat × AV) := [(0, .loc id 0 0), (1, gts nil l), (2, .sl true 0 []), (3, i64 0), (4, i64 d), (5, i64 w)]
set_option maxHeartbeats 8000000 in
theorem k94zno {b id : Nat} {nil : Bool} {l : List Gr} {d w : Int} {H : List Blk} (hw : ¬d ≤ w) (hsb : SB id none H) (K : Exit → St → Prop) :
    T none Try.prog muts 115 b c94r0 ⟨SL94z id nil l d w, H⟩ (thenK (fun s' => SB id (trL [] 0 d w none) s'.heap ∧ Kp id H s'.heap ∧ (s'.only [0, 1, 2, 3, 4, 5]).slots = SL94z id nil l d w) K) := by
  have hs' : SB id (trL [] 0 d w none) H := by unfold trL; rw [if_neg hw]; exact hsb
  have hk := PLift.up (Kp.refl id H)
  have d1 : decide (d ≤ w) = false := decide_eq_false hw
  replace hs' := PLift.up hs'
  clear hw hsb
  unfold c94r0
  repeat' (first
    | ((with_reducible refine T_calm ?_ ?_); rfl)
    | with_reducible first
      | refine T_seq ?_
      | refine T_reg ?_
      | refine T_draw ?_
      | refine T_skip ?_
      | refine T_exit ?_
      | refine T_block ?_
      | refine T_cond_t rfl ?_
      | refine T_cond_f rfl ?_
      | refine wdW_cons rfl ?_
      | ((first | refine T_cond rfl (fun hc => ?_) (fun hc => ?_) | refine wguard_split (fun hc => ?_) (fun hc => ?_) | refine wguardX_split (fun hc => ?_) (fun hc => ?_)) <;> have hd := hc <;> (try simp (disch := omega) only [wrapI] at hd) <;> have hs := hd <;> (try simp only [Bool.not_eq_true', Bool.not_eq_false', Bool.and_eq_true, Bool.and_eq_false_iff, Bool.or_eq_true, Bool.or_eq_false_iff, decide_eq_true_eq, decide_eq_false_iff_not, beq_iff_eq, bne_iff_ne, beq_eq_false_iff_ne, bne_eq_false_iff_eq, Bool.not_true, Bool.not_false, gt_iff_lt, ge_iff_le, Int.not_lt, Int.not_le, ne_eq, Decidable.not_not] at hd) <;> (try simp at hs))
      | refine T_ret ?_
      | refine wif_intro ?_ (fun hc => ?_)
      | refine And.intro ?_ ?_
      | intro hc
    | simp (maxSteps := 4000000) only [wops_nil, wops_cons, wstep_none, wrun_mv, wrun_bin, wop, aop, ev, look, put_some, writes, ores_some, binV, thenK, List.append_nil, List.replicate_zero, Option.map_some, if_true, if_false, Nat.reduceEqDiff, reduceCtorEq, eq_self, *]
    | simp (disch := omega) only [getD_ints, wrapI]
    | omega)
  all_goals first | exact hs'.down | exact hk.down | (simp [St.only, get_mk, look]; done)
set_option maxHeartbeats 8000000 in
theorem k94zst {b id : Nat} {nil : Bool} {l : List Gr} {d w : Int} {H : List Blk} (hw : d ≤ w) (hid : H[id]? = some (.cells true false 3 [[.sl true 0 [], i64 0, bl false]])) (K : Exit → St → Prop) :
    T none Try.prog muts 115 b c94r0 ⟨SL94z id nil l d w, H⟩ (thenK (fun s' => SB id (some ([], 0)) s'.heap ∧ Kp id H s'.heap ∧ (s'.only [0, 1, 2, 3, 4, 5]).slots = SL94z id nil l d w) K) := by
  have h53 := k53z
  have l0 := (List.getElem?_eq_some_iff.1 hid).1
  obtain ⟨u1, u2, u3, u4⟩ := cells_sub (X := []) (H := H) rfl
  have a0 := at_in hid
  have aS : ∀ (X : List Blk) (v : Blk), ((H ++ X).set id v)[id]? = some v := fun X v => List.getElem?_set_self (by rw [List.length_append]; omega)
  have hfin : ∀ v, v = Blk.cells true false 3 [[.lsl H.length 0 0, i64 0, bl true]] → SB id (some ([], 0)) ((H ++ [Blk.cells true false 1 []]).set id v) := fun v hv => by
    subst hv
    refine ⟨H.length, true, aS _ _, ?_⟩
    show ((H ++ _).set id _)[H.length]? = _
    rw [List.getElem?_set_ne (show id ≠ H.length by omega), u1]; rfl
  have hkp : ∀ v, Kp id H ((H ++ [Blk.cells true false 1 []]).set id v) := fun v => (Kp.app id H _).trans (Kp.set id _ v)
  replace hfin := PLift.up hfin
  replace hkp := PLift.up hkp
  have d1 : decide (d ≤ w) = true := decide_eq_true hw
  clear hw u4
  unfold c94r0
  repeat' (first
    | ((with_reducible refine T_calm ?_ ?_); rfl)
    | with_reducible first
      | refine T_seq ?_
      | refine T_reg ?_
      | refine T_draw ?_
      | refine T_skip ?_
      | refine T_exit ?_
      | refine T_block ?_
      | refine T_cond_t rfl ?_
      | refine T_cond_f rfl ?_
      | refine wdW_cons rfl ?_
      | (show wcall _ false (.lit (.func (.func 53) _ _)) _ _ _ _; refine wcall_fn (h53) rfl (by simp [plainL, plain, plainR]) ?_)
      | (show wcallX _ false (.lit (.func (.func 53) _ _)) _ _ _ _; refine wcallX_fn (h53) rfl (by simp [plainL, plain, plainR, List.set_set, Int.toNat_natCast]) ?_)
      | ((first | refine T_cond rfl (fun hc => ?_) (fun hc => ?_) | refine wguard_split (fun hc => ?_) (fun hc => ?_) | refine wguardX_split (fun hc => ?_) (fun hc => ?_)) <;> have hd := hc <;> (try simp (disch := omega) only [wrapI] at hd) <;> have hs := hd <;> (try simp only [Bool.not_eq_true', Bool.not_eq_false', Bool.and_eq_true, Bool.and_eq_false_iff, Bool.or_eq_true, Bool.or_eq_false_iff, decide_eq_true_eq, decide_eq_false_iff_not, beq_iff_eq, bne_iff_ne, beq_eq_false_iff_ne, bne_eq_false_iff_eq, Bool.not_true, Bool.not_false, gt_iff_lt, ge_iff_le, Int.not_lt, Int.not_le, ne_eq, Decidable.not_not] at hd) <;> (try simp at hs))
      | refine T_ret ?_
      | refine wif_intro ?_ (fun hc => ?_)
      | refine And.intro ?_ ?_
      | intro hc
    | simp (maxSteps := 4000000) only [wops_nil, wops_cons, wstep_none, wstep_some, wguard_tf, wgu, wrun_call, wrun_mv, wrun_pick, wrun_bin, wrun_not, wrun_load, wrun_store, wrun_faddr, wrun_nilck, wop, aop, ev, look, put_some, put_none, writes, ores_some, binV, thenK, boolV, value, cut, hget, putCells, AV.parts, isOne, mkAgg, List.map_cons, List.map_nil, List.length_cons, List.length_nil, List.set_cons_zero, List.take_succ_cons, List.take_zero, List.take_nil, List.drop_succ_cons, List.drop_zero, List.drop_nil, List.cons_append, List.nil_append, List.append_nil, List.append_assoc, List.replicate_zero, List.getD_cons_zero, List.all_cons, List.all_nil, Option.getD_some, Option.map_some, if_true, if_false, Nat.reduceEqDiff, Nat.reduceAdd, Nat.reduceLeDiff, Nat.reduceLT, Nat.add_zero, Nat.zero_add, Nat.le_refl, reduceCtorEq, Bool.not_false, Bool.and_true, Bool.false_eq_true, eq_self, true_and, and_self, freeze, lidsL, lids, List.flatMap_cons, List.flatMap_nil, List.all_cons, ren, renR, renB, shiftρ, List.set_set, *]
    | simp (disch := omega) only [getD_ints, wrapI]
    | (with_reducible show wcall _ false (.lit (.func (.func 53) _ _)) _ _ _ _; refine wcall_fn (h53) ?_ ?_ ?_; (next => simp [rfyL, rfy, hget, ints, take_rfy, List.set_set, Int.toNat_natCast]); (next => simp [plainL, plain, plainR, List.set_set, Int.toNat_natCast]))
    | (with_reducible show wcallX _ false (.lit (.func (.func 53) _ _)) _ _ _ _; refine wcallX_fn (h53) ?_ ?_ ?_; (next => simp [rfyL, rfy, hget, ints, take_rfy, List.set_set, Int.toNat_natCast]); (next => simp [plainL, plain, plainR, List.set_set, Int.toNat_natCast]))
    | omega)
  all_goals first | exact hfin.down _ rfl | exact hkp.down _ | (simp [St.only, get_mk, look]; done)
end Go.Abs
