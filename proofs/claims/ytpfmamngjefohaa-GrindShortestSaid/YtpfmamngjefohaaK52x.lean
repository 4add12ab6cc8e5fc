import Derived.Test.YtpfmamngjefohaaK22x
import Derived.Test.YtpfmamngjefohaaK51
set_option linter.all false
set_option linter.unusedVariables false
set_option linter.unusedSimpArgs false
set_option linter.unusedSectionVars false
namespace Go.Abs
open Go.Proofs
/-! try: the look at a sequence that is there -/
def c94r0 : ACode :=
 (.seq (.reg 0 [⟨(some 14), (.mv (.tmp 4)), none, 0⟩, ⟨(some 15), (.mv (.tmp 5)), none, 0⟩, ⟨(some 16), (.bin .leq (.tmp 14) (.tmp 15)), none, 0⟩])
 (.cond (.tmp 16) (.seq (.reg 0 [⟨(some 17), (.mv (.tmp 0)), none, 0⟩, ⟨(some 18), (.nilck (.tmp 17)), none, 0⟩, ⟨(some 19), (.faddr 2 (.tmp 18)), none, 0⟩, ⟨(some 20), (.load 1 false (.tmp 19)), none, 0⟩, ⟨(some 21), (.not (.tmp 20)), none, 0⟩, ⟨(some 22), (.mv (.tmp 21)), none, 0⟩, ⟨(some 23), (.mv (.tmp 3)), (some (22, false)), 0⟩, ⟨(some 24), (.mv (.tmp 0)), (some (22, false)), 0⟩, ⟨(some 25), (.nilck (.tmp 24)), (some (22, false)), 0⟩, ⟨(some 26), (.faddr 1 (.tmp 25)), (some (22, false)), 0⟩, ⟨(some 27), (.load 1 false (.tmp 26)), (some (22, false)), 0⟩, ⟨(some 28), (.bin .lss (.tmp 23) (.tmp 27)), (some (22, false)), 0⟩, ⟨(some 29), (.pick (.tmp 22) (.val (.lit (.bool true))) (.tmp 28)), none, 0⟩, ⟨(some 30), (.mv (.tmp 29)), none, 0⟩, ⟨(some 31), (.mv (.tmp 3)), (some (30, false)), 0⟩, ⟨(some 32), (.mv (.tmp 0)), (some (30, false)), 0⟩, ⟨(some 33), (.nilck (.tmp 32)), (some (30, false)), 0⟩, ⟨(some 34), (.faddr 1 (.tmp 33)), (some (30, false)), 0⟩, ⟨(some 35), (.load 1 false (.tmp 34)), (some (30, false)), 0⟩, ⟨(some 36), (.bin .eql (.tmp 31) (.tmp 35)), (some (30, false)), 0⟩, ⟨(some 37), (.mv (.tmp 36)), (some (30, false)), 0⟩, ⟨(some 38), (.mv (.tmp 2)), (some (37, true)), 0⟩, ⟨(some 39), (.len (.tmp 38)), (some (37, true)), 0⟩, ⟨(some 40), (.mv (.tmp 0)), (some (37, true)), 0⟩, ⟨(some 41), (.nilck (.tmp 40)), (some (37, true)), 0⟩, ⟨(some 42), (.faddr 0 (.tmp 41)), (some (37, true)), 0⟩, ⟨(some 43), (.load 1 false (.tmp 42)), (some (37, true)), 0⟩, ⟨(some 44), (.len (.tmp 43)), (some (37, true)), 0⟩, ⟨(some 45), (.bin .lss (.tmp 39) (.tmp 44)), (some (37, true)), 0⟩, ⟨(some 46), (.mv (.tmp 45)), (some (37, true)), 0⟩, ⟨(some 47), (.mv (.tmp 2)), (some (46, false)), 0⟩, ⟨(some 48), (.len (.tmp 47)), (some (46, false)), 0⟩, ⟨(some 49), (.mv (.tmp 0)), (some (46, false)), 0⟩, ⟨(some 50), (.nilck (.tmp 49)), (some (46, false)), 0⟩, ⟨(some 51), (.faddr 0 (.tmp 50)), (some (46, false)), 0⟩, ⟨(some 52), (.load 1 false (.tmp 51)), (some (46, false)), 0⟩, ⟨(some 53), (.len (.tmp 52)), (some (46, false)), 0⟩, ⟨(some 54), (.bin .eql (.tmp 48) (.tmp 53)), (some (46, false)), 0⟩, ⟨(some 55), (.mv (.tmp 54)), (some (46, false)), 0⟩, ⟨(some 56), (.mv (.tmp 2)), (some (55, true)), 0⟩, ⟨(some 57), (.mv (.tmp 0)), (some (55, true)), 0⟩, ⟨(some 58), (.nilck (.tmp 57)), (some (55, true)), 0⟩, ⟨(some 59), (.faddr 0 (.tmp 58)), (some (55, true)), 0⟩, ⟨(some 60), (.load 1 false (.tmp 59)), (some (55, true)), 0⟩, ⟨(some 61), (.call false (.val (.lit (.func (.func 111) #[] #[]))) [(.tmp 56), (.tmp 60)]), (some (55, true)), 0⟩, ⟨(some 62), (.pick (.tmp 55) (.tmp 61) (.val (.lit (.bool false)))), (some (46, false)), 0⟩, ⟨(some 63), (.pick (.tmp 46) (.val (.lit (.bool true))) (.tmp 62)), (some (37, true)), 0⟩, ⟨(some 64), (.pick (.tmp 37) (.tmp 63) (.val (.lit (.bool false)))), (some (30, false)), 0⟩, ⟨(some 65), (.pick (.tmp 30) (.val (.lit (.bool true))) (.tmp 64)), none, 0⟩, ⟨(some 12), (.mv (.tmp 65)), none, 0⟩])
 (.seq (.reg 0 [⟨(some 66), (.mv (.tmp 12)), none, 0⟩])
 (.cond (.tmp 66) (.reg 0 [⟨(some 67), (.mv (.tmp 0)), none, 0⟩, ⟨(some 68), (.mv (.tmp 0)), none, 0⟩, ⟨(some 69), (.mv (.tmp 0)), none, 0⟩, ⟨(some 70), (.mv (.tmp 2)), none, 0⟩, ⟨(some 71), (.call false (.val (.lit (.func (.func 53) #[] #[]))) [(.tmp 70)]), none, 0⟩, ⟨(some 72), (.mv (.tmp 3)), none, 0⟩, ⟨(some 73), (.nilck (.tmp 67)), none, 0⟩, ⟨(some 74), (.faddr 0 (.tmp 73)), none, 0⟩, ⟨none, (.store 1 (.tmp 74) (.tmp 71)), none, 0⟩, ⟨(some 75), (.nilck (.tmp 68)), none, 0⟩, ⟨(some 76), (.faddr 1 (.tmp 75)), none, 0⟩, ⟨none, (.store 1 (.tmp 76) (.tmp 72)), none, 0⟩, ⟨(some 77), (.nilck (.tmp 69)), none, 0⟩, ⟨(some 78), (.faddr 2 (.tmp 77)), none, 0⟩, ⟨none, (.store 1 (.tmp 78) (.val (.lit (.bool true)))), none, 0⟩]) .skip))) .skip))
def c94r1 : ACode :=
 (.seq (.reg 0 [⟨(some 13), (.mv (.val (.lit (.int .i64 0)))), none, 0⟩])
 (.block 0 (.loop c94l0)))
theorem c94_cut : c94 = .seq c94r0 c94r1 := rfl

/-- a sequence that is there, looked at -/
def trL (q : List Int) (m d w : Int) (o : Pol) : Pol := if d ≤ w then (match o with | none => some (q, m) | some x => if befB q m x.1 x.2 = true then some (q, m) else some x) else o
abbrev SL94 (id j : Nat) (nil : Bool) (l : List Gr) (q : List Int) (m d w : Int) : List (Nat × AV) := [(0, .loc id 0 0), (1, gts nil l), (2, .lsl j 0 q.length), (3, i64 m), (4, i64 d), (5, i64 w)]
set_option maxHeartbeats 8000000 in
theorem k94no {b : Nat} {id j : Nat} {nil : Bool} {l : List Gr} {q : List Int} {m d w : Int} {o : Pol} {H : List Blk} (hw : ¬d ≤ w) (hsb : SB id o H) (K : Exit → St → Prop) :
    T none Try.prog muts 115 b c94r0 ⟨SL94 id j nil l q m d w, H⟩ (thenK (fun s' => SB id (trL q m d w o) s'.heap ∧ Kp id H s'.heap ∧ (s'.only [0, 1, 2, 3, 4, 5]).slots = SL94 id j nil l q m d w) K) := by
  have hs' : SB id (trL q m d w o) H := by unfold trL; rw [if_neg hw]; exact hsb
  have hk := PLift.up (Kp.refl id H)
  have d1 : decide (d ≤ w) = false := decide_eq_false hw
  replace hs' := PLift.up hs'
  clear hw hsb
  unfold c94r0
  repeat' (first
    | ((with_reducible refine T_calm ?_ ?_); rfl)
    | with_reducible first
      | refine T_seq ?_
      | refine T_reg ?_
      | refine T_draw ?_
      | refine T_skip ?_
      | refine T_exit ?_
      | refine T_block ?_
      | refine T_cond_t rfl ?_
      | refine T_cond_f rfl ?_
      | refine wdW_cons rfl ?_
      | ((first | refine T_cond rfl (fun hc => ?_) (fun hc => ?_) | refine wguard_split (fun hc => ?_) (fun hc => ?_) | refine wguardX_split (fun hc => ?_) (fun hc => ?_)) <;> have hd := hc <;> (try simp (disch := omega) only [wrapI] at hd) <;> have hs := hd <;> (try simp only [Bool.not_eq_true', Bool.not_eq_false', Bool.and_eq_true, Bool.and_eq_false_iff, Bool.or_eq_true, Bool.or_eq_false_iff, decide_eq_true_eq, decide_eq_false_iff_not, beq_iff_eq, bne_iff_ne, beq_eq_false_iff_ne, bne_eq_false_iff_eq, Bool.not_true, Bool.not_false, gt_iff_lt, ge_iff_le, Int.not_lt, Int.not_le, ne_eq, Decidable.not_not] at hd) <;> (try simp at hs))
      | refine T_ret ?_
      | refine wif_intro ?_ (fun hc => ?_)
      | refine And.intro ?_ ?_
      | intro hc
    | simp (maxSteps := 4000000) only [wops_nil, wops_cons, wstep_none, wrun_mv, wrun_bin, wop, aop, ev, look, put_some, writes, ores_some, binV, thenK, List.append_nil, List.replicate_zero, Option.map_some, if_true, if_false, Nat.reduceEqDiff, reduceCtorEq, eq_self, *]
    | simp (disch := omega) only [getD_ints, wrapI]
    | omega)
  all_goals first | exact hs'.down | exact hk.down | (simp [St.only, get_mk, look]; done)
set_option maxHeartbeats 8000000 in
theorem k94st {b : Nat} {id j : Nat} {nil : Bool} {l : List Gr} {q : List Int} {m d w : Int} {H : List Blk} (hw : d ≤ w) (hq : q.length < 3000000) (hid : H[id]? = some (.cells true false 3 [[.sl true 0 [], i64 0, bl false]])) (hj : H[j]? = some (.cells false false 1 (q.map fun x => [i64 x]))) (K : Exit → St → Prop) :
    T none Try.prog muts 115 b c94r0 ⟨SL94 id j nil l q m d w, H⟩ (thenK (fun s' => SB id (some (q, m)) s'.heap ∧ Kp id H s'.heap ∧ (s'.only [0, 1, 2, 3, 4, 5]).slots = SL94 id j nil l q m d w) K) := by
  have h53 := k53b false q (by omega)
  have hql : (q.map fun x => [i64 x]).length = q.length := by simp
  have l0 := (List.getElem?_eq_some_iff.1 hid).1
  have l1 := (List.getElem?_eq_some_iff.1 hj).1
  obtain ⟨u1, u2, u3, u4⟩ := cells_sub (X := []) (H := H) rfl
  have a0 := at_in hid
  have a1 := at_in hj
  have fz := freeze1_no hj
  have aS : ∀ (X : List Blk) (v : Blk), ((H ++ X).set id v)[id]? = some v := fun X v => List.getElem?_set_self (by rw [List.length_append]; omega)
  have hfin : ∀ v, v = Blk.cells true false 3 [[.lsl H.length 0 q.length, i64 m, bl true]] → SB id (some (q, m)) ((H ++ [Blk.cells true false 1 (q.map fun x => [i64 x])]).set id v) := fun v hv => by
    subst hv
    refine ⟨H.length, true, aS _ _, ?_⟩
    show ((H ++ _).set id _)[H.length]? = _
    rw [List.getElem?_set_ne (show id ≠ H.length by omega), u1]; rfl
  have hkp : ∀ v, Kp id H ((H ++ [Blk.cells true false 1 (q.map fun x => [i64 x])]).set id v) := fun v => (Kp.app id H _).trans (Kp.set id _ v)
  replace hfin := PLift.up hfin
  replace hkp := PLift.up hkp
  have d1 : decide (d ≤ w) = true := decide_eq_true hw
  clear hw u4
  unfold c94r0
  repeat' (first
    | ((with_reducible refine T_calm ?_ ?_); rfl)
    | with_reducible first
      | refine T_seq ?_
      | refine T_reg ?_
      | refine T_draw ?_
      | refine T_skip ?_
      | refine T_exit ?_
      | refine T_block ?_
      | refine T_cond_t rfl ?_
      | refine T_cond_f rfl ?_
      | refine wdW_cons rfl ?_
      | (show wcall _ false (.lit (.func (.func 53) _ _)) _ _ _ _; refine wcall_fn (h53) rfl (by simp [plainL, plain]) ?_)
      | (show wcallX _ false (.lit (.func (.func 53) _ _)) _ _ _ _; refine wcallX_fn (h53) rfl (by simp [plainL, plain, plainR, List.set_set, Int.toNat_natCast, iR_take, iR_rfy, iR_lids, hj]) ?_)
      | ((first | refine T_cond rfl (fun hc => ?_) (fun hc => ?_) | refine wguard_split (fun hc => ?_) (fun hc => ?_) | refine wguardX_split (fun hc => ?_) (fun hc => ?_)) <;> have hd := hc <;> (try simp (disch := omega) only [wrapI] at hd) <;> have hs := hd <;> (try simp only [Bool.not_eq_true', Bool.not_eq_false', Bool.and_eq_true, Bool.and_eq_false_iff, Bool.or_eq_true, Bool.or_eq_false_iff, decide_eq_true_eq, decide_eq_false_iff_not, beq_iff_eq, bne_iff_ne, beq_eq_false_iff_ne, bne_eq_false_iff_eq, Bool.not_true, Bool.not_false, gt_iff_lt, ge_iff_le, Int.not_lt, Int.not_le, ne_eq, Decidable.not_not] at hd) <;> (try simp at hs))
      | refine T_ret ?_
      | refine wif_intro ?_ (fun hc => ?_)
      | refine And.intro ?_ ?_
      | intro hc
    | simp (maxSteps := 4000000) only [wops_nil, wops_cons, wstep_none, wstep_some, wguard_tf, wgu, wrun_call, wrun_mv, wrun_pick, wrun_bin, wrun_not, wrun_load, wrun_store, wrun_faddr, wrun_nilck, wop, aop, ev, look, put_some, put_none, writes, ores_some, binV, thenK, boolV, value, cut, hget, putCells, AV.parts, isOne, mkAgg, List.map_cons, List.map_nil, List.length_cons, List.length_nil, List.set_cons_zero, List.take_succ_cons, List.take_zero, List.take_nil, List.drop_succ_cons, List.drop_zero, List.drop_nil, List.cons_append, List.nil_append, List.append_nil, List.append_assoc, List.replicate_zero, List.getD_cons_zero, List.all_cons, List.all_nil, Option.getD_some, Option.map_some, if_true, if_false, Nat.reduceEqDiff, Nat.reduceAdd, Nat.reduceLeDiff, Nat.reduceLT, Nat.add_zero, Nat.zero_add, Nat.le_refl, reduceCtorEq, Bool.not_false, Bool.and_true, Bool.false_eq_true, eq_self, true_and, and_self, freeze, lidsL, lids, List.flatMap_cons, List.flatMap_nil, List.all_cons, ren, renB, shiftρ, renR_ints, List.set_set, iR_take, iR_lids, *]
    | simp (disch := omega) only [getD_ints, wrapI]
    | (with_reducible show wcall _ false (.lit (.func (.func 53) _ _)) _ _ _ _; refine wcall_fn (h53) ?_ ?_ ?_; (next => simp [rfyL, rfy, hget, ints, iR_take, hj]); (next => simp [plainL, plain]))
    | (with_reducible show wcallX _ false (.lit (.func (.func 53) _ _)) _ _ _ _; refine wcallX_fn (h53) ?_ ?_ ?_; (next => simp [rfyL, rfy, hget, ints, take_rfy, List.set_set, Int.toNat_natCast, iR_take, iR_rfy, iR_lids, hj]); (next => simp [plainL, plain, plainR, List.set_set, Int.toNat_natCast, iR_take, iR_rfy, iR_lids, hj]))
    | omega)
  all_goals first | exact hfin.down _ rfl | exact hkp.down _ | (simp [St.only, get_mk, look]; done)
end Go.Abs
