import Derived.Test.YtpfmamngjefohaaK308x
set_option linter.all false
set_option linter.unusedVariables false
set_option linter.unusedSimpArgs false
set_option linter.unusedSectionVars false
namespace Go.Abs
open Go.Proofs
/-! demands: the closure, the copy, CheckDemand of the reference -/
abbrev dmV (n1 : Bool) (lo : List Int) (n2 : Bool) (hi : List Int) : AV := .agg [ints n1 lo, ints n2 hi]
abbrev iC (xs : List Int) : Blk := .cells true false 1 (xs.map fun x => [i64 x])
set_option maxHeartbeats 8000000 in
theorem k77 {b : Bool} {m : Nat} {E : List (List AV)} (hE : plainR E = true) (n1 n2 : Bool) (lo hi : List Int) : Fn Try.prog 77 [.sl b m E, dmV n1 lo n2 hi] (.clo (.func 105) [] [.loc 0 0 0, .loc 1 0 0]) [.cells true false 1 [[.sl b m E]], .cells true false 2 [[ints n1 lo, ints n2 hi]]] := by
  refine fn_of e77 ?_
  unfold c77
  have hr := fun ρ => renR_plain ρ E hE
  repeat' (first
    | with_reducible first
      | refine T_seq ?_
      | refine T_reg ?_
      | refine T_skip ?_
      | refine T_exit ?_
      | refine T_block ?_
      | refine T_cond_t rfl ?_
      | refine T_cond_f rfl ?_
      | ((first | refine T_cond rfl (fun hc => ?_) (fun hc => ?_) | refine wguard_split (fun hc => ?_) (fun hc => ?_)) <;> have hd := hc <;> (try simp (disch := omega) only [wrapI] at hd) <;> have hs := hd <;> (try simp only [Bool.not_eq_true', Bool.not_eq_false', Bool.and_eq_true, Bool.and_eq_false_iff, Bool.or_eq_true, Bool.or_eq_false_iff, decide_eq_true_eq, decide_eq_false_iff_not, beq_iff_eq, bne_iff_ne, beq_eq_false_iff_ne, bne_eq_false_iff_eq, Bool.not_true, Bool.not_false, gt_iff_lt, ge_iff_le, Int.not_lt, Int.not_le, ne_eq, Decidable.not_not] at hd) <;> (try simp at hs))
      | refine T_ret ?_
      | refine leave_ids (.inr rfl) _ [0, 1] rfl (by simp) (by simp) ?_
      | refine leave_ids (.inl rfl) _ [0, 1] rfl (by simp) (by simp) ?_
      | refine leaveA_of (.inr rfl) _ rfl ?_
      | refine leaveA_of (.inl rfl) _ rfl ?_
      | refine wif_intro ?_ (fun hc => ?_)
      | refine And.intro ?_ ?_
      | intro hc
    | simp (maxSteps := 4000000) only [wops_nil, wops_cons, wstep_none, wrun_mv, wrun_mkf, wrun_box, get_mk, wop, aop, ev, look, put_some, writes, ores_some, thenK, hget, AV.parts, isOne, tupOf, List.map_cons, List.map_nil, List.length_cons, List.length_nil, List.getElem?_cons_zero, List.getElem?_cons_succ, List.set_cons_zero, List.set_cons_succ, List.nil_append, List.append_nil, List.replicate_zero, List.replicate_succ, List.zipIdx_cons, List.zipIdx_nil, List.all_cons, List.all_nil, Option.getD_some, Option.map_some, Option.map_none, if_true, if_false, Nat.reduceEqDiff, Nat.reduceAdd, Nat.add_zero, Nat.zero_add, Nat.zero_ne_one, reduceCtorEq, Bool.and_true, eq_self, true_and, and_self, List.all_cons, ren, renL, renR, renB, renO, keepρ, pos, Nat.not_lt_zero, renR_ints, renR_ints, *]
    | simp (disch := omega) only [getD_ints, wrapI]
    | omega)
  all_goals first | rfl
set_option maxHeartbeats 8000000 in
theorem k23 (n1 n2 : Bool) (lo hi : List Int) (hlo : lo.length < 1000000) (hhi : hi.length < 1000000) : Fn Try.prog 23 [dmV n1 lo n2 hi] (.agg [.lsl 0 0 lo.length, .lsl 1 0 hi.length]) [iC lo, iC hi] := by
  refine fn_of e23 ?_
  have h53a := k53 n1 lo hlo
  have h53b := k53 n2 hi hhi
  have hlo2 : (lo.map fun x => [i64 x]).length = lo.length := by simp
  have hhi2 : (hi.map fun x => [i64 x]).length = hi.length := by simp
  unfold c23
  repeat' (first
    | ((with_reducible refine T_calm ?_ ?_); rfl)
    | with_reducible first
      | refine T_seq ?_
      | refine T_reg ?_
      | refine T_draw ?_
      | refine T_skip ?_
      | refine T_exit ?_
      | refine T_block ?_
      | refine T_cond_t rfl ?_
      | refine T_cond_f rfl ?_
      | refine wdW_cons rfl ?_
      | (show wcall _ false (.lit (.func (.func 53) _ _)) _ _ _ _; refine wcall_fn (h53a) rfl (by simp [plainL, plain, plainR, renR_ints]) ?_)
      | (show wcallX _ false (.lit (.func (.func 53) _ _)) _ _ _ _; refine wcallX_fn (h53a) rfl (by simp [plainL, plain]) ?_)
      | (show wcall _ false (.lit (.func (.func 53) _ _)) _ _ _ _; refine wcall_fn (h53b) rfl (by simp [plainL, plain, plainR, renR_ints]) ?_)
      | (show wcallX _ false (.lit (.func (.func 53) _ _)) _ _ _ _; refine wcallX_fn (h53b) rfl (by simp [plainL, plain]) ?_)
      | ((first | refine T_cond rfl (fun hc => ?_) (fun hc => ?_) | refine wguard_split (fun hc => ?_) (fun hc => ?_) | refine wguardX_split (fun hc => ?_) (fun hc => ?_)) <;> have hd := hc <;> (try simp (disch := omega) only [wrapI] at hd) <;> have hs := hd <;> (try simp only [Bool.not_eq_true', Bool.not_eq_false', Bool.and_eq_true, Bool.and_eq_false_iff, Bool.or_eq_true, Bool.or_eq_false_iff, decide_eq_true_eq, decide_eq_false_iff_not, beq_iff_eq, bne_iff_ne, beq_eq_false_iff_ne, bne_eq_false_iff_eq, Bool.not_true, Bool.not_false, gt_iff_lt, ge_iff_le, Int.not_lt, Int.not_le, ne_eq, Decidable.not_not] at hd) <;> (try simp at hs))
      | refine T_ret ?_
      | refine leave_ids (.inr rfl) _ [2, 3] rfl (by simp) (by simp) ?_
      | refine leave_ids (.inl rfl) _ [2, 3] rfl (by simp) (by simp) ?_
      | refine leaveA_of (.inr rfl) _ rfl ?_
      | refine leaveA_of (.inl rfl) _ rfl ?_
      | refine wif_intro ?_ (fun hc => ?_)
      | refine And.intro ?_ ?_
      | intro hc
    | simp (maxSteps := 4000000) only [wops_nil, wops_cons, wstep_none, wrun_build, wrun_load, wrun_store, wrun_faddr, wrun_alloc, wrun_box, wrunX_build, wrunX_load, wrunX_store, wrunX_faddr, wdW_nil, wstepX_none, wrunX_call, wop, aop, ev, look, put_some, put_none, writes, ores_some, thenK, value, cut, hget, fillA, putCells, AV.parts, isOne, toLits, mkAgg, tupOf, List.map_cons, List.map_nil, List.length_cons, List.length_nil, List.getElem?_cons_zero, List.getElem?_cons_succ, List.set_cons_zero, List.set_cons_succ, List.take_succ_cons, List.take_zero, List.take_nil, List.drop_succ_cons, List.drop_zero, List.drop_nil, List.cons_append, List.nil_append, List.append_nil, List.replicate_zero, List.replicate_succ, List.getD_cons_zero, List.zipIdx_cons, List.zipIdx_nil, List.all_cons, List.all_nil, Option.getD_some, Option.map_some, Option.map_none, if_true, if_false, Nat.reduceEqDiff, Nat.reduceAdd, Nat.reduceLeDiff, Nat.reduceLT, Nat.add_zero, Nat.zero_add, Nat.le_refl, Nat.zero_ne_one, reduceCtorEq, Bool.and_true, Bool.false_eq_true, eq_self, true_and, and_self, freeze, lidsL, lids, List.flatMap_cons, List.flatMap_nil, List.all_cons, ren, renL, renB, renO, keepρ, shiftρ, pos, Nat.not_lt_zero, renR_ints, renR_ints, *]
    | simp (disch := omega) only [getD_ints, wrapI]
    | (with_reducible show wcall _ false (.lit (.func (.func 53) _ _)) _ _ _ _; refine wcall_fn (h53a) ?_ ?_ ?_; (next => simp [rfyL, rfy, hget, ints, take_rfy, renR_ints]); (next => simp [plainL, plain, plainR, renR_ints]))
    | (with_reducible show wcallX _ false (.lit (.func (.func 53) _ _)) _ _ _ _; refine wcallX_fn (h53a) ?_ ?_ ?_; (next => simp [rfyL, rfy, hget, ints, take_rfy, renR_ints]); (next => simp [plainL, plain, plainR, renR_ints]))
    | (with_reducible show wcall _ false (.lit (.func (.func 53) _ _)) _ _ _ _; refine wcall_fn (h53b) ?_ ?_ ?_; (next => simp [rfyL, rfy, hget, ints, take_rfy, renR_ints]); (next => simp [plainL, plain, plainR, renR_ints]))
    | (with_reducible show wcallX _ false (.lit (.func (.func 53) _ _)) _ _ _ _; refine wcallX_fn (h53b) ?_ ?_ ?_; (next => simp [rfyL, rfy, hget, ints, take_rfy, renR_ints]); (next => simp [plainL, plain, plainR, renR_ints]))
    | omega)
  all_goals first | rfl
def dE (l : List Sk) (lo hi : List Int) : Int := if sE l ≠ 0 then sE l else dmE (l.getD 0 sk0).wr.length lo hi
set_option maxHeartbeats 8000000 in
theorem k26l {n1 n2 : Bool} {lo hi : List Int} {a : AV} {n : Nat} (hlo : lo.length = n) (hhi : hi.length = n) (hn : n < 1000000) (K : Exit → St → Prop) {k : Nat} (hk : k < n)
    (hE : dEr lo hi k ≠ 0 → ∀ τ : St, τ.get 4 = i64 (dEr lo hi k) → K .ret τ) :
    T none Try.prog muts 60 0 c26l0 ⟨[(3, .loc 0 0 0), (5, i64 n), (7, i64 k)], [.cells true false 2 [[ints n1 lo, ints n2 hi]]]⟩ (thenK (fun s' => dEr lo hi k = 0 ∧ s'.heap = [.cells true false 2 [[ints n1 lo, ints n2 hi]]] ∧ (s'.only [3, 5, 7]).slots = [(3, .loc 0 0 0), (5, i64 n), (7, i64 ((k + 1 : Nat) : Int))]) K) := by
  have hll : (lo.map fun x => [i64 x]).length = lo.length := by simp
  have hlh : (hi.map fun x => [i64 x]).length = hi.length := by simp
  have g1 : (lo.map fun x => [i64 x]).getD k [] = [i64 (lo.getD k 0)] := getD_ints (by omega)
  have g2 : (hi.map fun x => [i64 x]).getD k [] = [i64 (hi.getD k 0)] := getD_ints (by omega)
  have hkl : (k : Int) < (lo.length : Int) := by omega
  have hkh : (k : Int) < (hi.length : Int) := by omega
  have h15a := k15 (lo.getD k 0) 0 10000
  have h15b := k15 (hi.getD k 0) 0 10000
  have hre : dEr lo hi k = if ((decide (0 ≤ lo.getD k 0) && decide (lo.getD k 0 ≤ 10000)) && (decide (0 ≤ hi.getD k 0) && decide (hi.getD k 0 ≤ 10000))) = false then 2 else if decide (hi.getD k 0 < lo.getD k 0) = true then 9 else 0 := rfl
  generalize dEr lo hi k = E at *
  clear hhi hlo
  cases a1 : (decide (0 ≤ lo.getD k 0) && decide (lo.getD k 0 ≤ 10000)) with
  | false =>
    rw [a1] at h15a hre
    rw [if_pos (by simp)] at hre
    subst hre
    have f := PLift.up (hE (by simp))
    clear hE a1 h15b
    unfold c26l0
    repeat' (first
      | ((with_reducible refine T_calm ?_ ?_); rfl)
      | with_reducible first
        | refine T_seq ?_
        | refine T_reg ?_
        | refine T_draw ?_
        | refine T_skip ?_
        | refine T_exit ?_
        | refine T_block ?_
        | refine T_cond_t rfl ?_
        | refine T_cond_f rfl ?_
        | refine wdW_cons rfl ?_
        | (show wcall _ false (.lit (.func (.func 15) _ _)) _ _ _ _; refine wcall_fn (h15a) rfl (by simp [plainL, plain]) ?_)
        | (show wcallX _ false (.lit (.func (.func 15) _ _)) _ _ _ _; refine wcallX_fn (h15a) rfl (by simp [plainL, plain, plainR, Int.toNat_natCast]) ?_)
        | ((first | refine T_cond rfl (fun hc => ?_) (fun hc => ?_) | refine wguard_split (fun hc => ?_) (fun hc => ?_) | refine wguardX_split (fun hc => ?_) (fun hc => ?_)) <;> have hd := hc <;> (try simp (disch := omega) only [wrapI] at hd) <;> have hs := hd <;> (try simp only [decide_eq_true_eq, decide_eq_false_iff_not, Int.not_lt] at hd) <;> (try simp at hs))
        | refine T_ret ?_
        | refine wif_intro ?_ (fun hc => ?_)
        | refine And.intro ?_ ?_
        | intro hc
      | simp (maxSteps := 4000000) only [wops_nil, wops_cons, wstep_none, wstep_some, wguard_tf, wrun_call, wrun_mv, wrun_pick, wrun_bin, wrun_not, wrun_load, wrun_faddr, wrun_iaddrS, wop, aop, ev, look, put_some, writes, ores_some, ores_ite_none, binV, thenK, blockK, boolV, value, cut, hget, mkAgg, List.map_cons, List.map_nil, List.length_cons, List.length_nil, List.getElem?_cons_zero, List.take_succ_cons, List.take_zero, List.take_nil, List.drop_zero, List.append_nil, List.replicate_zero, List.getD_cons_zero, Option.getD_some, Option.map_some, if_true, if_false, Nat.reduceEqDiff, Nat.add_zero, Nat.zero_add, reduceCtorEq, Bool.not_false, Bool.false_eq_true, eq_self, and_true, and_self, decide_true, freeze, lidsL, lids, List.flatMap_cons, List.flatMap_nil, ren, Int.toNat_natCast, *]
      | simp (disch := omega) only [getD_ints, wrapI]
      | (with_reducible show wcall _ false (.lit (.func (.func 15) _ _)) _ _ _ _; refine wcall_fn (h15a) ?_ ?_ ?_; (next => simp [rfyL, rfy, hget, ints, take_rfy, Int.toNat_natCast]); (next => simp [plainL, plain, plainR, Int.toNat_natCast]))
      | (with_reducible show wcallX _ false (.lit (.func (.func 15) _ _)) _ _ _ _; refine wcallX_fn (h15a) ?_ ?_ ?_; (next => simp [rfyL, rfy, hget, ints, take_rfy, Int.toNat_natCast]); (next => simp [plainL, plain, plainR, Int.toNat_natCast]))
      | omega)
    all_goals first | exact f.down _ rfl
  | true =>
    rw [a1] at h15a hre
    cases a2 : (decide (0 ≤ hi.getD k 0) && decide (hi.getD k 0 ≤ 10000)) with
    | false =>
      rw [a2] at h15b hre
      rw [if_pos (by simp)] at hre
      subst hre
      have f := PLift.up (hE (by simp))
      clear hE a1 a2
      unfold c26l0
      repeat' (first
        | ((with_reducible refine T_calm ?_ ?_); rfl)
        | with_reducible first
          | refine T_seq ?_
          | refine T_reg ?_
          | refine T_draw ?_
          | refine T_skip ?_
          | refine T_exit ?_
          | refine T_block ?_
          | refine T_cond_t rfl ?_
          | refine T_cond_f rfl ?_
          | refine wdW_cons rfl ?_
          | (show wcall _ false (.lit (.func (.func 15) _ _)) _ _ _ _; refine wcall_fn (h15a) rfl (by simp [plainL, plain]) ?_)
          | (show wcallX _ false (.lit (.func (.func 15) _ _)) _ _ _ _; refine wcallX_fn (h15a) rfl (by simp [plainL, plain, plainR, Int.toNat_natCast]) ?_)
          | (show wcall _ false (.lit (.func (.func 15) _ _)) _ _ _ _; refine wcall_fn (h15b) rfl (by simp [plainL, plain]) ?_)
          | (show wcallX _ false (.lit (.func (.func 15) _ _)) _ _ _ _; refine wcallX_fn (h15b) rfl (by simp [plainL, plain, plainR, Int.toNat_natCast]) ?_)
          | ((first | refine T_cond rfl (fun hc => ?_) (fun hc => ?_) | refine wguard_split (fun hc => ?_) (fun hc => ?_) | refine wguardX_split (fun hc => ?_) (fun hc => ?_)) <;> have hd := hc <;> (try simp (disch := omega) only [wrapI] at hd) <;> have hs := hd <;> (try simp only [decide_eq_true_eq, decide_eq_false_iff_not, Int.not_lt] at hd) <;> (try simp at hs))
          | refine T_ret ?_
          | refine wif_intro ?_ (fun hc => ?_)
          | refine And.intro ?_ ?_
          | intro hc
        | simp (maxSteps := 4000000) only [wops_nil, wops_cons, wstep_none, wstep_some, wguard_ff, wrun_call, wrun_mv, wrun_pick, wrun_bin, wrun_not, wrun_load, wrun_faddr, wrun_iaddrS, wop, aop, ev, look, put_some, writes, ores_some, ores_ite_none, binV, thenK, blockK, boolV, value, cut, hget, mkAgg, List.map_cons, List.map_nil, List.length_cons, List.length_nil, List.getElem?_cons_zero, List.take_succ_cons, List.take_zero, List.take_nil, List.drop_succ_cons, List.drop_zero, List.append_nil, List.replicate_zero, List.getD_cons_zero, Option.getD_some, Option.map_some, if_true, if_false, Nat.reduceEqDiff, Nat.add_zero, Nat.zero_add, reduceCtorEq, Bool.not_true, Bool.not_false, Bool.false_eq_true, eq_self, true_and, and_true, and_self, decide_true, freeze, lidsL, lids, List.flatMap_cons, List.flatMap_nil, ren, Int.toNat_natCast, *]
        | simp (disch := omega) only [getD_ints, wrapI]
        | (with_reducible show wcall _ false (.lit (.func (.func 15) _ _)) _ _ _ _; refine wcall_fn (h15a) ?_ ?_ ?_; (next => simp [rfyL, rfy, hget, ints, take_rfy, Int.toNat_natCast]); (next => simp [plainL, plain, plainR, Int.toNat_natCast]))
        | (with_reducible show wcallX _ false (.lit (.func (.func 15) _ _)) _ _ _ _; refine wcallX_fn (h15a) ?_ ?_ ?_; (next => simp [rfyL, rfy, hget, ints, take_rfy, Int.toNat_natCast]); (next => simp [plainL, plain, plainR, Int.toNat_natCast]))
        | (with_reducible show wcall _ false (.lit (.func (.func 15) _ _)) _ _ _ _; refine wcall_fn (h15b) ?_ ?_ ?_; (next => simp [rfyL, rfy, hget, ints, take_rfy, Int.toNat_natCast]); (next => simp [plainL, plain, plainR, Int.toNat_natCast]))
        | (with_reducible show wcallX _ false (.lit (.func (.func 15) _ _)) _ _ _ _; refine wcallX_fn (h15b) ?_ ?_ ?_; (next => simp [rfyL, rfy, hget, ints, take_rfy, Int.toNat_natCast]); (next => simp [plainL, plain, plainR, Int.toNat_natCast]))
        | omega)
      all_goals first | exact f.down _ rfl
    | true =>
      rw [a2] at h15b hre
      rw [if_neg (by simp)] at hre
      cases a3 : decide (hi.getD k 0 < lo.getD k 0) with
      | true =>
        rw [a3, if_pos rfl] at hre
        subst hre
        have f := PLift.up (hE (by simp))
        clear hE a1 a2
        unfold c26l0
        repeat' (first
          | ((with_reducible refine T_calm ?_ ?_); rfl)
          | with_reducible first
            | refine T_seq ?_
            | refine T_reg ?_
            | refine T_draw ?_
            | refine T_skip ?_
            | refine T_exit ?_
            | refine T_block ?_
            | refine T_cond_t rfl ?_
            | refine T_cond_f rfl ?_
            | refine wdW_cons rfl ?_
            | (show wcall _ false (.lit (.func (.func 15) _ _)) _ _ _ _; refine wcall_fn (h15a) rfl (by simp [plainL, plain]) ?_)
            | (show wcallX _ false (.lit (.func (.func 15) _ _)) _ _ _ _; refine wcallX_fn (h15a) rfl (by simp [plainL, plain, plainR, Int.toNat_natCast]) ?_)
            | (show wcall _ false (.lit (.func (.func 15) _ _)) _ _ _ _; refine wcall_fn (h15b) rfl (by simp [plainL, plain]) ?_)
            | (show wcallX _ false (.lit (.func (.func 15) _ _)) _ _ _ _; refine wcallX_fn (h15b) rfl (by simp [plainL, plain, plainR, Int.toNat_natCast]) ?_)
            | ((first | refine T_cond rfl (fun hc => ?_) (fun hc => ?_) | refine wguard_split (fun hc => ?_) (fun hc => ?_) | refine wguardX_split (fun hc => ?_) (fun hc => ?_)) <;> have hd := hc <;> (try simp (disch := omega) only [wrapI] at hd) <;> have hs := hd <;> (try simp only [decide_eq_true_eq, decide_eq_false_iff_not, Int.not_lt] at hd) <;> (try simp at hs))
            | refine T_ret ?_
            | refine wif_intro ?_ (fun hc => ?_)
            | refine And.intro ?_ ?_
            | intro hc
          | simp (maxSteps := 4000000) only [wops_nil, wops_cons, wstep_none, wstep_some, wguard_ff, wrun_call, wrun_mv, wrun_pick, wrun_bin, wrun_not, wrun_load, wrun_faddr, wrun_iaddrS, wop, aop, ev, look, put_some, writes, ores_some, ores_ite_none, binV, thenK, blockK, boolV, value, cut, hget, mkAgg, List.map_cons, List.map_nil, List.length_cons, List.length_nil, List.getElem?_cons_zero, List.take_succ_cons, List.take_zero, List.take_nil, List.drop_succ_cons, List.drop_zero, List.append_nil, List.replicate_zero, List.getD_cons_zero, Option.getD_some, Option.map_some, if_true, if_false, Nat.reduceEqDiff, Nat.add_zero, Nat.zero_add, reduceCtorEq, Bool.not_true, Bool.false_eq_true, eq_self, true_and, and_true, and_self, decide_true, freeze, lidsL, lids, List.flatMap_cons, List.flatMap_nil, ren, Int.toNat_natCast, *]
          | simp (disch := omega) only [getD_ints, wrapI]
          | (with_reducible show wcall _ false (.lit (.func (.func 15) _ _)) _ _ _ _; refine wcall_fn (h15a) ?_ ?_ ?_; (next => simp [rfyL, rfy, hget, ints, take_rfy, Int.toNat_natCast]); (next => simp [plainL, plain, plainR, Int.toNat_natCast]))
          | (with_reducible show wcallX _ false (.lit (.func (.func 15) _ _)) _ _ _ _; refine wcallX_fn (h15a) ?_ ?_ ?_; (next => simp [rfyL, rfy, hget, ints, take_rfy, Int.toNat_natCast]); (next => simp [plainL, plain, plainR, Int.toNat_natCast]))
          | (with_reducible show wcall _ false (.lit (.func (.func 15) _ _)) _ _ _ _; refine wcall_fn (h15b) ?_ ?_ ?_; (next => simp [rfyL, rfy, hget, ints, take_rfy, Int.toNat_natCast]); (next => simp [plainL, plain, plainR, Int.toNat_natCast]))
          | (with_reducible show wcallX _ false (.lit (.func (.func 15) _ _)) _ _ _ _; refine wcallX_fn (h15b) ?_ ?_ ?_; (next => simp [rfyL, rfy, hget, ints, take_rfy, Int.toNat_natCast]); (next => simp [plainL, plain, plainR, Int.toNat_natCast]))
          | omega)
        all_goals first | exact f.down _ rfl
      | false =>
        rw [a3, if_neg (by simp)] at hre
        subst hre
        clear hE a1 a2
        unfold c26l0
        repeat' (first
          | ((with_reducible refine T_calm ?_ ?_); rfl)
          | with_reducible first
            | refine T_seq ?_
            | refine T_reg ?_
            | refine T_draw ?_
            | refine T_skip ?_
            | refine T_exit ?_
            | refine T_block ?_
            | refine T_cond_t rfl ?_
            | refine T_cond_f rfl ?_
            | refine wdW_cons rfl ?_
            | (show wcall _ false (.lit (.func (.func 15) _ _)) _ _ _ _; refine wcall_fn (h15a) rfl (by simp [plainL, plain]) ?_)
            | (show wcallX _ false (.lit (.func (.func 15) _ _)) _ _ _ _; refine wcallX_fn (h15a) rfl (by simp [plainL, plain, plainR, Int.toNat_natCast]) ?_)
            | (show wcall _ false (.lit (.func (.func 15) _ _)) _ _ _ _; refine wcall_fn (h15b) rfl (by simp [plainL, plain]) ?_)
            | (show wcallX _ false (.lit (.func (.func 15) _ _)) _ _ _ _; refine wcallX_fn (h15b) rfl (by simp [plainL, plain, plainR, Int.toNat_natCast]) ?_)
            | ((first | refine T_cond rfl (fun hc => ?_) (fun hc => ?_) | refine wguard_split (fun hc => ?_) (fun hc => ?_) | refine wguardX_split (fun hc => ?_) (fun hc => ?_)) <;> have hd := hc <;> (try simp (disch := omega) only [wrapI] at hd) <;> have hs := hd <;> (try simp only [decide_eq_true_eq, decide_eq_false_iff_not, Int.not_lt] at hd) <;> (try simp at hs))
            | refine T_ret ?_
            | refine wif_intro ?_ (fun hc => ?_)
            | refine And.intro ?_ ?_
            | intro hc
          | simp (maxSteps := 4000000) only [wops_nil, wops_cons, wstep_none, wstep_some, wguard_ff, wrun_call, wrun_mv, wrun_pick, wrun_bin, wrun_not, wrun_load, wrun_faddr, wrun_iaddrS, wop, aop, ev, look, put_some, writes, ores_some, ores_ite_none, binV, thenK, blockK, boolV, value, cut, hget, mkAgg, List.map_cons, List.map_nil, List.length_cons, List.length_nil, List.getElem?_cons_zero, List.take_succ_cons, List.take_zero, List.take_nil, List.drop_succ_cons, List.drop_zero, List.append_nil, List.replicate_zero, List.getD_cons_zero, Option.getD_some, Option.map_some, if_true, if_false, Nat.reduceEqDiff, Nat.add_zero, Nat.zero_add, reduceCtorEq, Bool.not_true, Bool.false_eq_true, eq_self, true_and, and_true, and_self, decide_true, freeze, lidsL, lids, List.flatMap_cons, List.flatMap_nil, ren, Int.toNat_natCast, *]
          | simp (disch := omega) only [wrapI]
          | (with_reducible show wcall _ false (.lit (.func (.func 15) _ _)) _ _ _ _; refine wcall_fn (h15a) ?_ ?_ ?_; (next => simp [rfyL, rfy, hget, ints, take_rfy, Int.toNat_natCast]); (next => simp [plainL, plain, plainR, Int.toNat_natCast]))
          | (with_reducible show wcallX _ false (.lit (.func (.func 15) _ _)) _ _ _ _; refine wcallX_fn (h15a) ?_ ?_ ?_; (next => simp [rfyL, rfy, hget, ints, take_rfy, Int.toNat_natCast]); (next => simp [plainL, plain, plainR, Int.toNat_natCast]))
          | (with_reducible show wcall _ false (.lit (.func (.func 15) _ _)) _ _ _ _; refine wcall_fn (h15b) ?_ ?_ ?_; (next => simp [rfyL, rfy, hget, ints, take_rfy, Int.toNat_natCast]); (next => simp [plainL, plain, plainR, Int.toNat_natCast]))
          | (with_reducible show wcallX _ false (.lit (.func (.func 15) _ _)) _ _ _ _; refine wcallX_fn (h15b) ?_ ?_ ?_; (next => simp [rfyL, rfy, hget, ints, take_rfy, Int.toNat_natCast]); (next => simp [plainL, plain, plainR, Int.toNat_natCast]))
          | omega)
        all_goals first | rfl | (simp [St.only, get_mk, look]; done)
set_option maxHeartbeats 8000000 in
theorem k26 (nil n1 n2 : Bool) (l : List Sk) (lo hi : List Int) (hl : l.length < 1000000) (hsz : ∀ k, k < l.length → (l.getD k sk0).nm.size < 1000000 ∧ (l.getD k sk0).wr.length < 1000000) (hlo : lo.length < 1000000) (hhi : hi.length < 1000000) : Fn Try.prog 26 [sts nil l, dmV n1 lo n2 hi] (i64 (dE l lo hi)) [] := by
  refine fn_of e26 ?_
  have h38 := k38 nil l hl hsz
  have hlo2 : (lo.map fun x => [i64 x]).length = lo.length := by simp
  have hhi2 : (hi.map fun x => [i64 x]).length = hi.length := by simp
  have hrf : ∀ (h : Nat → Blk), rfyL h [sts nil l] = [sts nil l] := fun h => rfl
  by_cases h0 : sE l = 0
  · have hok := sE_ok h0
    have hN : sN l = ((l.getD 0 sk0).wr.length : Int) := by unfold sN; rw [if_pos h0]
    rw [h0, hN] at h38
    have hre : dE l lo hi = if ((lo.length : Int) != ((l.getD 0 sk0).wr.length : Int) || (hi.length : Int) != ((l.getD 0 sk0).wr.length : Int)) = true then 10 else fe (dEr lo hi) (l.getD 0 sk0).wr.length := by
      unfold dE dmE; rw [if_neg (fun h => h h0)]
    generalize dE l lo hi = R at *
    have hz := hok.zon
    clear h0 hok hN hsz
    cases a1 : ((lo.length : Int) != ((l.getD 0 sk0).wr.length : Int)) with
    | true =>
      rw [a1, Bool.true_or, if_pos rfl] at hre
      subst hre
      unfold c26
      repeat' (first
        | ((with_reducible refine T_calm ?_ ?_); rfl)
        | with_reducible first
          | refine T_seq ?_
          | refine T_reg ?_
          | refine T_draw ?_
          | refine T_skip ?_
          | refine T_exit ?_
          | refine T_block ?_
          | refine T_cond_t rfl ?_
          | refine T_cond_f rfl ?_
          | refine wdW_cons rfl ?_
          | (show wcall _ false (.lit (.func (.func 38) _ _)) _ _ _ _; refine wcall_fn (h38) rfl (by simp [plainL, plain, plainR_sk]) ?_)
          | (show wcallX _ false (.lit (.func (.func 38) _ _)) _ _ _ _; refine wcallX_fn (h38) rfl (by simp [plainL, plain, plainR, Int.toNat_zero, Int.toNat_one, plainR_sk]) ?_)
          | ((first | refine T_cond rfl (fun hc => ?_) (fun hc => ?_) | refine wguard_split (fun hc => ?_) (fun hc => ?_) | refine wguardX_split (fun hc => ?_) (fun hc => ?_)) <;> have hd := hc <;> (try simp (disch := omega) only [wrapI] at hd) <;> have hs := hd <;> (try simp only [Bool.not_eq_true', Bool.not_eq_false', Bool.and_eq_true, Bool.and_eq_false_iff, Bool.or_eq_true, Bool.or_eq_false_iff, decide_eq_true_eq, decide_eq_false_iff_not, beq_iff_eq, bne_iff_ne, beq_eq_false_iff_ne, bne_eq_false_iff_eq, Bool.not_true, Bool.not_false, gt_iff_lt, ge_iff_le, Int.not_lt, Int.not_le, ne_eq, Decidable.not_not] at hd) <;> (try simp at hs))
          | refine T_ret ?_
          | refine leave_of (.inr rfl) _ rfl ?_
          | refine leave_of (.inl rfl) _ rfl ?_
          | refine leaveA_of (.inr rfl) _ rfl ?_
          | refine leaveA_of (.inl rfl) _ rfl ?_
          | refine wif_intro ?_ (fun hc => ?_)
          | refine And.intro ?_ ?_
          | intro hc
        | simp (maxSteps := 4000000) only [wops_nil, wops_cons, wstep_none, wstep_some, wguard_tf, wrun_call, wrun_mv, wrun_pick, wrun_bin, wrun_ext, wrun_load, wrun_faddr, wrun_len, wrun_box, get_mk, wop, aop, ev, look, put_some, writes, ores_some, ores_map, ores_bind, binV, thenK, intV, lenOf, value, cut, hget, AV.parts, isOne, mkAgg, tupOf, List.map_cons, List.map_nil, List.length_cons, List.length_nil, List.getElem?_cons_zero, List.getElem?_cons_succ, List.set_cons_zero, List.take_succ_cons, List.take_zero, List.drop_zero, List.nil_append, List.append_nil, List.replicate_zero, List.replicate_succ, List.getD_cons_zero, List.zipIdx_cons, List.zipIdx_nil, List.all_cons, List.all_nil, Option.pure_def, Option.bind_eq_bind, Option.getD_some, Option.map_some, if_true, if_false, Nat.reduceEqDiff, Nat.reduceAdd, Nat.add_zero, Nat.zero_add, Nat.zero_ne_one, reduceCtorEq, Bool.and_true, Bool.false_eq_true, eq_self, true_and, and_self, freeze, lidsL, lids, List.flatMap_cons, List.flatMap_nil, List.all_cons, ren, renL, *]
        | simp (disch := omega) only [getD_ints, wrapI]
        | (with_reducible show wcall _ false (.lit (.func (.func 38) _ _)) _ _ _ _; refine wcall_fn (h38) ?_ ?_ ?_; (next => simp [rfyL, rfy, hget, ints, take_rfy, Int.toNat_zero, Int.toNat_one, plainR_sk]); (next => simp [plainL, plain, plainR, Int.toNat_zero, Int.toNat_one, plainR_sk]))
        | (with_reducible show wcallX _ false (.lit (.func (.func 38) _ _)) _ _ _ _; refine wcallX_fn (h38) ?_ ?_ ?_; (next => simp [rfyL, rfy, hget, ints, take_rfy, Int.toNat_zero, Int.toNat_one, plainR_sk]); (next => simp [plainL, plain, plainR, Int.toNat_zero, Int.toNat_one, plainR_sk]))
        | omega)
      all_goals first | rfl
    | false =>
      cases a2 : ((hi.length : Int) != ((l.getD 0 sk0).wr.length : Int)) with
      | true =>
        rw [a1, a2, Bool.or_true, if_pos rfl] at hre
        subst hre
        unfold c26
        repeat' (first
          | ((with_reducible refine T_calm ?_ ?_); rfl)
          | with_reducible first
            | refine T_seq ?_
            | refine T_reg ?_
            | refine T_draw ?_
            | refine T_skip ?_
            | refine T_exit ?_
            | refine T_block ?_
            | refine T_cond_t rfl ?_
            | refine T_cond_f rfl ?_
            | refine wdW_cons rfl ?_
            | (show wcall _ false (.lit (.func (.func 38) _ _)) _ _ _ _; refine wcall_fn (h38) rfl (by simp [plainL, plain, plainR_sk]) ?_)
            | (show wcallX _ false (.lit (.func (.func 38) _ _)) _ _ _ _; refine wcallX_fn (h38) rfl (by simp [plainL, plain, plainR, Int.toNat_zero, Int.toNat_one, plainR_sk]) ?_)
            | ((first | refine T_cond rfl (fun hc => ?_) (fun hc => ?_) | refine wguard_split (fun hc => ?_) (fun hc => ?_) | refine wguardX_split (fun hc => ?_) (fun hc => ?_)) <;> have hd := hc <;> (try simp (disch := omega) only [wrapI] at hd) <;> have hs := hd <;> (try simp only [Bool.not_eq_true', Bool.not_eq_false', Bool.and_eq_true, Bool.and_eq_false_iff, Bool.or_eq_true, Bool.or_eq_false_iff, decide_eq_true_eq, decide_eq_false_iff_not, beq_iff_eq, bne_iff_ne, beq_eq_false_iff_ne, bne_eq_false_iff_eq, Bool.not_true, Bool.not_false, gt_iff_lt, ge_iff_le, Int.not_lt, Int.not_le, ne_eq, Decidable.not_not] at hd) <;> (try simp at hs))
            | refine T_ret ?_
            | refine leave_of (.inr rfl) _ rfl ?_
            | refine leave_of (.inl rfl) _ rfl ?_
            | refine leaveA_of (.inr rfl) _ rfl ?_
            | refine leaveA_of (.inl rfl) _ rfl ?_
            | refine wif_intro ?_ (fun hc => ?_)
            | refine And.intro ?_ ?_
            | intro hc
          | simp (maxSteps := 4000000) only [wops_nil, wops_cons, wstep_none, wstep_some, wguard_ff, wrun_call, wrun_mv, wrun_pick, wrun_bin, wrun_ext, wrun_load, wrun_faddr, wrun_len, wrun_box, get_mk, wop, aop, ev, look, put_some, writes, ores_some, ores_map, ores_bind, binV, thenK, intV, lenOf, value, cut, hget, AV.parts, isOne, mkAgg, tupOf, List.map_cons, List.map_nil, List.length_cons, List.length_nil, List.getElem?_cons_zero, List.getElem?_cons_succ, List.set_cons_zero, List.take_succ_cons, List.take_zero, List.take_nil, List.drop_succ_cons, List.drop_zero, List.nil_append, List.append_nil, List.replicate_zero, List.replicate_succ, List.getD_cons_zero, List.zipIdx_cons, List.zipIdx_nil, List.all_cons, List.all_nil, Option.pure_def, Option.bind_eq_bind, Option.getD_some, Option.map_some, if_true, if_false, Nat.reduceEqDiff, Nat.reduceAdd, Nat.add_zero, Nat.zero_add, Nat.zero_ne_one, reduceCtorEq, Bool.and_true, Bool.false_eq_true, eq_self, true_and, and_self, freeze, lidsL, lids, List.flatMap_cons, List.flatMap_nil, List.all_cons, ren, renL, *]
          | simp (disch := omega) only [getD_ints, wrapI]
          | (with_reducible show wcall _ false (.lit (.func (.func 38) _ _)) _ _ _ _; refine wcall_fn (h38) ?_ ?_ ?_; (next => simp [rfyL, rfy, hget, ints, take_rfy, Int.toNat_zero, Int.toNat_one, plainR_sk]); (next => simp [plainL, plain, plainR, Int.toNat_zero, Int.toNat_one, plainR_sk]))
          | (with_reducible show wcallX _ false (.lit (.func (.func 38) _ _)) _ _ _ _; refine wcallX_fn (h38) ?_ ?_ ?_; (next => simp [rfyL, rfy, hget, ints, take_rfy, Int.toNat_zero, Int.toNat_one, plainR_sk]); (next => simp [plainL, plain, plainR, Int.toNat_zero, Int.toNat_one, plainR_sk]))
          | omega)
        all_goals first | rfl
      | false =>
        rw [a1, a2, Bool.or_false, if_neg (by simp)] at hre
        have e1 : lo.length = (l.getD 0 sk0).wr.length := by simp only [bne_eq_false_iff_eq] at a1; omega
        have e2 : hi.length = (l.getD 0 sk0).wr.length := by simp only [bne_eq_false_iff_eq] at a2; omega
        have hrow := PLift.up (fun K k hk hE => k26l (n1 := n1) (n2 := n2) (a := .top) e1 e2 (by omega) K (k := k) hk hE)
        have hst := PLift.up (fun k hk h0 h => fe_stop (e := dEr lo hi) (k := k) h0 h (l.getD 0 sk0).wr.length hk)
        have hnx := PLift.up (fun k h0 h => fe_next (e := dEr lo hi) (k := k) h0 h)
        replace hre := PLift.up hre
        clear e1 e2
        generalize (l.getD 0 sk0).wr.length = n at *
        unfold c26
        repeat' (first
          | ((with_reducible refine T_calm ?_ ?_); rfl)
          | with_reducible first
            | refine T_seq ?_
            | refine T_reg ?_
            | refine T_draw ?_
            | refine T_skip ?_
            | refine T_exit ?_
            | refine T_block ?_
            | refine T_cond_t rfl ?_
            | refine T_cond_f rfl ?_
            | refine wdW_cons rfl ?_
            | (show wcall _ false (.lit (.func (.func 38) _ _)) _ _ _ _; refine wcall_fn (h38) rfl (by simp [plainL, plain, plainR_sk]) ?_)
            | (show wcallX _ false (.lit (.func (.func 38) _ _)) _ _ _ _; refine wcallX_fn (h38) rfl (by simp [plainL, plain, plainR, Int.toNat_zero, Int.toNat_one, plainR_sk]) ?_)
            | ((first | refine T_cond rfl (fun hc => ?_) (fun hc => ?_) | refine wguard_split (fun hc => ?_) (fun hc => ?_) | refine wguardX_split (fun hc => ?_) (fun hc => ?_)) <;> have hd := hc <;> (try simp (disch := omega) only [wrapI] at hd) <;> have hs := hd <;> (try simp only [Bool.not_eq_true', Bool.not_eq_false', Bool.and_eq_true, Bool.and_eq_false_iff, Bool.or_eq_true, Bool.or_eq_false_iff, decide_eq_true_eq, decide_eq_false_iff_not, beq_iff_eq, bne_iff_ne, beq_eq_false_iff_ne, bne_eq_false_iff_eq, Bool.not_true, Bool.not_false, gt_iff_lt, ge_iff_le, Int.not_lt, Int.not_le, ne_eq, Decidable.not_not] at hd) <;> (try simp at hs))
            | refine T_ret ?_
            | refine leave_of (.inr rfl) _ rfl ?_
            | refine leave_of (.inl rfl) _ rfl ?_
            | refine leaveA_of (.inr rfl) _ rfl ?_
            | refine leaveA_of (.inl rfl) _ rfl ?_
            | refine wif_intro ?_ (fun hc => ?_)
            | refine And.intro ?_ ?_
            | intro hc
          | simp (maxSteps := 4000000) only [wops_nil, wops_cons, wstep_none, wstep_some, wguard_ff, wrun_call, wrun_mv, wrun_pick, wrun_bin, wrun_ext, wrun_load, wrun_faddr, wrun_len, wrun_box, wop, aop, ev, look, put_some, writes, ores_some, ores_map, ores_bind, binV, thenK, intV, lenOf, value, cut, hget, AV.parts, isOne, mkAgg, List.map_cons, List.map_nil, List.length_cons, List.length_nil, List.getElem?_cons_zero, List.getElem?_cons_succ, List.set_cons_zero, List.take_succ_cons, List.take_zero, List.take_nil, List.drop_succ_cons, List.drop_zero, List.nil_append, List.append_nil, List.replicate_zero, List.replicate_succ, List.getD_cons_zero, List.zipIdx_cons, List.zipIdx_nil, List.all_cons, List.all_nil, Option.pure_def, Option.bind_eq_bind, Option.getD_some, Option.map_some, if_true, if_false, Nat.reduceEqDiff, Nat.reduceAdd, Nat.add_zero, Nat.zero_add, Nat.zero_ne_one, reduceCtorEq, Bool.and_true, Bool.false_eq_true, eq_self, true_and, and_self, freeze, lidsL, lids, List.flatMap_cons, List.flatMap_nil, List.all_cons, ren, renL, *]
          | simp (disch := omega) only [getD_ints, wrapI]
          | (with_reducible show wcall _ false (.lit (.func (.func 38) _ _)) _ _ _ _; refine wcall_fn (h38) ?_ ?_ ?_; (next => simp [rfyL, rfy, hget, ints, take_rfy, Int.toNat_zero, Int.toNat_one, plainR_sk]); (next => simp [plainL, plain, plainR, Int.toNat_zero, Int.toNat_one, plainR_sk]))
          | (with_reducible show wcallX _ false (.lit (.func (.func 38) _ _)) _ _ _ _; refine wcallX_fn (h38) ?_ ?_ ?_; (next => simp [rfyL, rfy, hget, ints, take_rfy, Int.toNat_zero, Int.toNat_one, plainR_sk]); (next => simp [plainL, plain, plainR, Int.toNat_zero, Int.toNat_one, plainR_sk]))
          | omega)
        refine T_forP [3, 5, 7] (fun k => [(3, .loc 0 0 0), (5, i64 n), (7, i64 k)]) n (fun k H => H = [.cells true false 2 [[ints n1 lo, ints n2 hi]]] ∧ fe (dEr lo hi) k = 0) 0 ?_ ⟨rfl, rfl⟩ (Nat.zero_le _) ?_
        · simp [St.only, get_mk, look]
        intro k H hk ⟨hHe, hI⟩
        subst hHe
        by_cases hkn : k < n
        · refine T_thenR (hrow.down _ k hkn fun hne τ t2 => ?_) fun s' hs => ⟨hkn, ⟨hs.2.1, hnx.down k hI hs.1⟩, hs.2.2⟩
          have h9 := hst.down k hkn hI hne
          have h8 : leave 0 [.tmp 4] (fun r' H' => r' = i64 R ∧ H' = []) .ret τ := leave0 (v := i64 (dEr lo hi k)) (.inr rfl) (by simp [resL, resAV, t2]) (fun _ => rfl) ⟨by rw [hre.down, h9], rfl⟩
          exact h8
        · have hke : k = n := by omega
          subst hke
          have hr := hre.down.trans hI
          subst hr
          clear hrow hst hnx hre hI h38
          unfold c26l0
          repeat' (first
            | ((with_reducible refine T_calm ?_ ?_); rfl)
            | with_reducible first
              | refine T_seq ?_
              | refine T_reg ?_
              | refine T_draw ?_
              | refine T_skip ?_
              | refine T_exit ?_
              | refine T_block ?_
              | refine T_cond_t rfl ?_
              | refine T_cond_f rfl ?_
              | refine wdW_cons rfl ?_
              | ((first | refine T_cond rfl (fun hc => ?_) (fun hc => ?_) | refine wguard_split (fun hc => ?_) (fun hc => ?_) | refine wguardX_split (fun hc => ?_) (fun hc => ?_)) <;> have hd := hc <;> (try simp (disch := omega) only [wrapI] at hd) <;> have hs := hd <;> (try simp only [decide_eq_true_eq, decide_eq_false_iff_not, Int.not_lt] at hd) <;> (try simp at hs))
              | refine T_ret ?_
              | refine leave_of (.inr rfl) _ rfl ?_
              | refine leave_of (.inl rfl) _ rfl ?_
              | refine leaveA_of (.inr rfl) _ rfl ?_
              | refine leaveA_of (.inl rfl) _ rfl ?_
              | refine wif_intro ?_ (fun hc => ?_)
              | refine And.intro ?_ ?_
              | intro hc
            | simp (maxSteps := 4000000) only [wops_nil, wops_cons, wstep_none, wrun_mv, wrun_bin, get_mk, wop, aop, ev, look, put_some, writes, ores_some, binV, thenK, blockK, tupOf, List.length_cons, List.length_nil, List.append_nil, List.replicate_zero, Option.map_some, if_true, if_false, Nat.reduceEqDiff, Nat.zero_add, reduceCtorEq, eq_self, false_and, ren, *]
            | simp (disch := omega) only [getD_ints, wrapI]
            | omega)
          all_goals first | rfl
  · have hE : dE l lo hi = sE l := by unfold dE; rw [if_pos h0]
    rw [hE]
    have d0 : (sE l != 0) = true := by simp only [bne_iff_ne]; exact h0
    clear hE h0 hsz
    generalize sE l = c at *
    generalize sN l = x at *
    unfold c26
    repeat' (first
      | ((with_reducible refine T_calm ?_ ?_); rfl)
      | with_reducible first
        | refine T_seq ?_
        | refine T_reg ?_
        | refine T_draw ?_
        | refine T_skip ?_
        | refine T_exit ?_
        | refine T_block ?_
        | refine T_cond_t rfl ?_
        | refine T_cond_f rfl ?_
        | refine wdW_cons rfl ?_
        | (show wcall _ false (.lit (.func (.func 38) _ _)) _ _ _ _; refine wcall_fn (h38) rfl (by simp [plainL, plain, plainR_sk]) ?_)
        | (show wcallX _ false (.lit (.func (.func 38) _ _)) _ _ _ _; refine wcallX_fn (h38) rfl (by simp [plainL, plain, plainR, plainR_sk]) ?_)
        | ((first | refine T_cond rfl (fun hc => ?_) (fun hc => ?_) | refine wguard_split (fun hc => ?_) (fun hc => ?_) | refine wguardX_split (fun hc => ?_) (fun hc => ?_)) <;> have hd := hc <;> (try simp (disch := omega) only [wrapI] at hd) <;> have hs := hd <;> (try simp only [Bool.not_eq_true', Bool.not_eq_false', Bool.and_eq_true, Bool.and_eq_false_iff, Bool.or_eq_true, Bool.or_eq_false_iff, decide_eq_true_eq, decide_eq_false_iff_not, beq_iff_eq, bne_iff_ne, beq_eq_false_iff_ne, bne_eq_false_iff_eq, Bool.not_true, Bool.not_false, gt_iff_lt, ge_iff_le, Int.not_lt, Int.not_le, ne_eq, Decidable.not_not] at hd) <;> (try simp at hs))
        | refine T_ret ?_
        | refine leave_of (.inr rfl) _ rfl ?_
        | refine leave_of (.inl rfl) _ rfl ?_
        | refine leaveA_of (.inr rfl) _ rfl ?_
        | refine leaveA_of (.inl rfl) _ rfl ?_
        | refine wif_intro ?_ (fun hc => ?_)
        | refine And.intro ?_ ?_
        | intro hc
      | simp (maxSteps := 4000000) only [wops_nil, wops_cons, wstep_none, wrun_call, wrun_mv, wrun_bin, wrun_ext, wrun_box, get_mk, wop, aop, ev, look, put_some, writes, ores_some, binV, thenK, AV.parts, isOne, tupOf, List.map_cons, List.map_nil, List.length_cons, List.length_nil, List.getElem?_cons_zero, List.getElem?_cons_succ, List.set_cons_zero, List.nil_append, List.append_nil, List.replicate_zero, List.replicate_succ, List.zipIdx_cons, List.zipIdx_nil, List.all_cons, List.all_nil, Option.map_some, if_true, if_false, Nat.reduceEqDiff, Nat.reduceAdd, Nat.add_zero, Nat.zero_add, Nat.zero_ne_one, reduceCtorEq, Bool.and_true, eq_self, true_and, and_self, freeze, lidsL, lids, List.flatMap_cons, List.flatMap_nil, List.all_cons, ren, renL, *]
      | simp (disch := omega) only [getD_ints, wrapI]
      | (with_reducible show wcall _ false (.lit (.func (.func 38) _ _)) _ _ _ _; refine wcall_fn (h38) ?_ ?_ ?_; (next => simp [rfyL, rfy, hget, ints, take_rfy, plainR_sk]); (next => simp [plainL, plain, plainR, plainR_sk]))
      | (with_reducible show wcallX _ false (.lit (.func (.func 38) _ _)) _ _ _ _; refine wcallX_fn (h38) ?_ ?_ ?_; (next => simp [rfyL, rfy, hget, ints, take_rfy, plainR_sk]); (next => simp [plainL, plain, plainR, plainR_sk]))
      | omega)
    all_goals first | rfl
end Go.Abs
