import Derived.Test.YtpfmamngjefohaaK356
set_option linter.all false
set_option linter.unusedVariables false
set_option linter.unusedSimpArgs false
set_option linter.unusedSectionVars false
namespace Go.Abs
open Go.Proofs
/-! Compare of both sides -/
def coE (E1 E2 : Int) : Int := if E1 ≠ 0 then E1 else E2
def coN (E1 E2 T B w p : Int) : Int := if E1 ≠ 0 then 0 else if E2 ≠ 0 then 0 else cmpI (T * w) (B * p)
set_option maxHeartbeats 8000000 in
theorem k21 {b d1 d2 n0 n1 n2 : Bool} {m : Nat} {E : List (List AV)} {dlo dhi mi lo hi : List Int} {pden wden E1 E2 T B : Int} (hE : plainR E = true) (h36 : Fn Try.prog 36 [.sl b m E, dmV d1 dlo d2 dhi, plV n0 mi pden] (.tup [i64 T, i64 E1]) []) (h48 : E1 = 0 → Fn Try.prog 48 [.sl b m E, dmV d1 dlo d2 dhi, wgV n1 lo n2 hi wden] (.tup [i64 B, i64 E2]) [])
    (hok : E1 = 0 → E2 = 0 → (0 ≤ T ∧ T ≤ 100000000000) ∧ (1 ≤ pden ∧ pden ≤ 10000000) ∧ (1 ≤ wden ∧ wden ≤ 10000000) ∧ B * pden ≤ T * wden) : Fn Try.prog 21 [.sl b m E, dmV d1 dlo d2 dhi, anV (ints n0 mi) pden n1 lo n2 hi wden] (.tup [i64 (coN E1 E2 T B wden pden), i64 (coE E1 E2)]) [] := by
  refine fn_of e21 ?_
  by_cases z1 : E1 = 0
  · have h48' := h48 z1
    have hok' := fun z2 => hok z1 z2
    subst z1
    have eE : coE 0 E2 = E2 := by unfold coE; rw [if_neg (by omega)]
    have eN : coN 0 E2 T B wden pden = if E2 ≠ 0 then 0 else cmpI (T * wden) (B * pden) := by unfold coN; rw [if_neg (by omega)]
    rw [eE, eN]
    clear h48 hok eE eN
    by_cases z2 : E2 = 0
    · obtain ⟨a1, a2, a3, a4⟩ := hok' z2
      subst z2
      rw [if_neg (by omega)]
      clear hok'
      have t1 := mul_bd (a := T) (b := wden) a1 (by omega : 0 ≤ wden ∧ wden ≤ 10000000)
      by_cases hB : B < 0
      · have d1 : decide (B < 0) = true := decide_eq_true hB
        have hneg : B * pden < 0 := Int.mul_neg_of_neg_of_pos hB (by omega)
        have e1 : cmpI (T * wden) (B * pden) = 1 := cmpI_g (by omega)
        rw [e1]
        clear hneg e1 hB t1 a1 a2 a3 a4
        unfold c21
        repeat' (first
          | with_reducible first
            | refine T_seq ?_
            | refine T_reg ?_
            | refine T_skip ?_
            | refine T_exit ?_
            | refine T_block ?_
            | refine T_cond_t rfl ?_
            | refine T_cond_f rfl ?_
            | (show wcall _ false (.lit (.func (.func 36) _ _)) _ _ _ _; refine wcall_fn (h36) rfl (by simp [plainL, plain, hE]) ?_)
            | (show wcall _ false (.lit (.func (.func 48) _ _)) _ _ _ _; refine wcall_fn (h48') rfl (by simp [plainL, plain, hE]) ?_)
            | ((first | refine T_cond rfl (fun hc => ?_) (fun hc => ?_) | refine wguard_split (fun hc => ?_) (fun hc => ?_)) <;> have hd := hc <;> (try simp (disch := omega) only [wrapI] at hd) <;> have hs := hd <;> (try simp only [Bool.not_eq_true', Bool.not_eq_false', Bool.and_eq_true, Bool.and_eq_false_iff, Bool.or_eq_true, Bool.or_eq_false_iff, decide_eq_true_eq, decide_eq_false_iff_not, beq_iff_eq, bne_iff_ne, beq_eq_false_iff_ne, bne_eq_false_iff_eq, Bool.not_true, Bool.not_false, gt_iff_lt, ge_iff_le, Int.not_lt, Int.not_le, ne_eq, Decidable.not_not] at hd) <;> (try simp at hs))
            | refine T_ret ?_
            | refine leave_of (.inr rfl) _ rfl ?_
            | refine leave_of (.inl rfl) _ rfl ?_
            | refine leaveA_of (.inr rfl) _ rfl ?_
            | refine leaveA_of (.inl rfl) _ rfl ?_
            | refine wif_intro ?_ (fun hc => ?_)
            | refine And.intro ?_ ?_
            | intro hc
          | simp (maxSteps := 4000000) only [wops_nil, wops_cons, wstep_none, wrun_call, wrun_mv, wrun_bin, wrun_ext, wrun_load, wrun_faddr, wrun_box, get_mk, wop, aop, ev, look, put_some, writes, ores_some, binV, thenK, blockK, value, cut, hget, AV.parts, isOne, toLits, mkAgg, tupOf, List.map_cons, List.map_nil, List.length_cons, List.length_nil, List.getElem?_cons_zero, List.getElem?_cons_succ, List.set_cons_zero, List.set_cons_succ, List.take_succ_cons, List.take_zero, List.take_nil, List.drop_succ_cons, List.drop_zero, List.nil_append, List.append_nil, List.replicate_zero, List.replicate_succ, List.getD_cons_zero, List.zipIdx_cons, List.zipIdx_nil, List.all_cons, List.all_nil, Option.getD_some, Option.map_some, if_true, if_false, Nat.reduceEqDiff, Nat.reduceAdd, Nat.add_zero, Nat.zero_add, Nat.zero_ne_one, reduceCtorEq, Bool.and_true, eq_self, true_and, and_self, freeze, lidsL, lids, List.flatMap_cons, List.flatMap_nil, List.all_cons, ren, renL, *]
          | simp (disch := omega) only [getD_ints, wrapI]
          | (with_reducible show wcall _ false (.lit (.func (.func 36) _ _)) _ _ _ _; refine wcall_fn (h36) ?_ ?_ ?_; (next => simp [rfyL, rfy, hget, ints, take_rfy, hE]); (next => simp [plainL, plain, plainR, hE]))
          | (with_reducible show wcall _ false (.lit (.func (.func 48) _ _)) _ _ _ _; refine wcall_fn (h48') ?_ ?_ ?_; (next => simp [rfyL, rfy, hget, ints, take_rfy, hE]); (next => simp [plainL, plain, plainR, hE]))
          | omega)
        all_goals first | rfl
      · have d1 : decide (B < 0) = false := decide_eq_false hB
        have hpos : 0 ≤ B * pden := Int.mul_nonneg (by omega) (by omega)
        have ew1 : IntKind.i64.wrap (T * wden) = T * wden := wrapI (by omega) (by omega)
        have ew2 : IntKind.i64.wrap (B * pden) = B * pden := wrapI (by omega) (by omega)
        have h67 := k67 (T * wden) (B * pden)
        clear hpos hB t1 a1 a2 a3 a4
        generalize hx : T * wden = x at *
        generalize hy : B * pden = y at *
        replace hx := PLift.up hx
        replace hy := PLift.up hy
        generalize cmpI x y = C at *
        unfold c21
        repeat' (first
          | with_reducible first
            | refine T_seq ?_
            | refine T_reg ?_
            | refine T_skip ?_
            | refine T_exit ?_
            | refine T_block ?_
            | refine T_cond_t rfl ?_
            | refine T_cond_f rfl ?_
            | (show wcall _ false (.lit (.func (.func 36) _ _)) _ _ _ _; refine wcall_fn (h36) rfl (by simp [plainL, plain, hE]) ?_)
            | (show wcall _ false (.lit (.func (.func 48) _ _)) _ _ _ _; refine wcall_fn (h48') rfl (by simp [plainL, plain, hE]) ?_)
            | (show wcall _ false (.lit (.func (.func 67) _ _)) _ _ _ _; refine wcall_fn (h67) rfl (by simp [plainL, plain]) ?_)
            | ((first | refine T_cond rfl (fun hc => ?_) (fun hc => ?_) | refine wguard_split (fun hc => ?_) (fun hc => ?_)) <;> have hd := hc <;> (try simp (disch := omega) only [wrapI] at hd) <;> have hs := hd <;> (try simp only [Bool.not_eq_true', Bool.not_eq_false', Bool.and_eq_true, Bool.and_eq_false_iff, Bool.or_eq_true, Bool.or_eq_false_iff, decide_eq_true_eq, decide_eq_false_iff_not, beq_iff_eq, bne_iff_ne, beq_eq_false_iff_ne, bne_eq_false_iff_eq, Bool.not_true, Bool.not_false, gt_iff_lt, ge_iff_le, Int.not_lt, Int.not_le, ne_eq, Decidable.not_not] at hd) <;> (try simp at hs))
            | refine T_ret ?_
            | refine leave_of (.inr rfl) _ rfl ?_
            | refine leave_of (.inl rfl) _ rfl ?_
            | refine leaveA_of (.inr rfl) _ rfl ?_
            | refine leaveA_of (.inl rfl) _ rfl ?_
            | refine wif_intro ?_ (fun hc => ?_)
            | refine And.intro ?_ ?_
            | intro hc
          | simp (maxSteps := 4000000) only [wops_nil, wops_cons, wstep_none, wrun_call, wrun_mv, wrun_bin, wrun_ext, wrun_load, wrun_faddr, wrun_box, get_mk, wop, aop, ev, look, put_some, writes, ores_some, binV, thenK, blockK, value, cut, hget, AV.parts, isOne, toLits, mkAgg, tupOf, List.map_cons, List.map_nil, List.length_cons, List.length_nil, List.getElem?_cons_zero, List.getElem?_cons_succ, List.set_cons_zero, List.set_cons_succ, List.take_succ_cons, List.take_zero, List.take_nil, List.drop_succ_cons, List.drop_zero, List.nil_append, List.append_nil, List.replicate_zero, List.replicate_succ, List.getD_cons_zero, List.zipIdx_cons, List.zipIdx_nil, List.all_cons, List.all_nil, Option.getD_some, Option.map_some, if_true, if_false, Nat.reduceEqDiff, Nat.reduceAdd, Nat.add_zero, Nat.zero_add, Nat.zero_ne_one, reduceCtorEq, Bool.and_true, Bool.false_eq_true, eq_self, true_and, and_self, freeze, lidsL, lids, List.flatMap_cons, List.flatMap_nil, List.all_cons, ren, renL, hx.down, hy.down, *]
          | simp (disch := omega) only [getD_ints, wrapI]
          | (with_reducible show wcall _ false (.lit (.func (.func 36) _ _)) _ _ _ _; refine wcall_fn (h36) ?_ ?_ ?_; (next => simp [rfyL, rfy, hget, ints, take_rfy, hE, hx.down, hy.down]); (next => simp [plainL, plain, plainR, hE, hx.down, hy.down]))
          | (with_reducible show wcall _ false (.lit (.func (.func 48) _ _)) _ _ _ _; refine wcall_fn (h48') ?_ ?_ ?_; (next => simp [rfyL, rfy, hget, ints, take_rfy, hE, hx.down, hy.down]); (next => simp [plainL, plain, plainR, hE, hx.down, hy.down]))
          | (with_reducible show wcall _ false (.lit (.func (.func 67) _ _)) _ _ _ _; refine wcall_fn (h67) ?_ ?_ ?_; (next => simp [rfyL, rfy, hget, ints, take_rfy, hE, hx.down, hy.down]); (next => simp [plainL, plain, plainR, hE, hx.down, hy.down]))
          | omega)
        all_goals first | rfl
    · rw [if_pos z2]
      have d1 : (E2 != 0) = true := by simp only [bne_iff_ne]; exact z2
      clear hok' z2
      unfold c21
      repeat' (first
        | with_reducible first
          | refine T_seq ?_
          | refine T_reg ?_
          | refine T_skip ?_
          | refine T_exit ?_
          | refine T_block ?_
          | refine T_cond_t rfl ?_
          | refine T_cond_f rfl ?_
          | (show wcall _ false (.lit (.func (.func 36) _ _)) _ _ _ _; refine wcall_fn (h36) rfl (by simp [plainL, plain, hE]) ?_)
          | (show wcall _ false (.lit (.func (.func 48) _ _)) _ _ _ _; refine wcall_fn (h48') rfl (by simp [plainL, plain, hE]) ?_)
          | ((first | refine T_cond rfl (fun hc => ?_) (fun hc => ?_) | refine wguard_split (fun hc => ?_) (fun hc => ?_)) <;> have hd := hc <;> (try simp (disch := omega) only [wrapI] at hd) <;> have hs := hd <;> (try simp only [Bool.not_eq_true', Bool.not_eq_false', Bool.and_eq_true, Bool.and_eq_false_iff, Bool.or_eq_true, Bool.or_eq_false_iff, decide_eq_true_eq, decide_eq_false_iff_not, beq_iff_eq, bne_iff_ne, beq_eq_false_iff_ne, bne_eq_false_iff_eq, Bool.not_true, Bool.not_false, gt_iff_lt, ge_iff_le, Int.not_lt, Int.not_le, ne_eq, Decidable.not_not] at hd) <;> (try simp at hs))
          | refine T_ret ?_
          | refine leave_of (.inr rfl) _ rfl ?_
          | refine leave_of (.inl rfl) _ rfl ?_
          | refine leaveA_of (.inr rfl) _ rfl ?_
          | refine leaveA_of (.inl rfl) _ rfl ?_
          | refine wif_intro ?_ (fun hc => ?_)
          | refine And.intro ?_ ?_
          | intro hc
        | simp (maxSteps := 4000000) only [wops_nil, wops_cons, wstep_none, wrun_call, wrun_mv, wrun_bin, wrun_ext, wrun_load, wrun_faddr, wrun_box, get_mk, wop, aop, ev, look, put_some, writes, ores_some, binV, thenK, blockK, value, cut, hget, AV.parts, isOne, toLits, mkAgg, tupOf, List.map_cons, List.map_nil, List.length_cons, List.length_nil, List.getElem?_cons_zero, List.getElem?_cons_succ, List.set_cons_zero, List.set_cons_succ, List.take_succ_cons, List.take_zero, List.take_nil, List.drop_succ_cons, List.drop_zero, List.nil_append, List.append_nil, List.replicate_zero, List.replicate_succ, List.getD_cons_zero, List.zipIdx_cons, List.zipIdx_nil, List.all_cons, List.all_nil, Option.getD_some, Option.map_some, if_true, if_false, Nat.reduceEqDiff, Nat.reduceAdd, Nat.add_zero, Nat.zero_add, Nat.zero_ne_one, reduceCtorEq, Bool.and_true, eq_self, true_and, and_self, freeze, lidsL, lids, List.flatMap_cons, List.flatMap_nil, List.all_cons, ren, renL, *]
        | simp (disch := omega) only [getD_ints, wrapI]
        | (with_reducible show wcall _ false (.lit (.func (.func 36) _ _)) _ _ _ _; refine wcall_fn (h36) ?_ ?_ ?_; (next => simp [rfyL, rfy, hget, ints, take_rfy, hE]); (next => simp [plainL, plain, plainR, hE]))
        | (with_reducible show wcall _ false (.lit (.func (.func 48) _ _)) _ _ _ _; refine wcall_fn (h48') ?_ ?_ ?_; (next => simp [rfyL, rfy, hget, ints, take_rfy, hE]); (next => simp [plainL, plain, plainR, hE]))
        | omega)
      all_goals first | rfl
  · have eE : coE E1 E2 = E1 := by unfold coE; rw [if_pos z1]
    have eN : coN E1 E2 T B wden pden = 0 := by unfold coN; rw [if_pos z1]
    have d1 : (E1 != 0) = true := by simp only [bne_iff_ne]; exact z1
    rw [eE, eN]
    clear h48 hok eE eN z1
    unfold c21
    repeat' (first
      | with_reducible first
        | refine T_seq ?_
        | refine T_reg ?_
        | refine T_skip ?_
        | refine T_exit ?_
        | refine T_block ?_
        | refine T_cond_t rfl ?_
        | refine T_cond_f rfl ?_
        | (show wcall _ false (.lit (.func (.func 36) _ _)) _ _ _ _; refine wcall_fn (h36) rfl (by simp [plainL, plain, hE]) ?_)
        | ((first | refine T_cond rfl (fun hc => ?_) (fun hc => ?_) | refine wguard_split (fun hc => ?_) (fun hc => ?_)) <;> have hd := hc <;> (try simp (disch := omega) only [wrapI] at hd) <;> have hs := hd <;> (try simp only [Bool.not_eq_true', Bool.not_eq_false', Bool.and_eq_true, Bool.and_eq_false_iff, Bool.or_eq_true, Bool.or_eq_false_iff, decide_eq_true_eq, decide_eq_false_iff_not, beq_iff_eq, bne_iff_ne, beq_eq_false_iff_ne, bne_eq_false_iff_eq, Bool.not_true, Bool.not_false, gt_iff_lt, ge_iff_le, Int.not_lt, Int.not_le, ne_eq, Decidable.not_not] at hd) <;> (try simp at hs))
        | refine T_ret ?_
        | refine leave_of (.inr rfl) _ rfl ?_
        | refine leave_of (.inl rfl) _ rfl ?_
        | refine leaveA_of (.inr rfl) _ rfl ?_
        | refine leaveA_of (.inl rfl) _ rfl ?_
        | refine wif_intro ?_ (fun hc => ?_)
        | refine And.intro ?_ ?_
        | intro hc
      | simp (maxSteps := 4000000) only [wops_nil, wops_cons, wstep_none, wrun_call, wrun_mv, wrun_bin, wrun_ext, wrun_load, wrun_faddr, wrun_box, get_mk, wop, aop, ev, look, put_some, writes, ores_some, binV, thenK, value, cut, hget, AV.parts, isOne, toLits, mkAgg, tupOf, List.map_cons, List.map_nil, List.length_cons, List.length_nil, List.getElem?_cons_zero, List.getElem?_cons_succ, List.set_cons_zero, List.set_cons_succ, List.take_succ_cons, List.take_zero, List.take_nil, List.drop_zero, List.nil_append, List.append_nil, List.replicate_zero, List.replicate_succ, List.getD_cons_zero, List.zipIdx_cons, List.zipIdx_nil, List.all_cons, List.all_nil, Option.getD_some, Option.map_some, if_true, if_false, Nat.reduceEqDiff, Nat.reduceAdd, Nat.add_zero, Nat.zero_add, Nat.zero_ne_one, reduceCtorEq, Bool.and_true, eq_self, true_and, and_self, freeze, lidsL, lids, List.flatMap_cons, List.flatMap_nil, List.all_cons, ren, renL, *]
      | simp (disch := omega) only [getD_ints, wrapI]
      | (with_reducible show wcall _ false (.lit (.func (.func 36) _ _)) _ _ _ _; refine wcall_fn (h36) ?_ ?_ ?_; (next => simp [rfyL, rfy, hget, ints, take_rfy, hE]); (next => simp [plainL, plain, plainR, hE]))
      | omega)
    all_goals first | rfl
set_option maxHeartbeats 8000000 in
theorem k27 {b d1 d2 n0 n1 n2 : Bool} {m : Nat} {E : List (List AV)} {dlo dhi mi lo hi : List Int} {pden wden E1 E2 T B : Int} (hE : plainR E = true) (h42 : Fn Try.prog 42 [.sl b m E, dmV d1 dlo d2 dhi, plV n0 mi pden] (.tup [i64 T, i64 E1]) []) (h50 : E1 = 0 → Fn Try.prog 50 [.sl b m E, dmV d1 dlo d2 dhi, wgV n1 lo n2 hi wden] (.tup [i64 B, i64 E2]) [])
    (hok : E1 = 0 → E2 = 0 → (0 ≤ T ∧ T ≤ 100000000000) ∧ (1 ≤ pden ∧ pden ≤ 10000000) ∧ (1 ≤ wden ∧ wden ≤ 10000000) ∧ (-1000000000000000 ≤ B ∧ B ≤ 1000000000000000)) : Fn Try.prog 27 [.sl b m E, dmV d1 dlo d2 dhi, anV (ints n0 mi) pden n1 lo n2 hi wden] (.tup [i64 (coN E1 E2 T B wden pden), i64 (coE E1 E2)]) [] := by
  refine fn_of e27 ?_
  by_cases z1 : E1 = 0
  · have h50' := h50 z1
    have hok' := fun z2 => hok z1 z2
    subst z1
    have eE : coE 0 E2 = E2 := by unfold coE; rw [if_neg (by omega)]
    have eN : coN 0 E2 T B wden pden = if E2 ≠ 0 then 0 else cmpI (T * wden) (B * pden) := by unfold coN; rw [if_neg (by omega)]
    rw [eE, eN]
    clear h50 hok eE eN
    by_cases z2 : E2 = 0
    · obtain ⟨a1, a2, a3, a4⟩ := hok' z2
      subst z2
      rw [if_neg (by omega)]
      have h68 := k68 T pden B wden (by omega) (by omega) (by omega) (by omega)
      clear hok' a1 a2 a3 a4
      generalize cmpI (T * wden) (B * pden) = C at *
      unfold c27
      repeat' (first
        | with_reducible first
          | refine T_seq ?_
          | refine T_reg ?_
          | refine T_skip ?_
          | refine T_exit ?_
          | refine T_block ?_
          | refine T_cond_t rfl ?_
          | refine T_cond_f rfl ?_
          | (show wcall _ false (.lit (.func (.func 42) _ _)) _ _ _ _; refine wcall_fn (h42) rfl (by simp [plainL, plain, hE]) ?_)
          | (show wcall _ false (.lit (.func (.func 50) _ _)) _ _ _ _; refine wcall_fn (h50') rfl (by simp [plainL, plain, hE]) ?_)
          | (show wcall _ false (.lit (.func (.func 68) _ _)) _ _ _ _; refine wcall_fn (h68) rfl (by simp [plainL, plain]) ?_)
          | ((first | refine T_cond rfl (fun hc => ?_) (fun hc => ?_) | refine wguard_split (fun hc => ?_) (fun hc => ?_)) <;> have hd := hc <;> (try simp (disch := omega) only [wrapI] at hd) <;> have hs := hd <;> (try simp only [Bool.not_eq_true', Bool.not_eq_false', Bool.and_eq_true, Bool.and_eq_false_iff, Bool.or_eq_true, Bool.or_eq_false_iff, decide_eq_true_eq, decide_eq_false_iff_not, beq_iff_eq, bne_iff_ne, beq_eq_false_iff_ne, bne_eq_false_iff_eq, Bool.not_true, Bool.not_false, gt_iff_lt, ge_iff_le, Int.not_lt, Int.not_le, ne_eq, Decidable.not_not] at hd) <;> (try simp at hs))
          | refine T_ret ?_
          | refine leave_of (.inr rfl) _ rfl ?_
          | refine leave_of (.inl rfl) _ rfl ?_
          | refine leaveA_of (.inr rfl) _ rfl ?_
          | refine leaveA_of (.inl rfl) _ rfl ?_
          | refine wif_intro ?_ (fun hc => ?_)
          | refine And.intro ?_ ?_
          | intro hc
        | simp (maxSteps := 4000000) only [wops_nil, wops_cons, wstep_none, wrun_call, wrun_mv, wrun_bin, wrun_ext, wrun_load, wrun_faddr, wrun_box, get_mk, wop, aop, ev, look, put_some, writes, ores_some, binV, thenK, value, cut, hget, AV.parts, isOne, toLits, mkAgg, tupOf, List.map_cons, List.map_nil, List.length_cons, List.length_nil, List.getElem?_cons_zero, List.getElem?_cons_succ, List.set_cons_zero, List.set_cons_succ, List.take_succ_cons, List.take_zero, List.take_nil, List.drop_succ_cons, List.drop_zero, List.nil_append, List.append_nil, List.replicate_zero, List.replicate_succ, List.getD_cons_zero, List.zipIdx_cons, List.zipIdx_nil, List.all_cons, List.all_nil, Option.getD_some, Option.map_some, if_true, if_false, Nat.reduceEqDiff, Nat.reduceAdd, Nat.add_zero, Nat.zero_add, Nat.zero_ne_one, reduceCtorEq, Bool.and_true, Bool.false_eq_true, eq_self, true_and, and_self, freeze, lidsL, lids, List.flatMap_cons, List.flatMap_nil, List.all_cons, ren, renL, *]
        | simp (disch := omega) only [getD_ints, wrapI]
        | (with_reducible show wcall _ false (.lit (.func (.func 42) _ _)) _ _ _ _; refine wcall_fn (h42) ?_ ?_ ?_; (next => simp [rfyL, rfy, hget, ints, take_rfy, hE]); (next => simp [plainL, plain, plainR, hE]))
        | (with_reducible show wcall _ false (.lit (.func (.func 50) _ _)) _ _ _ _; refine wcall_fn (h50') ?_ ?_ ?_; (next => simp [rfyL, rfy, hget, ints, take_rfy, hE]); (next => simp [plainL, plain, plainR, hE]))
        | (with_reducible show wcall _ false (.lit (.func (.func 68) _ _)) _ _ _ _; refine wcall_fn (h68) ?_ ?_ ?_; (next => simp [rfyL, rfy, hget, ints, take_rfy, hE]); (next => simp [plainL, plain, plainR, hE]))
        | omega)
      all_goals first | rfl
    · rw [if_pos z2]
      have d1 : (E2 != 0) = true := by simp only [bne_iff_ne]; exact z2
      clear hok' z2
      unfold c27
      repeat' (first
        | with_reducible first
          | refine T_seq ?_
          | refine T_reg ?_
          | refine T_skip ?_
          | refine T_exit ?_
          | refine T_block ?_
          | refine T_cond_t rfl ?_
          | refine T_cond_f rfl ?_
          | (show wcall _ false (.lit (.func (.func 42) _ _)) _ _ _ _; refine wcall_fn (h42) rfl (by simp [plainL, plain, hE]) ?_)
          | (show wcall _ false (.lit (.func (.func 50) _ _)) _ _ _ _; refine wcall_fn (h50') rfl (by simp [plainL, plain, hE]) ?_)
          | ((first | refine T_cond rfl (fun hc => ?_) (fun hc => ?_) | refine wguard_split (fun hc => ?_) (fun hc => ?_)) <;> have hd := hc <;> (try simp (disch := omega) only [wrapI] at hd) <;> have hs := hd <;> (try simp only [Bool.not_eq_true', Bool.not_eq_false', Bool.and_eq_true, Bool.and_eq_false_iff, Bool.or_eq_true, Bool.or_eq_false_iff, decide_eq_true_eq, decide_eq_false_iff_not, beq_iff_eq, bne_iff_ne, beq_eq_false_iff_ne, bne_eq_false_iff_eq, Bool.not_true, Bool.not_false, gt_iff_lt, ge_iff_le, Int.not_lt, Int.not_le, ne_eq, Decidable.not_not] at hd) <;> (try simp at hs))
          | refine T_ret ?_
          | refine leave_of (.inr rfl) _ rfl ?_
          | refine leave_of (.inl rfl) _ rfl ?_
          | refine leaveA_of (.inr rfl) _ rfl ?_
          | refine leaveA_of (.inl rfl) _ rfl ?_
          | refine wif_intro ?_ (fun hc => ?_)
          | refine And.intro ?_ ?_
          | intro hc
        | simp (maxSteps := 4000000) only [wops_nil, wops_cons, wstep_none, wrun_call, wrun_mv, wrun_bin, wrun_ext, wrun_load, wrun_faddr, wrun_box, get_mk, wop, aop, ev, look, put_some, writes, ores_some, binV, thenK, value, cut, hget, AV.parts, isOne, toLits, mkAgg, tupOf, List.map_cons, List.map_nil, List.length_cons, List.length_nil, List.getElem?_cons_zero, List.getElem?_cons_succ, List.set_cons_zero, List.set_cons_succ, List.take_succ_cons, List.take_zero, List.take_nil, List.drop_succ_cons, List.drop_zero, List.nil_append, List.append_nil, List.replicate_zero, List.replicate_succ, List.getD_cons_zero, List.zipIdx_cons, List.zipIdx_nil, List.all_cons, List.all_nil, Option.getD_some, Option.map_some, if_true, if_false, Nat.reduceEqDiff, Nat.reduceAdd, Nat.add_zero, Nat.zero_add, Nat.zero_ne_one, reduceCtorEq, Bool.and_true, eq_self, true_and, and_self, freeze, lidsL, lids, List.flatMap_cons, List.flatMap_nil, List.all_cons, ren, renL, *]
        | simp (disch := omega) only [getD_ints, wrapI]
        | (with_reducible show wcall _ false (.lit (.func (.func 42) _ _)) _ _ _ _; refine wcall_fn (h42) ?_ ?_ ?_; (next => simp [rfyL, rfy, hget, ints, take_rfy, hE]); (next => simp [plainL, plain, plainR, hE]))
        | (with_reducible show wcall _ false (.lit (.func (.func 50) _ _)) _ _ _ _; refine wcall_fn (h50') ?_ ?_ ?_; (next => simp [rfyL, rfy, hget, ints, take_rfy, hE]); (next => simp [plainL, plain, plainR, hE]))
        | omega)
      all_goals first | rfl
  · have eE : coE E1 E2 = E1 := by unfold coE; rw [if_pos z1]
    have eN : coN E1 E2 T B wden pden = 0 := by unfold coN; rw [if_pos z1]
    have d1 : (E1 != 0) = true := by simp only [bne_iff_ne]; exact z1
    rw [eE, eN]
    clear h50 hok eE eN z1
    unfold c27
    repeat' (first
      | with_reducible first
        | refine T_seq ?_
        | refine T_reg ?_
        | refine T_skip ?_
        | refine T_exit ?_
        | refine T_block ?_
        | refine T_cond_t rfl ?_
        | refine T_cond_f rfl ?_
        | (show wcall _ false (.lit (.func (.func 42) _ _)) _ _ _ _; refine wcall_fn (h42) rfl (by simp [plainL, plain, hE]) ?_)
        | ((first | refine T_cond rfl (fun hc => ?_) (fun hc => ?_) | refine wguard_split (fun hc => ?_) (fun hc => ?_)) <;> have hd := hc <;> (try simp (disch := omega) only [wrapI] at hd) <;> have hs := hd <;> (try simp only [Bool.not_eq_true', Bool.not_eq_false', Bool.and_eq_true, Bool.and_eq_false_iff, Bool.or_eq_true, Bool.or_eq_false_iff, decide_eq_true_eq, decide_eq_false_iff_not, beq_iff_eq, bne_iff_ne, beq_eq_false_iff_ne, bne_eq_false_iff_eq, Bool.not_true, Bool.not_false, gt_iff_lt, ge_iff_le, Int.not_lt, Int.not_le, ne_eq, Decidable.not_not] at hd) <;> (try simp at hs))
        | refine T_ret ?_
        | refine leave_of (.inr rfl) _ rfl ?_
        | refine leave_of (.inl rfl) _ rfl ?_
        | refine leaveA_of (.inr rfl) _ rfl ?_
        | refine leaveA_of (.inl rfl) _ rfl ?_
        | refine wif_intro ?_ (fun hc => ?_)
        | refine And.intro ?_ ?_
        | intro hc
      | simp (maxSteps := 4000000) only [wops_nil, wops_cons, wstep_none, wrun_call, wrun_mv, wrun_bin, wrun_ext, wrun_load, wrun_faddr, wrun_box, get_mk, wop, aop, ev, look, put_some, writes, ores_some, binV, thenK, value, cut, hget, AV.parts, isOne, toLits, mkAgg, tupOf, List.map_cons, List.map_nil, List.length_cons, List.length_nil, List.getElem?_cons_zero, List.getElem?_cons_succ, List.set_cons_zero, List.set_cons_succ, List.take_succ_cons, List.take_zero, List.take_nil, List.drop_zero, List.nil_append, List.append_nil, List.replicate_zero, List.replicate_succ, List.getD_cons_zero, List.zipIdx_cons, List.zipIdx_nil, List.all_cons, List.all_nil, Option.getD_some, Option.map_some, if_true, if_false, Nat.reduceEqDiff, Nat.reduceAdd, Nat.add_zero, Nat.zero_add, Nat.zero_ne_one, reduceCtorEq, Bool.and_true, eq_self, true_and, and_self, freeze, lidsL, lids, List.flatMap_cons, List.flatMap_nil, List.all_cons, ren, renL, *]
      | simp (disch := omega) only [getD_ints, wrapI]
      | (with_reducible show wcall _ false (.lit (.func (.func 42) _ _)) _ _ _ _; refine wcall_fn (h42) ?_ ?_ ?_; (next => simp [rfyL, rfy, hget, ints, take_rfy, hE]); (next => simp [plainL, plain, plainR, hE]))
      | omega)
    all_goals first | rfl
end Go.Abs
