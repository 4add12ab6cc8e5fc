import Derived.Test.YtodheeifecoebaaK100x
set_option linter.all false
set_option linter.unusedVariables false
set_option linter.unusedSimpArgs false
set_option linter.unusedSectionVars false
namespace Go.Abs
open Go.Proofs
theorem rv_get {z : Nat} {M : List (List Int)} (hM : Sq z M) {i j : Nat} (hi : i < z) (hj : j < z) : mget (toR M) i j = rv (mget M i j) := toR_get hM hi hj
set_option maxHeartbeats 8000000 in
theorem k56c {z : Nat} {nil : Bool} {l : List Rd} (a b : Int) (h : checkR z l = 0) (hcyc : ∀ r, r ≤ z → 0 ≤ (rnds (arcsL l l.length) z (r + 1)).at_) : Fn Try.prog 56 [i64 z, rdgs nil l, rgA a b] (.tup [rgA 0 0, i64 13]) [] := by
  refine fn_of e56 ?_
  have h70 := (k70 (nil := nil) h).2 hcyc
  clear hcyc
  unfold c56
  repeat' (first
    | (with_reducible refine T_seq ?_)
    | (with_reducible refine T_reg ?_)
    | ((with_reducible refine T_calm ?_ ?_); rfl)
    | (with_reducible refine T_draw ?_)
    | (with_reducible refine T_skip ?_)
    | (with_reducible refine T_exit ?_)
    | (with_reducible refine T_block ?_)
    | (with_reducible (show T _ _ _ _ _ (.cond _ _ _) _ _); first | (refine T_cond_t rfl ?_) | (refine T_cond_f rfl ?_) | (refine T_cond rfl (fun hc => ?_) (fun hc => ?_) <;> have hd := hc <;> (try simp (disch := omega) only [wrapI] at hd) <;> have hs := hd <;> (try simp only [Bool.not_eq_true', Bool.not_eq_false', Bool.and_eq_true, Bool.and_eq_false_iff, Bool.or_eq_true, Bool.or_eq_false_iff, decide_eq_true_eq, decide_eq_false_iff_not, beq_iff_eq, bne_iff_ne, beq_eq_false_iff_ne, bne_eq_false_iff_eq, Bool.not_true, Bool.not_false, gt_iff_lt, ge_iff_le, Int.not_lt, Int.not_le, ne_eq, Decidable.not_not] at hd) <;> (try simp at hs)))
    | (with_reducible (show wdW _ _ _ (_ :: _) _ _ _); refine wdW_cons rfl ?_)
    | (with_reducible (show wcall _ false (.lit (.func (.func 70) _ _)) _ _ _ _); refine wcall_fn (h70) rfl (by simp [plainL, plain]) ?_)
    | (with_reducible (show wcallX _ false (.lit (.func (.func 70) _ _)) _ _ _ _); refine wcallX_fn (h70) rfl (by simp [plainL, plain, plainR]) ?_)
    | (with_reducible refine wguard_split (fun hc => ?_) (fun hc => ?_) <;> have hd := hc <;> (try simp (disch := omega) only [wrapI] at hd) <;> have hs := hd <;> (try simp only [Bool.not_eq_true', Bool.not_eq_false', Bool.and_eq_true, Bool.and_eq_false_iff, Bool.or_eq_true, Bool.or_eq_false_iff, decide_eq_true_eq, decide_eq_false_iff_not, beq_iff_eq, bne_iff_ne, beq_eq_false_iff_ne, bne_eq_false_iff_eq, Bool.not_true, Bool.not_false, gt_iff_lt, ge_iff_le, Int.not_lt, Int.not_le, ne_eq, Decidable.not_not] at hd) <;> (try simp at hs))
    | (with_reducible refine wguardX_split (fun hc => ?_) (fun hc => ?_) <;> have hd := hc <;> (try simp (disch := omega) only [wrapI] at hd) <;> have hs := hd <;> (try simp only [Bool.not_eq_true', Bool.not_eq_false', Bool.and_eq_true, Bool.and_eq_false_iff, Bool.or_eq_true, Bool.or_eq_false_iff, decide_eq_true_eq, decide_eq_false_iff_not, beq_iff_eq, bne_iff_ne, beq_eq_false_iff_ne, bne_eq_false_iff_eq, Bool.not_true, Bool.not_false, gt_iff_lt, ge_iff_le, Int.not_lt, Int.not_le, ne_eq, Decidable.not_not] at hd) <;> (try simp at hs))
    | (with_reducible refine T_ret ?_)
    | (with_reducible (show leave _ _ _ _ _); first | (refine leave_of (.inr rfl) _ rfl ?_) | (refine leave_of (.inl rfl) _ rfl ?_))
    | (with_reducible (show leaveA _ _ _ _); first | (refine leaveA_of (.inr rfl) _ rfl ?_) | (refine leaveA_of (.inl rfl) _ rfl ?_))
    | (with_reducible refine wif_intro ?_ (fun hc => ?_))
    | (with_reducible refine And.intro ?_ ?_)
    | (with_reducible intro hc)
    | (simp (maxSteps := 4000000) only [wops_nil, wops_cons, wstep_none, wrun_call, wrun_mv, wrun_not, wrun_ext, wrun_build, wrun_store, wrun_alloc, wrun_box, get_mk, wop, aop, ev, look, put_some, put_none, writes, ores_some, thenK, boolV, cut, hget, fillA, putCells, AV.parts, isOne, toLits, mkAgg, tupOf, ofValue_int, List.map_cons, List.map_nil, List.length_cons, List.length_nil, List.getElem?_cons_zero, List.getElem?_cons_succ, List.set_cons_zero, List.set_cons_succ, List.take_succ_cons, List.take_zero, List.take_nil, List.drop_succ_cons, List.drop_zero, List.drop_nil, List.nil_append, List.append_nil, List.replicate_zero, List.replicate_succ, List.getD_cons_zero, List.zipIdx_cons, List.zipIdx_nil, List.all_cons, List.all_nil, Option.getD_some, Option.map_some, if_true, if_false, Nat.reduceEqDiff, Nat.reduceAdd, Nat.reduceLT, Nat.add_zero, Nat.zero_add, Nat.le_refl, Nat.zero_ne_one, reduceCtorEq, Bool.not_false, Bool.and_true, eq_self, true_and, and_self, freeze, lidsL, lids, List.flatMap_cons, List.flatMap_nil, List.all_cons, ren, renL, renR, *])
    | (simp (disch := omega) only [getD_ints, wrapI])
    | (with_reducible (show wcall _ false (.lit (.func (.func 70) _ _)) _ _ _ _); refine wcall_fn (h70) ?_ ?_ ?_; (next => simp [rfyL, rfy, hget, ints, take_rfy]); (next => simp [plainL, plain, plainR]))
    | (with_reducible (show wcallX _ false (.lit (.func (.func 70) _ _)) _ _ _ _); refine wcallX_fn (h70) ?_ ?_ ?_; (next => simp [rfyL, rfy, hget, ints, take_rfy]); (next => simp [plainL, plain, plainR]))
    | omega)
set_option maxHeartbeats 8000000 in
theorem k56n {z a b : Nat} {nil : Bool} {l : List Rd} (h : checkR z l = 0) (ha : a < z) (hb : b < z) (hnil : ∃ r, r ≤ z ∧ (rnds (arcsL l l.length) z (r + 1)).at_ < 0) : Fn Try.prog 56 [i64 z, rdgs nil l, rgA a b] (if mget (tabM (arcsL l l.length) z) a b < far then .tup [rgA (-(mget (tabM (arcsL l l.length) z) b a)) (mget (tabM (arcsL l l.length) z) a b), i64 0] else .tup [rgA 0 0, i64 25]) [] := by
  refine fn_of e56 ?_
  obtain ⟨hz2, hl, hrd⟩ := checkR_ok h
  obtain ⟨hA, hN, hok⟩ := arcs_ok hrd
  have hn : (arcsL l l.length).length ≤ 200 := by have := arcsL_len l l.length; omega
  have h70 := (k70 (nil := nil) h).1 hnil
  obtain ⟨P, hP1, hP2⟩ := rest_bound hA hn hnil (by omega)
  have hS := tab_stt hA hN (by omega) hP1 hP2
  have hbd := hS.bd hA (Nat.le_refl _) (by omega) hb ha
  have hbd2 := hS.bd hA (Nat.le_refl _) (by omega) ha hb
  have hback := fun h => hS.back hA (arcs_two l) (by omega) ha hb h
  have hM := hS.sq
  generalize tabM (arcsL l l.length) z = M at *
  have hfar : far = 1099511627776 := rfl
  have hF : FAR = 1000000000000 := rfl
  have hD := toR_sq hM
  have r1 := toR_get hM ha hb
  have r2 := toR_get hM hb ha
  have hrow : ((toR M).map fun r => [ints false r]).length = z := by rw [List.length_map]; exact hD.hl
  have htab := tab_at hD.hl [.cells true false 2 [[i64 a, i64 b]], .cells true false 2 [[i64 0, i64 0]]]
  have hT : IsTo 2 z (toR M) (.cells true false 2 [[i64 a, i64 b]] :: .cells true false 2 [[i64 0, i64 0]] :: List.map (renB (shiftρ 2)) (tabB (toR M) z)) := htab
  have hp1 : (Blk.cells true false 2 [[i64 a, i64 b]] :: Blk.cells true false 2 [[i64 0, i64 0]] :: List.map (renB (shiftρ 2)) (tabB (toR M) z))[1]? = some (Blk.cells true false 2 [[i64 0, i64 0]]) := rfl
  have hset : ∀ c : Blk, ((Blk.cells true false 2 [[i64 a, i64 b]] :: Blk.cells true false 2 [[i64 0, i64 0]] :: List.map (renB (shiftρ 2)) (tabB (toR M) z)).set 1 c)[1]? = some c := fun c => rfl
  obtain ⟨⟨w, ht⟩, hr⟩ := hT
  obtain ⟨wa, hra⟩ := hr a ha
  obtain ⟨wb, hrb⟩ := hr b hb
  have hp0 : (Blk.cells true false 2 [[i64 a, i64 b]] :: Blk.cells true false 2 [[i64 0, i64 0]] :: List.map (renB (shiftρ 2)) (tabB (toR M) z))[0]? = some (Blk.cells true false 2 [[i64 a, i64 b]]) := rfl
  have hla := hD.hr a ha
  have hlb := hD.hr b hb
  have g1 : (((toR M).getD a []).map fun x => [i64 x]).getD b [] = [i64 (rv (mget M a b))] := by rw [← r1]; exact getD_ints (by omega)
  have g2 : (((toR M).getD b []).map fun x => [i64 x]).getD a [] = [i64 (rv (mget M b a))] := by rw [← r2]; exact getD_ints (by omega)
  have hta : ((List.range z).map fun i => [AV.lsl (2 + 1 + i) 0 z]).getD a [] = [AV.lsl (2 + 1 + a) 0 z] := by simp [List.getD, ha]
  have htb : ((List.range z).map fun i => [AV.lsl (2 + 1 + i) 0 z]).getD b [] = [AV.lsl (2 + 1 + b) 0 z] := by simp [List.getD, hb]
  have e00 : Int.toNat 0 = 0 := rfl
  have e01 : Int.toNat 1 = 1 := rfl
  have e0 : ∀ x : Int, 0 - x = -x := fun x => by omega
  generalize hgen : (Blk.cells true false 2 [[i64 a, i64 b]] :: Blk.cells true false 2 [[i64 0, i64 0]] :: List.map (renB (shiftρ 2)) (tabB (toR M) z)) = G at *
  replace hgen : Blk.cells true false 2 [[i64 a, i64 b]] :: Blk.cells true false 2 [[i64 0, i64 0]] :: List.map (renB (shiftρ 2)) (tabB (toR M) z) = G := hgen
  clear hr htab hnil hP1 hP2 hS hA hN hok hrd
  unfold c56
  by_cases hc : mget M a b < far
  · rw [if_pos hc]
    have q1 : rv (mget M a b) = mget M a b := (rv_lt (by omega)).2 hc
    have q2 : rv (mget M b a) = mget M b a := (rv_lt (by omega)).2 (hback hc)
    rw [q1] at g1
    rw [q2] at g2
    have hdc : decide (mget M a b ≥ 1000000000000) = false := by simp only [decide_eq_false_iff_not]; omega
    clear r1 r2 hback hbd2
    repeat' (first
      | (with_reducible refine T_seq ?_)
      | (with_reducible refine T_reg ?_)
      | ((with_reducible refine T_calm ?_ ?_); rfl)
      | (with_reducible refine T_draw ?_)
      | (with_reducible refine T_skip ?_)
      | (with_reducible refine T_exit ?_)
      | (with_reducible refine T_block ?_)
      | (with_reducible (show T _ _ _ _ _ (.cond _ _ _) _ _); first | (refine T_cond_t rfl ?_) | (refine T_cond_f rfl ?_) | (refine T_cond rfl (fun hc => ?_) (fun hc => ?_) <;> have hd := hc <;> (try simp (disch := omega) only [wrapI] at hd) <;> have hs := hd <;> (try simp only [Bool.not_eq_true', Bool.not_eq_false', Bool.and_eq_true, Bool.and_eq_false_iff, Bool.or_eq_true, Bool.or_eq_false_iff, decide_eq_true_eq, decide_eq_false_iff_not, beq_iff_eq, bne_iff_ne, beq_eq_false_iff_ne, bne_eq_false_iff_eq, Bool.not_true, Bool.not_false, gt_iff_lt, ge_iff_le, Int.not_lt, Int.not_le, ne_eq, Decidable.not_not] at hd) <;> (try simp at hs)))
      | (with_reducible (show wdW _ _ _ (_ :: _) _ _ _); refine wdW_cons rfl ?_)
      | (with_reducible (show wcall _ false (.lit (.func (.func 70) _ _)) _ _ _ _); refine wcall_fn (h70) rfl (by simp [plainL, plain]) ?_)
      | (with_reducible (show wcallX _ false (.lit (.func (.func 70) _ _)) _ _ _ _); refine wcallX_fn (h70) rfl (by simp [plainL, plain, plainR, Int.toNat_natCast, e0]) ?_)
      | (with_reducible refine wguard_split (fun hc => ?_) (fun hc => ?_) <;> have hd := hc <;> (try simp (disch := omega) only [wrapI] at hd) <;> have hs := hd <;> (try simp only [Bool.not_eq_true', Bool.not_eq_false', Bool.and_eq_true, Bool.and_eq_false_iff, Bool.or_eq_true, Bool.or_eq_false_iff, decide_eq_true_eq, decide_eq_false_iff_not, beq_iff_eq, bne_iff_ne, beq_eq_false_iff_ne, bne_eq_false_iff_eq, Bool.not_true, Bool.not_false, gt_iff_lt, ge_iff_le, Int.not_lt, Int.not_le, ne_eq, Decidable.not_not] at hd) <;> (try simp at hs))
      | (with_reducible refine wguardX_split (fun hc => ?_) (fun hc => ?_) <;> have hd := hc <;> (try simp (disch := omega) only [wrapI] at hd) <;> have hs := hd <;> (try simp only [Bool.not_eq_true', Bool.not_eq_false', Bool.and_eq_true, Bool.and_eq_false_iff, Bool.or_eq_true, Bool.or_eq_false_iff, decide_eq_true_eq, decide_eq_false_iff_not, beq_iff_eq, bne_iff_ne, beq_eq_false_iff_ne, bne_eq_false_iff_eq, Bool.not_true, Bool.not_false, gt_iff_lt, ge_iff_le, Int.not_lt, Int.not_le, ne_eq, Decidable.not_not] at hd) <;> (try simp at hs))
      | (with_reducible refine T_ret ?_)
      | (with_reducible refine wif_intro ?_ (fun hc => ?_))
      | (with_reducible refine And.intro ?_ ?_)
      | (with_reducible intro hc)
      | (simp (maxSteps := 4000000) only [wops_nil, wops_cons, wstep_none, wrun_call, wrun_mv, wrun_bin, wrun_neg, wrun_not, wrun_ext, wrun_build, wrun_load, wrun_store, wrun_iaddrS, wrun_iaddrA, wrun_alloc, wrun_box, wrunX_mv, wrunX_neg, wrunX_build, wrunX_load, wrunX_store, wrunX_iaddrS, wdW_nil, wstepX_none, wop, aop, ev, look, put_some, put_none, writes, ores_some, ores_ite_none, binV, thenK, boolV, value, cut, hget, fillA, putCells, AV.parts, isOne, toLits, mkAgg, ofValue_int, List.map_cons, List.map_nil, List.length_cons, List.length_nil, List.getElem?_cons_zero, List.getElem?_cons_succ, List.set_cons_zero, List.set_cons_succ, List.take_succ_cons, List.take_zero, List.take_nil, List.drop_succ_cons, List.drop_zero, List.drop_nil, List.cons_append, List.nil_append, List.append_nil, List.replicate_zero, List.replicate_succ, List.getD_cons_zero, List.zipIdx_cons, List.zipIdx_nil, List.all_cons, List.all_nil, Option.getD_some, Option.map_some, if_true, if_false, Nat.reduceEqDiff, Nat.reduceAdd, Nat.reduceLeDiff, Nat.reduceLT, Nat.add_zero, Nat.zero_add, Nat.mul_one, Nat.le_refl, Nat.zero_ne_one, reduceCtorEq, Bool.not_true, Bool.and_true, Bool.false_eq_true, eq_self, true_and, and_true, and_self, freeze, lidsL, lids, List.flatMap_cons, List.flatMap_nil, List.all_cons, ren, renL, shiftρ, Int.toNat_natCast, *])
      | (simp (disch := omega) only [wrapI])
      | (with_reducible (show wcall _ false (.lit (.func (.func 70) _ _)) _ _ _ _); refine wcall_fn (h70) ?_ ?_ ?_; (next => simp [rfyL, rfy, hget, ints, take_rfy, Int.toNat_natCast, e0]); (next => simp [plainL, plain, plainR, Int.toNat_natCast, e0]))
      | (with_reducible (show wcallX _ false (.lit (.func (.func 70) _ _)) _ _ _ _); refine wcallX_fn (h70) ?_ ?_ ?_; (next => simp [rfyL, rfy, hget, ints, take_rfy, Int.toNat_natCast, e0]); (next => simp [plainL, plain, plainR, Int.toNat_natCast, e0]))
      | omega)
    exact leave_of (.inr rfl) [rgA (-(mget M b a)) (mget M a b), i64 0] (res54 rfl rfl (hset _)) ⟨rfl, rfl⟩
  · rw [if_neg hc]
    have q1 : rv (mget M a b) = 1000000000000 := if_neg hc
    rw [q1] at g1
    clear r1 r2 hback hbd2
    repeat' (first
      | (with_reducible refine T_seq ?_)
      | (with_reducible refine T_reg ?_)
      | ((with_reducible refine T_calm ?_ ?_); rfl)
      | (with_reducible refine T_draw ?_)
      | (with_reducible refine T_skip ?_)
      | (with_reducible refine T_exit ?_)
      | (with_reducible refine T_block ?_)
      | (with_reducible (show T _ _ _ _ _ (.cond _ _ _) _ _); first | (refine T_cond_t rfl ?_) | (refine T_cond_f rfl ?_) | (refine T_cond rfl (fun hc => ?_) (fun hc => ?_) <;> have hd := hc <;> (try simp (disch := omega) only [wrapI] at hd) <;> have hs := hd <;> (try simp only [Bool.not_eq_true', Bool.not_eq_false', Bool.and_eq_true, Bool.and_eq_false_iff, Bool.or_eq_true, Bool.or_eq_false_iff, decide_eq_true_eq, decide_eq_false_iff_not, beq_iff_eq, bne_iff_ne, beq_eq_false_iff_ne, bne_eq_false_iff_eq, Bool.not_true, Bool.not_false, gt_iff_lt, ge_iff_le, Int.not_lt, Int.not_le, ne_eq, Decidable.not_not] at hd) <;> (try simp at hs)))
      | (with_reducible (show wdW _ _ _ (_ :: _) _ _ _); refine wdW_cons rfl ?_)
      | (with_reducible (show wcall _ false (.lit (.func (.func 70) _ _)) _ _ _ _); refine wcall_fn (h70) rfl (by simp [plainL, plain]) ?_)
      | (with_reducible (show wcallX _ false (.lit (.func (.func 70) _ _)) _ _ _ _); refine wcallX_fn (h70) rfl (by simp [plainL, plain, plainR, Int.toNat_natCast, e0]) ?_)
      | (with_reducible refine wguard_split (fun hc => ?_) (fun hc => ?_) <;> have hd := hc <;> (try simp (disch := omega) only [wrapI] at hd) <;> have hs := hd <;> (try simp only [Bool.not_eq_true', Bool.not_eq_false', Bool.and_eq_true, Bool.and_eq_false_iff, Bool.or_eq_true, Bool.or_eq_false_iff, decide_eq_true_eq, decide_eq_false_iff_not, beq_iff_eq, bne_iff_ne, beq_eq_false_iff_ne, bne_eq_false_iff_eq, Bool.not_true, Bool.not_false, gt_iff_lt, ge_iff_le, Int.not_lt, Int.not_le, ne_eq, Decidable.not_not] at hd) <;> (try simp at hs))
      | (with_reducible refine wguardX_split (fun hc => ?_) (fun hc => ?_) <;> have hd := hc <;> (try simp (disch := omega) only [wrapI] at hd) <;> have hs := hd <;> (try simp only [Bool.not_eq_true', Bool.not_eq_false', Bool.and_eq_true, Bool.and_eq_false_iff, Bool.or_eq_true, Bool.or_eq_false_iff, decide_eq_true_eq, decide_eq_false_iff_not, beq_iff_eq, bne_iff_ne, beq_eq_false_iff_ne, bne_eq_false_iff_eq, Bool.not_true, Bool.not_false, gt_iff_lt, ge_iff_le, Int.not_lt, Int.not_le, ne_eq, Decidable.not_not] at hd) <;> (try simp at hs))
      | (with_reducible refine T_ret ?_)
      | (with_reducible refine wif_intro ?_ (fun hc => ?_))
      | (with_reducible refine And.intro ?_ ?_)
      | (with_reducible intro hc)
      | (simp (maxSteps := 4000000) only [wops_nil, wops_cons, wstep_none, wrun_call, wrun_mv, wrun_bin, wrun_not, wrun_ext, wrun_build, wrun_load, wrun_store, wrun_iaddrS, wrun_iaddrA, wrun_alloc, wrun_box, wop, aop, ev, look, put_some, put_none, writes, ores_some, ores_ite_none, binV, thenK, boolV, value, cut, hget, fillA, putCells, AV.parts, isOne, toLits, mkAgg, ofValue_int, List.map_cons, List.map_nil, List.length_cons, List.length_nil, List.getElem?_cons_zero, List.getElem?_cons_succ, List.set_cons_zero, List.set_cons_succ, List.take_succ_cons, List.take_zero, List.take_nil, List.drop_succ_cons, List.drop_zero, List.drop_nil, List.cons_append, List.nil_append, List.append_nil, List.replicate_zero, List.replicate_succ, List.getD_cons_zero, List.zipIdx_cons, List.zipIdx_nil, List.all_cons, List.all_nil, Option.getD_some, Option.map_some, if_true, if_false, Nat.reduceEqDiff, Nat.reduceAdd, Nat.reduceLT, Nat.add_zero, Nat.zero_add, Nat.mul_one, Nat.le_refl, Nat.zero_ne_one, reduceCtorEq, Bool.not_true, Bool.and_true, Bool.false_eq_true, eq_self, true_and, and_true, and_self, freeze, lidsL, lids, List.flatMap_cons, List.flatMap_nil, List.all_cons, ren, renL, shiftρ, Int.toNat_natCast, *])
      | (simp (disch := omega) only [getD_ints, wrapI])
      | (with_reducible (show wcall _ false (.lit (.func (.func 70) _ _)) _ _ _ _); refine wcall_fn (h70) ?_ ?_ ?_; (next => simp [rfyL, rfy, hget, ints, take_rfy, Int.toNat_natCast, e0]); (next => simp [plainL, plain, plainR, Int.toNat_natCast, e0]))
      | (with_reducible (show wcallX _ false (.lit (.func (.func 70) _ _)) _ _ _ _); refine wcallX_fn (h70) ?_ ?_ ?_; (next => simp [rfyL, rfy, hget, ints, take_rfy, Int.toNat_natCast, e0]); (next => simp [plainL, plain, plainR, Int.toNat_natCast, e0]))
      | omega)
    exact leave_of (.inr rfl) [rgA 0 0, i64 25] (res54 rfl rfl (hset _)) ⟨rfl, rfl⟩
end Go.Abs
