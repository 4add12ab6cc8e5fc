import Derived.Test.YtodheeifecoebaaK121
set_option linter.all false
set_option linter.unusedVariables false
set_option linter.unusedSimpArgs false
set_option linter.unusedSectionVars false
namespace Go.Abs
open Go.Proofs
/-! Gain -/
set_option maxHeartbeats 8000000 in
theorem k73e {zi : Int} {nil : Bool} {l : List Rd} (r : Rd) (hl : l.length < 1000000) (h : checkR zi l ≠ 0) : Fn Try.prog 73 [i64 zi, rdgs nil l, rdV r] (.tup [i64 0, i64 (checkR zi l)]) [] := by
  refine fn_of e73 ?_
  have h132 := k132e (nil := nil) hl h
  generalize checkR zi l = d at *
  have hd1 : (d != 0) = true := by simp only [bne_iff_ne]; exact h
  unfold c73
  repeat' (first
    | with_reducible first
      | refine T_seq ?_
      | refine T_reg ?_
      | refine T_skip ?_
      | refine T_exit ?_
      | refine T_block ?_
      | refine T_cond_t rfl ?_
      | refine T_cond_f rfl ?_
      | (show wcall _ false (.lit (.func (.func 132) _ _)) _ _ _ _; refine wcall_fn (h132) rfl (by simp [plainL, plain]) ?_)
      | ((first | refine T_cond rfl (fun hc => ?_) (fun hc => ?_) | refine wguard_split (fun hc => ?_) (fun hc => ?_)) <;> have hd := hc <;> (try simp (disch := omega) only [wrapI] at hd) <;> have hs := hd <;> (try simp only [Bool.not_eq_true', Bool.not_eq_false', Bool.and_eq_true, Bool.and_eq_false_iff, Bool.or_eq_true, Bool.or_eq_false_iff, decide_eq_true_eq, decide_eq_false_iff_not, beq_iff_eq, bne_iff_ne, beq_eq_false_iff_ne, bne_eq_false_iff_eq, Bool.not_true, Bool.not_false, gt_iff_lt, ge_iff_le, Int.not_lt, Int.not_le, ne_eq, Decidable.not_not] at hd) <;> (try simp at hs))
      | refine T_ret ?_
      | refine leave_of (.inr rfl) _ rfl ?_
      | refine leave_of (.inl rfl) _ rfl ?_
      | refine leaveA_of (.inr rfl) _ rfl ?_
      | refine leaveA_of (.inl rfl) _ rfl ?_
      | refine wif_intro ?_ (fun hc => ?_)
      | refine And.intro ?_ ?_
      | intro hc
    | simp (maxSteps := 4000000) only [wops_nil, wops_cons, wstep_none, wrun_call, wrun_mv, wrun_bin, wrun_ext, wrun_box, get_mk, wop, aop, ev, look, put_some, writes, ores_some, binV, thenK, AV.parts, isOne, tupOf, ofValue_int, List.map_cons, List.map_nil, List.length_cons, List.length_nil, List.getElem?_cons_zero, List.getElem?_cons_succ, List.set_cons_zero, List.nil_append, List.append_nil, List.replicate_zero, List.replicate_succ, List.zipIdx_cons, List.zipIdx_nil, List.all_cons, List.all_nil, Option.map_some, if_true, if_false, Nat.reduceEqDiff, Nat.reduceAdd, Nat.add_zero, Nat.zero_add, Nat.zero_ne_one, reduceCtorEq, Bool.and_true, eq_self, true_and, and_self, freeze, lidsL, lids, List.flatMap_cons, List.flatMap_nil, List.all_cons, ren, renL, renR, *]
    | simp (disch := omega) only [getD_ints, wrapI]
    | (with_reducible show wcall _ false (.lit (.func (.func 132) _ _)) _ _ _ _; refine wcall_fn (h132) ?_ ?_ ?_; (next => simp [rfyL, rfy, hget, ints, take_rfy]); (next => simp [plainL, plain, plainR]))
    | omega)
set_option maxHeartbeats 8000000 in
theorem k73c {z : Nat} {nil : Bool} {l : List Rd} {R : AV} (r : Rd) (e : Int) (he : e ≠ 0) (h132 : Fn Try.prog 132 [i64 z, rdgs nil l] (.tup [R, i64 e]) []) (hR : R = .sl true 0 []) : Fn Try.prog 73 [i64 z, rdgs nil l, rdV r] (.tup [i64 0, i64 e]) [] := by
  refine fn_of e73 ?_
  subst hR
  have hd1 : (e != 0) = true := by simp only [bne_iff_ne]; exact he
  unfold c73
  repeat' (first
    | with_reducible first
      | refine T_seq ?_
      | refine T_reg ?_
      | refine T_skip ?_
      | refine T_exit ?_
      | refine T_block ?_
      | refine T_cond_t rfl ?_
      | refine T_cond_f rfl ?_
      | (show wcall _ false (.lit (.func (.func 132) _ _)) _ _ _ _; refine wcall_fn (h132) rfl (by simp [plainL, plain]) ?_)
      | ((first | refine T_cond rfl (fun hc => ?_) (fun hc => ?_) | refine wguard_split (fun hc => ?_) (fun hc => ?_)) <;> have hd := hc <;> (try simp (disch := omega) only [wrapI] at hd) <;> have hs := hd <;> (try simp only [Bool.not_eq_true', Bool.not_eq_false', Bool.and_eq_true, Bool.and_eq_false_iff, Bool.or_eq_true, Bool.or_eq_false_iff, decide_eq_true_eq, decide_eq_false_iff_not, beq_iff_eq, bne_iff_ne, beq_eq_false_iff_ne, bne_eq_false_iff_eq, Bool.not_true, Bool.not_false, gt_iff_lt, ge_iff_le, Int.not_lt, Int.not_le, ne_eq, Decidable.not_not] at hd) <;> (try simp at hs))
      | refine T_ret ?_
      | refine leave_of (.inr rfl) _ rfl ?_
      | refine leave_of (.inl rfl) _ rfl ?_
      | refine leaveA_of (.inr rfl) _ rfl ?_
      | refine leaveA_of (.inl rfl) _ rfl ?_
      | refine wif_intro ?_ (fun hc => ?_)
      | refine And.intro ?_ ?_
      | intro hc
    | simp (maxSteps := 4000000) only [wops_nil, wops_cons, wstep_none, wrun_call, wrun_mv, wrun_bin, wrun_ext, wrun_box, get_mk, wop, aop, ev, look, put_some, writes, ores_some, binV, thenK, AV.parts, isOne, tupOf, ofValue_int, List.map_cons, List.map_nil, List.length_cons, List.length_nil, List.getElem?_cons_zero, List.getElem?_cons_succ, List.set_cons_zero, List.nil_append, List.append_nil, List.replicate_zero, List.replicate_succ, List.zipIdx_cons, List.zipIdx_nil, List.all_cons, List.all_nil, Option.map_some, if_true, if_false, Nat.reduceEqDiff, Nat.reduceAdd, Nat.add_zero, Nat.zero_add, Nat.zero_ne_one, reduceCtorEq, Bool.and_true, eq_self, true_and, and_self, freeze, lidsL, lids, List.flatMap_cons, List.flatMap_nil, List.all_cons, ren, renL, renR, *]
    | simp (disch := omega) only [getD_ints, wrapI]
    | (with_reducible show wcall _ false (.lit (.func (.func 132) _ _)) _ _ _ _; refine wcall_fn (h132) ?_ ?_ ?_; (next => simp [rfyL, rfy, hget, ints, take_rfy]); (next => simp [plainL, plain, plainR]))
    | omega)
set_option maxHeartbeats 8000000 in
theorem k73m {z : Nat} {l : List Rd} {M : List (List Int)} (r : Rd) (e : Int) (he : e ≠ 0) (h132 : Fn Try.prog 132 [i64 z, rdgs false l] (.tup [.lsl 0 0 z, i64 0]) (tabF M z)) (h134 : Fn Try.prog 134 [i64 z, rdgs false l, rdV r] (.tup [.sl true 0 [], i64 e]) []) : Fn Try.prog 73 [i64 z, rdgs false l, rdV r] (.tup [i64 0, i64 e]) [] := by
  refine fn_of e73 ?_
  have hd1 : (e != 0) = true := by simp only [bne_iff_ne]; exact he
  unfold c73
  repeat' (first
    | with_reducible first
      | refine T_seq ?_
      | refine T_reg ?_
      | refine T_skip ?_
      | refine T_exit ?_
      | refine T_block ?_
      | refine T_cond_t rfl ?_
      | refine T_cond_f rfl ?_
      | (show wcall _ false (.lit (.func (.func 132) _ _)) _ _ _ _; refine wcall_fn (h132) rfl (by simp [plainL, plain]) ?_)
      | (show wcall _ false (.lit (.func (.func 134) _ _)) _ _ _ _; refine wcall_fn (h134) rfl (by simp [plainL, plain]) ?_)
      | ((first | refine T_cond rfl (fun hc => ?_) (fun hc => ?_) | refine wguard_split (fun hc => ?_) (fun hc => ?_)) <;> have hd := hc <;> (try simp (disch := omega) only [wrapI] at hd) <;> have hs := hd <;> (try simp only [Bool.not_eq_true', Bool.not_eq_false', Bool.and_eq_true, Bool.and_eq_false_iff, Bool.or_eq_true, Bool.or_eq_false_iff, decide_eq_true_eq, decide_eq_false_iff_not, beq_iff_eq, bne_iff_ne, beq_eq_false_iff_ne, bne_eq_false_iff_eq, Bool.not_true, Bool.not_false, gt_iff_lt, ge_iff_le, Int.not_lt, Int.not_le, ne_eq, Decidable.not_not] at hd) <;> (try simp at hs))
      | refine T_ret ?_
      | refine leave_of (.inr rfl) _ rfl ?_
      | refine leave_of (.inl rfl) _ rfl ?_
      | refine leaveA_of (.inr rfl) _ rfl ?_
      | refine leaveA_of (.inl rfl) _ rfl ?_
      | refine wif_intro ?_ (fun hc => ?_)
      | refine And.intro ?_ ?_
      | intro hc
    | simp (maxSteps := 4000000) only [wops_nil, wops_cons, wstep_none, wrun_call, wrun_mv, wrun_bin, wrun_ext, wrun_load, wrun_box, get_mk, wop, aop, ev, look, put_some, writes, ores_some, binV, thenK, value, cut, hget, AV.parts, isOne, toLits, mkAgg, tupOf, ofValue_int, List.map_cons, List.map_nil, List.length_cons, List.length_nil, List.getElem?_cons_zero, List.getElem?_cons_succ, List.set_cons_zero, List.take_succ_cons, List.take_nil, List.drop_zero, List.cons_append, List.nil_append, List.append_nil, List.replicate_zero, List.replicate_succ, List.getD_cons_zero, List.zipIdx_cons, List.zipIdx_nil, List.all_cons, List.all_nil, List.length_map, Option.getD_some, Option.map_some, if_true, if_false, Nat.reduceEqDiff, Nat.reduceAdd, Nat.add_zero, Nat.zero_add, Nat.zero_ne_one, reduceCtorEq, Bool.and_true, eq_self, true_and, and_self, freeze, lidsL, lids, List.flatMap_cons, List.flatMap_nil, List.all_cons, ren, renL, renR, shiftρ, *]
    | simp (disch := omega) only [getD_ints, wrapI]
    | (with_reducible show wcall _ false (.lit (.func (.func 132) _ _)) _ _ _ _; refine wcall_fn (h132) ?_ ?_ ?_; (next => simp [rfyL, rfy, hget, ints, take_rfy]); (next => simp [plainL, plain, plainR]))
    | (with_reducible show wcall _ false (.lit (.func (.func 134) _ _)) _ _ _ _; refine wcall_fn (h134) ?_ ?_ ?_; (next => simp [rfyL, rfy, hget, ints, take_rfy]); (next => simp [plainL, plain, plainR]))
    | omega)
theorem to_at2 {z : Nat} {M : List (List Int)} (hM : M.length = z) (X : List Blk) {o : Nat} (ho : o = X.length) : IsTo o z M (X ++ (tabB M z).map (renB (shiftρ o))) := by subst ho; exact tab_at hM X
abbrev SL73 (z o : Nat) (g : Int) (k : Nat) : List (Nat × AV) := [(8, .lsl 1 0 z), (11, .lsl o 0 z), (12, i64 g), (36, i64 z), (37, i64 k)]
set_option maxHeartbeats 8000000 in
theorem k73l {z o : Nat} {M M' : List (List Int)} (hz : 1 ≤ z ∧ z ≤ 40) (hM : Sq z M) (hM' : Sq z M') (hb : ∀ i j, i < z → j < z → -41000000 ≤ mget M i j ∧ mget M i j ≤ 41000000) (hb' : ∀ i j, i < z → j < z → mget M' i j ≤ mget M i j ∧ -41000000 ≤ mget M' i j ∧ mget M' i j ≤ 41000000) (K : Exit → St → Prop) (k : Nat) (hk : k < z) (H : List Blk) (hH : IsTo 1 z M H ∧ IsTo o z M' H) :
    T none Try.prog muts 53 0 c73l0 ⟨SL73 z o (gsum M M' k) k, H⟩ (thenK (fun s' => k < z ∧ (IsTo 1 z M s'.heap ∧ IsTo o z M' s'.heap) ∧ (s'.only [8, 11, 12, 36, 37]).slots = SL73 z o (gsum M M' (k + 1)) (k + 1)) K) := by
  have h98a : Fn Try.prog 98 [tblV M, i64 0, i64 k] (rgA (-(mget M k 0)) (mget M 0 k)) [] := k98 (M := M) (i := 0) (j := k) hz hM (by omega) hk (by have := hb k 0 hk (by omega); omega)
  have h98b : Fn Try.prog 98 [tblV M', i64 0, i64 k] (rgA (-(mget M' k 0)) (mget M' 0 k)) [] := k98 (M := M') (i := 0) (j := k) hz hM' (by omega) hk (by have := hb' k 0 hk (by omega); omega)
  have b1 := hb 0 k (by omega) hk
  have b2 := hb k 0 hk (by omega)
  have b3 := hb' 0 k (by omega) hk
  have b4 := hb' k 0 hk (by omega)
  have h133a := k133 (-(mget M k 0)) (mget M 0 k) (by omega)
  have h133b := k133 (-(mget M' k 0)) (mget M' 0 k) (by omega)
  have hg := gsum_r hz.1 hb hb' k (by omega)
  have eg : gsum M M' (k + 1) = gsum M M' k + ((mget M 0 k - -(mget M k 0)) - (mget M' 0 k - -(mget M' k 0))) := rfl
  rw [eg]
  generalize gsum M M' k = g at *
  have ew1 : IntKind.i64.wrap ((mget M 0 k - -(mget M k 0)) - (mget M' 0 k - -(mget M' k 0))) = (mget M 0 k - -(mget M k 0)) - (mget M' 0 k - -(mget M' k 0)) := wrapI (by omega) (by omega)
  have ew2 : IntKind.i64.wrap (g + ((mget M 0 k - -(mget M k 0)) - (mget M' 0 k - -(mget M' k 0)))) = g + ((mget M 0 k - -(mget M k 0)) - (mget M' 0 k - -(mget M' k 0))) := wrapI (by omega) (by omega)
  have hpl1 : plainL [tblV M, i64 0, i64 k] = true := by simp only [plainL, plain_tbl]; rfl
  have hpl2 : plainL [tblV M', i64 0, i64 k] = true := by simp only [plainL, plain_tbl]; rfl
  have hH := And.intro hH.1 (And.intro hH.2 trivial)
  replace hM := And.intro hM trivial
  replace hM' := And.intro hM' trivial
  clear hb hb' eg
  unfold c73l0
  repeat' (first
    | with_reducible first
      | refine T_seq ?_
      | refine T_reg ?_
      | refine T_skip ?_
      | refine T_exit ?_
      | refine T_block ?_
      | refine T_cond_t rfl ?_
      | refine T_cond_f rfl ?_
      | ((first | refine T_cond rfl (fun hc => ?_) (fun hc => ?_) | refine wguard_split (fun hc => ?_) (fun hc => ?_)) <;> have hd := hc <;> (try simp (disch := omega) only [wrapI] at hd) <;> have hs := hd <;> (try simp only [decide_eq_true_eq, decide_eq_false_iff_not, Int.not_lt] at hd) <;> (try simp at hs))
      | refine T_ret ?_
      | refine leave_of (.inr rfl) _ rfl ?_
      | refine leave_of (.inl rfl) _ rfl ?_
      | refine leaveA_of (.inr rfl) _ rfl ?_
      | refine leaveA_of (.inl rfl) _ rfl ?_
      | refine wif_intro ?_ (fun hc => ?_)
      | refine And.intro ?_ ?_
      | intro hc
    | simp (maxSteps := 4000000) only [wops_nil, wops_cons, wstep_none, wrun_call, wrun_mv, wrun_bin, wop, aop, ev, look, put_some, writes, ores_some, binV, thenK, List.map_cons, List.map_nil, List.append_nil, List.replicate_zero, Option.map_some, if_true, if_false, Nat.reduceEqDiff, reduceCtorEq, eq_self, true_and, decide_true, *]
    | simp (disch := omega) only [getD_ints, wrapI]
    | omega)
  refine wcall_fn h98a (to_re hH.1 hM.1 0 k) hpl1 ?_
  have hF : IsTo 1 z M (freeze H (lidsL (hget H) [.lsl 1 0 z, i64 0, i64 k])) ∧ IsTo o z M' (freeze H (lidsL (hget H) [.lsl 1 0 z, i64 0, i64 k])) ∧ True := ⟨hH.1.freeze _, hH.2.1.freeze _, trivial⟩
  generalize freeze H (lidsL (hget H) [.lsl 1 0 z, i64 0, i64 k]) = F at *
  clear hH
  repeat' (first
    | with_reducible first
      | refine T_seq ?_
      | refine T_reg ?_
      | refine T_skip ?_
      | refine T_exit ?_
      | refine T_block ?_
      | refine T_cond_t rfl ?_
      | refine T_cond_f rfl ?_
      | (show wcall _ false (.lit (.func (.func 133) _ _)) _ _ _ _; refine wcall_fn (h133a) rfl (by simp [plainL, plain]) ?_)
      | ((first | refine T_cond rfl (fun hc => ?_) (fun hc => ?_) | refine wguard_split (fun hc => ?_) (fun hc => ?_)) <;> have hd := hc <;> (try simp (disch := omega) only [wrapI] at hd) <;> have hs := hd <;> (try simp only [Bool.not_eq_true', Bool.not_eq_false', Bool.and_eq_true, Bool.and_eq_false_iff, Bool.or_eq_true, Bool.or_eq_false_iff, decide_eq_true_eq, decide_eq_false_iff_not, beq_iff_eq, bne_iff_ne, beq_eq_false_iff_ne, bne_eq_false_iff_eq, Bool.not_true, Bool.not_false, gt_iff_lt, ge_iff_le, Int.not_lt, Int.not_le, ne_eq, Decidable.not_not] at hd) <;> (try simp at hs))
      | refine T_ret ?_
      | refine leave_of (.inr rfl) _ rfl ?_
      | refine leave_of (.inl rfl) _ rfl ?_
      | refine leaveA_of (.inr rfl) _ rfl ?_
      | refine leaveA_of (.inl rfl) _ rfl ?_
      | refine wif_intro ?_ (fun hc => ?_)
      | refine And.intro ?_ ?_
      | intro hc
    | simp (maxSteps := 4000000) only [wops_cons, wstep_none, wrun_call, wrun_mv, wop, aop, ev, look, put_some, writes, ores_some, List.map_cons, List.map_nil, List.append_nil, if_true, if_false, Nat.reduceEqDiff, eq_self, freeze, lidsL, lids, List.flatMap_cons, List.flatMap_nil, ren, *]
    | simp (disch := omega) only [getD_ints, wrapI]
    | (with_reducible show wcall _ false (.lit (.func (.func 133) _ _)) _ _ _ _; refine wcall_fn (h133a) ?_ ?_ ?_; (next => simp [rfyL, rfy, hget, ints, take_rfy]); (next => simp [plainL, plain, plainR]))
    | omega)
  refine wcall_fn h98b (to_re hF.2.1 hM'.1 0 k) hpl2 ?_
  have hG : IsTo 1 z M (freeze F (lidsL (hget F) [.lsl o 0 z, i64 0, i64 k])) ∧ IsTo o z M' (freeze F (lidsL (hget F) [.lsl o 0 z, i64 0, i64 k])) := ⟨hF.1.freeze _, hF.2.1.freeze _⟩
  generalize freeze F (lidsL (hget F) [.lsl o 0 z, i64 0, i64 k]) = G at *
  clear hF
  replace hG := And.intro hG trivial
  repeat' (first
    | with_reducible first
      | refine T_seq ?_
      | refine T_reg ?_
      | refine T_skip ?_
      | refine T_exit ?_
      | refine T_block ?_
      | refine T_cond_t rfl ?_
      | refine T_cond_f rfl ?_
      | (show wcall _ false (.lit (.func (.func 133) _ _)) _ _ _ _; refine wcall_fn (h133b) rfl (by simp [plainL, plain]) ?_)
      | ((first | refine T_cond rfl (fun hc => ?_) (fun hc => ?_) | refine wguard_split (fun hc => ?_) (fun hc => ?_)) <;> have hd := hc <;> (try simp (disch := omega) only [wrapI] at hd) <;> have hs := hd <;> (try simp only [Bool.not_eq_true', Bool.not_eq_false', Bool.and_eq_true, Bool.and_eq_false_iff, Bool.or_eq_true, Bool.or_eq_false_iff, decide_eq_true_eq, decide_eq_false_iff_not, beq_iff_eq, bne_iff_ne, beq_eq_false_iff_ne, bne_eq_false_iff_eq, Bool.not_true, Bool.not_false, gt_iff_lt, ge_iff_le, Int.not_lt, Int.not_le, ne_eq, Decidable.not_not] at hd) <;> (try simp at hs))
      | refine T_ret ?_
      | refine leave_of (.inr rfl) _ rfl ?_
      | refine leave_of (.inl rfl) _ rfl ?_
      | refine leaveA_of (.inr rfl) _ rfl ?_
      | refine leaveA_of (.inl rfl) _ rfl ?_
      | refine wif_intro ?_ (fun hc => ?_)
      | refine And.intro ?_ ?_
      | intro hc
    | simp (maxSteps := 4000000) only [wops_nil, wops_cons, wstep_none, wrun_call, wrun_mv, wrun_bin, wop, aop, ev, look, put_some, writes, ores_some, binV, thenK, blockK, List.map_cons, List.map_nil, List.append_nil, List.replicate_zero, Option.map_some, if_true, if_false, Nat.reduceEqDiff, reduceCtorEq, eq_self, true_and, and_self, freeze, lidsL, lids, List.flatMap_cons, List.flatMap_nil, ren, *]
    | simp (disch := omega) only [wrapI]
    | (with_reducible show wcall _ false (.lit (.func (.func 133) _ _)) _ _ _ _; refine wcall_fn (h133b) ?_ ?_ ?_; (next => simp [rfyL, rfy, hget, ints, take_rfy]); (next => simp [plainL, plain, plainR]))
    | omega)
  all_goals first | exact hG.1.1 | exact hG.1.2 | (simp [St.only, get_mk, look]; done)
end Go.Abs
