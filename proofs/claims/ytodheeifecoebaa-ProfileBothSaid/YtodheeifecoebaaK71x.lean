import Derived.Test.YtodheeifecoebaaK70
set_option linter.all false
set_option linter.unusedVariables false
set_option linter.unusedSimpArgs false
set_option linter.unusedSectionVars false
namespace Go.Abs
open Go.Proofs
set_option maxHeartbeats 8000000 in
theorem k31c {nil : Bool} {l : List Rd} {z : Nat} (h : checkR z l = 0) (hcyc : ∀ r, r ≤ z → 0 ≤ (rnds (arcsL l l.length) z (r + 1)).at_) : ∃ (p : Nat) (xs : List Int), xs.length = p ∧ Fn Try.prog 31 [i64 z, rdgs nil l] (.tup [.sl true 0 [], .lsl 0 0 p, i64 13]) [.cells true false 1 (xs.map fun x => [i64 x])] := by
  obtain ⟨hz, hl, hrd⟩ := checkR_ok h
  obtain ⟨hA, hN, hok⟩ := arcs_ok hrd
  have hn : (arcsL l l.length).length ≤ 200 := by have := arcsL_len l l.length; omega
  have hne : arcsL l l.length ≠ [] := fun e => by
    have := hcyc 0 (by omega)
    rw [e] at this
    exact absurd this (by show ¬ (0 : Int) ≤ -1; omega)
  obtain ⟨p, hp1, hp2, hp3, hp4, _⟩ := circle hA hN hn (by omega) (hcyc z (Nat.le_refl _))
  have h95 := k95 (nil := nil) (l := l) (A := arcsL l l.length) (z := z) hl hok (by omega) rfl hA hne (fun r hr hneg => by have := hcyc r hr; omega) (fun _ => ⟨p, hp1, hp2, hp3, hp4, rfl, rfl⟩)
  have hxl : (sgs (rnds (arcsL l l.length) z (z + 1)).by_ (bk (rnds (arcsL l l.length) z (z + 1)).by_ (rnds (arcsL l l.length) z (z + 1)).at_ z) p).reverse.length = p := by rw [List.length_reverse, sgs_len]
  generalize (sgs (rnds (arcsL l l.length) z (z + 1)).by_ (bk (rnds (arcsL l l.length) z (z + 1)).by_ (rnds (arcsL l l.length) z (z + 1)).at_ z) p).reverse = xs at *
  refine ⟨p, xs, hxl, ?_⟩
  have h89 := k89 z nil l (by omega)
  rw [h] at h89
  refine fn_of e31 ?_
  unfold c31
  clear hcyc hp3 hp4 hA hN hok hrd hne
  repeat' (first
    | (with_reducible refine T_seq ?_)
    | (with_reducible refine T_reg ?_)
    | ((with_reducible refine T_calm ?_ ?_); rfl)
    | (with_reducible refine T_draw ?_)
    | (with_reducible refine T_skip ?_)
    | (with_reducible refine T_exit ?_)
    | (with_reducible refine T_block ?_)
    | (with_reducible (show T _ _ _ _ _ (.cond _ _ _) _ _); first | (refine T_cond_t rfl ?_) | (refine T_cond_f rfl ?_) | (refine T_cond rfl (fun hc => ?_) (fun hc => ?_) <;> have hd := hc <;> (try simp (disch := omega) only [wrapI] at hd) <;> have hs := hd <;> (try simp only [Bool.not_eq_true', Bool.not_eq_false', Bool.and_eq_true, Bool.and_eq_false_iff, Bool.or_eq_true, Bool.or_eq_false_iff, decide_eq_true_eq, decide_eq_false_iff_not, beq_iff_eq, bne_iff_ne, beq_eq_false_iff_ne, bne_eq_false_iff_eq, Bool.not_true, Bool.not_false, gt_iff_lt, ge_iff_le, Int.not_lt, Int.not_le, ne_eq, Decidable.not_not] at hd) <;> (try simp at hs)))
    | (with_reducible (show wdW _ _ _ (_ :: _) _ _ _); refine wdW_cons rfl ?_)
    | (with_reducible (show wcall _ false (.lit (.func (.func 89) _ _)) _ _ _ _); refine wcall_fn (h89) rfl (by simp [plainL, plain]) ?_)
    | (with_reducible (show wcallX _ false (.lit (.func (.func 89) _ _)) _ _ _ _); refine wcallX_fn (h89) rfl (by simp [plainL, plain, plainR, renR_ints]) ?_)
    | (with_reducible (show wcall _ false (.lit (.func (.func 95) _ _)) _ _ _ _); refine wcall_fn (h95) rfl (by simp [plainL, plain]) ?_)
    | (with_reducible (show wcallX _ false (.lit (.func (.func 95) _ _)) _ _ _ _); refine wcallX_fn (h95) rfl (by simp [plainL, plain, plainR, renR_ints]) ?_)
    | (with_reducible refine wguard_split (fun hc => ?_) (fun hc => ?_) <;> have hd := hc <;> (try simp (disch := omega) only [wrapI] at hd) <;> have hs := hd <;> (try simp only [Bool.not_eq_true', Bool.not_eq_false', Bool.and_eq_true, Bool.and_eq_false_iff, Bool.or_eq_true, Bool.or_eq_false_iff, decide_eq_true_eq, decide_eq_false_iff_not, beq_iff_eq, bne_iff_ne, beq_eq_false_iff_ne, bne_eq_false_iff_eq, Bool.not_true, Bool.not_false, gt_iff_lt, ge_iff_le, Int.not_lt, Int.not_le, ne_eq, Decidable.not_not] at hd) <;> (try simp at hs))
    | (with_reducible refine wguardX_split (fun hc => ?_) (fun hc => ?_) <;> have hd := hc <;> (try simp (disch := omega) only [wrapI] at hd) <;> have hs := hd <;> (try simp only [Bool.not_eq_true', Bool.not_eq_false', Bool.and_eq_true, Bool.and_eq_false_iff, Bool.or_eq_true, Bool.or_eq_false_iff, decide_eq_true_eq, decide_eq_false_iff_not, beq_iff_eq, bne_iff_ne, beq_eq_false_iff_ne, bne_eq_false_iff_eq, Bool.not_true, Bool.not_false, gt_iff_lt, ge_iff_le, Int.not_lt, Int.not_le, ne_eq, Decidable.not_not] at hd) <;> (try simp at hs))
    | (with_reducible refine T_ret ?_)
    | (with_reducible (show leave _ _ _ _ _); first | (refine leave_ids (.inr rfl) _ [0] rfl (by simp) (by simp) ?_) | (refine leave_ids (.inl rfl) _ [0] rfl (by simp) (by simp) ?_))
    | (with_reducible (show leaveA _ _ _ _); first | (refine leaveA_of (.inr rfl) _ rfl ?_) | (refine leaveA_of (.inl rfl) _ rfl ?_))
    | (with_reducible refine wif_intro ?_ (fun hc => ?_))
    | (with_reducible refine And.intro ?_ ?_)
    | (with_reducible intro hc)
    | (simp (maxSteps := 4000000) only [wops_nil, wops_cons, wstep_none, wrun_call, wrun_mv, wrun_bin, wrun_eqNil, get_mk, wop, aop, ev, look, put_some, writes, ores_some, binV, thenK, boolV, hget, tupOf, List.map_cons, List.map_nil, List.length_cons, List.length_nil, List.getElem?_cons_zero, List.nil_append, List.append_nil, List.replicate_zero, List.zipIdx_cons, List.zipIdx_nil, Option.getD_some, Option.map_some, Option.map_none, if_true, if_false, Nat.reduceEqDiff, Nat.reduceAdd, Nat.add_zero, Nat.zero_add, Nat.zero_ne_one, reduceCtorEq, Bool.not_false, eq_self, freeze, lidsL, lids, List.flatMap_cons, List.flatMap_nil, ren, renL, renR, renB, renO, keepρ, shiftρ, pos, Nat.not_lt_zero, renR_ints, renR_ints, *])
    | (simp (disch := omega) only [getD_ints, wrapI])
    | (with_reducible (show wcall _ false (.lit (.func (.func 89) _ _)) _ _ _ _); refine wcall_fn (h89) (by simp [rfyL, rfy, hget, ints, take_rfy, renR_ints]) (by simp [plainL, plain, plainR, renR_ints]) ?_)
    | (with_reducible (show wcallX _ false (.lit (.func (.func 89) _ _)) _ _ _ _); refine wcallX_fn (h89) (by simp [rfyL, rfy, hget, ints, take_rfy, renR_ints]) (by simp [plainL, plain, plainR, renR_ints]) ?_)
    | (with_reducible (show wcall _ false (.lit (.func (.func 95) _ _)) _ _ _ _); refine wcall_fn (h95) (by simp [rfyL, rfy, hget, ints, take_rfy, renR_ints]) (by simp [plainL, plain, plainR, renR_ints]) ?_)
    | (with_reducible (show wcallX _ false (.lit (.func (.func 95) _ _)) _ _ _ _); refine wcallX_fn (h95) (by simp [rfyL, rfy, hget, ints, take_rfy, renR_ints]) (by simp [plainL, plain, plainR, renR_ints]) ?_)
    | omega)
def S5 (M : List (List Int)) (nil nh : Bool) (l : List Rd) (ys : List Int) (z k : Nat) : St := ⟨[(0, i64 z), (1, rdgs nil l), (2, ints nh ys), (7, .lsl 0 0 z), (10, sV 1 (lowL M k)), (11, sV 2 (highL M k)), (12, i64 k)], [.cells true false 2 (erows (enc M z))] ++ sB (lowL M k) ++ sB (highL M k)⟩
set_option maxHeartbeats 8000000 in
theorem k5l0 {M : List (List Int)} {nil nh : Bool} {l : List Rd} {ys : List Int} {z : Nat} (hz : z ≤ 40) (K : Exit → St → Prop) (k : Nat) (hk : k < z) :
    T none Try.prog muts 141 0 c5l0 (S5 M nil nh l ys z k) (thenK (fun s' => (k < z ∧ True) ∧ ∃ ids : List Nat, 0 ≤ s'.heap.length ∧ (∀ id ∈ ids, 0 ≤ id ∧ id < s'.heap.length) ∧ ids.Nodup ∧ s'.keep 0 [0, 1, 2, 7, 10, 11, 12] ids = S5 M nil nh l ys z (k + 1)) K) := by
  have hg : (erows (enc M z)).getD k [] = [i64 (-(mget M k 0)), i64 (mget M 0 k)] := by rw [erows_get (by rw [enc_len]; omega), enc_get M z k hk]
  have h1 := lowL_len M k
  have h2 := highL_len M k
  have e1 : lowL M (k + 1) = lowL M k ++ [-(mget M k 0)] := rfl
  have e2 : highL M (k + 1) = highL M k ++ [mget M 0 k] := rfl
  have n1 : lowL M (k + 1) ≠ [] := by rw [e1]; simp
  have n2 : highL M (k + 1) ≠ [] := by rw [e2]; simp
  have hel : (erows (enc M z)).length = z := by rw [erows_len, enc_len]
  unfold c5l0 S5
  simp only [sV, sB, n1, n2, if_false]
  rw [e1, e2]
  clear e1 e2 n1 n2
  by_cases hk0 : k = 0
  · subst hk0
    have m1 : lowL M 0 = [] := rfl
    have m2 : highL M 0 = [] := rfl
    simp only [m1, m2, if_true]
    repeat' (first
      | (with_reducible refine T_seq ?_)
      | (with_reducible refine T_reg ?_)
      | ((with_reducible refine T_calm ?_ ?_); rfl)
      | (with_reducible refine T_draw ?_)
      | (with_reducible refine T_skip ?_)
      | (with_reducible refine T_exit ?_)
      | (with_reducible refine T_block ?_)
      | (with_reducible (show T _ _ _ _ _ (.cond _ _ _) _ _); first | (refine T_cond_t rfl ?_) | (refine T_cond_f rfl ?_) | (refine T_cond rfl (fun hc => ?_) (fun hc => ?_) <;> have hd := hc <;> (try simp (disch := omega) only [wrapI] at hd) <;> have hs := hd <;> (try simp only [decide_eq_true_eq, decide_eq_false_iff_not, Int.not_lt] at hd) <;> (try simp at hs)))
      | (with_reducible (show wdW _ _ _ (_ :: _) _ _ _); refine wdW_cons rfl ?_)
      | (with_reducible refine wguard_split (fun hc => ?_) (fun hc => ?_) <;> have hd := hc <;> (try simp (disch := omega) only [wrapI] at hd) <;> have hs := hd <;> (try simp only [Bool.not_eq_true', Bool.not_eq_false', Bool.and_eq_true, Bool.and_eq_false_iff, Bool.or_eq_true, Bool.or_eq_false_iff, decide_eq_true_eq, decide_eq_false_iff_not, beq_iff_eq, bne_iff_ne, beq_eq_false_iff_ne, bne_eq_false_iff_eq, Bool.not_true, Bool.not_false, gt_iff_lt, ge_iff_le, Int.not_lt, Int.not_le, ne_eq, Decidable.not_not] at hd) <;> (try simp at hs))
      | (with_reducible refine wguardX_split (fun hc => ?_) (fun hc => ?_) <;> have hd := hc <;> (try simp (disch := omega) only [wrapI] at hd) <;> have hs := hd <;> (try simp only [Bool.not_eq_true', Bool.not_eq_false', Bool.and_eq_true, Bool.and_eq_false_iff, Bool.or_eq_true, Bool.or_eq_false_iff, decide_eq_true_eq, decide_eq_false_iff_not, beq_iff_eq, bne_iff_ne, beq_eq_false_iff_ne, bne_eq_false_iff_eq, Bool.not_true, Bool.not_false, gt_iff_lt, ge_iff_le, Int.not_lt, Int.not_le, ne_eq, Decidable.not_not] at hd) <;> (try simp at hs))
      | (with_reducible refine T_ret ?_)
      | (with_reducible (show leave _ _ _ _ _); first | (refine leave_of (.inr rfl) _ rfl ?_) | (refine leave_of (.inl rfl) _ rfl ?_))
      | (with_reducible (show leaveA _ _ _ _); first | (refine leaveA_of (.inr rfl) _ rfl ?_) | (refine leaveA_of (.inl rfl) _ rfl ?_))
      | (with_reducible refine wif_intro ?_ (fun hc => ?_))
      | (with_reducible refine And.intro ?_ ?_)
      | (with_reducible intro hc)
      | (simp (maxSteps := 4000000) only [wops_nil, wops_cons, wstep_none, wrun_mv, wrun_bin, wrun_load, wrun_faddr, wrun_iaddrS, wrun_bslice, wrun_app, wrunX_mv, wrunX_load, wrunX_faddr, wrunX_iaddrS, wrunX_bslice, wrunX_app, wdW_nil, wstepX_none, wop, aop, ev, look, put_some, writes, ores_some, ores_ite_none, binV, thenK, blockK, elsOf, szOk, value, cut, hget, fillA, putCells, AV.parts, isOne, toLits, mkAgg, List.flatten_cons, List.flatten_nil, rowsOf, List.map_cons, List.map_nil, List.length_cons, List.length_nil, List.getElem?_cons_zero, List.getElem?_cons_succ, List.set_cons_zero, List.set_cons_succ, List.take_succ_cons, List.take_zero, List.take_nil, List.drop_succ_cons, List.drop_zero, List.drop_nil, List.cons_append, List.nil_append, List.append_nil, List.replicate_zero, List.replicate_succ, List.all_cons, List.all_nil, List.isEmpty_cons, Option.getD_some, Option.map_some, if_true, if_false, Nat.reduceEqDiff, Nat.reduceAdd, Nat.reduceMul, Nat.reduceLeDiff, Nat.add_zero, Nat.zero_add, Nat.sub_zero, Nat.mul_one, Nat.le_refl, reduceCtorEq, Bool.and_true, Bool.or_true, Bool.false_eq_true, eq_self, true_and, and_true, and_self, decide_true, beq_self_eq_true, List.all_cons, Int.toNat_natCast, *])
      | (simp (disch := omega) only [wrapI])
      | omega)
    refine ⟨[0, 2, 4], by simp, by simp, ?_⟩
    simp [St.keep, get_mk, look, ren, renL, renR, renB, renO, keepρ, pos, hget, renR_ints, renR_erows, renR_rows4]
  · have m1 : lowL M k ≠ [] := fun h => by rw [h] at h1; simp at h1; omega
    have m2 : highL M k ≠ [] := fun h => by rw [h] at h2; simp at h2; omega
    simp only [m1, m2, if_false]
    have t1 : List.take k (List.map (fun x => [i64 x]) (lowL M k)) = List.map (fun x => [i64 x]) (lowL M k) := by rw [List.take_of_length_le (by simp [h1])]
    have t2 : List.take k (List.map (fun x => [i64 x]) (highL M k)) = List.map (fun x => [i64 x]) (highL M k) := by rw [List.take_of_length_le (by simp [h2])]
    repeat' (first
      | (with_reducible refine T_seq ?_)
      | (with_reducible refine T_reg ?_)
      | ((with_reducible refine T_calm ?_ ?_); rfl)
      | (with_reducible refine T_draw ?_)
      | (with_reducible refine T_skip ?_)
      | (with_reducible refine T_exit ?_)
      | (with_reducible refine T_block ?_)
      | (with_reducible (show T _ _ _ _ _ (.cond _ _ _) _ _); first | (refine T_cond_t rfl ?_) | (refine T_cond_f rfl ?_) | (refine T_cond rfl (fun hc => ?_) (fun hc => ?_) <;> have hd := hc <;> (try simp (disch := omega) only [wrapI] at hd) <;> have hs := hd <;> (try simp only [decide_eq_true_eq, decide_eq_false_iff_not, Int.not_lt] at hd) <;> (try simp at hs)))
      | (with_reducible (show wdW _ _ _ (_ :: _) _ _ _); refine wdW_cons rfl ?_)
      | (with_reducible refine wguard_split (fun hc => ?_) (fun hc => ?_) <;> have hd := hc <;> (try simp (disch := omega) only [wrapI] at hd) <;> have hs := hd <;> (try simp only [Bool.not_eq_true', Bool.not_eq_false', Bool.and_eq_true, Bool.and_eq_false_iff, Bool.or_eq_true, Bool.or_eq_false_iff, decide_eq_true_eq, decide_eq_false_iff_not, beq_iff_eq, bne_iff_ne, beq_eq_false_iff_ne, bne_eq_false_iff_eq, Bool.not_true, Bool.not_false, gt_iff_lt, ge_iff_le, Int.not_lt, Int.not_le, ne_eq, Decidable.not_not] at hd) <;> (try simp at hs))
      | (with_reducible refine wguardX_split (fun hc => ?_) (fun hc => ?_) <;> have hd := hc <;> (try simp (disch := omega) only [wrapI] at hd) <;> have hs := hd <;> (try simp only [Bool.not_eq_true', Bool.not_eq_false', Bool.and_eq_true, Bool.and_eq_false_iff, Bool.or_eq_true, Bool.or_eq_false_iff, decide_eq_true_eq, decide_eq_false_iff_not, beq_iff_eq, bne_iff_ne, beq_eq_false_iff_ne, bne_eq_false_iff_eq, Bool.not_true, Bool.not_false, gt_iff_lt, ge_iff_le, Int.not_lt, Int.not_le, ne_eq, Decidable.not_not] at hd) <;> (try simp at hs))
      | (with_reducible refine T_ret ?_)
      | (with_reducible (show leave _ _ _ _ _); first | (refine leave_of (.inr rfl) _ rfl ?_) | (refine leave_of (.inl rfl) _ rfl ?_))
      | (with_reducible (show leaveA _ _ _ _); first | (refine leaveA_of (.inr rfl) _ rfl ?_) | (refine leaveA_of (.inl rfl) _ rfl ?_))
      | (with_reducible refine wif_intro ?_ (fun hc => ?_))
      | (with_reducible refine And.intro ?_ ?_)
      | (with_reducible intro hc)
      | (simp (maxSteps := 4000000) only [wops_nil, wops_cons, wstep_none, wrun_mv, wrun_bin, wrun_load, wrun_faddr, wrun_iaddrS, wrun_bslice, wrun_app, wrunX_mv, wrunX_load, wrunX_faddr, wrunX_iaddrS, wrunX_bslice, wrunX_app, wdW_nil, wstepX_none, wop, aop, ev, look, put_some, writes, ores_some, ores_ite_none, binV, thenK, blockK, elsOf, szOk, value, cut, hget, fillA, putCells, AV.parts, isOne, toLits, mkAgg, List.flatten_cons, List.flatten_nil, rowsOf, List.map_cons, List.map_nil, List.length_cons, List.length_nil, List.getElem?_cons_zero, List.getElem?_cons_succ, List.set_cons_zero, List.set_cons_succ, List.take_succ_cons, List.take_zero, List.take_nil, List.drop_succ_cons, List.drop_zero, List.drop_nil, List.cons_append, List.nil_append, List.append_nil, List.replicate_zero, List.replicate_succ, List.all_cons, List.all_nil, List.isEmpty_cons, List.length_append, List.length_map, Option.getD_some, Option.map_some, if_true, if_false, Nat.reduceEqDiff, Nat.reduceAdd, Nat.reduceLeDiff, Nat.add_zero, Nat.zero_add, Nat.sub_zero, Nat.mul_one, Nat.le_refl, reduceCtorEq, Bool.and_true, Bool.and_false, Bool.or_true, Bool.false_eq_true, eq_self, true_and, and_true, and_self, decide_true, beq_self_eq_true, List.all_cons, Int.toNat_natCast, *])
      | (simp (disch := omega) only [wrapI])
      | omega)
    refine ⟨[0, 4, 6], by simp, by simp, ?_⟩
    simp [St.keep, get_mk, look, ren, renL, renR, renB, renO, keepρ, pos, hget, renR_ints, renR_erows, renR_rows4, renR_app4]
end Go.Abs
