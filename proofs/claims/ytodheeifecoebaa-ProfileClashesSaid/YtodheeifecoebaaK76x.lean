import Derived.Test.YtodheeifecoebaaK70
set_option linter.all false
set_option linter.unusedVariables false
set_option linter.unusedSimpArgs false
set_option linter.unusedSectionVars false
namespace Go.Abs
open Go.Proofs
set_option maxHeartbeats 8000000 in
theorem k31c {nil : Bool} {l : List Rd} {z : Nat} (h : checkR z l = 0) (hcyc : ∀ r, r ≤ z → 0 ≤ (rnds (arcsL l l.length) z (r + 1)).at_) : ∃ (p : Nat) (xs : List Int), xs.length = p ∧ Fn Try.prog 31 [i64 z, rdgs nil l] (.tup [.sl true 0 [], .lsl 0 0 p, i64 13]) [.cells true false 1 (xs.map fun x => [i64 x])] := by
  obtain ⟨hz, hl, hrd⟩ := checkR_ok h
  obtain ⟨hA, hN, hok⟩ := arcs_ok hrd
  have hn : (arcsL l l.length).length ≤ 200 := by have := arcsL_len l l.length; omega
  have hne : arcsL l l.length ≠ [] := fun e => by
    have := hcyc 0 (by omega)
    rw [e] at this
    exact absurd this (by show ¬ (0 : Int) ≤ -1; omega)
  obtain ⟨p, hp1, hp2, hp3, hp4, _⟩ := circle hA hN hn (by omega) (hcyc z (Nat.le_refl _))
  have h95 := k95 (nil := nil) (l := l) (A := arcsL l l.length) (z := z) hl hok (by omega) rfl hA hne (fun r hr hneg => by have := hcyc r hr; omega) (fun _ => ⟨p, hp1, hp2, hp3, hp4, rfl, rfl⟩)
  have hxl : (sgs (rnds (arcsL l l.length) z (z + 1)).by_ (bk (rnds (arcsL l l.length) z (z + 1)).by_ (rnds (arcsL l l.length) z (z + 1)).at_ z) p).reverse.length = p := by rw [List.length_reverse, sgs_len]
  generalize (sgs (rnds (arcsL l l.length) z (z + 1)).by_ (bk (rnds (arcsL l l.length) z (z + 1)).by_ (rnds (arcsL l l.length) z (z + 1)).at_ z) p).reverse = xs at *
  refine ⟨p, xs, hxl, ?_⟩
  have h89 := k89 z nil l (by omega)
  rw [h] at h89
  refine fn_of e31 ?_
  unfold c31
  clear hcyc hp3 hp4 hA hN hok hrd hne
  repeat' (first
    | (with_reducible refine T_seq ?_)
    | (with_reducible refine T_reg ?_)
    | ((with_reducible refine T_calm ?_ ?_); rfl)
    | (with_reducible refine T_draw ?_)
    | (with_reducible refine T_skip ?_)
    | (with_reducible refine T_exit ?_)
    | (with_reducible refine T_block ?_)
    | (with_reducible (show T _ _ _ _ _ (.cond _ _ _) _ _); first | (refine T_cond_t rfl ?_) | (refine T_cond_f rfl ?_) | (refine T_cond rfl (fun hc => ?_) (fun hc => ?_) <;> have hd := hc <;> (try simp (disch := omega) only [wrapI] at hd) <;> have hs := hd <;> (try simp only [Bool.not_eq_true', Bool.not_eq_false', Bool.and_eq_true, Bool.and_eq_false_iff, Bool.or_eq_true, Bool.or_eq_false_iff, decide_eq_true_eq, decide_eq_false_iff_not, beq_iff_eq, bne_iff_ne, beq_eq_false_iff_ne, bne_eq_false_iff_eq, Bool.not_true, Bool.not_false, gt_iff_lt, ge_iff_le, Int.not_lt, Int.not_le, ne_eq, Decidable.not_not] at hd) <;> (try simp at hs)))
    | (with_reducible (show wdW _ _ _ (_ :: _) _ _ _); refine wdW_cons rfl ?_)
    | (with_reducible (show wcall _ false (.lit (.func (.func 89) _ _)) _ _ _ _); refine wcall_fn (h89) rfl (by simp [plainL, plain]) ?_)
    | (with_reducible (show wcallX _ false (.lit (.func (.func 89) _ _)) _ _ _ _); refine wcallX_fn (h89) rfl (by simp [plainL, plain, plainR, renR_ints]) ?_)
    | (with_reducible (show wcall _ false (.lit (.func (.func 95) _ _)) _ _ _ _); refine wcall_fn (h95) rfl (by simp [plainL, plain]) ?_)
    | (with_reducible (show wcallX _ false (.lit (.func (.func 95) _ _)) _ _ _ _); refine wcallX_fn (h95) rfl (by simp [plainL, plain, plainR, renR_ints]) ?_)
    | (with_reducible refine wguard_split (fun hc => ?_) (fun hc => ?_) <;> have hd := hc <;> (try simp (disch := omega) only [wrapI] at hd) <;> have hs := hd <;> (try simp only [Bool.not_eq_true', Bool.not_eq_false', Bool.and_eq_true, Bool.and_eq_false_iff, Bool.or_eq_true, Bool.or_eq_false_iff, decide_eq_true_eq, decide_eq_false_iff_not, beq_iff_eq, bne_iff_ne, beq_eq_false_iff_ne, bne_eq_false_iff_eq, Bool.not_true, Bool.not_false, gt_iff_lt, ge_iff_le, Int.not_lt, Int.not_le, ne_eq, Decidable.not_not] at hd) <;> (try simp at hs))
    | (with_reducible refine wguardX_split (fun hc => ?_) (fun hc => ?_) <;> have hd := hc <;> (try simp (disch := omega) only [wrapI] at hd) <;> have hs := hd <;> (try simp only [Bool.not_eq_true', Bool.not_eq_false', Bool.and_eq_true, Bool.and_eq_false_iff, Bool.or_eq_true, Bool.or_eq_false_iff, decide_eq_true_eq, decide_eq_false_iff_not, beq_iff_eq, bne_iff_ne, beq_eq_false_iff_ne, bne_eq_false_iff_eq, Bool.not_true, Bool.not_false, gt_iff_lt, ge_iff_le, Int.not_lt, Int.not_le, ne_eq, Decidable.not_not] at hd) <;> (try simp at hs))
    | (with_reducible refine T_ret ?_)
    | (with_reducible (show leave _ _ _ _ _); first | (refine leave_ids (.inr rfl) _ [0] rfl (by simp) (by simp) ?_) | (refine leave_ids (.inl rfl) _ [0] rfl (by simp) (by simp) ?_))
    | (with_reducible (show leaveA _ _ _ _); first | (refine leaveA_of (.inr rfl) _ rfl ?_) | (refine leaveA_of (.inl rfl) _ rfl ?_))
    | (with_reducible refine wif_intro ?_ (fun hc => ?_))
    | (with_reducible refine And.intro ?_ ?_)
    | (with_reducible intro hc)
    | (simp (maxSteps := 4000000) only [wops_nil, wops_cons, wstep_none, wrun_call, wrun_mv, wrun_bin, wrun_eqNil, get_mk, wop, aop, ev, look, put_some, writes, ores_some, binV, thenK, boolV, hget, tupOf, List.map_cons, List.map_nil, List.length_cons, List.length_nil, List.getElem?_cons_zero, List.nil_append, List.append_nil, List.replicate_zero, List.zipIdx_cons, List.zipIdx_nil, Option.getD_some, Option.map_some, Option.map_none, if_true, if_false, Nat.reduceEqDiff, Nat.reduceAdd, Nat.add_zero, Nat.zero_add, Nat.zero_ne_one, reduceCtorEq, Bool.not_false, eq_self, freeze, lidsL, lids, List.flatMap_cons, List.flatMap_nil, ren, renL, renR, renB, renO, keepρ, shiftρ, pos, Nat.not_lt_zero, renR_ints, renR_ints, *])
    | (simp (disch := omega) only [getD_ints, wrapI])
    | (with_reducible (show wcall _ false (.lit (.func (.func 89) _ _)) _ _ _ _); refine wcall_fn (h89) ?_ ?_ ?_; (next => simp [rfyL, rfy, hget, ints, take_rfy, renR_ints]); (next => simp [plainL, plain, plainR, renR_ints]))
    | (with_reducible (show wcallX _ false (.lit (.func (.func 89) _ _)) _ _ _ _); refine wcallX_fn (h89) ?_ ?_ ?_; (next => simp [rfyL, rfy, hget, ints, take_rfy, renR_ints]); (next => simp [plainL, plain, plainR, renR_ints]))
    | (with_reducible (show wcall _ false (.lit (.func (.func 95) _ _)) _ _ _ _); refine wcall_fn (h95) ?_ ?_ ?_; (next => simp [rfyL, rfy, hget, ints, take_rfy, renR_ints]); (next => simp [plainL, plain, plainR, renR_ints]))
    | (with_reducible (show wcallX _ false (.lit (.func (.func 95) _ _)) _ _ _ _); refine wcallX_fn (h95) ?_ ?_ ?_; (next => simp [rfyL, rfy, hget, ints, take_rfy, renR_ints]); (next => simp [plainL, plain, plainR, renR_ints]))
    | omega)
end Go.Abs
