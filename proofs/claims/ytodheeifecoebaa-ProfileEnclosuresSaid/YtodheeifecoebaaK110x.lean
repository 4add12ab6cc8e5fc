import Derived.Test.YtodheeifecoebaaK109
import Derived.Test.YtodheeifecoebaaK45x
import Derived.Test.YtodheeifecoebaaKSa
set_option linter.all false
set_option linter.unusedVariables false
set_option linter.unusedSimpArgs false
set_option linter.unusedSectionVars false
namespace Go.Abs
open Go.Proofs
set_option maxHeartbeats 8000000 in
theorem k31d {nil : Bool} {l : List Rd} {z : Nat} (h : checkR z l = 0) (hcyc : ∀ r, r ≤ z → 0 ≤ (rnds (arcsL l l.length) z (r + 1)).at_) : ∃ (p : Nat) (xs : List Int), xs.length = p ∧ 1 ≤ p ∧ p ≤ z ∧ (checkCl l xs).2 = 0 ∧ Fn Try.prog 31 [i64 z, rdgs nil l] (.tup [.sl true 0 [], .lsl 0 0 p, i64 13]) [.cells true false 1 (xs.map fun x => [i64 x])] := by
  obtain ⟨hz, hl, hrd⟩ := checkR_ok h
  obtain ⟨hA, hN, hok⟩ := arcs_ok hrd
  have hn : (arcsL l l.length).length ≤ 200 := by have := arcsL_len l l.length; omega
  have hne : arcsL l l.length ≠ [] := fun e => by
    have := hcyc 0 (by omega)
    rw [e] at this
    exact absurd this (by show ¬ (0 : Int) ≤ -1; omega)
  obtain ⟨p, hp1, hp2, hp3, hp4, hp5, hp6⟩ := circle hA hN hn (by omega) (hcyc z (Nat.le_refl _))
  have h95 := k95 (nil := nil) (l := l) (A := arcsL l l.length) (z := z) hl hok (by omega) rfl hA hne (fun r hr hneg => by have := hcyc r hr; omega) (fun _ => ⟨p, hp1, hp2, hp3, hp4, rfl, rfl⟩)
  have hxl : (sgs (rnds (arcsL l l.length) z (z + 1)).by_ (bk (rnds (arcsL l l.length) z (z + 1)).by_ (rnds (arcsL l l.length) z (z + 1)).at_ z) p).reverse.length = p := by rw [List.length_reverse, sgs_len]
  have hacc := circ_acc (l := l) (b := (rnds (arcsL l l.length) z (z + 1)).by_) (u := bk (rnds (arcsL l l.length) z (z + 1)).by_ (rnds (arcsL l l.length) z (z + 1)).at_ z) (p := p) (by omega) hp4 hp5 hp6
  generalize (sgs (rnds (arcsL l l.length) z (z + 1)).by_ (bk (rnds (arcsL l l.length) z (z + 1)).by_ (rnds (arcsL l l.length) z (z + 1)).at_ z) p).reverse = xs at *
  refine ⟨p, xs, hxl, hp1, hp2, hacc, ?_⟩
  have h89 := k89 z nil l (by omega)
  rw [h] at h89
  refine fn_of e31 ?_
  unfold c31
  clear hcyc hp3 hp4 hp5 hp6 hA hN hok hrd hne hacc
  repeat' (first
    | with_reducible first
      | refine T_seq ?_
      | refine T_reg ?_
      | refine T_skip ?_
      | refine T_exit ?_
      | refine T_block ?_
      | refine T_cond_t rfl ?_
      | refine T_cond_f rfl ?_
      | (show wcall _ false (.lit (.func (.func 89) _ _)) _ _ _ _; refine wcall_fn (h89) rfl (by simp [plainL, plain]) ?_)
      | (show wcall _ false (.lit (.func (.func 95) _ _)) _ _ _ _; refine wcall_fn (h95) rfl (by simp [plainL, plain]) ?_)
      | ((first | refine T_cond rfl (fun hc => ?_) (fun hc => ?_) | refine wguard_split (fun hc => ?_) (fun hc => ?_)) <;> have hd := hc <;> (try simp (disch := omega) only [wrapI] at hd) <;> have hs := hd <;> (try simp only [Bool.not_eq_true', Bool.not_eq_false', Bool.and_eq_true, Bool.and_eq_false_iff, Bool.or_eq_true, Bool.or_eq_false_iff, decide_eq_true_eq, decide_eq_false_iff_not, beq_iff_eq, bne_iff_ne, beq_eq_false_iff_ne, bne_eq_false_iff_eq, Bool.not_true, Bool.not_false, gt_iff_lt, ge_iff_le, Int.not_lt, Int.not_le, ne_eq, Decidable.not_not] at hd) <;> (try simp at hs))
      | refine T_ret ?_
      | refine leave_ids (.inr rfl) _ [0] rfl (by simp) (by simp) ?_
      | refine leave_ids (.inl rfl) _ [0] rfl (by simp) (by simp) ?_
      | refine leaveA_of (.inr rfl) _ rfl ?_
      | refine leaveA_of (.inl rfl) _ rfl ?_
      | refine wif_intro ?_ (fun hc => ?_)
      | refine And.intro ?_ ?_
      | intro hc
    | simp (maxSteps := 4000000) only [wops_nil, wops_cons, wstep_none, wrun_call, wrun_mv, wrun_bin, wrun_eqNil, get_mk, wop, aop, ev, look, put_some, writes, ores_some, binV, thenK, boolV, hget, tupOf, List.map_cons, List.map_nil, List.length_cons, List.length_nil, List.getElem?_cons_zero, List.nil_append, List.append_nil, List.replicate_zero, List.zipIdx_cons, List.zipIdx_nil, Option.getD_some, Option.map_some, Option.map_none, if_true, if_false, Nat.reduceEqDiff, Nat.reduceAdd, Nat.add_zero, Nat.zero_add, Nat.zero_ne_one, reduceCtorEq, Bool.not_false, eq_self, freeze, lidsL, lids, List.flatMap_cons, List.flatMap_nil, ren, renL, renR, renB, renO, keepρ, shiftρ, pos, Nat.not_lt_zero, renR_ints, renR_ints, *]
    | simp (disch := omega) only [getD_ints, wrapI]
    | (with_reducible show wcall _ false (.lit (.func (.func 89) _ _)) _ _ _ _; refine wcall_fn (h89) ?_ ?_ ?_; (next => simp [rfyL, rfy, hget, ints, take_rfy, renR_ints]); (next => simp [plainL, plain, plainR, renR_ints]))
    | (with_reducible show wcall _ false (.lit (.func (.func 95) _ _)) _ _ _ _; refine wcall_fn (h95) ?_ ?_ ?_; (next => simp [rfyL, rfy, hget, ints, take_rfy, renR_ints]); (next => simp [plainL, plain, plainR, renR_ints]))
    | omega)
end Go.Abs
