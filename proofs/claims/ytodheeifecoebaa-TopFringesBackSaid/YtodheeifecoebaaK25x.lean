import Derived.Test.YtodheeifecoebaaK6x
import Derived.Test.YtodheeifecoebaaK22x
set_option linter.all false
set_option linter.unusedVariables false
set_option linter.unusedSimpArgs false
set_option linter.unusedSectionVars false
namespace Go.Abs
open Go.Proofs
theorem emod_tmod {n d : Int} (h : 0 < d) : n % d = if n.tmod d < 0 then n.tmod d + d else n.tmod d := by
  have h1 := Int.mul_tdiv_add_tmod n d
  have h2 := Int.mul_ediv_add_emod n d
  have h3 := fdiv_quo (n := n) h
  split
  · rename_i hm
    rw [if_pos hm] at h3
    rw [h3, Int.mul_sub] at h2
    omega
  · rename_i hm
    rw [if_neg hm] at h3
    rw [h3] at h2
    omega
set_option maxHeartbeats 8000000 in
theorem k24 (n d : Int) (h1 : 0 < d) (h2 : -9223372036854775806 ≤ n) (h3 : n ≤ 9223372036854775807) (h4 : d ≤ 9223372036854775807) : Fn Try.prog 24 [i64 n, i64 d] (i64 (n % d)) [] := by
  refine fn_of e24 ?_
  unfold c24
  have hq1 := Int.tmod_lt_of_pos n h1
  have hq2 := Int.lt_tmod_of_pos n h1
  repeat' (first
    | with_reducible first
      | refine T_seq ?_
      | refine T_reg ?_
      | refine T_skip ?_
      | refine T_exit ?_
      | refine T_block ?_
      | refine T_cond_t rfl ?_
      | refine T_cond_f rfl ?_
      | ((first | refine T_cond rfl (fun hc => ?_) (fun hc => ?_) | refine wguard_split (fun hc => ?_) (fun hc => ?_)) <;> have hd := hc <;> (try simp (disch := omega) only [wrapI] at hd) <;> have hs := hd <;> (try simp only [decide_eq_true_eq, decide_eq_false_iff_not, Int.not_lt] at hd) <;> (try simp at hs))
      | refine T_ret ?_
      | refine leave_of (.inr rfl) _ rfl ?_
      | refine leave_of (.inl rfl) _ rfl ?_
      | refine leaveA_of (.inr rfl) _ rfl ?_
      | refine leaveA_of (.inl rfl) _ rfl ?_
      | refine wif_intro ?_ (fun hc => ?_)
      | refine And.intro ?_ ?_
      | intro hc
    | simp (maxSteps := 4000000) only [wops_nil, wops_cons, wstep_none, wrun_mv, wrun_bin, get_mk, wop, aop, ev, look, put_some, writes, ores_some, ores_none_ite, ores_map, binV, thenK, tupOf, List.map_cons, List.map_nil, List.length_nil, List.append_nil, List.replicate_zero, List.zipIdx_cons, List.zipIdx_nil, Option.map_some, if_true, if_false, Nat.reduceEqDiff, Nat.reduceAdd, Nat.zero_add, Nat.zero_ne_one, reduceCtorEq, eq_self, decide_true, ren, *]
    | simp (disch := omega) only [wrapI]
    | omega)
  all_goals rw [emod_tmod h1]
  · rw [if_pos (by omega)]
  · rw [if_neg (by omega)]
/-- the step of two cells beside each other -/
def stp (x : Int) : Int := (x + 500) % 1000 - 500
theorem stp_r (x : Int) : -500 ≤ stp x ∧ stp x < 500 := by unfold stp; omega
theorem stp_tmod {x : Int} : stp x = if x.tmod 1000 ≥ 500 then x.tmod 1000 - 1000 else if x.tmod 1000 < -500 then x.tmod 1000 + 1000 else x.tmod 1000 := by
  have h := emod_tmod (n := x) (d := 1000) (by omega)
  have hq1 := Int.tmod_lt_of_pos x (show (0:Int) < 1000 by omega)
  have hq2 := Int.lt_tmod_of_pos x (show (0:Int) < 1000 by omega)
  unfold stp
  repeat' split at h
  all_goals (repeat' split)
  all_goals omega
def stepI (ph : List Int) (a b : Int) : Int := if b < a then -stp (ph.getD a.toNat 0 - ph.getD b.toNat 0) else stp (ph.getD b.toNat 0 - ph.getD a.toNat 0)
def okPh (ph : List Int) : Prop := ∀ k, -1 ≤ ph.getD k 0 ∧ ph.getD k 0 ≤ 999
set_option maxHeartbeats 8000000 in
theorem k108a (w : Int) (nil : Bool) (ph : List Int) (a b : Int) (hl : ph.length < 4611686018427387904) (hp : okPh ph) (ha : 0 ≤ a ∧ a < ph.length) (hb : 0 ≤ b ∧ b < ph.length) (hab : ¬ b < a) : Fn Try.prog 108 [fmap w nil ph, i64 a, i64 b] (i64 (stp (ph.getD b.toNat 0 - ph.getD a.toNat 0))) [] := by
  refine fn_of e108 ?_
  unfold c108
  have h1 := hp a.toNat
  have h2 := hp b.toNat
  have hq1 := Int.tmod_lt_of_pos (ph.getD b.toNat 0 - ph.getD a.toNat 0) (show (0:Int) < 1000 by omega)
  have hq2 := Int.lt_tmod_of_pos (ph.getD b.toNat 0 - ph.getD a.toNat 0) (show (0:Int) < 1000 by omega)
  have hz := stp_tmod (x := ph.getD b.toNat 0 - ph.getD a.toNat 0)
  replace hz : id (stp (ph.getD b.toNat 0 - ph.getD a.toNat 0) = _) := hz
  repeat' (first
    | ((with_reducible refine T_calm ?_ ?_); rfl)
    | with_reducible first
      | refine T_seq ?_
      | refine T_reg ?_
      | refine T_draw ?_
      | refine T_skip ?_
      | refine T_exit ?_
      | refine T_block ?_
      | refine T_cond_t rfl ?_
      | refine T_cond_f rfl ?_
      | refine wdW_cons rfl ?_
      | ((first | refine T_cond rfl (fun hc => ?_) (fun hc => ?_) | refine wguard_split (fun hc => ?_) (fun hc => ?_) | refine wguardX_split (fun hc => ?_) (fun hc => ?_)) <;> have hd := hc <;> (try simp (disch := omega) only [wrapI] at hd) <;> have hs := hd <;> (try simp only [decide_eq_true_eq, decide_eq_false_iff_not, ge_iff_le, Int.not_lt, Int.not_le] at hd) <;> (try simp at hs))
      | refine T_ret ?_
      | refine leave_of (.inr rfl) _ rfl ?_
      | refine leave_of (.inl rfl) _ rfl ?_
      | refine leaveA_of (.inr rfl) _ rfl ?_
      | refine leaveA_of (.inl rfl) _ rfl ?_
      | refine wif_intro ?_ (fun hc => ?_)
      | refine And.intro ?_ ?_
      | intro hc
    | simp (maxSteps := 4000000) only [wops_nil, wops_cons, wstep_none, wrun_mv, wrun_bin, wrun_load, wrun_faddr, wrun_iaddrS, wrun_box, get_mk, wop, aop, ev, look, put_some, writes, ores_some, ores_ite_none, ores_none_ite, ores_map, wif_true, binV, thenK, blockK, value, cut, hget, AV.parts, isOne, mkAgg, tupOf, List.map_cons, List.map_nil, List.length_cons, List.length_nil, List.getElem?_cons_zero, List.set_cons_zero, List.take_succ_cons, List.take_nil, List.drop_succ_cons, List.drop_zero, List.nil_append, List.append_nil, List.replicate_zero, List.replicate_succ, List.getD_cons_zero, List.zipIdx_cons, List.zipIdx_nil, List.all_cons, List.all_nil, List.length_map, Option.getD_some, Option.map_some, if_true, if_false, Nat.reduceEqDiff, Nat.reduceAdd, Nat.add_zero, Nat.zero_add, Nat.zero_ne_one, reduceCtorEq, Bool.and_true, Bool.false_eq_true, eq_self, true_and, and_self, decide_false, Int.reduceNeg, List.all_cons, ren, *]
    | simp (disch := omega) only [getD_ints, wrapI]
    | omega)
  · rw [show stp (ph.getD b.toNat 0 - ph.getD a.toNat 0) = _ from hz, if_pos (by omega)]
  · rw [show stp (ph.getD b.toNat 0 - ph.getD a.toNat 0) = _ from hz, if_neg (by omega), if_pos (by omega)]
  · rw [show stp (ph.getD b.toNat 0 - ph.getD a.toNat 0) = _ from hz, if_neg (by omega), if_neg (by omega)]
set_option maxHeartbeats 8000000 in
theorem k108 (w : Int) (nil : Bool) (ph : List Int) (a b : Int) (hl : ph.length < 4611686018427387904) (hp : okPh ph) (ha : 0 ≤ a ∧ a < ph.length) (hb : 0 ≤ b ∧ b < ph.length) : Fn Try.prog 108 [fmap w nil ph, i64 a, i64 b] (i64 (stepI ph a b)) [] := by
  unfold stepI
  by_cases hab : b < a
  · rw [if_pos hab]
    refine fn_of e108 ?_
    unfold c108
    have h3 := stp_r (ph.getD a.toNat 0 - ph.getD b.toNat 0)
    have e0 : ∀ x : Int, 0 - x = -x := fun x => by omega
    repeat' (first
      | ((with_reducible refine T_calm ?_ ?_); rfl)
      | with_reducible first
        | refine T_seq ?_
        | refine T_reg ?_
        | refine T_draw ?_
        | refine T_skip ?_
        | refine T_exit ?_
        | refine T_block ?_
        | refine T_cond_t rfl ?_
        | refine T_cond_f rfl ?_
        | refine wdW_cons rfl ?_
        | (show wcall _ false (.lit (.func (.func 108) _ _)) _ _ _ _; refine wcall_fn (k108a _ _ _ _ _ hl hp hb ha (by omega)) rfl (by simp [plainL, plain]) ?_)
        | (show wcallX _ false (.lit (.func (.func 108) _ _)) _ _ _ _; refine wcallX_fn (k108a _ _ _ _ _ hl hp hb ha (by omega)) rfl (by simp [plainL, plain, plainR, e0]) ?_)
        | ((first | refine T_cond rfl (fun hc => ?_) (fun hc => ?_) | refine wguard_split (fun hc => ?_) (fun hc => ?_) | refine wguardX_split (fun hc => ?_) (fun hc => ?_)) <;> have hd := hc <;> (try simp (disch := omega) only [wrapI] at hd) <;> have hs := hd <;> (try simp only [Bool.not_eq_true', Bool.not_eq_false', Bool.and_eq_true, Bool.and_eq_false_iff, Bool.or_eq_true, Bool.or_eq_false_iff, decide_eq_true_eq, decide_eq_false_iff_not, beq_iff_eq, bne_iff_ne, beq_eq_false_iff_ne, bne_eq_false_iff_eq, Bool.not_true, Bool.not_false, gt_iff_lt, ge_iff_le, Int.not_lt, Int.not_le, ne_eq, Decidable.not_not] at hd) <;> (try simp at hs))
        | refine T_ret ?_
        | refine leave_of (.inr rfl) _ rfl ?_
        | refine leave_of (.inl rfl) _ rfl ?_
        | refine leaveA_of (.inr rfl) _ rfl ?_
        | refine leaveA_of (.inl rfl) _ rfl ?_
        | refine wif_intro ?_ (fun hc => ?_)
        | refine And.intro ?_ ?_
        | intro hc
      | simp (maxSteps := 4000000) only [wops_nil, wops_cons, wstep_none, wrun_call, wrun_mv, wrun_bin, wrun_neg, wrun_load, wrun_box, get_mk, wop, aop, ev, look, put_some, writes, ores_some, binV, thenK, value, cut, hget, AV.parts, isOne, toLits, mkAgg, tupOf, List.map_cons, List.map_nil, List.length_cons, List.length_nil, List.getElem?_cons_zero, List.set_cons_zero, List.take_succ_cons, List.take_nil, List.drop_zero, List.nil_append, List.append_nil, List.replicate_zero, List.replicate_succ, List.getD_cons_zero, List.zipIdx_cons, List.zipIdx_nil, List.all_cons, List.all_nil, Option.getD_some, Option.map_some, Option.map_none, if_true, if_false, Nat.reduceEqDiff, Nat.reduceAdd, Nat.add_zero, Nat.zero_add, Nat.zero_ne_one, reduceCtorEq, Bool.and_true, eq_self, true_and, and_self, decide_true, Int.reduceNeg, freeze, lidsL, lids, List.flatMap_cons, List.flatMap_nil, List.all_cons, ren, *]
      | simp (disch := omega) only [wrapI]
      | (with_reducible show wcall _ false (.lit (.func (.func 108) _ _)) _ _ _ _; refine wcall_fn (k108a _ _ _ _ _ hl hp hb ha (by omega)) ?_ ?_ ?_; (next => simp [rfyL, rfy, hget, ints, take_rfy, e0]); (next => simp [plainL, plain, plainR, e0]))
      | (with_reducible show wcallX _ false (.lit (.func (.func 108) _ _)) _ _ _ _; refine wcallX_fn (k108a _ _ _ _ _ hl hp hb ha (by omega)) ?_ ?_ ?_; (next => simp [rfyL, rfy, hget, ints, take_rfy, e0]); (next => simp [plainL, plain, plainR, e0]))
      | omega)
  · rw [if_neg hab]
    exact k108a w nil ph a b hl hp ha hb hab
end Go.Abs
