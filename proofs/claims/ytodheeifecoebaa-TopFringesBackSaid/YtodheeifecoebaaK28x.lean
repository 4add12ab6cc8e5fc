import Derived.Test.YtodheeifecoebaaK22x
import Derived.Test.YtodheeifecoebaaK26x
set_option linter.all false
set_option linter.unusedVariables false
set_option linter.unusedSimpArgs false
set_option linter.unusedSectionVars false
namespace Go.Abs
open Go.Proofs
/-! sums round loops -/
/-- the sum of steps from the k-th cell on -/
def sumL (ph : List Int) (l : List Int) : Nat → Int
  | 0 => 0
  | k + 1 => sumL ph l k + stepI ph (l.getD k 0) (l.getD ((k + 1) % l.length) 0)
theorem stepI_r (ph : List Int) (a b : Int) : -500 ≤ stepI ph a b ∧ stepI ph a b ≤ 500 := by
  unfold stepI
  have h1 := stp_r (ph.getD a.toNat 0 - ph.getD b.toNat 0)
  have h2 := stp_r (ph.getD b.toNat 0 - ph.getD a.toNat 0)
  split <;> omega
theorem sumL_r (ph : List Int) (l : List Int) : ∀ k : Nat, -500 * (k : Int) ≤ sumL ph l k ∧ sumL ph l k ≤ 500 * k
  | 0 => by simp [sumL]
  | k + 1 => by
    have h1 := sumL_r ph l k
    have h2 := stepI_r ph (l.getD k 0) (l.getD ((k + 1) % l.length) 0)
    unfold sumL
    omega
theorem tmod_nat (a b : Nat) : ((a : Int).tmod (b : Int)) = ((a % b : Nat) : Int) := by
  rw [Int.tmod_eq_emod_of_nonneg (by omega)]; rfl
set_option maxHeartbeats 8000000 in
theorem k113 (w : Int) (nil nl : Bool) (ph l : List Int) (hl : ph.length < 1000000) (hll : l.length < 1000000) (hp : okPh ph) (ht : ∀ k, k < l.length → 0 ≤ l.getD k 0 ∧ l.getD k 0 < ph.length) : Fn Try.prog 113 [fmap w nil ph, ints nl l] (i64 (sumL ph l l.length)) [] := by
  refine fn_of e113 ?_
  unfold c113
  have hl2 : ph.length < 4611686018427387904 := by omega
  repeat' (first
    | ((with_reducible refine T_calm ?_ ?_); rfl)
    | with_reducible first
      | refine T_seq ?_
      | refine T_reg ?_
      | refine T_draw ?_
      | refine T_skip ?_
      | refine T_exit ?_
      | refine T_block ?_
      | refine T_cond_t rfl ?_
      | refine T_cond_f rfl ?_
      | refine wdW_cons rfl ?_
      | ((first | refine T_cond rfl (fun hc => ?_) (fun hc => ?_) | refine wguard_split (fun hc => ?_) (fun hc => ?_) | refine wguardX_split (fun hc => ?_) (fun hc => ?_)) <;> have hd := hc <;> (try simp (disch := omega) only [wrapI] at hd) <;> have hs := hd <;> (try simp only [Bool.not_eq_true', Bool.not_eq_false', Bool.and_eq_true, Bool.and_eq_false_iff, Bool.or_eq_true, Bool.or_eq_false_iff, decide_eq_true_eq, decide_eq_false_iff_not, beq_iff_eq, bne_iff_ne, beq_eq_false_iff_ne, bne_eq_false_iff_eq, Bool.not_true, Bool.not_false, gt_iff_lt, ge_iff_le, Int.not_lt, Int.not_le, ne_eq, Decidable.not_not] at hd) <;> (try simp at hs))
      | refine T_ret ?_
      | refine leave_of (.inr rfl) _ rfl ?_
      | refine leave_of (.inl rfl) _ rfl ?_
      | refine leaveA_of (.inr rfl) _ rfl ?_
      | refine leaveA_of (.inl rfl) _ rfl ?_
      | refine wif_intro ?_ (fun hc => ?_)
      | refine And.intro ?_ ?_
      | intro hc
    | simp (maxSteps := 4000000) only [wops_nil, wops_cons, wstep_none, wrun_mv, wrun_len, wrun_box, wop, aop, ev, look, put_some, writes, ores_some, ores_map, ores_bind, thenK, intV, lenOf, hget, AV.parts, isOne, List.map_cons, List.map_nil, List.length_cons, List.length_nil, List.getElem?_cons_zero, List.set_cons_zero, List.nil_append, List.append_nil, List.replicate_zero, List.replicate_succ, List.zipIdx_cons, List.zipIdx_nil, List.all_cons, List.all_nil, List.length_map, Option.pure_def, Option.bind_eq_bind, if_true, if_false, Nat.reduceEqDiff, Nat.reduceAdd, Nat.add_zero, Nat.zero_add, Nat.zero_ne_one, reduceCtorEq, Bool.and_true, eq_self, true_and, and_self, List.all_cons, *]
    | simp (disch := omega) only [getD_ints, wrapI]
    | omega)
  refine T_for [1, 2, 5, 9, 8, 10] (fun k => ⟨[(1, ints nl l), (2, .loc 0 0 0), (5, i64 (sumL ph l k)), (9, i64 l.length), (8, ints nl l), (10, i64 k)], [Blk.cells true false 2 [[i64 w, ints nil ph]]]⟩) l.length (fun k => True) 0 rfl trivial (Nat.zero_le _) ?_
  intro k hk _
  unfold c113l0
  have hr := sumL_r ph l k
  by_cases hkn : k < l.length
  · have h1 := ht k hkn
    have h3 := Nat.mod_lt (k + 1) (show 0 < l.length by omega)
    have h2 := ht ((k + 1) % l.length) h3
    have e1 : ((k : Int) + 1).tmod (l.length : Int) = (((k + 1) % l.length : Nat) : Int) := tmod_nat (k + 1) l.length
    have h4 := stepI_r ph (l.getD k 0) (l.getD ((k + 1) % l.length) 0)
    have h108 := k108 w nil ph (l.getD k 0) (l.getD ((k + 1) % l.length) 0) hl2 hp h1 h2
    repeat' (first
      | ((with_reducible refine T_calm ?_ ?_); rfl)
      | with_reducible first
        | refine T_seq ?_
        | refine T_reg ?_
        | refine T_draw ?_
        | refine T_skip ?_
        | refine T_exit ?_
        | refine T_block ?_
        | refine T_cond_t rfl ?_
        | refine T_cond_f rfl ?_
        | refine wdW_cons rfl ?_
        | (show wcall _ false (.lit (.func (.func 108) _ _)) _ _ _ _; refine wcall_fn (h108) rfl (by simp [plainL, plain, plainR, e1, Int.toNat_natCast]) ?_)
        | (show wcallX _ false (.lit (.func (.func 108) _ _)) _ _ _ _; refine wcallX_fn (h108) rfl (by simp [plainL, plain]) ?_)
        | ((first | refine T_cond rfl (fun hc => ?_) (fun hc => ?_) | refine wguard_split (fun hc => ?_) (fun hc => ?_) | refine wguardX_split (fun hc => ?_) (fun hc => ?_)) <;> have hd := hc <;> (try simp (disch := omega) only [wrapI] at hd) <;> have hs := hd <;> (try simp only [decide_eq_true_eq, decide_eq_false_iff_not, Int.not_lt] at hd) <;> (try simp at hs))
        | refine T_ret ?_
        | refine leave_of (.inr rfl) _ rfl ?_
        | refine leave_of (.inl rfl) _ rfl ?_
        | refine leaveA_of (.inr rfl) _ rfl ?_
        | refine leaveA_of (.inl rfl) _ rfl ?_
        | refine wif_intro ?_ (fun hc => ?_)
        | refine And.intro ?_ ?_
        | intro hc
      | simp (maxSteps := 4000000) only [wops_nil, wops_cons, wstep_none, wrun_mv, wrun_bin, wrun_load, wrun_iaddrS, wrun_len, wrunX_mv, wrunX_bin, wrunX_load, wrunX_iaddrS, wrunX_len, wdW_nil, wstepX_none, wrunX_call, get_mk, wop, aop, ev, look, put_some, writes, ores_some, ores_ite_none, ores_none_ite, ores_map, binV, thenK, blockK, intV, lenOf, value, cut, hget, toLits, mkAgg, tupOf, List.map_cons, List.map_nil, List.length_cons, List.length_nil, List.getElem?_cons_zero, List.take_succ_cons, List.take_nil, List.drop_zero, List.append_nil, List.replicate_zero, List.getD_cons_zero, List.length_map, Option.pure_def, Option.bind_eq_bind, Option.getD_some, Option.map_some, Option.map_none, Option.bind_some, if_true, if_false, Nat.reduceEqDiff, Nat.reduceAdd, Nat.zero_add, reduceCtorEq, Bool.false_eq_true, eq_self, true_and, and_true, and_self, decide_true, freeze, lidsL, lids, List.flatMap_cons, List.flatMap_nil, ren, Int.toNat_natCast, *]
      | simp (disch := omega) only [getD_ints, wrapI]
      | (with_reducible show wcall _ false (.lit (.func (.func 108) _ _)) _ _ _ _; refine wcall_fn (h108) ?_ ?_ ?_; (next => simp [rfyL, rfy, hget, ints, take_rfy, e1, Int.toNat_natCast]); (next => simp [plainL, plain, plainR, e1, Int.toNat_natCast]))
      | (with_reducible show wcallX _ false (.lit (.func (.func 108) _ _)) _ _ _ _; refine wcallX_fn (h108) ?_ ?_ ?_; (next => simp [rfyL, rfy, hget, ints, take_rfy, e1, Int.toNat_natCast]); (next => simp [plainL, plain, plainR, e1, Int.toNat_natCast]))
      | omega)
    · exact rfl
  · skip
    repeat' (first
      | ((with_reducible refine T_calm ?_ ?_); rfl)
      | with_reducible first
        | refine T_seq ?_
        | refine T_reg ?_
        | refine T_draw ?_
        | refine T_skip ?_
        | refine T_exit ?_
        | refine T_block ?_
        | refine T_cond_t rfl ?_
        | refine T_cond_f rfl ?_
        | refine wdW_cons rfl ?_
        | ((first | refine T_cond rfl (fun hc => ?_) (fun hc => ?_) | refine wguard_split (fun hc => ?_) (fun hc => ?_) | refine wguardX_split (fun hc => ?_) (fun hc => ?_)) <;> have hd := hc <;> (try simp (disch := omega) only [wrapI] at hd) <;> have hs := hd <;> (try simp only [decide_eq_true_eq, decide_eq_false_iff_not, Int.not_lt] at hd) <;> (try simp at hs))
        | refine T_ret ?_
        | refine leave_of (.inr rfl) _ rfl ?_
        | refine leave_of (.inl rfl) _ rfl ?_
        | refine leaveA_of (.inr rfl) _ rfl ?_
        | refine leaveA_of (.inl rfl) _ rfl ?_
        | refine wif_intro ?_ (fun hc => ?_)
        | refine And.intro ?_ ?_
        | intro hc
      | simp (maxSteps := 4000000) only [wops_nil, wops_cons, wstep_none, wrun_mv, wrun_bin, wrun_load, wrun_iaddrS, get_mk, wop, aop, ev, look, put_some, writes, ores_some, ores_none, ores_ite_none, ores_map, binV, thenK, blockK, value, cut, hget, mkAgg, tupOf, List.length_cons, List.length_nil, List.take_succ_cons, List.take_nil, List.drop_zero, List.append_nil, List.replicate_zero, List.length_map, Option.map_some, if_true, if_false, Nat.reduceEqDiff, Nat.zero_add, reduceCtorEq, Bool.false_eq_true, eq_self, and_true, and_self, false_and, decide_true, ren, *]
      | simp (disch := omega) only [getD_ints]
      | omega)
    rw [show k = l.length by omega]
end Go.Abs
