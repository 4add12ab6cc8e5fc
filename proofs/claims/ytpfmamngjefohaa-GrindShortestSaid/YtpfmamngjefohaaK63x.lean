import Derived.Test.YtpfmamngjefohaaK4x
import Derived.Test.YtpfmamngjefohaaK61x
import Derived.Test.YtpfmamngjefohaaK210
set_option linter.all false
set_option linter.unusedVariables false
set_option linter.unusedSimpArgs false
set_option linter.unusedSectionVars false
namespace Go.Abs
open Go.Proofs
/-! Shortest of the reference -/
/-- what the reference yields, as it reads -/
def shW : Pol → List AV
  | none => [.sl true 0 [], i64 0, i64 12]
  | some x => [ints false x.1, i64 x.2, i64 0]
def shd : Pol → Nat
  | none => 0
  | some _ => 1
theorem SB.rds {id i : Nat} {H : List Blk} {b : Bool} {q : List Int} (h : H[i]? = some (.cells b false 1 (q.map fun x => [i64 x]))) : rfy (hget H) 1 (.lsl i 0 q.length) = ints false q := by
  unfold rfy
  rw [hget_some' h]
  dsimp only
  rw [if_pos (by simp), List.drop_zero, List.take_of_length_le (by simp)]
  simp [List.map_map, Function.comp_def, rfy]
set_option maxHeartbeats 8000000 in
theorem k55e (nil : Bool) (l : List Gr) (a b : Int) (hd : dpB a b = false) : Fn Try.prog 55 [gts nil l, prV a b] (.tup [.sl true 0 [], i64 0, i64 2]) [] := by
  refine fn_of e55 ?_
  have h46a := k46 a
  have h46b := k46 b
  unfold dpB at hd
  generalize (decide ((0 : Int) ≤ a) && decide (a ≤ 1000000)) = ra at *
  generalize (decide ((0 : Int) ≤ b) && decide (b ≤ 1000000)) = rb at *
  cases ra with
  | false =>
    unfold c55
    repeat' (first
      | ((with_reducible refine T_calm ?_ ?_); rfl)
      | with_reducible first
        | refine T_seq ?_
        | refine T_reg ?_
        | refine T_draw ?_
        | refine T_skip ?_
        | refine T_exit ?_
        | refine T_block ?_
        | refine T_cond_t rfl ?_
        | refine T_cond_f rfl ?_
        | refine wdW_cons rfl ?_
        | (show wcall _ false (.lit (.func (.func 46) _ _)) _ _ _ _; refine wcall_fn (h46a) rfl (by simp [plainL, plain]) ?_)
        | (show wcallX _ false (.lit (.func (.func 46) _ _)) _ _ _ _; refine wcallX_fn (h46a) rfl (by simp [plainL, plain, plainR, plainR_gR, Int.toNat_zero, Int.toNat_one]) ?_)
        | (show wcall _ false (.lit (.func (.func 46) _ _)) _ _ _ _; refine wcall_fn (h46b) rfl (by simp [plainL, plain, plainR, plainR_gR, Int.toNat_zero, Int.toNat_one]) ?_)
        | (show wcallX _ false (.lit (.func (.func 46) _ _)) _ _ _ _; refine wcallX_fn (h46b) rfl (by simp [plainL, plain, plainR, plainR_gR, Int.toNat_zero, Int.toNat_one]) ?_)
        | ((first | refine T_cond rfl (fun hc => ?_) (fun hc => ?_) | refine wguard_split (fun hc => ?_) (fun hc => ?_) | refine wguardX_split (fun hc => ?_) (fun hc => ?_)) <;> have hd := hc <;> (try simp (disch := omega) only [wrapI] at hd) <;> have hs := hd <;> (try simp only [Bool.not_eq_true', Bool.not_eq_false', Bool.and_eq_true, Bool.and_eq_false_iff, Bool.or_eq_true, Bool.or_eq_false_iff, decide_eq_true_eq, decide_eq_false_iff_not, beq_iff_eq, bne_iff_ne, beq_eq_false_iff_ne, bne_eq_false_iff_eq, Bool.not_true, Bool.not_false, gt_iff_lt, ge_iff_le, Int.not_lt, Int.not_le, ne_eq, Decidable.not_not] at hd) <;> (try simp at hs))
        | refine T_ret ?_
        | refine leave_of (.inr rfl) _ rfl ?_
        | refine leave_of (.inl rfl) _ rfl ?_
        | refine leaveA_of (.inr rfl) _ rfl ?_
        | refine leaveA_of (.inl rfl) _ rfl ?_
        | refine wif_intro ?_ (fun hc => ?_)
        | refine And.intro ?_ ?_
        | intro hc
      | simp (maxSteps := 4000000) only [wops_nil, wops_cons, wstep_none, wstep_some, wguard_tf, wrun_call, wrun_mv, wrun_pick, wrun_not, wrun_load, wrun_iaddrA, wrun_box, get_mk, wop, aop, ev, look, put_some, writes, ores_some, ores_ite_none, thenK, boolV, value, cut, hget, AV.parts, isOne, mkAgg, tupOf, ofValue_int, List.map_cons, List.map_nil, List.length_cons, List.length_nil, List.getElem?_cons_zero, List.set_cons_zero, List.take_succ_cons, List.take_zero, List.drop_zero, List.nil_append, List.append_nil, List.replicate_zero, List.replicate_succ, List.getD_cons_zero, List.zipIdx_cons, List.zipIdx_nil, List.all_cons, List.all_nil, Option.getD_some, Option.map_some, if_true, if_false, Nat.reduceEqDiff, Nat.reduceAdd, Nat.add_zero, Nat.zero_add, Nat.mul_one, Nat.zero_ne_one, reduceCtorEq, Bool.not_false, Bool.and_true, Bool.false_eq_true, eq_self, true_and, and_self, freeze, lidsL, lids, List.flatMap_cons, List.flatMap_nil, List.all_cons, ren, renL, renR, Int.toNat_zero, *]
      | simp (disch := omega) only [getD_ints, wrapI]
      | (with_reducible show wcall _ false (.lit (.func (.func 46) _ _)) _ _ _ _; refine wcall_fn (h46a) ?_ ?_ ?_; (next => simp [rfyL, rfy, hget, ints, take_rfy, plainR_gR, Int.toNat_zero, Int.toNat_one]); (next => simp [plainL, plain, plainR, plainR_gR, Int.toNat_zero, Int.toNat_one]))
      | (with_reducible show wcallX _ false (.lit (.func (.func 46) _ _)) _ _ _ _; refine wcallX_fn (h46a) ?_ ?_ ?_; (next => simp [rfyL, rfy, hget, ints, take_rfy, plainR_gR, Int.toNat_zero, Int.toNat_one]); (next => simp [plainL, plain, plainR, plainR_gR, Int.toNat_zero, Int.toNat_one]))
      | (with_reducible show wcall _ false (.lit (.func (.func 46) _ _)) _ _ _ _; refine wcall_fn (h46b) ?_ ?_ ?_; (next => simp [rfyL, rfy, hget, ints, take_rfy, plainR_gR, Int.toNat_zero, Int.toNat_one]); (next => simp [plainL, plain, plainR, plainR_gR, Int.toNat_zero, Int.toNat_one]))
      | (with_reducible show wcallX _ false (.lit (.func (.func 46) _ _)) _ _ _ _; refine wcallX_fn (h46b) ?_ ?_ ?_; (next => simp [rfyL, rfy, hget, ints, take_rfy, plainR_gR, Int.toNat_zero, Int.toNat_one]); (next => simp [plainL, plain, plainR, plainR_gR, Int.toNat_zero, Int.toNat_one]))
      | omega)
    all_goals first | rfl
  | true =>
    simp at hd
    subst hd
    unfold c55
    repeat' (first
      | ((with_reducible refine T_calm ?_ ?_); rfl)
      | with_reducible first
        | refine T_seq ?_
        | refine T_reg ?_
        | refine T_draw ?_
        | refine T_skip ?_
        | refine T_exit ?_
        | refine T_block ?_
        | refine T_cond_t rfl ?_
        | refine T_cond_f rfl ?_
        | refine wdW_cons rfl ?_
        | (show wcall _ false (.lit (.func (.func 46) _ _)) _ _ _ _; refine wcall_fn (h46a) rfl (by simp [plainL, plain]) ?_)
        | (show wcallX _ false (.lit (.func (.func 46) _ _)) _ _ _ _; refine wcallX_fn (h46a) rfl (by simp [plainL, plain, plainR, plainR_gR, Int.toNat_zero, Int.toNat_one]) ?_)
        | (show wcall _ false (.lit (.func (.func 46) _ _)) _ _ _ _; refine wcall_fn (h46b) rfl (by simp [plainL, plain]) ?_)
        | (show wcallX _ false (.lit (.func (.func 46) _ _)) _ _ _ _; refine wcallX_fn (h46b) rfl (by simp [plainL, plain, plainR, plainR_gR, Int.toNat_zero, Int.toNat_one]) ?_)
        | ((first | refine T_cond rfl (fun hc => ?_) (fun hc => ?_) | refine wguard_split (fun hc => ?_) (fun hc => ?_) | refine wguardX_split (fun hc => ?_) (fun hc => ?_)) <;> have hd := hc <;> (try simp (disch := omega) only [wrapI] at hd) <;> have hs := hd <;> (try simp only [Bool.not_eq_true', Bool.not_eq_false', Bool.and_eq_true, Bool.and_eq_false_iff, Bool.or_eq_true, Bool.or_eq_false_iff, decide_eq_true_eq, decide_eq_false_iff_not, beq_iff_eq, bne_iff_ne, beq_eq_false_iff_ne, bne_eq_false_iff_eq, Bool.not_true, Bool.not_false, gt_iff_lt, ge_iff_le, Int.not_lt, Int.not_le, ne_eq, Decidable.not_not] at hd) <;> (try simp at hs))
        | refine T_ret ?_
        | refine leave_of (.inr rfl) _ rfl ?_
        | refine leave_of (.inl rfl) _ rfl ?_
        | refine leaveA_of (.inr rfl) _ rfl ?_
        | refine leaveA_of (.inl rfl) _ rfl ?_
        | refine wif_intro ?_ (fun hc => ?_)
        | refine And.intro ?_ ?_
        | intro hc
      | simp (maxSteps := 4000000) only [wops_nil, wops_cons, wstep_none, wstep_some, wguard_ff, wrun_call, wrun_mv, wrun_pick, wrun_not, wrun_load, wrun_iaddrA, wrun_box, get_mk, wop, aop, ev, look, put_some, writes, ores_some, ores_ite_none, thenK, boolV, value, cut, hget, AV.parts, isOne, mkAgg, tupOf, ofValue_int, List.map_cons, List.map_nil, List.length_cons, List.length_nil, List.getElem?_cons_zero, List.set_cons_zero, List.take_succ_cons, List.take_zero, List.take_nil, List.drop_succ_cons, List.drop_zero, List.nil_append, List.append_nil, List.replicate_zero, List.replicate_succ, List.getD_cons_zero, List.zipIdx_cons, List.zipIdx_nil, List.all_cons, List.all_nil, Option.getD_some, Option.map_some, if_true, if_false, Nat.reduceEqDiff, Nat.reduceAdd, Nat.add_zero, Nat.zero_add, Nat.mul_one, Nat.zero_ne_one, reduceCtorEq, Bool.not_true, Bool.not_false, Bool.and_true, Bool.false_eq_true, eq_self, true_and, and_self, freeze, lidsL, lids, List.flatMap_cons, List.flatMap_nil, List.all_cons, ren, renL, renR, Int.toNat_zero, Int.toNat_one, *]
      | simp (disch := omega) only [getD_ints, wrapI]
      | (with_reducible show wcall _ false (.lit (.func (.func 46) _ _)) _ _ _ _; refine wcall_fn (h46a) ?_ ?_ ?_; (next => simp [rfyL, rfy, hget, ints, take_rfy, plainR_gR, Int.toNat_zero, Int.toNat_one]); (next => simp [plainL, plain, plainR, plainR_gR, Int.toNat_zero, Int.toNat_one]))
      | (with_reducible show wcallX _ false (.lit (.func (.func 46) _ _)) _ _ _ _; refine wcallX_fn (h46a) ?_ ?_ ?_; (next => simp [rfyL, rfy, hget, ints, take_rfy, plainR_gR, Int.toNat_zero, Int.toNat_one]); (next => simp [plainL, plain, plainR, plainR_gR, Int.toNat_zero, Int.toNat_one]))
      | (with_reducible show wcall _ false (.lit (.func (.func 46) _ _)) _ _ _ _; refine wcall_fn (h46b) ?_ ?_ ?_; (next => simp [rfyL, rfy, hget, ints, take_rfy, plainR_gR, Int.toNat_zero, Int.toNat_one]); (next => simp [plainL, plain, plainR, plainR_gR, Int.toNat_zero, Int.toNat_one]))
      | (with_reducible show wcallX _ false (.lit (.func (.func 46) _ _)) _ _ _ _; refine wcallX_fn (h46b) ?_ ?_ ?_; (next => simp [rfyL, rfy, hget, ints, take_rfy, plainR_gR, Int.toNat_zero, Int.toNat_one]); (next => simp [plainL, plain, plainR, plainR_gR, Int.toNat_zero, Int.toNat_one]))
      | omega)
    all_goals first | rfl
set_option maxHeartbeats 8000000 in
theorem k55 (nil : Bool) (l : List Gr) (a b : Int) (hl : l.length < 1000000) (hR : GOk l) (hdp : dpB a b = true) : Gv (shd (tr l b 1000000 a [] 0 none)) Try.prog 55 [gts nil l, prV a b] (shW (tr l b 1000000 a [] 0 none)) := by
  refine gv_of e55 ?_
  have h46a := k46 a
  have h46b := k46 b
  have hab : (0 ≤ a ∧ a ≤ 1000000) ∧ 0 ≤ b ∧ b ≤ 1000000 := by unfold dpB at hdp; simpa using hdp
  have hz := fun H => k94z (id := 1) (nil := nil) (w := b) hl hR 999999 a hab.1 (by omega) (by omega) H
  unfold dpB at hdp
  simp only [Bool.and_eq_true] at hdp
  rw [hdp.1.1, hdp.1.2] at h46a
  rw [hdp.2.1, hdp.2.2] at h46b
  clear hab hdp hR
  generalize tr l b 1000000 a [] 0 none = o at *
  replace hz := PLift.up hz
  unfold c55
  repeat' (first
    | ((with_reducible refine T_calm ?_ ?_); rfl)
    | with_reducible first
      | refine T_seq ?_
      | refine T_reg ?_
      | refine T_draw ?_
      | refine T_skip ?_
      | refine T_exit ?_
      | refine T_block ?_
      | refine T_cond_t rfl ?_
      | refine T_cond_f rfl ?_
      | refine wdW_cons rfl ?_
      | (show wcall _ false (.lit (.func (.func 46) _ _)) _ _ _ _; refine wcall_fn (h46a) rfl (by simp [plainL, plain]) ?_)
      | (show wcallX _ false (.lit (.func (.func 46) _ _)) _ _ _ _; refine wcallX_fn (h46a) rfl (by simp [plainL, plain, plainR, plainR_gR, Int.toNat_zero, Int.toNat_one]) ?_)
      | (show wcall _ false (.lit (.func (.func 46) _ _)) _ _ _ _; refine wcall_fn (h46b) rfl (by simp [plainL, plain]) ?_)
      | (show wcallX _ false (.lit (.func (.func 46) _ _)) _ _ _ _; refine wcallX_fn (h46b) rfl (by simp [plainL, plain, plainR, plainR_gR, Int.toNat_zero, Int.toNat_one]) ?_)
      | ((first | refine T_cond rfl (fun hc => ?_) (fun hc => ?_) | refine wguard_split (fun hc => ?_) (fun hc => ?_) | refine wguardX_split (fun hc => ?_) (fun hc => ?_)) <;> have hd := hc <;> (try simp (disch := omega) only [wrapI] at hd) <;> have hs := hd <;> (try simp only [Bool.not_eq_true', Bool.not_eq_false', Bool.and_eq_true, Bool.and_eq_false_iff, Bool.or_eq_true, Bool.or_eq_false_iff, decide_eq_true_eq, decide_eq_false_iff_not, beq_iff_eq, bne_iff_ne, beq_eq_false_iff_ne, bne_eq_false_iff_eq, Bool.not_true, Bool.not_false, gt_iff_lt, ge_iff_le, Int.not_lt, Int.not_le, ne_eq, Decidable.not_not] at hd) <;> (try simp at hs))
      | refine T_ret ?_
      | refine wif_intro ?_ (fun hc => ?_)
      | refine And.intro ?_ ?_
      | intro hc
    | simp (maxSteps := 4000000) only [wops_nil, wops_cons, wstep_none, wstep_some, wguard_ff, wrun_call, wrun_mv, wrun_pick, wrun_not, wrun_build, wrun_load, wrun_iaddrA, wrun_box, wop, aop, ev, look, put_some, writes, ores_some, ores_ite_none, wif_true, thenK, boolV, value, cut, hget, fillA, AV.parts, isOne, toLits, mkAgg, ofValue_int, List.map_cons, List.map_nil, List.length_cons, List.length_nil, List.getElem?_cons_zero, List.getElem?_cons_succ, List.set_cons_zero, List.set_cons_succ, List.take_succ_cons, List.take_zero, List.take_nil, List.drop_succ_cons, List.drop_zero, List.cons_append, List.nil_append, List.append_nil, List.replicate_zero, List.replicate_succ, List.getD_cons_zero, List.zipIdx_cons, List.zipIdx_nil, List.all_cons, List.all_nil, Option.getD_some, Option.map_some, if_true, if_false, Nat.reduceEqDiff, Nat.reduceAdd, Nat.add_zero, Nat.zero_add, Nat.mul_one, Nat.zero_ne_one, reduceCtorEq, Bool.not_true, Bool.and_true, Bool.false_eq_true, eq_self, true_and, and_self, freeze, lidsL, lids, List.flatMap_cons, List.flatMap_nil, List.all_cons, ren, Int.toNat_zero, Int.toNat_one, *]
    | simp (disch := omega) only [getD_ints, wrapI]
    | (with_reducible show wcall _ false (.lit (.func (.func 46) _ _)) _ _ _ _; refine wcall_fn (h46a) ?_ ?_ ?_; (next => simp [rfyL, rfy, hget, ints, take_rfy, plainR_gR, Int.toNat_zero, Int.toNat_one]); (next => simp [plainL, plain, plainR, plainR_gR, Int.toNat_zero, Int.toNat_one]))
    | (with_reducible show wcallX _ false (.lit (.func (.func 46) _ _)) _ _ _ _; refine wcallX_fn (h46a) ?_ ?_ ?_; (next => simp [rfyL, rfy, hget, ints, take_rfy, plainR_gR, Int.toNat_zero, Int.toNat_one]); (next => simp [plainL, plain, plainR, plainR_gR, Int.toNat_zero, Int.toNat_one]))
    | (with_reducible show wcall _ false (.lit (.func (.func 46) _ _)) _ _ _ _; refine wcall_fn (h46b) ?_ ?_ ?_; (next => simp [rfyL, rfy, hget, ints, take_rfy, plainR_gR, Int.toNat_zero, Int.toNat_one]); (next => simp [plainL, plain, plainR, plainR_gR, Int.toNat_zero, Int.toNat_one]))
    | (with_reducible show wcallX _ false (.lit (.func (.func 46) _ _)) _ _ _ _; refine wcallX_fn (h46b) ?_ ?_ ?_; (next => simp [rfyL, rfy, hget, ints, take_rfy, plainR_gR, Int.toNat_zero, Int.toNat_one]); (next => simp [plainL, plain, plainR, plainR_gR, Int.toNat_zero, Int.toNat_one]))
    | omega)
  refine wcall_raw ((hz.down _ ?_).mono fun r H' hQ => ?_)
  · rfl
  obtain ⟨hsb, _⟩ := hQ
  clear hz h46a h46b
  cases o with
  | none =>
    have h1 : H'[1]? = some (.cells true false 3 [[.sl true 0 [], i64 0, bl false]]) := hsb
    clear hsb
    repeat' (first
      | ((with_reducible refine T_calm ?_ ?_); rfl)
      | with_reducible first
        | refine T_seq ?_
        | refine T_reg ?_
        | refine T_draw ?_
        | refine T_skip ?_
        | refine T_exit ?_
        | refine T_block ?_
        | refine T_cond_t rfl ?_
        | refine T_cond_f rfl ?_
        | refine wdW_cons rfl ?_
        | ((first | refine T_cond rfl (fun hc => ?_) (fun hc => ?_) | refine wguard_split (fun hc => ?_) (fun hc => ?_) | refine wguardX_split (fun hc => ?_) (fun hc => ?_)) <;> have hd := hc <;> (try simp (disch := omega) only [wrapI] at hd) <;> have hs := hd <;> (try simp only [Bool.not_eq_true', Bool.not_eq_false', Bool.and_eq_true, Bool.and_eq_false_iff, Bool.or_eq_true, Bool.or_eq_false_iff, decide_eq_true_eq, decide_eq_false_iff_not, beq_iff_eq, bne_iff_ne, beq_eq_false_iff_ne, bne_eq_false_iff_eq, Bool.not_true, Bool.not_false, gt_iff_lt, ge_iff_le, Int.not_lt, Int.not_le, ne_eq, Decidable.not_not] at hd) <;> (try simp at hs))
        | refine T_ret ?_
        | refine wif_intro ?_ (fun hc => ?_)
        | refine And.intro ?_ ?_
        | intro hc
      | simp (maxSteps := 4000000) only [wops_nil, wops_cons, wstep_none, wrun_mv, wrun_not, wrun_load, wrun_faddr, wrun_nilck, wop, aop, ev, look, put_some, writes, ores_some, thenK, boolV, value, cut, hget, mkAgg, List.length_cons, List.length_nil, List.take_succ_cons, List.take_nil, List.drop_succ_cons, List.drop_zero, List.append_nil, List.replicate_zero, List.getD_cons_zero, Option.getD_some, Option.map_some, if_true, if_false, Nat.reduceEqDiff, Nat.zero_add, reduceCtorEq, Bool.not_false, Bool.false_eq_true, eq_self, *]
      | simp (disch := omega) only [getD_ints, wrapI]
      | omega)
    all_goals first | exact leave_g (.inr rfl) _ rfl rfl rfl
  | some x =>
    obtain ⟨p, m⟩ := x
    obtain ⟨i, bi, g1, g2⟩ := hsb
    have hr : rfy (hget H') 1 (.lsl i 0 p.length) = ints false p := SB.rds (id := 0) g2
    have hpl : plainR (p.map fun x => [i64 x]) = true := plainR_ints p
    replace hr := PLift.up hr
    replace hpl := PLift.up hpl
    repeat' (first
      | ((with_reducible refine T_calm ?_ ?_); rfl)
      | with_reducible first
        | refine T_seq ?_
        | refine T_reg ?_
        | refine T_draw ?_
        | refine T_skip ?_
        | refine T_exit ?_
        | refine T_block ?_
        | refine T_cond_t rfl ?_
        | refine T_cond_f rfl ?_
        | refine wdW_cons rfl ?_
        | ((first | refine T_cond rfl (fun hc => ?_) (fun hc => ?_) | refine wguard_split (fun hc => ?_) (fun hc => ?_) | refine wguardX_split (fun hc => ?_) (fun hc => ?_)) <;> have hd := hc <;> (try simp (disch := omega) only [wrapI] at hd) <;> have hs := hd <;> (try simp only [Bool.not_eq_true', Bool.not_eq_false', Bool.and_eq_true, Bool.and_eq_false_iff, Bool.or_eq_true, Bool.or_eq_false_iff, decide_eq_true_eq, decide_eq_false_iff_not, beq_iff_eq, bne_iff_ne, beq_eq_false_iff_ne, bne_eq_false_iff_eq, Bool.not_true, Bool.not_false, gt_iff_lt, ge_iff_le, Int.not_lt, Int.not_le, ne_eq, Decidable.not_not] at hd) <;> (try simp at hs))
        | refine T_ret ?_
        | refine wif_intro ?_ (fun hc => ?_)
        | refine And.intro ?_ ?_
        | intro hc
      | simp (maxSteps := 4000000) only [wops_nil, wops_cons, wstep_none, wrun_mv, wrun_not, wrun_load, wrun_faddr, wrun_nilck, wop, aop, ev, look, put_some, writes, ores_some, thenK, boolV, value, cut, hget, mkAgg, List.map_cons, List.map_nil, List.length_cons, List.length_nil, List.take_succ_cons, List.take_zero, List.take_nil, List.drop_succ_cons, List.drop_zero, List.append_nil, List.replicate_zero, List.getD_cons_zero, Option.getD_some, Option.map_some, if_true, if_false, Nat.reduceEqDiff, Nat.add_zero, Nat.zero_add, reduceCtorEq, Bool.not_true, Bool.false_eq_true, eq_self, *]
      | simp (disch := omega) only [getD_ints, wrapI]
      | omega)
    show leaveG 1 _ _ _ _
    refine leave_g (.inr rfl) [.lsl i 0 p.length, i64 m, i64 0] rfl ?_ ?_
    · show [rfy (hget H') 1 (.lsl i 0 p.length), i64 m, i64 0] = _
      rw [hr.down]; rfl
    · simp only [plainL, plain, shW, hpl.down]; rfl
end Go.Abs
