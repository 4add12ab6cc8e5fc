import Derived.Test.YtpfmamngjefohaaK9
import Derived.Test.YtpfmamngjefohaaK22x
import Derived.Test.YtpfmamngjefohaaK210
import Derived.Test.YtpfmamngjefohaaK65x
set_option linter.all false
set_option linter.unusedVariables false
set_option linter.unusedSimpArgs false
set_option linter.unusedSectionVars false
namespace Go.Abs
open Go.Proofs
/-! GrindShortest -/
set_option maxHeartbeats 8000000 in
theorem k10early (nil : Bool) (l : List Gr) (a b : Int) (hl0 : l.length ≤ 9223372036854775807) (hg : gritB l = false) : Fn Try.prog 10 [gts nil l, prV a b] (bl true) [] := by
  refine fn_of e10 ?_
  have h13 := k13
  have h14 := k14 nil l hl0
  rw [hg] at h14
  clear hg
  unfold c10
  repeat' (first
    | ((with_reducible refine T_calm ?_ ?_); rfl)
    | with_reducible first
      | refine T_seq ?_
      | refine T_reg ?_
      | refine T_draw ?_
      | refine T_skip ?_
      | refine T_exit ?_
      | refine T_block ?_
      | refine T_cond_t rfl ?_
      | refine T_cond_f rfl ?_
      | refine wdW_cons rfl ?_
      | (show wcall _ false (.lit (.func (.func 13) _ _)) _ _ _ _; refine wcall_fn (h13) rfl (by simp [plainL]) ?_)
      | (show wcallX _ false (.lit (.func (.func 13) _ _)) _ _ _ _; refine wcallX_fn (h13) rfl (by simp [plainL, plain, plainR, plainR_gR]) ?_)
      | (show wcall _ false (.lit (.func (.func 14) _ _)) _ _ _ _; refine wcall_fn (h14) rfl (by simp [plainL, plain, plainR_gR]) ?_)
      | (show wcallX _ false (.lit (.func (.func 14) _ _)) _ _ _ _; refine wcallX_fn (h14) rfl (by simp [plainL, plain, plainR, plainR_gR]) ?_)
      | ((first | refine T_cond rfl (fun hc => ?_) (fun hc => ?_) | refine wguard_split (fun hc => ?_) (fun hc => ?_) | refine wguardX_split (fun hc => ?_) (fun hc => ?_)) <;> have hd := hc <;> (try simp (disch := omega) only [wrapI] at hd) <;> have hs := hd <;> (try simp only [Bool.not_eq_true', Bool.not_eq_false', Bool.and_eq_true, Bool.and_eq_false_iff, Bool.or_eq_true, Bool.or_eq_false_iff, decide_eq_true_eq, decide_eq_false_iff_not, beq_iff_eq, bne_iff_ne, beq_eq_false_iff_ne, bne_eq_false_iff_eq, Bool.not_true, Bool.not_false, gt_iff_lt, ge_iff_le, Int.not_lt, Int.not_le, ne_eq, Decidable.not_not] at hd) <;> (try simp at hs))
      | refine T_ret ?_
      | refine leave_of (.inr rfl) _ rfl ?_
      | refine leave_of (.inl rfl) _ rfl ?_
      | refine leaveA_of (.inr rfl) _ rfl ?_
      | refine leaveA_of (.inl rfl) _ rfl ?_
      | refine wif_intro ?_ (fun hc => ?_)
      | refine And.intro ?_ ?_
      | intro hc
    | simp (maxSteps := 4000000) only [wops_nil, wops_cons, wstep_none, wrun_call, wrun_mv, wrun_not, wrun_box, get_mk, wop, aop, ev, look, put_some, writes, ores_some, thenK, boolV, AV.parts, isOne, tupOf, ofValue_int, List.map_cons, List.map_nil, List.length_cons, List.length_nil, List.getElem?_cons_zero, List.set_cons_zero, List.nil_append, List.append_nil, List.replicate_zero, List.replicate_succ, List.zipIdx_cons, List.zipIdx_nil, List.all_cons, List.all_nil, if_true, if_false, Nat.reduceEqDiff, Nat.reduceAdd, Nat.add_zero, Nat.zero_add, Nat.zero_ne_one, reduceCtorEq, Bool.not_true, Bool.not_false, Bool.and_true, eq_self, true_and, and_self, freeze, lidsL, lids, List.flatMap_cons, List.flatMap_nil, List.all_cons, ren, *]
    | simp (disch := omega) only [getD_ints, wrapI]
    | (with_reducible show wcall _ false (.lit (.func (.func 13) _ _)) _ _ _ _; refine wcall_fn (h13) ?_ ?_ ?_; (next => simp [rfyL, rfy, hget, ints, take_rfy, plainR_gR]); (next => simp [plainL, plain, plainR, plainR_gR]))
    | (with_reducible show wcallX _ false (.lit (.func (.func 13) _ _)) _ _ _ _; refine wcallX_fn (h13) ?_ ?_ ?_; (next => simp [rfyL, rfy, hget, ints, take_rfy, plainR_gR]); (next => simp [plainL, plain, plainR, plainR_gR]))
    | (with_reducible show wcall _ false (.lit (.func (.func 14) _ _)) _ _ _ _; refine wcall_fn (h14) ?_ ?_ ?_; (next => simp [rfyL, rfy, hget, ints, take_rfy, plainR_gR]); (next => simp [plainL, plain, plainR, plainR_gR]))
    | (with_reducible show wcallX _ false (.lit (.func (.func 14) _ _)) _ _ _ _; refine wcallX_fn (h14) ?_ ?_ ?_; (next => simp [rfyL, rfy, hget, ints, take_rfy, plainR_gR]); (next => simp [plainL, plain, plainR, plainR_gR]))
    | omega)
  all_goals first | rfl
set_option maxHeartbeats 8000000 in
theorem k10err (nil : Bool) (l : List Gr) (a b : Int) (hl : l.length < 1000000) (hsz : ∀ k, k < l.length → (l.getD k gr0).nm.size ≤ 30) (h14 : Fn Try.prog 14 [gts nil l] (bl true) []) (h0 : gE l ≠ 0) : Fn Try.prog 10 [gts nil l, prV a b] (bl true) [] := by
  refine fn_of e10 ?_
  have h13 := k13
  have hll := gR_len l
  have h17 := k17 nil l hl
  have h44 := k44 nil l hl hsz
  have h16 := k16e false l a b hl hsz (.inl h0)
  have ec : cdE l a b = gE l := if_pos h0
  rw [ec] at h16
  have d0 : (gE l != 0) = true := by simp only [bne_iff_ne]; exact h0
  have d1 : (gE l == gE l) = true := by simp
  clear h0 hsz ec
  generalize gE l = c at *
  unfold c10
  repeat' (first
    | ((with_reducible refine T_calm ?_ ?_); rfl)
    | with_reducible first
      | refine T_seq ?_
      | refine T_reg ?_
      | refine T_draw ?_
      | refine T_skip ?_
      | refine T_exit ?_
      | refine T_block ?_
      | refine T_cond_t rfl ?_
      | refine T_cond_f rfl ?_
      | refine wdW_cons rfl ?_
      | (show wcall _ false (.lit (.func (.func 13) _ _)) _ _ _ _; refine wcall_fn (h13) rfl (by simp [plainL]) ?_)
      | (show wcallX _ false (.lit (.func (.func 13) _ _)) _ _ _ _; refine wcallX_fn (h13) rfl (by simp [plainL, plain, plainR, Int.toNat_natCast, plainR_gR, gR_len, gR_take, gR_rfy, gR_lids, renR_gR, freeze1]) ?_)
      | (show wcall _ false (.lit (.func (.func 14) _ _)) _ _ _ _; refine wcall_fn (h14) rfl (by simp [plainL, plain, plainR_gR]) ?_)
      | (show wcallX _ false (.lit (.func (.func 14) _ _)) _ _ _ _; refine wcallX_fn (h14) rfl (by simp [plainL, plain, plainR, Int.toNat_natCast, plainR_gR, gR_len, gR_take, gR_rfy, gR_lids, renR_gR, freeze1]) ?_)
      | (show wcall _ false (.lit (.func (.func 17) _ _)) _ _ _ _; refine wcall_fn (h17) rfl (by simp [plainL, plain, plainR, Int.toNat_natCast, plainR_gR, gR_len, gR_take, gR_rfy, gR_lids, renR_gR, freeze1]) ?_)
      | (show wcallX _ false (.lit (.func (.func 17) _ _)) _ _ _ _; refine wcallX_fn (h17) rfl (by simp [plainL, plain, plainR_gR]) ?_)
      | (show wcall _ false (.lit (.func (.func 16) _ _)) _ _ _ _; refine wcall_fn (h16) rfl (by simp [plainL, plain, plainR, Int.toNat_natCast, plainR_gR, gR_len, gR_take, gR_rfy, gR_lids, renR_gR, freeze1]) ?_)
      | (show wcallX _ false (.lit (.func (.func 16) _ _)) _ _ _ _; refine wcallX_fn (h16) rfl (by simp [plainL, plain, plainR_gR]) ?_)
      | (show wcall _ false (.lit (.func (.func 44) _ _)) _ _ _ _; refine wcall_fn (h44) rfl (by simp [plainL, plain, plainR_gR]) ?_)
      | (show wcallX _ false (.lit (.func (.func 44) _ _)) _ _ _ _; refine wcallX_fn (h44) rfl (by simp [plainL, plain, plainR, Int.toNat_natCast, plainR_gR, gR_len, gR_take, gR_rfy, gR_lids, renR_gR, freeze1]) ?_)
      | ((first | refine T_cond rfl (fun hc => ?_) (fun hc => ?_) | refine wguard_split (fun hc => ?_) (fun hc => ?_) | refine wguardX_split (fun hc => ?_) (fun hc => ?_)) <;> have hd := hc <;> (try simp (disch := omega) only [wrapI] at hd) <;> have hs := hd <;> (try simp only [beq_iff_eq, beq_eq_false_iff_ne, Bool.not_true, ne_eq] at hd) <;> (try simp at hs))
      | refine T_ret ?_
      | refine leave_of (.inr rfl) _ rfl ?_
      | refine leave_of (.inl rfl) _ rfl ?_
      | refine leaveA_of (.inr rfl) _ rfl ?_
      | refine leaveA_of (.inl rfl) _ rfl ?_
      | refine wif_intro ?_ (fun hc => ?_)
      | refine And.intro ?_ ?_
      | intro hc
    | simp (maxSteps := 4000000) only [wops_nil, wops_cons, wstep_none, wstep_some, wguard_true, wrun_call, wrun_mv, wrun_pick, wrun_bin, wrun_not, wrun_ext, wrun_load, wrun_len, wrun_box, wrunX_mv, wrunX_ext, wrunX_load, wdW_nil, wstepX_none, wrunX_call, get_mk, wop, aop, ev, look, put_some, writes, ores_some, ores_map, ores_bind, binV, thenK, boolV, intV, lenOf, value, cut, hget, AV.parts, isOne, toLits, mkAgg, tupOf, ofValue_int, List.map_cons, List.map_nil, List.length_cons, List.length_nil, List.getElem?_cons_zero, List.getElem?_cons_succ, List.set_cons_zero, List.set_cons_succ, List.take_succ_cons, List.take_nil, List.drop_zero, List.cons_append, List.nil_append, List.append_nil, List.replicate_zero, List.replicate_succ, List.getD_cons_zero, List.zipIdx_cons, List.zipIdx_nil, List.all_cons, List.all_nil, Option.pure_def, Option.bind_eq_bind, Option.getD_some, Option.map_some, if_true, if_false, Nat.reduceEqDiff, Nat.reduceAdd, Nat.add_zero, Nat.zero_add, Nat.zero_ne_one, reduceCtorEq, Bool.not_true, Bool.and_true, eq_self, true_and, and_self, beq_self_eq_true, freeze, lidsL, lids, List.flatMap_cons, List.flatMap_nil, List.all_cons, ren, renL, renR, renB, shiftρ, gR_take, gR_lids, renR_gR, freeze1, *]
    | simp (disch := omega) only [getD_ints, wrapI]
    | (with_reducible show wcall _ false (.lit (.func (.func 13) _ _)) _ _ _ _; refine wcall_fn (h13) ?_ ?_ ?_; (next => simp [rfyL, rfy, hget, ints, take_rfy, Int.toNat_natCast, plainR_gR, gR_len, gR_take, gR_rfy, gR_lids, renR_gR, freeze1]); (next => simp [plainL, plain, plainR, Int.toNat_natCast, plainR_gR, gR_len, gR_take, gR_rfy, gR_lids, renR_gR, freeze1]))
    | (with_reducible show wcallX _ false (.lit (.func (.func 13) _ _)) _ _ _ _; refine wcallX_fn (h13) ?_ ?_ ?_; (next => simp [rfyL, rfy, hget, ints, take_rfy, Int.toNat_natCast, plainR_gR, gR_len, gR_take, gR_rfy, gR_lids, renR_gR, freeze1]); (next => simp [plainL, plain, plainR, Int.toNat_natCast, plainR_gR, gR_len, gR_take, gR_rfy, gR_lids, renR_gR, freeze1]))
    | (with_reducible show wcall _ false (.lit (.func (.func 14) _ _)) _ _ _ _; refine wcall_fn (h14) ?_ ?_ ?_; (next => simp [rfyL, rfy, hget, ints, take_rfy, Int.toNat_natCast, plainR_gR, gR_len, gR_take, gR_rfy, gR_lids, renR_gR, freeze1]); (next => simp [plainL, plain, plainR, Int.toNat_natCast, plainR_gR, gR_len, gR_take, gR_rfy, gR_lids, renR_gR, freeze1]))
    | (with_reducible show wcallX _ false (.lit (.func (.func 14) _ _)) _ _ _ _; refine wcallX_fn (h14) ?_ ?_ ?_; (next => simp [rfyL, rfy, hget, ints, take_rfy, Int.toNat_natCast, plainR_gR, gR_len, gR_take, gR_rfy, gR_lids, renR_gR, freeze1]); (next => simp [plainL, plain, plainR, Int.toNat_natCast, plainR_gR, gR_len, gR_take, gR_rfy, gR_lids, renR_gR, freeze1]))
    | (with_reducible show wcall _ false (.lit (.func (.func 17) _ _)) _ _ _ _; refine wcall_fn (h17) ?_ ?_ ?_; (next => simp [rfyL, rfy, hget, ints, take_rfy, Int.toNat_natCast, plainR_gR, gR_len, gR_take, gR_rfy, gR_lids, renR_gR, freeze1]); (next => simp [plainL, plain, plainR, Int.toNat_natCast, plainR_gR, gR_len, gR_take, gR_rfy, gR_lids, renR_gR, freeze1]))
    | (with_reducible show wcallX _ false (.lit (.func (.func 17) _ _)) _ _ _ _; refine wcallX_fn (h17) ?_ ?_ ?_; (next => simp [rfyL, rfy, hget, ints, take_rfy, Int.toNat_natCast, plainR_gR, gR_len, gR_take, gR_rfy, gR_lids, renR_gR, freeze1]); (next => simp [plainL, plain, plainR, Int.toNat_natCast, plainR_gR, gR_len, gR_take, gR_rfy, gR_lids, renR_gR, freeze1]))
    | (with_reducible show wcall _ false (.lit (.func (.func 16) _ _)) _ _ _ _; refine wcall_fn (h16) ?_ ?_ ?_; (next => simp [rfyL, rfy, hget, ints, take_rfy, Int.toNat_natCast, plainR_gR, gR_len, gR_take, gR_rfy, gR_lids, renR_gR, freeze1]); (next => simp [plainL, plain, plainR, Int.toNat_natCast, plainR_gR, gR_len, gR_take, gR_rfy, gR_lids, renR_gR, freeze1]))
    | (with_reducible show wcallX _ false (.lit (.func (.func 16) _ _)) _ _ _ _; refine wcallX_fn (h16) ?_ ?_ ?_; (next => simp [rfyL, rfy, hget, gR_len, gR_take, gR_rfy]); (next => simp [plainL, plain, plainR_gR]))
    | (with_reducible show wcall _ false (.lit (.func (.func 44) _ _)) _ _ _ _; refine wcall_fn (h44) ?_ ?_ ?_; (next => simp [rfyL, rfy, hget, ints, take_rfy, Int.toNat_natCast, plainR_gR, gR_len, gR_take, gR_rfy, gR_lids, renR_gR, freeze1]); (next => simp [plainL, plain, plainR, Int.toNat_natCast, plainR_gR, gR_len, gR_take, gR_rfy, gR_lids, renR_gR, freeze1]))
    | (with_reducible show wcallX _ false (.lit (.func (.func 44) _ _)) _ _ _ _; refine wcallX_fn (h44) ?_ ?_ ?_; (next => simp [rfyL, rfy, hget, ints, take_rfy, Int.toNat_natCast, plainR_gR, gR_len, gR_take, gR_rfy, gR_lids, renR_gR, freeze1]); (next => simp [plainL, plain, plainR, Int.toNat_natCast, plainR_gR, gR_len, gR_take, gR_rfy, gR_lids, renR_gR, freeze1]))
    | omega)
  all_goals first | rfl
set_option maxHeartbeats 8000000 in
theorem k10none (nil : Bool) (l : List Gr) (a b c : Int) (hc0 : c ≠ 0) (hl : l.length < 1000000) (hsz : ∀ k, k < l.length → (l.getD k gr0).nm.size ≤ 30) (h14 : Fn Try.prog 14 [gts nil l] (bl true) []) (h0 : gE l = 0) (h16 : Fn Try.prog 16 [gts false l, prV a b] (.tup [.sl true 0 [], i64 0, i64 c]) []) (h55 : Gv 0 Try.prog 55 [gts nil l, prV a b] [.sl true 0 [], i64 0, i64 c]) : Fn Try.prog 10 [gts nil l, prV a b] (bl true) [] := by
  refine fn_of e10 ?_
  have h13 := k13
  have hll := gR_len l
  have h17 := k17 nil l hl
  have h44 := k44 nil l hl hsz
  have h34 := k34z1
  rw [h0] at h44
  have d0 : (c != 0) = true := by simp only [bne_iff_ne]; exact hc0
  have d1 : (c != c) = false := by simp
  clear h0 hsz hc0
  replace h55 := And.intro h55 trivial
  unfold c10
  repeat' (first
    | ((with_reducible refine T_calm ?_ ?_); rfl)
    | with_reducible first
      | refine T_seq ?_
      | refine T_reg ?_
      | refine T_draw ?_
      | refine T_skip ?_
      | refine T_exit ?_
      | refine T_block ?_
      | refine T_cond_t rfl ?_
      | refine T_cond_f rfl ?_
      | refine wdW_cons rfl ?_
      | (show wcall _ false (.lit (.func (.func 13) _ _)) _ _ _ _; refine wcall_fn (h13) rfl (by simp [plainL]) ?_)
      | (show wcallX _ false (.lit (.func (.func 13) _ _)) _ _ _ _; refine wcallX_fn (h13) rfl (by simp [plainL, plain, plainR, Int.toNat_natCast, plainR_gR, gR_len, gR_take, gR_rfy, gR_lids, renR_gR, freeze1]) ?_)
      | (show wcall _ false (.lit (.func (.func 14) _ _)) _ _ _ _; refine wcall_fn (h14) rfl (by simp [plainL, plain, plainR_gR]) ?_)
      | (show wcallX _ false (.lit (.func (.func 14) _ _)) _ _ _ _; refine wcallX_fn (h14) rfl (by simp [plainL, plain, plainR, Int.toNat_natCast, plainR_gR, gR_len, gR_take, gR_rfy, gR_lids, renR_gR, freeze1]) ?_)
      | (show wcall _ false (.lit (.func (.func 17) _ _)) _ _ _ _; refine wcall_fn (h17) rfl (by simp [plainL, plain, plainR, Int.toNat_natCast, plainR_gR, gR_len, gR_take, gR_rfy, gR_lids, renR_gR, freeze1]) ?_)
      | (show wcallX _ false (.lit (.func (.func 17) _ _)) _ _ _ _; refine wcallX_fn (h17) rfl (by simp [plainL, plain, plainR_gR]) ?_)
      | (show wcall _ false (.lit (.func (.func 16) _ _)) _ _ _ _; refine wcall_fn (h16) rfl (by simp [plainL, plain, plainR, Int.toNat_natCast, plainR_gR, gR_len, gR_take, gR_rfy, gR_lids, renR_gR, freeze1]) ?_)
      | (show wcallX _ false (.lit (.func (.func 16) _ _)) _ _ _ _; refine wcallX_fn (h16) rfl (by simp [plainL, plain, plainR_gR]) ?_)
      | (show wcall _ false (.lit (.func (.func 44) _ _)) _ _ _ _; refine wcall_fn (h44) rfl (by simp [plainL, plain, plainR_gR]) ?_)
      | (show wcallX _ false (.lit (.func (.func 44) _ _)) _ _ _ _; refine wcallX_fn (h44) rfl (by simp [plainL, plain, plainR, Int.toNat_natCast, plainR_gR, gR_len, gR_take, gR_rfy, gR_lids, renR_gR, freeze1]) ?_)
      | ((first | refine T_cond rfl (fun hc => ?_) (fun hc => ?_) | refine wguard_split (fun hc => ?_) (fun hc => ?_) | refine wguardX_split (fun hc => ?_) (fun hc => ?_)) <;> have hd := hc <;> (try simp (disch := omega) only [wrapI] at hd) <;> have hs := hd <;> (try simp only [Bool.not_eq_true', Bool.not_eq_false', Bool.and_eq_true, Bool.and_eq_false_iff, Bool.or_eq_true, Bool.or_eq_false_iff, decide_eq_true_eq, decide_eq_false_iff_not, beq_iff_eq, bne_iff_ne, beq_eq_false_iff_ne, bne_eq_false_iff_eq, Bool.not_true, Bool.not_false, gt_iff_lt, ge_iff_le, Int.not_lt, Int.not_le, ne_eq, Decidable.not_not] at hd) <;> (try simp at hs))
      | refine T_ret ?_
      | refine leave_of (.inr rfl) _ rfl ?_
      | refine leave_of (.inl rfl) _ rfl ?_
      | refine leaveA_of (.inr rfl) _ rfl ?_
      | refine leaveA_of (.inl rfl) _ rfl ?_
      | refine wif_intro ?_ (fun hc => ?_)
      | refine And.intro ?_ ?_
      | intro hc
    | simp (maxSteps := 4000000) only [wops_nil, wops_cons, wstep_none, wrun_call, wrun_mv, wrun_bin, wrun_not, wrun_ext, wrun_load, wrun_box, wrunX_mv, wrunX_ext, wrunX_load, wdW_nil, wstepX_none, wrunX_call, wop, aop, ev, look, put_some, writes, ores_some, binV, thenK, boolV, value, cut, hget, AV.parts, isOne, toLits, mkAgg, ofValue_int, List.map_cons, List.map_nil, List.length_cons, List.length_nil, List.getElem?_cons_zero, List.getElem?_cons_succ, List.set_cons_zero, List.set_cons_succ, List.take_succ_cons, List.take_nil, List.drop_zero, List.cons_append, List.nil_append, List.append_nil, List.replicate_zero, List.replicate_succ, List.getD_cons_zero, List.zipIdx_cons, List.zipIdx_nil, List.all_cons, List.all_nil, Option.getD_some, Option.map_some, if_true, if_false, Nat.reduceEqDiff, Nat.reduceAdd, Nat.add_zero, Nat.zero_add, Nat.zero_ne_one, reduceCtorEq, Bool.not_true, Bool.and_true, eq_self, true_and, and_self, freeze, lidsL, lids, List.flatMap_cons, List.flatMap_nil, List.all_cons, ren, renL, renR, renB, shiftρ, gR_take, gR_lids, renR_gR, freeze1, *]
    | simp (disch := omega) only [getD_ints, wrapI]
    | (with_reducible show wcall _ false (.lit (.func (.func 13) _ _)) _ _ _ _; refine wcall_fn (h13) ?_ ?_ ?_; (next => simp [rfyL, rfy, hget, ints, take_rfy, Int.toNat_natCast, plainR_gR, gR_len, gR_take, gR_rfy, gR_lids, renR_gR, freeze1]); (next => simp [plainL, plain, plainR, Int.toNat_natCast, plainR_gR, gR_len, gR_take, gR_rfy, gR_lids, renR_gR, freeze1]))
    | (with_reducible show wcallX _ false (.lit (.func (.func 13) _ _)) _ _ _ _; refine wcallX_fn (h13) ?_ ?_ ?_; (next => simp [rfyL, rfy, hget, ints, take_rfy, Int.toNat_natCast, plainR_gR, gR_len, gR_take, gR_rfy, gR_lids, renR_gR, freeze1]); (next => simp [plainL, plain, plainR, Int.toNat_natCast, plainR_gR, gR_len, gR_take, gR_rfy, gR_lids, renR_gR, freeze1]))
    | (with_reducible show wcall _ false (.lit (.func (.func 14) _ _)) _ _ _ _; refine wcall_fn (h14) ?_ ?_ ?_; (next => simp [rfyL, rfy, hget, ints, take_rfy, Int.toNat_natCast, plainR_gR, gR_len, gR_take, gR_rfy, gR_lids, renR_gR, freeze1]); (next => simp [plainL, plain, plainR, Int.toNat_natCast, plainR_gR, gR_len, gR_take, gR_rfy, gR_lids, renR_gR, freeze1]))
    | (with_reducible show wcallX _ false (.lit (.func (.func 14) _ _)) _ _ _ _; refine wcallX_fn (h14) ?_ ?_ ?_; (next => simp [rfyL, rfy, hget, ints, take_rfy, Int.toNat_natCast, plainR_gR, gR_len, gR_take, gR_rfy, gR_lids, renR_gR, freeze1]); (next => simp [plainL, plain, plainR, Int.toNat_natCast, plainR_gR, gR_len, gR_take, gR_rfy, gR_lids, renR_gR, freeze1]))
    | (with_reducible show wcall _ false (.lit (.func (.func 17) _ _)) _ _ _ _; refine wcall_fn (h17) ?_ ?_ ?_; (next => simp [rfyL, rfy, hget, ints, take_rfy, Int.toNat_natCast, plainR_gR, gR_len, gR_take, gR_rfy, gR_lids, renR_gR, freeze1]); (next => simp [plainL, plain, plainR, Int.toNat_natCast, plainR_gR, gR_len, gR_take, gR_rfy, gR_lids, renR_gR, freeze1]))
    | (with_reducible show wcallX _ false (.lit (.func (.func 17) _ _)) _ _ _ _; refine wcallX_fn (h17) ?_ ?_ ?_; (next => simp [rfyL, rfy, hget, ints, take_rfy, Int.toNat_natCast, plainR_gR, gR_len, gR_take, gR_rfy, gR_lids, renR_gR, freeze1]); (next => simp [plainL, plain, plainR, Int.toNat_natCast, plainR_gR, gR_len, gR_take, gR_rfy, gR_lids, renR_gR, freeze1]))
    | (with_reducible show wcall _ false (.lit (.func (.func 16) _ _)) _ _ _ _; refine wcall_fn (h16) ?_ ?_ ?_; (next => simp [rfyL, rfy, hget, ints, take_rfy, Int.toNat_natCast, plainR_gR, gR_len, gR_take, gR_rfy, gR_lids, renR_gR, freeze1]); (next => simp [plainL, plain, plainR, Int.toNat_natCast, plainR_gR, gR_len, gR_take, gR_rfy, gR_lids, renR_gR, freeze1]))
    | (with_reducible show wcallX _ false (.lit (.func (.func 16) _ _)) _ _ _ _; refine wcallX_fn (h16) ?_ ?_ ?_; (next => simp [rfyL, rfy, hget, gR_len, gR_take, gR_rfy]); (next => simp [plainL, plain, plainR_gR]))
    | (with_reducible show wcall _ false (.lit (.func (.func 44) _ _)) _ _ _ _; refine wcall_fn (h44) ?_ ?_ ?_; (next => simp [rfyL, rfy, hget, ints, take_rfy, Int.toNat_natCast, plainR_gR, gR_len, gR_take, gR_rfy, gR_lids, renR_gR, freeze1]); (next => simp [plainL, plain, plainR, Int.toNat_natCast, plainR_gR, gR_len, gR_take, gR_rfy, gR_lids, renR_gR, freeze1]))
    | (with_reducible show wcallX _ false (.lit (.func (.func 44) _ _)) _ _ _ _; refine wcallX_fn (h44) ?_ ?_ ?_; (next => simp [rfyL, rfy, hget, ints, take_rfy, Int.toNat_natCast, plainR_gR, gR_len, gR_take, gR_rfy, gR_lids, renR_gR, freeze1]); (next => simp [plainL, plain, plainR, Int.toNat_natCast, plainR_gR, gR_len, gR_take, gR_rfy, gR_lids, renR_gR, freeze1]))
    | omega)
  refine wcall_E3 h55.1 rfl (by simp [plainL, plain, plainR_gR]) ?_
  intro v1 v2 v3 H' hx h1 h2 h3
  have := h2.lit; subst this
  have := h3.lit; subst this
  have : v1 = .sl true 0 [] := h1.1
  subst this
  clear hx h1 h2 h3 h55
  repeat' (first
    | ((with_reducible refine T_calm ?_ ?_); rfl)
    | with_reducible first
      | refine T_seq ?_
      | refine T_reg ?_
      | refine T_draw ?_
      | refine T_skip ?_
      | refine T_exit ?_
      | refine T_block ?_
      | refine T_cond_t rfl ?_
      | refine T_cond_f rfl ?_
      | refine wdW_cons rfl ?_
      | (show wcall _ false (.lit (.func (.func 34) _ _)) _ _ _ _; refine wcall_fn (h34) rfl (by simp [plainL, plain, plainR]) ?_)
      | (show wcallX _ false (.lit (.func (.func 34) _ _)) _ _ _ _; refine wcallX_fn (h34) rfl (by simp [plainL, plain, plainR, Int.toNat_natCast, plainR_gR, gR_len, gR_take, gR_rfy, gR_lids, renR_gR, freeze1]) ?_)
      | ((first | refine T_cond rfl (fun hc => ?_) (fun hc => ?_) | refine wguard_split (fun hc => ?_) (fun hc => ?_) | refine wguardX_split (fun hc => ?_) (fun hc => ?_)) <;> have hd := hc <;> (try simp (disch := omega) only [wrapI] at hd) <;> have hs := hd <;> (try simp only [bne_iff_ne, bne_eq_false_iff_eq, Bool.not_false, ne_eq] at hd) <;> (try simp at hs))
      | refine T_ret ?_
      | refine leave_of (.inr rfl) _ rfl ?_
      | refine leave_of (.inl rfl) _ rfl ?_
      | refine leaveA_of (.inr rfl) _ rfl ?_
      | refine leaveA_of (.inl rfl) _ rfl ?_
      | refine wif_intro ?_ (fun hc => ?_)
      | refine And.intro ?_ ?_
      | intro hc
    | simp (maxSteps := 4000000) only [wops_nil, wops_cons, wstep_none, wstep_some, wguard_ff, wrun_call, wrun_mv, wrun_pick, wrun_bin, wrun_not, wrun_ext, get_mk, wop, aop, ev, look, put_some, writes, ores_some, binV, thenK, boolV, tupOf, List.map_cons, List.map_nil, List.getElem?_cons_zero, List.getElem?_cons_succ, List.append_nil, List.replicate_zero, Option.map_some, if_true, if_false, Nat.reduceEqDiff, reduceCtorEq, Bool.not_true, Bool.false_eq_true, eq_self, freeze, lidsL, lids, List.flatMap_cons, List.flatMap_nil, ren, *]
    | simp (disch := omega) only [getD_ints, wrapI]
    | (with_reducible show wcall _ false (.lit (.func (.func 34) _ _)) _ _ _ _; refine wcall_fn (h34) ?_ ?_ ?_; (next => simp [rfyL, rfy, hget, ints, take_rfy, Int.toNat_natCast, plainR_gR, gR_len, gR_take, gR_rfy, gR_lids, renR_gR, freeze1]); (next => simp [plainL, plain, plainR, Int.toNat_natCast, plainR_gR, gR_len, gR_take, gR_rfy, gR_lids, renR_gR, freeze1]))
    | (with_reducible show wcallX _ false (.lit (.func (.func 34) _ _)) _ _ _ _; refine wcallX_fn (h34) ?_ ?_ ?_; (next => simp [rfyL, rfy, hget, ints, take_rfy, Int.toNat_natCast, plainR_gR, gR_len, gR_take, gR_rfy, gR_lids, renR_gR, freeze1]); (next => simp [plainL, plain, plainR, Int.toNat_natCast, plainR_gR, gR_len, gR_take, gR_rfy, gR_lids, renR_gR, freeze1]))
    | omega)
  all_goals first | rfl
set_option maxHeartbeats 8000000 in
theorem k10z (nil : Bool) (l : List Gr) (a b m : Int) (hl : l.length < 1000000) (hsz : ∀ k, k < l.length → (l.getD k gr0).nm.size ≤ 30) (h14 : Fn Try.prog 14 [gts nil l] (bl true) []) (h0 : gE l = 0) (h16 : Fn Try.prog 16 [gts false l, prV a b] (.tup [.sl true 0 [], i64 m, i64 0]) []) (h52 : Fn Try.prog 52 [gts false l, .sl true 0 [], prV a b] (.tup [i64 m, i64 0]) []) (h55 : Gv 1 Try.prog 55 [gts nil l, prV a b] [ints false [], i64 m, i64 0]) : Fn Try.prog 10 [gts nil l, prV a b] (bl true) [] := by
  refine fn_of e10 ?_
  have h13 := k13
  have hll := gR_len l
  have h17 := k17 nil l hl
  have h44 := k44 nil l hl hsz
  have h34 := k34z2
  rw [h0] at h44
  have d1 : (m != m) = false := by simp
  have d2 : (m == m) = true := by simp
  clear h0 hsz
  replace h55 := And.intro h55 trivial
  unfold c10
  repeat' (first
    | ((with_reducible refine T_calm ?_ ?_); rfl)
    | with_reducible first
      | refine T_seq ?_
      | refine T_reg ?_
      | refine T_draw ?_
      | refine T_skip ?_
      | refine T_exit ?_
      | refine T_block ?_
      | refine T_cond_t rfl ?_
      | refine T_cond_f rfl ?_
      | refine wdW_cons rfl ?_
      | (show wcall _ false (.lit (.func (.func 13) _ _)) _ _ _ _; refine wcall_fn (h13) rfl (by simp [plainL]) ?_)
      | (show wcallX _ false (.lit (.func (.func 13) _ _)) _ _ _ _; refine wcallX_fn (h13) rfl (by simp [plainL, plain, plainR, Int.toNat_natCast, plainR_gR, gR_len, gR_take, gR_rfy, gR_lids, renR_gR, freeze1]) ?_)
      | (show wcall _ false (.lit (.func (.func 14) _ _)) _ _ _ _; refine wcall_fn (h14) rfl (by simp [plainL, plain, plainR_gR]) ?_)
      | (show wcallX _ false (.lit (.func (.func 14) _ _)) _ _ _ _; refine wcallX_fn (h14) rfl (by simp [plainL, plain, plainR, Int.toNat_natCast, plainR_gR, gR_len, gR_take, gR_rfy, gR_lids, renR_gR, freeze1]) ?_)
      | (show wcall _ false (.lit (.func (.func 17) _ _)) _ _ _ _; refine wcall_fn (h17) rfl (by simp [plainL, plain, plainR, Int.toNat_natCast, plainR_gR, gR_len, gR_take, gR_rfy, gR_lids, renR_gR, freeze1]) ?_)
      | (show wcallX _ false (.lit (.func (.func 17) _ _)) _ _ _ _; refine wcallX_fn (h17) rfl (by simp [plainL, plain, plainR_gR]) ?_)
      | (show wcall _ false (.lit (.func (.func 16) _ _)) _ _ _ _; refine wcall_fn (h16) rfl (by simp [plainL, plain, plainR, Int.toNat_natCast, plainR_gR, gR_len, gR_take, gR_rfy, gR_lids, renR_gR, freeze1]) ?_)
      | (show wcallX _ false (.lit (.func (.func 16) _ _)) _ _ _ _; refine wcallX_fn (h16) rfl (by simp [plainL, plain, plainR_gR]) ?_)
      | (show wcall _ false (.lit (.func (.func 44) _ _)) _ _ _ _; refine wcall_fn (h44) rfl (by simp [plainL, plain, plainR_gR]) ?_)
      | (show wcallX _ false (.lit (.func (.func 44) _ _)) _ _ _ _; refine wcallX_fn (h44) rfl (by simp [plainL, plain, plainR, Int.toNat_natCast, plainR_gR, gR_len, gR_take, gR_rfy, gR_lids, renR_gR, freeze1]) ?_)
      | ((first | refine T_cond rfl (fun hc => ?_) (fun hc => ?_) | refine wguard_split (fun hc => ?_) (fun hc => ?_) | refine wguardX_split (fun hc => ?_) (fun hc => ?_)) <;> have hd := hc <;> (try simp (disch := omega) only [wrapI] at hd) <;> have hs := hd <;> (try simp only [Bool.not_eq_true', Bool.not_eq_false', Bool.and_eq_true, Bool.and_eq_false_iff, Bool.or_eq_true, Bool.or_eq_false_iff, decide_eq_true_eq, decide_eq_false_iff_not, beq_iff_eq, bne_iff_ne, beq_eq_false_iff_ne, bne_eq_false_iff_eq, Bool.not_true, Bool.not_false, gt_iff_lt, ge_iff_le, Int.not_lt, Int.not_le, ne_eq, Decidable.not_not] at hd) <;> (try simp at hs))
      | refine T_ret ?_
      | refine leave_of (.inr rfl) _ rfl ?_
      | refine leave_of (.inl rfl) _ rfl ?_
      | refine leaveA_of (.inr rfl) _ rfl ?_
      | refine leaveA_of (.inl rfl) _ rfl ?_
      | refine wif_intro ?_ (fun hc => ?_)
      | refine And.intro ?_ ?_
      | intro hc
    | simp (maxSteps := 4000000) only [wops_nil, wops_cons, wstep_none, wrun_call, wrun_mv, wrun_bin, wrun_not, wrun_ext, wrun_load, wrun_box, wrunX_mv, wrunX_ext, wrunX_load, wdW_nil, wstepX_none, wrunX_call, wop, aop, ev, look, put_some, writes, ores_some, binV, thenK, boolV, value, cut, hget, AV.parts, isOne, toLits, mkAgg, ofValue_int, List.map_cons, List.map_nil, List.length_cons, List.length_nil, List.getElem?_cons_zero, List.getElem?_cons_succ, List.set_cons_zero, List.set_cons_succ, List.take_succ_cons, List.take_nil, List.drop_zero, List.cons_append, List.nil_append, List.append_nil, List.replicate_zero, List.replicate_succ, List.getD_cons_zero, List.zipIdx_cons, List.zipIdx_nil, List.all_cons, List.all_nil, Option.getD_some, Option.map_some, if_true, if_false, Nat.reduceEqDiff, Nat.reduceAdd, Nat.add_zero, Nat.zero_add, Nat.zero_ne_one, reduceCtorEq, Bool.not_true, Bool.and_true, eq_self, true_and, and_self, freeze, lidsL, lids, List.flatMap_cons, List.flatMap_nil, List.all_cons, ren, renL, renR, renB, shiftρ, gR_take, gR_lids, renR_gR, freeze1, *]
    | simp (disch := omega) only [getD_ints, wrapI]
    | (with_reducible show wcall _ false (.lit (.func (.func 13) _ _)) _ _ _ _; refine wcall_fn (h13) ?_ ?_ ?_; (next => simp [rfyL, rfy, hget, ints, take_rfy, Int.toNat_natCast, plainR_gR, gR_len, gR_take, gR_rfy, gR_lids, renR_gR, freeze1]); (next => simp [plainL, plain, plainR, Int.toNat_natCast, plainR_gR, gR_len, gR_take, gR_rfy, gR_lids, renR_gR, freeze1]))
    | (with_reducible show wcallX _ false (.lit (.func (.func 13) _ _)) _ _ _ _; refine wcallX_fn (h13) ?_ ?_ ?_; (next => simp [rfyL, rfy, hget, ints, take_rfy, Int.toNat_natCast, plainR_gR, gR_len, gR_take, gR_rfy, gR_lids, renR_gR, freeze1]); (next => simp [plainL, plain, plainR, Int.toNat_natCast, plainR_gR, gR_len, gR_take, gR_rfy, gR_lids, renR_gR, freeze1]))
    | (with_reducible show wcall _ false (.lit (.func (.func 14) _ _)) _ _ _ _; refine wcall_fn (h14) ?_ ?_ ?_; (next => simp [rfyL, rfy, hget, ints, take_rfy, Int.toNat_natCast, plainR_gR, gR_len, gR_take, gR_rfy, gR_lids, renR_gR, freeze1]); (next => simp [plainL, plain, plainR, Int.toNat_natCast, plainR_gR, gR_len, gR_take, gR_rfy, gR_lids, renR_gR, freeze1]))
    | (with_reducible show wcallX _ false (.lit (.func (.func 14) _ _)) _ _ _ _; refine wcallX_fn (h14) ?_ ?_ ?_; (next => simp [rfyL, rfy, hget, ints, take_rfy, Int.toNat_natCast, plainR_gR, gR_len, gR_take, gR_rfy, gR_lids, renR_gR, freeze1]); (next => simp [plainL, plain, plainR, Int.toNat_natCast, plainR_gR, gR_len, gR_take, gR_rfy, gR_lids, renR_gR, freeze1]))
    | (with_reducible show wcall _ false (.lit (.func (.func 17) _ _)) _ _ _ _; refine wcall_fn (h17) ?_ ?_ ?_; (next => simp [rfyL, rfy, hget, ints, take_rfy, Int.toNat_natCast, plainR_gR, gR_len, gR_take, gR_rfy, gR_lids, renR_gR, freeze1]); (next => simp [plainL, plain, plainR, Int.toNat_natCast, plainR_gR, gR_len, gR_take, gR_rfy, gR_lids, renR_gR, freeze1]))
    | (with_reducible show wcallX _ false (.lit (.func (.func 17) _ _)) _ _ _ _; refine wcallX_fn (h17) ?_ ?_ ?_; (next => simp [rfyL, rfy, hget, ints, take_rfy, Int.toNat_natCast, plainR_gR, gR_len, gR_take, gR_rfy, gR_lids, renR_gR, freeze1]); (next => simp [plainL, plain, plainR, Int.toNat_natCast, plainR_gR, gR_len, gR_take, gR_rfy, gR_lids, renR_gR, freeze1]))
    | (with_reducible show wcall _ false (.lit (.func (.func 16) _ _)) _ _ _ _; refine wcall_fn (h16) ?_ ?_ ?_; (next => simp [rfyL, rfy, hget, ints, take_rfy, Int.toNat_natCast, plainR_gR, gR_len, gR_take, gR_rfy, gR_lids, renR_gR, freeze1]); (next => simp [plainL, plain, plainR, Int.toNat_natCast, plainR_gR, gR_len, gR_take, gR_rfy, gR_lids, renR_gR, freeze1]))
    | (with_reducible show wcallX _ false (.lit (.func (.func 16) _ _)) _ _ _ _; refine wcallX_fn (h16) ?_ ?_ ?_; (next => simp [rfyL, rfy, hget, gR_len, gR_take, gR_rfy]); (next => simp [plainL, plain, plainR_gR]))
    | (with_reducible show wcall _ false (.lit (.func (.func 44) _ _)) _ _ _ _; refine wcall_fn (h44) ?_ ?_ ?_; (next => simp [rfyL, rfy, hget, ints, take_rfy, Int.toNat_natCast, plainR_gR, gR_len, gR_take, gR_rfy, gR_lids, renR_gR, freeze1]); (next => simp [plainL, plain, plainR, Int.toNat_natCast, plainR_gR, gR_len, gR_take, gR_rfy, gR_lids, renR_gR, freeze1]))
    | (with_reducible show wcallX _ false (.lit (.func (.func 44) _ _)) _ _ _ _; refine wcallX_fn (h44) ?_ ?_ ?_; (next => simp [rfyL, rfy, hget, ints, take_rfy, Int.toNat_natCast, plainR_gR, gR_len, gR_take, gR_rfy, gR_lids, renR_gR, freeze1]); (next => simp [plainL, plain, plainR, Int.toNat_natCast, plainR_gR, gR_len, gR_take, gR_rfy, gR_lids, renR_gR, freeze1]))
    | omega)
  refine wcall_E3 h55.1 rfl (by simp [plainL, plain, plainR_gR]) ?_
  intro v1 v2 v3 H' hx h1 h2 h3
  have := h2.lit; subst this
  have := h3.lit; subst this
  have h9 := h1.six
  obtain ⟨o0, hH0⟩ := hx.cell (id := 0) rfl
  replace h9 := And.intro h9 trivial
  clear hx h1 h2 h3 h55
  repeat' (first
    | ((with_reducible refine T_calm ?_ ?_); rfl)
    | with_reducible first
      | refine T_seq ?_
      | refine T_reg ?_
      | refine T_draw ?_
      | refine T_skip ?_
      | refine T_exit ?_
      | refine T_block ?_
      | refine T_cond_t rfl ?_
      | refine T_cond_f rfl ?_
      | refine wdW_cons rfl ?_
      | ((first | refine T_cond rfl (fun hc => ?_) (fun hc => ?_) | refine wguard_split (fun hc => ?_) (fun hc => ?_) | refine wguardX_split (fun hc => ?_) (fun hc => ?_)) <;> have hd := hc <;> (try simp (disch := omega) only [wrapI] at hd) <;> have hs := hd <;> (try simp only [bne_iff_ne, bne_eq_false_iff_eq, Bool.not_false, ne_eq] at hd) <;> (try simp at hs))
      | refine T_ret ?_
      | refine leave_of (.inr rfl) _ rfl ?_
      | refine leave_of (.inl rfl) _ rfl ?_
      | refine leaveA_of (.inr rfl) _ rfl ?_
      | refine leaveA_of (.inl rfl) _ rfl ?_
      | refine wif_intro ?_ (fun hc => ?_)
      | refine And.intro ?_ ?_
      | intro hc
    | simp (maxSteps := 4000000) only [wops_nil, wops_cons, wstep_none, wstep_some, wguard_ff, wrun_call, wrun_mv, wrun_pick, wrun_bin, wrun_ext, wop, aop, ev, look, put_some, writes, ores_some, binV, thenK, List.map_cons, List.map_nil, List.getElem?_cons_zero, List.getElem?_cons_succ, List.append_nil, List.replicate_zero, Option.map_some, if_true, if_false, Nat.reduceEqDiff, reduceCtorEq, Bool.false_eq_true, eq_self, *]
    | simp (disch := omega) only [getD_ints, wrapI]
    | omega)
  refine wcall_E0 h34 rfl (by rw [rfyL, List.map_cons, List.map_cons, List.map_nil, h9.1]; rfl) rfl ?_
  intro H1 hx
  obtain ⟨o1, hH1⟩ := hx.cell hH0
  clear hx h9 hH0 h34
  obtain ⟨u1, u2, u3, u4⟩ := cells_sub (X := []) (H := H1) rfl
  have a1 := at_in hH1
  have x1 := (List.getElem?_eq_some_iff.1 hH1).1
  have x2 : 0 < H1.length + 1 := by omega
  have x3 : H1.length < H1.length + 1 := by omega
  have x4 : 0 ≠ H1.length := by omega
  repeat' (first
    | ((with_reducible refine T_calm ?_ ?_); rfl)
    | with_reducible first
      | refine T_seq ?_
      | refine T_reg ?_
      | refine T_draw ?_
      | refine T_skip ?_
      | refine T_exit ?_
      | refine T_block ?_
      | refine T_cond_t rfl ?_
      | refine T_cond_f rfl ?_
      | refine wdW_cons rfl ?_
      | (show wcall _ false (.lit (.func (.func 17) _ _)) _ _ _ _; refine wcall_fn (h17) rfl (by simp [plainL, plain, plainR, Int.toNat_natCast, plainR_gR, gR_len, gR_take, gR_rfy, gR_lids, renR_gR, freeze1, x1, x2, x3, x4]) ?_)
      | (show wcallX _ false (.lit (.func (.func 17) _ _)) _ _ _ _; refine wcallX_fn (h17) rfl (by simp [plainL, plain, plainR_gR]) ?_)
      | (show wcall _ false (.lit (.func (.func 52) _ _)) _ _ _ _; refine wcall_fn (h52) rfl (by simp [plainL, plain, plainR, Int.toNat_natCast, plainR_gR, gR_len, gR_take, gR_rfy, gR_lids, renR_gR, freeze1, x1, x2, x3, x4]) ?_)
      | (show wcallX _ false (.lit (.func (.func 52) _ _)) _ _ _ _; refine wcallX_fn (h52) rfl (by simp [plainL, plain, plainR, plainR_gR]) ?_)
      | ((first | refine T_cond rfl (fun hc => ?_) (fun hc => ?_) | refine wguard_split (fun hc => ?_) (fun hc => ?_) | refine wguardX_split (fun hc => ?_) (fun hc => ?_)) <;> have hd := hc <;> (try simp (disch := omega) only [wrapI] at hd) <;> have hs := hd <;> (try simp only [Bool.not_eq_true', Bool.not_eq_false', Bool.and_eq_true, Bool.and_eq_false_iff, Bool.or_eq_true, Bool.or_eq_false_iff, decide_eq_true_eq, decide_eq_false_iff_not, beq_iff_eq, bne_iff_ne, beq_eq_false_iff_ne, bne_eq_false_iff_eq, Bool.not_true, Bool.not_false, gt_iff_lt, ge_iff_le, Int.not_lt, Int.not_le, ne_eq, Decidable.not_not] at hd) <;> (try simp at hs))
      | refine T_ret ?_
      | refine leave_of (.inr rfl) _ rfl ?_
      | refine leave_of (.inl rfl) _ rfl ?_
      | refine leaveA_of (.inr rfl) _ rfl ?_
      | refine leaveA_of (.inl rfl) _ rfl ?_
      | refine wif_intro ?_ (fun hc => ?_)
      | refine And.intro ?_ ?_
      | intro hc
    | simp (maxSteps := 4000000) only [wops_nil, wops_cons, wstep_none, wstep_some, wguard_true, wguard_ff, wrun_mv, wrun_pick, wrun_bin, wrun_not, wrun_ext, wrun_load, wrunX_mv, wrunX_ext, wrunX_load, wdW_nil, wstepX_none, wrunX_call, get_mk, wop, aop, ev, look, put_some, writes, ores_some, binV, thenK, boolV, value, cut, hget, toLits, mkAgg, tupOf, List.map_cons, List.map_nil, List.length_cons, List.length_nil, List.getElem?_cons_zero, List.getElem?_cons_succ, List.set_cons_zero, List.take_succ_cons, List.take_nil, List.drop_zero, List.append_nil, List.replicate_zero, List.getD_cons_zero, List.length_append, Option.getD_some, Option.map_some, if_true, if_false, Nat.reduceEqDiff, Nat.reduceAdd, Nat.zero_add, reduceCtorEq, Bool.not_true, Bool.false_eq_true, eq_self, beq_self_eq_true, freeze, lidsL, lids, List.flatMap_cons, List.flatMap_nil, ren, renL, renB, shiftρ, gR_take, gR_lids, renR_gR, freeze1, *]
    | simp (disch := omega) only [getD_ints, wrapI]
    | (with_reducible show wcall _ false (.lit (.func (.func 17) _ _)) _ _ _ _; refine wcall_fn (h17) ?_ ?_ ?_; (next => simp [rfyL, rfy, hget, ints, take_rfy, Int.toNat_natCast, plainR_gR, gR_len, gR_take, gR_rfy, gR_lids, renR_gR, freeze1, x1, x2, x3, x4]); (next => simp [plainL, plain, plainR, Int.toNat_natCast, plainR_gR, gR_len, gR_take, gR_rfy, gR_lids, renR_gR, freeze1, x1, x2, x3, x4]))
    | (with_reducible show wcallX _ false (.lit (.func (.func 17) _ _)) _ _ _ _; refine wcallX_fn (h17) ?_ ?_ ?_; (next => simp [rfyL, rfy, hget, ints, take_rfy, Int.toNat_natCast, plainR_gR, gR_len, gR_take, gR_rfy, gR_lids, renR_gR, freeze1, x1, x2, x3, x4]); (next => simp [plainL, plain, plainR, Int.toNat_natCast, plainR_gR, gR_len, gR_take, gR_rfy, gR_lids, renR_gR, freeze1, x1, x2, x3, x4]))
    | (with_reducible show wcall _ false (.lit (.func (.func 52) _ _)) _ _ _ _; refine wcall_fn (h52) ?_ ?_ ?_; (next => simp [rfyL, rfy, hget, ints, take_rfy, Int.toNat_natCast, plainR_gR, gR_len, gR_take, gR_rfy, gR_lids, renR_gR, freeze1, x1, x2, x3, x4]); (next => simp [plainL, plain, plainR, Int.toNat_natCast, plainR_gR, gR_len, gR_take, gR_rfy, gR_lids, renR_gR, freeze1, x1, x2, x3, x4]))
    | (with_reducible show wcallX _ false (.lit (.func (.func 52) _ _)) _ _ _ _; refine wcallX_fn (h52) ?_ ?_ ?_; (next => simp [rfyL, rfy, hget, gR_len, gR_take, gR_rfy, x3]); (next => simp [plainL, plain, plainR, plainR_gR]))
    | (with_reducible refine wdW_cons ?_ ?_; (next => simp [chk, foot, compatB, argsOf, St.get, target, ev, look, lidsL, kind, AOp.isRaw, wids, tops, opds, topId, x1]; done))
    | omega)
  all_goals first | rfl
set_option maxHeartbeats 8000000 in
theorem k10s (nil : Bool) (l : List Gr) (a b m : Int) (q : List Int) (hq : q.length < 1000000) (hl : l.length < 1000000) (hsz : ∀ k, k < l.length → (l.getD k gr0).nm.size ≤ 30) (h14 : Fn Try.prog 14 [gts nil l] (bl true) []) (h0 : gE l = 0) (h16 : Fn Try.prog 16 [gts false l, prV a b] (.tup [.lsl 0 0 q.length, i64 m, i64 0]) [.cells false false 1 (q.map fun x => [i64 x])]) (h52 : Fn Try.prog 52 [gts false l, ints false q, prV a b] (.tup [i64 m, i64 0]) []) (h55 : Gv 1 Try.prog 55 [gts nil l, prV a b] [ints false q, i64 m, i64 0]) : Fn Try.prog 10 [gts nil l, prV a b] (bl true) [] := by
  refine fn_of e10 ?_
  have h13 := k13
  have hll := gR_len l
  have hql : (q.map fun x => [i64 x]).length = q.length := by simp
  have h17 := k17 nil l hl
  have h44 := k44 nil l hl hsz
  have h34 := k34 false false q (by omega)
  rw [h0] at h44
  have d1 : (m != m) = false := by simp
  have d2 : (m == m) = true := by simp
  clear h0 hsz
  replace h55 := And.intro h55 trivial
  unfold c10
  repeat' (first
    | ((with_reducible refine T_calm ?_ ?_); rfl)
    | with_reducible first
      | refine T_seq ?_
      | refine T_reg ?_
      | refine T_draw ?_
      | refine T_skip ?_
      | refine T_exit ?_
      | refine T_block ?_
      | refine T_cond_t rfl ?_
      | refine T_cond_f rfl ?_
      | refine wdW_cons rfl ?_
      | (show wcall _ false (.lit (.func (.func 13) _ _)) _ _ _ _; refine wcall_fn (h13) rfl (by simp [plainL]) ?_)
      | (show wcallX _ false (.lit (.func (.func 13) _ _)) _ _ _ _; refine wcallX_fn (h13) rfl (by simp [plainL, plain, plainR, Int.toNat_natCast, plainR_gR, gR_len, gR_take, gR_rfy, gR_lids, renR_gR, freeze1]) ?_)
      | (show wcall _ false (.lit (.func (.func 14) _ _)) _ _ _ _; refine wcall_fn (h14) rfl (by simp [plainL, plain, plainR_gR]) ?_)
      | (show wcallX _ false (.lit (.func (.func 14) _ _)) _ _ _ _; refine wcallX_fn (h14) rfl (by simp [plainL, plain, plainR, Int.toNat_natCast, plainR_gR, gR_len, gR_take, gR_rfy, gR_lids, renR_gR, freeze1]) ?_)
      | (show wcall _ false (.lit (.func (.func 17) _ _)) _ _ _ _; refine wcall_fn (h17) rfl (by simp [plainL, plain, plainR, Int.toNat_natCast, plainR_gR, gR_len, gR_take, gR_rfy, gR_lids, renR_gR, freeze1]) ?_)
      | (show wcallX _ false (.lit (.func (.func 17) _ _)) _ _ _ _; refine wcallX_fn (h17) rfl (by simp [plainL, plain, plainR_gR]) ?_)
      | (show wcall _ false (.lit (.func (.func 16) _ _)) _ _ _ _; refine wcall_fn (h16) rfl (by simp [plainL, plain, plainR, Int.toNat_natCast, plainR_gR, gR_len, gR_take, gR_rfy, gR_lids, renR_gR, freeze1]) ?_)
      | (show wcallX _ false (.lit (.func (.func 16) _ _)) _ _ _ _; refine wcallX_fn (h16) rfl (by simp [plainL, plain, plainR_gR]) ?_)
      | (show wcall _ false (.lit (.func (.func 44) _ _)) _ _ _ _; refine wcall_fn (h44) rfl (by simp [plainL, plain, plainR_gR]) ?_)
      | (show wcallX _ false (.lit (.func (.func 44) _ _)) _ _ _ _; refine wcallX_fn (h44) rfl (by simp [plainL, plain, plainR, Int.toNat_natCast, plainR_gR, gR_len, gR_take, gR_rfy, gR_lids, renR_gR, freeze1]) ?_)
      | ((first | refine T_cond rfl (fun hc => ?_) (fun hc => ?_) | refine wguard_split (fun hc => ?_) (fun hc => ?_) | refine wguardX_split (fun hc => ?_) (fun hc => ?_)) <;> have hd := hc <;> (try simp (disch := omega) only [wrapI] at hd) <;> have hs := hd <;> (try simp only [Bool.not_eq_true', Bool.not_eq_false', Bool.and_eq_true, Bool.and_eq_false_iff, Bool.or_eq_true, Bool.or_eq_false_iff, decide_eq_true_eq, decide_eq_false_iff_not, beq_iff_eq, bne_iff_ne, beq_eq_false_iff_ne, bne_eq_false_iff_eq, Bool.not_true, Bool.not_false, gt_iff_lt, ge_iff_le, Int.not_lt, Int.not_le, ne_eq, Decidable.not_not] at hd) <;> (try simp at hs))
      | refine T_ret ?_
      | refine leave_of (.inr rfl) _ rfl ?_
      | refine leave_of (.inl rfl) _ rfl ?_
      | refine leaveA_of (.inr rfl) _ rfl ?_
      | refine leaveA_of (.inl rfl) _ rfl ?_
      | refine wif_intro ?_ (fun hc => ?_)
      | refine And.intro ?_ ?_
      | intro hc
    | simp (maxSteps := 4000000) only [wops_nil, wops_cons, wstep_none, wrun_call, wrun_mv, wrun_bin, wrun_not, wrun_ext, wrun_load, wrun_box, wrunX_mv, wrunX_ext, wrunX_load, wdW_nil, wstepX_none, wrunX_call, wop, aop, ev, look, put_some, writes, ores_some, binV, thenK, boolV, value, cut, hget, AV.parts, isOne, toLits, mkAgg, ofValue_int, List.map_cons, List.map_nil, List.length_cons, List.length_nil, List.getElem?_cons_zero, List.getElem?_cons_succ, List.set_cons_zero, List.set_cons_succ, List.take_succ_cons, List.take_nil, List.drop_zero, List.cons_append, List.nil_append, List.append_nil, List.replicate_zero, List.replicate_succ, List.getD_cons_zero, List.zipIdx_cons, List.zipIdx_nil, List.all_cons, List.all_nil, Option.getD_some, Option.map_some, if_true, if_false, Nat.reduceEqDiff, Nat.reduceAdd, Nat.add_zero, Nat.zero_add, Nat.zero_ne_one, reduceCtorEq, Bool.not_true, Bool.and_true, eq_self, true_and, and_self, freeze, lidsL, lids, List.flatMap_cons, List.flatMap_nil, List.all_cons, ren, renL, renB, shiftρ, renR_ints, gR_take, gR_lids, renR_gR, freeze1, *]
    | simp (disch := omega) only [getD_ints, wrapI]
    | (with_reducible show wcall _ false (.lit (.func (.func 13) _ _)) _ _ _ _; refine wcall_fn (h13) ?_ ?_ ?_; (next => simp [rfyL, rfy, hget, ints, take_rfy, Int.toNat_natCast, plainR_gR, gR_len, gR_take, gR_rfy, gR_lids, renR_gR, freeze1]); (next => simp [plainL, plain, plainR, Int.toNat_natCast, plainR_gR, gR_len, gR_take, gR_rfy, gR_lids, renR_gR, freeze1]))
    | (with_reducible show wcallX _ false (.lit (.func (.func 13) _ _)) _ _ _ _; refine wcallX_fn (h13) ?_ ?_ ?_; (next => simp [rfyL, rfy, hget, ints, take_rfy, Int.toNat_natCast, plainR_gR, gR_len, gR_take, gR_rfy, gR_lids, renR_gR, freeze1]); (next => simp [plainL, plain, plainR, Int.toNat_natCast, plainR_gR, gR_len, gR_take, gR_rfy, gR_lids, renR_gR, freeze1]))
    | (with_reducible show wcall _ false (.lit (.func (.func 14) _ _)) _ _ _ _; refine wcall_fn (h14) ?_ ?_ ?_; (next => simp [rfyL, rfy, hget, ints, take_rfy, Int.toNat_natCast, plainR_gR, gR_len, gR_take, gR_rfy, gR_lids, renR_gR, freeze1]); (next => simp [plainL, plain, plainR, Int.toNat_natCast, plainR_gR, gR_len, gR_take, gR_rfy, gR_lids, renR_gR, freeze1]))
    | (with_reducible show wcallX _ false (.lit (.func (.func 14) _ _)) _ _ _ _; refine wcallX_fn (h14) ?_ ?_ ?_; (next => simp [rfyL, rfy, hget, ints, take_rfy, Int.toNat_natCast, plainR_gR, gR_len, gR_take, gR_rfy, gR_lids, renR_gR, freeze1]); (next => simp [plainL, plain, plainR, Int.toNat_natCast, plainR_gR, gR_len, gR_take, gR_rfy, gR_lids, renR_gR, freeze1]))
    | (with_reducible show wcall _ false (.lit (.func (.func 17) _ _)) _ _ _ _; refine wcall_fn (h17) ?_ ?_ ?_; (next => simp [rfyL, rfy, hget, ints, take_rfy, Int.toNat_natCast, plainR_gR, gR_len, gR_take, gR_rfy, gR_lids, renR_gR, freeze1]); (next => simp [plainL, plain, plainR, Int.toNat_natCast, plainR_gR, gR_len, gR_take, gR_rfy, gR_lids, renR_gR, freeze1]))
    | (with_reducible show wcallX _ false (.lit (.func (.func 17) _ _)) _ _ _ _; refine wcallX_fn (h17) ?_ ?_ ?_; (next => simp [rfyL, rfy, hget, ints, take_rfy, Int.toNat_natCast, plainR_gR, gR_len, gR_take, gR_rfy, gR_lids, renR_gR, freeze1]); (next => simp [plainL, plain, plainR, Int.toNat_natCast, plainR_gR, gR_len, gR_take, gR_rfy, gR_lids, renR_gR, freeze1]))
    | (with_reducible show wcall _ false (.lit (.func (.func 16) _ _)) _ _ _ _; refine wcall_fn (h16) ?_ ?_ ?_; (next => simp [rfyL, rfy, hget, ints, take_rfy, Int.toNat_natCast, plainR_gR, gR_len, gR_take, gR_rfy, gR_lids, renR_gR, freeze1]); (next => simp [plainL, plain, plainR, Int.toNat_natCast, plainR_gR, gR_len, gR_take, gR_rfy, gR_lids, renR_gR, freeze1]))
    | (with_reducible show wcallX _ false (.lit (.func (.func 16) _ _)) _ _ _ _; refine wcallX_fn (h16) ?_ ?_ ?_; (next => simp [rfyL, rfy, hget, gR_len, gR_take, gR_rfy]); (next => simp [plainL, plain, plainR_gR]))
    | (with_reducible show wcall _ false (.lit (.func (.func 44) _ _)) _ _ _ _; refine wcall_fn (h44) ?_ ?_ ?_; (next => simp [rfyL, rfy, hget, ints, take_rfy, Int.toNat_natCast, plainR_gR, gR_len, gR_take, gR_rfy, gR_lids, renR_gR, freeze1]); (next => simp [plainL, plain, plainR, Int.toNat_natCast, plainR_gR, gR_len, gR_take, gR_rfy, gR_lids, renR_gR, freeze1]))
    | (with_reducible show wcallX _ false (.lit (.func (.func 44) _ _)) _ _ _ _; refine wcallX_fn (h44) ?_ ?_ ?_; (next => simp [rfyL, rfy, hget, ints, take_rfy, Int.toNat_natCast, plainR_gR, gR_len, gR_take, gR_rfy, gR_lids, renR_gR, freeze1]); (next => simp [plainL, plain, plainR, Int.toNat_natCast, plainR_gR, gR_len, gR_take, gR_rfy, gR_lids, renR_gR, freeze1]))
    | omega)
  refine wcall_E3 h55.1 rfl (by simp [plainL, plain, plainR_gR]) ?_
  intro v1 v2 v3 H' hx h1 h2 h3
  have := h2.lit; subst this
  have := h3.lit; subst this
  obtain ⟨o0, hH0⟩ := hx.cell (id := 0) rfl
  obtain ⟨o2, hH2⟩ := hx.cell (id := 2) rfl
  have h9 := rL2 (rds_iB (d := 0) hH2 rfl) h1 (by omega) (by omega)
  replace h9 := And.intro h9 trivial
  clear hx h1 h2 h3 h55
  repeat' (first
    | ((with_reducible refine T_calm ?_ ?_); rfl)
    | with_reducible first
      | refine T_seq ?_
      | refine T_reg ?_
      | refine T_draw ?_
      | refine T_skip ?_
      | refine T_exit ?_
      | refine T_block ?_
      | refine T_cond_t rfl ?_
      | refine T_cond_f rfl ?_
      | refine wdW_cons rfl ?_
      | ((first | refine T_cond rfl (fun hc => ?_) (fun hc => ?_) | refine wguard_split (fun hc => ?_) (fun hc => ?_) | refine wguardX_split (fun hc => ?_) (fun hc => ?_)) <;> have hd := hc <;> (try simp (disch := omega) only [wrapI] at hd) <;> have hs := hd <;> (try simp only [bne_iff_ne, bne_eq_false_iff_eq, Bool.not_false, ne_eq] at hd) <;> (try simp at hs))
      | refine T_ret ?_
      | refine leave_of (.inr rfl) _ rfl ?_
      | refine leave_of (.inl rfl) _ rfl ?_
      | refine leaveA_of (.inr rfl) _ rfl ?_
      | refine leaveA_of (.inl rfl) _ rfl ?_
      | refine wif_intro ?_ (fun hc => ?_)
      | refine And.intro ?_ ?_
      | intro hc
    | simp (maxSteps := 4000000) only [wops_nil, wops_cons, wstep_none, wstep_some, wguard_ff, wrun_call, wrun_mv, wrun_pick, wrun_bin, wrun_ext, wop, aop, ev, look, put_some, writes, ores_some, binV, thenK, List.map_cons, List.map_nil, List.getElem?_cons_zero, List.getElem?_cons_succ, List.append_nil, List.replicate_zero, Option.map_some, if_true, if_false, Nat.reduceEqDiff, reduceCtorEq, Bool.false_eq_true, eq_self, *]
    | simp (disch := omega) only [getD_ints, wrapI]
    | omega)
  refine wcall_E0 h34 rfl h9.1 (by simp [plainL, plain]) ?_
  intro H1 hx
  obtain ⟨o1, hH1⟩ := hx.cell hH0
  obtain ⟨o3, hH3⟩ := hx.cell hH2
  clear hx h9 hH0 h34 hH2
  obtain ⟨u1, u2, u3, u4⟩ := cells_sub (X := []) (H := H1) rfl
  have a1 := at_in hH1
  have a2 := at_in hH3
  have x0 := (List.getElem?_eq_some_iff.1 hH3).1
  have x1 : 0 < H1.length := by omega
  have x2 : 0 < H1.length + 1 := by omega
  have x3 : H1.length < H1.length + 1 := by omega
  have x4 : 0 ≠ H1.length := by omega
  have x5 : 2 ≠ H1.length := by omega
  have x6 : 2 < H1.length + 1 := by omega
  repeat' (first
    | ((with_reducible refine T_calm ?_ ?_); rfl)
    | with_reducible first
      | refine T_seq ?_
      | refine T_reg ?_
      | refine T_draw ?_
      | refine T_skip ?_
      | refine T_exit ?_
      | refine T_block ?_
      | refine T_cond_t rfl ?_
      | refine T_cond_f rfl ?_
      | refine wdW_cons rfl ?_
      | (show wcall _ false (.lit (.func (.func 17) _ _)) _ _ _ _; refine wcall_fn (h17) rfl (by simp [plainL, plain, plainR, Int.toNat_natCast, plainR_gR, gR_len, gR_take, gR_rfy, gR_lids, renR_gR, iR_take, iR_rfy, iR_lids, freeze1, x0, x1, x2, x3, x4, x5, x6, iR_nolid]) ?_)
      | (show wcallX _ false (.lit (.func (.func 17) _ _)) _ _ _ _; refine wcallX_fn (h17) rfl (by simp [plainL, plain, plainR_gR]) ?_)
      | ((first | refine T_cond rfl (fun hc => ?_) (fun hc => ?_) | refine wguard_split (fun hc => ?_) (fun hc => ?_) | refine wguardX_split (fun hc => ?_) (fun hc => ?_)) <;> have hd := hc <;> (try simp (disch := omega) only [wrapI] at hd) <;> have hs := hd <;> (try simp only [Bool.not_eq_true', Bool.not_eq_false', Bool.and_eq_true, Bool.and_eq_false_iff, Bool.or_eq_true, Bool.or_eq_false_iff, decide_eq_true_eq, decide_eq_false_iff_not, beq_iff_eq, bne_iff_ne, beq_eq_false_iff_ne, bne_eq_false_iff_eq, Bool.not_true, Bool.not_false, gt_iff_lt, ge_iff_le, Int.not_lt, Int.not_le, ne_eq, Decidable.not_not] at hd) <;> (try simp at hs))
      | refine T_ret ?_
      | refine leave_of (.inr rfl) _ rfl ?_
      | refine leave_of (.inl rfl) _ rfl ?_
      | refine leaveA_of (.inr rfl) _ rfl ?_
      | refine leaveA_of (.inl rfl) _ rfl ?_
      | refine wif_intro ?_ (fun hc => ?_)
      | refine And.intro ?_ ?_
      | intro hc
    | simp (maxSteps := 4000000) only [wops_nil, wops_cons, wstep_none, wstep_some, wguard_ff, wrun_mv, wrun_pick, wrun_bin, wrun_not, wrun_load, wrunX_mv, wrunX_load, wstepX_none, wrunX_call, wop, aop, ev, look, put_some, writes, ores_some, binV, thenK, boolV, value, cut, hget, toLits, mkAgg, List.map_cons, List.map_nil, List.length_cons, List.length_nil, List.take_succ_cons, List.take_nil, List.drop_zero, List.append_nil, List.replicate_zero, List.getD_cons_zero, Option.getD_some, Option.map_some, if_true, if_false, Nat.reduceEqDiff, Nat.reduceAdd, Nat.zero_add, reduceCtorEq, Bool.not_true, Bool.false_eq_true, eq_self, freeze, lidsL, lids, List.flatMap_cons, List.flatMap_nil, ren, renB, shiftρ, renR_gR, *]
    | simp (disch := omega) only [getD_ints, wrapI]
    | (with_reducible show wcall _ false (.lit (.func (.func 17) _ _)) _ _ _ _; refine wcall_fn (h17) ?_ ?_ ?_; (next => simp [rfyL, rfy, hget, ints, take_rfy, Int.toNat_natCast, plainR_gR, gR_len, gR_take, gR_rfy, gR_lids, renR_gR, iR_take, iR_rfy, iR_lids, freeze1, x0, x1, x2, x3, x4, x5, x6, iR_nolid]); (next => simp [plainL, plain, plainR, Int.toNat_natCast, plainR_gR, gR_len, gR_take, gR_rfy, gR_lids, renR_gR, iR_take, iR_rfy, iR_lids, freeze1, x0, x1, x2, x3, x4, x5, x6, iR_nolid]))
    | (with_reducible show wcallX _ false (.lit (.func (.func 17) _ _)) _ _ _ _; refine wcallX_fn (h17) ?_ ?_ ?_; (next => simp [rfyL, rfy, hget, ints, take_rfy, Int.toNat_natCast, plainR_gR, gR_len, gR_take, gR_rfy, gR_lids, renR_gR, iR_take, iR_rfy, iR_lids, freeze1, x0, x1, x2, x3, x4, x5, x6, iR_nolid]); (next => simp [plainL, plain, plainR, Int.toNat_natCast, plainR_gR, gR_len, gR_take, gR_rfy, gR_lids, renR_gR, iR_take, iR_rfy, iR_lids, freeze1, x0, x1, x2, x3, x4, x5, x6, iR_nolid]))
    | (with_reducible refine wdW_cons ?_ ?_; (next => simp [chk, foot, compatB, argsOf, St.get, target, ev, look, lidsL, kind, AOp.isRaw, wids, tops, opds, topId, x1]; done))
    | omega)
  refine wcallX_E0 h52 rfl (rL3 (d3 := 0) (rds_row (d := 0) (u1 _) (plainR_gR l) hll) (rds_iB (d := 0) (a2 _) rfl) (rds_plain rfl) (by omega) (by omega) (by omega)) (by simp [plainL, plain, plainR_gR]) ?_
  intro H2 hx
  clear hx h52 h17 a1 a2 u1 u2 u3 u4 hH1 hH3 x0 x1 x2 x3 x4 x5 x6
  repeat' (first
    | ((with_reducible refine T_calm ?_ ?_); rfl)
    | with_reducible first
      | refine T_seq ?_
      | refine T_reg ?_
      | refine T_draw ?_
      | refine T_skip ?_
      | refine T_exit ?_
      | refine T_block ?_
      | refine T_cond_t rfl ?_
      | refine T_cond_f rfl ?_
      | refine wdW_cons rfl ?_
      | ((first | refine T_cond rfl (fun hc => ?_) (fun hc => ?_) | refine wguard_split (fun hc => ?_) (fun hc => ?_) | refine wguardX_split (fun hc => ?_) (fun hc => ?_)) <;> have hd := hc <;> (try simp (disch := omega) only [wrapI] at hd) <;> have hs := hd <;> (try simp only [Bool.not_eq_true', Bool.not_eq_false', Bool.and_eq_true, Bool.and_eq_false_iff, Bool.or_eq_true, Bool.or_eq_false_iff, decide_eq_true_eq, decide_eq_false_iff_not, beq_iff_eq, bne_iff_ne, beq_eq_false_iff_ne, bne_eq_false_iff_eq, Bool.not_true, Bool.not_false, gt_iff_lt, ge_iff_le, Int.not_lt, Int.not_le, ne_eq, Decidable.not_not] at hd) <;> (try simp at hs))
      | refine T_ret ?_
      | refine leave_of (.inr rfl) _ rfl ?_
      | refine leave_of (.inl rfl) _ rfl ?_
      | refine leaveA_of (.inr rfl) _ rfl ?_
      | refine leaveA_of (.inl rfl) _ rfl ?_
      | refine wif_intro ?_ (fun hc => ?_)
      | refine And.intro ?_ ?_
      | intro hc
    | simp (maxSteps := 4000000) only [wops_nil, wops_cons, wstep_none, wstep_some, wguard_true, wrun_mv, wrun_pick, wrun_bin, wrun_ext, wrunX_mv, wrunX_ext, wdW_nil, wstepX_none, get_mk, wop, aop, ev, look, put_some, writes, ores_some, binV, thenK, tupOf, List.getElem?_cons_zero, List.getElem?_cons_succ, List.append_nil, List.replicate_zero, Option.map_some, if_true, if_false, Nat.reduceEqDiff, reduceCtorEq, eq_self, beq_self_eq_true, ren, *]
    | simp (disch := omega) only [getD_ints, wrapI]
    | omega)
  all_goals first | rfl
end Go.Abs
