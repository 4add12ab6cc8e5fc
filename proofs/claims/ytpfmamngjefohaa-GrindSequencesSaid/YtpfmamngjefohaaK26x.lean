import Derived.Test.YtpfmamngjefohaaK9
import Derived.Test.YtpfmamngjefohaaK21x
import Derived.Test.YtpfmamngjefohaaK22x
set_option linter.all false
set_option linter.unusedVariables false
set_option linter.unusedSimpArgs false
set_option linter.unusedSectionVars false
namespace Go.Abs
open Go.Proofs
/-! GrindSequences -/
theorem iR_take (q : List Int) : List.take q.length (q.map fun x => [i64 x]) = q.map fun x => [i64 x] := List.take_of_length_le (by simp)
theorem iR_rfy (h : Nat → Blk) (d : Nat) (q : List Int) : List.map (fun r => List.map (rfy h d) r) (q.map fun x => [i64 x]) = q.map fun x => [i64 x] := by
  rw [List.map_map]
  exact List.map_congr_left fun g _ => by simp only [Function.comp, List.map_cons, List.map_nil, rfyL0]
theorem iR_lids (h : Nat → Blk) (d : Nat) (q : List Int) : (q.map fun x => [i64 x]).flatMap (fun r => r.flatMap (lids h d)) = [] := by
  rw [List.flatMap_eq_nil_iff]
  intro r hr
  obtain ⟨g, _, rfl⟩ := List.mem_map.1 hr
  simp [lids0]
set_option maxHeartbeats 8000000 in
theorem k9 (nil : Bool) (l : List Gr) (nq : Bool) (q : List Int) (a b : Int) (hl0 : l.length ≤ 9223372036854775807) : Fn Try.prog 9 [gts nil l, ints nq q, prV a b] (bl true) [] := by
  refine fn_of e9 ?_
  have h13 := k13
  have hll := gR_len l
  have hql : (q.map fun x => [i64 x]).length = q.length := by simp
  have h14 := k14 nil l hl0
  cases hg : gritB l with
  | false =>
    rw [hg] at h14
    clear hg
    unfold c9
    repeat' (first
      | ((with_reducible refine T_calm ?_ ?_); rfl)
      | with_reducible first
        | refine T_seq ?_
        | refine T_reg ?_
        | refine T_draw ?_
        | refine T_skip ?_
        | refine T_exit ?_
        | refine T_block ?_
        | refine T_cond_t rfl ?_
        | refine T_cond_f rfl ?_
        | refine wdW_cons rfl ?_
        | (show wcall _ false (.lit (.func (.func 13) _ _)) _ _ _ _; refine wcall_fn (h13) rfl (by simp [plainL]) ?_)
        | (show wcallX _ false (.lit (.func (.func 13) _ _)) _ _ _ _; refine wcallX_fn (h13) rfl (by simp [plainL, plain, plainR, plainR_gR]) ?_)
        | (show wcall _ false (.lit (.func (.func 14) _ _)) _ _ _ _; refine wcall_fn (h14) rfl (by simp [plainL, plain, plainR_gR]) ?_)
        | (show wcallX _ false (.lit (.func (.func 14) _ _)) _ _ _ _; refine wcallX_fn (h14) rfl (by simp [plainL, plain, plainR, plainR_gR]) ?_)
        | ((first | refine T_cond rfl (fun hc => ?_) (fun hc => ?_) | refine wguard_split (fun hc => ?_) (fun hc => ?_) | refine wguardX_split (fun hc => ?_) (fun hc => ?_)) <;> have hd := hc <;> (try simp (disch := omega) only [wrapI] at hd) <;> have hs := hd <;> (try simp only [Bool.not_eq_true', Bool.not_eq_false', Bool.and_eq_true, Bool.and_eq_false_iff, Bool.or_eq_true, Bool.or_eq_false_iff, decide_eq_true_eq, decide_eq_false_iff_not, beq_iff_eq, bne_iff_ne, beq_eq_false_iff_ne, bne_eq_false_iff_eq, Bool.not_true, Bool.not_false, gt_iff_lt, ge_iff_le, Int.not_lt, Int.not_le, ne_eq, Decidable.not_not] at hd) <;> (try simp at hs))
        | refine T_ret ?_
        | refine leave_of (.inr rfl) _ rfl ?_
        | refine leave_of (.inl rfl) _ rfl ?_
        | refine leaveA_of (.inr rfl) _ rfl ?_
        | refine leaveA_of (.inl rfl) _ rfl ?_
        | refine wif_intro ?_ (fun hc => ?_)
        | refine And.intro ?_ ?_
        | intro hc
      | simp (maxSteps := 4000000) only [wops_nil, wops_cons, wstep_none, wstep_some, wguard_tf, wrun_call, wrun_mv, wrun_pick, wrun_not, wrun_box, get_mk, wop, aop, ev, look, put_some, writes, ores_some, thenK, boolV, AV.parts, isOne, tupOf, ofValue_int, List.map_cons, List.map_nil, List.length_cons, List.length_nil, List.getElem?_cons_zero, List.set_cons_zero, List.nil_append, List.append_nil, List.replicate_zero, List.replicate_succ, List.zipIdx_cons, List.zipIdx_nil, List.all_cons, List.all_nil, if_true, if_false, Nat.reduceEqDiff, Nat.reduceAdd, Nat.add_zero, Nat.zero_add, reduceCtorEq, Bool.not_true, Bool.not_false, Bool.and_true, eq_self, true_and, and_self, freeze, lidsL, lids, List.flatMap_cons, List.flatMap_nil, List.all_cons, ren, *]
      | simp (disch := omega) only [getD_ints, wrapI]
      | (with_reducible show wcall _ false (.lit (.func (.func 13) _ _)) _ _ _ _; refine wcall_fn (h13) ?_ ?_ ?_; (next => simp [rfyL, rfy, hget, ints, take_rfy, plainR_gR]); (next => simp [plainL, plain, plainR, plainR_gR]))
      | (with_reducible show wcallX _ false (.lit (.func (.func 13) _ _)) _ _ _ _; refine wcallX_fn (h13) ?_ ?_ ?_; (next => simp [rfyL, rfy, hget, ints, take_rfy, plainR_gR]); (next => simp [plainL, plain, plainR, plainR_gR]))
      | (with_reducible show wcall _ false (.lit (.func (.func 14) _ _)) _ _ _ _; refine wcall_fn (h14) ?_ ?_ ?_; (next => simp [rfyL, rfy, hget, ints, take_rfy, plainR_gR]); (next => simp [plainL, plain, plainR, plainR_gR]))
      | (with_reducible show wcallX _ false (.lit (.func (.func 14) _ _)) _ _ _ _; refine wcallX_fn (h14) ?_ ?_ ?_; (next => simp [rfyL, rfy, hget, ints, take_rfy, plainR_gR]); (next => simp [plainL, plain, plainR, plainR_gR]))
      | omega)
    all_goals first | rfl
  | true =>
    rw [hg] at h14
    by_cases h15 : q.length > 15
    · have d0 : decide ((q.length : Int) > 15) = true := decide_eq_true (by omega)
      clear hg h15
      unfold c9
      repeat' (first
        | ((with_reducible refine T_calm ?_ ?_); rfl)
        | with_reducible first
          | refine T_seq ?_
          | refine T_reg ?_
          | refine T_draw ?_
          | refine T_skip ?_
          | refine T_exit ?_
          | refine T_block ?_
          | refine T_cond_t rfl ?_
          | refine T_cond_f rfl ?_
          | refine wdW_cons rfl ?_
          | (show wcall _ false (.lit (.func (.func 13) _ _)) _ _ _ _; refine wcall_fn (h13) rfl (by simp [plainL]) ?_)
          | (show wcallX _ false (.lit (.func (.func 13) _ _)) _ _ _ _; refine wcallX_fn (h13) rfl (by simp [plainL, plain, plainR, plainR_gR]) ?_)
          | (show wcall _ false (.lit (.func (.func 14) _ _)) _ _ _ _; refine wcall_fn (h14) rfl (by simp [plainL, plain, plainR_gR]) ?_)
          | (show wcallX _ false (.lit (.func (.func 14) _ _)) _ _ _ _; refine wcallX_fn (h14) rfl (by simp [plainL, plain, plainR, plainR_gR]) ?_)
          | ((first | refine T_cond rfl (fun hc => ?_) (fun hc => ?_) | refine wguard_split (fun hc => ?_) (fun hc => ?_) | refine wguardX_split (fun hc => ?_) (fun hc => ?_)) <;> have hd := hc <;> (try simp (disch := omega) only [wrapI] at hd) <;> have hs := hd <;> (try simp only [Bool.not_eq_true', Bool.not_eq_false', Bool.and_eq_true, Bool.and_eq_false_iff, Bool.or_eq_true, Bool.or_eq_false_iff, decide_eq_true_eq, decide_eq_false_iff_not, beq_iff_eq, bne_iff_ne, beq_eq_false_iff_ne, bne_eq_false_iff_eq, Bool.not_true, Bool.not_false, gt_iff_lt, ge_iff_le, Int.not_lt, Int.not_le, ne_eq, Decidable.not_not] at hd) <;> (try simp at hs))
          | refine T_ret ?_
          | refine leave_of (.inr rfl) _ rfl ?_
          | refine leave_of (.inl rfl) _ rfl ?_
          | refine leaveA_of (.inr rfl) _ rfl ?_
          | refine leaveA_of (.inl rfl) _ rfl ?_
          | refine wif_intro ?_ (fun hc => ?_)
          | refine And.intro ?_ ?_
          | intro hc
        | simp (maxSteps := 4000000) only [wops_nil, wops_cons, wstep_none, wstep_some, wguard_ff, wrun_call, wrun_mv, wrun_pick, wrun_bin, wrun_not, wrun_len, wrun_box, get_mk, wop, aop, ev, look, put_some, writes, ores_some, ores_map, ores_bind, binV, thenK, boolV, intV, lenOf, hget, AV.parts, isOne, tupOf, ofValue_int, List.map_cons, List.map_nil, List.length_cons, List.length_nil, List.getElem?_cons_zero, List.set_cons_zero, List.nil_append, List.append_nil, List.replicate_zero, List.replicate_succ, List.zipIdx_cons, List.zipIdx_nil, List.all_cons, List.all_nil, Option.pure_def, Option.bind_eq_bind, Option.map_some, if_true, if_false, Nat.reduceEqDiff, Nat.reduceAdd, Nat.add_zero, Nat.zero_add, Nat.zero_ne_one, reduceCtorEq, Bool.not_true, Bool.and_true, Bool.false_eq_true, eq_self, true_and, and_self, freeze, lidsL, lids, List.flatMap_cons, List.flatMap_nil, List.all_cons, ren, *]
        | simp (disch := omega) only [getD_ints, wrapI]
        | (with_reducible show wcall _ false (.lit (.func (.func 13) _ _)) _ _ _ _; refine wcall_fn (h13) ?_ ?_ ?_; (next => simp [rfyL, rfy, hget, ints, take_rfy, plainR_gR]); (next => simp [plainL, plain, plainR, plainR_gR]))
        | (with_reducible show wcallX _ false (.lit (.func (.func 13) _ _)) _ _ _ _; refine wcallX_fn (h13) ?_ ?_ ?_; (next => simp [rfyL, rfy, hget, ints, take_rfy, plainR_gR]); (next => simp [plainL, plain, plainR, plainR_gR]))
        | (with_reducible show wcall _ false (.lit (.func (.func 14) _ _)) _ _ _ _; refine wcall_fn (h14) ?_ ?_ ?_; (next => simp [rfyL, rfy, hget, ints, take_rfy, plainR_gR]); (next => simp [plainL, plain, plainR, plainR_gR]))
        | (with_reducible show wcallX _ false (.lit (.func (.func 14) _ _)) _ _ _ _; refine wcallX_fn (h14) ?_ ?_ ?_; (next => simp [rfyL, rfy, hget, ints, take_rfy, plainR_gR]); (next => simp [plainL, plain, plainR, plainR_gR]))
        | omega)
      all_goals first | rfl
    · have d0 : decide ((q.length : Int) > 15) = false := decide_eq_false (by omega)
      unfold gritB at hg
      simp only [Bool.and_eq_true, Bool.or_eq_true, decide_eq_true_eq] at hg
      have hsz := shB_all.1 hg.1
      have hl : l.length < 1000000 := by omega
      have h17 := k17 nil l hl
      have h53 := k53 nq q (by omega)
      have h44 := k44 nil l hl hsz
      clear hg h15
      by_cases h0 : gE l = 0
      · have h52 := k52 false false l q a b hl hsz h0
        have h54 := k54 nil nq l q a b hl h0
        rw [h0] at h44
        clear h0 hsz
        generalize sqM l q a b = RM at *
        generalize sqE l q a b = RE at *
        unfold c9
        repeat' (first
          | ((with_reducible refine T_calm ?_ ?_); rfl)
          | with_reducible first
            | refine T_seq ?_
            | refine T_reg ?_
            | refine T_draw ?_
            | refine T_skip ?_
            | refine T_exit ?_
            | refine T_block ?_
            | refine T_cond_t rfl ?_
            | refine T_cond_f rfl ?_
            | refine wdW_cons rfl ?_
            | (show wcall _ false (.lit (.func (.func 13) _ _)) _ _ _ _; refine wcall_fn (h13) rfl (by simp [plainL]) ?_)
            | (show wcallX _ false (.lit (.func (.func 13) _ _)) _ _ _ _; refine wcallX_fn (h13) rfl (by simp [plainL, plain, plainR, Int.toNat_natCast, plainR_gR, gR_len, gR_take, gR_rfy, gR_lids, renR_gR, iR_take, iR_rfy, iR_lids, freeze1]) ?_)
            | (show wcall _ false (.lit (.func (.func 14) _ _)) _ _ _ _; refine wcall_fn (h14) rfl (by simp [plainL, plain, plainR_gR]) ?_)
            | (show wcallX _ false (.lit (.func (.func 14) _ _)) _ _ _ _; refine wcallX_fn (h14) rfl (by simp [plainL, plain, plainR, Int.toNat_natCast, plainR_gR, gR_len, gR_take, gR_rfy, gR_lids, renR_gR, iR_take, iR_rfy, iR_lids, freeze1]) ?_)
            | (show wcall _ false (.lit (.func (.func 17) _ _)) _ _ _ _; refine wcall_fn (h17) rfl (by simp [plainL, plain, plainR, Int.toNat_natCast, plainR_gR, gR_len, gR_take, gR_rfy, gR_lids, renR_gR, iR_take, iR_rfy, iR_lids, freeze1]) ?_)
            | (show wcallX _ false (.lit (.func (.func 17) _ _)) _ _ _ _; refine wcallX_fn (h17) rfl (by simp [plainL, plain, plainR_gR]) ?_)
            | (show wcall _ false (.lit (.func (.func 53) _ _)) _ _ _ _; refine wcall_fn (h53) rfl (by simp [plainL, plain, plainR, Int.toNat_natCast, plainR_gR, gR_len, gR_take, gR_rfy, gR_lids, renR_gR, iR_take, iR_rfy, iR_lids, freeze1]) ?_)
            | (show wcallX _ false (.lit (.func (.func 53) _ _)) _ _ _ _; refine wcallX_fn (h53) rfl (by simp [plainL, plain]) ?_)
            | (show wcall _ false (.lit (.func (.func 52) _ _)) _ _ _ _; refine wcall_fn (h52) rfl (by simp [plainL, plain, plainR, Int.toNat_natCast, plainR_gR, gR_len, gR_take, gR_rfy, gR_lids, renR_gR, iR_take, iR_rfy, iR_lids, freeze1]) ?_)
            | (show wcallX _ false (.lit (.func (.func 52) _ _)) _ _ _ _; refine wcallX_fn (h52) rfl (by simp [plainL, plain, plainR_gR]) ?_)
            | (show wcall _ false (.lit (.func (.func 44) _ _)) _ _ _ _; refine wcall_fn (h44) rfl (by simp [plainL, plain, plainR_gR]) ?_)
            | (show wcallX _ false (.lit (.func (.func 44) _ _)) _ _ _ _; refine wcallX_fn (h44) rfl (by simp [plainL, plain, plainR, Int.toNat_natCast, plainR_gR, gR_len, gR_take, gR_rfy, gR_lids, renR_gR, iR_take, iR_rfy, iR_lids, freeze1]) ?_)
            | (show wcall _ false (.lit (.func (.func 54) _ _)) _ _ _ _; refine wcall_fn (h54) rfl (by simp [plainL, plain, plainR_gR]) ?_)
            | (show wcallX _ false (.lit (.func (.func 54) _ _)) _ _ _ _; refine wcallX_fn (h54) rfl (by simp [plainL, plain, plainR, Int.toNat_natCast, plainR_gR, gR_len, gR_take, gR_rfy, gR_lids, renR_gR, iR_take, iR_rfy, iR_lids, freeze1]) ?_)
            | ((first | refine T_cond rfl (fun hc => ?_) (fun hc => ?_) | refine wguard_split (fun hc => ?_) (fun hc => ?_) | refine wguardX_split (fun hc => ?_) (fun hc => ?_)) <;> have hd := hc <;> (try simp (disch := omega) only [wrapI] at hd) <;> have hs := hd <;> (try simp only [Bool.not_eq_true', Bool.not_eq_false', Bool.and_eq_true, Bool.and_eq_false_iff, Bool.or_eq_true, Bool.or_eq_false_iff, decide_eq_true_eq, decide_eq_false_iff_not, beq_iff_eq, bne_iff_ne, beq_eq_false_iff_ne, bne_eq_false_iff_eq, Bool.not_true, Bool.not_false, gt_iff_lt, ge_iff_le, Int.not_lt, Int.not_le, ne_eq, Decidable.not_not] at hd) <;> (try simp at hs))
            | refine T_ret ?_
            | refine leave_of (.inr rfl) _ rfl ?_
            | refine leave_of (.inl rfl) _ rfl ?_
            | refine leaveA_of (.inr rfl) _ rfl ?_
            | refine leaveA_of (.inl rfl) _ rfl ?_
            | refine wif_intro ?_ (fun hc => ?_)
            | refine And.intro ?_ ?_
            | intro hc
          | simp (maxSteps := 4000000) only [wops_nil, wops_cons, wstep_none, wstep_some, wguard_true, wguard_ff, wrun_call, wrun_mv, wrun_pick, wrun_bin, wrun_not, wrun_ext, wrun_load, wrun_len, wrun_box, wrunX_mv, wrunX_ext, wrunX_load, wdW_nil, wstepX_none, wrunX_call, get_mk, wop, aop, ev, look, put_some, writes, ores_some, ores_map, ores_bind, binV, thenK, boolV, intV, lenOf, value, cut, hget, AV.parts, isOne, toLits, mkAgg, tupOf, ofValue_int, List.map_cons, List.map_nil, List.length_cons, List.length_nil, List.getElem?_cons_zero, List.getElem?_cons_succ, List.set_cons_zero, List.set_cons_succ, List.take_succ_cons, List.take_nil, List.drop_zero, List.cons_append, List.nil_append, List.append_nil, List.replicate_zero, List.replicate_succ, List.getD_cons_zero, List.zipIdx_cons, List.zipIdx_nil, List.all_cons, List.all_nil, Option.pure_def, Option.bind_eq_bind, Option.getD_some, Option.map_some, if_true, if_false, Nat.reduceEqDiff, Nat.reduceAdd, Nat.add_zero, Nat.zero_add, Nat.zero_ne_one, reduceCtorEq, Bool.not_true, Bool.and_true, Bool.false_eq_true, eq_self, true_and, and_self, beq_self_eq_true, freeze, lidsL, lids, List.flatMap_cons, List.flatMap_nil, List.all_cons, ren, renL, renB, shiftρ, renR_ints, gR_take, gR_lids, renR_gR, iR_take, iR_lids, freeze1, *]
          | simp (disch := omega) only [getD_ints, wrapI]
          | (with_reducible show wcall _ false (.lit (.func (.func 13) _ _)) _ _ _ _; refine wcall_fn (h13) ?_ ?_ ?_; (next => simp [rfyL, rfy, hget, ints, take_rfy, Int.toNat_natCast, plainR_gR, gR_len, gR_take, gR_rfy, gR_lids, renR_gR, iR_take, iR_rfy, iR_lids, freeze1]); (next => simp [plainL, plain, plainR, Int.toNat_natCast, plainR_gR, gR_len, gR_take, gR_rfy, gR_lids, renR_gR, iR_take, iR_rfy, iR_lids, freeze1]))
          | (with_reducible show wcallX _ false (.lit (.func (.func 13) _ _)) _ _ _ _; refine wcallX_fn (h13) ?_ ?_ ?_; (next => simp [rfyL, rfy, hget, ints, take_rfy, Int.toNat_natCast, plainR_gR, gR_len, gR_take, gR_rfy, gR_lids, renR_gR, iR_take, iR_rfy, iR_lids, freeze1]); (next => simp [plainL, plain, plainR, Int.toNat_natCast, plainR_gR, gR_len, gR_take, gR_rfy, gR_lids, renR_gR, iR_take, iR_rfy, iR_lids, freeze1]))
          | (with_reducible show wcall _ false (.lit (.func (.func 14) _ _)) _ _ _ _; refine wcall_fn (h14) ?_ ?_ ?_; (next => simp [rfyL, rfy, hget, ints, take_rfy, Int.toNat_natCast, plainR_gR, gR_len, gR_take, gR_rfy, gR_lids, renR_gR, iR_take, iR_rfy, iR_lids, freeze1]); (next => simp [plainL, plain, plainR, Int.toNat_natCast, plainR_gR, gR_len, gR_take, gR_rfy, gR_lids, renR_gR, iR_take, iR_rfy, iR_lids, freeze1]))
          | (with_reducible show wcallX _ false (.lit (.func (.func 14) _ _)) _ _ _ _; refine wcallX_fn (h14) ?_ ?_ ?_; (next => simp [rfyL, rfy, hget, ints, take_rfy, Int.toNat_natCast, plainR_gR, gR_len, gR_take, gR_rfy, gR_lids, renR_gR, iR_take, iR_rfy, iR_lids, freeze1]); (next => simp [plainL, plain, plainR, Int.toNat_natCast, plainR_gR, gR_len, gR_take, gR_rfy, gR_lids, renR_gR, iR_take, iR_rfy, iR_lids, freeze1]))
          | (with_reducible show wcall _ false (.lit (.func (.func 17) _ _)) _ _ _ _; refine wcall_fn (h17) ?_ ?_ ?_; (next => simp [rfyL, rfy, hget, ints, take_rfy, Int.toNat_natCast, plainR_gR, gR_len, gR_take, gR_rfy, gR_lids, renR_gR, iR_take, iR_rfy, iR_lids, freeze1]); (next => simp [plainL, plain, plainR, Int.toNat_natCast, plainR_gR, gR_len, gR_take, gR_rfy, gR_lids, renR_gR, iR_take, iR_rfy, iR_lids, freeze1]))
          | (with_reducible show wcallX _ false (.lit (.func (.func 17) _ _)) _ _ _ _; refine wcallX_fn (h17) ?_ ?_ ?_; (next => simp [rfyL, rfy, hget, ints, take_rfy, Int.toNat_natCast, plainR_gR, gR_len, gR_take, gR_rfy, gR_lids, renR_gR, iR_take, iR_rfy, iR_lids, freeze1]); (next => simp [plainL, plain, plainR, Int.toNat_natCast, plainR_gR, gR_len, gR_take, gR_rfy, gR_lids, renR_gR, iR_take, iR_rfy, iR_lids, freeze1]))
          | (with_reducible show wcall _ false (.lit (.func (.func 53) _ _)) _ _ _ _; refine wcall_fn (h53) ?_ ?_ ?_; (next => simp [rfyL, rfy, hget, ints, take_rfy, Int.toNat_natCast, plainR_gR, gR_len, gR_take, gR_rfy, gR_lids, renR_gR, iR_take, iR_rfy, iR_lids, freeze1]); (next => simp [plainL, plain, plainR, Int.toNat_natCast, plainR_gR, gR_len, gR_take, gR_rfy, gR_lids, renR_gR, iR_take, iR_rfy, iR_lids, freeze1]))
          | (with_reducible show wcallX _ false (.lit (.func (.func 53) _ _)) _ _ _ _; refine wcallX_fn (h53) ?_ ?_ ?_; (next => simp [rfyL, rfy, hget, ints, take_rfy, Int.toNat_natCast, plainR_gR, gR_len, gR_take, gR_rfy, gR_lids, renR_gR, iR_take, iR_rfy, iR_lids, freeze1]); (next => simp [plainL, plain, plainR, Int.toNat_natCast, plainR_gR, gR_len, gR_take, gR_rfy, gR_lids, renR_gR, iR_take, iR_rfy, iR_lids, freeze1]))
          | (with_reducible show wcall _ false (.lit (.func (.func 52) _ _)) _ _ _ _; refine wcall_fn (h52) ?_ ?_ ?_; (next => simp [rfyL, rfy, hget, ints, take_rfy, Int.toNat_natCast, plainR_gR, gR_len, gR_take, gR_rfy, gR_lids, renR_gR, iR_take, iR_rfy, iR_lids, freeze1]); (next => simp [plainL, plain, plainR, Int.toNat_natCast, plainR_gR, gR_len, gR_take, gR_rfy, gR_lids, renR_gR, iR_take, iR_rfy, iR_lids, freeze1]))
          | (with_reducible show wcallX _ false (.lit (.func (.func 52) _ _)) _ _ _ _; refine wcallX_fn (h52) ?_ ?_ ?_; (next => simp [rfyL, rfy, hget, ints, gR_len, gR_take, gR_rfy, iR_take]); (next => simp [plainL, plain, plainR_gR]))
          | (with_reducible show wcall _ false (.lit (.func (.func 44) _ _)) _ _ _ _; refine wcall_fn (h44) ?_ ?_ ?_; (next => simp [rfyL, rfy, hget, ints, take_rfy, Int.toNat_natCast, plainR_gR, gR_len, gR_take, gR_rfy, gR_lids, renR_gR, iR_take, iR_rfy, iR_lids, freeze1]); (next => simp [plainL, plain, plainR, Int.toNat_natCast, plainR_gR, gR_len, gR_take, gR_rfy, gR_lids, renR_gR, iR_take, iR_rfy, iR_lids, freeze1]))
          | (with_reducible show wcallX _ false (.lit (.func (.func 44) _ _)) _ _ _ _; refine wcallX_fn (h44) ?_ ?_ ?_; (next => simp [rfyL, rfy, hget, ints, take_rfy, Int.toNat_natCast, plainR_gR, gR_len, gR_take, gR_rfy, gR_lids, renR_gR, iR_take, iR_rfy, iR_lids, freeze1]); (next => simp [plainL, plain, plainR, Int.toNat_natCast, plainR_gR, gR_len, gR_take, gR_rfy, gR_lids, renR_gR, iR_take, iR_rfy, iR_lids, freeze1]))
          | (with_reducible show wcall _ false (.lit (.func (.func 54) _ _)) _ _ _ _; refine wcall_fn (h54) ?_ ?_ ?_; (next => simp [rfyL, rfy, hget, ints, take_rfy, Int.toNat_natCast, plainR_gR, gR_len, gR_take, gR_rfy, gR_lids, renR_gR, iR_take, iR_rfy, iR_lids, freeze1]); (next => simp [plainL, plain, plainR, Int.toNat_natCast, plainR_gR, gR_len, gR_take, gR_rfy, gR_lids, renR_gR, iR_take, iR_rfy, iR_lids, freeze1]))
          | (with_reducible show wcallX _ false (.lit (.func (.func 54) _ _)) _ _ _ _; refine wcallX_fn (h54) ?_ ?_ ?_; (next => simp [rfyL, rfy, hget, ints, take_rfy, Int.toNat_natCast, plainR_gR, gR_len, gR_take, gR_rfy, gR_lids, renR_gR, iR_take, iR_rfy, iR_lids, freeze1]); (next => simp [plainL, plain, plainR, Int.toNat_natCast, plainR_gR, gR_len, gR_take, gR_rfy, gR_lids, renR_gR, iR_take, iR_rfy, iR_lids, freeze1]))
          | omega)
        all_goals first | rfl
      · have h52 := k52e false false l q a b hl hsz h0
        have d1 : (gE l == 0) = false := by simp only [beq_eq_false_iff_ne]; exact h0
        clear h0 hsz
        generalize gE l = c at *
        unfold c9
        repeat' (first
          | ((with_reducible refine T_calm ?_ ?_); rfl)
          | with_reducible first
            | refine T_seq ?_
            | refine T_reg ?_
            | refine T_draw ?_
            | refine T_skip ?_
            | refine T_exit ?_
            | refine T_block ?_
            | refine T_cond_t rfl ?_
            | refine T_cond_f rfl ?_
            | refine wdW_cons rfl ?_
            | (show wcall _ false (.lit (.func (.func 13) _ _)) _ _ _ _; refine wcall_fn (h13) rfl (by simp [plainL]) ?_)
            | (show wcallX _ false (.lit (.func (.func 13) _ _)) _ _ _ _; refine wcallX_fn (h13) rfl (by simp [plainL, plain, plainR, Int.toNat_natCast, plainR_gR, gR_len, gR_take, gR_rfy, gR_lids, renR_gR, iR_take, iR_rfy, iR_lids, freeze1]) ?_)
            | (show wcall _ false (.lit (.func (.func 14) _ _)) _ _ _ _; refine wcall_fn (h14) rfl (by simp [plainL, plain, plainR_gR]) ?_)
            | (show wcallX _ false (.lit (.func (.func 14) _ _)) _ _ _ _; refine wcallX_fn (h14) rfl (by simp [plainL, plain, plainR, Int.toNat_natCast, plainR_gR, gR_len, gR_take, gR_rfy, gR_lids, renR_gR, iR_take, iR_rfy, iR_lids, freeze1]) ?_)
            | (show wcall _ false (.lit (.func (.func 17) _ _)) _ _ _ _; refine wcall_fn (h17) rfl (by simp [plainL, plain, plainR, Int.toNat_natCast, plainR_gR, gR_len, gR_take, gR_rfy, gR_lids, renR_gR, iR_take, iR_rfy, iR_lids, freeze1]) ?_)
            | (show wcallX _ false (.lit (.func (.func 17) _ _)) _ _ _ _; refine wcallX_fn (h17) rfl (by simp [plainL, plain, plainR_gR]) ?_)
            | (show wcall _ false (.lit (.func (.func 53) _ _)) _ _ _ _; refine wcall_fn (h53) rfl (by simp [plainL, plain, plainR, Int.toNat_natCast, plainR_gR, gR_len, gR_take, gR_rfy, gR_lids, renR_gR, iR_take, iR_rfy, iR_lids, freeze1]) ?_)
            | (show wcallX _ false (.lit (.func (.func 53) _ _)) _ _ _ _; refine wcallX_fn (h53) rfl (by simp [plainL, plain]) ?_)
            | (show wcall _ false (.lit (.func (.func 52) _ _)) _ _ _ _; refine wcall_fn (h52) rfl (by simp [plainL, plain, plainR, Int.toNat_natCast, plainR_gR, gR_len, gR_take, gR_rfy, gR_lids, renR_gR, iR_take, iR_rfy, iR_lids, freeze1]) ?_)
            | (show wcallX _ false (.lit (.func (.func 52) _ _)) _ _ _ _; refine wcallX_fn (h52) rfl (by simp [plainL, plain, plainR_gR]) ?_)
            | (show wcall _ false (.lit (.func (.func 44) _ _)) _ _ _ _; refine wcall_fn (h44) rfl (by simp [plainL, plain, plainR_gR]) ?_)
            | (show wcallX _ false (.lit (.func (.func 44) _ _)) _ _ _ _; refine wcallX_fn (h44) rfl (by simp [plainL, plain, plainR, Int.toNat_natCast, plainR_gR, gR_len, gR_take, gR_rfy, gR_lids, renR_gR, iR_take, iR_rfy, iR_lids, freeze1]) ?_)
            | ((first | refine T_cond rfl (fun hc => ?_) (fun hc => ?_) | refine wguard_split (fun hc => ?_) (fun hc => ?_) | refine wguardX_split (fun hc => ?_) (fun hc => ?_)) <;> have hd := hc <;> (try simp (disch := omega) only [wrapI] at hd) <;> have hs := hd <;> (try simp only [Bool.not_eq_true', Bool.not_eq_false', Bool.and_eq_true, Bool.and_eq_false_iff, Bool.or_eq_true, Bool.or_eq_false_iff, decide_eq_true_eq, decide_eq_false_iff_not, beq_iff_eq, bne_iff_ne, beq_eq_false_iff_ne, bne_eq_false_iff_eq, Bool.not_true, Bool.not_false, gt_iff_lt, ge_iff_le, Int.not_lt, Int.not_le, ne_eq, Decidable.not_not] at hd) <;> (try simp at hs))
            | refine T_ret ?_
            | refine leave_of (.inr rfl) _ rfl ?_
            | refine leave_of (.inl rfl) _ rfl ?_
            | refine leaveA_of (.inr rfl) _ rfl ?_
            | refine leaveA_of (.inl rfl) _ rfl ?_
            | refine wif_intro ?_ (fun hc => ?_)
            | refine And.intro ?_ ?_
            | intro hc
          | simp (maxSteps := 4000000) only [wops_nil, wops_cons, wstep_none, wstep_some, wguard_true, wguard_ff, wrun_call, wrun_mv, wrun_pick, wrun_bin, wrun_not, wrun_ext, wrun_load, wrun_len, wrun_box, wrunX_mv, wrunX_ext, wrunX_load, wdW_nil, wstepX_none, wrunX_call, get_mk, wop, aop, ev, look, put_some, writes, ores_some, ores_map, ores_bind, binV, thenK, boolV, intV, lenOf, value, cut, hget, AV.parts, isOne, toLits, mkAgg, tupOf, ofValue_int, List.map_cons, List.map_nil, List.length_cons, List.length_nil, List.getElem?_cons_zero, List.getElem?_cons_succ, List.set_cons_zero, List.set_cons_succ, List.take_succ_cons, List.take_nil, List.drop_zero, List.cons_append, List.nil_append, List.append_nil, List.replicate_zero, List.replicate_succ, List.getD_cons_zero, List.zipIdx_cons, List.zipIdx_nil, List.all_cons, List.all_nil, Option.pure_def, Option.bind_eq_bind, Option.getD_some, Option.map_some, if_true, if_false, Nat.reduceEqDiff, Nat.reduceAdd, Nat.add_zero, Nat.zero_add, Nat.zero_ne_one, reduceCtorEq, Bool.not_true, Bool.and_true, Bool.false_eq_true, eq_self, true_and, and_self, beq_self_eq_true, freeze, lidsL, lids, List.flatMap_cons, List.flatMap_nil, List.all_cons, ren, renL, renB, shiftρ, renR_ints, gR_take, gR_lids, renR_gR, iR_take, iR_lids, freeze1, *]
          | simp (disch := omega) only [getD_ints, wrapI]
          | (with_reducible show wcall _ false (.lit (.func (.func 13) _ _)) _ _ _ _; refine wcall_fn (h13) ?_ ?_ ?_; (next => simp [rfyL, rfy, hget, ints, take_rfy, Int.toNat_natCast, plainR_gR, gR_len, gR_take, gR_rfy, gR_lids, renR_gR, iR_take, iR_rfy, iR_lids, freeze1]); (next => simp [plainL, plain, plainR, Int.toNat_natCast, plainR_gR, gR_len, gR_take, gR_rfy, gR_lids, renR_gR, iR_take, iR_rfy, iR_lids, freeze1]))
          | (with_reducible show wcallX _ false (.lit (.func (.func 13) _ _)) _ _ _ _; refine wcallX_fn (h13) ?_ ?_ ?_; (next => simp [rfyL, rfy, hget, ints, take_rfy, Int.toNat_natCast, plainR_gR, gR_len, gR_take, gR_rfy, gR_lids, renR_gR, iR_take, iR_rfy, iR_lids, freeze1]); (next => simp [plainL, plain, plainR, Int.toNat_natCast, plainR_gR, gR_len, gR_take, gR_rfy, gR_lids, renR_gR, iR_take, iR_rfy, iR_lids, freeze1]))
          | (with_reducible show wcall _ false (.lit (.func (.func 14) _ _)) _ _ _ _; refine wcall_fn (h14) ?_ ?_ ?_; (next => simp [rfyL, rfy, hget, ints, take_rfy, Int.toNat_natCast, plainR_gR, gR_len, gR_take, gR_rfy, gR_lids, renR_gR, iR_take, iR_rfy, iR_lids, freeze1]); (next => simp [plainL, plain, plainR, Int.toNat_natCast, plainR_gR, gR_len, gR_take, gR_rfy, gR_lids, renR_gR, iR_take, iR_rfy, iR_lids, freeze1]))
          | (with_reducible show wcallX _ false (.lit (.func (.func 14) _ _)) _ _ _ _; refine wcallX_fn (h14) ?_ ?_ ?_; (next => simp [rfyL, rfy, hget, ints, take_rfy, Int.toNat_natCast, plainR_gR, gR_len, gR_take, gR_rfy, gR_lids, renR_gR, iR_take, iR_rfy, iR_lids, freeze1]); (next => simp [plainL, plain, plainR, Int.toNat_natCast, plainR_gR, gR_len, gR_take, gR_rfy, gR_lids, renR_gR, iR_take, iR_rfy, iR_lids, freeze1]))
          | (with_reducible show wcall _ false (.lit (.func (.func 17) _ _)) _ _ _ _; refine wcall_fn (h17) ?_ ?_ ?_; (next => simp [rfyL, rfy, hget, ints, take_rfy, Int.toNat_natCast, plainR_gR, gR_len, gR_take, gR_rfy, gR_lids, renR_gR, iR_take, iR_rfy, iR_lids, freeze1]); (next => simp [plainL, plain, plainR, Int.toNat_natCast, plainR_gR, gR_len, gR_take, gR_rfy, gR_lids, renR_gR, iR_take, iR_rfy, iR_lids, freeze1]))
          | (with_reducible show wcallX _ false (.lit (.func (.func 17) _ _)) _ _ _ _; refine wcallX_fn (h17) ?_ ?_ ?_; (next => simp [rfyL, rfy, hget, ints, take_rfy, Int.toNat_natCast, plainR_gR, gR_len, gR_take, gR_rfy, gR_lids, renR_gR, iR_take, iR_rfy, iR_lids, freeze1]); (next => simp [plainL, plain, plainR, Int.toNat_natCast, plainR_gR, gR_len, gR_take, gR_rfy, gR_lids, renR_gR, iR_take, iR_rfy, iR_lids, freeze1]))
          | (with_reducible show wcall _ false (.lit (.func (.func 53) _ _)) _ _ _ _; refine wcall_fn (h53) ?_ ?_ ?_; (next => simp [rfyL, rfy, hget, ints, take_rfy, Int.toNat_natCast, plainR_gR, gR_len, gR_take, gR_rfy, gR_lids, renR_gR, iR_take, iR_rfy, iR_lids, freeze1]); (next => simp [plainL, plain, plainR, Int.toNat_natCast, plainR_gR, gR_len, gR_take, gR_rfy, gR_lids, renR_gR, iR_take, iR_rfy, iR_lids, freeze1]))
          | (with_reducible show wcallX _ false (.lit (.func (.func 53) _ _)) _ _ _ _; refine wcallX_fn (h53) ?_ ?_ ?_; (next => simp [rfyL, rfy, hget, ints, take_rfy, Int.toNat_natCast, plainR_gR, gR_len, gR_take, gR_rfy, gR_lids, renR_gR, iR_take, iR_rfy, iR_lids, freeze1]); (next => simp [plainL, plain, plainR, Int.toNat_natCast, plainR_gR, gR_len, gR_take, gR_rfy, gR_lids, renR_gR, iR_take, iR_rfy, iR_lids, freeze1]))
          | (with_reducible show wcall _ false (.lit (.func (.func 52) _ _)) _ _ _ _; refine wcall_fn (h52) ?_ ?_ ?_; (next => simp [rfyL, rfy, hget, ints, take_rfy, Int.toNat_natCast, plainR_gR, gR_len, gR_take, gR_rfy, gR_lids, renR_gR, iR_take, iR_rfy, iR_lids, freeze1]); (next => simp [plainL, plain, plainR, Int.toNat_natCast, plainR_gR, gR_len, gR_take, gR_rfy, gR_lids, renR_gR, iR_take, iR_rfy, iR_lids, freeze1]))
          | (with_reducible show wcallX _ false (.lit (.func (.func 52) _ _)) _ _ _ _; refine wcallX_fn (h52) ?_ ?_ ?_; (next => simp [rfyL, rfy, hget, ints, gR_len, gR_take, gR_rfy, iR_take]); (next => simp [plainL, plain, plainR_gR]))
          | (with_reducible show wcall _ false (.lit (.func (.func 44) _ _)) _ _ _ _; refine wcall_fn (h44) ?_ ?_ ?_; (next => simp [rfyL, rfy, hget, ints, take_rfy, Int.toNat_natCast, plainR_gR, gR_len, gR_take, gR_rfy, gR_lids, renR_gR, iR_take, iR_rfy, iR_lids, freeze1]); (next => simp [plainL, plain, plainR, Int.toNat_natCast, plainR_gR, gR_len, gR_take, gR_rfy, gR_lids, renR_gR, iR_take, iR_rfy, iR_lids, freeze1]))
          | (with_reducible show wcallX _ false (.lit (.func (.func 44) _ _)) _ _ _ _; refine wcallX_fn (h44) ?_ ?_ ?_; (next => simp [rfyL, rfy, hget, ints, take_rfy, Int.toNat_natCast, plainR_gR, gR_len, gR_take, gR_rfy, gR_lids, renR_gR, iR_take, iR_rfy, iR_lids, freeze1]); (next => simp [plainL, plain, plainR, Int.toNat_natCast, plainR_gR, gR_len, gR_take, gR_rfy, gR_lids, renR_gR, iR_take, iR_rfy, iR_lids, freeze1]))
          | omega)
        all_goals first | rfl
end Go.Abs
