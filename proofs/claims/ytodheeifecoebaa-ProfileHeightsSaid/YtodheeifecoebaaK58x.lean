import Derived.Test.YtodheeifecoebaaK57
set_option linter.all false
set_option linter.unusedVariables false
set_option linter.unusedSimpArgs false
set_option linter.unusedSectionVars false
namespace Go.Abs
open Go.Proofs
theorem flat_ints5 (h : Nat → Blk) (n : Nat) (xs : List Int) : (List.take n (List.map (fun x => [i64 x]) xs)).flatMap (fun r => r.flatMap (lids h 5)) = [] := by
  rw [List.flatMap_eq_nil_iff]
  intro r hr
  obtain ⟨x, _, rfl⟩ := List.mem_map.1 (List.mem_of_mem_take hr)
  rfl
set_option maxHeartbeats 8000000 in
theorem k4 (zi : Int) (nil nh : Bool) (l : List Rd) (ys : List Int) : Fn Try.prog 4 [i64 zi, rdgs nil l, ints nh ys] (bl true) [] := by
  refine fn_of e4 ?_
  unfold c4
  have h19 := k19
  have h25 := k25 nil l 12
  by_cases hsm : fewB l.length 12 = true ∧ ys.length ≤ 45
  · obtain ⟨hf, hy⟩ := hsm
    rw [hf] at h25
    have hl : l.length < 1000000 := by unfold fewB at hf; simp at hf; omega
    clear hf
    have h27 := k27 nil l hl
    have h28 := k28 nh ys (by omega)
    have h29 := k29 zi nil l hl
    by_cases hc : checkR zi l = 0
    · obtain ⟨hz, hl2, hrd⟩ := checkR_ok hc
      obtain ⟨z, rfl⟩ : ∃ z : Nat, zi = z := ⟨zi.toNat, by omega⟩
      rw [hc] at h29
      have h26 := k26 (nil := false) (nh := false) (l := l) (ys := ys) (z := z) (by omega) hc
      have h30 := k30 (nil := nil) (nh := nh) (l := l) (ys := ys) (z := z) (by omega) hc
      have hrl := rows4_len l
      by_cases hd0 : (checkHt z l ys).2 = 0
      · obtain ⟨hr, henc⟩ := ht_enc hc hd0
        obtain ⟨hyl, hyb, _⟩ := ht_ok hd0
        have hyb2 := hBad_get hyb
        obtain ⟨k31a, k31b⟩ := k31 (nil := false) hc rfl hr
        rw [ht_fst hd0] at h26 h30
        generalize tabM (arcsL l l.length) z = M at *
        clear hd0 hr hyb hrd
        replace henc := And.intro henc trivial
        replace hyb2 := And.intro hyb2 trivial
        cases hw : (M.getD 0 []).any isFar with
        | true =>
          have h31 := k31a hw
          clear k31a k31b hw
          repeat' (first
            | (with_reducible refine T_seq ?_)
            | (with_reducible refine T_reg ?_)
            | ((with_reducible refine T_calm ?_ ?_); rfl)
            | (with_reducible refine T_draw ?_)
            | (with_reducible refine T_skip ?_)
            | (with_reducible refine T_exit ?_)
            | (with_reducible refine T_block ?_)
            | (with_reducible (show T _ _ _ _ _ (.cond _ _ _) _ _); first | (refine T_cond_t rfl ?_) | (refine T_cond_f rfl ?_) | (refine T_cond rfl (fun hc => ?_) (fun hc => ?_) <;> have hd := hc <;> (try simp (disch := omega) only [wrapI] at hd) <;> have hs := hd <;> (try simp only [decide_eq_true_eq, decide_eq_false_iff_not, gt_iff_lt, Int.not_lt] at hd) <;> (try simp at hs)))
            | (with_reducible (show wdW _ _ _ (_ :: _) _ _ _); refine wdW_cons rfl ?_)
            | (with_reducible (show wcall _ false (.lit (.func (.func 19) _ _)) _ _ _ _); refine wcall_fn (h19) rfl (by simp [plainL]) ?_)
            | (with_reducible (show wcallX _ false (.lit (.func (.func 19) _ _)) _ _ _ _); refine wcallX_fn (h19) rfl (by simp [plainL, plain, plainR, take_rows4', flat_rows4', freeze1, take_rfy, flat_ints5, renR_rows4, rows4_len]) ?_)
            | (with_reducible (show wcall _ false (.lit (.func (.func 25) _ _)) _ _ _ _); refine wcall_fn (h25) rfl (by simp [plainL, plain]) ?_)
            | (with_reducible (show wcallX _ false (.lit (.func (.func 25) _ _)) _ _ _ _); refine wcallX_fn (h25) rfl (by simp [plainL, plain, plainR, take_rows4', flat_rows4', freeze1, take_rfy, flat_ints5, renR_rows4, rows4_len]) ?_)
            | (with_reducible (show wcall _ false (.lit (.func (.func 27) _ _)) _ _ _ _); refine wcall_fn (h27) rfl (by simp [plainL, plain]) ?_)
            | (with_reducible (show wcallX _ false (.lit (.func (.func 27) _ _)) _ _ _ _); refine wcallX_fn (h27) rfl (by simp [plainL, plain, plainR, take_rows4', flat_rows4', freeze1, take_rfy, flat_ints5, renR_rows4, rows4_len]) ?_)
            | (with_reducible (show wcall _ false (.lit (.func (.func 28) _ _)) _ _ _ _); refine wcall_fn (h28) rfl (by simp [plainL, plain]) ?_)
            | (with_reducible (show wcallX _ false (.lit (.func (.func 28) _ _)) _ _ _ _); refine wcallX_fn (h28) rfl (by simp [plainL, plain, plainR, take_rows4', flat_rows4', freeze1, take_rfy, flat_ints5, renR_rows4, rows4_len]) ?_)
            | (with_reducible (show wcall _ false (.lit (.func (.func 26) _ _)) _ _ _ _); refine wcall_fn (h26) rfl (by simp [plainL, plain]) ?_)
            | (with_reducible (show wcallX _ false (.lit (.func (.func 26) _ _)) _ _ _ _); refine wcallX_fn (h26) rfl (by simp [plainL, plain, plainR, take_rows4', flat_rows4', freeze1, take_rfy, flat_ints5, renR_rows4, rows4_len]) ?_)
            | (with_reducible (show wcall _ false (.lit (.func (.func 29) _ _)) _ _ _ _); refine wcall_fn (h29) rfl (by simp [plainL, plain]) ?_)
            | (with_reducible (show wcallX _ false (.lit (.func (.func 29) _ _)) _ _ _ _); refine wcallX_fn (h29) rfl (by simp [plainL, plain, plainR, take_rows4', flat_rows4', freeze1, take_rfy, flat_ints5, renR_rows4, rows4_len]) ?_)
            | (with_reducible (show wcall _ false (.lit (.func (.func 30) _ _)) _ _ _ _); refine wcall_fn (h30) rfl (by simp [plainL, plain]) ?_)
            | (with_reducible (show wcallX _ false (.lit (.func (.func 30) _ _)) _ _ _ _); refine wcallX_fn (h30) rfl (by simp [plainL, plain, plainR, take_rows4', flat_rows4', freeze1, take_rfy, flat_ints5, renR_rows4, rows4_len]) ?_)
            | (with_reducible (show wcall _ false (.lit (.func (.func 31) _ _)) _ _ _ _); refine wcall_fn (h31) rfl (by simp [plainL, plain]) ?_)
            | (with_reducible (show wcallX _ false (.lit (.func (.func 31) _ _)) _ _ _ _); refine wcallX_fn (h31) rfl (by simp [plainL, plain, plainR, take_rows4', flat_rows4', freeze1, take_rfy, flat_ints5, renR_rows4, rows4_len]) ?_)
            | (with_reducible refine wguard_split (fun hc => ?_) (fun hc => ?_) <;> have hd := hc <;> (try simp (disch := omega) only [wrapI] at hd) <;> have hs := hd <;> (try simp only [bne_iff_ne, bne_eq_false_iff_eq, Bool.not_false, ne_eq] at hd) <;> (try simp at hs))
            | (with_reducible refine wguardX_split (fun hc => ?_) (fun hc => ?_) <;> have hd := hc <;> (try simp (disch := omega) only [wrapI] at hd) <;> have hs := hd <;> (try simp only [Bool.not_eq_true', Bool.not_eq_false', Bool.and_eq_true, Bool.and_eq_false_iff, Bool.or_eq_true, Bool.or_eq_false_iff, decide_eq_true_eq, decide_eq_false_iff_not, beq_iff_eq, bne_iff_ne, beq_eq_false_iff_ne, bne_eq_false_iff_eq, Bool.not_true, Bool.not_false, gt_iff_lt, ge_iff_le, Int.not_lt, Int.not_le, ne_eq, Decidable.not_not] at hd) <;> (try simp at hs))
            | (with_reducible refine T_ret ?_)
            | (with_reducible (show leave _ _ _ _ _); first | (refine leave_of (.inr rfl) _ rfl ?_) | (refine leave_of (.inl rfl) _ rfl ?_))
            | (with_reducible (show leaveA _ _ _ _); first | (refine leaveA_of (.inr rfl) _ rfl ?_) | (refine leaveA_of (.inl rfl) _ rfl ?_))
            | (with_reducible refine wif_intro ?_ (fun hc => ?_))
            | (with_reducible refine And.intro ?_ ?_)
            | (with_reducible intro hc)
            | (simp (maxSteps := 4000000) only [wops_nil, wops_cons, wstep_none, wstep_some, wguard_ff, wrun_call, wrun_mv, wrun_pick, wrun_bin, wrun_not, wrun_ext, wrun_len, get_mk, wop, aop, ev, look, put_some, writes, ores_some, ores_map, ores_bind, binV, thenK, boolV, intV, lenOf, hget, tupOf, List.map_cons, List.map_nil, List.length_cons, List.length_nil, List.getElem?_cons_zero, List.getElem?_cons_succ, List.set_cons_zero, List.set_cons_succ, List.drop_zero, List.cons_append, List.nil_append, List.append_nil, List.replicate_zero, List.zipIdx_cons, List.zipIdx_nil, List.length_map, Option.pure_def, Option.bind_eq_bind, Option.getD_some, Option.map_some, if_true, if_false, Nat.reduceEqDiff, Nat.reduceAdd, Nat.add_zero, Nat.zero_add, Nat.zero_ne_one, reduceCtorEq, Bool.not_true, Bool.false_eq_true, eq_self, decide_true, beq_self_eq_true, freeze, lidsL, lids, List.flatMap_cons, List.flatMap_nil, ren, renL, renR, renB, shiftρ, renR_ints, flat_rows4', freeze1, flat_ints5, renR_rows4, *])
            | (simp (disch := omega) only [getD_ints, wrapI])
            | (with_reducible (show wcall _ false (.lit (.func (.func 19) _ _)) _ _ _ _); refine wcall_fn (h19) (by simp [rfyL, rfy, hget, ints, take_rfy, take_rows4', flat_rows4', freeze1, take_rfy, flat_ints5, renR_rows4, rows4_len]) (by simp [plainL, plain, plainR, take_rows4', flat_rows4', freeze1, take_rfy, flat_ints5, renR_rows4, rows4_len]) ?_)
            | (with_reducible (show wcallX _ false (.lit (.func (.func 19) _ _)) _ _ _ _); refine wcallX_fn (h19) (by simp [rfyL, rfy, hget, ints, take_rfy, take_rows4', flat_rows4', freeze1, take_rfy, flat_ints5, renR_rows4, rows4_len]) (by simp [plainL, plain, plainR, take_rows4', flat_rows4', freeze1, take_rfy, flat_ints5, renR_rows4, rows4_len]) ?_)
            | (with_reducible (show wcall _ false (.lit (.func (.func 25) _ _)) _ _ _ _); refine wcall_fn (h25) (by simp [rfyL, rfy, hget, ints, take_rfy, take_rows4', flat_rows4', freeze1, take_rfy, flat_ints5, renR_rows4, rows4_len]) (by simp [plainL, plain, plainR, take_rows4', flat_rows4', freeze1, take_rfy, flat_ints5, renR_rows4, rows4_len]) ?_)
            | (with_reducible (show wcallX _ false (.lit (.func (.func 25) _ _)) _ _ _ _); refine wcallX_fn (h25) (by simp [rfyL, rfy, hget, ints, take_rfy, take_rows4', flat_rows4', freeze1, take_rfy, flat_ints5, renR_rows4, rows4_len]) (by simp [plainL, plain, plainR, take_rows4', flat_rows4', freeze1, take_rfy, flat_ints5, renR_rows4, rows4_len]) ?_)
            | (with_reducible (show wcall _ false (.lit (.func (.func 27) _ _)) _ _ _ _); refine wcall_fn (h27) (by simp [rfyL, rfy, hget, ints, take_rfy, take_rows4', flat_rows4', freeze1, take_rfy, flat_ints5, renR_rows4, rows4_len]) (by simp [plainL, plain, plainR, take_rows4', flat_rows4', freeze1, take_rfy, flat_ints5, renR_rows4, rows4_len]) ?_)
            | (with_reducible (show wcallX _ false (.lit (.func (.func 27) _ _)) _ _ _ _); refine wcallX_fn (h27) (by simp [rfyL, rfy, hget, ints, take_rfy, take_rows4', flat_rows4', freeze1, take_rfy, flat_ints5, renR_rows4, rows4_len]) (by simp [plainL, plain, plainR, take_rows4', flat_rows4', freeze1, take_rfy, flat_ints5, renR_rows4, rows4_len]) ?_)
            | (with_reducible (show wcall _ false (.lit (.func (.func 28) _ _)) _ _ _ _); refine wcall_fn (h28) (by simp [rfyL, rfy, hget, ints, take_rfy, take_rows4', flat_rows4', freeze1, take_rfy, flat_ints5, renR_rows4, rows4_len]) (by simp [plainL, plain, plainR, take_rows4', flat_rows4', freeze1, take_rfy, flat_ints5, renR_rows4, rows4_len]) ?_)
            | (with_reducible (show wcallX _ false (.lit (.func (.func 28) _ _)) _ _ _ _); refine wcallX_fn (h28) (by simp [rfyL, rfy, hget, ints, take_rfy, take_rows4', flat_rows4', freeze1, take_rfy, flat_ints5, renR_rows4, rows4_len]) (by simp [plainL, plain, plainR, take_rows4', flat_rows4', freeze1, take_rfy, flat_ints5, renR_rows4, rows4_len]) ?_)
            | (with_reducible (show wcall _ false (.lit (.func (.func 26) _ _)) _ _ _ _); refine wcall_fn (h26) (by simp [rfyL, rfy, hget, ints, take_rfy, take_rows4', take_rfy, rows4_len]) (by simp [plainL, plain]) ?_)
            | (with_reducible (show wcallX _ false (.lit (.func (.func 26) _ _)) _ _ _ _); refine wcallX_fn (h26) (by simp [rfyL, rfy, hget, ints, take_rfy, take_rows4', flat_rows4', freeze1, take_rfy, flat_ints5, renR_rows4, rows4_len]) (by simp [plainL, plain, plainR, take_rows4', flat_rows4', freeze1, take_rfy, flat_ints5, renR_rows4, rows4_len]) ?_)
            | (with_reducible (show wcall _ false (.lit (.func (.func 29) _ _)) _ _ _ _); refine wcall_fn (h29) (by simp [rfyL, rfy, hget, ints, take_rfy, take_rows4', flat_rows4', freeze1, take_rfy, flat_ints5, renR_rows4, rows4_len]) (by simp [plainL, plain, plainR, take_rows4', flat_rows4', freeze1, take_rfy, flat_ints5, renR_rows4, rows4_len]) ?_)
            | (with_reducible (show wcallX _ false (.lit (.func (.func 29) _ _)) _ _ _ _); refine wcallX_fn (h29) (by simp [rfyL, rfy, hget, ints, take_rfy, take_rows4', flat_rows4', freeze1, take_rfy, flat_ints5, renR_rows4, rows4_len]) (by simp [plainL, plain, plainR, take_rows4', flat_rows4', freeze1, take_rfy, flat_ints5, renR_rows4, rows4_len]) ?_)
            | (with_reducible (show wcall _ false (.lit (.func (.func 30) _ _)) _ _ _ _); refine wcall_fn (h30) (by simp [rfyL, rfy, hget, ints, take_rfy, take_rows4', flat_rows4', freeze1, take_rfy, flat_ints5, renR_rows4, rows4_len]) (by simp [plainL, plain, plainR, take_rows4', flat_rows4', freeze1, take_rfy, flat_ints5, renR_rows4, rows4_len]) ?_)
            | (with_reducible (show wcallX _ false (.lit (.func (.func 30) _ _)) _ _ _ _); refine wcallX_fn (h30) (by simp [rfyL, rfy, hget, ints, take_rfy, take_rows4', flat_rows4', freeze1, take_rfy, flat_ints5, renR_rows4, rows4_len]) (by simp [plainL, plain, plainR, take_rows4', flat_rows4', freeze1, take_rfy, flat_ints5, renR_rows4, rows4_len]) ?_)
            | (with_reducible (show wcall _ false (.lit (.func (.func 31) _ _)) _ _ _ _); refine wcall_fn (h31) (by simp [rfyL, rfy, hget, take_rows4', rows4_len]) (by simp [plainL, plain]) ?_)
            | (with_reducible (show wcallX _ false (.lit (.func (.func 31) _ _)) _ _ _ _); refine wcallX_fn (h31) (by simp [rfyL, rfy, hget, ints, take_rfy, take_rows4', flat_rows4', freeze1, take_rfy, flat_ints5, renR_rows4, rows4_len]) (by simp [plainL, plain, plainR, take_rows4', flat_rows4', freeze1, take_rfy, flat_ints5, renR_rows4, rows4_len]) ?_)
            | omega)
        | false =>
          have h31 := k31b hw
          clear k31a k31b hw
          repeat' (first
            | (with_reducible refine T_seq ?_)
            | (with_reducible refine T_reg ?_)
            | ((with_reducible refine T_calm ?_ ?_); rfl)
            | (with_reducible refine T_draw ?_)
            | (with_reducible refine T_skip ?_)
            | (with_reducible refine T_exit ?_)
            | (with_reducible refine T_block ?_)
            | (with_reducible (show T _ _ _ _ _ (.cond _ _ _) _ _); first | (refine T_cond_t rfl ?_) | (refine T_cond_f rfl ?_) | (refine T_cond rfl (fun hc => ?_) (fun hc => ?_) <;> have hd := hc <;> (try simp (disch := omega) only [wrapI] at hd) <;> have hs := hd <;> (try simp only [decide_eq_true_eq, decide_eq_false_iff_not, bne_iff_ne, bne_eq_false_iff_eq, gt_iff_lt, Int.not_lt, ne_eq] at hd) <;> (try simp at hs)))
            | (with_reducible (show wdW _ _ _ (_ :: _) _ _ _); refine wdW_cons rfl ?_)
            | (with_reducible (show wcall _ false (.lit (.func (.func 19) _ _)) _ _ _ _); refine wcall_fn (h19) rfl (by simp [plainL]) ?_)
            | (with_reducible (show wcallX _ false (.lit (.func (.func 19) _ _)) _ _ _ _); refine wcallX_fn (h19) rfl (by simp [plainL, plain, plainR, take_rows4', flat_rows4', freeze1, take_rfy, flat_ints5, renR_rows4, rows4_len, renR_erows]) ?_)
            | (with_reducible (show wcall _ false (.lit (.func (.func 25) _ _)) _ _ _ _); refine wcall_fn (h25) rfl (by simp [plainL, plain]) ?_)
            | (with_reducible (show wcallX _ false (.lit (.func (.func 25) _ _)) _ _ _ _); refine wcallX_fn (h25) rfl (by simp [plainL, plain, plainR, take_rows4', flat_rows4', freeze1, take_rfy, flat_ints5, renR_rows4, rows4_len, renR_erows]) ?_)
            | (with_reducible (show wcall _ false (.lit (.func (.func 27) _ _)) _ _ _ _); refine wcall_fn (h27) rfl (by simp [plainL, plain]) ?_)
            | (with_reducible (show wcallX _ false (.lit (.func (.func 27) _ _)) _ _ _ _); refine wcallX_fn (h27) rfl (by simp [plainL, plain, plainR, take_rows4', flat_rows4', freeze1, take_rfy, flat_ints5, renR_rows4, rows4_len, renR_erows]) ?_)
            | (with_reducible (show wcall _ false (.lit (.func (.func 28) _ _)) _ _ _ _); refine wcall_fn (h28) rfl (by simp [plainL, plain]) ?_)
            | (with_reducible (show wcallX _ false (.lit (.func (.func 28) _ _)) _ _ _ _); refine wcallX_fn (h28) rfl (by simp [plainL, plain, plainR, take_rows4', flat_rows4', freeze1, take_rfy, flat_ints5, renR_rows4, rows4_len, renR_erows]) ?_)
            | (with_reducible (show wcall _ false (.lit (.func (.func 26) _ _)) _ _ _ _); refine wcall_fn (h26) rfl (by simp [plainL, plain]) ?_)
            | (with_reducible (show wcallX _ false (.lit (.func (.func 26) _ _)) _ _ _ _); refine wcallX_fn (h26) rfl (by simp [plainL, plain, plainR, take_rows4', flat_rows4', freeze1, take_rfy, flat_ints5, renR_rows4, rows4_len, renR_erows]) ?_)
            | (with_reducible (show wcall _ false (.lit (.func (.func 29) _ _)) _ _ _ _); refine wcall_fn (h29) rfl (by simp [plainL, plain]) ?_)
            | (with_reducible (show wcallX _ false (.lit (.func (.func 29) _ _)) _ _ _ _); refine wcallX_fn (h29) rfl (by simp [plainL, plain, plainR, take_rows4', flat_rows4', freeze1, take_rfy, flat_ints5, renR_rows4, rows4_len, renR_erows]) ?_)
            | (with_reducible (show wcall _ false (.lit (.func (.func 30) _ _)) _ _ _ _); refine wcall_fn (h30) rfl (by simp [plainL, plain]) ?_)
            | (with_reducible (show wcallX _ false (.lit (.func (.func 30) _ _)) _ _ _ _); refine wcallX_fn (h30) rfl (by simp [plainL, plain, plainR, take_rows4', flat_rows4', freeze1, take_rfy, flat_ints5, renR_rows4, rows4_len, renR_erows]) ?_)
            | (with_reducible (show wcall _ false (.lit (.func (.func 31) _ _)) _ _ _ _); refine wcall_fn (h31) rfl (by simp [plainL, plain]) ?_)
            | (with_reducible (show wcallX _ false (.lit (.func (.func 31) _ _)) _ _ _ _); refine wcallX_fn (h31) rfl (by simp [plainL, plain, plainR, take_rows4', flat_rows4', freeze1, take_rfy, flat_ints5, renR_rows4, rows4_len, renR_erows]) ?_)
            | (with_reducible refine wguard_split (fun hc => ?_) (fun hc => ?_) <;> have hd := hc <;> (try simp (disch := omega) only [wrapI] at hd) <;> have hs := hd <;> (try simp only [bne_iff_ne, bne_eq_false_iff_eq, Bool.not_false, ne_eq] at hd) <;> (try simp at hs))
            | (with_reducible refine wguardX_split (fun hc => ?_) (fun hc => ?_) <;> have hd := hc <;> (try simp (disch := omega) only [wrapI] at hd) <;> have hs := hd <;> (try simp only [Bool.not_eq_true', Bool.not_eq_false', Bool.and_eq_true, Bool.and_eq_false_iff, Bool.or_eq_true, Bool.or_eq_false_iff, decide_eq_true_eq, decide_eq_false_iff_not, beq_iff_eq, bne_iff_ne, beq_eq_false_iff_ne, bne_eq_false_iff_eq, Bool.not_true, Bool.not_false, gt_iff_lt, ge_iff_le, Int.not_lt, Int.not_le, ne_eq, Decidable.not_not] at hd) <;> (try simp at hs))
            | (with_reducible refine T_ret ?_)
            | (with_reducible (show leave _ _ _ _ _); first | (refine leave_of (.inr rfl) _ rfl ?_) | (refine leave_of (.inl rfl) _ rfl ?_))
            | (with_reducible (show leaveA _ _ _ _); first | (refine leaveA_of (.inr rfl) _ rfl ?_) | (refine leaveA_of (.inl rfl) _ rfl ?_))
            | (with_reducible refine wif_intro ?_ (fun hc => ?_))
            | (with_reducible refine And.intro ?_ ?_)
            | (with_reducible intro hc)
            | (simp (maxSteps := 4000000) only [wops_nil, wops_cons, wstep_none, wstep_some, wguard_ff, wrun_call, wrun_mv, wrun_pick, wrun_bin, wrun_not, wrun_ext, wrun_len, get_mk, wop, aop, ev, look, put_some, writes, ores_some, ores_map, ores_bind, binV, thenK, boolV, intV, lenOf, hget, tupOf, List.map_cons, List.map_nil, List.length_cons, List.length_nil, List.getElem?_cons_zero, List.getElem?_cons_succ, List.set_cons_zero, List.set_cons_succ, List.drop_zero, List.cons_append, List.nil_append, List.append_nil, List.replicate_zero, List.zipIdx_cons, List.zipIdx_nil, List.length_map, Option.pure_def, Option.bind_eq_bind, Option.getD_some, Option.map_some, if_true, if_false, Nat.reduceEqDiff, Nat.reduceAdd, Nat.add_zero, Nat.zero_add, Nat.zero_ne_one, reduceCtorEq, Bool.not_true, Bool.false_eq_true, eq_self, decide_true, beq_self_eq_true, freeze, lidsL, lids, List.flatMap_cons, List.flatMap_nil, ren, renL, renR, renB, shiftρ, renR_ints, flat_rows4', freeze1, flat_ints5, renR_rows4, renR_erows, *])
            | (simp (disch := omega) only [getD_ints, wrapI])
            | (with_reducible (show wcall _ false (.lit (.func (.func 19) _ _)) _ _ _ _); refine wcall_fn (h19) (by simp [rfyL, rfy, hget, ints, take_rfy, take_rows4', flat_rows4', freeze1, take_rfy, flat_ints5, renR_rows4, rows4_len, renR_erows]) (by simp [plainL, plain, plainR, take_rows4', flat_rows4', freeze1, take_rfy, flat_ints5, renR_rows4, rows4_len, renR_erows]) ?_)
            | (with_reducible (show wcallX _ false (.lit (.func (.func 19) _ _)) _ _ _ _); refine wcallX_fn (h19) (by simp [rfyL, rfy, hget, ints, take_rfy, take_rows4', flat_rows4', freeze1, take_rfy, flat_ints5, renR_rows4, rows4_len, renR_erows]) (by simp [plainL, plain, plainR, take_rows4', flat_rows4', freeze1, take_rfy, flat_ints5, renR_rows4, rows4_len, renR_erows]) ?_)
            | (with_reducible (show wcall _ false (.lit (.func (.func 25) _ _)) _ _ _ _); refine wcall_fn (h25) (by simp [rfyL, rfy, hget, ints, take_rfy, take_rows4', flat_rows4', freeze1, take_rfy, flat_ints5, renR_rows4, rows4_len, renR_erows]) (by simp [plainL, plain, plainR, take_rows4', flat_rows4', freeze1, take_rfy, flat_ints5, renR_rows4, rows4_len, renR_erows]) ?_)
            | (with_reducible (show wcallX _ false (.lit (.func (.func 25) _ _)) _ _ _ _); refine wcallX_fn (h25) (by simp [rfyL, rfy, hget, ints, take_rfy, take_rows4', flat_rows4', freeze1, take_rfy, flat_ints5, renR_rows4, rows4_len, renR_erows]) (by simp [plainL, plain, plainR, take_rows4', flat_rows4', freeze1, take_rfy, flat_ints5, renR_rows4, rows4_len, renR_erows]) ?_)
            | (with_reducible (show wcall _ false (.lit (.func (.func 27) _ _)) _ _ _ _); refine wcall_fn (h27) (by simp [rfyL, rfy, hget, ints, take_rfy, take_rows4', flat_rows4', freeze1, take_rfy, flat_ints5, renR_rows4, rows4_len, renR_erows]) (by simp [plainL, plain, plainR, take_rows4', flat_rows4', freeze1, take_rfy, flat_ints5, renR_rows4, rows4_len, renR_erows]) ?_)
            | (with_reducible (show wcallX _ false (.lit (.func (.func 27) _ _)) _ _ _ _); refine wcallX_fn (h27) (by simp [rfyL, rfy, hget, ints, take_rfy, take_rows4', flat_rows4', freeze1, take_rfy, flat_ints5, renR_rows4, rows4_len, renR_erows]) (by simp [plainL, plain, plainR, take_rows4', flat_rows4', freeze1, take_rfy, flat_ints5, renR_rows4, rows4_len, renR_erows]) ?_)
            | (with_reducible (show wcall _ false (.lit (.func (.func 28) _ _)) _ _ _ _); refine wcall_fn (h28) (by simp [rfyL, rfy, hget, ints, take_rfy, take_rows4', flat_rows4', freeze1, take_rfy, flat_ints5, renR_rows4, rows4_len, renR_erows]) (by simp [plainL, plain, plainR, take_rows4', flat_rows4', freeze1, take_rfy, flat_ints5, renR_rows4, rows4_len, renR_erows]) ?_)
            | (with_reducible (show wcallX _ false (.lit (.func (.func 28) _ _)) _ _ _ _); refine wcallX_fn (h28) (by simp [rfyL, rfy, hget, ints, take_rfy, take_rows4', flat_rows4', freeze1, take_rfy, flat_ints5, renR_rows4, rows4_len, renR_erows]) (by simp [plainL, plain, plainR, take_rows4', flat_rows4', freeze1, take_rfy, flat_ints5, renR_rows4, rows4_len, renR_erows]) ?_)
            | (with_reducible (show wcall _ false (.lit (.func (.func 26) _ _)) _ _ _ _); refine wcall_fn (h26) (by simp [rfyL, rfy, hget, ints, take_rfy, take_rows4', take_rfy, rows4_len]) (by simp [plainL, plain]) ?_)
            | (with_reducible (show wcallX _ false (.lit (.func (.func 26) _ _)) _ _ _ _); refine wcallX_fn (h26) (by simp [rfyL, rfy, hget, ints, take_rfy, take_rows4', flat_rows4', freeze1, take_rfy, flat_ints5, renR_rows4, rows4_len, renR_erows]) (by simp [plainL, plain, plainR, take_rows4', flat_rows4', freeze1, take_rfy, flat_ints5, renR_rows4, rows4_len, renR_erows]) ?_)
            | (with_reducible (show wcall _ false (.lit (.func (.func 29) _ _)) _ _ _ _); refine wcall_fn (h29) (by simp [rfyL, rfy, hget, ints, take_rfy, take_rows4', flat_rows4', freeze1, take_rfy, flat_ints5, renR_rows4, rows4_len, renR_erows]) (by simp [plainL, plain, plainR, take_rows4', flat_rows4', freeze1, take_rfy, flat_ints5, renR_rows4, rows4_len, renR_erows]) ?_)
            | (with_reducible (show wcallX _ false (.lit (.func (.func 29) _ _)) _ _ _ _); refine wcallX_fn (h29) (by simp [rfyL, rfy, hget, ints, take_rfy, take_rows4', flat_rows4', freeze1, take_rfy, flat_ints5, renR_rows4, rows4_len, renR_erows]) (by simp [plainL, plain, plainR, take_rows4', flat_rows4', freeze1, take_rfy, flat_ints5, renR_rows4, rows4_len, renR_erows]) ?_)
            | (with_reducible (show wcall _ false (.lit (.func (.func 30) _ _)) _ _ _ _); refine wcall_fn (h30) (by simp [rfyL, rfy, hget, ints, take_rfy, take_rows4', flat_rows4', freeze1, take_rfy, flat_ints5, renR_rows4, rows4_len, renR_erows]) (by simp [plainL, plain, plainR, take_rows4', flat_rows4', freeze1, take_rfy, flat_ints5, renR_rows4, rows4_len, renR_erows]) ?_)
            | (with_reducible (show wcallX _ false (.lit (.func (.func 30) _ _)) _ _ _ _); refine wcallX_fn (h30) (by simp [rfyL, rfy, hget, ints, take_rfy, take_rows4', flat_rows4', freeze1, take_rfy, flat_ints5, renR_rows4, rows4_len, renR_erows]) (by simp [plainL, plain, plainR, take_rows4', flat_rows4', freeze1, take_rfy, flat_ints5, renR_rows4, rows4_len, renR_erows]) ?_)
            | (with_reducible (show wcall _ false (.lit (.func (.func 31) _ _)) _ _ _ _); refine wcall_fn (h31) (by simp [rfyL, rfy, hget, take_rows4', rows4_len]) (by simp [plainL, plain]) ?_)
            | (with_reducible (show wcallX _ false (.lit (.func (.func 31) _ _)) _ _ _ _); refine wcallX_fn (h31) (by simp [rfyL, rfy, hget, ints, take_rfy, take_rows4', flat_rows4', freeze1, take_rfy, flat_ints5, renR_rows4, rows4_len, renR_erows]) (by simp [plainL, plain, plainR, take_rows4', flat_rows4', freeze1, take_rfy, flat_ints5, renR_rows4, rows4_len, renR_erows]) ?_)
            | omega)
          refine T_for [0, 2, 11, 14] (fun k => ⟨[(0, i64 z), (2, ints nh ys), (11, .lsl 3 0 z), (14, i64 k)], [.cells false false 4 (rows4 l), .cells false false 1 (ys.map fun x => [i64 x]), .cells false false 4 (rows4 l), .cells true false 2 (erows (enc M z))]⟩) z (fun _ => True) 0 rfl trivial (Nat.zero_le _) ?_
          intro k hk _
          have hel := enc_len M z
          have hel2 := erows_len (enc M z)
          unfold c4l0
          by_cases hkz : k < z
          · obtain ⟨b1, b2⟩ := henc.1 k hkz
            have b3 := hyb2.1 k
            have b4 := hyb2.1 0
            have hg : (erows (enc M z)).getD k [] = [i64 (-(mget M k 0)), i64 (mget M 0 k)] := by
              rw [erows_get (by omega), enc_get M z k hkz]
            have hb : (decide (-(mget M k 0) ≤ ys.getD k 0 - ys.getD 0 0) && decide (ys.getD k 0 - ys.getD 0 0 ≤ mget M 0 k)) = true := by simp only [Bool.and_eq_true, decide_eq_true_eq]; omega
            have ew : IntKind.i64.wrap (ys.getD k 0 - ys.getD 0 0) = ys.getD k 0 - ys.getD 0 0 := wrapI (by omega) (by omega)
            have e00 : Int.toNat 0 = 0 := rfl
            have g1 : (ys.map fun x => [i64 x]).getD k [] = [i64 (ys.getD k 0)] := getD_ints (by omega)
            have g2 : (ys.map fun x => [i64 x]).getD 0 [] = [i64 (ys.getD 0 0)] := getD_ints (by omega)
            clear b1 b2
            repeat' (first
              | (with_reducible refine T_seq ?_)
              | (with_reducible refine T_reg ?_)
              | ((with_reducible refine T_calm ?_ ?_); rfl)
              | (with_reducible refine T_draw ?_)
              | (with_reducible refine T_skip ?_)
              | (with_reducible refine T_exit ?_)
              | (with_reducible refine T_block ?_)
              | (with_reducible (show T _ _ _ _ _ (.cond _ _ _) _ _); first | (refine T_cond_t rfl ?_) | (refine T_cond_f rfl ?_) | (refine T_cond rfl (fun hc => ?_) (fun hc => ?_) <;> have hd := hc <;> (try simp (disch := omega) only [wrapI] at hd) <;> have hs := hd <;> (try simp only [decide_eq_true_eq, decide_eq_false_iff_not, Int.not_lt] at hd) <;> (try simp at hs)))
              | (with_reducible (show wdW _ _ _ (_ :: _) _ _ _); refine wdW_cons rfl ?_)
              | (with_reducible (show wcall _ false (.lit (.func (.func 32) _ _)) _ _ _ _); refine wcall_fn (k32 _ _ _) rfl (by simp [plainL, plain, plainR, Int.toNat_natCast]) ?_)
              | (with_reducible (show wcallX _ false (.lit (.func (.func 32) _ _)) _ _ _ _); refine wcallX_fn (k32 _ _ _) rfl (by simp [plainL, plain]) ?_)
              | (with_reducible refine wguard_split (fun hc => ?_) (fun hc => ?_) <;> have hd := hc <;> (try simp (disch := omega) only [wrapI] at hd) <;> have hs := hd <;> (try simp only [Bool.not_eq_true', Bool.not_eq_false', Bool.and_eq_true, Bool.and_eq_false_iff, Bool.or_eq_true, Bool.or_eq_false_iff, decide_eq_true_eq, decide_eq_false_iff_not, beq_iff_eq, bne_iff_ne, beq_eq_false_iff_ne, bne_eq_false_iff_eq, Bool.not_true, Bool.not_false, gt_iff_lt, ge_iff_le, Int.not_lt, Int.not_le, ne_eq, Decidable.not_not] at hd) <;> (try simp at hs))
              | (with_reducible refine wguardX_split (fun hc => ?_) (fun hc => ?_) <;> have hd := hc <;> (try simp (disch := omega) only [wrapI] at hd) <;> have hs := hd <;> (try simp only [Bool.not_eq_true', Bool.not_eq_false', Bool.and_eq_true, Bool.and_eq_false_iff, Bool.or_eq_true, Bool.or_eq_false_iff, decide_eq_true_eq, decide_eq_false_iff_not, beq_iff_eq, bne_iff_ne, beq_eq_false_iff_ne, bne_eq_false_iff_eq, Bool.not_true, Bool.not_false, gt_iff_lt, ge_iff_le, Int.not_lt, Int.not_le, ne_eq, Decidable.not_not] at hd) <;> (try simp at hs))
              | (with_reducible refine T_ret ?_)
              | (with_reducible (show leave _ _ _ _ _); first | (refine leave_of (.inr rfl) _ rfl ?_) | (refine leave_of (.inl rfl) _ rfl ?_))
              | (with_reducible (show leaveA _ _ _ _); first | (refine leaveA_of (.inr rfl) _ rfl ?_) | (refine leaveA_of (.inl rfl) _ rfl ?_))
              | (with_reducible refine wif_intro ?_ (fun hc => ?_))
              | (with_reducible refine And.intro ?_ ?_)
              | (with_reducible intro hc)
              | (simp (maxSteps := 4000000) only [wops_nil, wops_cons, wstep_none, wrun_mv, wrun_bin, wrun_not, wrun_load, wrun_faddr, wrun_iaddrS, wrunX_mv, wrunX_bin, wrunX_not, wrunX_load, wrunX_faddr, wrunX_iaddrS, wdW_nil, wstepX_none, wrunX_call, get_mk, wop, aop, ev, look, put_some, writes, ores_some, ores_ite_none, binV, thenK, blockK, boolV, value, cut, hget, toLits, mkAgg, tupOf, List.map_cons, List.map_nil, List.length_cons, List.length_nil, List.getElem?_cons_zero, List.getElem?_cons_succ, List.take_succ_cons, List.take_zero, List.take_nil, List.drop_succ_cons, List.drop_zero, List.append_nil, List.replicate_zero, List.length_map, Option.getD_some, Option.map_some, if_true, if_false, Nat.reduceEqDiff, Nat.reduceAdd, Nat.add_zero, Nat.zero_add, reduceCtorEq, Bool.not_true, Bool.and_true, Bool.false_eq_true, eq_self, true_and, and_true, and_self, decide_true, freeze, lidsL, lids, List.flatMap_cons, List.flatMap_nil, ren, Int.toNat_natCast, *])
              | (simp (disch := omega) only [wrapI])
              | (with_reducible (show wcall _ false (.lit (.func (.func 32) _ _)) _ _ _ _); refine wcall_fn (k32 _ _ _) (by simp [rfyL, rfy, hget, ints, take_rfy, Int.toNat_natCast]) (by simp [plainL, plain, plainR, Int.toNat_natCast]) ?_)
              | (with_reducible (show wcallX _ false (.lit (.func (.func 32) _ _)) _ _ _ _); refine wcallX_fn (k32 _ _ _) (by simp [rfyL, rfy, hget, ints, take_rfy, Int.toNat_natCast]) (by simp [plainL, plain, plainR, Int.toNat_natCast]) ?_)
              | omega)
            exact rfl
          · skip
            repeat' (first
              | (with_reducible refine T_seq ?_)
              | (with_reducible refine T_reg ?_)
              | ((with_reducible refine T_calm ?_ ?_); rfl)
              | (with_reducible refine T_draw ?_)
              | (with_reducible refine T_skip ?_)
              | (with_reducible refine T_exit ?_)
              | (with_reducible refine T_block ?_)
              | (with_reducible (show T _ _ _ _ _ (.cond _ _ _) _ _); first | (refine T_cond_t rfl ?_) | (refine T_cond_f rfl ?_) | (refine T_cond rfl (fun hc => ?_) (fun hc => ?_) <;> have hd := hc <;> (try simp (disch := omega) only [wrapI] at hd) <;> have hs := hd <;> (try simp only [decide_eq_true_eq, decide_eq_false_iff_not, Int.not_lt] at hd) <;> (try simp at hs)))
              | (with_reducible (show wdW _ _ _ (_ :: _) _ _ _); refine wdW_cons rfl ?_)
              | (with_reducible refine wguard_split (fun hc => ?_) (fun hc => ?_) <;> have hd := hc <;> (try simp (disch := omega) only [wrapI] at hd) <;> have hs := hd <;> (try simp only [Bool.not_eq_true', Bool.not_eq_false', Bool.and_eq_true, Bool.and_eq_false_iff, Bool.or_eq_true, Bool.or_eq_false_iff, decide_eq_true_eq, decide_eq_false_iff_not, beq_iff_eq, bne_iff_ne, beq_eq_false_iff_ne, bne_eq_false_iff_eq, Bool.not_true, Bool.not_false, gt_iff_lt, ge_iff_le, Int.not_lt, Int.not_le, ne_eq, Decidable.not_not] at hd) <;> (try simp at hs))
              | (with_reducible refine wguardX_split (fun hc => ?_) (fun hc => ?_) <;> have hd := hc <;> (try simp (disch := omega) only [wrapI] at hd) <;> have hs := hd <;> (try simp only [Bool.not_eq_true', Bool.not_eq_false', Bool.and_eq_true, Bool.and_eq_false_iff, Bool.or_eq_true, Bool.or_eq_false_iff, decide_eq_true_eq, decide_eq_false_iff_not, beq_iff_eq, bne_iff_ne, beq_eq_false_iff_ne, bne_eq_false_iff_eq, Bool.not_true, Bool.not_false, gt_iff_lt, ge_iff_le, Int.not_lt, Int.not_le, ne_eq, Decidable.not_not] at hd) <;> (try simp at hs))
              | (with_reducible refine T_ret ?_)
              | (with_reducible (show leave _ _ _ _ _); first | (refine leave_of (.inr rfl) _ rfl ?_) | (refine leave_of (.inl rfl) _ rfl ?_))
              | (with_reducible (show leaveA _ _ _ _); first | (refine leaveA_of (.inr rfl) _ rfl ?_) | (refine leaveA_of (.inl rfl) _ rfl ?_))
              | (with_reducible refine wif_intro ?_ (fun hc => ?_))
              | (with_reducible refine And.intro ?_ ?_)
              | (with_reducible intro hc)
              | (simp (maxSteps := 4000000) only [wops_nil, wops_cons, wstep_none, wrun_mv, wrun_bin, wrun_load, wrun_iaddrS, wrunX_mv, wrunX_load, wrunX_iaddrS, wstepX_none, get_mk, wop, aop, ev, look, put_some, writes, ores_some, ores_none, ores_ite_none, ores_map, binV, thenK, blockK, value, cut, mkAgg, tupOf, List.length_cons, List.length_nil, List.take_succ_cons, List.take_nil, List.drop_zero, List.append_nil, List.replicate_zero, List.length_map, Option.map_some, if_true, if_false, Nat.reduceEqDiff, Nat.reduceAdd, Nat.zero_add, reduceCtorEq, Bool.false_eq_true, eq_self, and_true, and_self, false_and, decide_true, ren, *])
              | (simp (disch := omega) only [getD_ints])
              | omega)
      · skip
        repeat' (first
          | (with_reducible refine T_seq ?_)
          | (with_reducible refine T_reg ?_)
          | ((with_reducible refine T_calm ?_ ?_); rfl)
          | (with_reducible refine T_draw ?_)
          | (with_reducible refine T_skip ?_)
          | (with_reducible refine T_exit ?_)
          | (with_reducible refine T_block ?_)
          | (with_reducible (show T _ _ _ _ _ (.cond _ _ _) _ _); first | (refine T_cond_t rfl ?_) | (refine T_cond_f rfl ?_) | (refine T_cond rfl (fun hc => ?_) (fun hc => ?_) <;> have hd := hc <;> (try simp (disch := omega) only [wrapI] at hd) <;> have hs := hd <;> (try simp only [decide_eq_true_eq, decide_eq_false_iff_not, bne_iff_ne, bne_eq_false_iff_eq, gt_iff_lt, Int.not_lt, ne_eq] at hd) <;> (try simp at hs)))
          | (with_reducible (show wdW _ _ _ (_ :: _) _ _ _); refine wdW_cons rfl ?_)
          | (with_reducible (show wcall _ false (.lit (.func (.func 19) _ _)) _ _ _ _); refine wcall_fn (h19) rfl (by simp [plainL]) ?_)
          | (with_reducible (show wcallX _ false (.lit (.func (.func 19) _ _)) _ _ _ _); refine wcallX_fn (h19) rfl (by simp [plainL, plain, plainR, take_rows4', flat_rows4', freeze1, take_rfy, flat_ints5, renR_rows4, rows4_len]) ?_)
          | (with_reducible (show wcall _ false (.lit (.func (.func 25) _ _)) _ _ _ _); refine wcall_fn (h25) rfl (by simp [plainL, plain]) ?_)
          | (with_reducible (show wcallX _ false (.lit (.func (.func 25) _ _)) _ _ _ _); refine wcallX_fn (h25) rfl (by simp [plainL, plain, plainR, take_rows4', flat_rows4', freeze1, take_rfy, flat_ints5, renR_rows4, rows4_len]) ?_)
          | (with_reducible (show wcall _ false (.lit (.func (.func 27) _ _)) _ _ _ _); refine wcall_fn (h27) rfl (by simp [plainL, plain]) ?_)
          | (with_reducible (show wcallX _ false (.lit (.func (.func 27) _ _)) _ _ _ _); refine wcallX_fn (h27) rfl (by simp [plainL, plain, plainR, take_rows4', flat_rows4', freeze1, take_rfy, flat_ints5, renR_rows4, rows4_len]) ?_)
          | (with_reducible (show wcall _ false (.lit (.func (.func 28) _ _)) _ _ _ _); refine wcall_fn (h28) rfl (by simp [plainL, plain]) ?_)
          | (with_reducible (show wcallX _ false (.lit (.func (.func 28) _ _)) _ _ _ _); refine wcallX_fn (h28) rfl (by simp [plainL, plain, plainR, take_rows4', flat_rows4', freeze1, take_rfy, flat_ints5, renR_rows4, rows4_len]) ?_)
          | (with_reducible (show wcall _ false (.lit (.func (.func 26) _ _)) _ _ _ _); refine wcall_fn (h26) rfl (by simp [plainL, plain]) ?_)
          | (with_reducible (show wcallX _ false (.lit (.func (.func 26) _ _)) _ _ _ _); refine wcallX_fn (h26) rfl (by simp [plainL, plain, plainR, take_rows4', flat_rows4', freeze1, take_rfy, flat_ints5, renR_rows4, rows4_len]) ?_)
          | (with_reducible (show wcall _ false (.lit (.func (.func 29) _ _)) _ _ _ _); refine wcall_fn (h29) rfl (by simp [plainL, plain]) ?_)
          | (with_reducible (show wcallX _ false (.lit (.func (.func 29) _ _)) _ _ _ _); refine wcallX_fn (h29) rfl (by simp [plainL, plain, plainR, take_rows4', flat_rows4', freeze1, take_rfy, flat_ints5, renR_rows4, rows4_len]) ?_)
          | (with_reducible (show wcall _ false (.lit (.func (.func 30) _ _)) _ _ _ _); refine wcall_fn (h30) rfl (by simp [plainL, plain]) ?_)
          | (with_reducible (show wcallX _ false (.lit (.func (.func 30) _ _)) _ _ _ _); refine wcallX_fn (h30) rfl (by simp [plainL, plain, plainR, take_rows4', flat_rows4', freeze1, take_rfy, flat_ints5, renR_rows4, rows4_len]) ?_)
          | (with_reducible refine wguard_split (fun hc => ?_) (fun hc => ?_) <;> have hd := hc <;> (try simp (disch := omega) only [wrapI] at hd) <;> have hs := hd <;> (try simp only [bne_iff_ne, bne_eq_false_iff_eq, Bool.not_false, ne_eq] at hd) <;> (try simp at hs))
          | (with_reducible refine wguardX_split (fun hc => ?_) (fun hc => ?_) <;> have hd := hc <;> (try simp (disch := omega) only [wrapI] at hd) <;> have hs := hd <;> (try simp only [Bool.not_eq_true', Bool.not_eq_false', Bool.and_eq_true, Bool.and_eq_false_iff, Bool.or_eq_true, Bool.or_eq_false_iff, decide_eq_true_eq, decide_eq_false_iff_not, beq_iff_eq, bne_iff_ne, beq_eq_false_iff_ne, bne_eq_false_iff_eq, Bool.not_true, Bool.not_false, gt_iff_lt, ge_iff_le, Int.not_lt, Int.not_le, ne_eq, Decidable.not_not] at hd) <;> (try simp at hs))
          | (with_reducible refine T_ret ?_)
          | (with_reducible (show leave _ _ _ _ _); first | (refine leave_of (.inr rfl) _ rfl ?_) | (refine leave_of (.inl rfl) _ rfl ?_))
          | (with_reducible (show leaveA _ _ _ _); first | (refine leaveA_of (.inr rfl) _ rfl ?_) | (refine leaveA_of (.inl rfl) _ rfl ?_))
          | (with_reducible refine wif_intro ?_ (fun hc => ?_))
          | (with_reducible refine And.intro ?_ ?_)
          | (with_reducible intro hc)
          | (simp (maxSteps := 4000000) only [wops_nil, wops_cons, wstep_none, wstep_some, wguard_ff, wrun_call, wrun_mv, wrun_pick, wrun_bin, wrun_not, wrun_ext, wrun_len, get_mk, wop, aop, ev, look, put_some, writes, ores_some, ores_map, ores_bind, binV, thenK, boolV, intV, lenOf, hget, tupOf, List.map_cons, List.map_nil, List.length_cons, List.length_nil, List.getElem?_cons_zero, List.getElem?_cons_succ, List.set_cons_zero, List.set_cons_succ, List.drop_zero, List.cons_append, List.nil_append, List.append_nil, List.replicate_zero, List.zipIdx_cons, List.zipIdx_nil, List.length_map, Option.pure_def, Option.bind_eq_bind, Option.getD_some, Option.map_some, if_true, if_false, Nat.reduceEqDiff, Nat.reduceAdd, Nat.add_zero, Nat.zero_add, Nat.zero_ne_one, reduceCtorEq, Bool.not_true, Bool.false_eq_true, eq_self, decide_true, beq_self_eq_true, freeze, lidsL, lids, List.flatMap_cons, List.flatMap_nil, ren, renL, renB, shiftρ, renR_ints, flat_rows4', freeze1, flat_ints5, renR_rows4, *])
          | (simp (disch := omega) only [getD_ints, wrapI])
          | (with_reducible (show wcall _ false (.lit (.func (.func 19) _ _)) _ _ _ _); refine wcall_fn (h19) (by simp [rfyL, rfy, hget, ints, take_rfy, take_rows4', flat_rows4', freeze1, take_rfy, flat_ints5, renR_rows4, rows4_len]) (by simp [plainL, plain, plainR, take_rows4', flat_rows4', freeze1, take_rfy, flat_ints5, renR_rows4, rows4_len]) ?_)
          | (with_reducible (show wcallX _ false (.lit (.func (.func 19) _ _)) _ _ _ _); refine wcallX_fn (h19) (by simp [rfyL, rfy, hget, ints, take_rfy, take_rows4', flat_rows4', freeze1, take_rfy, flat_ints5, renR_rows4, rows4_len]) (by simp [plainL, plain, plainR, take_rows4', flat_rows4', freeze1, take_rfy, flat_ints5, renR_rows4, rows4_len]) ?_)
          | (with_reducible (show wcall _ false (.lit (.func (.func 25) _ _)) _ _ _ _); refine wcall_fn (h25) (by simp [rfyL, rfy, hget, ints, take_rfy, take_rows4', flat_rows4', freeze1, take_rfy, flat_ints5, renR_rows4, rows4_len]) (by simp [plainL, plain, plainR, take_rows4', flat_rows4', freeze1, take_rfy, flat_ints5, renR_rows4, rows4_len]) ?_)
          | (with_reducible (show wcallX _ false (.lit (.func (.func 25) _ _)) _ _ _ _); refine wcallX_fn (h25) (by simp [rfyL, rfy, hget, ints, take_rfy, take_rows4', flat_rows4', freeze1, take_rfy, flat_ints5, renR_rows4, rows4_len]) (by simp [plainL, plain, plainR, take_rows4', flat_rows4', freeze1, take_rfy, flat_ints5, renR_rows4, rows4_len]) ?_)
          | (with_reducible (show wcall _ false (.lit (.func (.func 27) _ _)) _ _ _ _); refine wcall_fn (h27) (by simp [rfyL, rfy, hget, ints, take_rfy, take_rows4', flat_rows4', freeze1, take_rfy, flat_ints5, renR_rows4, rows4_len]) (by simp [plainL, plain, plainR, take_rows4', flat_rows4', freeze1, take_rfy, flat_ints5, renR_rows4, rows4_len]) ?_)
          | (with_reducible (show wcallX _ false (.lit (.func (.func 27) _ _)) _ _ _ _); refine wcallX_fn (h27) (by simp [rfyL, rfy, hget, ints, take_rfy, take_rows4', flat_rows4', freeze1, take_rfy, flat_ints5, renR_rows4, rows4_len]) (by simp [plainL, plain, plainR, take_rows4', flat_rows4', freeze1, take_rfy, flat_ints5, renR_rows4, rows4_len]) ?_)
          | (with_reducible (show wcall _ false (.lit (.func (.func 28) _ _)) _ _ _ _); refine wcall_fn (h28) (by simp [rfyL, rfy, hget, ints, take_rfy, take_rows4', flat_rows4', freeze1, take_rfy, flat_ints5, renR_rows4, rows4_len]) (by simp [plainL, plain, plainR, take_rows4', flat_rows4', freeze1, take_rfy, flat_ints5, renR_rows4, rows4_len]) ?_)
          | (with_reducible (show wcallX _ false (.lit (.func (.func 28) _ _)) _ _ _ _); refine wcallX_fn (h28) (by simp [rfyL, rfy, hget, ints, take_rfy, take_rows4', flat_rows4', freeze1, take_rfy, flat_ints5, renR_rows4, rows4_len]) (by simp [plainL, plain, plainR, take_rows4', flat_rows4', freeze1, take_rfy, flat_ints5, renR_rows4, rows4_len]) ?_)
          | (with_reducible (show wcall _ false (.lit (.func (.func 26) _ _)) _ _ _ _); refine wcall_fn (h26) (by simp [rfyL, rfy, hget, ints, take_rfy, take_rows4', take_rfy, rows4_len]) (by simp [plainL, plain]) ?_)
          | (with_reducible (show wcallX _ false (.lit (.func (.func 26) _ _)) _ _ _ _); refine wcallX_fn (h26) (by simp [rfyL, rfy, hget, ints, take_rfy, take_rows4', flat_rows4', freeze1, take_rfy, flat_ints5, renR_rows4, rows4_len]) (by simp [plainL, plain, plainR, take_rows4', flat_rows4', freeze1, take_rfy, flat_ints5, renR_rows4, rows4_len]) ?_)
          | (with_reducible (show wcall _ false (.lit (.func (.func 29) _ _)) _ _ _ _); refine wcall_fn (h29) (by simp [rfyL, rfy, hget, ints, take_rfy, take_rows4', flat_rows4', freeze1, take_rfy, flat_ints5, renR_rows4, rows4_len]) (by simp [plainL, plain, plainR, take_rows4', flat_rows4', freeze1, take_rfy, flat_ints5, renR_rows4, rows4_len]) ?_)
          | (with_reducible (show wcallX _ false (.lit (.func (.func 29) _ _)) _ _ _ _); refine wcallX_fn (h29) (by simp [rfyL, rfy, hget, ints, take_rfy, take_rows4', flat_rows4', freeze1, take_rfy, flat_ints5, renR_rows4, rows4_len]) (by simp [plainL, plain, plainR, take_rows4', flat_rows4', freeze1, take_rfy, flat_ints5, renR_rows4, rows4_len]) ?_)
          | (with_reducible (show wcall _ false (.lit (.func (.func 30) _ _)) _ _ _ _); refine wcall_fn (h30) (by simp [rfyL, rfy, hget, ints, take_rfy, take_rows4', flat_rows4', freeze1, take_rfy, flat_ints5, renR_rows4, rows4_len]) (by simp [plainL, plain, plainR, take_rows4', flat_rows4', freeze1, take_rfy, flat_ints5, renR_rows4, rows4_len]) ?_)
          | (with_reducible (show wcallX _ false (.lit (.func (.func 30) _ _)) _ _ _ _); refine wcallX_fn (h30) (by simp [rfyL, rfy, hget, ints, take_rfy, take_rows4', flat_rows4', freeze1, take_rfy, flat_ints5, renR_rows4, rows4_len]) (by simp [plainL, plain, plainR, take_rows4', flat_rows4', freeze1, take_rfy, flat_ints5, renR_rows4, rows4_len]) ?_)
          | omega)
    · have h26 := k26e (nil := false) (nh := false) (ys := ys) hl hc
      repeat' (first
        | (with_reducible refine T_seq ?_)
        | (with_reducible refine T_reg ?_)
        | ((with_reducible refine T_calm ?_ ?_); rfl)
        | (with_reducible refine T_draw ?_)
        | (with_reducible refine T_skip ?_)
        | (with_reducible refine T_exit ?_)
        | (with_reducible refine T_block ?_)
        | (with_reducible (show T _ _ _ _ _ (.cond _ _ _) _ _); first | (refine T_cond_t rfl ?_) | (refine T_cond_f rfl ?_) | (refine T_cond rfl (fun hc => ?_) (fun hc => ?_) <;> have hd := hc <;> (try simp (disch := omega) only [wrapI] at hd) <;> have hs := hd <;> (try simp only [decide_eq_true_eq, decide_eq_false_iff_not, beq_iff_eq, bne_iff_ne, beq_eq_false_iff_ne, bne_eq_false_iff_eq, gt_iff_lt, Int.not_lt, ne_eq] at hd) <;> (try simp at hs)))
        | (with_reducible (show wdW _ _ _ (_ :: _) _ _ _); refine wdW_cons rfl ?_)
        | (with_reducible (show wcall _ false (.lit (.func (.func 19) _ _)) _ _ _ _); refine wcall_fn (h19) rfl (by simp [plainL]) ?_)
        | (with_reducible (show wcallX _ false (.lit (.func (.func 19) _ _)) _ _ _ _); refine wcallX_fn (h19) rfl (by simp [plainL, plain, plainR, take_rows4', flat_rows4', freeze1, take_rfy, flat_ints5, renR_rows4, rows4_len]) ?_)
        | (with_reducible (show wcall _ false (.lit (.func (.func 25) _ _)) _ _ _ _); refine wcall_fn (h25) rfl (by simp [plainL, plain]) ?_)
        | (with_reducible (show wcallX _ false (.lit (.func (.func 25) _ _)) _ _ _ _); refine wcallX_fn (h25) rfl (by simp [plainL, plain, plainR, take_rows4', flat_rows4', freeze1, take_rfy, flat_ints5, renR_rows4, rows4_len]) ?_)
        | (with_reducible (show wcall _ false (.lit (.func (.func 27) _ _)) _ _ _ _); refine wcall_fn (h27) rfl (by simp [plainL, plain]) ?_)
        | (with_reducible (show wcallX _ false (.lit (.func (.func 27) _ _)) _ _ _ _); refine wcallX_fn (h27) rfl (by simp [plainL, plain, plainR, take_rows4', flat_rows4', freeze1, take_rfy, flat_ints5, renR_rows4, rows4_len]) ?_)
        | (with_reducible (show wcall _ false (.lit (.func (.func 28) _ _)) _ _ _ _); refine wcall_fn (h28) rfl (by simp [plainL, plain]) ?_)
        | (with_reducible (show wcallX _ false (.lit (.func (.func 28) _ _)) _ _ _ _); refine wcallX_fn (h28) rfl (by simp [plainL, plain, plainR, take_rows4', flat_rows4', freeze1, take_rfy, flat_ints5, renR_rows4, rows4_len]) ?_)
        | (with_reducible (show wcall _ false (.lit (.func (.func 26) _ _)) _ _ _ _); refine wcall_fn (h26) rfl (by simp [plainL, plain]) ?_)
        | (with_reducible (show wcallX _ false (.lit (.func (.func 26) _ _)) _ _ _ _); refine wcallX_fn (h26) rfl (by simp [plainL, plain, plainR, take_rows4', flat_rows4', freeze1, take_rfy, flat_ints5, renR_rows4, rows4_len]) ?_)
        | (with_reducible (show wcall _ false (.lit (.func (.func 29) _ _)) _ _ _ _); refine wcall_fn (h29) rfl (by simp [plainL, plain]) ?_)
        | (with_reducible (show wcallX _ false (.lit (.func (.func 29) _ _)) _ _ _ _); refine wcallX_fn (h29) rfl (by simp [plainL, plain, plainR, take_rows4', flat_rows4', freeze1, take_rfy, flat_ints5, renR_rows4, rows4_len]) ?_)
        | (with_reducible refine wguard_split (fun hc => ?_) (fun hc => ?_) <;> have hd := hc <;> (try simp (disch := omega) only [wrapI] at hd) <;> have hs := hd <;> (try simp only [bne_iff_ne, bne_eq_false_iff_eq, Bool.not_false, ne_eq] at hd) <;> (try simp at hs))
        | (with_reducible refine wguardX_split (fun hc => ?_) (fun hc => ?_) <;> have hd := hc <;> (try simp (disch := omega) only [wrapI] at hd) <;> have hs := hd <;> (try simp only [Bool.not_eq_true', Bool.not_eq_false', Bool.and_eq_true, Bool.and_eq_false_iff, Bool.or_eq_true, Bool.or_eq_false_iff, decide_eq_true_eq, decide_eq_false_iff_not, beq_iff_eq, bne_iff_ne, beq_eq_false_iff_ne, bne_eq_false_iff_eq, Bool.not_true, Bool.not_false, gt_iff_lt, ge_iff_le, Int.not_lt, Int.not_le, ne_eq, Decidable.not_not] at hd) <;> (try simp at hs))
        | (with_reducible refine T_ret ?_)
        | (with_reducible (show leave _ _ _ _ _); first | (refine leave_of (.inr rfl) _ rfl ?_) | (refine leave_of (.inl rfl) _ rfl ?_))
        | (with_reducible (show leaveA _ _ _ _); first | (refine leaveA_of (.inr rfl) _ rfl ?_) | (refine leaveA_of (.inl rfl) _ rfl ?_))
        | (with_reducible refine wif_intro ?_ (fun hc => ?_))
        | (with_reducible refine And.intro ?_ ?_)
        | (with_reducible intro hc)
        | (simp (maxSteps := 4000000) only [wops_nil, wops_cons, wstep_none, wstep_some, wguard_ff, wrun_call, wrun_mv, wrun_pick, wrun_bin, wrun_not, wrun_ext, wrun_len, get_mk, wop, aop, ev, look, put_some, writes, ores_some, ores_map, ores_bind, binV, thenK, boolV, intV, lenOf, hget, tupOf, List.map_cons, List.map_nil, List.length_cons, List.length_nil, List.getElem?_cons_zero, List.getElem?_cons_succ, List.set_cons_zero, List.set_cons_succ, List.drop_zero, List.cons_append, List.nil_append, List.append_nil, List.replicate_zero, List.zipIdx_cons, List.zipIdx_nil, List.length_map, Option.pure_def, Option.bind_eq_bind, Option.getD_some, Option.map_some, if_true, if_false, Nat.reduceEqDiff, Nat.reduceAdd, Nat.add_zero, Nat.zero_add, Nat.zero_ne_one, reduceCtorEq, Bool.not_true, Bool.false_eq_true, eq_self, decide_true, beq_self_eq_true, freeze, lidsL, lids, List.flatMap_cons, List.flatMap_nil, ren, renL, renB, shiftρ, renR_ints, flat_rows4', freeze1, flat_ints5, renR_rows4, *])
        | (simp (disch := omega) only [getD_ints, wrapI])
        | (with_reducible (show wcall _ false (.lit (.func (.func 19) _ _)) _ _ _ _); refine wcall_fn (h19) (by simp [rfyL, rfy, hget, ints, take_rfy, take_rows4', flat_rows4', freeze1, take_rfy, flat_ints5, renR_rows4, rows4_len]) (by simp [plainL, plain, plainR, take_rows4', flat_rows4', freeze1, take_rfy, flat_ints5, renR_rows4, rows4_len]) ?_)
        | (with_reducible (show wcallX _ false (.lit (.func (.func 19) _ _)) _ _ _ _); refine wcallX_fn (h19) (by simp [rfyL, rfy, hget, ints, take_rfy, take_rows4', flat_rows4', freeze1, take_rfy, flat_ints5, renR_rows4, rows4_len]) (by simp [plainL, plain, plainR, take_rows4', flat_rows4', freeze1, take_rfy, flat_ints5, renR_rows4, rows4_len]) ?_)
        | (with_reducible (show wcall _ false (.lit (.func (.func 25) _ _)) _ _ _ _); refine wcall_fn (h25) (by simp [rfyL, rfy, hget, ints, take_rfy, take_rows4', flat_rows4', freeze1, take_rfy, flat_ints5, renR_rows4, rows4_len]) (by simp [plainL, plain, plainR, take_rows4', flat_rows4', freeze1, take_rfy, flat_ints5, renR_rows4, rows4_len]) ?_)
        | (with_reducible (show wcallX _ false (.lit (.func (.func 25) _ _)) _ _ _ _); refine wcallX_fn (h25) (by simp [rfyL, rfy, hget, ints, take_rfy, take_rows4', flat_rows4', freeze1, take_rfy, flat_ints5, renR_rows4, rows4_len]) (by simp [plainL, plain, plainR, take_rows4', flat_rows4', freeze1, take_rfy, flat_ints5, renR_rows4, rows4_len]) ?_)
        | (with_reducible (show wcall _ false (.lit (.func (.func 27) _ _)) _ _ _ _); refine wcall_fn (h27) (by simp [rfyL, rfy, hget, ints, take_rfy, take_rows4', flat_rows4', freeze1, take_rfy, flat_ints5, renR_rows4, rows4_len]) (by simp [plainL, plain, plainR, take_rows4', flat_rows4', freeze1, take_rfy, flat_ints5, renR_rows4, rows4_len]) ?_)
        | (with_reducible (show wcallX _ false (.lit (.func (.func 27) _ _)) _ _ _ _); refine wcallX_fn (h27) (by simp [rfyL, rfy, hget, ints, take_rfy, take_rows4', flat_rows4', freeze1, take_rfy, flat_ints5, renR_rows4, rows4_len]) (by simp [plainL, plain, plainR, take_rows4', flat_rows4', freeze1, take_rfy, flat_ints5, renR_rows4, rows4_len]) ?_)
        | (with_reducible (show wcall _ false (.lit (.func (.func 28) _ _)) _ _ _ _); refine wcall_fn (h28) (by simp [rfyL, rfy, hget, ints, take_rfy, take_rows4', flat_rows4', freeze1, take_rfy, flat_ints5, renR_rows4, rows4_len]) (by simp [plainL, plain, plainR, take_rows4', flat_rows4', freeze1, take_rfy, flat_ints5, renR_rows4, rows4_len]) ?_)
        | (with_reducible (show wcallX _ false (.lit (.func (.func 28) _ _)) _ _ _ _); refine wcallX_fn (h28) (by simp [rfyL, rfy, hget, ints, take_rfy, take_rows4', flat_rows4', freeze1, take_rfy, flat_ints5, renR_rows4, rows4_len]) (by simp [plainL, plain, plainR, take_rows4', flat_rows4', freeze1, take_rfy, flat_ints5, renR_rows4, rows4_len]) ?_)
        | (with_reducible (show wcall _ false (.lit (.func (.func 26) _ _)) _ _ _ _); refine wcall_fn (h26) (by simp [rfyL, rfy, hget, ints, take_rfy, take_rows4', take_rfy, rows4_len]) (by simp [plainL, plain]) ?_)
        | (with_reducible (show wcallX _ false (.lit (.func (.func 26) _ _)) _ _ _ _); refine wcallX_fn (h26) (by simp [rfyL, rfy, hget, ints, take_rfy, take_rows4', flat_rows4', freeze1, take_rfy, flat_ints5, renR_rows4, rows4_len]) (by simp [plainL, plain, plainR, take_rows4', flat_rows4', freeze1, take_rfy, flat_ints5, renR_rows4, rows4_len]) ?_)
        | (with_reducible (show wcall _ false (.lit (.func (.func 29) _ _)) _ _ _ _); refine wcall_fn (h29) (by simp [rfyL, rfy, hget, ints, take_rfy, take_rows4', flat_rows4', freeze1, take_rfy, flat_ints5, renR_rows4, rows4_len]) (by simp [plainL, plain, plainR, take_rows4', flat_rows4', freeze1, take_rfy, flat_ints5, renR_rows4, rows4_len]) ?_)
        | (with_reducible (show wcallX _ false (.lit (.func (.func 29) _ _)) _ _ _ _); refine wcallX_fn (h29) (by simp [rfyL, rfy, hget, ints, take_rfy, take_rows4', flat_rows4', freeze1, take_rfy, flat_ints5, renR_rows4, rows4_len]) (by simp [plainL, plain, plainR, take_rows4', flat_rows4', freeze1, take_rfy, flat_ints5, renR_rows4, rows4_len]) ?_)
        | omega)
  · by_cases hf : fewB l.length 12 = true
    · rw [hf] at h25
      have hy : 45 < ys.length := by
        rcases Nat.lt_or_ge 45 ys.length with h | h
        · exact h
        · exact (hsm ⟨hf, h⟩).elim
      clear hsm hf
      repeat' (first
        | (with_reducible refine T_seq ?_)
        | (with_reducible refine T_reg ?_)
        | ((with_reducible refine T_calm ?_ ?_); rfl)
        | (with_reducible refine T_draw ?_)
        | (with_reducible refine T_skip ?_)
        | (with_reducible refine T_exit ?_)
        | (with_reducible refine T_block ?_)
        | (with_reducible (show T _ _ _ _ _ (.cond _ _ _) _ _); first | (refine T_cond_t rfl ?_) | (refine T_cond_f rfl ?_) | (refine T_cond rfl (fun hc => ?_) (fun hc => ?_) <;> have hd := hc <;> (try simp (disch := omega) only [wrapI] at hd) <;> have hs := hd <;> (try simp only [decide_eq_true_eq, decide_eq_false_iff_not, gt_iff_lt, Int.not_lt] at hd) <;> (try simp at hs)))
        | (with_reducible (show wdW _ _ _ (_ :: _) _ _ _); refine wdW_cons rfl ?_)
        | (with_reducible (show wcall _ false (.lit (.func (.func 19) _ _)) _ _ _ _); refine wcall_fn (h19) rfl (by simp [plainL]) ?_)
        | (with_reducible (show wcallX _ false (.lit (.func (.func 19) _ _)) _ _ _ _); refine wcallX_fn (h19) rfl (by simp [plainL, plain, plainR]) ?_)
        | (with_reducible (show wcall _ false (.lit (.func (.func 25) _ _)) _ _ _ _); refine wcall_fn (h25) rfl (by simp [plainL, plain]) ?_)
        | (with_reducible (show wcallX _ false (.lit (.func (.func 25) _ _)) _ _ _ _); refine wcallX_fn (h25) rfl (by simp [plainL, plain, plainR]) ?_)
        | (with_reducible refine wguard_split (fun hc => ?_) (fun hc => ?_) <;> have hd := hc <;> (try simp (disch := omega) only [wrapI] at hd) <;> have hs := hd <;> (try simp only [Bool.not_eq_true', Bool.not_eq_false', Bool.and_eq_true, Bool.and_eq_false_iff, Bool.or_eq_true, Bool.or_eq_false_iff, decide_eq_true_eq, decide_eq_false_iff_not, beq_iff_eq, bne_iff_ne, beq_eq_false_iff_ne, bne_eq_false_iff_eq, Bool.not_true, Bool.not_false, gt_iff_lt, ge_iff_le, Int.not_lt, Int.not_le, ne_eq, Decidable.not_not] at hd) <;> (try simp at hs))
        | (with_reducible refine wguardX_split (fun hc => ?_) (fun hc => ?_) <;> have hd := hc <;> (try simp (disch := omega) only [wrapI] at hd) <;> have hs := hd <;> (try simp only [Bool.not_eq_true', Bool.not_eq_false', Bool.and_eq_true, Bool.and_eq_false_iff, Bool.or_eq_true, Bool.or_eq_false_iff, decide_eq_true_eq, decide_eq_false_iff_not, beq_iff_eq, bne_iff_ne, beq_eq_false_iff_ne, bne_eq_false_iff_eq, Bool.not_true, Bool.not_false, gt_iff_lt, ge_iff_le, Int.not_lt, Int.not_le, ne_eq, Decidable.not_not] at hd) <;> (try simp at hs))
        | (with_reducible refine T_ret ?_)
        | (with_reducible (show leave _ _ _ _ _); first | (refine leave_of (.inr rfl) _ rfl ?_) | (refine leave_of (.inl rfl) _ rfl ?_))
        | (with_reducible (show leaveA _ _ _ _); first | (refine leaveA_of (.inr rfl) _ rfl ?_) | (refine leaveA_of (.inl rfl) _ rfl ?_))
        | (with_reducible refine wif_intro ?_ (fun hc => ?_))
        | (with_reducible refine And.intro ?_ ?_)
        | (with_reducible intro hc)
        | (simp (maxSteps := 4000000) only [wops_nil, wops_cons, wstep_none, wstep_some, wguard_ff, wrun_call, wrun_mv, wrun_pick, wrun_bin, wrun_not, wrun_len, get_mk, wop, aop, ev, look, put_some, writes, ores_some, ores_map, ores_bind, binV, thenK, boolV, intV, lenOf, hget, tupOf, List.map_cons, List.map_nil, List.length_nil, List.append_nil, List.replicate_zero, List.zipIdx_cons, List.zipIdx_nil, List.length_map, Option.pure_def, Option.bind_eq_bind, Option.map_some, if_true, if_false, Nat.reduceEqDiff, Nat.reduceAdd, Nat.zero_add, Nat.zero_ne_one, reduceCtorEq, Bool.not_true, Bool.false_eq_true, eq_self, decide_true, freeze, lidsL, lids, List.flatMap_cons, List.flatMap_nil, ren, *])
        | (simp (disch := omega) only [getD_ints, wrapI])
        | (with_reducible (show wcall _ false (.lit (.func (.func 19) _ _)) _ _ _ _); refine wcall_fn (h19) (by simp [rfyL, rfy, hget, ints, take_rfy]) (by simp [plainL, plain, plainR]) ?_)
        | (with_reducible (show wcallX _ false (.lit (.func (.func 19) _ _)) _ _ _ _); refine wcallX_fn (h19) (by simp [rfyL, rfy, hget, ints, take_rfy]) (by simp [plainL, plain, plainR]) ?_)
        | (with_reducible (show wcall _ false (.lit (.func (.func 25) _ _)) _ _ _ _); refine wcall_fn (h25) (by simp [rfyL, rfy, hget, ints, take_rfy]) (by simp [plainL, plain, plainR]) ?_)
        | (with_reducible (show wcallX _ false (.lit (.func (.func 25) _ _)) _ _ _ _); refine wcallX_fn (h25) (by simp [rfyL, rfy, hget, ints, take_rfy]) (by simp [plainL, plain, plainR]) ?_)
        | omega)
    · have hf2 : fewB l.length 12 = false := by simpa using hf
      rw [hf2] at h25
      clear hsm hf hf2
      repeat' (first
        | (with_reducible refine T_seq ?_)
        | (with_reducible refine T_reg ?_)
        | ((with_reducible refine T_calm ?_ ?_); rfl)
        | (with_reducible refine T_draw ?_)
        | (with_reducible refine T_skip ?_)
        | (with_reducible refine T_exit ?_)
        | (with_reducible refine T_block ?_)
        | (with_reducible (show T _ _ _ _ _ (.cond _ _ _) _ _); first | (refine T_cond_t rfl ?_) | (refine T_cond_f rfl ?_) | (refine T_cond rfl (fun hc => ?_) (fun hc => ?_) <;> have hd := hc <;> (try simp (disch := omega) only [wrapI] at hd) <;> have hs := hd <;> (try simp only [Bool.not_eq_true', Bool.not_eq_false', Bool.and_eq_true, Bool.and_eq_false_iff, Bool.or_eq_true, Bool.or_eq_false_iff, decide_eq_true_eq, decide_eq_false_iff_not, beq_iff_eq, bne_iff_ne, beq_eq_false_iff_ne, bne_eq_false_iff_eq, Bool.not_true, Bool.not_false, gt_iff_lt, ge_iff_le, Int.not_lt, Int.not_le, ne_eq, Decidable.not_not] at hd) <;> (try simp at hs)))
        | (with_reducible (show wdW _ _ _ (_ :: _) _ _ _); refine wdW_cons rfl ?_)
        | (with_reducible (show wcall _ false (.lit (.func (.func 19) _ _)) _ _ _ _); refine wcall_fn (h19) rfl (by simp [plainL]) ?_)
        | (with_reducible (show wcallX _ false (.lit (.func (.func 19) _ _)) _ _ _ _); refine wcallX_fn (h19) rfl (by simp [plainL, plain, plainR]) ?_)
        | (with_reducible (show wcall _ false (.lit (.func (.func 25) _ _)) _ _ _ _); refine wcall_fn (h25) rfl (by simp [plainL, plain]) ?_)
        | (with_reducible (show wcallX _ false (.lit (.func (.func 25) _ _)) _ _ _ _); refine wcallX_fn (h25) rfl (by simp [plainL, plain, plainR]) ?_)
        | (with_reducible refine wguard_split (fun hc => ?_) (fun hc => ?_) <;> have hd := hc <;> (try simp (disch := omega) only [wrapI] at hd) <;> have hs := hd <;> (try simp only [Bool.not_eq_true', Bool.not_eq_false', Bool.and_eq_true, Bool.and_eq_false_iff, Bool.or_eq_true, Bool.or_eq_false_iff, decide_eq_true_eq, decide_eq_false_iff_not, beq_iff_eq, bne_iff_ne, beq_eq_false_iff_ne, bne_eq_false_iff_eq, Bool.not_true, Bool.not_false, gt_iff_lt, ge_iff_le, Int.not_lt, Int.not_le, ne_eq, Decidable.not_not] at hd) <;> (try simp at hs))
        | (with_reducible refine wguardX_split (fun hc => ?_) (fun hc => ?_) <;> have hd := hc <;> (try simp (disch := omega) only [wrapI] at hd) <;> have hs := hd <;> (try simp only [Bool.not_eq_true', Bool.not_eq_false', Bool.and_eq_true, Bool.and_eq_false_iff, Bool.or_eq_true, Bool.or_eq_false_iff, decide_eq_true_eq, decide_eq_false_iff_not, beq_iff_eq, bne_iff_ne, beq_eq_false_iff_ne, bne_eq_false_iff_eq, Bool.not_true, Bool.not_false, gt_iff_lt, ge_iff_le, Int.not_lt, Int.not_le, ne_eq, Decidable.not_not] at hd) <;> (try simp at hs))
        | (with_reducible refine T_ret ?_)
        | (with_reducible (show leave _ _ _ _ _); first | (refine leave_of (.inr rfl) _ rfl ?_) | (refine leave_of (.inl rfl) _ rfl ?_))
        | (with_reducible (show leaveA _ _ _ _); first | (refine leaveA_of (.inr rfl) _ rfl ?_) | (refine leaveA_of (.inl rfl) _ rfl ?_))
        | (with_reducible refine wif_intro ?_ (fun hc => ?_))
        | (with_reducible refine And.intro ?_ ?_)
        | (with_reducible intro hc)
        | (simp (maxSteps := 4000000) only [wops_nil, wops_cons, wstep_none, wstep_some, wguard_tf, wrun_call, wrun_mv, wrun_pick, wrun_not, get_mk, wop, aop, ev, look, put_some, writes, ores_some, thenK, boolV, tupOf, List.map_cons, List.map_nil, List.length_nil, List.append_nil, List.replicate_zero, List.zipIdx_cons, List.zipIdx_nil, if_true, if_false, Nat.reduceEqDiff, Nat.reduceAdd, Nat.zero_add, Nat.zero_ne_one, reduceCtorEq, Bool.not_true, Bool.not_false, eq_self, freeze, lidsL, lids, List.flatMap_cons, List.flatMap_nil, ren, *])
        | (simp (disch := omega) only [getD_ints, wrapI])
        | (with_reducible (show wcall _ false (.lit (.func (.func 19) _ _)) _ _ _ _); refine wcall_fn (h19) (by simp [rfyL, rfy, hget, ints, take_rfy]) (by simp [plainL, plain, plainR]) ?_)
        | (with_reducible (show wcallX _ false (.lit (.func (.func 19) _ _)) _ _ _ _); refine wcallX_fn (h19) (by simp [rfyL, rfy, hget, ints, take_rfy]) (by simp [plainL, plain, plainR]) ?_)
        | (with_reducible (show wcall _ false (.lit (.func (.func 25) _ _)) _ _ _ _); refine wcall_fn (h25) (by simp [rfyL, rfy, hget, ints, take_rfy]) (by simp [plainL, plain, plainR]) ?_)
        | (with_reducible (show wcallX _ false (.lit (.func (.func 25) _ _)) _ _ _ _); refine wcallX_fn (h25) (by simp [rfyL, rfy, hget, ints, take_rfy]) (by simp [plainL, plain, plainR]) ?_)
        | omega)
end Go.Abs
