import Derived.Test.YtodheeifecoebaaK71x
set_option linter.all false
set_option linter.unusedVariables false
set_option linter.unusedSimpArgs false
set_option linter.unusedSectionVars false
namespace Go.Abs
open Go.Proofs
theorem flat_ints5' (h : Nat → Blk) (n : Nat) (xs : List Int) : (List.take n (List.map (fun x => [i64 x]) xs)).flatMap (fun r => r.flatMap (lids h 5)) = [] := by
  rw [List.flatMap_eq_nil_iff]
  intro r hr
  obtain ⟨x, _, rfl⟩ := List.mem_map.1 (List.mem_of_mem_take hr)
  rfl
theorem tk_low (h : Nat → Blk) (M : List (List Int)) (k : Nat) : List.take k (List.map ((fun r => List.map (rfy h 5) r) ∘ fun x => [i64 x]) (lowL M k)) = List.map (fun x => [i64 x]) (lowL M k) := by
  rw [List.take_of_length_le (by simp [lowL_len])]; exact List.map_congr_left fun x _ => rfl
theorem tk_high (h : Nat → Blk) (M : List (List Int)) (k : Nat) : List.take k (List.map ((fun r => List.map (rfy h 5) r) ∘ fun x => [i64 x]) (highL M k)) = List.map (fun x => [i64 x]) (highL M k) := by
  rw [List.take_of_length_le (by simp [highL_len])]; exact List.map_congr_left fun x _ => rfl
set_option maxHeartbeats 8000000 in
theorem k5 (zi : Int) (nil nh : Bool) (l : List Rd) (ys : List Int) : Fn Try.prog 5 [i64 zi, rdgs nil l, ints nh ys] (bl true) [] := by
  refine fn_of e5 ?_
  unfold c5
  have h19 := k19
  have hrl := rows4_len l
  by_cases hsm : l.length ≤ 12 ∧ ys.length ≤ 45
  · obtain ⟨hl, hy⟩ := hsm
    by_cases hc : checkR zi l = 0
    · obtain ⟨hz, hl2, hrd⟩ := checkR_ok hc
      obtain ⟨z, rfl⟩ : ∃ z : Nat, zi = z := ⟨zi.toNat, by omega⟩
      by_cases hcy : ∀ r, r ≤ z → 0 ≤ (rnds (arcsL l l.length) z (r + 1)).at_
      · obtain ⟨p, xs, hxp, h31⟩ := k31c (nil := nil) hc hcy
        clear hcy hrd
        repeat' (first
          | (with_reducible refine T_seq ?_)
          | (with_reducible refine T_reg ?_)
          | ((with_reducible refine T_calm ?_ ?_); rfl)
          | (with_reducible refine T_draw ?_)
          | (with_reducible refine T_skip ?_)
          | (with_reducible refine T_exit ?_)
          | (with_reducible refine T_block ?_)
          | (with_reducible (show T _ _ _ _ _ (.cond _ _ _) _ _); first | (refine T_cond_t rfl ?_) | (refine T_cond_f rfl ?_) | (refine T_cond rfl (fun hc => ?_) (fun hc => ?_) <;> have hd := hc <;> (try simp (disch := omega) only [wrapI] at hd) <;> have hs := hd <;> (try simp only [decide_eq_true_eq, decide_eq_false_iff_not, gt_iff_lt, Int.not_lt] at hd) <;> (try simp at hs)))
          | (with_reducible (show wdW _ _ _ (_ :: _) _ _ _); refine wdW_cons rfl ?_)
          | (with_reducible (show wcall _ false (.lit (.func (.func 19) _ _)) _ _ _ _); refine wcall_fn (h19) rfl (by simp [plainL]) ?_)
          | (with_reducible (show wcallX _ false (.lit (.func (.func 19) _ _)) _ _ _ _); refine wcallX_fn (h19) rfl (by simp [plainL, plain, plainR, renR_ints]) ?_)
          | (with_reducible (show wcall _ false (.lit (.func (.func 31) _ _)) _ _ _ _); refine wcall_fn (h31) rfl (by simp [plainL, plain]) ?_)
          | (with_reducible (show wcallX _ false (.lit (.func (.func 31) _ _)) _ _ _ _); refine wcallX_fn (h31) rfl (by simp [plainL, plain, plainR, renR_ints]) ?_)
          | (with_reducible refine wguard_split (fun hc => ?_) (fun hc => ?_) <;> have hd := hc <;> (try simp (disch := omega) only [wrapI] at hd) <;> have hs := hd <;> (try simp only [decide_eq_true_eq, decide_eq_false_iff_not, Bool.not_false, gt_iff_lt, Int.not_lt] at hd) <;> (try simp at hs))
          | (with_reducible refine wguardX_split (fun hc => ?_) (fun hc => ?_) <;> have hd := hc <;> (try simp (disch := omega) only [wrapI] at hd) <;> have hs := hd <;> (try simp only [Bool.not_eq_true', Bool.not_eq_false', Bool.and_eq_true, Bool.and_eq_false_iff, Bool.or_eq_true, Bool.or_eq_false_iff, decide_eq_true_eq, decide_eq_false_iff_not, beq_iff_eq, bne_iff_ne, beq_eq_false_iff_ne, bne_eq_false_iff_eq, Bool.not_true, Bool.not_false, gt_iff_lt, ge_iff_le, Int.not_lt, Int.not_le, ne_eq, Decidable.not_not] at hd) <;> (try simp at hs))
          | (with_reducible refine T_ret ?_)
          | (with_reducible (show leave _ _ _ _ _); first | (refine leave_of (.inr rfl) _ rfl ?_) | (refine leave_of (.inl rfl) _ rfl ?_))
          | (with_reducible (show leaveA _ _ _ _); first | (refine leaveA_of (.inr rfl) _ rfl ?_) | (refine leaveA_of (.inl rfl) _ rfl ?_))
          | (with_reducible refine wif_intro ?_ (fun hc => ?_))
          | (with_reducible refine And.intro ?_ ?_)
          | (with_reducible intro hc)
          | (simp (maxSteps := 4000000) only [wops_nil, wops_cons, wstep_none, wstep_some, wguard_ff, wguard_tf, wrun_call, wrun_mv, wrun_pick, wrun_bin, wrun_not, wrun_ext, wrun_len, get_mk, wop, aop, ev, look, put_some, writes, ores_some, ores_map, ores_bind, binV, thenK, boolV, intV, lenOf, hget, tupOf, List.map_cons, List.map_nil, List.length_cons, List.length_nil, List.getElem?_cons_zero, List.getElem?_cons_succ, List.nil_append, List.append_nil, List.replicate_zero, List.zipIdx_cons, List.zipIdx_nil, List.length_map, Option.pure_def, Option.bind_eq_bind, Option.map_some, if_true, if_false, Nat.reduceEqDiff, Nat.reduceAdd, Nat.add_zero, Nat.zero_add, Nat.zero_ne_one, reduceCtorEq, Bool.not_true, Bool.false_eq_true, eq_self, decide_true, freeze, lidsL, lids, List.flatMap_cons, List.flatMap_nil, ren, renL, renR, renB, shiftρ, renR_ints, renR_ints, *])
          | (simp (disch := omega) only [getD_ints, wrapI])
          | (with_reducible (show wcall _ false (.lit (.func (.func 19) _ _)) _ _ _ _); refine wcall_fn (h19) ?_ ?_ ?_; (next => simp [rfyL, rfy, hget, ints, take_rfy, renR_ints]); (next => simp [plainL, plain, plainR, renR_ints]))
          | (with_reducible (show wcallX _ false (.lit (.func (.func 19) _ _)) _ _ _ _); refine wcallX_fn (h19) ?_ ?_ ?_; (next => simp [rfyL, rfy, hget, ints, take_rfy, renR_ints]); (next => simp [plainL, plain, plainR, renR_ints]))
          | (with_reducible (show wcall _ false (.lit (.func (.func 31) _ _)) _ _ _ _); refine wcall_fn (h31) ?_ ?_ ?_; (next => simp [rfyL, rfy, hget, ints, take_rfy, renR_ints]); (next => simp [plainL, plain, plainR, renR_ints]))
          | (with_reducible (show wcallX _ false (.lit (.func (.func 31) _ _)) _ _ _ _); refine wcallX_fn (h31) ?_ ?_ ?_; (next => simp [rfyL, rfy, hget, ints, take_rfy, renR_ints]); (next => simp [plainL, plain, plainR, renR_ints]))
          | omega)
      · have hr : ∃ r, r ≤ z ∧ (rnds (arcsL l l.length) z (r + 1)).at_ < 0 := by
          rcases Classical.em (∃ r, r ≤ z ∧ (rnds (arcsL l l.length) z (r + 1)).at_ < 0) with h | h
          · exact h
          · exact (hcy fun r hr => by
              rcases Int.lt_or_le (rnds (arcsL l l.length) z (r + 1)).at_ 0 with h2 | h2
              · exact (h ⟨r, hr, h2⟩).elim
              · exact h2).elim
        obtain ⟨k31a, k31b⟩ := k31 (nil := nil) hc rfl hr
        cases hw : ((tabM (arcsL l l.length) z).getD 0 []).any isFar with
        | true =>
          have h31 := k31a hw
          clear k31a k31b hw hr hcy hrd
          repeat' (first
            | (with_reducible refine T_seq ?_)
            | (with_reducible refine T_reg ?_)
            | ((with_reducible refine T_calm ?_ ?_); rfl)
            | (with_reducible refine T_draw ?_)
            | (with_reducible refine T_skip ?_)
            | (with_reducible refine T_exit ?_)
            | (with_reducible refine T_block ?_)
            | (with_reducible (show T _ _ _ _ _ (.cond _ _ _) _ _); first | (refine T_cond_t rfl ?_) | (refine T_cond_f rfl ?_) | (refine T_cond rfl (fun hc => ?_) (fun hc => ?_) <;> have hd := hc <;> (try simp (disch := omega) only [wrapI] at hd) <;> have hs := hd <;> (try simp only [decide_eq_true_eq, decide_eq_false_iff_not, gt_iff_lt, Int.not_lt] at hd) <;> (try simp at hs)))
            | (with_reducible (show wdW _ _ _ (_ :: _) _ _ _); refine wdW_cons rfl ?_)
            | (with_reducible (show wcall _ false (.lit (.func (.func 19) _ _)) _ _ _ _); refine wcall_fn (h19) rfl (by simp [plainL]) ?_)
            | (with_reducible (show wcallX _ false (.lit (.func (.func 19) _ _)) _ _ _ _); refine wcallX_fn (h19) rfl (by simp [plainL, plain, plainR]) ?_)
            | (with_reducible (show wcall _ false (.lit (.func (.func 31) _ _)) _ _ _ _); refine wcall_fn (h31) rfl (by simp [plainL, plain]) ?_)
            | (with_reducible (show wcallX _ false (.lit (.func (.func 31) _ _)) _ _ _ _); refine wcallX_fn (h31) rfl (by simp [plainL, plain, plainR]) ?_)
            | (with_reducible refine wguard_split (fun hc => ?_) (fun hc => ?_) <;> have hd := hc <;> (try simp (disch := omega) only [wrapI] at hd) <;> have hs := hd <;> (try simp only [decide_eq_true_eq, decide_eq_false_iff_not, Bool.not_false, gt_iff_lt, Int.not_lt] at hd) <;> (try simp at hs))
            | (with_reducible refine wguardX_split (fun hc => ?_) (fun hc => ?_) <;> have hd := hc <;> (try simp (disch := omega) only [wrapI] at hd) <;> have hs := hd <;> (try simp only [Bool.not_eq_true', Bool.not_eq_false', Bool.and_eq_true, Bool.and_eq_false_iff, Bool.or_eq_true, Bool.or_eq_false_iff, decide_eq_true_eq, decide_eq_false_iff_not, beq_iff_eq, bne_iff_ne, beq_eq_false_iff_ne, bne_eq_false_iff_eq, Bool.not_true, Bool.not_false, gt_iff_lt, ge_iff_le, Int.not_lt, Int.not_le, ne_eq, Decidable.not_not] at hd) <;> (try simp at hs))
            | (with_reducible refine T_ret ?_)
            | (with_reducible (show leave _ _ _ _ _); first | (refine leave_of (.inr rfl) _ rfl ?_) | (refine leave_of (.inl rfl) _ rfl ?_))
            | (with_reducible (show leaveA _ _ _ _); first | (refine leaveA_of (.inr rfl) _ rfl ?_) | (refine leaveA_of (.inl rfl) _ rfl ?_))
            | (with_reducible refine wif_intro ?_ (fun hc => ?_))
            | (with_reducible refine And.intro ?_ ?_)
            | (with_reducible intro hc)
            | (simp (maxSteps := 4000000) only [wops_nil, wops_cons, wstep_none, wstep_some, wguard_ff, wguard_tf, wrun_call, wrun_mv, wrun_pick, wrun_bin, wrun_not, wrun_ext, wrun_len, get_mk, wop, aop, ev, look, put_some, writes, ores_some, ores_map, ores_bind, binV, thenK, boolV, intV, lenOf, hget, tupOf, List.map_cons, List.map_nil, List.length_nil, List.getElem?_cons_zero, List.getElem?_cons_succ, List.append_nil, List.replicate_zero, List.zipIdx_cons, List.zipIdx_nil, List.length_map, Option.pure_def, Option.bind_eq_bind, Option.map_some, if_true, if_false, Nat.reduceEqDiff, Nat.reduceAdd, Nat.zero_add, Nat.zero_ne_one, reduceCtorEq, Bool.not_true, Bool.false_eq_true, eq_self, decide_true, freeze, lidsL, lids, List.flatMap_cons, List.flatMap_nil, ren, renL, renR, *])
            | (simp (disch := omega) only [getD_ints, wrapI])
            | (with_reducible (show wcall _ false (.lit (.func (.func 19) _ _)) _ _ _ _); refine wcall_fn (h19) ?_ ?_ ?_; (next => simp [rfyL, rfy, hget, ints, take_rfy]); (next => simp [plainL, plain, plainR]))
            | (with_reducible (show wcallX _ false (.lit (.func (.func 19) _ _)) _ _ _ _); refine wcallX_fn (h19) ?_ ?_ ?_; (next => simp [rfyL, rfy, hget, ints, take_rfy]); (next => simp [plainL, plain, plainR]))
            | (with_reducible (show wcall _ false (.lit (.func (.func 31) _ _)) _ _ _ _); refine wcall_fn (h31) ?_ ?_ ?_; (next => simp [rfyL, rfy, hget, ints, take_rfy]); (next => simp [plainL, plain, plainR]))
            | (with_reducible (show wcallX _ false (.lit (.func (.func 31) _ _)) _ _ _ _); refine wcallX_fn (h31) ?_ ?_ ?_; (next => simp [rfyL, rfy, hget, ints, take_rfy]); (next => simp [plainL, plain, plainR]))
            | omega)
        | false =>
          have h31 := k31b hw
          obtain ⟨m00, hbb, hlo, hhi⟩ := ends_ok hc hr hw
          have henc0 : (checkHt z l ys).2 = 0 → _ := fun h => (ht_enc (l := l) (ys := ys) hc h).2
          have hyl0 : (checkHt z l ys).2 = 0 → _ := fun h => ht_ok (l := l) (ys := ys) h
          clear k31a k31b hw hr hcy hrd
          generalize tabM (arcsL l l.length) z = M at *
          have hll := lowL_len M z
          have hhl := highL_len M z
          have h26l := k26 (nil := nil) (nh := false) (l := l) (ys := lowL M z) (z := z) (by omega) hc
          have h26h := k26 (nil := nil) (nh := false) (l := l) (ys := highL M z) (z := z) (by omega) hc
          have h26y := k26 (nil := nil) (nh := nh) (l := l) (ys := ys) (z := z) (by omega) hc
          rw [hhi] at h26l
          rw [hlo] at h26h
          have hel : (erows (enc M z)).length = z := by rw [erows_len, enc_len]
          have hg0 : (erows (enc M z)).getD (Int.toNat 0) [] = [i64 0, i64 0] := by
            rw [erows_get (by rw [enc_len]; show 0 < z; omega), enc_get M z _ (by show 0 < z; omega)]
            show [i64 (-(mget M 0 0)), i64 (mget M 0 0)] = _
            rw [m00]; rfl
          have hfst : (checkHt z l ys).2 = 0 → checkHt z l ys = (0, 0) := ht_fst
          replace hbb := And.intro hbb trivial
          replace henc0 := And.intro henc0 trivial
          replace hyl0 := And.intro hyl0 trivial
          replace hfst := And.intro hfst trivial
          clear hhi hlo m00
          repeat' (first
            | (with_reducible refine T_seq ?_)
            | (with_reducible refine T_reg ?_)
            | ((with_reducible refine T_calm ?_ ?_); rfl)
            | (with_reducible refine T_draw ?_)
            | (with_reducible refine T_skip ?_)
            | (with_reducible refine T_exit ?_)
            | (with_reducible refine T_block ?_)
            | (with_reducible (show T _ _ _ _ _ (.cond _ _ _) _ _); first | (refine T_cond_t rfl ?_) | (refine T_cond_f rfl ?_) | (refine T_cond rfl (fun hc => ?_) (fun hc => ?_) <;> have hd := hc <;> (try simp (disch := omega) only [wrapI] at hd) <;> have hs := hd <;> (try simp only [decide_eq_true_eq, decide_eq_false_iff_not, gt_iff_lt, Int.not_lt] at hd) <;> (try simp at hs)))
            | (with_reducible (show wdW _ _ _ (_ :: _) _ _ _); refine wdW_cons rfl ?_)
            | (with_reducible (show wcall _ false (.lit (.func (.func 19) _ _)) _ _ _ _); refine wcall_fn (h19) rfl (by simp [plainL]) ?_)
            | (with_reducible (show wcallX _ false (.lit (.func (.func 19) _ _)) _ _ _ _); refine wcallX_fn (h19) rfl (by simp [plainL, plain, plainR, renR_erows]) ?_)
            | (with_reducible (show wcall _ false (.lit (.func (.func 31) _ _)) _ _ _ _); refine wcall_fn (h31) rfl (by simp [plainL, plain]) ?_)
            | (with_reducible (show wcallX _ false (.lit (.func (.func 31) _ _)) _ _ _ _); refine wcallX_fn (h31) rfl (by simp [plainL, plain, plainR, renR_erows]) ?_)
            | (with_reducible refine wguard_split (fun hc => ?_) (fun hc => ?_) <;> have hd := hc <;> (try simp (disch := omega) only [wrapI] at hd) <;> have hs := hd <;> (try simp only [decide_eq_true_eq, decide_eq_false_iff_not, bne_iff_ne, bne_eq_false_iff_eq, Bool.not_false, gt_iff_lt, Int.not_lt, ne_eq] at hd) <;> (try simp at hs))
            | (with_reducible refine wguardX_split (fun hc => ?_) (fun hc => ?_) <;> have hd := hc <;> (try simp (disch := omega) only [wrapI] at hd) <;> have hs := hd <;> (try simp only [Bool.not_eq_true', Bool.not_eq_false', Bool.and_eq_true, Bool.and_eq_false_iff, Bool.or_eq_true, Bool.or_eq_false_iff, decide_eq_true_eq, decide_eq_false_iff_not, beq_iff_eq, bne_iff_ne, beq_eq_false_iff_ne, bne_eq_false_iff_eq, Bool.not_true, Bool.not_false, gt_iff_lt, ge_iff_le, Int.not_lt, Int.not_le, ne_eq, Decidable.not_not] at hd) <;> (try simp at hs))
            | (with_reducible refine T_ret ?_)
            | (with_reducible (show leave _ _ _ _ _); first | (refine leave_of (.inr rfl) _ rfl ?_) | (refine leave_of (.inl rfl) _ rfl ?_))
            | (with_reducible (show leaveA _ _ _ _); first | (refine leaveA_of (.inr rfl) _ rfl ?_) | (refine leaveA_of (.inl rfl) _ rfl ?_))
            | (with_reducible refine wif_intro ?_ (fun hc => ?_))
            | (with_reducible refine And.intro ?_ ?_)
            | (with_reducible intro hc)
            | (simp (maxSteps := 4000000) only [wops_nil, wops_cons, wstep_none, wstep_some, wguard_ff, wguard_tf, wrun_call, wrun_mv, wrun_pick, wrun_bin, wrun_eqAgg, wrun_not, wrun_ext, wrun_build, wrun_load, wrun_iaddrS, wrun_len, get_mk, wop, aop, ev, look, put_some, writes, ores_some, ores_ite_none, ores_map, ores_bind, binV, thenK, boolV, intV, lenOf, value, cut, hget, fillA, toLits, mkAgg, tupOf, cellsEq, cellEq, List.map_cons, List.map_nil, List.length_cons, List.length_nil, List.getElem?_cons_zero, List.getElem?_cons_succ, List.take_succ_cons, List.take_nil, List.drop_zero, List.nil_append, List.append_nil, List.replicate_zero, List.zipIdx_cons, List.zipIdx_nil, List.length_map, Option.pure_def, Option.bind_eq_bind, Option.getD_some, Option.map_some, if_true, if_false, Nat.reduceEqDiff, Nat.reduceAdd, Nat.add_zero, Nat.zero_add, Nat.zero_ne_one, reduceCtorEq, Bool.not_true, Bool.false_eq_true, eq_self, and_true, and_self, decide_true, beq_self_eq_true, freeze, lidsL, lids, List.flatMap_cons, List.flatMap_nil, ren, renL, renR, renB, shiftρ, renR_erows, *])
            | (simp (disch := omega) only [getD_ints, wrapI])
            | (with_reducible (show wcall _ false (.lit (.func (.func 19) _ _)) _ _ _ _); refine wcall_fn (h19) ?_ ?_ ?_; (next => simp [rfyL, rfy, hget, ints, take_rfy, renR_erows]); (next => simp [plainL, plain, plainR, renR_erows]))
            | (with_reducible (show wcallX _ false (.lit (.func (.func 19) _ _)) _ _ _ _); refine wcallX_fn (h19) ?_ ?_ ?_; (next => simp [rfyL, rfy, hget, ints, take_rfy, renR_erows]); (next => simp [plainL, plain, plainR, renR_erows]))
            | (with_reducible (show wcall _ false (.lit (.func (.func 31) _ _)) _ _ _ _); refine wcall_fn (h31) ?_ ?_ ?_; (next => simp [rfyL, rfy, hget, ints, take_rfy, renR_erows]); (next => simp [plainL, plain, plainR, renR_erows]))
            | (with_reducible (show wcallX _ false (.lit (.func (.func 31) _ _)) _ _ _ _); refine wcallX_fn (h31) ?_ ?_ ?_; (next => simp [rfyL, rfy, hget, ints, take_rfy, renR_erows]); (next => simp [plainL, plain, plainR, renR_erows]))
            | omega)
          refine T_for_keep [0, 1, 2, 7, 10, 11, 12] (S5 M nil nh l ys z) z (fun _ => True) 0 ⟨[0], by simp, by simp, by simp, ?_⟩ trivial (Nat.zero_le _) ?_
          · simp [St.keep, get_mk, look, ren, renR, renB, renO, keepρ, pos, hget, renR_ints, renR_rows4, renR_erows, S5, sV, sB, lowL, highL]
          intro k hk _
          by_cases hkz : k < z
          · exact k5l0 (by omega) _ k hkz
          · have hke : k = z := by omega
            subst hke
            have n1 : lowL M k ≠ [] := fun h => by rw [h] at hll; simp at hll; omega
            have n2 : highL M k ≠ [] := fun h => by rw [h] at hhl; simp at hhl; omega
            unfold c5l0 S5
            simp only [sV, sB, n1, n2, if_false]
            by_cases hd : (checkHt k l ys).2 = 0
            · obtain ⟨hyl, hyb, _⟩ := hyl0.1 hd
              have hyb2 := And.intro (hBad_get hyb) trivial
              have henc := And.intro (henc0.1 hd) trivial
              rw [hfst.1 hd] at h26y
              clear hyl0 henc0 hfst hd hyb
              repeat' (first
                | (with_reducible refine T_seq ?_)
                | (with_reducible refine T_reg ?_)
                | ((with_reducible refine T_calm ?_ ?_); rfl)
                | (with_reducible refine T_draw ?_)
                | (with_reducible refine T_skip ?_)
                | (with_reducible refine T_exit ?_)
                | (with_reducible refine T_block ?_)
                | (with_reducible (show T _ _ _ _ _ (.cond _ _ _) _ _); first | (refine T_cond_t rfl ?_) | (refine T_cond_f rfl ?_) | (refine T_cond rfl (fun hc => ?_) (fun hc => ?_) <;> have hd := hc <;> (try simp (disch := omega) only [wrapI] at hd) <;> have hs := hd <;> (try simp only [decide_eq_true_eq, decide_eq_false_iff_not, Int.not_lt] at hd) <;> (try simp at hs)))
                | (with_reducible (show wdW _ _ _ (_ :: _) _ _ _); refine wdW_cons rfl ?_)
                | (with_reducible (show wcall _ false (.lit (.func (.func 26) _ _)) _ _ _ _); refine wcall_fn (h26l) rfl (by simp [plainL, plain]) ?_)
                | (with_reducible (show wcallX _ false (.lit (.func (.func 26) _ _)) _ _ _ _); refine wcallX_fn (h26l) rfl (by simp [plainL, plain, plainR, flat_ints5', freeze1, renR_erows, renR_ints, tk_low, tk_high, lowL_len, highL_len]) ?_)
                | (with_reducible (show wcall _ false (.lit (.func (.func 26) _ _)) _ _ _ _); refine wcall_fn (h26h) rfl (by simp [plainL, plain]) ?_)
                | (with_reducible (show wcallX _ false (.lit (.func (.func 26) _ _)) _ _ _ _); refine wcallX_fn (h26h) rfl (by simp [plainL, plain, plainR, flat_ints5', freeze1, renR_erows, renR_ints, tk_low, tk_high, lowL_len, highL_len]) ?_)
                | (with_reducible (show wcall _ false (.lit (.func (.func 26) _ _)) _ _ _ _); refine wcall_fn (h26y) rfl (by simp [plainL, plain]) ?_)
                | (with_reducible (show wcallX _ false (.lit (.func (.func 26) _ _)) _ _ _ _); refine wcallX_fn (h26y) rfl (by simp [plainL, plain, plainR, flat_ints5', freeze1, renR_erows, renR_ints, tk_low, tk_high, lowL_len, highL_len]) ?_)
                | (with_reducible refine wguard_split (fun hc => ?_) (fun hc => ?_) <;> have hd := hc <;> (try simp (disch := omega) only [wrapI] at hd) <;> have hs := hd <;> (try simp only [Bool.not_eq_true', Bool.not_eq_false', Bool.and_eq_true, Bool.and_eq_false_iff, Bool.or_eq_true, Bool.or_eq_false_iff, decide_eq_true_eq, decide_eq_false_iff_not, beq_iff_eq, bne_iff_ne, beq_eq_false_iff_ne, bne_eq_false_iff_eq, Bool.not_true, Bool.not_false, gt_iff_lt, ge_iff_le, Int.not_lt, Int.not_le, ne_eq, Decidable.not_not] at hd) <;> (try simp at hs))
                | (with_reducible refine wguardX_split (fun hc => ?_) (fun hc => ?_) <;> have hd := hc <;> (try simp (disch := omega) only [wrapI] at hd) <;> have hs := hd <;> (try simp only [Bool.not_eq_true', Bool.not_eq_false', Bool.and_eq_true, Bool.and_eq_false_iff, Bool.or_eq_true, Bool.or_eq_false_iff, decide_eq_true_eq, decide_eq_false_iff_not, beq_iff_eq, bne_iff_ne, beq_eq_false_iff_ne, bne_eq_false_iff_eq, Bool.not_true, Bool.not_false, gt_iff_lt, ge_iff_le, Int.not_lt, Int.not_le, ne_eq, Decidable.not_not] at hd) <;> (try simp at hs))
                | (with_reducible refine T_ret ?_)
                | (with_reducible (show leave _ _ _ _ _); first | (refine leave_of (.inr rfl) _ rfl ?_) | (refine leave_of (.inl rfl) _ rfl ?_))
                | (with_reducible (show leaveA _ _ _ _); first | (refine leaveA_of (.inr rfl) _ rfl ?_) | (refine leaveA_of (.inl rfl) _ rfl ?_))
                | (with_reducible refine wif_intro ?_ (fun hc => ?_))
                | (with_reducible refine And.intro ?_ ?_)
                | (with_reducible intro hc)
                | (simp (maxSteps := 4000000) only [wops_nil, wops_cons, wstep_none, wrun_call, wrun_mv, wrun_bin, wrun_ext, wop, aop, ev, look, put_some, writes, ores_some, binV, thenK, blockK, hget, List.map_cons, List.map_nil, List.length_cons, List.length_nil, List.getElem?_cons_zero, List.getElem?_cons_succ, List.set_cons_zero, List.set_cons_succ, List.drop_zero, List.cons_append, List.nil_append, List.append_nil, List.replicate_zero, Option.getD_some, Option.map_some, if_true, if_false, Nat.reduceEqDiff, Nat.reduceAdd, Nat.zero_add, Nat.zero_ne_one, reduceCtorEq, eq_self, and_true, false_and, freeze, lidsL, lids, List.flatMap_cons, List.flatMap_nil, ren, renL, flat_ints5', freeze1, lowL_len, highL_len, *])
                | (simp (disch := omega) only [getD_ints, wrapI])
                | (with_reducible (show wcall _ false (.lit (.func (.func 26) _ _)) _ _ _ _); refine wcall_fn (h26l) ?_ ?_ ?_; (next => simp [rfyL, rfy, hget, ints, tk_low, tk_high, lowL_len, highL_len]); (next => simp [plainL, plain]))
                | (with_reducible (show wcallX _ false (.lit (.func (.func 26) _ _)) _ _ _ _); refine wcallX_fn (h26l) ?_ ?_ ?_; (next => simp [rfyL, rfy, hget, ints, take_rfy, flat_ints5', freeze1, renR_erows, renR_ints, tk_low, tk_high, lowL_len, highL_len]); (next => simp [plainL, plain, plainR, flat_ints5', freeze1, renR_erows, renR_ints, tk_low, tk_high, lowL_len, highL_len]))
                | (with_reducible (show wcall _ false (.lit (.func (.func 26) _ _)) _ _ _ _); refine wcall_fn (h26h) ?_ ?_ ?_; (next => simp [rfyL, rfy, hget, ints, tk_high, highL_len]); (next => simp [plainL, plain]))
                | (with_reducible (show wcallX _ false (.lit (.func (.func 26) _ _)) _ _ _ _); refine wcallX_fn (h26h) ?_ ?_ ?_; (next => simp [rfyL, rfy, hget, ints, take_rfy, flat_ints5', freeze1, renR_erows, renR_ints, tk_low, tk_high, lowL_len, highL_len]); (next => simp [plainL, plain, plainR, flat_ints5', freeze1, renR_erows, renR_ints, tk_low, tk_high, lowL_len, highL_len]))
                | (with_reducible (show wcall _ false (.lit (.func (.func 26) _ _)) _ _ _ _); refine wcall_fn (h26y) ?_ ?_ ?_; (next => simp [rfyL, rfy, hget, ints, take_rfy, flat_ints5', freeze1, renR_erows, renR_ints, tk_low, tk_high, lowL_len, highL_len]); (next => simp [plainL, plain, plainR, flat_ints5', freeze1, renR_erows, renR_ints, tk_low, tk_high, lowL_len, highL_len]))
                | (with_reducible (show wcallX _ false (.lit (.func (.func 26) _ _)) _ _ _ _); refine wcallX_fn (h26y) ?_ ?_ ?_; (next => simp [rfyL, rfy, hget, ints, take_rfy, flat_ints5', freeze1, renR_erows, renR_ints, tk_low, tk_high, lowL_len, highL_len]); (next => simp [plainL, plain, plainR, flat_ints5', freeze1, renR_erows, renR_ints, tk_low, tk_high, lowL_len, highL_len]))
                | omega)
              refine T_for [0, 2, 10, 11, 19] (fun j => ⟨[(0, i64 k), (2, ints nh ys), (10, .lsl 1 0 k), (11, .lsl 2 0 k), (19, i64 j)], [.cells true false 2 (erows (enc M k)), .cells false false 1 ((lowL M k).map fun x => [i64 x]), .cells false false 1 ((highL M k).map fun x => [i64 x])]⟩) k (fun _ => True) 0 rfl trivial (Nat.zero_le _) ?_
              intro j hj _
              unfold c5l1
              by_cases hjz : j < k
              · obtain ⟨b1, b2⟩ := henc.1 j hjz
                have b3 := hyb2.1 j
                have b4 := hyb2.1 0
                have b5 := hbb.1 j hjz
                have e00 : Int.toNat 0 = 0 := rfl
                have g1 : (ys.map fun x => [i64 x]).getD j [] = [i64 (ys.getD j 0)] := getD_ints (by omega)
                have g2 : (ys.map fun x => [i64 x]).getD 0 [] = [i64 (ys.getD 0 0)] := getD_ints (by omega)
                have g3 : ((lowL M k).map fun x => [i64 x]).getD j [] = [i64 (-(mget M j 0))] := by rw [getD_ints (by omega), lowL_get M k j hjz]
                have g4 : ((highL M k).map fun x => [i64 x]).getD j [] = [i64 (mget M 0 j)] := by rw [getD_ints (by omega), highL_get M k j hjz]
                have ew : IntKind.i64.wrap (ys.getD j 0 - ys.getD 0 0) = ys.getD j 0 - ys.getD 0 0 := wrapI (by omega) (by omega)
                have hb1 : decide (ys.getD j 0 - ys.getD 0 0 > mget M 0 j) = false := by simp only [decide_eq_false_iff_not]; omega
                have hb2 : decide (ys.getD j 0 - ys.getD 0 0 < -(mget M j 0)) = false := by simp only [decide_eq_false_iff_not]; omega
                clear b1 b2
                repeat' (first
                  | (with_reducible refine T_seq ?_)
                  | (with_reducible refine T_reg ?_)
                  | ((with_reducible refine T_calm ?_ ?_); rfl)
                  | (with_reducible refine T_draw ?_)
                  | (with_reducible refine T_skip ?_)
                  | (with_reducible refine T_exit ?_)
                  | (with_reducible refine T_block ?_)
                  | (with_reducible (show T _ _ _ _ _ (.cond _ _ _) _ _); first | (refine T_cond_t rfl ?_) | (refine T_cond_f rfl ?_) | (refine T_cond rfl (fun hc => ?_) (fun hc => ?_) <;> have hd := hc <;> (try simp (disch := omega) only [wrapI] at hd) <;> have hs := hd <;> (try simp only [Bool.not_eq_true', Bool.not_eq_false', Bool.and_eq_true, Bool.and_eq_false_iff, Bool.or_eq_true, Bool.or_eq_false_iff, decide_eq_true_eq, decide_eq_false_iff_not, beq_iff_eq, bne_iff_ne, beq_eq_false_iff_ne, bne_eq_false_iff_eq, Bool.not_true, Bool.not_false, gt_iff_lt, ge_iff_le, Int.not_lt, Int.not_le, ne_eq, Decidable.not_not] at hd) <;> (try simp at hs)))
                  | (with_reducible (show wdW _ _ _ (_ :: _) _ _ _); refine wdW_cons rfl ?_)
                  | (with_reducible refine wguard_split (fun hc => ?_) (fun hc => ?_) <;> have hd := hc <;> (try simp (disch := omega) only [wrapI] at hd) <;> have hs := hd <;> (try simp only [decide_eq_true_eq, decide_eq_false_iff_not, Bool.not_true, Int.not_lt] at hd) <;> (try simp at hs))
                  | (with_reducible refine wguardX_split (fun hc => ?_) (fun hc => ?_) <;> have hd := hc <;> (try simp (disch := omega) only [wrapI] at hd) <;> have hs := hd <;> (try simp only [Bool.not_eq_true', Bool.not_eq_false', Bool.and_eq_true, Bool.and_eq_false_iff, Bool.or_eq_true, Bool.or_eq_false_iff, decide_eq_true_eq, decide_eq_false_iff_not, beq_iff_eq, bne_iff_ne, beq_eq_false_iff_ne, bne_eq_false_iff_eq, Bool.not_true, Bool.not_false, gt_iff_lt, ge_iff_le, Int.not_lt, Int.not_le, ne_eq, Decidable.not_not] at hd) <;> (try simp at hs))
                  | (with_reducible refine T_ret ?_)
                  | (with_reducible (show leave _ _ _ _ _); first | (refine leave_of (.inr rfl) _ rfl ?_) | (refine leave_of (.inl rfl) _ rfl ?_))
                  | (with_reducible (show leaveA _ _ _ _); first | (refine leaveA_of (.inr rfl) _ rfl ?_) | (refine leaveA_of (.inl rfl) _ rfl ?_))
                  | (with_reducible refine wif_intro ?_ (fun hc => ?_))
                  | (with_reducible refine And.intro ?_ ?_)
                  | (with_reducible intro hc)
                  | (simp (maxSteps := 4000000) only [wops_nil, wops_cons, wstep_none, wstep_some, wguard_true, wguard_ff, wguard_ft, wrun_mv, wrun_pick, wrun_bin, wrun_load, wrun_iaddrS, wrun_len, get_mk, wop, aop, ev, look, put_some, writes, ores_some, ores_ite_none, ores_map, ores_bind, binV, thenK, blockK, intV, lenOf, value, cut, hget, mkAgg, tupOf, List.map_cons, List.map_nil, List.length_cons, List.length_nil, List.getElem?_cons_zero, List.getElem?_cons_succ, List.take_succ_cons, List.take_nil, List.drop_zero, List.append_nil, List.replicate_zero, List.length_map, Option.pure_def, Option.bind_eq_bind, Option.getD_some, Option.map_some, if_true, if_false, Nat.reduceEqDiff, Nat.reduceAdd, Nat.add_zero, Nat.zero_add, reduceCtorEq, Bool.not_true, Bool.false_eq_true, eq_self, true_and, and_true, and_self, decide_true, beq_self_eq_true, ren, Int.toNat_natCast, *])
                  | (simp (disch := omega) only [wrapI])
                  | omega)
                exact rfl
              · skip
                repeat' (first
                  | (with_reducible refine T_seq ?_)
                  | (with_reducible refine T_reg ?_)
                  | ((with_reducible refine T_calm ?_ ?_); rfl)
                  | (with_reducible refine T_draw ?_)
                  | (with_reducible refine T_skip ?_)
                  | (with_reducible refine T_exit ?_)
                  | (with_reducible refine T_block ?_)
                  | (with_reducible (show T _ _ _ _ _ (.cond _ _ _) _ _); first | (refine T_cond_t rfl ?_) | (refine T_cond_f rfl ?_) | (refine T_cond rfl (fun hc => ?_) (fun hc => ?_) <;> have hd := hc <;> (try simp (disch := omega) only [wrapI] at hd) <;> have hs := hd <;> (try simp only [Bool.not_eq_true', Bool.not_eq_false', Bool.and_eq_true, Bool.and_eq_false_iff, Bool.or_eq_true, Bool.or_eq_false_iff, decide_eq_true_eq, decide_eq_false_iff_not, beq_iff_eq, bne_iff_ne, beq_eq_false_iff_ne, bne_eq_false_iff_eq, Bool.not_true, Bool.not_false, gt_iff_lt, ge_iff_le, Int.not_lt, Int.not_le, ne_eq, Decidable.not_not] at hd) <;> (try simp at hs)))
                  | (with_reducible (show wdW _ _ _ (_ :: _) _ _ _); refine wdW_cons rfl ?_)
                  | (with_reducible refine wguard_split (fun hc => ?_) (fun hc => ?_) <;> have hd := hc <;> (try simp (disch := omega) only [wrapI] at hd) <;> have hs := hd <;> (try simp only [decide_eq_true_eq, decide_eq_false_iff_not, Bool.not_true, Int.not_lt] at hd) <;> (try simp at hs))
                  | (with_reducible refine wguardX_split (fun hc => ?_) (fun hc => ?_) <;> have hd := hc <;> (try simp (disch := omega) only [wrapI] at hd) <;> have hs := hd <;> (try simp only [Bool.not_eq_true', Bool.not_eq_false', Bool.and_eq_true, Bool.and_eq_false_iff, Bool.or_eq_true, Bool.or_eq_false_iff, decide_eq_true_eq, decide_eq_false_iff_not, beq_iff_eq, bne_iff_ne, beq_eq_false_iff_ne, bne_eq_false_iff_eq, Bool.not_true, Bool.not_false, gt_iff_lt, ge_iff_le, Int.not_lt, Int.not_le, ne_eq, Decidable.not_not] at hd) <;> (try simp at hs))
                  | (with_reducible refine T_ret ?_)
                  | (with_reducible (show leave _ _ _ _ _); first | (refine leave_of (.inr rfl) _ rfl ?_) | (refine leave_of (.inl rfl) _ rfl ?_))
                  | (with_reducible (show leaveA _ _ _ _); first | (refine leaveA_of (.inr rfl) _ rfl ?_) | (refine leaveA_of (.inl rfl) _ rfl ?_))
                  | (with_reducible refine wif_intro ?_ (fun hc => ?_))
                  | (with_reducible refine And.intro ?_ ?_)
                  | (with_reducible intro hc)
                  | (simp (maxSteps := 4000000) only [wops_nil, wops_cons, wstep_none, wstep_some, wguard_true, wguard_ft, wrun_mv, wrun_pick, wrun_bin, wrun_load, wrun_iaddrS, wrun_len, get_mk, wop, aop, ev, look, put_some, writes, ores_some, ores_none, ores_ite_none, ores_map, ores_bind, wif_true, binV, thenK, blockK, intV, lenOf, value, cut, hget, mkAgg, tupOf, List.map_cons, List.map_nil, List.length_cons, List.length_nil, List.take_succ_cons, List.take_nil, List.drop_zero, List.append_nil, List.replicate_zero, List.length_map, Option.pure_def, Option.bind_eq_bind, Option.map_some, if_true, if_false, Nat.reduceEqDiff, Nat.reduceAdd, Nat.zero_add, reduceCtorEq, Bool.not_true, Bool.false_eq_true, eq_self, true_and, and_true, and_self, false_and, decide_true, beq_self_eq_true, ren, *])
                  | (simp (disch := omega) only [getD_ints])
                  | omega)
            · clear hyl0 henc0 hfst
              repeat' (first
                | (with_reducible refine T_seq ?_)
                | (with_reducible refine T_reg ?_)
                | ((with_reducible refine T_calm ?_ ?_); rfl)
                | (with_reducible refine T_draw ?_)
                | (with_reducible refine T_skip ?_)
                | (with_reducible refine T_exit ?_)
                | (with_reducible refine T_block ?_)
                | (with_reducible (show T _ _ _ _ _ (.cond _ _ _) _ _); first | (refine T_cond_t rfl ?_) | (refine T_cond_f rfl ?_) | (refine T_cond rfl (fun hc => ?_) (fun hc => ?_) <;> have hd := hc <;> (try simp (disch := omega) only [wrapI] at hd) <;> have hs := hd <;> (try simp only [decide_eq_true_eq, decide_eq_false_iff_not, bne_iff_ne, bne_eq_false_iff_eq, Int.not_lt, ne_eq] at hd) <;> (try simp at hs)))
                | (with_reducible (show wdW _ _ _ (_ :: _) _ _ _); refine wdW_cons rfl ?_)
                | (with_reducible (show wcall _ false (.lit (.func (.func 26) _ _)) _ _ _ _); refine wcall_fn (h26l) rfl (by simp [plainL, plain]) ?_)
                | (with_reducible (show wcallX _ false (.lit (.func (.func 26) _ _)) _ _ _ _); refine wcallX_fn (h26l) rfl (by simp [plainL, plain, plainR, flat_ints5', freeze1, renR_erows, renR_ints, tk_low, tk_high, lowL_len, highL_len]) ?_)
                | (with_reducible (show wcall _ false (.lit (.func (.func 26) _ _)) _ _ _ _); refine wcall_fn (h26h) rfl (by simp [plainL, plain]) ?_)
                | (with_reducible (show wcallX _ false (.lit (.func (.func 26) _ _)) _ _ _ _); refine wcallX_fn (h26h) rfl (by simp [plainL, plain, plainR, flat_ints5', freeze1, renR_erows, renR_ints, tk_low, tk_high, lowL_len, highL_len]) ?_)
                | (with_reducible (show wcall _ false (.lit (.func (.func 26) _ _)) _ _ _ _); refine wcall_fn (h26y) rfl (by simp [plainL, plain]) ?_)
                | (with_reducible (show wcallX _ false (.lit (.func (.func 26) _ _)) _ _ _ _); refine wcallX_fn (h26y) rfl (by simp [plainL, plain, plainR, flat_ints5', freeze1, renR_erows, renR_ints, tk_low, tk_high, lowL_len, highL_len]) ?_)
                | (with_reducible refine wguard_split (fun hc => ?_) (fun hc => ?_) <;> have hd := hc <;> (try simp (disch := omega) only [wrapI] at hd) <;> have hs := hd <;> (try simp only [Bool.not_eq_true', Bool.not_eq_false', Bool.and_eq_true, Bool.and_eq_false_iff, Bool.or_eq_true, Bool.or_eq_false_iff, decide_eq_true_eq, decide_eq_false_iff_not, beq_iff_eq, bne_iff_ne, beq_eq_false_iff_ne, bne_eq_false_iff_eq, Bool.not_true, Bool.not_false, gt_iff_lt, ge_iff_le, Int.not_lt, Int.not_le, ne_eq, Decidable.not_not] at hd) <;> (try simp at hs))
                | (with_reducible refine wguardX_split (fun hc => ?_) (fun hc => ?_) <;> have hd := hc <;> (try simp (disch := omega) only [wrapI] at hd) <;> have hs := hd <;> (try simp only [Bool.not_eq_true', Bool.not_eq_false', Bool.and_eq_true, Bool.and_eq_false_iff, Bool.or_eq_true, Bool.or_eq_false_iff, decide_eq_true_eq, decide_eq_false_iff_not, beq_iff_eq, bne_iff_ne, beq_eq_false_iff_ne, bne_eq_false_iff_eq, Bool.not_true, Bool.not_false, gt_iff_lt, ge_iff_le, Int.not_lt, Int.not_le, ne_eq, Decidable.not_not] at hd) <;> (try simp at hs))
                | (with_reducible refine T_ret ?_)
                | (with_reducible (show leave _ _ _ _ _); first | (refine leave_of (.inr rfl) _ rfl ?_) | (refine leave_of (.inl rfl) _ rfl ?_))
                | (with_reducible (show leaveA _ _ _ _); first | (refine leaveA_of (.inr rfl) _ rfl ?_) | (refine leaveA_of (.inl rfl) _ rfl ?_))
                | (with_reducible refine wif_intro ?_ (fun hc => ?_))
                | (with_reducible refine And.intro ?_ ?_)
                | (with_reducible intro hc)
                | (simp (maxSteps := 4000000) only [wops_nil, wops_cons, wstep_none, wrun_call, wrun_mv, wrun_bin, wrun_ext, get_mk, wop, aop, ev, look, put_some, writes, ores_some, binV, thenK, blockK, hget, tupOf, List.map_cons, List.map_nil, List.length_cons, List.length_nil, List.getElem?_cons_zero, List.getElem?_cons_succ, List.set_cons_zero, List.set_cons_succ, List.drop_zero, List.cons_append, List.nil_append, List.append_nil, List.replicate_zero, Option.getD_some, Option.map_some, if_true, if_false, Nat.reduceEqDiff, Nat.reduceAdd, Nat.zero_add, Nat.zero_ne_one, reduceCtorEq, eq_self, and_true, false_and, freeze, lidsL, lids, List.flatMap_cons, List.flatMap_nil, ren, renL, flat_ints5', freeze1, lowL_len, highL_len, *])
                | (simp (disch := omega) only [getD_ints, wrapI])
                | (with_reducible (show wcall _ false (.lit (.func (.func 26) _ _)) _ _ _ _); refine wcall_fn (h26l) ?_ ?_ ?_; (next => simp [rfyL, rfy, hget, ints, tk_low, tk_high, lowL_len, highL_len]); (next => simp [plainL, plain]))
                | (with_reducible (show wcallX _ false (.lit (.func (.func 26) _ _)) _ _ _ _); refine wcallX_fn (h26l) ?_ ?_ ?_; (next => simp [rfyL, rfy, hget, ints, take_rfy, flat_ints5', freeze1, renR_erows, renR_ints, tk_low, tk_high, lowL_len, highL_len]); (next => simp [plainL, plain, plainR, flat_ints5', freeze1, renR_erows, renR_ints, tk_low, tk_high, lowL_len, highL_len]))
                | (with_reducible (show wcall _ false (.lit (.func (.func 26) _ _)) _ _ _ _); refine wcall_fn (h26h) ?_ ?_ ?_; (next => simp [rfyL, rfy, hget, ints, tk_high, highL_len]); (next => simp [plainL, plain]))
                | (with_reducible (show wcallX _ false (.lit (.func (.func 26) _ _)) _ _ _ _); refine wcallX_fn (h26h) ?_ ?_ ?_; (next => simp [rfyL, rfy, hget, ints, take_rfy, flat_ints5', freeze1, renR_erows, renR_ints, tk_low, tk_high, lowL_len, highL_len]); (next => simp [plainL, plain, plainR, flat_ints5', freeze1, renR_erows, renR_ints, tk_low, tk_high, lowL_len, highL_len]))
                | (with_reducible (show wcall _ false (.lit (.func (.func 26) _ _)) _ _ _ _); refine wcall_fn (h26y) ?_ ?_ ?_; (next => simp [rfyL, rfy, hget, ints, take_rfy, flat_ints5', freeze1, renR_erows, renR_ints, tk_low, tk_high, lowL_len, highL_len]); (next => simp [plainL, plain, plainR, flat_ints5', freeze1, renR_erows, renR_ints, tk_low, tk_high, lowL_len, highL_len]))
                | (with_reducible (show wcallX _ false (.lit (.func (.func 26) _ _)) _ _ _ _); refine wcallX_fn (h26y) ?_ ?_ ?_; (next => simp [rfyL, rfy, hget, ints, take_rfy, flat_ints5', freeze1, renR_erows, renR_ints, tk_low, tk_high, lowL_len, highL_len]); (next => simp [plainL, plain, plainR, flat_ints5', freeze1, renR_erows, renR_ints, tk_low, tk_high, lowL_len, highL_len]))
                | omega)
    · have h31 := k31e (nil := nil) (zi := zi) (l := l) (by omega) hc
      repeat' (first
        | (with_reducible refine T_seq ?_)
        | (with_reducible refine T_reg ?_)
        | ((with_reducible refine T_calm ?_ ?_); rfl)
        | (with_reducible refine T_draw ?_)
        | (with_reducible refine T_skip ?_)
        | (with_reducible refine T_exit ?_)
        | (with_reducible refine T_block ?_)
        | (with_reducible (show T _ _ _ _ _ (.cond _ _ _) _ _); first | (refine T_cond_t rfl ?_) | (refine T_cond_f rfl ?_) | (refine T_cond rfl (fun hc => ?_) (fun hc => ?_) <;> have hd := hc <;> (try simp (disch := omega) only [wrapI] at hd) <;> have hs := hd <;> (try simp only [decide_eq_true_eq, decide_eq_false_iff_not, bne_iff_ne, bne_eq_false_iff_eq, gt_iff_lt, Int.not_lt, ne_eq] at hd) <;> (try simp at hs)))
        | (with_reducible (show wdW _ _ _ (_ :: _) _ _ _); refine wdW_cons rfl ?_)
        | (with_reducible (show wcall _ false (.lit (.func (.func 19) _ _)) _ _ _ _); refine wcall_fn (h19) rfl (by simp [plainL]) ?_)
        | (with_reducible (show wcallX _ false (.lit (.func (.func 19) _ _)) _ _ _ _); refine wcallX_fn (h19) rfl (by simp [plainL, plain, plainR]) ?_)
        | (with_reducible (show wcall _ false (.lit (.func (.func 31) _ _)) _ _ _ _); refine wcall_fn (h31) rfl (by simp [plainL, plain]) ?_)
        | (with_reducible (show wcallX _ false (.lit (.func (.func 31) _ _)) _ _ _ _); refine wcallX_fn (h31) rfl (by simp [plainL, plain, plainR]) ?_)
        | (with_reducible refine wguard_split (fun hc => ?_) (fun hc => ?_) <;> have hd := hc <;> (try simp (disch := omega) only [wrapI] at hd) <;> have hs := hd <;> (try simp only [decide_eq_true_eq, decide_eq_false_iff_not, bne_iff_ne, bne_eq_false_iff_eq, Bool.not_false, gt_iff_lt, Int.not_lt, ne_eq] at hd) <;> (try simp at hs))
        | (with_reducible refine wguardX_split (fun hc => ?_) (fun hc => ?_) <;> have hd := hc <;> (try simp (disch := omega) only [wrapI] at hd) <;> have hs := hd <;> (try simp only [Bool.not_eq_true', Bool.not_eq_false', Bool.and_eq_true, Bool.and_eq_false_iff, Bool.or_eq_true, Bool.or_eq_false_iff, decide_eq_true_eq, decide_eq_false_iff_not, beq_iff_eq, bne_iff_ne, beq_eq_false_iff_ne, bne_eq_false_iff_eq, Bool.not_true, Bool.not_false, gt_iff_lt, ge_iff_le, Int.not_lt, Int.not_le, ne_eq, Decidable.not_not] at hd) <;> (try simp at hs))
        | (with_reducible refine T_ret ?_)
        | (with_reducible (show leave _ _ _ _ _); first | (refine leave_of (.inr rfl) _ rfl ?_) | (refine leave_of (.inl rfl) _ rfl ?_))
        | (with_reducible (show leaveA _ _ _ _); first | (refine leaveA_of (.inr rfl) _ rfl ?_) | (refine leaveA_of (.inl rfl) _ rfl ?_))
        | (with_reducible refine wif_intro ?_ (fun hc => ?_))
        | (with_reducible refine And.intro ?_ ?_)
        | (with_reducible intro hc)
        | (simp (maxSteps := 4000000) only [wops_nil, wops_cons, wstep_none, wstep_some, wguard_ff, wguard_tf, wrun_call, wrun_mv, wrun_pick, wrun_bin, wrun_eqAgg, wrun_not, wrun_ext, wrun_build, wrun_load, wrun_iaddrS, wrun_len, get_mk, wop, aop, ev, look, put_some, writes, ores_some, ores_none, ores_map, ores_bind, binV, thenK, boolV, intV, lenOf, value, cut, hget, fillA, toLits, mkAgg, tupOf, List.map_cons, List.map_nil, List.length_nil, List.getElem?_cons_zero, List.getElem?_cons_succ, List.append_nil, List.replicate_zero, List.zipIdx_cons, List.zipIdx_nil, List.length_map, Option.pure_def, Option.bind_eq_bind, Option.map_some, if_true, if_false, Nat.reduceEqDiff, Nat.reduceAdd, Nat.zero_add, Nat.zero_ne_one, reduceCtorEq, Bool.not_true, Bool.not_false, Bool.false_eq_true, eq_self, and_false, decide_true, freeze, lidsL, lids, List.flatMap_cons, List.flatMap_nil, ren, renL, renR, *])
        | (simp (disch := omega) only [getD_ints, wrapI])
        | (with_reducible (show wcall _ false (.lit (.func (.func 19) _ _)) _ _ _ _); refine wcall_fn (h19) ?_ ?_ ?_; (next => simp [rfyL, rfy, hget, ints, take_rfy]); (next => simp [plainL, plain, plainR]))
        | (with_reducible (show wcallX _ false (.lit (.func (.func 19) _ _)) _ _ _ _); refine wcallX_fn (h19) ?_ ?_ ?_; (next => simp [rfyL, rfy, hget, ints, take_rfy]); (next => simp [plainL, plain, plainR]))
        | (with_reducible (show wcall _ false (.lit (.func (.func 31) _ _)) _ _ _ _); refine wcall_fn (h31) ?_ ?_ ?_; (next => simp [rfyL, rfy, hget, ints, take_rfy]); (next => simp [plainL, plain, plainR]))
        | (with_reducible (show wcallX _ false (.lit (.func (.func 31) _ _)) _ _ _ _); refine wcallX_fn (h31) ?_ ?_ ?_; (next => simp [rfyL, rfy, hget, ints, take_rfy]); (next => simp [plainL, plain, plainR]))
        | omega)
  · by_cases hl : l.length ≤ 12
    · have hy : 45 < ys.length := by
        rcases Nat.lt_or_ge 45 ys.length with h | h
        · exact h
        · exact (hsm ⟨hl, h⟩).elim
      clear hsm
      repeat' (first
        | (with_reducible refine T_seq ?_)
        | (with_reducible refine T_reg ?_)
        | ((with_reducible refine T_calm ?_ ?_); rfl)
        | (with_reducible refine T_draw ?_)
        | (with_reducible refine T_skip ?_)
        | (with_reducible refine T_exit ?_)
        | (with_reducible refine T_block ?_)
        | (with_reducible (show T _ _ _ _ _ (.cond _ _ _) _ _); first | (refine T_cond_t rfl ?_) | (refine T_cond_f rfl ?_) | (refine T_cond rfl (fun hc => ?_) (fun hc => ?_) <;> have hd := hc <;> (try simp (disch := omega) only [wrapI] at hd) <;> have hs := hd <;> (try simp only [decide_eq_true_eq, decide_eq_false_iff_not, gt_iff_lt, Int.not_lt] at hd) <;> (try simp at hs)))
        | (with_reducible (show wdW _ _ _ (_ :: _) _ _ _); refine wdW_cons rfl ?_)
        | (with_reducible (show wcall _ false (.lit (.func (.func 19) _ _)) _ _ _ _); refine wcall_fn (h19) rfl (by simp [plainL]) ?_)
        | (with_reducible (show wcallX _ false (.lit (.func (.func 19) _ _)) _ _ _ _); refine wcallX_fn (h19) rfl (by simp [plainL, plain, plainR]) ?_)
        | (with_reducible refine wguard_split (fun hc => ?_) (fun hc => ?_) <;> have hd := hc <;> (try simp (disch := omega) only [wrapI] at hd) <;> have hs := hd <;> (try simp only [decide_eq_true_eq, decide_eq_false_iff_not, Bool.not_false, gt_iff_lt, Int.not_lt] at hd) <;> (try simp at hs))
        | (with_reducible refine wguardX_split (fun hc => ?_) (fun hc => ?_) <;> have hd := hc <;> (try simp (disch := omega) only [wrapI] at hd) <;> have hs := hd <;> (try simp only [Bool.not_eq_true', Bool.not_eq_false', Bool.and_eq_true, Bool.and_eq_false_iff, Bool.or_eq_true, Bool.or_eq_false_iff, decide_eq_true_eq, decide_eq_false_iff_not, beq_iff_eq, bne_iff_ne, beq_eq_false_iff_ne, bne_eq_false_iff_eq, Bool.not_true, Bool.not_false, gt_iff_lt, ge_iff_le, Int.not_lt, Int.not_le, ne_eq, Decidable.not_not] at hd) <;> (try simp at hs))
        | (with_reducible refine T_ret ?_)
        | (with_reducible (show leave _ _ _ _ _); first | (refine leave_of (.inr rfl) _ rfl ?_) | (refine leave_of (.inl rfl) _ rfl ?_))
        | (with_reducible (show leaveA _ _ _ _); first | (refine leaveA_of (.inr rfl) _ rfl ?_) | (refine leaveA_of (.inl rfl) _ rfl ?_))
        | (with_reducible refine wif_intro ?_ (fun hc => ?_))
        | (with_reducible refine And.intro ?_ ?_)
        | (with_reducible intro hc)
        | (simp (maxSteps := 4000000) only [wops_nil, wops_cons, wstep_none, wstep_some, wguard_ff, wguard_tf, wrun_call, wrun_mv, wrun_pick, wrun_bin, wrun_not, wrun_len, get_mk, wop, aop, ev, look, put_some, writes, ores_some, ores_map, ores_bind, binV, thenK, boolV, intV, lenOf, hget, tupOf, List.map_cons, List.map_nil, List.length_nil, List.append_nil, List.replicate_zero, List.zipIdx_cons, List.zipIdx_nil, List.length_map, Option.pure_def, Option.bind_eq_bind, Option.map_some, if_true, if_false, Nat.reduceEqDiff, Nat.reduceAdd, Nat.zero_add, Nat.zero_ne_one, reduceCtorEq, Bool.not_true, Bool.false_eq_true, eq_self, decide_true, freeze, lidsL, List.flatMap_nil, ren, *])
        | (simp (disch := omega) only [getD_ints, wrapI])
        | (with_reducible (show wcall _ false (.lit (.func (.func 19) _ _)) _ _ _ _); refine wcall_fn (h19) ?_ ?_ ?_; (next => simp [rfyL, rfy, hget, ints, take_rfy]); (next => simp [plainL, plain, plainR]))
        | (with_reducible (show wcallX _ false (.lit (.func (.func 19) _ _)) _ _ _ _); refine wcallX_fn (h19) ?_ ?_ ?_; (next => simp [rfyL, rfy, hget, ints, take_rfy]); (next => simp [plainL, plain, plainR]))
        | omega)
    · clear hsm
      repeat' (first
        | (with_reducible refine T_seq ?_)
        | (with_reducible refine T_reg ?_)
        | ((with_reducible refine T_calm ?_ ?_); rfl)
        | (with_reducible refine T_draw ?_)
        | (with_reducible refine T_skip ?_)
        | (with_reducible refine T_exit ?_)
        | (with_reducible refine T_block ?_)
        | (with_reducible (show T _ _ _ _ _ (.cond _ _ _) _ _); first | (refine T_cond_t rfl ?_) | (refine T_cond_f rfl ?_) | (refine T_cond rfl (fun hc => ?_) (fun hc => ?_) <;> have hd := hc <;> (try simp (disch := omega) only [wrapI] at hd) <;> have hs := hd <;> (try simp only [decide_eq_true_eq, decide_eq_false_iff_not, gt_iff_lt, Int.not_lt] at hd) <;> (try simp at hs)))
        | (with_reducible (show wdW _ _ _ (_ :: _) _ _ _); refine wdW_cons rfl ?_)
        | (with_reducible (show wcall _ false (.lit (.func (.func 19) _ _)) _ _ _ _); refine wcall_fn (h19) rfl (by simp [plainL]) ?_)
        | (with_reducible (show wcallX _ false (.lit (.func (.func 19) _ _)) _ _ _ _); refine wcallX_fn (h19) rfl (by simp [plainL, plain, plainR]) ?_)
        | (with_reducible refine wguard_split (fun hc => ?_) (fun hc => ?_) <;> have hd := hc <;> (try simp (disch := omega) only [wrapI] at hd) <;> have hs := hd <;> (try simp only [decide_eq_true_eq, decide_eq_false_iff_not, Bool.not_false, gt_iff_lt, Int.not_lt] at hd) <;> (try simp at hs))
        | (with_reducible refine wguardX_split (fun hc => ?_) (fun hc => ?_) <;> have hd := hc <;> (try simp (disch := omega) only [wrapI] at hd) <;> have hs := hd <;> (try simp only [Bool.not_eq_true', Bool.not_eq_false', Bool.and_eq_true, Bool.and_eq_false_iff, Bool.or_eq_true, Bool.or_eq_false_iff, decide_eq_true_eq, decide_eq_false_iff_not, beq_iff_eq, bne_iff_ne, beq_eq_false_iff_ne, bne_eq_false_iff_eq, Bool.not_true, Bool.not_false, gt_iff_lt, ge_iff_le, Int.not_lt, Int.not_le, ne_eq, Decidable.not_not] at hd) <;> (try simp at hs))
        | (with_reducible refine T_ret ?_)
        | (with_reducible (show leave _ _ _ _ _); first | (refine leave_of (.inr rfl) _ rfl ?_) | (refine leave_of (.inl rfl) _ rfl ?_))
        | (with_reducible (show leaveA _ _ _ _); first | (refine leaveA_of (.inr rfl) _ rfl ?_) | (refine leaveA_of (.inl rfl) _ rfl ?_))
        | (with_reducible refine wif_intro ?_ (fun hc => ?_))
        | (with_reducible refine And.intro ?_ ?_)
        | (with_reducible intro hc)
        | (simp (maxSteps := 4000000) only [wops_nil, wops_cons, wstep_none, wstep_some, wguard_ff, wguard_tf, wrun_call, wrun_mv, wrun_pick, wrun_bin, wrun_not, wrun_len, get_mk, wop, aop, ev, look, put_some, writes, ores_some, ores_map, ores_bind, binV, thenK, boolV, intV, lenOf, hget, tupOf, List.map_cons, List.map_nil, List.length_nil, List.append_nil, List.replicate_zero, List.zipIdx_cons, List.zipIdx_nil, List.length_map, Option.pure_def, Option.bind_eq_bind, Option.map_some, if_true, if_false, Nat.reduceEqDiff, Nat.reduceAdd, Nat.zero_add, Nat.zero_ne_one, reduceCtorEq, Bool.not_true, Bool.false_eq_true, eq_self, decide_true, freeze, lidsL, List.flatMap_nil, ren, *])
        | (simp (disch := omega) only [getD_ints, wrapI])
        | (with_reducible (show wcall _ false (.lit (.func (.func 19) _ _)) _ _ _ _); refine wcall_fn (h19) ?_ ?_ ?_; (next => simp [rfyL, rfy, hget, ints, take_rfy]); (next => simp [plainL, plain, plainR]))
        | (with_reducible (show wcallX _ false (.lit (.func (.func 19) _ _)) _ _ _ _); refine wcallX_fn (h19) ?_ ?_ ?_; (next => simp [rfyL, rfy, hget, ints, take_rfy]); (next => simp [plainL, plain, plainR]))
        | omega)
end Go.Abs
