import Derived.Test.YtodheeifecoebaaK101x
import Derived.Test.YtodheeifecoebaaK9
set_option linter.all false
set_option linter.unusedVariables false
set_option linter.unusedSimpArgs false
set_option linter.unusedSectionVars false
namespace Go.Abs
open Go.Proofs
set_option maxHeartbeats 8000000 in
theorem k11 (zi : Int) (nil : Bool) (l : List Rd) (a b : Int) : Fn Try.prog 11 [i64 zi, rdgs nil l, rgA a b] (bl true) [] := by
  refine fn_of e11 ?_
  unfold c11
  have h19 := k19
  have h25 := k25 nil l 12
  have e00 : Int.toNat 0 = 0 := rfl
  have e01 : Int.toNat 1 = 1 := rfl
  have e0 : ∀ x : Int, 0 - x = -x := fun x => by omega
  have enn : ∀ x : Int, - -x = x := fun x => by omega
  cases hf : fewB l.length 12 with
  | false =>
    rw [hf] at h25
    clear hf
    repeat' (first
      | (with_reducible refine T_seq ?_)
      | (with_reducible refine T_reg ?_)
      | ((with_reducible refine T_calm ?_ ?_); rfl)
      | (with_reducible refine T_draw ?_)
      | (with_reducible refine T_skip ?_)
      | (with_reducible refine T_exit ?_)
      | (with_reducible refine T_block ?_)
      | (with_reducible (show T _ _ _ _ _ (.cond _ _ _) _ _); first | (refine T_cond_t rfl ?_) | (refine T_cond_f rfl ?_) | (refine T_cond rfl (fun hc => ?_) (fun hc => ?_) <;> have hd := hc <;> (try simp (disch := omega) only [wrapI] at hd) <;> have hs := hd <;> (try simp only [Bool.not_eq_true', Bool.not_eq_false', Bool.and_eq_true, Bool.and_eq_false_iff, Bool.or_eq_true, Bool.or_eq_false_iff, decide_eq_true_eq, decide_eq_false_iff_not, beq_iff_eq, bne_iff_ne, beq_eq_false_iff_ne, bne_eq_false_iff_eq, Bool.not_true, Bool.not_false, gt_iff_lt, ge_iff_le, Int.not_lt, Int.not_le, ne_eq, Decidable.not_not] at hd) <;> (try simp at hs)))
      | (with_reducible (show wdW _ _ _ (_ :: _) _ _ _); refine wdW_cons rfl ?_)
      | (with_reducible (show wcall _ false (.lit (.func (.func 19) _ _)) _ _ _ _); refine wcall_fn (h19) rfl (by simp [plainL]) ?_)
      | (with_reducible (show wcallX _ false (.lit (.func (.func 19) _ _)) _ _ _ _); refine wcallX_fn (h19) rfl (by simp [plainL, plain, plainR]) ?_)
      | (with_reducible (show wcall _ false (.lit (.func (.func 25) _ _)) _ _ _ _); refine wcall_fn (h25) rfl (by simp [plainL, plain]) ?_)
      | (with_reducible (show wcallX _ false (.lit (.func (.func 25) _ _)) _ _ _ _); refine wcallX_fn (h25) rfl (by simp [plainL, plain, plainR]) ?_)
      | (with_reducible refine wguard_split (fun hc => ?_) (fun hc => ?_) <;> have hd := hc <;> (try simp (disch := omega) only [wrapI] at hd) <;> have hs := hd <;> (try simp only [Bool.not_eq_true', Bool.not_eq_false', Bool.and_eq_true, Bool.and_eq_false_iff, Bool.or_eq_true, Bool.or_eq_false_iff, decide_eq_true_eq, decide_eq_false_iff_not, beq_iff_eq, bne_iff_ne, beq_eq_false_iff_ne, bne_eq_false_iff_eq, Bool.not_true, Bool.not_false, gt_iff_lt, ge_iff_le, Int.not_lt, Int.not_le, ne_eq, Decidable.not_not] at hd) <;> (try simp at hs))
      | (with_reducible refine wguardX_split (fun hc => ?_) (fun hc => ?_) <;> have hd := hc <;> (try simp (disch := omega) only [wrapI] at hd) <;> have hs := hd <;> (try simp only [Bool.not_eq_true', Bool.not_eq_false', Bool.and_eq_true, Bool.and_eq_false_iff, Bool.or_eq_true, Bool.or_eq_false_iff, decide_eq_true_eq, decide_eq_false_iff_not, beq_iff_eq, bne_iff_ne, beq_eq_false_iff_ne, bne_eq_false_iff_eq, Bool.not_true, Bool.not_false, gt_iff_lt, ge_iff_le, Int.not_lt, Int.not_le, ne_eq, Decidable.not_not] at hd) <;> (try simp at hs))
      | (with_reducible refine T_ret ?_)
      | (with_reducible (show leave _ _ _ _ _); first | (refine leave_of (.inr rfl) _ rfl ?_) | (refine leave_of (.inl rfl) _ rfl ?_))
      | (with_reducible (show leaveA _ _ _ _); first | (refine leaveA_of (.inr rfl) _ rfl ?_) | (refine leaveA_of (.inl rfl) _ rfl ?_))
      | (with_reducible refine wif_intro ?_ (fun hc => ?_))
      | (with_reducible refine And.intro ?_ ?_)
      | (with_reducible intro hc)
      | (simp (maxSteps := 4000000) only [wops_nil, wops_cons, wstep_none, wrun_call, wrun_mv, wrun_not, wrun_box, get_mk, wop, aop, ev, look, put_some, writes, ores_some, thenK, boolV, AV.parts, isOne, tupOf, ofValue_int, List.map_cons, List.map_nil, List.length_cons, List.length_nil, List.getElem?_cons_zero, List.set_cons_zero, List.nil_append, List.append_nil, List.replicate_zero, List.replicate_succ, List.zipIdx_cons, List.zipIdx_nil, List.all_cons, List.all_nil, if_true, if_false, Nat.reduceEqDiff, Nat.reduceAdd, Nat.add_zero, Nat.zero_add, Nat.zero_ne_one, reduceCtorEq, Bool.not_true, Bool.not_false, Bool.and_true, eq_self, true_and, and_self, freeze, lidsL, lids, List.flatMap_cons, List.flatMap_nil, List.all_cons, ren, *])
      | (simp (disch := omega) only [getD_ints, wrapI])
      | (with_reducible (show wcall _ false (.lit (.func (.func 19) _ _)) _ _ _ _); refine wcall_fn (h19) ?_ ?_ ?_; (next => simp [rfyL, rfy, hget, ints, take_rfy]); (next => simp [plainL, plain, plainR]))
      | (with_reducible (show wcallX _ false (.lit (.func (.func 19) _ _)) _ _ _ _); refine wcallX_fn (h19) ?_ ?_ ?_; (next => simp [rfyL, rfy, hget, ints, take_rfy]); (next => simp [plainL, plain, plainR]))
      | (with_reducible (show wcall _ false (.lit (.func (.func 25) _ _)) _ _ _ _); refine wcall_fn (h25) ?_ ?_ ?_; (next => simp [rfyL, rfy, hget, ints, take_rfy]); (next => simp [plainL, plain, plainR]))
      | (with_reducible (show wcallX _ false (.lit (.func (.func 25) _ _)) _ _ _ _); refine wcallX_fn (h25) ?_ ?_ ?_; (next => simp [rfyL, rfy, hget, ints, take_rfy]); (next => simp [plainL, plain, plainR]))
      | omega)
  | true =>
    rw [hf] at h25
    have hl : l.length < 1000000 := by unfold fewB at hf; simp at hf; omega
    clear hf
    have h27 := k27 nil l hl
    have hrl := rows4_len l
    by_cases hd : (if checkR zi l ≠ 0 then checkR zi l else zErr zi a b) = 0
    · have hc : checkR zi l = 0 := by
        by_cases h : checkR zi l = 0
        · exact h
        · rw [if_pos h] at hd; exact hd
      rw [if_neg (fun h => h hc)] at hd
      obtain ⟨hz, hl2, hrd⟩ := checkR_ok hc
      have hab : (0 ≤ a ∧ a ≤ zi - 1) ∧ (0 ≤ b ∧ b ≤ zi - 1) := by
        unfold zErr at hd
        split at hd
        · assumption
        · simp at hd
      have h55 := k55 zi nil l a b hl
      rw [if_neg (fun h => h hc), hd] at h55
      obtain ⟨z, rfl⟩ : ∃ z : Nat, zi = z := ⟨zi.toNat, by omega⟩
      obtain ⟨x, rfl⟩ : ∃ x : Nat, a = x := ⟨a.toNat, by omega⟩
      obtain ⟨y, rfl⟩ : ∃ y : Nat, b = y := ⟨b.toNat, by omega⟩
      by_cases hcy : ∀ r, r ≤ z → 0 ≤ (rnds (arcsL l l.length) z (r + 1)).at_
      · have h54 := k54c (nil := false) (l := l) x y hc hd hcy
        have h56 := k56c (nil := nil) (l := l) x y hc hcy
        clear hcy hrd
        repeat' (first
          | (with_reducible refine T_seq ?_)
          | (with_reducible refine T_reg ?_)
          | ((with_reducible refine T_calm ?_ ?_); rfl)
          | (with_reducible refine T_draw ?_)
          | (with_reducible refine T_skip ?_)
          | (with_reducible refine T_exit ?_)
          | (with_reducible refine T_block ?_)
          | (with_reducible (show T _ _ _ _ _ (.cond _ _ _) _ _); first | (refine T_cond_t rfl ?_) | (refine T_cond_f rfl ?_) | (refine T_cond rfl (fun hc => ?_) (fun hc => ?_) <;> have hd := hc <;> (try simp (disch := omega) only [wrapI] at hd) <;> have hs := hd <;> (try simp only [Bool.not_eq_true', Bool.not_eq_false', Bool.and_eq_true, Bool.and_eq_false_iff, Bool.or_eq_true, Bool.or_eq_false_iff, decide_eq_true_eq, decide_eq_false_iff_not, beq_iff_eq, bne_iff_ne, beq_eq_false_iff_ne, bne_eq_false_iff_eq, Bool.not_true, Bool.not_false, gt_iff_lt, ge_iff_le, Int.not_lt, Int.not_le, ne_eq, Decidable.not_not] at hd) <;> (try simp at hs)))
          | (with_reducible (show wdW _ _ _ (_ :: _) _ _ _); refine wdW_cons rfl ?_)
          | (with_reducible (show wcall _ false (.lit (.func (.func 19) _ _)) _ _ _ _); refine wcall_fn (h19) rfl (by simp [plainL]) ?_)
          | (with_reducible (show wcallX _ false (.lit (.func (.func 19) _ _)) _ _ _ _); refine wcallX_fn (h19) rfl (by simp [plainL, plain, plainR, take_rows4', flat_rows4', freeze1, renR_rows4, rows4_len]) ?_)
          | (with_reducible (show wcall _ false (.lit (.func (.func 25) _ _)) _ _ _ _); refine wcall_fn (h25) rfl (by simp [plainL, plain]) ?_)
          | (with_reducible (show wcallX _ false (.lit (.func (.func 25) _ _)) _ _ _ _); refine wcallX_fn (h25) rfl (by simp [plainL, plain, plainR, take_rows4', flat_rows4', freeze1, renR_rows4, rows4_len]) ?_)
          | (with_reducible (show wcall _ false (.lit (.func (.func 27) _ _)) _ _ _ _); refine wcall_fn (h27) rfl (by simp [plainL, plain, plainR, take_rows4', flat_rows4', freeze1, renR_rows4, rows4_len]) ?_)
          | (with_reducible (show wcallX _ false (.lit (.func (.func 27) _ _)) _ _ _ _); refine wcallX_fn (h27) rfl (by simp [plainL, plain]) ?_)
          | (with_reducible (show wcall _ false (.lit (.func (.func 54) _ _)) _ _ _ _); refine wcall_fn (h54) rfl (by simp [plainL, plain, plainR, take_rows4', flat_rows4', freeze1, renR_rows4, rows4_len]) ?_)
          | (with_reducible (show wcallX _ false (.lit (.func (.func 54) _ _)) _ _ _ _); refine wcallX_fn (h54) rfl (by simp [plainL, plain]) ?_)
          | (with_reducible (show wcall _ false (.lit (.func (.func 55) _ _)) _ _ _ _); refine wcall_fn (h55) rfl (by simp [plainL, plain]) ?_)
          | (with_reducible (show wcallX _ false (.lit (.func (.func 55) _ _)) _ _ _ _); refine wcallX_fn (h55) rfl (by simp [plainL, plain, plainR, take_rows4', flat_rows4', freeze1, renR_rows4, rows4_len]) ?_)
          | (with_reducible (show wcall _ false (.lit (.func (.func 56) _ _)) _ _ _ _); refine wcall_fn (h56) rfl (by simp [plainL, plain]) ?_)
          | (with_reducible (show wcallX _ false (.lit (.func (.func 56) _ _)) _ _ _ _); refine wcallX_fn (h56) rfl (by simp [plainL, plain, plainR, take_rows4', flat_rows4', freeze1, renR_rows4, rows4_len]) ?_)
          | (with_reducible refine wguard_split (fun hc => ?_) (fun hc => ?_) <;> have hd := hc <;> (try simp (disch := omega) only [wrapI] at hd) <;> have hs := hd <;> (try simp only [bne_iff_ne, bne_eq_false_iff_eq, Bool.not_false, ne_eq] at hd) <;> (try simp at hs))
          | (with_reducible refine wguardX_split (fun hc => ?_) (fun hc => ?_) <;> have hd := hc <;> (try simp (disch := omega) only [wrapI] at hd) <;> have hs := hd <;> (try simp only [Bool.not_eq_true', Bool.not_eq_false', Bool.and_eq_true, Bool.and_eq_false_iff, Bool.or_eq_true, Bool.or_eq_false_iff, decide_eq_true_eq, decide_eq_false_iff_not, beq_iff_eq, bne_iff_ne, beq_eq_false_iff_ne, bne_eq_false_iff_eq, Bool.not_true, Bool.not_false, gt_iff_lt, ge_iff_le, Int.not_lt, Int.not_le, ne_eq, Decidable.not_not] at hd) <;> (try simp at hs))
          | (with_reducible refine T_ret ?_)
          | (with_reducible (show leave _ _ _ _ _); first | (refine leave_of (.inr rfl) _ rfl ?_) | (refine leave_of (.inl rfl) _ rfl ?_))
          | (with_reducible (show leaveA _ _ _ _); first | (refine leaveA_of (.inr rfl) _ rfl ?_) | (refine leaveA_of (.inl rfl) _ rfl ?_))
          | (with_reducible refine wif_intro ?_ (fun hc => ?_))
          | (with_reducible refine And.intro ?_ ?_)
          | (with_reducible intro hc)
          | (simp (maxSteps := 4000000) only [wops_nil, wops_cons, wstep_none, wstep_some, wguard_ff, wrun_call, wrun_mv, wrun_pick, wrun_bin, wrun_eqAgg, wrun_not, wrun_ext, wrun_load, wrun_store, wrun_alloc, wrun_box, wrunX_mv, wrunX_ext, wrunX_load, wrunX_store, wrunX_alloc, wdW_nil, wstepX_none, wrunX_call, get_mk, wop, aop, ev, look, put_some, put_none, writes, ores_some, binV, thenK, boolV, value, cut, hget, putCells, AV.parts, isOne, toLits, mkAgg, tupOf, ofValue_int, cellsEq, cellEq, List.map_cons, List.map_nil, List.length_cons, List.length_nil, List.getElem?_cons_zero, List.getElem?_cons_succ, List.set_cons_zero, List.set_cons_succ, List.take_succ_cons, List.take_zero, List.take_nil, List.drop_succ_cons, List.drop_zero, List.drop_nil, List.cons_append, List.nil_append, List.append_nil, List.replicate_zero, List.replicate_succ, List.getD_cons_zero, List.zipIdx_cons, List.zipIdx_nil, List.all_cons, List.all_nil, Option.getD_some, Option.map_some, if_true, if_false, Nat.reduceEqDiff, Nat.reduceAdd, Nat.reduceLT, Nat.add_zero, Nat.zero_add, Nat.le_refl, Nat.zero_ne_one, reduceCtorEq, Bool.not_true, Bool.and_true, Bool.false_eq_true, eq_self, true_and, and_self, beq_self_eq_true, freeze, lidsL, lids, List.flatMap_cons, List.flatMap_nil, List.all_cons, ren, renL, renB, shiftρ, flat_rows4', freeze1, renR_rows4, *])
          | (simp (disch := omega) only [getD_ints, wrapI])
          | (with_reducible (show wcall _ false (.lit (.func (.func 19) _ _)) _ _ _ _); refine wcall_fn (h19) ?_ ?_ ?_; (next => simp [rfyL, rfy, hget, ints, take_rfy, take_rows4', flat_rows4', freeze1, renR_rows4, rows4_len]); (next => simp [plainL, plain, plainR, take_rows4', flat_rows4', freeze1, renR_rows4, rows4_len]))
          | (with_reducible (show wcallX _ false (.lit (.func (.func 19) _ _)) _ _ _ _); refine wcallX_fn (h19) ?_ ?_ ?_; (next => simp [rfyL, rfy, hget, ints, take_rfy, take_rows4', flat_rows4', freeze1, renR_rows4, rows4_len]); (next => simp [plainL, plain, plainR, take_rows4', flat_rows4', freeze1, renR_rows4, rows4_len]))
          | (with_reducible (show wcall _ false (.lit (.func (.func 25) _ _)) _ _ _ _); refine wcall_fn (h25) ?_ ?_ ?_; (next => simp [rfyL, rfy, hget, ints, take_rfy, take_rows4', flat_rows4', freeze1, renR_rows4, rows4_len]); (next => simp [plainL, plain, plainR, take_rows4', flat_rows4', freeze1, renR_rows4, rows4_len]))
          | (with_reducible (show wcallX _ false (.lit (.func (.func 25) _ _)) _ _ _ _); refine wcallX_fn (h25) ?_ ?_ ?_; (next => simp [rfyL, rfy, hget, ints, take_rfy, take_rows4', flat_rows4', freeze1, renR_rows4, rows4_len]); (next => simp [plainL, plain, plainR, take_rows4', flat_rows4', freeze1, renR_rows4, rows4_len]))
          | (with_reducible (show wcall _ false (.lit (.func (.func 27) _ _)) _ _ _ _); refine wcall_fn (h27) ?_ ?_ ?_; (next => simp [rfyL, rfy, hget, ints, take_rfy, take_rows4', flat_rows4', freeze1, renR_rows4, rows4_len]); (next => simp [plainL, plain, plainR, take_rows4', flat_rows4', freeze1, renR_rows4, rows4_len]))
          | (with_reducible (show wcallX _ false (.lit (.func (.func 27) _ _)) _ _ _ _); refine wcallX_fn (h27) ?_ ?_ ?_; (next => simp [rfyL, rfy, hget, ints, take_rfy, take_rows4', flat_rows4', freeze1, renR_rows4, rows4_len]); (next => simp [plainL, plain, plainR, take_rows4', flat_rows4', freeze1, renR_rows4, rows4_len]))
          | (with_reducible (show wcall _ false (.lit (.func (.func 54) _ _)) _ _ _ _); refine wcall_fn (h54) ?_ ?_ ?_; (next => simp [rfyL, rfy, hget, ints, take_rfy, take_rows4', flat_rows4', freeze1, renR_rows4, rows4_len]); (next => simp [plainL, plain, plainR, take_rows4', flat_rows4', freeze1, renR_rows4, rows4_len]))
          | (with_reducible (show wcallX _ false (.lit (.func (.func 54) _ _)) _ _ _ _); refine wcallX_fn (h54) ?_ ?_ ?_; (next => simp [rfyL, rfy, hget, take_rows4', rows4_len]); (next => simp [plainL, plain]))
          | (with_reducible (show wcall _ false (.lit (.func (.func 55) _ _)) _ _ _ _); refine wcall_fn (h55) ?_ ?_ ?_; (next => simp [rfyL, rfy, hget, ints, take_rfy, take_rows4', flat_rows4', freeze1, renR_rows4, rows4_len]); (next => simp [plainL, plain, plainR, take_rows4', flat_rows4', freeze1, renR_rows4, rows4_len]))
          | (with_reducible (show wcallX _ false (.lit (.func (.func 55) _ _)) _ _ _ _); refine wcallX_fn (h55) ?_ ?_ ?_; (next => simp [rfyL, rfy, hget, ints, take_rfy, take_rows4', flat_rows4', freeze1, renR_rows4, rows4_len]); (next => simp [plainL, plain, plainR, take_rows4', flat_rows4', freeze1, renR_rows4, rows4_len]))
          | (with_reducible (show wcall _ false (.lit (.func (.func 56) _ _)) _ _ _ _); refine wcall_fn (h56) ?_ ?_ ?_; (next => simp [rfyL, rfy, hget, ints, take_rfy, take_rows4', flat_rows4', freeze1, renR_rows4, rows4_len]); (next => simp [plainL, plain, plainR, take_rows4', flat_rows4', freeze1, renR_rows4, rows4_len]))
          | (with_reducible (show wcallX _ false (.lit (.func (.func 56) _ _)) _ _ _ _); refine wcallX_fn (h56) ?_ ?_ ?_; (next => simp [rfyL, rfy, hget, ints, take_rfy, take_rows4', flat_rows4', freeze1, renR_rows4, rows4_len]); (next => simp [plainL, plain, plainR, take_rows4', flat_rows4', freeze1, renR_rows4, rows4_len]))
          | (with_reducible (show wdW _ _ _ (_ :: _) _ _ _); refine wdW_cons ?_ ?_; (next => simp [chk, foot, compatB, argsOf, St.get, target, ev, look, lidsL, lids, hget, kind, wids, tops, opds, topId, flat_rows4']))
          | omega)
    
      · have hr : ∃ r, r ≤ z ∧ (rnds (arcsL l l.length) z (r + 1)).at_ < 0 := by
          rcases Classical.em (∃ r, r ≤ z ∧ (rnds (arcsL l l.length) z (r + 1)).at_ < 0) with h | h
          · exact h
          · exact (hcy fun r hr => by
              rcases Int.lt_or_le (rnds (arcsL l l.length) z (r + 1)).at_ 0 with h2 | h2
              · exact (h ⟨r, hr, h2⟩).elim
              · exact h2).elim
        obtain ⟨hA, hN, hok⟩ := arcs_ok hrd
        have hn : (arcsL l l.length).length ≤ 200 := by have := arcsL_len l l.length; omega
        obtain ⟨P, hP1, hP2⟩ := rest_bound hA hn hr (by omega)
        have hS := tab_stt hA hN (by omega) hP1 hP2
        have hback := fun h => hS.back hA (arcs_two l) (by omega) (i := x) (j := y) (by omega) (by omega) h
        have b1 := hS.bd hA (Nat.le_refl _) (by omega) (i := x) (j := y) (by omega) (by omega)
        have b2 := hS.bd hA (Nat.le_refl _) (by omega) (i := y) (j := x) (by omega) (by omega)
        have h54 := k54n (nil := false) (a := x) (b := y) hc (by omega) (by omega) hr
        have h54r := k54n (nil := false) (a := y) (b := x) hc (by omega) (by omega) hr
        have h56 := k56n (nil := nil) (a := x) (b := y) hc (by omega) (by omega) hr
        generalize tabM (arcsL l l.length) z = M at *
        have hfar : far = 1099511627776 := rfl
        by_cases hlt : mget M x y < far
        · have hlt2 := hback hlt
          rw [if_pos hlt] at h54 h56
          rw [if_pos hlt2] at h54r
          clear hr hcy hrd hA hN hok hP1 hP2 hS hback
          repeat' (first
            | (with_reducible refine T_seq ?_)
            | (with_reducible refine T_reg ?_)
            | ((with_reducible refine T_calm ?_ ?_); rfl)
            | (with_reducible refine T_draw ?_)
            | (with_reducible refine T_skip ?_)
            | (with_reducible refine T_exit ?_)
            | (with_reducible refine T_block ?_)
            | (with_reducible (show T _ _ _ _ _ (.cond _ _ _) _ _); first | (refine T_cond_t rfl ?_) | (refine T_cond_f rfl ?_) | (refine T_cond rfl (fun hc => ?_) (fun hc => ?_) <;> have hd := hc <;> (try simp (disch := omega) only [wrapI] at hd) <;> have hs := hd <;> (try simp only [Bool.not_eq_true', Bool.not_eq_false', Bool.and_eq_true, Bool.and_eq_false_iff, Bool.or_eq_true, Bool.or_eq_false_iff, decide_eq_true_eq, decide_eq_false_iff_not, beq_iff_eq, bne_iff_ne, beq_eq_false_iff_ne, bne_eq_false_iff_eq, Bool.not_true, Bool.not_false, gt_iff_lt, ge_iff_le, Int.not_lt, Int.not_le, ne_eq, Decidable.not_not] at hd) <;> (try simp at hs)))
            | (with_reducible (show wdW _ _ _ (_ :: _) _ _ _); refine wdW_cons rfl ?_)
            | (with_reducible (show wcall _ false (.lit (.func (.func 19) _ _)) _ _ _ _); refine wcall_fn (h19) rfl (by simp [plainL]) ?_)
            | (with_reducible (show wcallX _ false (.lit (.func (.func 19) _ _)) _ _ _ _); refine wcallX_fn (h19) rfl (by simp [plainL, plain, plainR, take_rows4', flat_rows4', freeze1, renR_rows4, rows4_len, e0]) ?_)
            | (with_reducible (show wcall _ false (.lit (.func (.func 25) _ _)) _ _ _ _); refine wcall_fn (h25) rfl (by simp [plainL, plain]) ?_)
            | (with_reducible (show wcallX _ false (.lit (.func (.func 25) _ _)) _ _ _ _); refine wcallX_fn (h25) rfl (by simp [plainL, plain, plainR, take_rows4', flat_rows4', freeze1, renR_rows4, rows4_len, e0]) ?_)
            | (with_reducible (show wcall _ false (.lit (.func (.func 27) _ _)) _ _ _ _); refine wcall_fn (h27) rfl (by simp [plainL, plain, plainR, take_rows4', flat_rows4', freeze1, renR_rows4, rows4_len, e0]) ?_)
            | (with_reducible (show wcallX _ false (.lit (.func (.func 27) _ _)) _ _ _ _); refine wcallX_fn (h27) rfl (by simp [plainL, plain]) ?_)
            | (with_reducible (show wcall _ false (.lit (.func (.func 54) _ _)) _ _ _ _); refine wcall_fn (h54) rfl (by simp [plainL, plain, plainR, take_rows4', flat_rows4', freeze1, renR_rows4, rows4_len, e0]) ?_)
            | (with_reducible (show wcallX _ false (.lit (.func (.func 54) _ _)) _ _ _ _); refine wcallX_fn (h54) rfl (by simp [plainL, plain]) ?_)
            | (with_reducible (show wcall _ false (.lit (.func (.func 54) _ _)) _ _ _ _); refine wcall_fn (h54r) rfl (by simp [plainL, plain, plainR, take_rows4', flat_rows4', freeze1, renR_rows4, rows4_len, e0]) ?_)
            | (with_reducible (show wcallX _ false (.lit (.func (.func 54) _ _)) _ _ _ _); refine wcallX_fn (h54r) rfl (by simp [plainL, plain]) ?_)
            | (with_reducible (show wcall _ false (.lit (.func (.func 55) _ _)) _ _ _ _); refine wcall_fn (h55) rfl (by simp [plainL, plain]) ?_)
            | (with_reducible (show wcallX _ false (.lit (.func (.func 55) _ _)) _ _ _ _); refine wcallX_fn (h55) rfl (by simp [plainL, plain, plainR, take_rows4', flat_rows4', freeze1, renR_rows4, rows4_len, e0]) ?_)
            | (with_reducible (show wcall _ false (.lit (.func (.func 56) _ _)) _ _ _ _); refine wcall_fn (h56) rfl (by simp [plainL, plain]) ?_)
            | (with_reducible (show wcallX _ false (.lit (.func (.func 56) _ _)) _ _ _ _); refine wcallX_fn (h56) rfl (by simp [plainL, plain, plainR, take_rows4', flat_rows4', freeze1, renR_rows4, rows4_len, e0]) ?_)
            | (with_reducible refine wguard_split (fun hc => ?_) (fun hc => ?_) <;> have hd := hc <;> (try simp (disch := omega) only [wrapI] at hd) <;> have hs := hd <;> (try simp only [bne_iff_ne, bne_eq_false_iff_eq, Bool.not_false, ne_eq] at hd) <;> (try simp at hs))
            | (with_reducible refine wguardX_split (fun hc => ?_) (fun hc => ?_) <;> have hd := hc <;> (try simp (disch := omega) only [wrapI] at hd) <;> have hs := hd <;> (try simp only [Bool.not_eq_true', Bool.not_eq_false', Bool.and_eq_true, Bool.and_eq_false_iff, Bool.or_eq_true, Bool.or_eq_false_iff, decide_eq_true_eq, decide_eq_false_iff_not, beq_iff_eq, bne_iff_ne, beq_eq_false_iff_ne, bne_eq_false_iff_eq, Bool.not_true, Bool.not_false, gt_iff_lt, ge_iff_le, Int.not_lt, Int.not_le, ne_eq, Decidable.not_not] at hd) <;> (try simp at hs))
            | (with_reducible refine T_ret ?_)
            | (with_reducible (show leave _ _ _ _ _); first | (refine leave_of (.inr rfl) _ rfl ?_) | (refine leave_of (.inl rfl) _ rfl ?_))
            | (with_reducible (show leaveA _ _ _ _); first | (refine leaveA_of (.inr rfl) _ rfl ?_) | (refine leaveA_of (.inl rfl) _ rfl ?_))
            | (with_reducible refine wif_intro ?_ (fun hc => ?_))
            | (with_reducible refine And.intro ?_ ?_)
            | (with_reducible intro hc)
            | (simp (maxSteps := 4000000) only [wops_nil, wops_cons, wstep_none, wstep_some, wguard_true, wguard_ff, wrun_call, wrun_mv, wrun_pick, wrun_bin, wrun_eqAgg, wrun_neg, wrun_not, wrun_ext, wrun_build, wrun_load, wrun_store, wrun_faddr, wrun_iaddrA, wrun_alloc, wrun_box, wrunX_mv, wrunX_ext, wrunX_build, wrunX_load, wrunX_store, wrunX_iaddrA, wrunX_alloc, wdW_nil, wstepX_none, wrunX_call, get_mk, wop, aop, ev, look, put_some, put_none, writes, ores_some, ores_ite_none, ores_map, wif_true, binV, thenK, boolV, value, cut, hget, fillA, putCells, AV.parts, isOne, toLits, mkAgg, tupOf, ofValue_int, cellsEq, cellEq, List.map_cons, List.map_nil, List.length_cons, List.length_nil, List.getElem?_cons_zero, List.getElem?_cons_succ, List.set_cons_zero, List.set_cons_succ, List.take_succ_cons, List.take_zero, List.take_nil, List.drop_succ_cons, List.drop_zero, List.drop_nil, List.cons_append, List.nil_append, List.append_nil, List.append_assoc, List.replicate_zero, List.replicate_succ, List.getD_cons_zero, List.zipIdx_cons, List.zipIdx_nil, List.all_cons, List.all_nil, List.length_append, Option.getD_some, Option.map_some, if_true, if_false, Nat.reduceEqDiff, Nat.reduceAdd, Nat.reduceLeDiff, Nat.reduceLT, Nat.add_zero, Nat.zero_add, Nat.mul_one, Nat.le_refl, Nat.zero_ne_one, reduceCtorEq, Bool.not_true, Bool.and_true, Bool.false_eq_true, eq_self, true_and, and_self, beq_self_eq_true, freeze, lidsL, lids, List.flatMap_cons, List.flatMap_nil, List.all_cons, ren, renL, renB, shiftρ, flat_rows4', freeze1, renR_rows4, *])
            | (simp (disch := omega) only [wrapI])
            | (with_reducible (show wcall _ false (.lit (.func (.func 19) _ _)) _ _ _ _); refine wcall_fn (h19) ?_ ?_ ?_; (next => simp [rfyL, rfy, hget, ints, take_rfy, take_rows4', flat_rows4', freeze1, renR_rows4, rows4_len, e0]); (next => simp [plainL, plain, plainR, take_rows4', flat_rows4', freeze1, renR_rows4, rows4_len, e0]))
            | (with_reducible (show wcallX _ false (.lit (.func (.func 19) _ _)) _ _ _ _); refine wcallX_fn (h19) ?_ ?_ ?_; (next => simp [rfyL, rfy, hget, ints, take_rfy, take_rows4', flat_rows4', freeze1, renR_rows4, rows4_len, e0]); (next => simp [plainL, plain, plainR, take_rows4', flat_rows4', freeze1, renR_rows4, rows4_len, e0]))
            | (with_reducible (show wcall _ false (.lit (.func (.func 25) _ _)) _ _ _ _); refine wcall_fn (h25) ?_ ?_ ?_; (next => simp [rfyL, rfy, hget, ints, take_rfy, take_rows4', flat_rows4', freeze1, renR_rows4, rows4_len, e0]); (next => simp [plainL, plain, plainR, take_rows4', flat_rows4', freeze1, renR_rows4, rows4_len, e0]))
            | (with_reducible (show wcallX _ false (.lit (.func (.func 25) _ _)) _ _ _ _); refine wcallX_fn (h25) ?_ ?_ ?_; (next => simp [rfyL, rfy, hget, ints, take_rfy, take_rows4', flat_rows4', freeze1, renR_rows4, rows4_len, e0]); (next => simp [plainL, plain, plainR, take_rows4', flat_rows4', freeze1, renR_rows4, rows4_len, e0]))
            | (with_reducible (show wcall _ false (.lit (.func (.func 27) _ _)) _ _ _ _); refine wcall_fn (h27) ?_ ?_ ?_; (next => simp [rfyL, rfy, hget, ints, take_rfy, take_rows4', flat_rows4', freeze1, renR_rows4, rows4_len, e0]); (next => simp [plainL, plain, plainR, take_rows4', flat_rows4', freeze1, renR_rows4, rows4_len, e0]))
            | (with_reducible (show wcallX _ false (.lit (.func (.func 27) _ _)) _ _ _ _); refine wcallX_fn (h27) ?_ ?_ ?_; (next => simp [rfyL, rfy, hget, ints, take_rfy, take_rows4', flat_rows4', freeze1, renR_rows4, rows4_len, e0]); (next => simp [plainL, plain, plainR, take_rows4', flat_rows4', freeze1, renR_rows4, rows4_len, e0]))
            | (with_reducible (show wcall _ false (.lit (.func (.func 54) _ _)) _ _ _ _); refine wcall_fn (h54) ?_ ?_ ?_; (next => simp [rfyL, rfy, hget, ints, take_rfy, take_rows4', flat_rows4', freeze1, renR_rows4, rows4_len, e0]); (next => simp [plainL, plain, plainR, take_rows4', flat_rows4', freeze1, renR_rows4, rows4_len, e0]))
            | (with_reducible (show wcallX _ false (.lit (.func (.func 54) _ _)) _ _ _ _); refine wcallX_fn (h54) ?_ ?_ ?_; (next => simp [rfyL, rfy, hget, take_rows4', rows4_len]); (next => simp [plainL, plain]))
            | (with_reducible (show wcall _ false (.lit (.func (.func 54) _ _)) _ _ _ _); refine wcall_fn (h54r) ?_ ?_ ?_; (next => simp [rfyL, rfy, hget, ints, take_rfy, take_rows4', flat_rows4', freeze1, renR_rows4, rows4_len, e0]); (next => simp [plainL, plain, plainR, take_rows4', flat_rows4', freeze1, renR_rows4, rows4_len, e0]))
            | (with_reducible (show wcallX _ false (.lit (.func (.func 54) _ _)) _ _ _ _); refine wcallX_fn (h54r) ?_ ?_ ?_; (next => simp [rfyL, rfy, hget, take_rows4', rows4_len]); (next => simp [plainL, plain]))
            | (with_reducible (show wcall _ false (.lit (.func (.func 55) _ _)) _ _ _ _); refine wcall_fn (h55) ?_ ?_ ?_; (next => simp [rfyL, rfy, hget, ints, take_rfy, take_rows4', flat_rows4', freeze1, renR_rows4, rows4_len, e0]); (next => simp [plainL, plain, plainR, take_rows4', flat_rows4', freeze1, renR_rows4, rows4_len, e0]))
            | (with_reducible (show wcallX _ false (.lit (.func (.func 55) _ _)) _ _ _ _); refine wcallX_fn (h55) ?_ ?_ ?_; (next => simp [rfyL, rfy, hget, ints, take_rfy, take_rows4', flat_rows4', freeze1, renR_rows4, rows4_len, e0]); (next => simp [plainL, plain, plainR, take_rows4', flat_rows4', freeze1, renR_rows4, rows4_len, e0]))
            | (with_reducible (show wcall _ false (.lit (.func (.func 56) _ _)) _ _ _ _); refine wcall_fn (h56) ?_ ?_ ?_; (next => simp [rfyL, rfy, hget, ints, take_rfy, take_rows4', flat_rows4', freeze1, renR_rows4, rows4_len, e0]); (next => simp [plainL, plain, plainR, take_rows4', flat_rows4', freeze1, renR_rows4, rows4_len, e0]))
            | (with_reducible (show wcallX _ false (.lit (.func (.func 56) _ _)) _ _ _ _); refine wcallX_fn (h56) ?_ ?_ ?_; (next => simp [rfyL, rfy, hget, ints, take_rfy, take_rows4', flat_rows4', freeze1, renR_rows4, rows4_len, e0]); (next => simp [plainL, plain, plainR, take_rows4', flat_rows4', freeze1, renR_rows4, rows4_len, e0]))
            | (with_reducible (show wdW _ _ _ (_ :: _) _ _ _); refine wdW_cons ?_ ?_; (next => simp [chk, foot, compatB, argsOf, St.get, target, ev, look, lidsL, lids, hget, kind, wids, tops, opds, topId, flat_rows4']))
            | omega)
      
        · rw [if_neg hlt] at h54 h56
          clear hr hcy hrd hA hN hok hP1 hP2 hS hback h54r
          repeat' (first
            | (with_reducible refine T_seq ?_)
            | (with_reducible refine T_reg ?_)
            | ((with_reducible refine T_calm ?_ ?_); rfl)
            | (with_reducible refine T_draw ?_)
            | (with_reducible refine T_skip ?_)
            | (with_reducible refine T_exit ?_)
            | (with_reducible refine T_block ?_)
            | (with_reducible (show T _ _ _ _ _ (.cond _ _ _) _ _); first | (refine T_cond_t rfl ?_) | (refine T_cond_f rfl ?_) | (refine T_cond rfl (fun hc => ?_) (fun hc => ?_) <;> have hd := hc <;> (try simp (disch := omega) only [wrapI] at hd) <;> have hs := hd <;> (try simp only [Bool.not_eq_true', Bool.not_eq_false', Bool.and_eq_true, Bool.and_eq_false_iff, Bool.or_eq_true, Bool.or_eq_false_iff, decide_eq_true_eq, decide_eq_false_iff_not, beq_iff_eq, bne_iff_ne, beq_eq_false_iff_ne, bne_eq_false_iff_eq, Bool.not_true, Bool.not_false, gt_iff_lt, ge_iff_le, Int.not_lt, Int.not_le, ne_eq, Decidable.not_not] at hd) <;> (try simp at hs)))
            | (with_reducible (show wdW _ _ _ (_ :: _) _ _ _); refine wdW_cons rfl ?_)
            | (with_reducible (show wcall _ false (.lit (.func (.func 19) _ _)) _ _ _ _); refine wcall_fn (h19) rfl (by simp [plainL]) ?_)
            | (with_reducible (show wcallX _ false (.lit (.func (.func 19) _ _)) _ _ _ _); refine wcallX_fn (h19) rfl (by simp [plainL, plain, plainR, take_rows4', flat_rows4', freeze1, renR_rows4, rows4_len]) ?_)
            | (with_reducible (show wcall _ false (.lit (.func (.func 25) _ _)) _ _ _ _); refine wcall_fn (h25) rfl (by simp [plainL, plain]) ?_)
            | (with_reducible (show wcallX _ false (.lit (.func (.func 25) _ _)) _ _ _ _); refine wcallX_fn (h25) rfl (by simp [plainL, plain, plainR, take_rows4', flat_rows4', freeze1, renR_rows4, rows4_len]) ?_)
            | (with_reducible (show wcall _ false (.lit (.func (.func 27) _ _)) _ _ _ _); refine wcall_fn (h27) rfl (by simp [plainL, plain, plainR, take_rows4', flat_rows4', freeze1, renR_rows4, rows4_len]) ?_)
            | (with_reducible (show wcallX _ false (.lit (.func (.func 27) _ _)) _ _ _ _); refine wcallX_fn (h27) rfl (by simp [plainL, plain]) ?_)
            | (with_reducible (show wcall _ false (.lit (.func (.func 54) _ _)) _ _ _ _); refine wcall_fn (h54) rfl (by simp [plainL, plain, plainR, take_rows4', flat_rows4', freeze1, renR_rows4, rows4_len]) ?_)
            | (with_reducible (show wcallX _ false (.lit (.func (.func 54) _ _)) _ _ _ _); refine wcallX_fn (h54) rfl (by simp [plainL, plain]) ?_)
            | (with_reducible (show wcall _ false (.lit (.func (.func 55) _ _)) _ _ _ _); refine wcall_fn (h55) rfl (by simp [plainL, plain]) ?_)
            | (with_reducible (show wcallX _ false (.lit (.func (.func 55) _ _)) _ _ _ _); refine wcallX_fn (h55) rfl (by simp [plainL, plain, plainR, take_rows4', flat_rows4', freeze1, renR_rows4, rows4_len]) ?_)
            | (with_reducible (show wcall _ false (.lit (.func (.func 56) _ _)) _ _ _ _); refine wcall_fn (h56) rfl (by simp [plainL, plain]) ?_)
            | (with_reducible (show wcallX _ false (.lit (.func (.func 56) _ _)) _ _ _ _); refine wcallX_fn (h56) rfl (by simp [plainL, plain, plainR, take_rows4', flat_rows4', freeze1, renR_rows4, rows4_len]) ?_)
            | (with_reducible refine wguard_split (fun hc => ?_) (fun hc => ?_) <;> have hd := hc <;> (try simp (disch := omega) only [wrapI] at hd) <;> have hs := hd <;> (try simp only [bne_iff_ne, bne_eq_false_iff_eq, Bool.not_false, ne_eq] at hd) <;> (try simp at hs))
            | (with_reducible refine wguardX_split (fun hc => ?_) (fun hc => ?_) <;> have hd := hc <;> (try simp (disch := omega) only [wrapI] at hd) <;> have hs := hd <;> (try simp only [Bool.not_eq_true', Bool.not_eq_false', Bool.and_eq_true, Bool.and_eq_false_iff, Bool.or_eq_true, Bool.or_eq_false_iff, decide_eq_true_eq, decide_eq_false_iff_not, beq_iff_eq, bne_iff_ne, beq_eq_false_iff_ne, bne_eq_false_iff_eq, Bool.not_true, Bool.not_false, gt_iff_lt, ge_iff_le, Int.not_lt, Int.not_le, ne_eq, Decidable.not_not] at hd) <;> (try simp at hs))
            | (with_reducible refine T_ret ?_)
            | (with_reducible (show leave _ _ _ _ _); first | (refine leave_of (.inr rfl) _ rfl ?_) | (refine leave_of (.inl rfl) _ rfl ?_))
            | (with_reducible (show leaveA _ _ _ _); first | (refine leaveA_of (.inr rfl) _ rfl ?_) | (refine leaveA_of (.inl rfl) _ rfl ?_))
            | (with_reducible refine wif_intro ?_ (fun hc => ?_))
            | (with_reducible refine And.intro ?_ ?_)
            | (with_reducible intro hc)
            | (simp (maxSteps := 4000000) only [wops_nil, wops_cons, wstep_none, wstep_some, wguard_ff, wrun_call, wrun_mv, wrun_pick, wrun_bin, wrun_eqAgg, wrun_not, wrun_ext, wrun_load, wrun_store, wrun_alloc, wrun_box, wrunX_mv, wrunX_ext, wrunX_load, wrunX_store, wrunX_alloc, wdW_nil, wstepX_none, wrunX_call, get_mk, wop, aop, ev, look, put_some, put_none, writes, ores_some, binV, thenK, boolV, value, cut, hget, putCells, AV.parts, isOne, toLits, mkAgg, tupOf, ofValue_int, cellsEq, cellEq, List.map_cons, List.map_nil, List.length_cons, List.length_nil, List.getElem?_cons_zero, List.getElem?_cons_succ, List.set_cons_zero, List.set_cons_succ, List.take_succ_cons, List.take_zero, List.take_nil, List.drop_succ_cons, List.drop_zero, List.drop_nil, List.cons_append, List.nil_append, List.append_nil, List.replicate_zero, List.replicate_succ, List.getD_cons_zero, List.zipIdx_cons, List.zipIdx_nil, List.all_cons, List.all_nil, Option.getD_some, Option.map_some, if_true, if_false, Nat.reduceEqDiff, Nat.reduceAdd, Nat.reduceLT, Nat.add_zero, Nat.zero_add, Nat.le_refl, Nat.zero_ne_one, reduceCtorEq, Bool.not_true, Bool.and_true, Bool.false_eq_true, eq_self, true_and, and_self, beq_self_eq_true, freeze, lidsL, lids, List.flatMap_cons, List.flatMap_nil, List.all_cons, ren, renL, renB, shiftρ, flat_rows4', freeze1, renR_rows4, *])
            | (simp (disch := omega) only [getD_ints, wrapI])
            | (with_reducible (show wcall _ false (.lit (.func (.func 19) _ _)) _ _ _ _); refine wcall_fn (h19) ?_ ?_ ?_; (next => simp [rfyL, rfy, hget, ints, take_rfy, take_rows4', flat_rows4', freeze1, renR_rows4, rows4_len]); (next => simp [plainL, plain, plainR, take_rows4', flat_rows4', freeze1, renR_rows4, rows4_len]))
            | (with_reducible (show wcallX _ false (.lit (.func (.func 19) _ _)) _ _ _ _); refine wcallX_fn (h19) ?_ ?_ ?_; (next => simp [rfyL, rfy, hget, ints, take_rfy, take_rows4', flat_rows4', freeze1, renR_rows4, rows4_len]); (next => simp [plainL, plain, plainR, take_rows4', flat_rows4', freeze1, renR_rows4, rows4_len]))
            | (with_reducible (show wcall _ false (.lit (.func (.func 25) _ _)) _ _ _ _); refine wcall_fn (h25) ?_ ?_ ?_; (next => simp [rfyL, rfy, hget, ints, take_rfy, take_rows4', flat_rows4', freeze1, renR_rows4, rows4_len]); (next => simp [plainL, plain, plainR, take_rows4', flat_rows4', freeze1, renR_rows4, rows4_len]))
            | (with_reducible (show wcallX _ false (.lit (.func (.func 25) _ _)) _ _ _ _); refine wcallX_fn (h25) ?_ ?_ ?_; (next => simp [rfyL, rfy, hget, ints, take_rfy, take_rows4', flat_rows4', freeze1, renR_rows4, rows4_len]); (next => simp [plainL, plain, plainR, take_rows4', flat_rows4', freeze1, renR_rows4, rows4_len]))
            | (with_reducible (show wcall _ false (.lit (.func (.func 27) _ _)) _ _ _ _); refine wcall_fn (h27) ?_ ?_ ?_; (next => simp [rfyL, rfy, hget, ints, take_rfy, take_rows4', flat_rows4', freeze1, renR_rows4, rows4_len]); (next => simp [plainL, plain, plainR, take_rows4', flat_rows4', freeze1, renR_rows4, rows4_len]))
            | (with_reducible (show wcallX _ false (.lit (.func (.func 27) _ _)) _ _ _ _); refine wcallX_fn (h27) ?_ ?_ ?_; (next => simp [rfyL, rfy, hget, ints, take_rfy, take_rows4', flat_rows4', freeze1, renR_rows4, rows4_len]); (next => simp [plainL, plain, plainR, take_rows4', flat_rows4', freeze1, renR_rows4, rows4_len]))
            | (with_reducible (show wcall _ false (.lit (.func (.func 54) _ _)) _ _ _ _); refine wcall_fn (h54) ?_ ?_ ?_; (next => simp [rfyL, rfy, hget, ints, take_rfy, take_rows4', flat_rows4', freeze1, renR_rows4, rows4_len]); (next => simp [plainL, plain, plainR, take_rows4', flat_rows4', freeze1, renR_rows4, rows4_len]))
            | (with_reducible (show wcallX _ false (.lit (.func (.func 54) _ _)) _ _ _ _); refine wcallX_fn (h54) ?_ ?_ ?_; (next => simp [rfyL, rfy, hget, take_rows4', rows4_len]); (next => simp [plainL, plain]))
            | (with_reducible (show wcall _ false (.lit (.func (.func 55) _ _)) _ _ _ _); refine wcall_fn (h55) ?_ ?_ ?_; (next => simp [rfyL, rfy, hget, ints, take_rfy, take_rows4', flat_rows4', freeze1, renR_rows4, rows4_len]); (next => simp [plainL, plain, plainR, take_rows4', flat_rows4', freeze1, renR_rows4, rows4_len]))
            | (with_reducible (show wcallX _ false (.lit (.func (.func 55) _ _)) _ _ _ _); refine wcallX_fn (h55) ?_ ?_ ?_; (next => simp [rfyL, rfy, hget, ints, take_rfy, take_rows4', flat_rows4', freeze1, renR_rows4, rows4_len]); (next => simp [plainL, plain, plainR, take_rows4', flat_rows4', freeze1, renR_rows4, rows4_len]))
            | (with_reducible (show wcall _ false (.lit (.func (.func 56) _ _)) _ _ _ _); refine wcall_fn (h56) ?_ ?_ ?_; (next => simp [rfyL, rfy, hget, ints, take_rfy, take_rows4', flat_rows4', freeze1, renR_rows4, rows4_len]); (next => simp [plainL, plain, plainR, take_rows4', flat_rows4', freeze1, renR_rows4, rows4_len]))
            | (with_reducible (show wcallX _ false (.lit (.func (.func 56) _ _)) _ _ _ _); refine wcallX_fn (h56) ?_ ?_ ?_; (next => simp [rfyL, rfy, hget, ints, take_rfy, take_rows4', flat_rows4', freeze1, renR_rows4, rows4_len]); (next => simp [plainL, plain, plainR, take_rows4', flat_rows4', freeze1, renR_rows4, rows4_len]))
            | (with_reducible (show wdW _ _ _ (_ :: _) _ _ _); refine wdW_cons ?_ ?_; (next => simp [chk, foot, compatB, argsOf, St.get, target, ev, look, lidsL, lids, hget, kind, wids, tops, opds, topId, flat_rows4']))
            | omega)
      
    · have h54 := k54e (nil := false) a b hl hd
      have h55 := k55 zi nil l a b hl
      generalize (if checkR zi l ≠ 0 then checkR zi l else zErr zi a b) = d at *
      have hd0 : (d == 0) = false := by simp only [beq_eq_false_iff_ne]; exact hd
      have hd1 : (d != 0) = true := by simp only [bne_iff_ne]; exact hd
      repeat' (first
        | (with_reducible refine T_seq ?_)
        | (with_reducible refine T_reg ?_)
        | ((with_reducible refine T_calm ?_ ?_); rfl)
        | (with_reducible refine T_draw ?_)
        | (with_reducible refine T_skip ?_)
        | (with_reducible refine T_exit ?_)
        | (with_reducible refine T_block ?_)
        | (with_reducible (show T _ _ _ _ _ (.cond _ _ _) _ _); first | (refine T_cond_t rfl ?_) | (refine T_cond_f rfl ?_) | (refine T_cond rfl (fun hc => ?_) (fun hc => ?_) <;> have hd := hc <;> (try simp (disch := omega) only [wrapI] at hd) <;> have hs := hd <;> (try simp only [Bool.not_eq_true', Bool.not_eq_false', Bool.and_eq_true, Bool.and_eq_false_iff, Bool.or_eq_true, Bool.or_eq_false_iff, decide_eq_true_eq, decide_eq_false_iff_not, beq_iff_eq, bne_iff_ne, beq_eq_false_iff_ne, bne_eq_false_iff_eq, Bool.not_true, Bool.not_false, gt_iff_lt, ge_iff_le, Int.not_lt, Int.not_le, ne_eq, Decidable.not_not] at hd) <;> (try simp at hs)))
        | (with_reducible (show wdW _ _ _ (_ :: _) _ _ _); refine wdW_cons rfl ?_)
        | (with_reducible (show wcall _ false (.lit (.func (.func 19) _ _)) _ _ _ _); refine wcall_fn (h19) rfl (by simp [plainL]) ?_)
        | (with_reducible (show wcallX _ false (.lit (.func (.func 19) _ _)) _ _ _ _); refine wcallX_fn (h19) rfl (by simp [plainL, plain, plainR, take_rows4', flat_rows4', freeze1, renR_rows4, rows4_len]) ?_)
        | (with_reducible (show wcall _ false (.lit (.func (.func 25) _ _)) _ _ _ _); refine wcall_fn (h25) rfl (by simp [plainL, plain]) ?_)
        | (with_reducible (show wcallX _ false (.lit (.func (.func 25) _ _)) _ _ _ _); refine wcallX_fn (h25) rfl (by simp [plainL, plain, plainR, take_rows4', flat_rows4', freeze1, renR_rows4, rows4_len]) ?_)
        | (with_reducible (show wcall _ false (.lit (.func (.func 27) _ _)) _ _ _ _); refine wcall_fn (h27) rfl (by simp [plainL, plain, plainR, take_rows4', flat_rows4', freeze1, renR_rows4, rows4_len]) ?_)
        | (with_reducible (show wcallX _ false (.lit (.func (.func 27) _ _)) _ _ _ _); refine wcallX_fn (h27) rfl (by simp [plainL, plain]) ?_)
        | (with_reducible (show wcall _ false (.lit (.func (.func 54) _ _)) _ _ _ _); refine wcall_fn (h54) rfl (by simp [plainL, plain, plainR, take_rows4', flat_rows4', freeze1, renR_rows4, rows4_len]) ?_)
        | (with_reducible (show wcallX _ false (.lit (.func (.func 54) _ _)) _ _ _ _); refine wcallX_fn (h54) rfl (by simp [plainL, plain]) ?_)
        | (with_reducible (show wcall _ false (.lit (.func (.func 55) _ _)) _ _ _ _); refine wcall_fn (h55) rfl (by simp [plainL, plain]) ?_)
        | (with_reducible (show wcallX _ false (.lit (.func (.func 55) _ _)) _ _ _ _); refine wcallX_fn (h55) rfl (by simp [plainL, plain, plainR, take_rows4', flat_rows4', freeze1, renR_rows4, rows4_len]) ?_)
        | (with_reducible refine wguard_split (fun hc => ?_) (fun hc => ?_) <;> have hd := hc <;> (try simp (disch := omega) only [wrapI] at hd) <;> have hs := hd <;> (try simp only [bne_iff_ne, bne_eq_false_iff_eq, Bool.not_false, ne_eq] at hd) <;> (try simp at hs))
        | (with_reducible refine wguardX_split (fun hc => ?_) (fun hc => ?_) <;> have hd := hc <;> (try simp (disch := omega) only [wrapI] at hd) <;> have hs := hd <;> (try simp only [Bool.not_eq_true', Bool.not_eq_false', Bool.and_eq_true, Bool.and_eq_false_iff, Bool.or_eq_true, Bool.or_eq_false_iff, decide_eq_true_eq, decide_eq_false_iff_not, beq_iff_eq, bne_iff_ne, beq_eq_false_iff_ne, bne_eq_false_iff_eq, Bool.not_true, Bool.not_false, gt_iff_lt, ge_iff_le, Int.not_lt, Int.not_le, ne_eq, Decidable.not_not] at hd) <;> (try simp at hs))
        | (with_reducible refine T_ret ?_)
        | (with_reducible (show leave _ _ _ _ _); first | (refine leave_of (.inr rfl) _ rfl ?_) | (refine leave_of (.inl rfl) _ rfl ?_))
        | (with_reducible (show leaveA _ _ _ _); first | (refine leaveA_of (.inr rfl) _ rfl ?_) | (refine leaveA_of (.inl rfl) _ rfl ?_))
        | (with_reducible refine wif_intro ?_ (fun hc => ?_))
        | (with_reducible refine And.intro ?_ ?_)
        | (with_reducible intro hc)
        | (simp (maxSteps := 4000000) only [wops_nil, wops_cons, wstep_none, wstep_some, wguard_ff, wrun_call, wrun_mv, wrun_pick, wrun_bin, wrun_eqAgg, wrun_not, wrun_ext, wrun_load, wrun_store, wrun_alloc, wrun_box, wrunX_mv, wrunX_ext, wrunX_load, wrunX_store, wrunX_alloc, wdW_nil, wstepX_none, wrunX_call, get_mk, wop, aop, ev, look, put_some, put_none, writes, ores_some, binV, thenK, boolV, value, cut, hget, putCells, AV.parts, isOne, toLits, mkAgg, tupOf, ofValue_int, cellsEq, cellEq, List.map_cons, List.map_nil, List.length_cons, List.length_nil, List.getElem?_cons_zero, List.getElem?_cons_succ, List.set_cons_zero, List.set_cons_succ, List.take_succ_cons, List.take_zero, List.take_nil, List.drop_succ_cons, List.drop_zero, List.drop_nil, List.cons_append, List.nil_append, List.append_nil, List.replicate_zero, List.replicate_succ, List.getD_cons_zero, List.zipIdx_cons, List.zipIdx_nil, List.all_cons, List.all_nil, Option.getD_some, Option.map_some, if_true, if_false, Nat.reduceEqDiff, Nat.reduceAdd, Nat.reduceLT, Nat.add_zero, Nat.zero_add, Nat.le_refl, Nat.zero_ne_one, reduceCtorEq, Bool.not_true, Bool.and_true, Bool.false_eq_true, eq_self, true_and, and_self, beq_self_eq_true, freeze, lidsL, lids, List.flatMap_cons, List.flatMap_nil, List.all_cons, ren, renL, renB, shiftρ, flat_rows4', freeze1, renR_rows4, *])
        | (simp (disch := omega) only [getD_ints, wrapI])
        | (with_reducible (show wcall _ false (.lit (.func (.func 19) _ _)) _ _ _ _); refine wcall_fn (h19) ?_ ?_ ?_; (next => simp [rfyL, rfy, hget, ints, take_rfy, take_rows4', flat_rows4', freeze1, renR_rows4, rows4_len]); (next => simp [plainL, plain, plainR, take_rows4', flat_rows4', freeze1, renR_rows4, rows4_len]))
        | (with_reducible (show wcallX _ false (.lit (.func (.func 19) _ _)) _ _ _ _); refine wcallX_fn (h19) ?_ ?_ ?_; (next => simp [rfyL, rfy, hget, ints, take_rfy, take_rows4', flat_rows4', freeze1, renR_rows4, rows4_len]); (next => simp [plainL, plain, plainR, take_rows4', flat_rows4', freeze1, renR_rows4, rows4_len]))
        | (with_reducible (show wcall _ false (.lit (.func (.func 25) _ _)) _ _ _ _); refine wcall_fn (h25) ?_ ?_ ?_; (next => simp [rfyL, rfy, hget, ints, take_rfy, take_rows4', flat_rows4', freeze1, renR_rows4, rows4_len]); (next => simp [plainL, plain, plainR, take_rows4', flat_rows4', freeze1, renR_rows4, rows4_len]))
        | (with_reducible (show wcallX _ false (.lit (.func (.func 25) _ _)) _ _ _ _); refine wcallX_fn (h25) ?_ ?_ ?_; (next => simp [rfyL, rfy, hget, ints, take_rfy, take_rows4', flat_rows4', freeze1, renR_rows4, rows4_len]); (next => simp [plainL, plain, plainR, take_rows4', flat_rows4', freeze1, renR_rows4, rows4_len]))
        | (with_reducible (show wcall _ false (.lit (.func (.func 27) _ _)) _ _ _ _); refine wcall_fn (h27) ?_ ?_ ?_; (next => simp [rfyL, rfy, hget, ints, take_rfy, take_rows4', flat_rows4', freeze1, renR_rows4, rows4_len]); (next => simp [plainL, plain, plainR, take_rows4', flat_rows4', freeze1, renR_rows4, rows4_len]))
        | (with_reducible (show wcallX _ false (.lit (.func (.func 27) _ _)) _ _ _ _); refine wcallX_fn (h27) ?_ ?_ ?_; (next => simp [rfyL, rfy, hget, ints, take_rfy, take_rows4', flat_rows4', freeze1, renR_rows4, rows4_len]); (next => simp [plainL, plain, plainR, take_rows4', flat_rows4', freeze1, renR_rows4, rows4_len]))
        | (with_reducible (show wcall _ false (.lit (.func (.func 54) _ _)) _ _ _ _); refine wcall_fn (h54) ?_ ?_ ?_; (next => simp [rfyL, rfy, hget, ints, take_rfy, take_rows4', flat_rows4', freeze1, renR_rows4, rows4_len]); (next => simp [plainL, plain, plainR, take_rows4', flat_rows4', freeze1, renR_rows4, rows4_len]))
        | (with_reducible (show wcallX _ false (.lit (.func (.func 54) _ _)) _ _ _ _); refine wcallX_fn (h54) ?_ ?_ ?_; (next => simp [rfyL, rfy, hget, take_rows4', rows4_len]); (next => simp [plainL, plain]))
        | (with_reducible (show wcall _ false (.lit (.func (.func 55) _ _)) _ _ _ _); refine wcall_fn (h55) ?_ ?_ ?_; (next => simp [rfyL, rfy, hget, ints, take_rfy, take_rows4', flat_rows4', freeze1, renR_rows4, rows4_len]); (next => simp [plainL, plain, plainR, take_rows4', flat_rows4', freeze1, renR_rows4, rows4_len]))
        | (with_reducible (show wcallX _ false (.lit (.func (.func 55) _ _)) _ _ _ _); refine wcallX_fn (h55) ?_ ?_ ?_; (next => simp [rfyL, rfy, hget, ints, take_rfy, take_rows4', flat_rows4', freeze1, renR_rows4, rows4_len]); (next => simp [plainL, plain, plainR, take_rows4', flat_rows4', freeze1, renR_rows4, rows4_len]))
        | (with_reducible (show wdW _ _ _ (_ :: _) _ _ _); refine wdW_cons ?_ ?_; (next => simp [chk, foot, compatB, argsOf, St.get, target, ev, look, lidsL, lids, hget, kind, wids, tops, opds, topId, flat_rows4']))
        | omega)
  
end Go.Abs
