import Derived.Test.YtodheeifecoebaaK343x
set_option linter.all false
set_option linter.unusedVariables false
set_option linter.unusedSimpArgs false
set_option linter.unusedSectionVars false
namespace Go.Abs
open Go.Proofs
/-! ProfileNeedless: the same enclosure -/
theorem renR_er (ρ : Nat → Option Nat) (E : List (Int × Int)) : renR ρ (erows E) = erows E := renR_plain ρ _ (plainR_map _ (fun _ => rfl) E)
theorem plainR_er (E : List (Int × Int)) : plainR (erows E) = true := plainR_map _ (fun _ => rfl) E
theorem mpE (h : Nat → Blk) (E : List (Int × Int)) : List.map (fun r => List.map (rfy h 5) r) (erows E) = erows E := by
  simp only [erows, List.map_map]; exact List.map_congr_left fun x _ => rfl
set_option maxHeartbeats 8000000 in
theorem k15D {z : Nat} {nil : Bool} {l L : List Rd} (h : NC z l) (hL0 : NC z L) (he : tb z L = tb z l) (K : Exit → St → Prop) (hK : ∀ τ : St, τ.get 4 = bl true → K .ret τ) : T none Try.prog muts 103 0 c15r3 (S15D z nil l L) K := by
  obtain ⟨hz, hl, hrd⟩ := checkR_ok h.1
  have h27 := k27 nil l (by omega)
  have hrl := rows4_len l
  have hrL := rows4_len L
  have hw : whole z L = whole z l := by unfold whole; rw [he]
  have ka := h.k31 (nil := false)
  have kb := hL0.k31v
  rw [hw, he] at kb
  have hE := enc_len (tb z l) z
  have h50 : Fn Try.prog 50 [.sl false 2 (erows (enc (tb z l) z)), .sl false 2 (erows (enc (tb z l) z))] (bl true) [] := k50 false false (enc (tb z l) z) (by omega)
  replace hK := PLift.up hK
  generalize enc (tb z l) z = E at *
  have hel := erows_len E
  cases hwl : whole z l with
  | true =>
    have h31a := ka.1 hwl
    have h31b := kb.1 hwl
    have h50z := k50z
    clear ka kb h hL0 he hw hwl h50 hrd
    unfold lfV at h31b
    by_cases hL : L = []
    · simp only [if_pos hL] at h31b
      simp only [S15D, leV, leB, if_pos hL]
      unfold c15r3
      repeat' (first | (with_reducible first | refine T_seq ?_ | refine T_reg ?_ | refine T_skip ?_ | refine T_exit ?_ | refine T_block ?_ | refine T_cond_t rfl ?_ | refine T_cond_f rfl ?_ | (show wcall _ false (.lit (.func (.func 27) _ _)) _ _ _ _; refine wcall_fn (h27) rfl (by simp [plainL, plain, plainR_rows4]) ?_) | (show wcall _ false (.lit (.func (.func 31) _ _)) _ _ _ _; refine wcall_fn (h31a) rfl (by simp [plainL, plain, plainR_rows4]) ?_) | (show wcall _ false (.lit (.func (.func 31) _ _)) _ _ _ _; refine wcall_fn (h31b) rfl (by simp [plainL, plain, plainR]) ?_) | (show wcall _ false (.lit (.func (.func 50) _ _)) _ _ _ _; refine wcall_fn (h50z) rfl (by simp [plainL, plain, plainR]) ?_) | refine T_ret ?_ | refine leave_of (.inr rfl) _ rfl ?_ | refine leave_of (.inl rfl) _ rfl ?_ | refine leaveA_of (.inr rfl) _ rfl ?_ | refine leaveA_of (.inl rfl) _ rfl ?_ | refine wif_intro ?_ (fun hc => ?_) | refine And.intro ?_ ?_ | intro hc) | simp (maxSteps := 4000000) only [wops_nil, wops_cons, wstep_none, wstep_some, wguard_true, wrun_call, wrun_mv, wrun_pick, wrun_bin, wrun_ext, wop, aop, ev, look, put_some, writes, ores_some, binV, thenK, hget, List.map_cons, List.map_nil, List.length_cons, List.length_nil, List.getElem?_cons_zero, List.getElem?_cons_succ, List.drop_zero, List.nil_append, List.append_nil, List.replicate_zero, Option.getD_some, Option.map_some, if_true, if_false, Nat.reduceEqDiff, Nat.add_zero, Nat.zero_add, Nat.zero_ne_one, reduceCtorEq, eq_self, beq_self_eq_true, freeze, lidsL, lids, List.flatMap_cons, List.flatMap_nil, ren, renL, renR, renB, shiftρ, renR_rows4, flat_rows4', fz0, *] | simp (disch := omega) only [getD_ints, wrapI] | (with_reducible show wcall _ false (.lit (.func (.func 27) _ _)) _ _ _ _; refine wcall_fn (h27) ?_ ?_ ?_; (next => simp [rfyL, rfy, hget, ints, take_rfy, renR_rows4, plainR_rows4, take_rows4', flat_rows4', rows4_len, fz0]); (next => simp [plainL, plain, plainR, renR_rows4, plainR_rows4, take_rows4', flat_rows4', rows4_len, fz0])) | (with_reducible show wcall _ false (.lit (.func (.func 31) _ _)) _ _ _ _; refine wcall_fn (h31a) ?_ ?_ ?_; (next => simp [rfyL, rfy, hget, take_rows4', rows4_len]); (next => simp [plainL, plain, plainR_rows4])) | (with_reducible show wcall _ false (.lit (.func (.func 31) _ _)) _ _ _ _; refine wcall_fn (h31b) ?_ ?_ ?_; (next => simp [rfyL, rfy, hget, ints, take_rfy, renR_rows4, plainR_rows4, take_rows4', flat_rows4', rows4_len, fz0]); (next => simp [plainL, plain, plainR, renR_rows4, plainR_rows4, take_rows4', flat_rows4', rows4_len, fz0])) | (with_reducible show wcall _ false (.lit (.func (.func 50) _ _)) _ _ _ _; refine wcall_fn (h50z) ?_ ?_ ?_; (next => simp [rfyL, rfy, hget, ints, take_rfy, renR_rows4, plainR_rows4, take_rows4', flat_rows4', rows4_len, fz0]); (next => simp [plainL, plain, plainR, renR_rows4, plainR_rows4, take_rows4', flat_rows4', rows4_len, fz0])) | omega)
      all_goals first | exact hK.down _ rfl
    · simp only [if_neg hL] at h31b
      simp only [S15D, leV, leB, if_neg hL]
      unfold c15r3
      repeat' (first | (with_reducible first | refine T_seq ?_ | refine T_reg ?_ | refine T_skip ?_ | refine T_exit ?_ | refine T_block ?_ | refine T_cond_t rfl ?_ | refine T_cond_f rfl ?_ | (show wcall _ false (.lit (.func (.func 27) _ _)) _ _ _ _; refine wcall_fn (h27) rfl (by simp [plainL, plain, plainR_rows4]) ?_) | (show wcall _ false (.lit (.func (.func 31) _ _)) _ _ _ _; refine wcall_fn (h31a) rfl (by simp [plainL, plain, plainR_rows4]) ?_) | (show wcall _ false (.lit (.func (.func 31) _ _)) _ _ _ _; refine wcall_fn (h31b) rfl (by simp [plainL, plain, plainR_rows4]) ?_) | (show wcall _ false (.lit (.func (.func 50) _ _)) _ _ _ _; refine wcall_fn (h50z) rfl (by simp [plainL, plain, plainR]) ?_) | refine T_ret ?_ | refine leave_of (.inr rfl) _ rfl ?_ | refine leave_of (.inl rfl) _ rfl ?_ | refine leaveA_of (.inr rfl) _ rfl ?_ | refine leaveA_of (.inl rfl) _ rfl ?_ | refine wif_intro ?_ (fun hc => ?_) | refine And.intro ?_ ?_ | intro hc) | simp (maxSteps := 4000000) only [wops_nil, wops_cons, wstep_none, wstep_some, wguard_true, wrun_call, wrun_mv, wrun_pick, wrun_bin, wrun_ext, wop, aop, ev, look, put_some, writes, ores_some, binV, thenK, hget, List.map_cons, List.map_nil, List.length_cons, List.length_nil, List.getElem?_cons_zero, List.getElem?_cons_succ, List.drop_zero, List.cons_append, List.nil_append, List.append_nil, List.replicate_zero, Option.getD_some, Option.map_some, if_true, if_false, Nat.reduceEqDiff, Nat.reduceAdd, Nat.zero_add, Nat.zero_ne_one, reduceCtorEq, eq_self, beq_self_eq_true, freeze, lidsL, lids, List.flatMap_cons, List.flatMap_nil, ren, renL, renR, renB, shiftρ, renR_rows4, flat_rows4', fz0, fz1, *] | simp (disch := omega) only [getD_ints, wrapI] | (with_reducible show wcall _ false (.lit (.func (.func 27) _ _)) _ _ _ _; refine wcall_fn (h27) ?_ ?_ ?_; (next => simp [rfyL, rfy, hget, ints, take_rfy, renR_rows4, plainR_rows4, take_rows4', flat_rows4', rows4_len, fz0, fz1]); (next => simp [plainL, plain, plainR, renR_rows4, plainR_rows4, take_rows4', flat_rows4', rows4_len, fz0, fz1])) | (with_reducible show wcall _ false (.lit (.func (.func 31) _ _)) _ _ _ _; refine wcall_fn (h31a) ?_ ?_ ?_; (next => simp [rfyL, rfy, hget, take_rows4', rows4_len]); (next => simp [plainL, plain, plainR_rows4])) | (with_reducible show wcall _ false (.lit (.func (.func 31) _ _)) _ _ _ _; refine wcall_fn (h31b) ?_ ?_ ?_; (next => simp [rfyL, rfy, hget, take_rows4', rows4_len]); (next => simp [plainL, plain, plainR_rows4])) | (with_reducible show wcall _ false (.lit (.func (.func 50) _ _)) _ _ _ _; refine wcall_fn (h50z) ?_ ?_ ?_; (next => simp [rfyL, rfy, hget, ints, take_rfy, renR_rows4, plainR_rows4, take_rows4', flat_rows4', rows4_len, fz0, fz1]); (next => simp [plainL, plain, plainR, renR_rows4, plainR_rows4, take_rows4', flat_rows4', rows4_len, fz0, fz1])) | omega)
      all_goals first | exact hK.down _ rfl
  | false =>
    have h31a := ka.2 hwl
    have h31b := kb.2 hwl
    clear ka kb h hL0 he hw hwl hrd
    unfold lfV at h31b
    by_cases hL : L = []
    · simp only [if_pos hL] at h31b
      simp only [S15D, leV, leB, if_pos hL]
      unfold c15r3
      repeat' (first | (with_reducible first | refine T_seq ?_ | refine T_reg ?_ | refine T_skip ?_ | refine T_exit ?_ | refine T_block ?_ | refine T_cond_t rfl ?_ | refine T_cond_f rfl ?_ | (show wcall _ false (.lit (.func (.func 27) _ _)) _ _ _ _; refine wcall_fn (h27) rfl (by simp [plainL, plain, plainR_rows4]) ?_) | (show wcall _ false (.lit (.func (.func 31) _ _)) _ _ _ _; refine wcall_fn (h31a) rfl (by simp [plainL, plain, plainR_rows4]) ?_) | (show wcall _ false (.lit (.func (.func 31) _ _)) _ _ _ _; refine wcall_fn (h31b) rfl (by simp [plainL, plain, plainR]) ?_) | refine T_ret ?_ | refine leave_of (.inr rfl) _ rfl ?_ | refine leave_of (.inl rfl) _ rfl ?_ | refine leaveA_of (.inr rfl) _ rfl ?_ | refine leaveA_of (.inl rfl) _ rfl ?_ | refine wif_intro ?_ (fun hc => ?_) | refine And.intro ?_ ?_ | intro hc) | simp (maxSteps := 4000000) only [wops_nil, wops_cons, wstep_none, wstep_some, wguard_true, wrun_call, wrun_mv, wrun_bin, wrun_ext, wop, aop, ev, look, put_some, writes, ores_some, binV, thenK, hget, List.map_cons, List.map_nil, List.length_cons, List.length_nil, List.getElem?_cons_zero, List.getElem?_cons_succ, List.drop_zero, List.cons_append, List.nil_append, List.append_nil, List.replicate_zero, Option.getD_some, Option.map_some, if_true, if_false, Nat.reduceEqDiff, Nat.reduceAdd, Nat.add_zero, Nat.zero_add, Nat.zero_ne_one, reduceCtorEq, eq_self, beq_self_eq_true, freeze, lidsL, lids, List.flatMap_cons, List.flatMap_nil, ren, renL, renR, renB, shiftρ, renR_rows4, flat_rows4', fz0, renR_er, *] | simp (disch := omega) only [getD_ints, wrapI] | (with_reducible show wcall _ false (.lit (.func (.func 27) _ _)) _ _ _ _; refine wcall_fn (h27) ?_ ?_ ?_; (next => simp [rfyL, rfy, hget, ints, take_rfy, renR_rows4, plainR_rows4, take_rows4', flat_rows4', rows4_len, fz0, renR_er]); (next => simp [plainL, plain, plainR, renR_rows4, plainR_rows4, take_rows4', flat_rows4', rows4_len, fz0, renR_er])) | (with_reducible show wcall _ false (.lit (.func (.func 31) _ _)) _ _ _ _; refine wcall_fn (h31a) ?_ ?_ ?_; (next => simp [rfyL, rfy, hget, take_rows4', rows4_len]); (next => simp [plainL, plain, plainR_rows4])) | (with_reducible show wcall _ false (.lit (.func (.func 31) _ _)) _ _ _ _; refine wcall_fn (h31b) ?_ ?_ ?_; (next => simp [rfyL, rfy, hget, ints, take_rfy, renR_rows4, plainR_rows4, take_rows4', flat_rows4', rows4_len, fz0, renR_er]); (next => simp [plainL, plain, plainR, renR_rows4, plainR_rows4, take_rows4', flat_rows4', rows4_len, fz0, renR_er])) | omega)
      refine wcall_fn h50 ?_ ?_ ?_
      · simp [rfyL, rfy, hget, mpE, hel, hE]
        exact List.take_of_length_le (by omega)
      · simp [plainL, plain, plainR_er]
      repeat' (first | (with_reducible first | refine T_seq ?_ | refine T_reg ?_ | refine T_skip ?_ | refine T_exit ?_ | refine T_block ?_ | refine T_cond_t rfl ?_ | refine T_cond_f rfl ?_ | refine T_ret ?_ | refine leave_of (.inr rfl) _ rfl ?_ | refine leave_of (.inl rfl) _ rfl ?_ | refine leaveA_of (.inr rfl) _ rfl ?_ | refine leaveA_of (.inl rfl) _ rfl ?_ | refine wif_intro ?_ (fun hc => ?_) | refine And.intro ?_ ?_ | intro hc) | simp (maxSteps := 4000000) only [wops_nil, wops_cons, wstep_none, wrun_mv, wrun_pick, wop, aop, ev, look, put_some, writes, ores_some, thenK, hget, List.map_nil, List.length_cons, List.length_nil, List.getElem?_cons_zero, List.getElem?_cons_succ, List.drop_zero, List.cons_append, List.append_nil, Option.getD_some, if_true, if_false, Nat.reduceEqDiff, Nat.reduceAdd, Nat.zero_add, reduceCtorEq, eq_self, freeze, lidsL, lids, List.flatMap_cons, List.flatMap_nil, ren, *] | simp (disch := omega) only [getD_ints, wrapI] | omega)
      all_goals first | exact hK.down _ rfl
    · simp only [if_neg hL] at h31b
      simp only [S15D, leV, leB, if_neg hL]
      unfold c15r3
      repeat' (first | (with_reducible first | refine T_seq ?_ | refine T_reg ?_ | refine T_skip ?_ | refine T_exit ?_ | refine T_block ?_ | refine T_cond_t rfl ?_ | refine T_cond_f rfl ?_ | (show wcall _ false (.lit (.func (.func 27) _ _)) _ _ _ _; refine wcall_fn (h27) rfl (by simp [plainL, plain, plainR_rows4]) ?_) | (show wcall _ false (.lit (.func (.func 31) _ _)) _ _ _ _; refine wcall_fn (h31a) rfl (by simp [plainL, plain, plainR_rows4]) ?_) | (show wcall _ false (.lit (.func (.func 31) _ _)) _ _ _ _; refine wcall_fn (h31b) rfl (by simp [plainL, plain, plainR_rows4]) ?_) | refine T_ret ?_ | refine leave_of (.inr rfl) _ rfl ?_ | refine leave_of (.inl rfl) _ rfl ?_ | refine leaveA_of (.inr rfl) _ rfl ?_ | refine leaveA_of (.inl rfl) _ rfl ?_ | refine wif_intro ?_ (fun hc => ?_) | refine And.intro ?_ ?_ | intro hc) | simp (maxSteps := 4000000) only [wops_nil, wops_cons, wstep_none, wstep_some, wguard_true, wrun_call, wrun_mv, wrun_bin, wrun_ext, wop, aop, ev, look, put_some, writes, ores_some, binV, thenK, hget, List.map_cons, List.map_nil, List.length_cons, List.length_nil, List.getElem?_cons_zero, List.getElem?_cons_succ, List.drop_zero, List.cons_append, List.nil_append, List.append_nil, List.replicate_zero, Option.getD_some, Option.map_some, if_true, if_false, Nat.reduceEqDiff, Nat.reduceAdd, Nat.zero_add, Nat.zero_ne_one, reduceCtorEq, eq_self, beq_self_eq_true, freeze, lidsL, lids, List.flatMap_cons, List.flatMap_nil, ren, renL, renR, renB, shiftρ, renR_rows4, flat_rows4', fz0, fz1, renR_er, *] | simp (disch := omega) only [getD_ints, wrapI] | (with_reducible show wcall _ false (.lit (.func (.func 27) _ _)) _ _ _ _; refine wcall_fn (h27) ?_ ?_ ?_; (next => simp [rfyL, rfy, hget, ints, take_rfy, renR_rows4, plainR_rows4, take_rows4', flat_rows4', rows4_len, fz0, fz1, renR_er]); (next => simp [plainL, plain, plainR, renR_rows4, plainR_rows4, take_rows4', flat_rows4', rows4_len, fz0, fz1, renR_er])) | (with_reducible show wcall _ false (.lit (.func (.func 31) _ _)) _ _ _ _; refine wcall_fn (h31a) ?_ ?_ ?_; (next => simp [rfyL, rfy, hget, take_rows4', rows4_len]); (next => simp [plainL, plain, plainR_rows4])) | (with_reducible show wcall _ false (.lit (.func (.func 31) _ _)) _ _ _ _; refine wcall_fn (h31b) ?_ ?_ ?_; (next => simp [rfyL, rfy, hget, take_rows4', rows4_len]); (next => simp [plainL, plain, plainR_rows4])) | omega)
      refine wcall_fn h50 ?_ ?_ ?_
      · simp [rfyL, rfy, hget, mpE, hel, hE]
        exact List.take_of_length_le (by omega)
      · simp [plainL, plain, plainR_er]
      repeat' (first | (with_reducible first | refine T_seq ?_ | refine T_reg ?_ | refine T_skip ?_ | refine T_exit ?_ | refine T_block ?_ | refine T_cond_t rfl ?_ | refine T_cond_f rfl ?_ | refine T_ret ?_ | refine leave_of (.inr rfl) _ rfl ?_ | refine leave_of (.inl rfl) _ rfl ?_ | refine leaveA_of (.inr rfl) _ rfl ?_ | refine leaveA_of (.inl rfl) _ rfl ?_ | refine wif_intro ?_ (fun hc => ?_) | refine And.intro ?_ ?_ | intro hc) | simp (maxSteps := 4000000) only [wops_nil, wops_cons, wstep_none, wrun_mv, wrun_pick, wop, aop, ev, look, put_some, writes, ores_some, thenK, hget, List.map_nil, List.length_cons, List.length_nil, List.getElem?_cons_zero, List.getElem?_cons_succ, List.drop_zero, List.cons_append, List.append_nil, Option.getD_some, if_true, if_false, Nat.reduceEqDiff, Nat.reduceAdd, Nat.zero_add, reduceCtorEq, eq_self, freeze, lidsL, lids, List.flatMap_cons, List.flatMap_nil, ren, *] | simp (disch := omega) only [getD_ints, wrapI] | omega)
      all_goals first | exact hK.down _ rfl
theorem ndO_len {z : Nat} {l : List Rd} (hl : l.length ≤ 100) : (ndO z l).length < 1000 := by
  have : ∀ j, (nd (imp z) l j).2.length ≤ j := by
    intro j
    induction j with
    | zero => simp [nd]
    | succ j ih =>
      unfold nd
      split
      · simp; omega
      · omega
  have := this l.length
  unfold ndO
  omega
set_option maxHeartbeats 8000000 in
theorem k15n0 {z : Nat} {nil : Bool} {l : List Rd} (hf : fewB l.length 10 = true) (h : NC z l) : Fn Try.prog 15 [i64 z, rdgs nil l] (bl true) [] := by
  refine fn_of e15 ?_
  obtain ⟨hz, hl, hrd⟩ := checkR_ok h.1
  rw [c15_cut]
  show T none Try.prog muts 103 0 _ (S15 z nil l) _
  refine k15A hf h _ (k15B h (ndO_len hl) _ (k15C hl (ndO_len hl) _ ?_))
  have hk : kpL l (ndO z l) l.length = (nd (imp z) l l.length).1 := (nd_left (imp z) l).symm
  rw [hk]
  exact k15D h (nd_nc h (imp z) (Nat.le_refl _)) (nd_tb h _ (Nat.le_refl _)) _ fun τ ht => leave_of (.inr rfl) [bl true] (by simp [resL, resAV, ht]) ⟨rfl, rfl⟩
set_option maxHeartbeats 8000000 in
theorem k15 (zi : Int) (nil : Bool) (l : List Rd) : Fn Try.prog 15 [i64 zi, rdgs nil l] (bl true) [] := by
  cases hf : fewB l.length 10 with
  | false => exact k15few hf
  | true =>
    have hl : l.length < 1000000 := by
      unfold fewB at hf
      simp at hf
      omega
    by_cases hr : checkR zi l = 0
    · have hz := (checkR_ok hr).1
      obtain ⟨z, rfl⟩ : ∃ z : Nat, zi = z := ⟨zi.toNat, by omega⟩
      by_cases hc : ∃ r, r ≤ z ∧ (rnds (arcsL l l.length) z (r + 1)).at_ < 0
      · exact k15n0 hf ⟨hr, hc⟩
      · refine k15clash hf hr fun r hr2 => ?_
        rcases Int.lt_or_le (rnds (arcsL l l.length) z (r + 1)).at_ 0 with h | h
        · exact (hc ⟨r, hr2, h⟩).elim
        · exact h
    · exact k15err hf hl hr
end Go.Abs
