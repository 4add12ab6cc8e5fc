import Derived.Test.YtodheeifecoebaaK82x
import Derived.Test.YtodheeifecoebaaK57
set_option linter.all false
set_option linter.unusedVariables false
set_option linter.unusedSimpArgs false
set_option linter.unusedSectionVars false
namespace Go.Abs
open Go.Proofs
/-- along a chain -/
theorem chain_pot {l : List Rd} {ys : List Int} {P : Int → Int} (hval : ∀ j, j < ys.length → ys.getD j 0 ≠ 0 ∧ -(l.length : Int) ≤ ys.getD j 0 ∧ ys.getD j 0 ≤ l.length) (hP : Pot (arcsL l l.length) P) (hch : chainC l ys) : ∀ k, k ≤ ys.length → P (prv l ys k).t ≤ P (prv l ys 0).t + sumC l ys k
  | 0, _ => by simp [sumC]
  | k + 1, hk => by
    have ih := chain_pot hval hP hch k (by omega)
    have hv := hval k (by omega)
    have hal := arcsL_len l l.length
    have h1 : P (arcOf l (ys.getD k 0)).t ≤ P (arcOf l (ys.getD k 0)).f + (arcOf l (ys.getD k 0)).len := by
      by_cases hp : 0 < ys.getD k 0
      · have := hP (2 * ys.getD k 0 - 2).toNat (by omega)
        rwa [arcOf_pos hp hv.2.2] at this
      · have := hP (-2 * ys.getD k 0 - 1).toNat (by omega)
        rwa [arcOf_neg (by omega) hv.2.1] at this
    rw [hch k (by omega)] at h1
    show P (arcOf l (ys.getD k 0)).t ≤ P (prv l ys 0).t + (sumC l ys k + (arcOf l (ys.getD k 0)).len)
    omega
/-- a circle that is accepted: the search does not come to rest -/
theorem cl_clash {z : Nat} {l : List Rd} {ys : List Int} (hr : checkR z l = 0) (h : (checkCl l ys).2 = 0) : ∀ r, r ≤ z → 0 ≤ (rnds (arcsL l l.length) z (r + 1)).at_ := by
  obtain ⟨hz, hl, hrd⟩ := checkR_ok hr
  obtain ⟨hA, hN, hok⟩ := arcs_ok hrd
  intro r hrz
  rcases Int.lt_or_le (rnds (arcsL l l.length) z (r + 1)).at_ 0 with hneg | hpos
  · exfalso
    have hP := rest_pot hA hneg
    unfold checkCl at h
    split at h
    · simp at h
    · rename_i h1
      split at h
      · simp at h
      · rename_i h2
        split at h
        · simp at h
        · rename_i h3
          split at h
          · simp at h
          · rename_i h4
            have hval := fun j (hj : j < ys.length) => badC_ok (any_bad_get (by simpa using h2) hj)
            have hch : chainC l ys := Classical.not_not.1 h3
            have := chain_pot hval hP hch ys.length (Nat.le_refl _)
            have e : (prv l ys ys.length) = prv l ys 0 := by
              cases hyl : ys.length with
              | zero => omega
              | succ n => simp [prv, hyl]
            rw [e] at this
            omega
  · exact hpos
theorem flat_ints5c (h : Nat → Blk) (n : Nat) (xs : List Int) : (List.take n (List.map (fun x => [i64 x]) xs)).flatMap (fun r => r.flatMap (lids h 5)) = [] := by
  rw [List.flatMap_eq_nil_iff]
  intro r hr
  obtain ⟨x, _, rfl⟩ := List.mem_map.1 (List.mem_of_mem_take hr)
  rfl
set_option maxHeartbeats 8000000 in
theorem k10 (zi : Int) (nil nh : Bool) (l : List Rd) (ys : List Int) : Fn Try.prog 10 [i64 zi, rdgs nil l, ints nh ys] (bl true) [] := by
  refine fn_of e10 ?_
  unfold c10
  have h19 := k19
  have h25 := k25 nil l 12
  by_cases hsm : fewB l.length 12 = true ∧ ys.length ≤ 45
  · obtain ⟨hf, hy⟩ := hsm
    rw [hf] at h25
    have hl : l.length < 1000000 := by unfold fewB at hf; simp at hf; omega
    clear hf
    have h27 := k27 nil l hl
    have h28 := k28 nh ys (by omega)
    have h29 := k29 zi nil l hl
    by_cases hc : checkR zi l = 0
    · obtain ⟨hz, hl2, hrd⟩ := checkR_ok hc
      obtain ⟨z, rfl⟩ : ∃ z : Nat, zi = z := ⟨zi.toNat, by omega⟩
      rw [hc] at h29
      have h53 := k53 (nil := false) (ny := false) (l := l) (ys := ys) (z := z) (by omega) hc
      have h52 := k52 (nil := nil) (ny := nh) (l := l) (ys := ys) (z := z) (by omega) hc
      have hrl := rows4_len l
      by_cases hd0 : (checkCl l ys).2 = 0
      · obtain ⟨p, xs, hxp, h31⟩ := k31c (nil := false) hc (cl_clash hc hd0)
        generalize checkCl l ys = R at *
        obtain ⟨r1, r2⟩ := R
        dsimp only at h53 h52 hd0
        subst hd0
        clear hrd
        repeat' (first
          | (with_reducible refine T_seq ?_)
          | (with_reducible refine T_reg ?_)
          | ((with_reducible refine T_calm ?_ ?_); rfl)
          | (with_reducible refine T_draw ?_)
          | (with_reducible refine T_skip ?_)
          | (with_reducible refine T_exit ?_)
          | (with_reducible refine T_block ?_)
          | (with_reducible (show T _ _ _ _ _ (.cond _ _ _) _ _); first | (refine T_cond_t rfl ?_) | (refine T_cond_f rfl ?_) | (refine T_cond rfl (fun hc => ?_) (fun hc => ?_) <;> have hd := hc <;> (try simp (disch := omega) only [wrapI] at hd) <;> have hs := hd <;> (try simp only [decide_eq_true_eq, decide_eq_false_iff_not, bne_iff_ne, bne_eq_false_iff_eq, gt_iff_lt, Int.not_lt, ne_eq] at hd) <;> (try simp at hs)))
          | (with_reducible (show wdW _ _ _ (_ :: _) _ _ _); refine wdW_cons rfl ?_)
          | (with_reducible (show wcall _ false (.lit (.func (.func 19) _ _)) _ _ _ _); refine wcall_fn (h19) rfl (by simp [plainL]) ?_)
          | (with_reducible (show wcallX _ false (.lit (.func (.func 19) _ _)) _ _ _ _); refine wcallX_fn (h19) rfl (by simp [plainL, plain, plainR, take_rows4', flat_rows4', freeze1, take_rfy, flat_ints5c, renR_rows4, rows4_len]) ?_)
          | (with_reducible (show wcall _ false (.lit (.func (.func 25) _ _)) _ _ _ _); refine wcall_fn (h25) rfl (by simp [plainL, plain]) ?_)
          | (with_reducible (show wcallX _ false (.lit (.func (.func 25) _ _)) _ _ _ _); refine wcallX_fn (h25) rfl (by simp [plainL, plain, plainR, take_rows4', flat_rows4', freeze1, take_rfy, flat_ints5c, renR_rows4, rows4_len]) ?_)
          | (with_reducible (show wcall _ false (.lit (.func (.func 27) _ _)) _ _ _ _); refine wcall_fn (h27) rfl (by simp [plainL, plain]) ?_)
          | (with_reducible (show wcallX _ false (.lit (.func (.func 27) _ _)) _ _ _ _); refine wcallX_fn (h27) rfl (by simp [plainL, plain, plainR, take_rows4', flat_rows4', freeze1, take_rfy, flat_ints5c, renR_rows4, rows4_len]) ?_)
          | (with_reducible (show wcall _ false (.lit (.func (.func 28) _ _)) _ _ _ _); refine wcall_fn (h28) rfl (by simp [plainL, plain]) ?_)
          | (with_reducible (show wcallX _ false (.lit (.func (.func 28) _ _)) _ _ _ _); refine wcallX_fn (h28) rfl (by simp [plainL, plain, plainR, take_rows4', flat_rows4', freeze1, take_rfy, flat_ints5c, renR_rows4, rows4_len]) ?_)
          | (with_reducible (show wcall _ false (.lit (.func (.func 53) _ _)) _ _ _ _); refine wcall_fn (h53) rfl (by simp [plainL, plain]) ?_)
          | (with_reducible (show wcallX _ false (.lit (.func (.func 53) _ _)) _ _ _ _); refine wcallX_fn (h53) rfl (by simp [plainL, plain, plainR, take_rows4', flat_rows4', freeze1, take_rfy, flat_ints5c, renR_rows4, rows4_len]) ?_)
          | (with_reducible (show wcall _ false (.lit (.func (.func 29) _ _)) _ _ _ _); refine wcall_fn (h29) rfl (by simp [plainL, plain]) ?_)
          | (with_reducible (show wcallX _ false (.lit (.func (.func 29) _ _)) _ _ _ _); refine wcallX_fn (h29) rfl (by simp [plainL, plain, plainR, take_rows4', flat_rows4', freeze1, take_rfy, flat_ints5c, renR_rows4, rows4_len]) ?_)
          | (with_reducible (show wcall _ false (.lit (.func (.func 52) _ _)) _ _ _ _); refine wcall_fn (h52) rfl (by simp [plainL, plain]) ?_)
          | (with_reducible (show wcallX _ false (.lit (.func (.func 52) _ _)) _ _ _ _); refine wcallX_fn (h52) rfl (by simp [plainL, plain, plainR, take_rows4', flat_rows4', freeze1, take_rfy, flat_ints5c, renR_rows4, rows4_len]) ?_)
          | (with_reducible (show wcall _ false (.lit (.func (.func 31) _ _)) _ _ _ _); refine wcall_fn (h31) rfl (by simp [plainL, plain]) ?_)
          | (with_reducible (show wcallX _ false (.lit (.func (.func 31) _ _)) _ _ _ _); refine wcallX_fn (h31) rfl (by simp [plainL, plain, plainR, take_rows4', flat_rows4', freeze1, take_rfy, flat_ints5c, renR_rows4, rows4_len]) ?_)
          | (with_reducible refine wguard_split (fun hc => ?_) (fun hc => ?_) <;> have hd := hc <;> (try simp (disch := omega) only [wrapI] at hd) <;> have hs := hd <;> (try simp only [bne_iff_ne, bne_eq_false_iff_eq, Bool.not_false, ne_eq] at hd) <;> (try simp at hs))
          | (with_reducible refine wguardX_split (fun hc => ?_) (fun hc => ?_) <;> have hd := hc <;> (try simp (disch := omega) only [wrapI] at hd) <;> have hs := hd <;> (try simp only [Bool.not_eq_true', Bool.not_eq_false', Bool.and_eq_true, Bool.and_eq_false_iff, Bool.or_eq_true, Bool.or_eq_false_iff, decide_eq_true_eq, decide_eq_false_iff_not, beq_iff_eq, bne_iff_ne, beq_eq_false_iff_ne, bne_eq_false_iff_eq, Bool.not_true, Bool.not_false, gt_iff_lt, ge_iff_le, Int.not_lt, Int.not_le, ne_eq, Decidable.not_not] at hd) <;> (try simp at hs))
          | (with_reducible refine T_ret ?_)
          | (with_reducible (show leave _ _ _ _ _); first | (refine leave_of (.inr rfl) _ rfl ?_) | (refine leave_of (.inl rfl) _ rfl ?_))
          | (with_reducible (show leaveA _ _ _ _); first | (refine leaveA_of (.inr rfl) _ rfl ?_) | (refine leaveA_of (.inl rfl) _ rfl ?_))
          | (with_reducible refine wif_intro ?_ (fun hc => ?_))
          | (with_reducible refine And.intro ?_ ?_)
          | (with_reducible intro hc)
          | (simp (maxSteps := 4000000) only [wops_nil, wops_cons, wstep_none, wstep_some, wguard_ff, wrun_call, wrun_mv, wrun_pick, wrun_bin, wrun_not, wrun_ext, wrun_len, get_mk, wop, aop, ev, look, put_some, writes, ores_some, ores_map, ores_bind, binV, thenK, boolV, intV, lenOf, hget, tupOf, List.map_cons, List.map_nil, List.length_cons, List.length_nil, List.getElem?_cons_zero, List.getElem?_cons_succ, List.set_cons_zero, List.set_cons_succ, List.drop_zero, List.cons_append, List.nil_append, List.append_nil, List.replicate_zero, List.zipIdx_cons, List.zipIdx_nil, List.length_map, Option.pure_def, Option.bind_eq_bind, Option.getD_some, Option.map_some, if_true, if_false, Nat.reduceEqDiff, Nat.reduceAdd, Nat.add_zero, Nat.zero_add, Nat.zero_ne_one, reduceCtorEq, Bool.not_true, Bool.false_eq_true, eq_self, decide_true, beq_self_eq_true, freeze, lidsL, lids, List.flatMap_cons, List.flatMap_nil, ren, renL, renR, renB, shiftρ, renR_ints, flat_rows4', freeze1, flat_ints5c, renR_rows4, *])
          | (simp (disch := omega) only [getD_ints, wrapI])
          | (with_reducible (show wcall _ false (.lit (.func (.func 19) _ _)) _ _ _ _); refine wcall_fn (h19) ?_ ?_ ?_; (next => simp [rfyL, rfy, hget, ints, take_rfy, take_rows4', flat_rows4', freeze1, take_rfy, flat_ints5c, renR_rows4, rows4_len]); (next => simp [plainL, plain, plainR, take_rows4', flat_rows4', freeze1, take_rfy, flat_ints5c, renR_rows4, rows4_len]))
          | (with_reducible (show wcallX _ false (.lit (.func (.func 19) _ _)) _ _ _ _); refine wcallX_fn (h19) ?_ ?_ ?_; (next => simp [rfyL, rfy, hget, ints, take_rfy, take_rows4', flat_rows4', freeze1, take_rfy, flat_ints5c, renR_rows4, rows4_len]); (next => simp [plainL, plain, plainR, take_rows4', flat_rows4', freeze1, take_rfy, flat_ints5c, renR_rows4, rows4_len]))
          | (with_reducible (show wcall _ false (.lit (.func (.func 25) _ _)) _ _ _ _); refine wcall_fn (h25) ?_ ?_ ?_; (next => simp [rfyL, rfy, hget, ints, take_rfy, take_rows4', flat_rows4', freeze1, take_rfy, flat_ints5c, renR_rows4, rows4_len]); (next => simp [plainL, plain, plainR, take_rows4', flat_rows4', freeze1, take_rfy, flat_ints5c, renR_rows4, rows4_len]))
          | (with_reducible (show wcallX _ false (.lit (.func (.func 25) _ _)) _ _ _ _); refine wcallX_fn (h25) ?_ ?_ ?_; (next => simp [rfyL, rfy, hget, ints, take_rfy, take_rows4', flat_rows4', freeze1, take_rfy, flat_ints5c, renR_rows4, rows4_len]); (next => simp [plainL, plain, plainR, take_rows4', flat_rows4', freeze1, take_rfy, flat_ints5c, renR_rows4, rows4_len]))
          | (with_reducible (show wcall _ false (.lit (.func (.func 27) _ _)) _ _ _ _); refine wcall_fn (h27) ?_ ?_ ?_; (next => simp [rfyL, rfy, hget, ints, take_rfy, take_rows4', flat_rows4', freeze1, take_rfy, flat_ints5c, renR_rows4, rows4_len]); (next => simp [plainL, plain, plainR, take_rows4', flat_rows4', freeze1, take_rfy, flat_ints5c, renR_rows4, rows4_len]))
          | (with_reducible (show wcallX _ false (.lit (.func (.func 27) _ _)) _ _ _ _); refine wcallX_fn (h27) ?_ ?_ ?_; (next => simp [rfyL, rfy, hget, ints, take_rfy, take_rows4', flat_rows4', freeze1, take_rfy, flat_ints5c, renR_rows4, rows4_len]); (next => simp [plainL, plain, plainR, take_rows4', flat_rows4', freeze1, take_rfy, flat_ints5c, renR_rows4, rows4_len]))
          | (with_reducible (show wcall _ false (.lit (.func (.func 28) _ _)) _ _ _ _); refine wcall_fn (h28) ?_ ?_ ?_; (next => simp [rfyL, rfy, hget, ints, take_rfy, take_rows4', flat_rows4', freeze1, take_rfy, flat_ints5c, renR_rows4, rows4_len]); (next => simp [plainL, plain, plainR, take_rows4', flat_rows4', freeze1, take_rfy, flat_ints5c, renR_rows4, rows4_len]))
          | (with_reducible (show wcallX _ false (.lit (.func (.func 28) _ _)) _ _ _ _); refine wcallX_fn (h28) ?_ ?_ ?_; (next => simp [rfyL, rfy, hget, ints, take_rfy, take_rows4', flat_rows4', freeze1, take_rfy, flat_ints5c, renR_rows4, rows4_len]); (next => simp [plainL, plain, plainR, take_rows4', flat_rows4', freeze1, take_rfy, flat_ints5c, renR_rows4, rows4_len]))
          | (with_reducible (show wcall _ false (.lit (.func (.func 53) _ _)) _ _ _ _); refine wcall_fn (h53) ?_ ?_ ?_; (next => simp [rfyL, rfy, hget, ints, take_rfy, take_rows4', take_rfy, rows4_len]); (next => simp [plainL, plain]))
          | (with_reducible (show wcallX _ false (.lit (.func (.func 53) _ _)) _ _ _ _); refine wcallX_fn (h53) ?_ ?_ ?_; (next => simp [rfyL, rfy, hget, ints, take_rfy, take_rows4', flat_rows4', freeze1, take_rfy, flat_ints5c, renR_rows4, rows4_len]); (next => simp [plainL, plain, plainR, take_rows4', flat_rows4', freeze1, take_rfy, flat_ints5c, renR_rows4, rows4_len]))
          | (with_reducible (show wcall _ false (.lit (.func (.func 29) _ _)) _ _ _ _); refine wcall_fn (h29) ?_ ?_ ?_; (next => simp [rfyL, rfy, hget, ints, take_rfy, take_rows4', flat_rows4', freeze1, take_rfy, flat_ints5c, renR_rows4, rows4_len]); (next => simp [plainL, plain, plainR, take_rows4', flat_rows4', freeze1, take_rfy, flat_ints5c, renR_rows4, rows4_len]))
          | (with_reducible (show wcallX _ false (.lit (.func (.func 29) _ _)) _ _ _ _); refine wcallX_fn (h29) ?_ ?_ ?_; (next => simp [rfyL, rfy, hget, ints, take_rfy, take_rows4', flat_rows4', freeze1, take_rfy, flat_ints5c, renR_rows4, rows4_len]); (next => simp [plainL, plain, plainR, take_rows4', flat_rows4', freeze1, take_rfy, flat_ints5c, renR_rows4, rows4_len]))
          | (with_reducible (show wcall _ false (.lit (.func (.func 52) _ _)) _ _ _ _); refine wcall_fn (h52) ?_ ?_ ?_; (next => simp [rfyL, rfy, hget, ints, take_rfy, take_rows4', flat_rows4', freeze1, take_rfy, flat_ints5c, renR_rows4, rows4_len]); (next => simp [plainL, plain, plainR, take_rows4', flat_rows4', freeze1, take_rfy, flat_ints5c, renR_rows4, rows4_len]))
          | (with_reducible (show wcallX _ false (.lit (.func (.func 52) _ _)) _ _ _ _); refine wcallX_fn (h52) ?_ ?_ ?_; (next => simp [rfyL, rfy, hget, ints, take_rfy, take_rows4', flat_rows4', freeze1, take_rfy, flat_ints5c, renR_rows4, rows4_len]); (next => simp [plainL, plain, plainR, take_rows4', flat_rows4', freeze1, take_rfy, flat_ints5c, renR_rows4, rows4_len]))
          | (with_reducible (show wcall _ false (.lit (.func (.func 31) _ _)) _ _ _ _); refine wcall_fn (h31) ?_ ?_ ?_; (next => simp [rfyL, rfy, hget, take_rows4', rows4_len]); (next => simp [plainL, plain]))
          | (with_reducible (show wcallX _ false (.lit (.func (.func 31) _ _)) _ _ _ _); refine wcallX_fn (h31) ?_ ?_ ?_; (next => simp [rfyL, rfy, hget, ints, take_rfy, take_rows4', flat_rows4', freeze1, take_rfy, flat_ints5c, renR_rows4, rows4_len]); (next => simp [plainL, plain, plainR, take_rows4', flat_rows4', freeze1, take_rfy, flat_ints5c, renR_rows4, rows4_len]))
          | omega)
      · generalize checkCl l ys = R at *
        obtain ⟨r1, r2⟩ := R
        dsimp only at h53 h52 hd0
        clear hrd
        repeat' (first
          | (with_reducible refine T_seq ?_)
          | (with_reducible refine T_reg ?_)
          | ((with_reducible refine T_calm ?_ ?_); rfl)
          | (with_reducible refine T_draw ?_)
          | (with_reducible refine T_skip ?_)
          | (with_reducible refine T_exit ?_)
          | (with_reducible refine T_block ?_)
          | (with_reducible (show T _ _ _ _ _ (.cond _ _ _) _ _); first | (refine T_cond_t rfl ?_) | (refine T_cond_f rfl ?_) | (refine T_cond rfl (fun hc => ?_) (fun hc => ?_) <;> have hd := hc <;> (try simp (disch := omega) only [wrapI] at hd) <;> have hs := hd <;> (try simp only [decide_eq_true_eq, decide_eq_false_iff_not, bne_iff_ne, bne_eq_false_iff_eq, gt_iff_lt, Int.not_lt, ne_eq] at hd) <;> (try simp at hs)))
          | (with_reducible (show wdW _ _ _ (_ :: _) _ _ _); refine wdW_cons rfl ?_)
          | (with_reducible (show wcall _ false (.lit (.func (.func 19) _ _)) _ _ _ _); refine wcall_fn (h19) rfl (by simp [plainL]) ?_)
          | (with_reducible (show wcallX _ false (.lit (.func (.func 19) _ _)) _ _ _ _); refine wcallX_fn (h19) rfl (by simp [plainL, plain, plainR, take_rows4', flat_rows4', freeze1, take_rfy, flat_ints5c, renR_rows4, rows4_len]) ?_)
          | (with_reducible (show wcall _ false (.lit (.func (.func 25) _ _)) _ _ _ _); refine wcall_fn (h25) rfl (by simp [plainL, plain]) ?_)
          | (with_reducible (show wcallX _ false (.lit (.func (.func 25) _ _)) _ _ _ _); refine wcallX_fn (h25) rfl (by simp [plainL, plain, plainR, take_rows4', flat_rows4', freeze1, take_rfy, flat_ints5c, renR_rows4, rows4_len]) ?_)
          | (with_reducible (show wcall _ false (.lit (.func (.func 27) _ _)) _ _ _ _); refine wcall_fn (h27) rfl (by simp [plainL, plain]) ?_)
          | (with_reducible (show wcallX _ false (.lit (.func (.func 27) _ _)) _ _ _ _); refine wcallX_fn (h27) rfl (by simp [plainL, plain, plainR, take_rows4', flat_rows4', freeze1, take_rfy, flat_ints5c, renR_rows4, rows4_len]) ?_)
          | (with_reducible (show wcall _ false (.lit (.func (.func 28) _ _)) _ _ _ _); refine wcall_fn (h28) rfl (by simp [plainL, plain]) ?_)
          | (with_reducible (show wcallX _ false (.lit (.func (.func 28) _ _)) _ _ _ _); refine wcallX_fn (h28) rfl (by simp [plainL, plain, plainR, take_rows4', flat_rows4', freeze1, take_rfy, flat_ints5c, renR_rows4, rows4_len]) ?_)
          | (with_reducible (show wcall _ false (.lit (.func (.func 53) _ _)) _ _ _ _); refine wcall_fn (h53) rfl (by simp [plainL, plain]) ?_)
          | (with_reducible (show wcallX _ false (.lit (.func (.func 53) _ _)) _ _ _ _); refine wcallX_fn (h53) rfl (by simp [plainL, plain, plainR, take_rows4', flat_rows4', freeze1, take_rfy, flat_ints5c, renR_rows4, rows4_len]) ?_)
          | (with_reducible (show wcall _ false (.lit (.func (.func 29) _ _)) _ _ _ _); refine wcall_fn (h29) rfl (by simp [plainL, plain]) ?_)
          | (with_reducible (show wcallX _ false (.lit (.func (.func 29) _ _)) _ _ _ _); refine wcallX_fn (h29) rfl (by simp [plainL, plain, plainR, take_rows4', flat_rows4', freeze1, take_rfy, flat_ints5c, renR_rows4, rows4_len]) ?_)
          | (with_reducible (show wcall _ false (.lit (.func (.func 52) _ _)) _ _ _ _); refine wcall_fn (h52) rfl (by simp [plainL, plain]) ?_)
          | (with_reducible (show wcallX _ false (.lit (.func (.func 52) _ _)) _ _ _ _); refine wcallX_fn (h52) rfl (by simp [plainL, plain, plainR, take_rows4', flat_rows4', freeze1, take_rfy, flat_ints5c, renR_rows4, rows4_len]) ?_)
          | (with_reducible refine wguard_split (fun hc => ?_) (fun hc => ?_) <;> have hd := hc <;> (try simp (disch := omega) only [wrapI] at hd) <;> have hs := hd <;> (try simp only [bne_iff_ne, bne_eq_false_iff_eq, Bool.not_false, ne_eq] at hd) <;> (try simp at hs))
          | (with_reducible refine wguardX_split (fun hc => ?_) (fun hc => ?_) <;> have hd := hc <;> (try simp (disch := omega) only [wrapI] at hd) <;> have hs := hd <;> (try simp only [Bool.not_eq_true', Bool.not_eq_false', Bool.and_eq_true, Bool.and_eq_false_iff, Bool.or_eq_true, Bool.or_eq_false_iff, decide_eq_true_eq, decide_eq_false_iff_not, beq_iff_eq, bne_iff_ne, beq_eq_false_iff_ne, bne_eq_false_iff_eq, Bool.not_true, Bool.not_false, gt_iff_lt, ge_iff_le, Int.not_lt, Int.not_le, ne_eq, Decidable.not_not] at hd) <;> (try simp at hs))
          | (with_reducible refine T_ret ?_)
          | (with_reducible (show leave _ _ _ _ _); first | (refine leave_of (.inr rfl) _ rfl ?_) | (refine leave_of (.inl rfl) _ rfl ?_))
          | (with_reducible (show leaveA _ _ _ _); first | (refine leaveA_of (.inr rfl) _ rfl ?_) | (refine leaveA_of (.inl rfl) _ rfl ?_))
          | (with_reducible refine wif_intro ?_ (fun hc => ?_))
          | (with_reducible refine And.intro ?_ ?_)
          | (with_reducible intro hc)
          | (simp (maxSteps := 4000000) only [wops_nil, wops_cons, wstep_none, wstep_some, wguard_ff, wrun_call, wrun_mv, wrun_pick, wrun_bin, wrun_not, wrun_ext, wrun_len, get_mk, wop, aop, ev, look, put_some, writes, ores_some, ores_map, ores_bind, binV, thenK, boolV, intV, lenOf, hget, tupOf, List.map_cons, List.map_nil, List.length_cons, List.length_nil, List.getElem?_cons_zero, List.getElem?_cons_succ, List.set_cons_zero, List.set_cons_succ, List.drop_zero, List.cons_append, List.nil_append, List.append_nil, List.replicate_zero, List.zipIdx_cons, List.zipIdx_nil, List.length_map, Option.pure_def, Option.bind_eq_bind, Option.getD_some, Option.map_some, if_true, if_false, Nat.reduceEqDiff, Nat.reduceAdd, Nat.add_zero, Nat.zero_add, Nat.zero_ne_one, reduceCtorEq, Bool.not_true, Bool.false_eq_true, eq_self, decide_true, beq_self_eq_true, freeze, lidsL, lids, List.flatMap_cons, List.flatMap_nil, ren, renL, renB, shiftρ, renR_ints, flat_rows4', freeze1, flat_ints5c, renR_rows4, *])
          | (simp (disch := omega) only [getD_ints, wrapI])
          | (with_reducible (show wcall _ false (.lit (.func (.func 19) _ _)) _ _ _ _); refine wcall_fn (h19) ?_ ?_ ?_; (next => simp [rfyL, rfy, hget, ints, take_rfy, take_rows4', flat_rows4', freeze1, take_rfy, flat_ints5c, renR_rows4, rows4_len]); (next => simp [plainL, plain, plainR, take_rows4', flat_rows4', freeze1, take_rfy, flat_ints5c, renR_rows4, rows4_len]))
          | (with_reducible (show wcallX _ false (.lit (.func (.func 19) _ _)) _ _ _ _); refine wcallX_fn (h19) ?_ ?_ ?_; (next => simp [rfyL, rfy, hget, ints, take_rfy, take_rows4', flat_rows4', freeze1, take_rfy, flat_ints5c, renR_rows4, rows4_len]); (next => simp [plainL, plain, plainR, take_rows4', flat_rows4', freeze1, take_rfy, flat_ints5c, renR_rows4, rows4_len]))
          | (with_reducible (show wcall _ false (.lit (.func (.func 25) _ _)) _ _ _ _); refine wcall_fn (h25) ?_ ?_ ?_; (next => simp [rfyL, rfy, hget, ints, take_rfy, take_rows4', flat_rows4', freeze1, take_rfy, flat_ints5c, renR_rows4, rows4_len]); (next => simp [plainL, plain, plainR, take_rows4', flat_rows4', freeze1, take_rfy, flat_ints5c, renR_rows4, rows4_len]))
          | (with_reducible (show wcallX _ false (.lit (.func (.func 25) _ _)) _ _ _ _); refine wcallX_fn (h25) ?_ ?_ ?_; (next => simp [rfyL, rfy, hget, ints, take_rfy, take_rows4', flat_rows4', freeze1, take_rfy, flat_ints5c, renR_rows4, rows4_len]); (next => simp [plainL, plain, plainR, take_rows4', flat_rows4', freeze1, take_rfy, flat_ints5c, renR_rows4, rows4_len]))
          | (with_reducible (show wcall _ false (.lit (.func (.func 27) _ _)) _ _ _ _); refine wcall_fn (h27) ?_ ?_ ?_; (next => simp [rfyL, rfy, hget, ints, take_rfy, take_rows4', flat_rows4', freeze1, take_rfy, flat_ints5c, renR_rows4, rows4_len]); (next => simp [plainL, plain, plainR, take_rows4', flat_rows4', freeze1, take_rfy, flat_ints5c, renR_rows4, rows4_len]))
          | (with_reducible (show wcallX _ false (.lit (.func (.func 27) _ _)) _ _ _ _); refine wcallX_fn (h27) ?_ ?_ ?_; (next => simp [rfyL, rfy, hget, ints, take_rfy, take_rows4', flat_rows4', freeze1, take_rfy, flat_ints5c, renR_rows4, rows4_len]); (next => simp [plainL, plain, plainR, take_rows4', flat_rows4', freeze1, take_rfy, flat_ints5c, renR_rows4, rows4_len]))
          | (with_reducible (show wcall _ false (.lit (.func (.func 28) _ _)) _ _ _ _); refine wcall_fn (h28) ?_ ?_ ?_; (next => simp [rfyL, rfy, hget, ints, take_rfy, take_rows4', flat_rows4', freeze1, take_rfy, flat_ints5c, renR_rows4, rows4_len]); (next => simp [plainL, plain, plainR, take_rows4', flat_rows4', freeze1, take_rfy, flat_ints5c, renR_rows4, rows4_len]))
          | (with_reducible (show wcallX _ false (.lit (.func (.func 28) _ _)) _ _ _ _); refine wcallX_fn (h28) ?_ ?_ ?_; (next => simp [rfyL, rfy, hget, ints, take_rfy, take_rows4', flat_rows4', freeze1, take_rfy, flat_ints5c, renR_rows4, rows4_len]); (next => simp [plainL, plain, plainR, take_rows4', flat_rows4', freeze1, take_rfy, flat_ints5c, renR_rows4, rows4_len]))
          | (with_reducible (show wcall _ false (.lit (.func (.func 53) _ _)) _ _ _ _); refine wcall_fn (h53) ?_ ?_ ?_; (next => simp [rfyL, rfy, hget, ints, take_rfy, take_rows4', take_rfy, rows4_len]); (next => simp [plainL, plain]))
          | (with_reducible (show wcallX _ false (.lit (.func (.func 53) _ _)) _ _ _ _); refine wcallX_fn (h53) ?_ ?_ ?_; (next => simp [rfyL, rfy, hget, ints, take_rfy, take_rows4', flat_rows4', freeze1, take_rfy, flat_ints5c, renR_rows4, rows4_len]); (next => simp [plainL, plain, plainR, take_rows4', flat_rows4', freeze1, take_rfy, flat_ints5c, renR_rows4, rows4_len]))
          | (with_reducible (show wcall _ false (.lit (.func (.func 29) _ _)) _ _ _ _); refine wcall_fn (h29) ?_ ?_ ?_; (next => simp [rfyL, rfy, hget, ints, take_rfy, take_rows4', flat_rows4', freeze1, take_rfy, flat_ints5c, renR_rows4, rows4_len]); (next => simp [plainL, plain, plainR, take_rows4', flat_rows4', freeze1, take_rfy, flat_ints5c, renR_rows4, rows4_len]))
          | (with_reducible (show wcallX _ false (.lit (.func (.func 29) _ _)) _ _ _ _); refine wcallX_fn (h29) ?_ ?_ ?_; (next => simp [rfyL, rfy, hget, ints, take_rfy, take_rows4', flat_rows4', freeze1, take_rfy, flat_ints5c, renR_rows4, rows4_len]); (next => simp [plainL, plain, plainR, take_rows4', flat_rows4', freeze1, take_rfy, flat_ints5c, renR_rows4, rows4_len]))
          | (with_reducible (show wcall _ false (.lit (.func (.func 52) _ _)) _ _ _ _); refine wcall_fn (h52) ?_ ?_ ?_; (next => simp [rfyL, rfy, hget, ints, take_rfy, take_rows4', flat_rows4', freeze1, take_rfy, flat_ints5c, renR_rows4, rows4_len]); (next => simp [plainL, plain, plainR, take_rows4', flat_rows4', freeze1, take_rfy, flat_ints5c, renR_rows4, rows4_len]))
          | (with_reducible (show wcallX _ false (.lit (.func (.func 52) _ _)) _ _ _ _); refine wcallX_fn (h52) ?_ ?_ ?_; (next => simp [rfyL, rfy, hget, ints, take_rfy, take_rows4', flat_rows4', freeze1, take_rfy, flat_ints5c, renR_rows4, rows4_len]); (next => simp [plainL, plain, plainR, take_rows4', flat_rows4', freeze1, take_rfy, flat_ints5c, renR_rows4, rows4_len]))
          | omega)
    · have h53 := k53e (nil := false) (ny := false) (ys := ys) hl hc
      repeat' (first
        | (with_reducible refine T_seq ?_)
        | (with_reducible refine T_reg ?_)
        | ((with_reducible refine T_calm ?_ ?_); rfl)
        | (with_reducible refine T_draw ?_)
        | (with_reducible refine T_skip ?_)
        | (with_reducible refine T_exit ?_)
        | (with_reducible refine T_block ?_)
        | (with_reducible (show T _ _ _ _ _ (.cond _ _ _) _ _); first | (refine T_cond_t rfl ?_) | (refine T_cond_f rfl ?_) | (refine T_cond rfl (fun hc => ?_) (fun hc => ?_) <;> have hd := hc <;> (try simp (disch := omega) only [wrapI] at hd) <;> have hs := hd <;> (try simp only [decide_eq_true_eq, decide_eq_false_iff_not, beq_iff_eq, bne_iff_ne, beq_eq_false_iff_ne, bne_eq_false_iff_eq, gt_iff_lt, Int.not_lt, ne_eq] at hd) <;> (try simp at hs)))
        | (with_reducible (show wdW _ _ _ (_ :: _) _ _ _); refine wdW_cons rfl ?_)
        | (with_reducible (show wcall _ false (.lit (.func (.func 19) _ _)) _ _ _ _); refine wcall_fn (h19) rfl (by simp [plainL]) ?_)
        | (with_reducible (show wcallX _ false (.lit (.func (.func 19) _ _)) _ _ _ _); refine wcallX_fn (h19) rfl (by simp [plainL, plain, plainR, take_rows4', flat_rows4', freeze1, take_rfy, flat_ints5c, renR_rows4, rows4_len]) ?_)
        | (with_reducible (show wcall _ false (.lit (.func (.func 25) _ _)) _ _ _ _); refine wcall_fn (h25) rfl (by simp [plainL, plain]) ?_)
        | (with_reducible (show wcallX _ false (.lit (.func (.func 25) _ _)) _ _ _ _); refine wcallX_fn (h25) rfl (by simp [plainL, plain, plainR, take_rows4', flat_rows4', freeze1, take_rfy, flat_ints5c, renR_rows4, rows4_len]) ?_)
        | (with_reducible (show wcall _ false (.lit (.func (.func 27) _ _)) _ _ _ _); refine wcall_fn (h27) rfl (by simp [plainL, plain]) ?_)
        | (with_reducible (show wcallX _ false (.lit (.func (.func 27) _ _)) _ _ _ _); refine wcallX_fn (h27) rfl (by simp [plainL, plain, plainR, take_rows4', flat_rows4', freeze1, take_rfy, flat_ints5c, renR_rows4, rows4_len]) ?_)
        | (with_reducible (show wcall _ false (.lit (.func (.func 28) _ _)) _ _ _ _); refine wcall_fn (h28) rfl (by simp [plainL, plain]) ?_)
        | (with_reducible (show wcallX _ false (.lit (.func (.func 28) _ _)) _ _ _ _); refine wcallX_fn (h28) rfl (by simp [plainL, plain, plainR, take_rows4', flat_rows4', freeze1, take_rfy, flat_ints5c, renR_rows4, rows4_len]) ?_)
        | (with_reducible (show wcall _ false (.lit (.func (.func 53) _ _)) _ _ _ _); refine wcall_fn (h53) rfl (by simp [plainL, plain]) ?_)
        | (with_reducible (show wcallX _ false (.lit (.func (.func 53) _ _)) _ _ _ _); refine wcallX_fn (h53) rfl (by simp [plainL, plain, plainR, take_rows4', flat_rows4', freeze1, take_rfy, flat_ints5c, renR_rows4, rows4_len]) ?_)
        | (with_reducible (show wcall _ false (.lit (.func (.func 29) _ _)) _ _ _ _); refine wcall_fn (h29) rfl (by simp [plainL, plain]) ?_)
        | (with_reducible (show wcallX _ false (.lit (.func (.func 29) _ _)) _ _ _ _); refine wcallX_fn (h29) rfl (by simp [plainL, plain, plainR, take_rows4', flat_rows4', freeze1, take_rfy, flat_ints5c, renR_rows4, rows4_len]) ?_)
        | (with_reducible refine wguard_split (fun hc => ?_) (fun hc => ?_) <;> have hd := hc <;> (try simp (disch := omega) only [wrapI] at hd) <;> have hs := hd <;> (try simp only [bne_iff_ne, bne_eq_false_iff_eq, Bool.not_false, ne_eq] at hd) <;> (try simp at hs))
        | (with_reducible refine wguardX_split (fun hc => ?_) (fun hc => ?_) <;> have hd := hc <;> (try simp (disch := omega) only [wrapI] at hd) <;> have hs := hd <;> (try simp only [Bool.not_eq_true', Bool.not_eq_false', Bool.and_eq_true, Bool.and_eq_false_iff, Bool.or_eq_true, Bool.or_eq_false_iff, decide_eq_true_eq, decide_eq_false_iff_not, beq_iff_eq, bne_iff_ne, beq_eq_false_iff_ne, bne_eq_false_iff_eq, Bool.not_true, Bool.not_false, gt_iff_lt, ge_iff_le, Int.not_lt, Int.not_le, ne_eq, Decidable.not_not] at hd) <;> (try simp at hs))
        | (with_reducible refine T_ret ?_)
        | (with_reducible (show leave _ _ _ _ _); first | (refine leave_of (.inr rfl) _ rfl ?_) | (refine leave_of (.inl rfl) _ rfl ?_))
        | (with_reducible (show leaveA _ _ _ _); first | (refine leaveA_of (.inr rfl) _ rfl ?_) | (refine leaveA_of (.inl rfl) _ rfl ?_))
        | (with_reducible refine wif_intro ?_ (fun hc => ?_))
        | (with_reducible refine And.intro ?_ ?_)
        | (with_reducible intro hc)
        | (simp (maxSteps := 4000000) only [wops_nil, wops_cons, wstep_none, wstep_some, wguard_ff, wrun_call, wrun_mv, wrun_pick, wrun_bin, wrun_not, wrun_ext, wrun_len, get_mk, wop, aop, ev, look, put_some, writes, ores_some, ores_map, ores_bind, binV, thenK, boolV, intV, lenOf, hget, tupOf, List.map_cons, List.map_nil, List.length_cons, List.length_nil, List.getElem?_cons_zero, List.getElem?_cons_succ, List.set_cons_zero, List.set_cons_succ, List.drop_zero, List.cons_append, List.nil_append, List.append_nil, List.replicate_zero, List.zipIdx_cons, List.zipIdx_nil, List.length_map, Option.pure_def, Option.bind_eq_bind, Option.getD_some, Option.map_some, if_true, if_false, Nat.reduceEqDiff, Nat.reduceAdd, Nat.add_zero, Nat.zero_add, Nat.zero_ne_one, reduceCtorEq, Bool.not_true, Bool.false_eq_true, eq_self, decide_true, beq_self_eq_true, freeze, lidsL, lids, List.flatMap_cons, List.flatMap_nil, ren, renL, renB, shiftρ, renR_ints, flat_rows4', freeze1, flat_ints5c, renR_rows4, *])
        | (simp (disch := omega) only [getD_ints, wrapI])
        | (with_reducible (show wcall _ false (.lit (.func (.func 19) _ _)) _ _ _ _); refine wcall_fn (h19) ?_ ?_ ?_; (next => simp [rfyL, rfy, hget, ints, take_rfy, take_rows4', flat_rows4', freeze1, take_rfy, flat_ints5c, renR_rows4, rows4_len]); (next => simp [plainL, plain, plainR, take_rows4', flat_rows4', freeze1, take_rfy, flat_ints5c, renR_rows4, rows4_len]))
        | (with_reducible (show wcallX _ false (.lit (.func (.func 19) _ _)) _ _ _ _); refine wcallX_fn (h19) ?_ ?_ ?_; (next => simp [rfyL, rfy, hget, ints, take_rfy, take_rows4', flat_rows4', freeze1, take_rfy, flat_ints5c, renR_rows4, rows4_len]); (next => simp [plainL, plain, plainR, take_rows4', flat_rows4', freeze1, take_rfy, flat_ints5c, renR_rows4, rows4_len]))
        | (with_reducible (show wcall _ false (.lit (.func (.func 25) _ _)) _ _ _ _); refine wcall_fn (h25) ?_ ?_ ?_; (next => simp [rfyL, rfy, hget, ints, take_rfy, take_rows4', flat_rows4', freeze1, take_rfy, flat_ints5c, renR_rows4, rows4_len]); (next => simp [plainL, plain, plainR, take_rows4', flat_rows4', freeze1, take_rfy, flat_ints5c, renR_rows4, rows4_len]))
        | (with_reducible (show wcallX _ false (.lit (.func (.func 25) _ _)) _ _ _ _); refine wcallX_fn (h25) ?_ ?_ ?_; (next => simp [rfyL, rfy, hget, ints, take_rfy, take_rows4', flat_rows4', freeze1, take_rfy, flat_ints5c, renR_rows4, rows4_len]); (next => simp [plainL, plain, plainR, take_rows4', flat_rows4', freeze1, take_rfy, flat_ints5c, renR_rows4, rows4_len]))
        | (with_reducible (show wcall _ false (.lit (.func (.func 27) _ _)) _ _ _ _); refine wcall_fn (h27) ?_ ?_ ?_; (next => simp [rfyL, rfy, hget, ints, take_rfy, take_rows4', flat_rows4', freeze1, take_rfy, flat_ints5c, renR_rows4, rows4_len]); (next => simp [plainL, plain, plainR, take_rows4', flat_rows4', freeze1, take_rfy, flat_ints5c, renR_rows4, rows4_len]))
        | (with_reducible (show wcallX _ false (.lit (.func (.func 27) _ _)) _ _ _ _); refine wcallX_fn (h27) ?_ ?_ ?_; (next => simp [rfyL, rfy, hget, ints, take_rfy, take_rows4', flat_rows4', freeze1, take_rfy, flat_ints5c, renR_rows4, rows4_len]); (next => simp [plainL, plain, plainR, take_rows4', flat_rows4', freeze1, take_rfy, flat_ints5c, renR_rows4, rows4_len]))
        | (with_reducible (show wcall _ false (.lit (.func (.func 28) _ _)) _ _ _ _); refine wcall_fn (h28) ?_ ?_ ?_; (next => simp [rfyL, rfy, hget, ints, take_rfy, take_rows4', flat_rows4', freeze1, take_rfy, flat_ints5c, renR_rows4, rows4_len]); (next => simp [plainL, plain, plainR, take_rows4', flat_rows4', freeze1, take_rfy, flat_ints5c, renR_rows4, rows4_len]))
        | (with_reducible (show wcallX _ false (.lit (.func (.func 28) _ _)) _ _ _ _); refine wcallX_fn (h28) ?_ ?_ ?_; (next => simp [rfyL, rfy, hget, ints, take_rfy, take_rows4', flat_rows4', freeze1, take_rfy, flat_ints5c, renR_rows4, rows4_len]); (next => simp [plainL, plain, plainR, take_rows4', flat_rows4', freeze1, take_rfy, flat_ints5c, renR_rows4, rows4_len]))
        | (with_reducible (show wcall _ false (.lit (.func (.func 53) _ _)) _ _ _ _); refine wcall_fn (h53) ?_ ?_ ?_; (next => simp [rfyL, rfy, hget, ints, take_rfy, take_rows4', take_rfy, rows4_len]); (next => simp [plainL, plain]))
        | (with_reducible (show wcallX _ false (.lit (.func (.func 53) _ _)) _ _ _ _); refine wcallX_fn (h53) ?_ ?_ ?_; (next => simp [rfyL, rfy, hget, ints, take_rfy, take_rows4', flat_rows4', freeze1, take_rfy, flat_ints5c, renR_rows4, rows4_len]); (next => simp [plainL, plain, plainR, take_rows4', flat_rows4', freeze1, take_rfy, flat_ints5c, renR_rows4, rows4_len]))
        | (with_reducible (show wcall _ false (.lit (.func (.func 29) _ _)) _ _ _ _); refine wcall_fn (h29) ?_ ?_ ?_; (next => simp [rfyL, rfy, hget, ints, take_rfy, take_rows4', flat_rows4', freeze1, take_rfy, flat_ints5c, renR_rows4, rows4_len]); (next => simp [plainL, plain, plainR, take_rows4', flat_rows4', freeze1, take_rfy, flat_ints5c, renR_rows4, rows4_len]))
        | (with_reducible (show wcallX _ false (.lit (.func (.func 29) _ _)) _ _ _ _); refine wcallX_fn (h29) ?_ ?_ ?_; (next => simp [rfyL, rfy, hget, ints, take_rfy, take_rows4', flat_rows4', freeze1, take_rfy, flat_ints5c, renR_rows4, rows4_len]); (next => simp [plainL, plain, plainR, take_rows4', flat_rows4', freeze1, take_rfy, flat_ints5c, renR_rows4, rows4_len]))
        | omega)
  · by_cases hf : fewB l.length 12 = true
    · rw [hf] at h25
      have hy : 45 < ys.length := by
        rcases Nat.lt_or_ge 45 ys.length with h | h
        · exact h
        · exact (hsm ⟨hf, h⟩).elim
      clear hsm hf
      repeat' (first
        | (with_reducible refine T_seq ?_)
        | (with_reducible refine T_reg ?_)
        | ((with_reducible refine T_calm ?_ ?_); rfl)
        | (with_reducible refine T_draw ?_)
        | (with_reducible refine T_skip ?_)
        | (with_reducible refine T_exit ?_)
        | (with_reducible refine T_block ?_)
        | (with_reducible (show T _ _ _ _ _ (.cond _ _ _) _ _); first | (refine T_cond_t rfl ?_) | (refine T_cond_f rfl ?_) | (refine T_cond rfl (fun hc => ?_) (fun hc => ?_) <;> have hd := hc <;> (try simp (disch := omega) only [wrapI] at hd) <;> have hs := hd <;> (try simp only [decide_eq_true_eq, decide_eq_false_iff_not, gt_iff_lt, Int.not_lt] at hd) <;> (try simp at hs)))
        | (with_reducible (show wdW _ _ _ (_ :: _) _ _ _); refine wdW_cons rfl ?_)
        | (with_reducible (show wcall _ false (.lit (.func (.func 19) _ _)) _ _ _ _); refine wcall_fn (h19) rfl (by simp [plainL]) ?_)
        | (with_reducible (show wcallX _ false (.lit (.func (.func 19) _ _)) _ _ _ _); refine wcallX_fn (h19) rfl (by simp [plainL, plain, plainR]) ?_)
        | (with_reducible (show wcall _ false (.lit (.func (.func 25) _ _)) _ _ _ _); refine wcall_fn (h25) rfl (by simp [plainL, plain]) ?_)
        | (with_reducible (show wcallX _ false (.lit (.func (.func 25) _ _)) _ _ _ _); refine wcallX_fn (h25) rfl (by simp [plainL, plain, plainR]) ?_)
        | (with_reducible refine wguard_split (fun hc => ?_) (fun hc => ?_) <;> have hd := hc <;> (try simp (disch := omega) only [wrapI] at hd) <;> have hs := hd <;> (try simp only [Bool.not_eq_true', Bool.not_eq_false', Bool.and_eq_true, Bool.and_eq_false_iff, Bool.or_eq_true, Bool.or_eq_false_iff, decide_eq_true_eq, decide_eq_false_iff_not, beq_iff_eq, bne_iff_ne, beq_eq_false_iff_ne, bne_eq_false_iff_eq, Bool.not_true, Bool.not_false, gt_iff_lt, ge_iff_le, Int.not_lt, Int.not_le, ne_eq, Decidable.not_not] at hd) <;> (try simp at hs))
        | (with_reducible refine wguardX_split (fun hc => ?_) (fun hc => ?_) <;> have hd := hc <;> (try simp (disch := omega) only [wrapI] at hd) <;> have hs := hd <;> (try simp only [Bool.not_eq_true', Bool.not_eq_false', Bool.and_eq_true, Bool.and_eq_false_iff, Bool.or_eq_true, Bool.or_eq_false_iff, decide_eq_true_eq, decide_eq_false_iff_not, beq_iff_eq, bne_iff_ne, beq_eq_false_iff_ne, bne_eq_false_iff_eq, Bool.not_true, Bool.not_false, gt_iff_lt, ge_iff_le, Int.not_lt, Int.not_le, ne_eq, Decidable.not_not] at hd) <;> (try simp at hs))
        | (with_reducible refine T_ret ?_)
        | (with_reducible (show leave _ _ _ _ _); first | (refine leave_of (.inr rfl) _ rfl ?_) | (refine leave_of (.inl rfl) _ rfl ?_))
        | (with_reducible (show leaveA _ _ _ _); first | (refine leaveA_of (.inr rfl) _ rfl ?_) | (refine leaveA_of (.inl rfl) _ rfl ?_))
        | (with_reducible refine wif_intro ?_ (fun hc => ?_))
        | (with_reducible refine And.intro ?_ ?_)
        | (with_reducible intro hc)
        | (simp (maxSteps := 4000000) only [wops_nil, wops_cons, wstep_none, wstep_some, wguard_ff, wrun_call, wrun_mv, wrun_pick, wrun_bin, wrun_not, wrun_len, get_mk, wop, aop, ev, look, put_some, writes, ores_some, ores_map, ores_bind, binV, thenK, boolV, intV, lenOf, hget, tupOf, List.map_cons, List.map_nil, List.length_nil, List.append_nil, List.replicate_zero, List.zipIdx_cons, List.zipIdx_nil, List.length_map, Option.pure_def, Option.bind_eq_bind, Option.map_some, if_true, if_false, Nat.reduceEqDiff, Nat.reduceAdd, Nat.zero_add, Nat.zero_ne_one, reduceCtorEq, Bool.not_true, Bool.false_eq_true, eq_self, decide_true, freeze, lidsL, lids, List.flatMap_cons, List.flatMap_nil, ren, *])
        | (simp (disch := omega) only [getD_ints, wrapI])
        | (with_reducible (show wcall _ false (.lit (.func (.func 19) _ _)) _ _ _ _); refine wcall_fn (h19) ?_ ?_ ?_; (next => simp [rfyL, rfy, hget, ints, take_rfy]); (next => simp [plainL, plain, plainR]))
        | (with_reducible (show wcallX _ false (.lit (.func (.func 19) _ _)) _ _ _ _); refine wcallX_fn (h19) ?_ ?_ ?_; (next => simp [rfyL, rfy, hget, ints, take_rfy]); (next => simp [plainL, plain, plainR]))
        | (with_reducible (show wcall _ false (.lit (.func (.func 25) _ _)) _ _ _ _); refine wcall_fn (h25) ?_ ?_ ?_; (next => simp [rfyL, rfy, hget, ints, take_rfy]); (next => simp [plainL, plain, plainR]))
        | (with_reducible (show wcallX _ false (.lit (.func (.func 25) _ _)) _ _ _ _); refine wcallX_fn (h25) ?_ ?_ ?_; (next => simp [rfyL, rfy, hget, ints, take_rfy]); (next => simp [plainL, plain, plainR]))
        | omega)
    · have hf2 : fewB l.length 12 = false := by simpa using hf
      rw [hf2] at h25
      clear hsm hf hf2
      repeat' (first
        | (with_reducible refine T_seq ?_)
        | (with_reducible refine T_reg ?_)
        | ((with_reducible refine T_calm ?_ ?_); rfl)
        | (with_reducible refine T_draw ?_)
        | (with_reducible refine T_skip ?_)
        | (with_reducible refine T_exit ?_)
        | (with_reducible refine T_block ?_)
        | (with_reducible (show T _ _ _ _ _ (.cond _ _ _) _ _); first | (refine T_cond_t rfl ?_) | (refine T_cond_f rfl ?_) | (refine T_cond rfl (fun hc => ?_) (fun hc => ?_) <;> have hd := hc <;> (try simp (disch := omega) only [wrapI] at hd) <;> have hs := hd <;> (try simp only [Bool.not_eq_true', Bool.not_eq_false', Bool.and_eq_true, Bool.and_eq_false_iff, Bool.or_eq_true, Bool.or_eq_false_iff, decide_eq_true_eq, decide_eq_false_iff_not, beq_iff_eq, bne_iff_ne, beq_eq_false_iff_ne, bne_eq_false_iff_eq, Bool.not_true, Bool.not_false, gt_iff_lt, ge_iff_le, Int.not_lt, Int.not_le, ne_eq, Decidable.not_not] at hd) <;> (try simp at hs)))
        | (with_reducible (show wdW _ _ _ (_ :: _) _ _ _); refine wdW_cons rfl ?_)
        | (with_reducible (show wcall _ false (.lit (.func (.func 19) _ _)) _ _ _ _); refine wcall_fn (h19) rfl (by simp [plainL]) ?_)
        | (with_reducible (show wcallX _ false (.lit (.func (.func 19) _ _)) _ _ _ _); refine wcallX_fn (h19) rfl (by simp [plainL, plain, plainR]) ?_)
        | (with_reducible (show wcall _ false (.lit (.func (.func 25) _ _)) _ _ _ _); refine wcall_fn (h25) rfl (by simp [plainL, plain]) ?_)
        | (with_reducible (show wcallX _ false (.lit (.func (.func 25) _ _)) _ _ _ _); refine wcallX_fn (h25) rfl (by simp [plainL, plain, plainR]) ?_)
        | (with_reducible refine wguard_split (fun hc => ?_) (fun hc => ?_) <;> have hd := hc <;> (try simp (disch := omega) only [wrapI] at hd) <;> have hs := hd <;> (try simp only [Bool.not_eq_true', Bool.not_eq_false', Bool.and_eq_true, Bool.and_eq_false_iff, Bool.or_eq_true, Bool.or_eq_false_iff, decide_eq_true_eq, decide_eq_false_iff_not, beq_iff_eq, bne_iff_ne, beq_eq_false_iff_ne, bne_eq_false_iff_eq, Bool.not_true, Bool.not_false, gt_iff_lt, ge_iff_le, Int.not_lt, Int.not_le, ne_eq, Decidable.not_not] at hd) <;> (try simp at hs))
        | (with_reducible refine wguardX_split (fun hc => ?_) (fun hc => ?_) <;> have hd := hc <;> (try simp (disch := omega) only [wrapI] at hd) <;> have hs := hd <;> (try simp only [Bool.not_eq_true', Bool.not_eq_false', Bool.and_eq_true, Bool.and_eq_false_iff, Bool.or_eq_true, Bool.or_eq_false_iff, decide_eq_true_eq, decide_eq_false_iff_not, beq_iff_eq, bne_iff_ne, beq_eq_false_iff_ne, bne_eq_false_iff_eq, Bool.not_true, Bool.not_false, gt_iff_lt, ge_iff_le, Int.not_lt, Int.not_le, ne_eq, Decidable.not_not] at hd) <;> (try simp at hs))
        | (with_reducible refine T_ret ?_)
        | (with_reducible (show leave _ _ _ _ _); first | (refine leave_of (.inr rfl) _ rfl ?_) | (refine leave_of (.inl rfl) _ rfl ?_))
        | (with_reducible (show leaveA _ _ _ _); first | (refine leaveA_of (.inr rfl) _ rfl ?_) | (refine leaveA_of (.inl rfl) _ rfl ?_))
        | (with_reducible refine wif_intro ?_ (fun hc => ?_))
        | (with_reducible refine And.intro ?_ ?_)
        | (with_reducible intro hc)
        | (simp (maxSteps := 4000000) only [wops_nil, wops_cons, wstep_none, wstep_some, wguard_tf, wrun_call, wrun_mv, wrun_pick, wrun_not, get_mk, wop, aop, ev, look, put_some, writes, ores_some, thenK, boolV, tupOf, List.map_cons, List.map_nil, List.length_nil, List.append_nil, List.replicate_zero, List.zipIdx_cons, List.zipIdx_nil, if_true, if_false, Nat.reduceEqDiff, Nat.reduceAdd, Nat.zero_add, Nat.zero_ne_one, reduceCtorEq, Bool.not_true, Bool.not_false, eq_self, freeze, lidsL, lids, List.flatMap_cons, List.flatMap_nil, ren, *])
        | (simp (disch := omega) only [getD_ints, wrapI])
        | (with_reducible (show wcall _ false (.lit (.func (.func 19) _ _)) _ _ _ _); refine wcall_fn (h19) ?_ ?_ ?_; (next => simp [rfyL, rfy, hget, ints, take_rfy]); (next => simp [plainL, plain, plainR]))
        | (with_reducible (show wcallX _ false (.lit (.func (.func 19) _ _)) _ _ _ _); refine wcallX_fn (h19) ?_ ?_ ?_; (next => simp [rfyL, rfy, hget, ints, take_rfy]); (next => simp [plainL, plain, plainR]))
        | (with_reducible (show wcall _ false (.lit (.func (.func 25) _ _)) _ _ _ _); refine wcall_fn (h25) ?_ ?_ ?_; (next => simp [rfyL, rfy, hget, ints, take_rfy]); (next => simp [plainL, plain, plainR]))
        | (with_reducible (show wcallX _ false (.lit (.func (.func 25) _ _)) _ _ _ _); refine wcallX_fn (h25) ?_ ?_ ?_; (next => simp [rfyL, rfy, hget, ints, take_rfy]); (next => simp [plainL, plain, plainR]))
        | omega)
end Go.Abs
