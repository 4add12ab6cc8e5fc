import Derived.Test.YtodheeifecoebaaK28x
import Derived.Test.YtodheeifecoebaaK27x
set_option linter.all false
set_option linter.unusedVariables false
set_option linter.unusedSimpArgs false
set_option linter.unusedSectionVars false
namespace Go.Abs
open Go.Proofs
def besL (w : Int) (l : List Int) (k : Nat) : Bool := besideB w (l.getD k 0) (l.getD ((k + 1) % l.length) 0)
def loopSum (w : Int) (ph l : List Int) : Int × Int :=
  if ¬ (2 ≤ l.length ∧ l.length ≤ 144) then (0, 10)
  else if ¬ (∀ k, k < l.length → thereB ph (l.getD k 0) = true) then (0, 6)
  else if ¬ (∀ k, k < l.length → besL w l k = true) then (0, 14)
  else (sumL ph l l.length, 0)
set_option maxHeartbeats 8000000 in
theorem k110 (w : Int) (nil nl : Bool) (ph l : List Int) (hl : ph.length < 1000000) (hll : l.length < 1000000) (hp : okPh ph) (hw : 1 ≤ w ∧ w ≤ 1000000) : Fn Try.prog 110 [fmap w nil ph, ints nl l] (.tup [i64 (loopSum w ph l).1, i64 (loopSum w ph l).2]) [] := by
  refine fn_of e110 ?_
  have hl2 : ph.length < 4611686018427387904 := by omega
  by_cases hn : 2 ≤ l.length ∧ l.length ≤ 144
  · have hls : id (loopSum w ph l = _) := show loopSum w ph l = _ from by unfold loopSum; rw [if_neg (by omega)]
    have hb : (decide (2 ≤ (l.length : Int)) && decide ((l.length : Int) ≤ 144)) = true := by simp; omega
    unfold c110
    repeat' (first
      | ((with_reducible refine T_calm ?_ ?_); rfl)
      | with_reducible first
        | refine T_seq ?_
        | refine T_reg ?_
        | refine T_draw ?_
        | refine T_skip ?_
        | refine T_exit ?_
        | refine T_block ?_
        | refine T_cond_t rfl ?_
        | refine T_cond_f rfl ?_
        | refine wdW_cons rfl ?_
        | (show wcall _ false (.lit (.func (.func 32) _ _)) _ _ _ _; refine wcall_fn (k32 _ _ _) rfl (by simp [plainL, plain]) ?_)
        | (show wcallX _ false (.lit (.func (.func 32) _ _)) _ _ _ _; refine wcallX_fn (k32 _ _ _) rfl (by simp [plainL, plain, plainR, hb]) ?_)
        | ((first | refine T_cond rfl (fun hc => ?_) (fun hc => ?_) | refine wguard_split (fun hc => ?_) (fun hc => ?_) | refine wguardX_split (fun hc => ?_) (fun hc => ?_)) <;> have hd := hc <;> (try simp (disch := omega) only [wrapI] at hd) <;> have hs := hd <;> (try simp only [Bool.not_eq_true', Bool.not_eq_false', Bool.and_eq_true, Bool.and_eq_false_iff, Bool.or_eq_true, Bool.or_eq_false_iff, decide_eq_true_eq, decide_eq_false_iff_not, beq_iff_eq, bne_iff_ne, beq_eq_false_iff_ne, bne_eq_false_iff_eq, Bool.not_true, Bool.not_false, gt_iff_lt, ge_iff_le, Int.not_lt, Int.not_le, ne_eq, Decidable.not_not] at hd) <;> (try simp at hs))
        | refine T_ret ?_
        | refine leave_of (.inr rfl) _ rfl ?_
        | refine leave_of (.inl rfl) _ rfl ?_
        | refine leaveA_of (.inr rfl) _ rfl ?_
        | refine leaveA_of (.inl rfl) _ rfl ?_
        | refine wif_intro ?_ (fun hc => ?_)
        | refine And.intro ?_ ?_
        | intro hc
      | simp (maxSteps := 4000000) only [wops_nil, wops_cons, wstep_none, wrun_call, wrun_mv, wrun_not, wrun_len, wrun_box, wop, aop, ev, look, put_some, writes, ores_some, ores_map, ores_bind, thenK, boolV, intV, lenOf, hget, AV.parts, isOne, List.map_cons, List.map_nil, List.length_cons, List.length_nil, List.getElem?_cons_zero, List.set_cons_zero, List.nil_append, List.append_nil, List.replicate_zero, List.replicate_succ, List.zipIdx_cons, List.zipIdx_nil, List.all_cons, List.all_nil, List.length_map, Option.pure_def, Option.bind_eq_bind, if_true, if_false, Nat.reduceEqDiff, Nat.reduceAdd, Nat.add_zero, Nat.zero_add, Nat.zero_ne_one, reduceCtorEq, Bool.not_true, Bool.and_true, eq_self, true_and, and_self, freeze, lidsL, lids, List.flatMap_cons, List.flatMap_nil, List.all_cons, ren, *]
      | simp (disch := omega) only [getD_ints, wrapI]
      | (with_reducible show wcall _ false (.lit (.func (.func 32) _ _)) _ _ _ _; refine wcall_fn (k32 _ _ _) ?_ ?_ ?_; (next => simp [rfyL, rfy, hget, ints, take_rfy, hb]); (next => simp [plainL, plain, plainR, hb]))
      | (with_reducible show wcallX _ false (.lit (.func (.func 32) _ _)) _ _ _ _; refine wcallX_fn (k32 _ _ _) ?_ ?_ ?_; (next => simp [rfyL, rfy, hget, ints, take_rfy, hb]); (next => simp [plainL, plain, plainR, hb]))
      | omega)
    refine T_for [1, 2, 6] (fun k => ⟨[(1, ints nl l), (2, .loc 0 0 0), (6, i64 k)], [Blk.cells true false 2 [[i64 w, ints nil ph]]]⟩) l.length (fun k => ∀ j, j < k → thereB ph (l.getD j 0) = true) 0 rfl (fun j hj => by omega) (Nat.zero_le _) ?_
    intro k hk hI
    unfold c110l0
    replace hI : id (∀ j, j < k → thereB ph (l.getD j 0) = true) := hI
    by_cases hkn : k < l.length
    · have h124 := k124 w nil ph (l.getD k 0) hl2
      rw [there_eq hp] at h124
      cases ht : thereB ph (l.getD k 0) with
      | false =>
        rw [ht] at h124
        have hls2 : loopSum w ph l = (0, 6) := by
          rw [show loopSum w ph l = _ from hls, if_pos (fun h => by rw [h k hkn] at ht; simp at ht)]
        replace hls := True.intro
        repeat' (first
          | ((with_reducible refine T_calm ?_ ?_); rfl)
          | with_reducible first
            | refine T_seq ?_
            | refine T_reg ?_
            | refine T_draw ?_
            | refine T_skip ?_
            | refine T_exit ?_
            | refine T_block ?_
            | refine T_cond_t rfl ?_
            | refine T_cond_f rfl ?_
            | refine wdW_cons rfl ?_
            | (show wcall _ false (.lit (.func (.func 124) _ _)) _ _ _ _; refine wcall_fn (h124) rfl (by simp [plainL, plain, plainR, hls2]) ?_)
            | (show wcallX _ false (.lit (.func (.func 124) _ _)) _ _ _ _; refine wcallX_fn (h124) rfl (by simp [plainL, plain]) ?_)
            | ((first | refine T_cond rfl (fun hc => ?_) (fun hc => ?_) | refine wguard_split (fun hc => ?_) (fun hc => ?_) | refine wguardX_split (fun hc => ?_) (fun hc => ?_)) <;> have hd := hc <;> (try simp (disch := omega) only [wrapI] at hd) <;> have hs := hd <;> (try simp only [decide_eq_true_eq, decide_eq_false_iff_not, Int.not_lt] at hd) <;> (try simp at hs))
            | refine T_ret ?_
            | refine leave_of (.inr rfl) _ rfl ?_
            | refine leave_of (.inl rfl) _ rfl ?_
            | refine leaveA_of (.inr rfl) _ rfl ?_
            | refine leaveA_of (.inl rfl) _ rfl ?_
            | refine wif_intro ?_ (fun hc => ?_)
            | refine And.intro ?_ ?_
            | intro hc
          | simp (maxSteps := 4000000) only [wops_nil, wops_cons, wstep_none, wrun_mv, wrun_bin, wrun_not, wrun_load, wrun_iaddrS, wrun_len, wrunX_mv, wrunX_not, wrunX_load, wrunX_iaddrS, wdW_nil, wstepX_none, wrunX_call, get_mk, wop, aop, ev, look, put_some, writes, ores_some, ores_ite_none, ores_map, ores_bind, binV, thenK, blockK, boolV, intV, lenOf, value, cut, hget, toLits, mkAgg, tupOf, List.map_cons, List.map_nil, List.length_cons, List.length_nil, List.getElem?_cons_zero, List.take_succ_cons, List.take_nil, List.drop_zero, List.append_nil, List.replicate_zero, List.getD_cons_zero, List.length_map, Option.pure_def, Option.bind_eq_bind, Option.getD_some, Option.map_some, Option.map_none, if_true, if_false, Nat.reduceEqDiff, Nat.reduceAdd, Nat.zero_add, reduceCtorEq, Bool.not_false, Bool.false_eq_true, eq_self, true_and, and_true, and_self, decide_true, freeze, lidsL, lids, List.flatMap_cons, List.flatMap_nil, ren, renL, *]
          | simp (disch := omega) only [getD_ints]
          | (with_reducible show wcall _ false (.lit (.func (.func 124) _ _)) _ _ _ _; refine wcall_fn (h124) ?_ ?_ ?_; (next => simp [rfyL, rfy, hget, ints, take_rfy, hls2]); (next => simp [plainL, plain, plainR, hls2]))
          | (with_reducible show wcallX _ false (.lit (.func (.func 124) _ _)) _ _ _ _; refine wcallX_fn (h124) ?_ ?_ ?_; (next => simp [rfyL, rfy, hget, ints, take_rfy, hls2]); (next => simp [plainL, plain, plainR, hls2]))
          | omega)
      | true =>
        rw [ht] at h124
        repeat' (first
          | ((with_reducible refine T_calm ?_ ?_); rfl)
          | with_reducible first
            | refine T_seq ?_
            | refine T_reg ?_
            | refine T_draw ?_
            | refine T_skip ?_
            | refine T_exit ?_
            | refine T_block ?_
            | refine T_cond_t rfl ?_
            | refine T_cond_f rfl ?_
            | refine wdW_cons rfl ?_
            | (show wcall _ false (.lit (.func (.func 124) _ _)) _ _ _ _; refine wcall_fn (h124) rfl (by simp [plainL, plain, plainR]) ?_)
            | (show wcallX _ false (.lit (.func (.func 124) _ _)) _ _ _ _; refine wcallX_fn (h124) rfl (by simp [plainL, plain]) ?_)
            | ((first | refine T_cond rfl (fun hc => ?_) (fun hc => ?_) | refine wguard_split (fun hc => ?_) (fun hc => ?_) | refine wguardX_split (fun hc => ?_) (fun hc => ?_)) <;> have hd := hc <;> (try simp (disch := omega) only [wrapI] at hd) <;> have hs := hd <;> (try simp only [decide_eq_true_eq, decide_eq_false_iff_not, Int.not_lt] at hd) <;> (try simp at hs))
            | refine T_ret ?_
            | refine leave_of (.inr rfl) _ rfl ?_
            | refine leave_of (.inl rfl) _ rfl ?_
            | refine leaveA_of (.inr rfl) _ rfl ?_
            | refine leaveA_of (.inl rfl) _ rfl ?_
            | refine wif_intro ?_ (fun hc => ?_)
            | refine And.intro ?_ ?_
            | intro hc
          | simp (maxSteps := 4000000) only [wops_nil, wops_cons, wstep_none, wrun_mv, wrun_bin, wrun_not, wrun_load, wrun_iaddrS, wrun_len, wrunX_mv, wrunX_not, wrunX_load, wrunX_iaddrS, wdW_nil, wstepX_none, wrunX_call, wop, aop, ev, look, put_some, writes, ores_some, ores_ite_none, ores_map, ores_bind, binV, thenK, blockK, boolV, intV, lenOf, value, cut, hget, toLits, mkAgg, List.map_cons, List.map_nil, List.length_cons, List.length_nil, List.getElem?_cons_zero, List.take_succ_cons, List.take_nil, List.drop_zero, List.append_nil, List.replicate_zero, List.getD_cons_zero, List.length_map, Option.pure_def, Option.bind_eq_bind, Option.getD_some, Option.map_some, Option.map_none, if_true, if_false, Nat.reduceEqDiff, Nat.reduceAdd, Nat.zero_add, reduceCtorEq, Bool.not_true, Bool.false_eq_true, eq_self, true_and, and_true, and_self, decide_true, freeze, lidsL, lids, List.flatMap_cons, List.flatMap_nil, ren, *]
          | simp (disch := omega) only [getD_ints, wrapI]
          | (with_reducible show wcall _ false (.lit (.func (.func 124) _ _)) _ _ _ _; refine wcall_fn (h124) ?_ ?_ ?_; (next => simp [rfyL, rfy, hget, ints, take_rfy]); (next => simp [plainL, plain, plainR]))
          | (with_reducible show wcallX _ false (.lit (.func (.func 124) _ _)) _ _ _ _; refine wcallX_fn (h124) ?_ ?_ ?_; (next => simp [rfyL, rfy, hget, ints, take_rfy]); (next => simp [plainL, plain, plainR]))
          | omega)
        · rename_i j
          have hj : j < k + 1 := hc
          rcases Nat.lt_succ_iff_lt_or_eq.1 hj with h | h
          · exact hI j h
          · rw [h]; exact ht
        · exact rfl
    · have hall : id (∀ j, j < l.length → thereB ph (l.getD j 0) = true) := fun j hj => hI j (by omega)
      have hrng : ∀ j, j < l.length → 0 ≤ l.getD j 0 ∧ l.getD j 0 < ph.length := fun j hj => thereB_r (hall j hj)
      replace hrng : id (∀ j, j < l.length → 0 ≤ l.getD j 0 ∧ l.getD j 0 < ph.length) := hrng
      repeat' (first
        | ((with_reducible refine T_calm ?_ ?_); rfl)
        | with_reducible first
          | refine T_seq ?_
          | refine T_reg ?_
          | refine T_draw ?_
          | refine T_skip ?_
          | refine T_exit ?_
          | refine T_block ?_
          | refine T_cond_t rfl ?_
          | refine T_cond_f rfl ?_
          | refine wdW_cons rfl ?_
          | ((first | refine T_cond rfl (fun hc => ?_) (fun hc => ?_) | refine wguard_split (fun hc => ?_) (fun hc => ?_) | refine wguardX_split (fun hc => ?_) (fun hc => ?_)) <;> have hd := hc <;> (try simp (disch := omega) only [wrapI] at hd) <;> have hs := hd <;> (try simp only [decide_eq_true_eq, decide_eq_false_iff_not, Int.not_lt] at hd) <;> (try simp at hs))
          | refine T_ret ?_
          | refine leave_of (.inr rfl) _ rfl ?_
          | refine leave_of (.inl rfl) _ rfl ?_
          | refine leaveA_of (.inr rfl) _ rfl ?_
          | refine leaveA_of (.inl rfl) _ rfl ?_
          | refine wif_intro ?_ (fun hc => ?_)
          | refine And.intro ?_ ?_
          | intro hc
        | simp (maxSteps := 4000000) only [wops_nil, wops_cons, wstep_none, wrun_mv, wrun_bin, wrun_load, wrun_iaddrS, wrun_len, wrunX_mv, wrunX_load, wrunX_iaddrS, wstepX_none, wop, aop, ev, look, put_some, writes, ores_some, ores_none, ores_ite_none, ores_map, ores_bind, binV, thenK, blockK, intV, lenOf, value, cut, hget, toLits, mkAgg, List.length_cons, List.length_nil, List.getElem?_cons_zero, List.take_succ_cons, List.take_nil, List.drop_zero, List.append_nil, List.replicate_zero, List.getD_cons_zero, List.length_map, Option.pure_def, Option.bind_eq_bind, Option.getD_some, Option.map_some, Option.map_none, if_true, if_false, Nat.reduceEqDiff, Nat.reduceAdd, Nat.zero_add, reduceCtorEq, Bool.false_eq_true, eq_self, and_true, and_self, false_and, decide_true, *]
        | simp (disch := omega) only [getD_ints]
        | omega)
      clear hkn hI hk
      refine T_for [1, 2, 7, 8] (fun k => ⟨[(1, ints nl l), (2, .loc 0 0 0), (7, i64 (sumL ph l k)), (8, i64 k)], [Blk.cells true false 2 [[i64 w, ints nil ph]]]⟩) l.length (fun k => ∀ j, j < k → besL w l j = true) 0 rfl (fun j hj => by omega) (Nat.zero_le _) ?_
      intro k hk hI
      unfold c110l1
      replace hI : id (∀ j, j < k → besL w l j = true) := hI
      have hr := sumL_r ph l k
      by_cases hkn : k < l.length
      · have h1 := hrng k hkn
        have h3 := Nat.mod_lt (k + 1) (show 0 < l.length by omega)
        have h2 := hrng ((k + 1) % l.length) h3
        have e1 : ((k : Int) + 1).tmod (l.length : Int) = (((k + 1) % l.length : Nat) : Int) := tmod_nat (k + 1) l.length
        have h4 := stepI_r ph (l.getD k 0) (l.getD ((k + 1) % l.length) 0)
        have h64 := k64 w nil ph (l.getD k 0) (l.getD ((k + 1) % l.length) 0) hl hp hw
        unfold refStep at h64
        rw [there_eq hp, there_eq hp, hall k hkn, hall _ h3] at h64
        cases hb2 : besL w l k with
        | false =>
          rw [show besideB w (l.getD k 0) (l.getD ((k + 1) % l.length) 0) = false from hb2] at h64
          have hls2 : loopSum w ph l = (0, 14) := by
            rw [show loopSum w ph l = _ from hls, if_neg (fun h => h hall), if_pos (fun h => by rw [h k hkn] at hb2; simp at hb2)]
          replace hls := True.intro
          simp only [Bool.and_self, if_true, Bool.false_eq_true, if_false] at h64
          repeat' (first
            | ((with_reducible refine T_calm ?_ ?_); rfl)
            | with_reducible first
              | refine T_seq ?_
              | refine T_reg ?_
              | refine T_draw ?_
              | refine T_skip ?_
              | refine T_exit ?_
              | refine T_block ?_
              | refine T_cond_t rfl ?_
              | refine T_cond_f rfl ?_
              | refine wdW_cons rfl ?_
              | (show wcall _ false (.lit (.func (.func 64) _ _)) _ _ _ _; refine wcall_fn (h64) rfl (by simp [plainL, plain, plainR, e1, Int.toNat_natCast, hls2]) ?_)
              | (show wcallX _ false (.lit (.func (.func 64) _ _)) _ _ _ _; refine wcallX_fn (h64) rfl (by simp [plainL, plain]) ?_)
              | ((first | refine T_cond rfl (fun hc => ?_) (fun hc => ?_) | refine wguard_split (fun hc => ?_) (fun hc => ?_) | refine wguardX_split (fun hc => ?_) (fun hc => ?_)) <;> have hd := hc <;> (try simp (disch := omega) only [wrapI] at hd) <;> have hs := hd <;> (try simp only [decide_eq_true_eq, decide_eq_false_iff_not, Int.not_lt] at hd) <;> (try simp at hs))
              | refine T_ret ?_
              | refine leave_of (.inr rfl) _ rfl ?_
              | refine leave_of (.inl rfl) _ rfl ?_
              | refine leaveA_of (.inr rfl) _ rfl ?_
              | refine leaveA_of (.inl rfl) _ rfl ?_
              | refine wif_intro ?_ (fun hc => ?_)
              | refine And.intro ?_ ?_
              | intro hc
            | simp (maxSteps := 4000000) only [wops_nil, wops_cons, wstep_none, wrun_mv, wrun_bin, wrun_ext, wrun_load, wrun_iaddrS, wrun_len, wrunX_mv, wrunX_bin, wrunX_ext, wrunX_load, wrunX_iaddrS, wrunX_len, wdW_nil, wstepX_none, wrunX_call, get_mk, wop, aop, ev, look, put_some, writes, ores_some, ores_ite_none, ores_none_ite, ores_map, ores_bind, binV, thenK, blockK, intV, lenOf, value, cut, hget, toLits, mkAgg, tupOf, List.map_cons, List.map_nil, List.length_cons, List.length_nil, List.getElem?_cons_zero, List.getElem?_cons_succ, List.take_succ_cons, List.take_nil, List.drop_zero, List.append_nil, List.replicate_zero, List.getD_cons_zero, List.length_map, Option.pure_def, Option.bind_eq_bind, Option.getD_some, Option.map_some, Option.map_none, Option.bind_some, if_true, if_false, Nat.reduceEqDiff, Nat.reduceAdd, Nat.zero_add, reduceCtorEq, Bool.false_eq_true, eq_self, true_and, and_true, and_self, decide_true, freeze, lidsL, lids, List.flatMap_cons, List.flatMap_nil, ren, renL, Int.toNat_natCast, *]
            | simp (disch := omega) only [getD_ints, wrapI]
            | (with_reducible show wcall _ false (.lit (.func (.func 64) _ _)) _ _ _ _; refine wcall_fn (h64) ?_ ?_ ?_; (next => simp [rfyL, rfy, hget, ints, take_rfy, e1, Int.toNat_natCast, hls2]); (next => simp [plainL, plain, plainR, e1, Int.toNat_natCast, hls2]))
            | (with_reducible show wcallX _ false (.lit (.func (.func 64) _ _)) _ _ _ _; refine wcallX_fn (h64) ?_ ?_ ?_; (next => simp [rfyL, rfy, hget, ints, take_rfy, e1, Int.toNat_natCast, hls2]); (next => simp [plainL, plain, plainR, e1, Int.toNat_natCast, hls2]))
            | omega)
        | true =>
          rw [show besideB w (l.getD k 0) (l.getD ((k + 1) % l.length) 0) = true from hb2] at h64
          simp only [Bool.and_self, if_true] at h64
          repeat' (first
            | ((with_reducible refine T_calm ?_ ?_); rfl)
            | with_reducible first
              | refine T_seq ?_
              | refine T_reg ?_
              | refine T_draw ?_
              | refine T_skip ?_
              | refine T_exit ?_
              | refine T_block ?_
              | refine T_cond_t rfl ?_
              | refine T_cond_f rfl ?_
              | refine wdW_cons rfl ?_
              | (show wcall _ false (.lit (.func (.func 64) _ _)) _ _ _ _; refine wcall_fn (h64) rfl (by simp [plainL, plain, plainR, e1, Int.toNat_natCast]) ?_)
              | (show wcallX _ false (.lit (.func (.func 64) _ _)) _ _ _ _; refine wcallX_fn (h64) rfl (by simp [plainL, plain]) ?_)
              | ((first | refine T_cond rfl (fun hc => ?_) (fun hc => ?_) | refine wguard_split (fun hc => ?_) (fun hc => ?_) | refine wguardX_split (fun hc => ?_) (fun hc => ?_)) <;> have hd := hc <;> (try simp (disch := omega) only [wrapI] at hd) <;> have hs := hd <;> (try simp only [decide_eq_true_eq, decide_eq_false_iff_not, Int.not_lt] at hd) <;> (try simp at hs))
              | refine T_ret ?_
              | refine leave_of (.inr rfl) _ rfl ?_
              | refine leave_of (.inl rfl) _ rfl ?_
              | refine leaveA_of (.inr rfl) _ rfl ?_
              | refine leaveA_of (.inl rfl) _ rfl ?_
              | refine wif_intro ?_ (fun hc => ?_)
              | refine And.intro ?_ ?_
              | intro hc
            | simp (maxSteps := 4000000) only [wops_nil, wops_cons, wstep_none, wrun_mv, wrun_bin, wrun_ext, wrun_load, wrun_iaddrS, wrun_len, wrunX_mv, wrunX_bin, wrunX_ext, wrunX_load, wrunX_iaddrS, wrunX_len, wdW_nil, wstepX_none, wrunX_call, get_mk, wop, aop, ev, look, put_some, writes, ores_some, ores_ite_none, ores_none_ite, ores_map, ores_bind, binV, thenK, blockK, intV, lenOf, value, cut, hget, toLits, mkAgg, tupOf, List.map_cons, List.map_nil, List.length_cons, List.length_nil, List.getElem?_cons_zero, List.getElem?_cons_succ, List.take_succ_cons, List.take_nil, List.drop_zero, List.append_nil, List.replicate_zero, List.getD_cons_zero, List.length_map, Option.pure_def, Option.bind_eq_bind, Option.getD_some, Option.map_some, Option.map_none, Option.bind_some, if_true, if_false, Nat.reduceEqDiff, Nat.reduceAdd, Nat.zero_add, reduceCtorEq, Bool.false_eq_true, eq_self, true_and, and_true, and_self, decide_true, freeze, lidsL, lids, List.flatMap_cons, List.flatMap_nil, ren, renL, Int.toNat_natCast, *]
            | simp (disch := omega) only [getD_ints, wrapI]
            | (with_reducible show wcall _ false (.lit (.func (.func 64) _ _)) _ _ _ _; refine wcall_fn (h64) ?_ ?_ ?_; (next => simp [rfyL, rfy, hget, ints, take_rfy, e1, Int.toNat_natCast]); (next => simp [plainL, plain, plainR, e1, Int.toNat_natCast]))
            | (with_reducible show wcallX _ false (.lit (.func (.func 64) _ _)) _ _ _ _; refine wcallX_fn (h64) ?_ ?_ ?_; (next => simp [rfyL, rfy, hget, ints, take_rfy, e1, Int.toNat_natCast]); (next => simp [plainL, plain, plainR, e1, Int.toNat_natCast]))
            | omega)
          · rename_i j
            have hj : j < k + 1 := hc
            rcases Nat.lt_succ_iff_lt_or_eq.1 hj with h | h
            · exact hI j h
            · rw [h]; exact hb2
          · exact rfl
      · have hk2 : k = l.length := by omega
        subst hk2
        have hls2 : loopSum w ph l = (sumL ph l l.length, 0) := by
          rw [show loopSum w ph l = _ from hls, if_neg (fun h => h hall), if_neg (fun h => h hI)]
        replace hls := True.intro
        repeat' (first
          | ((with_reducible refine T_calm ?_ ?_); rfl)
          | with_reducible first
            | refine T_seq ?_
            | refine T_reg ?_
            | refine T_draw ?_
            | refine T_skip ?_
            | refine T_exit ?_
            | refine T_block ?_
            | refine T_cond_t rfl ?_
            | refine T_cond_f rfl ?_
            | refine wdW_cons rfl ?_
            | ((first | refine T_cond rfl (fun hc => ?_) (fun hc => ?_) | refine wguard_split (fun hc => ?_) (fun hc => ?_) | refine wguardX_split (fun hc => ?_) (fun hc => ?_)) <;> have hd := hc <;> (try simp (disch := omega) only [wrapI] at hd) <;> have hs := hd <;> (try simp only [decide_eq_true_eq, decide_eq_false_iff_not, Int.not_lt] at hd) <;> (try simp at hs))
            | refine T_ret ?_
            | refine leave_of (.inr rfl) _ rfl ?_
            | refine leave_of (.inl rfl) _ rfl ?_
            | refine leaveA_of (.inr rfl) _ rfl ?_
            | refine leaveA_of (.inl rfl) _ rfl ?_
            | refine wif_intro ?_ (fun hc => ?_)
            | refine And.intro ?_ ?_
            | intro hc
          | simp (maxSteps := 4000000) only [wops_nil, wops_cons, wstep_none, wrun_mv, wrun_bin, wrun_len, get_mk, wop, aop, ev, look, put_some, writes, ores_some, ores_map, ores_bind, binV, thenK, blockK, intV, lenOf, hget, tupOf, List.length_cons, List.length_nil, List.append_nil, List.replicate_zero, List.length_map, Option.pure_def, Option.bind_eq_bind, Option.map_some, if_true, if_false, Nat.reduceEqDiff, Nat.zero_add, reduceCtorEq, eq_self, false_and, ren, renL, *]
          | simp (disch := omega) only [getD_ints, wrapI]
          | omega)
  · have hb : (decide (2 ≤ (l.length : Int)) && decide ((l.length : Int) ≤ 144)) = false := by simp; omega
    have hls2 : loopSum w ph l = (0, 10) := by unfold loopSum; rw [if_pos hn]
    unfold c110
    repeat' (first
      | ((with_reducible refine T_calm ?_ ?_); rfl)
      | with_reducible first
        | refine T_seq ?_
        | refine T_reg ?_
        | refine T_draw ?_
        | refine T_skip ?_
        | refine T_exit ?_
        | refine T_block ?_
        | refine T_cond_t rfl ?_
        | refine T_cond_f rfl ?_
        | refine wdW_cons rfl ?_
        | (show wcall _ false (.lit (.func (.func 32) _ _)) _ _ _ _; refine wcall_fn (k32 _ _ _) rfl (by simp [plainL, plain]) ?_)
        | (show wcallX _ false (.lit (.func (.func 32) _ _)) _ _ _ _; refine wcallX_fn (k32 _ _ _) rfl (by simp [plainL, plain, plainR, hb, hls2]) ?_)
        | ((first | refine T_cond rfl (fun hc => ?_) (fun hc => ?_) | refine wguard_split (fun hc => ?_) (fun hc => ?_) | refine wguardX_split (fun hc => ?_) (fun hc => ?_)) <;> have hd := hc <;> (try simp (disch := omega) only [wrapI] at hd) <;> have hs := hd <;> (try simp only [Bool.not_eq_true', Bool.not_eq_false', Bool.and_eq_true, Bool.and_eq_false_iff, Bool.or_eq_true, Bool.or_eq_false_iff, decide_eq_true_eq, decide_eq_false_iff_not, beq_iff_eq, bne_iff_ne, beq_eq_false_iff_ne, bne_eq_false_iff_eq, Bool.not_true, Bool.not_false, gt_iff_lt, ge_iff_le, Int.not_lt, Int.not_le, ne_eq, Decidable.not_not] at hd) <;> (try simp at hs))
        | refine T_ret ?_
        | refine leave_of (.inr rfl) _ rfl ?_
        | refine leave_of (.inl rfl) _ rfl ?_
        | refine leaveA_of (.inr rfl) _ rfl ?_
        | refine leaveA_of (.inl rfl) _ rfl ?_
        | refine wif_intro ?_ (fun hc => ?_)
        | refine And.intro ?_ ?_
        | intro hc
      | simp (maxSteps := 4000000) only [wops_nil, wops_cons, wstep_none, wrun_call, wrun_mv, wrun_not, wrun_len, wrun_box, get_mk, wop, aop, ev, look, put_some, writes, ores_some, ores_map, ores_bind, thenK, boolV, intV, lenOf, hget, AV.parts, isOne, tupOf, List.map_cons, List.map_nil, List.length_cons, List.length_nil, List.getElem?_cons_zero, List.set_cons_zero, List.nil_append, List.append_nil, List.replicate_zero, List.replicate_succ, List.zipIdx_cons, List.zipIdx_nil, List.all_cons, List.all_nil, List.length_map, Option.pure_def, Option.bind_eq_bind, if_true, if_false, Nat.reduceEqDiff, Nat.reduceAdd, Nat.add_zero, Nat.zero_add, Nat.zero_ne_one, reduceCtorEq, Bool.not_false, Bool.and_true, eq_self, true_and, and_self, freeze, lidsL, lids, List.flatMap_cons, List.flatMap_nil, List.all_cons, ren, renL, *]
      | simp (disch := omega) only [getD_ints, wrapI]
      | (with_reducible show wcall _ false (.lit (.func (.func 32) _ _)) _ _ _ _; refine wcall_fn (k32 _ _ _) ?_ ?_ ?_; (next => simp [rfyL, rfy, hget, ints, take_rfy, hb, hls2]); (next => simp [plainL, plain, plainR, hb, hls2]))
      | (with_reducible show wcallX _ false (.lit (.func (.func 32) _ _)) _ _ _ _; refine wcallX_fn (k32 _ _ _) ?_ ?_ ?_; (next => simp [rfyL, rfy, hget, ints, take_rfy, hb, hls2]); (next => simp [plainL, plain, plainR, hb, hls2]))
      | omega)
end Go.Abs
