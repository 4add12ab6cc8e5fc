import Derived.Test.YtodheeifecoebaaK80x
set_option linter.all false
set_option linter.unusedVariables false
set_option linter.unusedSimpArgs false
set_option linter.unusedSectionVars false
namespace Go.Abs
open Go.Proofs
theorem sumC_r {l : List Rd} {ys : List Int} (hl : ∀ k, k < ys.length → -1000000 ≤ (arcOf l (ys.getD k 0)).len ∧ (arcOf l (ys.getD k 0)).len ≤ 1000000) : ∀ k : Nat, k ≤ ys.length → -1000000 * (k : Int) ≤ sumC l ys k ∧ sumC l ys k ≤ 1000000 * k
  | 0, _ => by simp [sumC]
  | k + 1, hk => by
    have h1 := sumC_r hl k (by omega)
    have h2 := hl k (by omega)
    unfold sumC
    omega
theorem arcOf_len {l : List Rd} {z : Int} (hr : rdErr z l = 0) {s : Int} (hs : s ≠ 0 ∧ -(l.length : Int) ≤ s ∧ s ≤ l.length) : -1000000 ≤ (arcOf l s).len ∧ (arcOf l s).len ≤ 1000000 := by
  have h := rdErr_ok hr
  unfold arcOf
  split
  · have := h (s - 1).toNat (by omega); dsimp only; omega
  · have := h (-s - 1).toNat (by omega); dsimp only; omega
set_option maxHeartbeats 8000000 in
theorem k52 {z : Nat} {nil ny : Bool} {l : List Rd} {ys : List Int} (hy : ys.length < 1000000) (hr : checkR z l = 0) : Fn Try.prog 52 [rdgs nil l, ints ny ys] (.tup [i64 (checkCl l ys).1, i64 (checkCl l ys).2]) [] := by
  obtain ⟨hz, hl, hrd⟩ := checkR_ok hr
  obtain ⟨hA, hN, hok⟩ := arcs_ok hrd
  have hrl := rows4_len l
  have e0 : ∀ x : Int, 0 - x = -x := fun x => by omega
  have ewl : IntKind.i64.wrap (-(l.length : Int)) = -(l.length : Int) := wrapI (by omega) (by omega)
  refine fn_of e52 ?_
  by_cases hn : 1 ≤ ys.length ∧ ys.length ≤ 40
  · have hb1 : (decide (1 ≤ (ys.length : Int)) && decide ((ys.length : Int) ≤ 40)) = true := by simp; omega
    unfold c52
    repeat' (first
      | with_reducible first
        | refine T_seq ?_
        | refine T_reg ?_
        | refine T_skip ?_
        | refine T_exit ?_
        | refine T_block ?_
        | refine T_cond_t rfl ?_
        | refine T_cond_f rfl ?_
        | (show wcall _ false (.lit (.func (.func 32) _ _)) _ _ _ _; refine wcall_fn (k32 _ _ _) rfl (by simp [plainL, plain]) ?_)
        | ((first | refine T_cond rfl (fun hc => ?_) (fun hc => ?_) | refine wguard_split (fun hc => ?_) (fun hc => ?_)) <;> have hd := hc <;> (try simp (disch := omega) only [wrapI] at hd) <;> have hs := hd <;> (try simp only [Bool.not_eq_true', Bool.not_eq_false', Bool.and_eq_true, Bool.and_eq_false_iff, Bool.or_eq_true, Bool.or_eq_false_iff, decide_eq_true_eq, decide_eq_false_iff_not, beq_iff_eq, bne_iff_ne, beq_eq_false_iff_ne, bne_eq_false_iff_eq, Bool.not_true, Bool.not_false, gt_iff_lt, ge_iff_le, Int.not_lt, Int.not_le, ne_eq, Decidable.not_not] at hd) <;> (try simp at hs))
        | refine T_ret ?_
        | refine leave_of (.inr rfl) _ rfl ?_
        | refine leave_of (.inl rfl) _ rfl ?_
        | refine leaveA_of (.inr rfl) _ rfl ?_
        | refine leaveA_of (.inl rfl) _ rfl ?_
        | refine wif_intro ?_ (fun hc => ?_)
        | refine And.intro ?_ ?_
        | intro hc
      | simp (maxSteps := 4000000) only [wops_nil, wops_cons, wstep_none, wrun_call, wrun_mv, wrun_not, wrun_len, wop, aop, ev, look, put_some, writes, ores_some, ores_map, ores_bind, thenK, boolV, intV, lenOf, hget, List.map_cons, List.map_nil, List.length_nil, List.append_nil, List.replicate_zero, List.zipIdx_cons, List.zipIdx_nil, List.length_map, Option.pure_def, Option.bind_eq_bind, if_true, if_false, Nat.reduceEqDiff, Nat.reduceAdd, Nat.zero_add, Nat.zero_ne_one, reduceCtorEq, Bool.not_true, eq_self, freeze, lidsL, lids, List.flatMap_cons, List.flatMap_nil, ren, *]
      | simp (disch := omega) only [getD_ints, wrapI]
      | (with_reducible show wcall _ false (.lit (.func (.func 32) _ _)) _ _ _ _; refine wcall_fn (k32 _ _ _) ?_ ?_ ?_; (next => simp [rfyL, rfy, hget, ints, take_rfy, hb1]); (next => simp [plainL, plain, plainR, hb1]))
      | omega)
    refine T_for [0, 1, 6] (fun k => ⟨[(0, rdgs nil l), (1, ints ny ys), (6, i64 k)], []⟩) ys.length (fun k => ∀ j, j < k → badC l.length (ys.getD j 0) = false) 0 rfl (fun j hj => by omega) (Nat.zero_le _) ?_
    intro k hk hI
    replace hI : id (∀ j, j < k → badC l.length (ys.getD j 0) = false) := hI
    unfold c52l0
    by_cases hkn : k < ys.length
    · have g1 : (ys.map fun x => [i64 x]).getD k [] = [i64 (ys.getD k 0)] := getD_ints (by omega)
      cases hb : badC l.length (ys.getD k 0) with
      | true =>
        have hct : checkCl l ys = (0, 6) := by
          unfold checkCl
          rw [if_neg (by omega), if_pos (by rw [List.any_eq_true]; exact ⟨_, by simp [List.getD, hkn], hb⟩)]
        have hb2 : ((ys.getD k 0 == 0) || !(decide (-(l.length : Int) ≤ ys.getD k 0) && decide (ys.getD k 0 ≤ l.length))) = true := hb
        clear hI hrd hA hN hok
        by_cases hz0 : ys.getD k 0 = 0
        · have hz1 : (ys.getD k 0 == 0) = true := by simp only [beq_iff_eq]; exact hz0
          repeat' (first
            | with_reducible first
              | refine T_seq ?_
              | refine T_reg ?_
              | refine T_skip ?_
              | refine T_exit ?_
              | refine T_block ?_
              | refine T_cond_t rfl ?_
              | refine T_cond_f rfl ?_
              | (show wcall _ false (.lit (.func (.func 32) _ _)) _ _ _ _; refine wcall_fn (k32 _ _ _) rfl (by simp [plainL, plain, plainR, Int.toNat_natCast, hct, e0]) ?_)
              | ((first | refine T_cond rfl (fun hc => ?_) (fun hc => ?_) | refine wguard_split (fun hc => ?_) (fun hc => ?_)) <;> have hd := hc <;> (try simp (disch := omega) only [wrapI] at hd) <;> have hs := hd <;> (try simp only [decide_eq_true_eq, decide_eq_false_iff_not, Int.not_lt] at hd) <;> (try simp at hs))
              | refine T_ret ?_
              | refine leave_of (.inr rfl) _ rfl ?_
              | refine leave_of (.inl rfl) _ rfl ?_
              | refine leaveA_of (.inr rfl) _ rfl ?_
              | refine leaveA_of (.inl rfl) _ rfl ?_
              | refine wif_intro ?_ (fun hc => ?_)
              | refine And.intro ?_ ?_
              | intro hc
            | simp (maxSteps := 4000000) only [wops_nil, wops_cons, wstep_none, wstep_some, wguard_tf, wrun_mv, wrun_pick, wrun_bin, wrun_load, wrun_iaddrS, wrun_len, get_mk, wop, aop, ev, look, put_some, writes, ores_some, ores_ite_none, ores_map, ores_bind, binV, thenK, blockK, intV, lenOf, value, cut, hget, mkAgg, tupOf, List.length_cons, List.length_nil, List.take_succ_cons, List.take_nil, List.drop_zero, List.append_nil, List.replicate_zero, List.length_map, Option.pure_def, Option.bind_eq_bind, Option.map_some, if_true, if_false, Nat.reduceEqDiff, Nat.zero_add, Nat.zero_ne_one, reduceCtorEq, Bool.false_eq_true, eq_self, true_and, and_true, and_self, decide_true, beq_self_eq_true, ren, renL, Int.toNat_natCast, *]
            | simp (disch := omega) only [getD_ints, wrapI]
            | (with_reducible show wcall _ false (.lit (.func (.func 32) _ _)) _ _ _ _; refine wcall_fn (k32 _ _ _) ?_ ?_ ?_; (next => simp [rfyL, rfy, hget, ints, take_rfy, Int.toNat_natCast, hct, e0]); (next => simp [plainL, plain, plainR, Int.toNat_natCast, hct, e0]))
            | omega)
        · have hz1 : (ys.getD k 0 == 0) = false := by simp only [beq_eq_false_iff_ne]; exact hz0
          rw [hz1, Bool.false_or, Bool.not_eq_true'] at hb2
          repeat' (first
            | with_reducible first
              | refine T_seq ?_
              | refine T_reg ?_
              | refine T_skip ?_
              | refine T_exit ?_
              | refine T_block ?_
              | refine T_cond_t rfl ?_
              | refine T_cond_f rfl ?_
              | (show wcall _ false (.lit (.func (.func 32) _ _)) _ _ _ _; refine wcall_fn (k32 _ _ _) rfl (by simp [plainL, plain]) ?_)
              | ((first | refine T_cond rfl (fun hc => ?_) (fun hc => ?_) | refine wguard_split (fun hc => ?_) (fun hc => ?_)) <;> have hd := hc <;> (try simp (disch := omega) only [wrapI] at hd) <;> have hs := hd <;> (try simp only [decide_eq_true_eq, decide_eq_false_iff_not, Int.not_lt] at hd) <;> (try simp at hs))
              | refine T_ret ?_
              | refine leave_of (.inr rfl) _ rfl ?_
              | refine leave_of (.inl rfl) _ rfl ?_
              | refine leaveA_of (.inr rfl) _ rfl ?_
              | refine leaveA_of (.inl rfl) _ rfl ?_
              | refine wif_intro ?_ (fun hc => ?_)
              | refine And.intro ?_ ?_
              | intro hc
            | simp (maxSteps := 4000000) only [wops_nil, wops_cons, wstep_none, wstep_some, wguard_ff, wrun_call, wrun_mv, wrun_pick, wrun_bin, wrun_neg, wrun_not, wrun_load, wrun_iaddrS, wrun_len, get_mk, wop, aop, ev, look, put_some, writes, ores_some, ores_ite_none, ores_map, ores_bind, binV, thenK, blockK, boolV, intV, lenOf, value, cut, hget, mkAgg, tupOf, List.map_cons, List.map_nil, List.length_cons, List.length_nil, List.take_succ_cons, List.take_nil, List.drop_zero, List.append_nil, List.replicate_zero, List.length_map, Option.pure_def, Option.bind_eq_bind, Option.map_some, if_true, if_false, Nat.reduceEqDiff, Nat.zero_add, Nat.zero_ne_one, reduceCtorEq, Bool.not_false, Bool.false_eq_true, eq_self, true_and, and_true, and_self, decide_true, freeze, lidsL, lids, List.flatMap_cons, List.flatMap_nil, ren, renL, Int.toNat_natCast, *]
            | simp (disch := omega) only [getD_ints, wrapI]
            | (with_reducible show wcall _ false (.lit (.func (.func 32) _ _)) _ _ _ _; refine wcall_fn (k32 _ _ _) ?_ ?_ ?_; (next => simp [rfyL, rfy, hget, ints, take_rfy, Int.toNat_natCast, hct, e0]); (next => simp [plainL, plain, plainR, Int.toNat_natCast, hct, e0]))
            | omega)
      | false =>
        obtain ⟨b1, b2, b3⟩ := badC_ok hb
        have hz1 : (ys.getD k 0 == 0) = false := by simp only [beq_eq_false_iff_ne]; exact b1
        have hb2 : (decide (-(l.length : Int) ≤ ys.getD k 0) && decide (ys.getD k 0 ≤ l.length)) = true := by simp only [Bool.and_eq_true, decide_eq_true_eq]; exact ⟨b2, b3⟩
        clear b1 b2 b3 hrd hA hN hok
        repeat' (first
          | with_reducible first
            | refine T_seq ?_
            | refine T_reg ?_
            | refine T_skip ?_
            | refine T_exit ?_
            | refine T_block ?_
            | refine T_cond_t rfl ?_
            | refine T_cond_f rfl ?_
            | (show wcall _ false (.lit (.func (.func 32) _ _)) _ _ _ _; refine wcall_fn (k32 _ _ _) rfl (by simp [plainL, plain]) ?_)
            | ((first | refine T_cond rfl (fun hc => ?_) (fun hc => ?_) | refine wguard_split (fun hc => ?_) (fun hc => ?_)) <;> have hd := hc <;> (try simp (disch := omega) only [wrapI] at hd) <;> have hs := hd <;> (try simp only [decide_eq_true_eq, decide_eq_false_iff_not, Int.not_lt] at hd) <;> (try simp at hs))
            | refine T_ret ?_
            | refine leave_of (.inr rfl) _ rfl ?_
            | refine leave_of (.inl rfl) _ rfl ?_
            | refine leaveA_of (.inr rfl) _ rfl ?_
            | refine leaveA_of (.inl rfl) _ rfl ?_
            | refine wif_intro ?_ (fun hc => ?_)
            | refine And.intro ?_ ?_
            | intro hc
          | simp (maxSteps := 4000000) only [wops_nil, wops_cons, wstep_none, wstep_some, wguard_ff, wrun_call, wrun_mv, wrun_pick, wrun_bin, wrun_neg, wrun_not, wrun_load, wrun_iaddrS, wrun_len, wop, aop, ev, look, put_some, writes, ores_some, ores_ite_none, ores_map, ores_bind, binV, thenK, blockK, boolV, intV, lenOf, value, cut, hget, mkAgg, List.map_cons, List.map_nil, List.length_cons, List.length_nil, List.take_succ_cons, List.take_nil, List.drop_zero, List.append_nil, List.replicate_zero, List.length_map, Option.pure_def, Option.bind_eq_bind, Option.map_some, if_true, if_false, Nat.reduceEqDiff, Nat.zero_add, Nat.zero_ne_one, reduceCtorEq, Bool.not_true, Bool.false_eq_true, eq_self, true_and, and_true, and_self, decide_true, freeze, lidsL, lids, List.flatMap_cons, List.flatMap_nil, ren, Int.toNat_natCast, *]
          | simp (disch := omega) only [wrapI]
          | (with_reducible show wcall _ false (.lit (.func (.func 32) _ _)) _ _ _ _; refine wcall_fn (k32 _ _ _) ?_ ?_ ?_; (next => simp [rfyL, rfy, hget, ints, take_rfy, Int.toNat_natCast, e0]); (next => simp [plainL, plain, plainR, Int.toNat_natCast, e0]))
          | omega)
        · rename_i j
          have hj : j < k + 1 := hc
          rcases Nat.lt_succ_iff_lt_or_eq.1 hj with h | h
          · exact hI j h
          · rw [h]; exact hb
        · exact rfl
    · have hany : ys.any (badC l.length) = false := by
        rw [List.any_eq_false]
        intro x hx
        obtain ⟨j, hj, rfl⟩ := List.getElem_of_mem hx
        have := (show ∀ j, j < k → badC l.length (ys.getD j 0) = false from hI) j (by omega)
        simpa [List.getD, hj] using this
      have hval := fun j (hj : j < ys.length) => badC_ok (any_bad_get hany hj)
      have hlen := fun j (hj : j < ys.length) => arcOf_len hrd (hval j hj)
      have hsr := sumC_r hlen
      have h114 := fun j (hj : j < ys.length) => k114 nil l (ys.getD j 0) hl hok (hval j hj)
      have hct : id (checkCl l ys = _) := show checkCl l ys = _ from by unfold checkCl; rw [if_neg (by omega), if_neg (by rw [hany]; simp)]
      replace hval := And.intro hval trivial
      replace hlen := And.intro hlen trivial
      replace hsr := And.intro hsr trivial
      replace h114 := And.intro h114 trivial
      clear hI hrd hA hN hok hany hr
      repeat' (first
        | with_reducible first
          | refine T_seq ?_
          | refine T_reg ?_
          | refine T_skip ?_
          | refine T_exit ?_
          | refine T_block ?_
          | refine T_cond_t rfl ?_
          | refine T_cond_f rfl ?_
          | ((first | refine T_cond rfl (fun hc => ?_) (fun hc => ?_) | refine wguard_split (fun hc => ?_) (fun hc => ?_)) <;> have hd := hc <;> (try simp (disch := omega) only [wrapI] at hd) <;> have hs := hd <;> (try simp only [decide_eq_true_eq, decide_eq_false_iff_not, Int.not_lt] at hd) <;> (try simp at hs))
          | refine T_ret ?_
          | refine leave_of (.inr rfl) _ rfl ?_
          | refine leave_of (.inl rfl) _ rfl ?_
          | refine leaveA_of (.inr rfl) _ rfl ?_
          | refine leaveA_of (.inl rfl) _ rfl ?_
          | refine wif_intro ?_ (fun hc => ?_)
          | refine And.intro ?_ ?_
          | intro hc
        | simp (maxSteps := 4000000) only [wops_nil, wops_cons, wstep_none, wstep_some, wrun_mv, wrun_bin, wrun_load, wrun_iaddrS, wrun_len, wop, aop, ev, look, put_some, writes, ores_some, ores_none, ores_ite_none, ores_map, ores_bind, binV, thenK, blockK, intV, lenOf, value, cut, hget, mkAgg, List.length_cons, List.length_nil, List.take_succ_cons, List.take_nil, List.drop_zero, List.append_nil, List.replicate_zero, List.length_map, Option.pure_def, Option.bind_eq_bind, Option.map_some, if_true, if_false, Nat.reduceEqDiff, Nat.zero_add, Nat.zero_ne_one, reduceCtorEq, Bool.false_eq_true, eq_self, and_true, and_self, false_and, decide_true, *]
        | simp (disch := omega) only [getD_ints]
        | omega)
      refine T_for [0, 1, 7, 8, 9, 10] (fun k => ⟨[(0, rdgs nil l), (1, ints ny ys), (7, i64 (sumC l ys k)), (8, i64 (if k = 0 then 0 else (arcOf l (ys.getD 0 0)).f)), (9, i64 (if k = 0 then 0 else (arcOf l (ys.getD (k - 1) 0)).t)), (10, i64 k)], []⟩) ys.length (fun k => ∀ j, 0 < j → j < k → (arcOf l (ys.getD j 0)).f = (prv l ys j).t) 0 rfl (fun j _ hj => by omega) (Nat.zero_le _) ?_
      intro m hm hI
      replace hI : id (∀ j, 0 < j → j < m → (arcOf l (ys.getD j 0)).f = (prv l ys j).t) := hI
      unfold c52l1
      by_cases hmn : m < ys.length
      · have g1 : (ys.map fun x => [i64 x]).getD m [] = [i64 (ys.getD m 0)] := getD_ints (by omega)
        have h114k := h114.1 m hmn
        have hs1 := hsr.1 m (by omega)
        have hs2 := hlen.1 m hmn
        by_cases hm0 : m = 0
        · subst hm0
          have hz : ((((0 : Nat) : Int)) == 0) = true := rfl
          simp only [if_true]
          repeat' (first
            | with_reducible first
              | refine T_seq ?_
              | refine T_reg ?_
              | refine T_skip ?_
              | refine T_exit ?_
              | refine T_block ?_
              | refine T_cond_t rfl ?_
              | refine T_cond_f rfl ?_
              | (show wcall _ false (.lit (.func (.func 114) _ _)) _ _ _ _; refine wcall_fn (h114k) rfl (by simp [plainL, plain]) ?_)
              | ((first | refine T_cond rfl (fun hc => ?_) (fun hc => ?_) | refine wguard_split (fun hc => ?_) (fun hc => ?_)) <;> have hd := hc <;> (try simp (disch := omega) only [wrapI] at hd) <;> have hs := hd <;> (try simp only [decide_eq_true_eq, decide_eq_false_iff_not, Int.not_lt] at hd) <;> (try simp at hs))
              | refine T_ret ?_
              | refine leave_of (.inr rfl) _ rfl ?_
              | refine leave_of (.inl rfl) _ rfl ?_
              | refine leaveA_of (.inr rfl) _ rfl ?_
              | refine leaveA_of (.inl rfl) _ rfl ?_
              | refine wif_intro ?_ (fun hc => ?_)
              | refine And.intro ?_ ?_
              | intro hc
            | simp (maxSteps := 4000000) only [wops_nil, wops_cons, wstep_none, wrun_call, wrun_mv, wrun_bin, wrun_ext, wrun_load, wrun_iaddrS, wrun_len, get_mk, wop, aop, ev, look, put_some, writes, ores_some, ores_ite_none, ores_map, ores_bind, binV, thenK, blockK, intV, lenOf, value, cut, hget, mkAgg, tupOf, List.map_cons, List.map_nil, List.length_cons, List.length_nil, List.getElem?_cons_zero, List.getElem?_cons_succ, List.take_succ_cons, List.take_nil, List.drop_zero, List.append_nil, List.replicate_zero, List.length_map, Option.pure_def, Option.bind_eq_bind, Option.map_some, if_true, if_false, Nat.reduceEqDiff, Nat.add_zero, Nat.zero_add, Nat.sub_self, Nat.zero_ne_one, reduceCtorEq, Bool.false_eq_true, eq_self, true_and, and_true, and_self, decide_true, freeze, lidsL, lids, List.flatMap_cons, List.flatMap_nil, ren, renL, Int.toNat_natCast, *]
            | simp (disch := omega) only [wrapI]
            | (with_reducible show wcall _ false (.lit (.func (.func 114) _ _)) _ _ _ _; refine wcall_fn (h114k) ?_ ?_ ?_; (next => simp [rfyL, rfy, hget, ints, take_rfy, Int.toNat_natCast]); (next => simp [plainL, plain, plainR, Int.toNat_natCast]))
            | omega)
          exact rfl
        · have hz : ((m : Int) == 0) = false := by simp; omega
          have epv : prv l ys m = arcOf l (ys.getD (m - 1) 0) := by cases m with | zero => omega | succ m => rfl
          simp only [hm0, if_false]
          by_cases hch : (arcOf l (ys.getD m 0)).f = (arcOf l (ys.getD (m - 1) 0)).t
          · have hne : ((arcOf l (ys.getD m 0)).f != (arcOf l (ys.getD (m - 1) 0)).t) = false := by simp only [bne_eq_false_iff_eq]; exact hch
            repeat' (first
              | with_reducible first
                | refine T_seq ?_
                | refine T_reg ?_
                | refine T_skip ?_
                | refine T_exit ?_
                | refine T_block ?_
                | refine T_cond_t rfl ?_
                | refine T_cond_f rfl ?_
                | (show wcall _ false (.lit (.func (.func 114) _ _)) _ _ _ _; refine wcall_fn (h114k) rfl (by simp [plainL, plain]) ?_)
                | ((first | refine T_cond rfl (fun hc => ?_) (fun hc => ?_) | refine wguard_split (fun hc => ?_) (fun hc => ?_)) <;> have hd := hc <;> (try simp (disch := omega) only [wrapI] at hd) <;> have hs := hd <;> (try simp only [decide_eq_true_eq, decide_eq_false_iff_not, bne_iff_ne, bne_eq_false_iff_eq, ge_iff_le, Int.not_lt, Int.not_le, ne_eq] at hd) <;> (try simp at hs))
                | refine T_ret ?_
                | refine leave_of (.inr rfl) _ rfl ?_
                | refine leave_of (.inl rfl) _ rfl ?_
                | refine leaveA_of (.inr rfl) _ rfl ?_
                | refine leaveA_of (.inl rfl) _ rfl ?_
                | refine wif_intro ?_ (fun hc => ?_)
                | refine And.intro ?_ ?_
                | intro hc
              | simp (maxSteps := 4000000) only [wops_nil, wops_cons, wstep_none, wrun_call, wrun_mv, wrun_bin, wrun_ext, wrun_load, wrun_iaddrS, wrun_len, get_mk, wop, aop, ev, look, put_some, writes, ores_some, ores_ite_none, ores_map, ores_bind, binV, thenK, blockK, intV, lenOf, value, cut, hget, mkAgg, tupOf, List.map_cons, List.map_nil, List.length_cons, List.length_nil, List.getElem?_cons_zero, List.getElem?_cons_succ, List.take_succ_cons, List.take_nil, List.drop_zero, List.append_nil, List.replicate_zero, List.length_map, Option.pure_def, Option.bind_eq_bind, Option.map_some, if_true, if_false, Nat.reduceEqDiff, Nat.zero_add, Nat.zero_ne_one, reduceCtorEq, Bool.false_eq_true, eq_self, true_and, and_true, and_self, decide_true, freeze, lidsL, lids, List.flatMap_cons, List.flatMap_nil, ren, renL, Int.toNat_natCast, *]
              | simp (disch := omega) only [wrapI]
              | (with_reducible show wcall _ false (.lit (.func (.func 114) _ _)) _ _ _ _; refine wcall_fn (h114k) ?_ ?_ ?_; (next => simp [rfyL, rfy, hget, ints, take_rfy, Int.toNat_natCast]); (next => simp [plainL, plain, plainR, Int.toNat_natCast]))
              | omega)
            · rename_i j hj1
              have hj : j < m + 1 := hc
              rcases Nat.lt_succ_iff_lt_or_eq.1 hj with h | h
              · exact hI j hj1 h
              · rw [h, epv]; exact hch
            · simp [St.only, get_mk, look, sumC]
          · have hne : ((arcOf l (ys.getD m 0)).f != (arcOf l (ys.getD (m - 1) 0)).t) = true := by simp only [bne_iff_ne]; exact hch
            have hct2 : checkCl l ys = (0, 25) := by
              rw [show checkCl l ys = _ from hct, if_pos (fun h => hch (by rw [← epv]; exact h m hmn))]
            replace hct := True.intro
            repeat' (first
              | with_reducible first
                | refine T_seq ?_
                | refine T_reg ?_
                | refine T_skip ?_
                | refine T_exit ?_
                | refine T_block ?_
                | refine T_cond_t rfl ?_
                | refine T_cond_f rfl ?_
                | (show wcall _ false (.lit (.func (.func 114) _ _)) _ _ _ _; refine wcall_fn (h114k) rfl (by simp [plainL, plain]) ?_)
                | ((first | refine T_cond rfl (fun hc => ?_) (fun hc => ?_) | refine wguard_split (fun hc => ?_) (fun hc => ?_)) <;> have hd := hc <;> (try simp (disch := omega) only [wrapI] at hd) <;> have hs := hd <;> (try simp only [decide_eq_true_eq, decide_eq_false_iff_not, bne_iff_ne, bne_eq_false_iff_eq, ge_iff_le, Int.not_lt, Int.not_le, ne_eq] at hd) <;> (try simp at hs))
                | refine T_ret ?_
                | refine leave_of (.inr rfl) _ rfl ?_
                | refine leave_of (.inl rfl) _ rfl ?_
                | refine leaveA_of (.inr rfl) _ rfl ?_
                | refine leaveA_of (.inl rfl) _ rfl ?_
                | refine wif_intro ?_ (fun hc => ?_)
                | refine And.intro ?_ ?_
                | intro hc
              | simp (maxSteps := 4000000) only [wops_nil, wops_cons, wstep_none, wrun_call, wrun_mv, wrun_bin, wrun_ext, wrun_load, wrun_iaddrS, wrun_len, get_mk, wop, aop, ev, look, put_some, writes, ores_some, ores_ite_none, ores_map, ores_bind, binV, thenK, blockK, intV, lenOf, value, cut, hget, mkAgg, tupOf, List.map_cons, List.map_nil, List.length_cons, List.length_nil, List.getElem?_cons_zero, List.getElem?_cons_succ, List.take_succ_cons, List.take_nil, List.drop_zero, List.append_nil, List.replicate_zero, List.length_map, Option.pure_def, Option.bind_eq_bind, Option.map_some, if_true, if_false, Nat.reduceEqDiff, Nat.zero_add, Nat.zero_ne_one, reduceCtorEq, Bool.false_eq_true, eq_self, true_and, and_true, and_self, decide_true, freeze, lidsL, lids, List.flatMap_cons, List.flatMap_nil, ren, renL, Int.toNat_natCast, *]
              | simp (disch := omega) only [getD_ints, wrapI]
              | (with_reducible show wcall _ false (.lit (.func (.func 114) _ _)) _ _ _ _; refine wcall_fn (h114k) ?_ ?_ ?_; (next => simp [rfyL, rfy, hget, ints, take_rfy, Int.toNat_natCast, hct2]); (next => simp [plainL, plain, plainR, Int.toNat_natCast, hct2]))
              | omega)
      · have hme : m = ys.length := by omega
        subst hme
        have hn0 : ys.length ≠ 0 := by omega
        have hs1 := hsr.1 ys.length (Nat.le_refl _)
        have hI2 : ∀ j, 0 < j → j < ys.length → (arcOf l (ys.getD j 0)).f = (prv l ys j).t := hI
        simp only [hn0, if_false]
        by_cases hch : (arcOf l (ys.getD (ys.length - 1) 0)).t = (arcOf l (ys.getD 0 0)).f
        · have hne : ((arcOf l (ys.getD (ys.length - 1) 0)).t != (arcOf l (ys.getD 0 0)).f) = false := by simp only [bne_eq_false_iff_eq]; exact hch
          have hchain : chainC l ys := fun j hj => by
            by_cases hj0 : j = 0
            · subst hj0; exact hch.symm
            · exact hI2 j (by omega) hj
          have hct2 : id (checkCl l ys = if 0 ≤ sumC l ys ys.length then (0, 22) else (sumC l ys ys.length, 0)) := by
            show checkCl l ys = _
            rw [show checkCl l ys = _ from hct, if_neg (fun h => h hchain)]
          replace hct := True.intro
          clear hI hI2 hchain
          by_cases hs : 0 ≤ sumC l ys ys.length
          · have hb : decide (sumC l ys ys.length ≥ 0) = true := by simp only [decide_eq_true_eq]; exact hs
            have hct3 : checkCl l ys = (0, 22) := by rw [show checkCl l ys = _ from hct2, if_pos hs]
            replace hct2 := True.intro
            repeat' (first
              | with_reducible first
                | refine T_seq ?_
                | refine T_reg ?_
                | refine T_skip ?_
                | refine T_exit ?_
                | refine T_block ?_
                | refine T_cond_t rfl ?_
                | refine T_cond_f rfl ?_
                | ((first | refine T_cond rfl (fun hc => ?_) (fun hc => ?_) | refine wguard_split (fun hc => ?_) (fun hc => ?_)) <;> have hd := hc <;> (try simp (disch := omega) only [wrapI] at hd) <;> have hs := hd <;> (try simp only [decide_eq_true_eq, decide_eq_false_iff_not, bne_iff_ne, bne_eq_false_iff_eq, Int.not_lt, ne_eq] at hd) <;> (try simp at hs))
                | refine T_ret ?_
                | refine leave_of (.inr rfl) _ rfl ?_
                | refine leave_of (.inl rfl) _ rfl ?_
                | refine leaveA_of (.inr rfl) _ rfl ?_
                | refine leaveA_of (.inl rfl) _ rfl ?_
                | refine wif_intro ?_ (fun hc => ?_)
                | refine And.intro ?_ ?_
                | intro hc
              | simp (maxSteps := 4000000) only [wops_nil, wops_cons, wstep_none, wrun_mv, wrun_bin, wrun_len, get_mk, wop, aop, ev, look, put_some, writes, ores_some, ores_map, ores_bind, binV, thenK, blockK, intV, lenOf, hget, tupOf, List.length_nil, List.append_nil, List.replicate_zero, List.length_map, Option.pure_def, Option.bind_eq_bind, Option.map_some, if_true, if_false, Nat.reduceEqDiff, Nat.zero_ne_one, reduceCtorEq, eq_self, false_and, decide_true, ren, renL, *]
              | simp (disch := omega) only [getD_ints, wrapI]
              | omega)
          · have hb : decide (sumC l ys ys.length ≥ 0) = false := by simp only [decide_eq_false_iff_not]; exact hs
            have hct3 : checkCl l ys = (sumC l ys ys.length, 0) := by rw [show checkCl l ys = _ from hct2, if_neg hs]
            replace hct2 := True.intro
            repeat' (first
              | with_reducible first
                | refine T_seq ?_
                | refine T_reg ?_
                | refine T_skip ?_
                | refine T_exit ?_
                | refine T_block ?_
                | refine T_cond_t rfl ?_
                | refine T_cond_f rfl ?_
                | ((first | refine T_cond rfl (fun hc => ?_) (fun hc => ?_) | refine wguard_split (fun hc => ?_) (fun hc => ?_)) <;> have hd := hc <;> (try simp (disch := omega) only [wrapI] at hd) <;> have hs := hd <;> (try simp only [decide_eq_true_eq, decide_eq_false_iff_not, bne_iff_ne, bne_eq_false_iff_eq, Int.not_lt, ne_eq] at hd) <;> (try simp at hs))
                | refine T_ret ?_
                | refine leave_of (.inr rfl) _ rfl ?_
                | refine leave_of (.inl rfl) _ rfl ?_
                | refine leaveA_of (.inr rfl) _ rfl ?_
                | refine leaveA_of (.inl rfl) _ rfl ?_
                | refine wif_intro ?_ (fun hc => ?_)
                | refine And.intro ?_ ?_
                | intro hc
              | simp (maxSteps := 4000000) only [wops_nil, wops_cons, wstep_none, wrun_mv, wrun_bin, wrun_len, get_mk, wop, aop, ev, look, put_some, writes, ores_some, ores_map, ores_bind, binV, thenK, blockK, intV, lenOf, hget, tupOf, List.length_nil, List.append_nil, List.replicate_zero, List.length_map, Option.pure_def, Option.bind_eq_bind, Option.map_some, if_true, if_false, Nat.reduceEqDiff, Nat.zero_ne_one, reduceCtorEq, eq_self, false_and, decide_false, ren, renL, *]
              | simp (disch := omega) only [getD_ints, wrapI]
              | omega)
        · have hne : ((arcOf l (ys.getD (ys.length - 1) 0)).t != (arcOf l (ys.getD 0 0)).f) = true := by simp only [bne_iff_ne]; exact hch
          have hct3 : checkCl l ys = (0, 25) := by
            rw [show checkCl l ys = _ from hct, if_pos (fun h => hch (h 0 (by omega)).symm)]
          replace hct := True.intro
          clear hI hI2
          repeat' (first
            | with_reducible first
              | refine T_seq ?_
              | refine T_reg ?_
              | refine T_skip ?_
              | refine T_exit ?_
              | refine T_block ?_
              | refine T_cond_t rfl ?_
              | refine T_cond_f rfl ?_
              | ((first | refine T_cond rfl (fun hc => ?_) (fun hc => ?_) | refine wguard_split (fun hc => ?_) (fun hc => ?_)) <;> have hd := hc <;> (try simp (disch := omega) only [wrapI] at hd) <;> have hs := hd <;> (try simp only [decide_eq_true_eq, decide_eq_false_iff_not, Int.not_lt] at hd) <;> (try simp at hs))
              | refine T_ret ?_
              | refine leave_of (.inr rfl) _ rfl ?_
              | refine leave_of (.inl rfl) _ rfl ?_
              | refine leaveA_of (.inr rfl) _ rfl ?_
              | refine leaveA_of (.inl rfl) _ rfl ?_
              | refine wif_intro ?_ (fun hc => ?_)
              | refine And.intro ?_ ?_
              | intro hc
            | simp (maxSteps := 4000000) only [wops_nil, wops_cons, wstep_none, wrun_mv, wrun_bin, wrun_len, get_mk, wop, aop, ev, look, put_some, writes, ores_some, ores_map, ores_bind, binV, thenK, blockK, intV, lenOf, hget, tupOf, List.length_nil, List.append_nil, List.replicate_zero, List.length_map, Option.pure_def, Option.bind_eq_bind, Option.map_some, if_true, if_false, Nat.reduceEqDiff, Nat.zero_ne_one, reduceCtorEq, eq_self, false_and, ren, renL, *]
            | simp (disch := omega) only [getD_ints, wrapI]
            | omega)
  · have hb1 : (decide (1 ≤ (ys.length : Int)) && decide ((ys.length : Int) ≤ 40)) = false := by simp; omega
    have hct : checkCl l ys = (0, 10) := by unfold checkCl; rw [if_pos hn]
    unfold c52
    repeat' (first
      | with_reducible first
        | refine T_seq ?_
        | refine T_reg ?_
        | refine T_skip ?_
        | refine T_exit ?_
        | refine T_block ?_
        | refine T_cond_t rfl ?_
        | refine T_cond_f rfl ?_
        | (show wcall _ false (.lit (.func (.func 32) _ _)) _ _ _ _; refine wcall_fn (k32 _ _ _) rfl (by simp [plainL, plain]) ?_)
        | ((first | refine T_cond rfl (fun hc => ?_) (fun hc => ?_) | refine wguard_split (fun hc => ?_) (fun hc => ?_)) <;> have hd := hc <;> (try simp (disch := omega) only [wrapI] at hd) <;> have hs := hd <;> (try simp only [Bool.not_eq_true', Bool.not_eq_false', Bool.and_eq_true, Bool.and_eq_false_iff, Bool.or_eq_true, Bool.or_eq_false_iff, decide_eq_true_eq, decide_eq_false_iff_not, beq_iff_eq, bne_iff_ne, beq_eq_false_iff_ne, bne_eq_false_iff_eq, Bool.not_true, Bool.not_false, gt_iff_lt, ge_iff_le, Int.not_lt, Int.not_le, ne_eq, Decidable.not_not] at hd) <;> (try simp at hs))
        | refine T_ret ?_
        | refine leave_of (.inr rfl) _ rfl ?_
        | refine leave_of (.inl rfl) _ rfl ?_
        | refine leaveA_of (.inr rfl) _ rfl ?_
        | refine leaveA_of (.inl rfl) _ rfl ?_
        | refine wif_intro ?_ (fun hc => ?_)
        | refine And.intro ?_ ?_
        | intro hc
      | simp (maxSteps := 4000000) only [wops_nil, wops_cons, wstep_none, wrun_call, wrun_mv, wrun_not, wrun_len, get_mk, wop, aop, ev, look, put_some, writes, ores_some, ores_map, ores_bind, thenK, boolV, intV, lenOf, hget, tupOf, List.map_cons, List.map_nil, List.length_nil, List.append_nil, List.replicate_zero, List.zipIdx_cons, List.zipIdx_nil, List.length_map, Option.pure_def, Option.bind_eq_bind, if_true, if_false, Nat.reduceEqDiff, Nat.reduceAdd, Nat.zero_add, Nat.zero_ne_one, reduceCtorEq, Bool.not_false, eq_self, freeze, lidsL, lids, List.flatMap_cons, List.flatMap_nil, ren, renL, *]
      | simp (disch := omega) only [getD_ints, wrapI]
      | (with_reducible show wcall _ false (.lit (.func (.func 32) _ _)) _ _ _ _; refine wcall_fn (k32 _ _ _) ?_ ?_ ?_; (next => simp [rfyL, rfy, hget, ints, take_rfy, hb1, hct]); (next => simp [plainL, plain, plainR, hb1, hct]))
      | omega)
end Go.Abs
