import Derived.Test.YtpfmamngjefohaaK345x
set_option linter.all false
set_option linter.unusedVariables false
set_option linter.unusedSimpArgs false
set_option linter.unusedSectionVars false
namespace Go.Abs
open Go.Proofs
/-! WeightsErr of the reference; the bound -/
abbrev wB (n1 : Bool) (lo : List Int) (n2 : Bool) (hi : List Int) (den : Int) : Blk := .cells true false 3 [[ints n1 lo, ints n2 hi, i64 den]]
set_option maxHeartbeats 8000000 in
theorem k91l {n1 n2 : Bool} {lo hi : List Int} {den : Int} {n : Nat} (hlo : lo.length = n) (hhi : hi.length = n) (hn : n < 1000000) {b : Nat} (K : Exit → St → Prop) {k : Nat} (hk : k < n)
    (hE : wEr lo hi k ≠ 0 → ∀ τ : St, τ.get 4 = i64 (wEr lo hi k) → K .ret τ) :
    T none Try.prog muts 43 b c91l0 ⟨[(1, i64 n), (2, .loc 0 0 0), (5, i64 k)], [wB n1 lo n2 hi den]⟩ (thenK (fun s' => wEr lo hi k = 0 ∧ s'.heap = [wB n1 lo n2 hi den] ∧ (s'.only [1, 2, 5]).slots = [(1, i64 n), (2, .loc 0 0 0), (5, i64 ((k + 1 : Nat) : Int))]) K) := by
  have hll := (by simp : (lo.map fun x => [i64 x]).length = lo.length)
  have hlh := (by simp : (hi.map fun x => [i64 x]).length = hi.length)
  have g1 : (lo.map fun x => [i64 x]).getD k [] = [i64 (lo.getD k 0)] := getD_ints (by omega)
  have g2 : (hi.map fun x => [i64 x]).getD k [] = [i64 (hi.getD k 0)] := getD_ints (by omega)
  have hkl : (k : Int) < (lo.length : Int) := by omega
  have hkh : (k : Int) < (hi.length : Int) := by omega
  have h15a := k15 (lo.getD k 0) 0 1000000000
  have h15b := k15 (hi.getD k 0) 0 1000000000
  have hre : wEr lo hi k = if (!(!(decide (0 ≤ lo.getD k 0) && decide (lo.getD k 0 ≤ 1000000000))) && !(!(decide (0 ≤ hi.getD k 0) && decide (hi.getD k 0 ≤ 1000000000)))) = false then 2 else 0 := rfl
  generalize wEr lo hi k = E at *
  clear hhi hlo
  cases a1 : (decide (0 ≤ lo.getD k 0) && decide (lo.getD k 0 ≤ 1000000000)) with
  | false =>
    rw [a1] at h15a hre
    rw [if_pos (by simp)] at hre
    subst hre
    have f := PLift.up (hE (by simp))
    clear hE a1 h15b
    unfold c91l0
    repeat' (first
      | with_reducible first
        | refine T_seq ?_
        | refine T_reg ?_
        | refine T_skip ?_
        | refine T_exit ?_
        | refine T_block ?_
        | refine T_cond_t rfl ?_
        | refine T_cond_f rfl ?_
        | (show wcall _ false (.lit (.func (.func 15) _ _)) _ _ _ _; refine wcall_fn (h15a) rfl (by simp [plainL, plain]) ?_)
        | ((first | refine T_cond rfl (fun hc => ?_) (fun hc => ?_) | refine wguard_split (fun hc => ?_) (fun hc => ?_)) <;> have hd := hc <;> (try simp (disch := omega) only [wrapI] at hd) <;> have hs := hd <;> (try simp only [decide_eq_true_eq, decide_eq_false_iff_not, Int.not_lt] at hd) <;> (try simp at hs))
        | refine T_ret ?_
        | refine wif_intro ?_ (fun hc => ?_)
        | refine And.intro ?_ ?_
        | intro hc
      | simp (maxSteps := 4000000) only [wops_nil, wops_cons, wstep_none, wstep_some, wguard_tf, wrun_call, wrun_mv, wrun_pick, wrun_bin, wrun_not, wrun_load, wrun_faddr, wrun_iaddrS, wop, aop, ev, look, put_some, writes, ores_some, ores_ite_none, binV, thenK, blockK, boolV, value, cut, hget, mkAgg, List.map_cons, List.map_nil, List.length_cons, List.length_nil, List.getElem?_cons_zero, List.take_succ_cons, List.take_zero, List.take_nil, List.drop_zero, List.append_nil, List.replicate_zero, List.getD_cons_zero, Option.getD_some, Option.map_some, if_true, if_false, Nat.reduceEqDiff, Nat.add_zero, Nat.zero_add, reduceCtorEq, Bool.not_false, Bool.false_eq_true, eq_self, and_true, and_self, decide_true, freeze, lidsL, lids, List.flatMap_cons, List.flatMap_nil, ren, Int.toNat_natCast, *]
      | simp (disch := omega) only [getD_ints, wrapI]
      | (with_reducible show wcall _ false (.lit (.func (.func 15) _ _)) _ _ _ _; refine wcall_fn (h15a) ?_ ?_ ?_; (next => simp [rfyL, rfy, hget, ints, take_rfy, Int.toNat_natCast]); (next => simp [plainL, plain, plainR, Int.toNat_natCast]))
      | omega)
    all_goals first | exact f.down _ rfl
  | true =>
    rw [a1] at h15a hre
    cases a2 : (decide (0 ≤ hi.getD k 0) && decide (hi.getD k 0 ≤ 1000000000)) with
    | false =>
      rw [a2] at h15b hre
      rw [if_pos (by simp)] at hre
      subst hre
      have f := PLift.up (hE (by simp))
      clear hE a1 a2
      unfold c91l0
      repeat' (first
        | with_reducible first
          | refine T_seq ?_
          | refine T_reg ?_
          | refine T_skip ?_
          | refine T_exit ?_
          | refine T_block ?_
          | refine T_cond_t rfl ?_
          | refine T_cond_f rfl ?_
          | (show wcall _ false (.lit (.func (.func 15) _ _)) _ _ _ _; refine wcall_fn (h15a) rfl (by simp [plainL, plain]) ?_)
          | (show wcall _ false (.lit (.func (.func 15) _ _)) _ _ _ _; refine wcall_fn (h15b) rfl (by simp [plainL, plain]) ?_)
          | ((first | refine T_cond rfl (fun hc => ?_) (fun hc => ?_) | refine wguard_split (fun hc => ?_) (fun hc => ?_)) <;> have hd := hc <;> (try simp (disch := omega) only [wrapI] at hd) <;> have hs := hd <;> (try simp only [decide_eq_true_eq, decide_eq_false_iff_not, Int.not_lt] at hd) <;> (try simp at hs))
          | refine T_ret ?_
          | refine wif_intro ?_ (fun hc => ?_)
          | refine And.intro ?_ ?_
          | intro hc
        | simp (maxSteps := 4000000) only [wops_nil, wops_cons, wstep_none, wstep_some, wguard_ff, wrun_call, wrun_mv, wrun_pick, wrun_bin, wrun_not, wrun_load, wrun_faddr, wrun_iaddrS, wop, aop, ev, look, put_some, writes, ores_some, ores_ite_none, binV, thenK, blockK, boolV, value, cut, hget, mkAgg, List.map_cons, List.map_nil, List.length_cons, List.length_nil, List.getElem?_cons_zero, List.take_succ_cons, List.take_zero, List.take_nil, List.drop_succ_cons, List.drop_zero, List.append_nil, List.replicate_zero, List.getD_cons_zero, Option.getD_some, Option.map_some, if_true, if_false, Nat.reduceEqDiff, Nat.add_zero, Nat.zero_add, reduceCtorEq, Bool.not_true, Bool.not_false, Bool.false_eq_true, eq_self, true_and, and_true, and_self, decide_true, freeze, lidsL, lids, List.flatMap_cons, List.flatMap_nil, ren, Int.toNat_natCast, *]
        | simp (disch := omega) only [getD_ints, wrapI]
        | (with_reducible show wcall _ false (.lit (.func (.func 15) _ _)) _ _ _ _; refine wcall_fn (h15a) ?_ ?_ ?_; (next => simp [rfyL, rfy, hget, ints, take_rfy, Int.toNat_natCast]); (next => simp [plainL, plain, plainR, Int.toNat_natCast]))
        | (with_reducible show wcall _ false (.lit (.func (.func 15) _ _)) _ _ _ _; refine wcall_fn (h15b) ?_ ?_ ?_; (next => simp [rfyL, rfy, hget, ints, take_rfy, Int.toNat_natCast]); (next => simp [plainL, plain, plainR, Int.toNat_natCast]))
        | omega)
      all_goals first | exact f.down _ rfl
    | true =>
      rw [a2] at h15b hre
      rw [if_neg (by simp)] at hre
      subst hre
      clear hE a1 a2
      unfold c91l0
      repeat' (first
        | with_reducible first
          | refine T_seq ?_
          | refine T_reg ?_
          | refine T_skip ?_
          | refine T_exit ?_
          | refine T_block ?_
          | refine T_cond_t rfl ?_
          | refine T_cond_f rfl ?_
          | (show wcall _ false (.lit (.func (.func 15) _ _)) _ _ _ _; refine wcall_fn (h15a) rfl (by simp [plainL, plain]) ?_)
          | (show wcall _ false (.lit (.func (.func 15) _ _)) _ _ _ _; refine wcall_fn (h15b) rfl (by simp [plainL, plain]) ?_)
          | ((first | refine T_cond rfl (fun hc => ?_) (fun hc => ?_) | refine wguard_split (fun hc => ?_) (fun hc => ?_)) <;> have hd := hc <;> (try simp (disch := omega) only [wrapI] at hd) <;> have hs := hd <;> (try simp only [decide_eq_true_eq, decide_eq_false_iff_not, Int.not_lt] at hd) <;> (try simp at hs))
          | refine T_ret ?_
          | refine wif_intro ?_ (fun hc => ?_)
          | refine And.intro ?_ ?_
          | intro hc
        | simp (maxSteps := 4000000) only [wops_nil, wops_cons, wstep_none, wstep_some, wguard_ff, wrun_call, wrun_mv, wrun_pick, wrun_bin, wrun_not, wrun_load, wrun_faddr, wrun_iaddrS, wop, aop, ev, look, put_some, writes, ores_some, ores_ite_none, binV, thenK, blockK, boolV, value, cut, hget, mkAgg, List.map_cons, List.map_nil, List.length_cons, List.length_nil, List.getElem?_cons_zero, List.take_succ_cons, List.take_zero, List.take_nil, List.drop_succ_cons, List.drop_zero, List.append_nil, List.replicate_zero, List.getD_cons_zero, Option.getD_some, Option.map_some, if_true, if_false, Nat.reduceEqDiff, Nat.add_zero, Nat.zero_add, reduceCtorEq, Bool.not_true, Bool.false_eq_true, eq_self, true_and, and_true, and_self, decide_true, freeze, lidsL, lids, List.flatMap_cons, List.flatMap_nil, ren, Int.toNat_natCast, *]
        | simp (disch := omega) only [wrapI]
        | (with_reducible show wcall _ false (.lit (.func (.func 15) _ _)) _ _ _ _; refine wcall_fn (h15a) ?_ ?_ ?_; (next => simp [rfyL, rfy, hget, ints, take_rfy, Int.toNat_natCast]); (next => simp [plainL, plain, plainR, Int.toNat_natCast]))
        | (with_reducible show wcall _ false (.lit (.func (.func 15) _ _)) _ _ _ _; refine wcall_fn (h15b) ?_ ?_ ?_; (next => simp [rfyL, rfy, hget, ints, take_rfy, Int.toNat_natCast]); (next => simp [plainL, plain, plainR, Int.toNat_natCast]))
        | omega)
      all_goals first | rfl | (simp [St.only, get_mk, look]; done)
set_option maxHeartbeats 8000000 in
theorem k91 (n1 n2 : Bool) (lo hi : List Int) (den : Int) (n : Nat) (hn : n < 1000000) : Fn Try.prog 91 [wgV n1 lo n2 hi den, i64 n] (i64 (wgE n lo hi den)) [] := by
  refine fn_of e91 ?_
  have hlo2 : (lo.map fun x => [i64 x]).length = lo.length := by simp
  have hhi2 : (hi.map fun x => [i64 x]).length = hi.length := by simp
  have h15 := k15 den 1 10000000
  have hre : wgE n lo hi den = if ((lo.length : Int) != (n : Int) || (hi.length : Int) != (n : Int)) = true then 10 else if (decide (1 ≤ den) && decide (den ≤ 10000000)) = false then 2 else fe (wEr lo hi) n := rfl
  cases a1 : ((lo.length : Int) != (n : Int)) with
  | true =>
    rw [a1, Bool.true_or, if_pos rfl] at hre
    rw [hre]
    clear hre h15
    unfold c91
    repeat' (first
      | with_reducible first
        | refine T_seq ?_
        | refine T_reg ?_
        | refine T_skip ?_
        | refine T_exit ?_
        | refine T_block ?_
        | refine T_cond_t rfl ?_
        | refine T_cond_f rfl ?_
        | ((first | refine T_cond rfl (fun hc => ?_) (fun hc => ?_) | refine wguard_split (fun hc => ?_) (fun hc => ?_)) <;> have hd := hc <;> (try simp (disch := omega) only [wrapI] at hd) <;> have hs := hd <;> (try simp only [Bool.not_eq_true', Bool.not_eq_false', Bool.and_eq_true, Bool.and_eq_false_iff, Bool.or_eq_true, Bool.or_eq_false_iff, decide_eq_true_eq, decide_eq_false_iff_not, beq_iff_eq, bne_iff_ne, beq_eq_false_iff_ne, bne_eq_false_iff_eq, Bool.not_true, Bool.not_false, gt_iff_lt, ge_iff_le, Int.not_lt, Int.not_le, ne_eq, Decidable.not_not] at hd) <;> (try simp at hs))
        | refine T_ret ?_
        | refine leave_of (.inr rfl) _ rfl ?_
        | refine leave_of (.inl rfl) _ rfl ?_
        | refine leaveA_of (.inr rfl) _ rfl ?_
        | refine leaveA_of (.inl rfl) _ rfl ?_
        | refine wif_intro ?_ (fun hc => ?_)
        | refine And.intro ?_ ?_
        | intro hc
      | simp (maxSteps := 4000000) only [wops_nil, wops_cons, wstep_none, wstep_some, wguard_tf, wrun_mv, wrun_pick, wrun_bin, wrun_load, wrun_faddr, wrun_len, wrun_box, get_mk, wop, aop, ev, look, put_some, writes, ores_some, ores_map, ores_bind, binV, thenK, intV, lenOf, value, cut, hget, AV.parts, isOne, mkAgg, tupOf, List.map_cons, List.map_nil, List.length_cons, List.length_nil, List.getElem?_cons_zero, List.set_cons_zero, List.take_succ_cons, List.take_zero, List.drop_zero, List.nil_append, List.append_nil, List.replicate_zero, List.replicate_succ, List.getD_cons_zero, List.zipIdx_cons, List.zipIdx_nil, List.all_cons, List.all_nil, Option.pure_def, Option.bind_eq_bind, Option.getD_some, Option.map_some, if_true, if_false, Nat.reduceEqDiff, Nat.reduceAdd, Nat.add_zero, Nat.zero_add, Nat.zero_ne_one, reduceCtorEq, Bool.and_true, Bool.false_eq_true, eq_self, true_and, and_self, List.all_cons, ren, *]
      | simp (disch := omega) only [getD_ints, wrapI]
      | omega)
    all_goals first | rfl
  | false =>
    cases a2 : ((hi.length : Int) != (n : Int)) with
    | true =>
      rw [a1, a2, Bool.or_true, if_pos rfl] at hre
      rw [hre]
      clear hre h15
      unfold c91
      repeat' (first
        | with_reducible first
          | refine T_seq ?_
          | refine T_reg ?_
          | refine T_skip ?_
          | refine T_exit ?_
          | refine T_block ?_
          | refine T_cond_t rfl ?_
          | refine T_cond_f rfl ?_
          | ((first | refine T_cond rfl (fun hc => ?_) (fun hc => ?_) | refine wguard_split (fun hc => ?_) (fun hc => ?_)) <;> have hd := hc <;> (try simp (disch := omega) only [wrapI] at hd) <;> have hs := hd <;> (try simp only [Bool.not_eq_true', Bool.not_eq_false', Bool.and_eq_true, Bool.and_eq_false_iff, Bool.or_eq_true, Bool.or_eq_false_iff, decide_eq_true_eq, decide_eq_false_iff_not, beq_iff_eq, bne_iff_ne, beq_eq_false_iff_ne, bne_eq_false_iff_eq, Bool.not_true, Bool.not_false, gt_iff_lt, ge_iff_le, Int.not_lt, Int.not_le, ne_eq, Decidable.not_not] at hd) <;> (try simp at hs))
          | refine T_ret ?_
          | refine leave_of (.inr rfl) _ rfl ?_
          | refine leave_of (.inl rfl) _ rfl ?_
          | refine leaveA_of (.inr rfl) _ rfl ?_
          | refine leaveA_of (.inl rfl) _ rfl ?_
          | refine wif_intro ?_ (fun hc => ?_)
          | refine And.intro ?_ ?_
          | intro hc
        | simp (maxSteps := 4000000) only [wops_nil, wops_cons, wstep_none, wstep_some, wguard_ff, wrun_mv, wrun_pick, wrun_bin, wrun_load, wrun_faddr, wrun_len, wrun_box, get_mk, wop, aop, ev, look, put_some, writes, ores_some, ores_map, ores_bind, binV, thenK, intV, lenOf, value, cut, hget, AV.parts, isOne, mkAgg, tupOf, List.map_cons, List.map_nil, List.length_cons, List.length_nil, List.getElem?_cons_zero, List.set_cons_zero, List.take_succ_cons, List.take_zero, List.drop_succ_cons, List.drop_zero, List.nil_append, List.append_nil, List.replicate_zero, List.replicate_succ, List.getD_cons_zero, List.zipIdx_cons, List.zipIdx_nil, List.all_cons, List.all_nil, Option.pure_def, Option.bind_eq_bind, Option.getD_some, Option.map_some, if_true, if_false, Nat.reduceEqDiff, Nat.reduceAdd, Nat.add_zero, Nat.zero_add, Nat.zero_ne_one, reduceCtorEq, Bool.and_true, Bool.false_eq_true, eq_self, true_and, and_self, List.all_cons, ren, *]
        | simp (disch := omega) only [getD_ints, wrapI]
        | omega)
      all_goals first | rfl
    | false =>
      rw [a1, a2, Bool.or_false, if_neg (by simp)] at hre
      have e1 : lo.length = n := by simp only [bne_eq_false_iff_eq] at a1; omega
      have e2 : hi.length = n := by simp only [bne_eq_false_iff_eq] at a2; omega
      cases a3 : (decide (1 ≤ den) && decide (den ≤ 10000000)) with
      | false =>
        rw [a3] at h15 hre
        rw [if_pos rfl] at hre
        rw [hre]
        clear hre a3 e1 e2
        unfold c91
        repeat' (first
          | with_reducible first
            | refine T_seq ?_
            | refine T_reg ?_
            | refine T_skip ?_
            | refine T_exit ?_
            | refine T_block ?_
            | refine T_cond_t rfl ?_
            | refine T_cond_f rfl ?_
            | (show wcall _ false (.lit (.func (.func 15) _ _)) _ _ _ _; refine wcall_fn (h15) rfl (by simp [plainL, plain]) ?_)
            | ((first | refine T_cond rfl (fun hc => ?_) (fun hc => ?_) | refine wguard_split (fun hc => ?_) (fun hc => ?_)) <;> have hd := hc <;> (try simp (disch := omega) only [wrapI] at hd) <;> have hs := hd <;> (try simp only [Bool.not_eq_true', Bool.not_eq_false', Bool.and_eq_true, Bool.and_eq_false_iff, Bool.or_eq_true, Bool.or_eq_false_iff, decide_eq_true_eq, decide_eq_false_iff_not, beq_iff_eq, bne_iff_ne, beq_eq_false_iff_ne, bne_eq_false_iff_eq, Bool.not_true, Bool.not_false, gt_iff_lt, ge_iff_le, Int.not_lt, Int.not_le, ne_eq, Decidable.not_not] at hd) <;> (try simp at hs))
            | refine T_ret ?_
            | refine leave_of (.inr rfl) _ rfl ?_
            | refine leave_of (.inl rfl) _ rfl ?_
            | refine leaveA_of (.inr rfl) _ rfl ?_
            | refine leaveA_of (.inl rfl) _ rfl ?_
            | refine wif_intro ?_ (fun hc => ?_)
            | refine And.intro ?_ ?_
            | intro hc
          | simp (maxSteps := 4000000) only [wops_nil, wops_cons, wstep_none, wstep_some, wguard_ff, wrun_call, wrun_mv, wrun_pick, wrun_bin, wrun_not, wrun_load, wrun_faddr, wrun_len, wrun_box, get_mk, wop, aop, ev, look, put_some, writes, ores_some, ores_map, ores_bind, binV, thenK, boolV, intV, lenOf, value, cut, hget, AV.parts, isOne, mkAgg, tupOf, List.map_cons, List.map_nil, List.length_cons, List.length_nil, List.getElem?_cons_zero, List.set_cons_zero, List.take_succ_cons, List.take_zero, List.take_nil, List.drop_succ_cons, List.drop_zero, List.nil_append, List.append_nil, List.replicate_zero, List.replicate_succ, List.getD_cons_zero, List.zipIdx_cons, List.zipIdx_nil, List.all_cons, List.all_nil, Option.pure_def, Option.bind_eq_bind, Option.getD_some, Option.map_some, if_true, if_false, Nat.reduceEqDiff, Nat.reduceAdd, Nat.add_zero, Nat.zero_add, Nat.zero_ne_one, reduceCtorEq, Bool.not_false, Bool.and_true, Bool.false_eq_true, eq_self, true_and, and_self, freeze, lidsL, lids, List.flatMap_cons, List.flatMap_nil, List.all_cons, ren, *]
          | simp (disch := omega) only [getD_ints, wrapI]
          | (with_reducible show wcall _ false (.lit (.func (.func 15) _ _)) _ _ _ _; refine wcall_fn (h15) ?_ ?_ ?_; (next => simp [rfyL, rfy, hget, ints, take_rfy]); (next => simp [plainL, plain, plainR]))
          | omega)
        all_goals first | rfl
      | true =>
        rw [a3] at h15 hre
        rw [if_neg (by simp)] at hre
        rw [hre]
        clear hre a3
        have hrow := PLift.up (fun K k hk hE => k91l (b := 0) (n1 := n1) (n2 := n2) (den := den) e1 e2 hn K (k := k) hk hE)
        have hst := PLift.up (fun k hk h0 h => fe_stop (e := wEr lo hi) (k := k) h0 h n hk)
        have hnx := PLift.up (fun k h0 h => fe_next (e := wEr lo hi) (k := k) h0 h)
        have hRe : ∃ R, R = fe (wEr lo hi) n := ⟨_, rfl⟩
        obtain ⟨R, hre⟩ := hRe
        rw [← hre]
        replace hre := PLift.up hre
        clear e1 e2
        unfold c91
        repeat' (first
          | with_reducible first
            | refine T_seq ?_
            | refine T_reg ?_
            | refine T_skip ?_
            | refine T_exit ?_
            | refine T_block ?_
            | refine T_cond_t rfl ?_
            | refine T_cond_f rfl ?_
            | (show wcall _ false (.lit (.func (.func 15) _ _)) _ _ _ _; refine wcall_fn (h15) rfl (by simp [plainL, plain]) ?_)
            | ((first | refine T_cond rfl (fun hc => ?_) (fun hc => ?_) | refine wguard_split (fun hc => ?_) (fun hc => ?_)) <;> have hd := hc <;> (try simp (disch := omega) only [wrapI] at hd) <;> have hs := hd <;> (try simp only [Bool.not_eq_true', Bool.not_eq_false', Bool.and_eq_true, Bool.and_eq_false_iff, Bool.or_eq_true, Bool.or_eq_false_iff, decide_eq_true_eq, decide_eq_false_iff_not, beq_iff_eq, bne_iff_ne, beq_eq_false_iff_ne, bne_eq_false_iff_eq, Bool.not_true, Bool.not_false, gt_iff_lt, ge_iff_le, Int.not_lt, Int.not_le, ne_eq, Decidable.not_not] at hd) <;> (try simp at hs))
            | refine T_ret ?_
            | refine leave_of (.inr rfl) _ rfl ?_
            | refine leave_of (.inl rfl) _ rfl ?_
            | refine leaveA_of (.inr rfl) _ rfl ?_
            | refine leaveA_of (.inl rfl) _ rfl ?_
            | refine wif_intro ?_ (fun hc => ?_)
            | refine And.intro ?_ ?_
            | intro hc
          | simp (maxSteps := 4000000) only [wops_nil, wops_cons, wstep_none, wstep_some, wguard_ff, wrun_call, wrun_mv, wrun_pick, wrun_bin, wrun_not, wrun_load, wrun_faddr, wrun_len, wrun_box, wop, aop, ev, look, put_some, writes, ores_some, ores_map, ores_bind, binV, thenK, boolV, intV, lenOf, value, cut, hget, AV.parts, isOne, mkAgg, List.map_cons, List.map_nil, List.length_cons, List.length_nil, List.getElem?_cons_zero, List.set_cons_zero, List.take_succ_cons, List.take_zero, List.take_nil, List.drop_succ_cons, List.drop_zero, List.nil_append, List.append_nil, List.replicate_zero, List.replicate_succ, List.getD_cons_zero, List.zipIdx_cons, List.zipIdx_nil, List.all_cons, List.all_nil, Option.pure_def, Option.bind_eq_bind, Option.getD_some, Option.map_some, if_true, if_false, Nat.reduceEqDiff, Nat.reduceAdd, Nat.add_zero, Nat.zero_add, Nat.zero_ne_one, reduceCtorEq, Bool.not_true, Bool.and_true, Bool.false_eq_true, eq_self, true_and, and_self, freeze, lidsL, lids, List.flatMap_cons, List.flatMap_nil, List.all_cons, ren, *]
          | simp (disch := omega) only [getD_ints, wrapI]
          | (with_reducible show wcall _ false (.lit (.func (.func 15) _ _)) _ _ _ _; refine wcall_fn (h15) ?_ ?_ ?_; (next => simp [rfyL, rfy, hget, ints, take_rfy]); (next => simp [plainL, plain, plainR]))
          | omega)
        refine T_forP [1, 2, 5] (fun k => [(1, i64 n), (2, .loc 0 0 0), (5, i64 k)]) n (fun k H => H = [wB n1 lo n2 hi den] ∧ fe (wEr lo hi) k = 0) 0 ?_ ⟨rfl, rfl⟩ (Nat.zero_le _) ?_
        · simp [St.only, get_mk, look]
        clear h15
        intro k H hk ⟨hHe, hI⟩
        subst hHe
        by_cases hkn : k < n
        · refine T_thenR (hrow.down _ k hkn fun hne τ t2 => ?_) fun s' hs => ⟨hkn, ⟨hs.2.1, hnx.down k hI hs.1⟩, hs.2.2⟩
          have h9 := hst.down k hkn hI hne
          have h8 : leave 0 [.tmp 4] (fun r' H' => r' = i64 R ∧ H' = []) .ret τ := leave0 (v := i64 (wEr lo hi k)) (.inr rfl) (by simp [resL, resAV, t2]) (fun _ => rfl) ⟨by rw [hre.down, h9], rfl⟩
          exact h8
        · have hke : k = n := by omega
          subst hke
          have hkk : decide ((k : Int) < (k : Int)) = false := by simp
          have hr : R = 0 := hre.down.trans hI
          subst hr
          clear hrow hst hnx hre hI
          unfold c91l0
          repeat' (first
            | with_reducible first
              | refine T_seq ?_
              | refine T_reg ?_
              | refine T_skip ?_
              | refine T_exit ?_
              | refine T_block ?_
              | refine T_cond_t rfl ?_
              | refine T_cond_f rfl ?_
              | ((first | refine T_cond rfl (fun hc => ?_) (fun hc => ?_) | refine wguard_split (fun hc => ?_) (fun hc => ?_)) <;> have hd := hc <;> (try simp (disch := omega) only [wrapI] at hd) <;> have hs := hd <;> (try simp only [Bool.not_eq_true', Bool.not_eq_false', Bool.and_eq_true, Bool.and_eq_false_iff, Bool.or_eq_true, Bool.or_eq_false_iff, decide_eq_true_eq, decide_eq_false_iff_not, beq_iff_eq, bne_iff_ne, beq_eq_false_iff_ne, bne_eq_false_iff_eq, Bool.not_true, Bool.not_false, gt_iff_lt, ge_iff_le, Int.not_lt, Int.not_le, ne_eq, Decidable.not_not] at hd) <;> (try simp at hs))
              | refine T_ret ?_
              | refine leave_of (.inr rfl) _ rfl ?_
              | refine leave_of (.inl rfl) _ rfl ?_
              | refine leaveA_of (.inr rfl) _ rfl ?_
              | refine leaveA_of (.inl rfl) _ rfl ?_
              | refine wif_intro ?_ (fun hc => ?_)
              | refine And.intro ?_ ?_
              | intro hc
            | simp (maxSteps := 4000000) only [wops_nil, wops_cons, wstep_none, wrun_mv, wrun_bin, get_mk, wop, aop, ev, look, put_some, writes, ores_some, binV, thenK, blockK, tupOf, List.length_cons, List.length_nil, List.append_nil, List.replicate_zero, Option.map_some, if_true, if_false, Nat.reduceEqDiff, Nat.zero_add, reduceCtorEq, eq_self, false_and, ren, *]
            | simp (disch := omega) only [getD_ints, wrapI]
            | omega)
          all_goals first | rfl
/-- the bound, so far -/
def bnd (dlo dhi lo hi : List Int) : Nat → Int
  | 0 => 0
  | k + 1 => bnd dlo dhi lo hi k + (lo.getD k 0 * dlo.getD k 0 - hi.getD k 0 * dhi.getD k 0)
theorem bnd_bd {n : Nat} {dlo dhi lo hi : List Int} {den : Int} (hD : DOk n dlo dhi) (hW : WOk n lo hi den) : ∀ k, k ≤ n → -(10000000000000 * (k : Int)) ≤ bnd dlo dhi lo hi k ∧ bnd dlo dhi lo hi k ≤ 10000000000000 * (k : Int)
  | 0, _ => by simp [bnd]
  | k + 1, hk => by
    have h1 := bnd_bd hD hW k (by omega)
    have h2 := mul_bd (hW.r1 k (by omega)) (hD.r1 k (by omega))
    have h3 := mul_bd (hW.r2 k (by omega)) (hD.r2 k (by omega))
    simp only [bnd]
    push_cast; omega
set_option maxHeartbeats 8000000 in
theorem k90 (d1 d2 n1 n2 : Bool) (dlo dhi lo hi : List Int) (den : Int) (n : Nat) (hn : n ≤ 40) (hD : DOk n dlo dhi) (hW : WOk n lo hi den) : Fn Try.prog 90 [dmV d1 dlo d2 dhi, wgV n1 lo n2 hi den] (i64 (bnd dlo dhi lo hi n)) [] := by
  refine fn_of e90 ?_
  have q1 := (by simp : (dlo.map fun x => [i64 x]).length = dlo.length)
  have q2 := (by simp : (dhi.map fun x => [i64 x]).length = dhi.length)
  have q3 := (by simp : (lo.map fun x => [i64 x]).length = lo.length)
  have q4 := (by simp : (hi.map fun x => [i64 x]).length = hi.length)
  have r1 := hD.l1
  have r2 := hD.l2
  have r3 := hW.l1
  have r4 := hW.l2
  have hb := PLift.up (bnd_bd hD hW)
  have hm1 := PLift.up (fun k hk => mul_bd (hW.r1 k hk) (hD.r1 k hk))
  have hm2 := PLift.up (fun k hk => mul_bd (hW.r2 k hk) (hD.r2 k hk))
  clear hD hW
  unfold c90
  repeat' (first
    | ((with_reducible refine T_calm ?_ ?_); rfl)
    | with_reducible first
      | refine T_seq ?_
      | refine T_reg ?_
      | refine T_draw ?_
      | refine T_skip ?_
      | refine T_exit ?_
      | refine T_block ?_
      | refine T_cond_t rfl ?_
      | refine T_cond_f rfl ?_
      | refine wdW_cons rfl ?_
      | ((first | refine T_cond rfl (fun hc => ?_) (fun hc => ?_) | refine wguard_split (fun hc => ?_) (fun hc => ?_) | refine wguardX_split (fun hc => ?_) (fun hc => ?_)) <;> have hd := hc <;> (try simp (disch := omega) only [wrapI] at hd) <;> have hs := hd <;> (try simp only [Bool.not_eq_true', Bool.not_eq_false', Bool.and_eq_true, Bool.and_eq_false_iff, Bool.or_eq_true, Bool.or_eq_false_iff, decide_eq_true_eq, decide_eq_false_iff_not, beq_iff_eq, bne_iff_ne, beq_eq_false_iff_ne, bne_eq_false_iff_eq, Bool.not_true, Bool.not_false, gt_iff_lt, ge_iff_le, Int.not_lt, Int.not_le, ne_eq, Decidable.not_not] at hd) <;> (try simp at hs))
      | refine T_ret ?_
      | refine leave_of (.inr rfl) _ rfl ?_
      | refine leave_of (.inl rfl) _ rfl ?_
      | refine leaveA_of (.inr rfl) _ rfl ?_
      | refine leaveA_of (.inl rfl) _ rfl ?_
      | refine wif_intro ?_ (fun hc => ?_)
      | refine And.intro ?_ ?_
      | intro hc
    | simp (maxSteps := 4000000) only [wops_nil, wops_cons, wstep_none, wrun_mv, wrun_load, wrun_faddr, wrun_len, wrun_box, wop, aop, ev, look, put_some, writes, ores_some, ores_map, ores_bind, thenK, intV, lenOf, value, cut, hget, AV.parts, isOne, mkAgg, List.map_cons, List.map_nil, List.length_cons, List.length_nil, List.getElem?_cons_zero, List.getElem?_cons_succ, List.set_cons_zero, List.set_cons_succ, List.take_succ_cons, List.take_zero, List.drop_zero, List.nil_append, List.append_nil, List.replicate_zero, List.replicate_succ, List.getD_cons_zero, List.zipIdx_cons, List.zipIdx_nil, List.all_cons, List.all_nil, Option.pure_def, Option.bind_eq_bind, Option.getD_some, Option.map_some, if_true, if_false, Nat.reduceEqDiff, Nat.reduceAdd, Nat.add_zero, Nat.zero_add, Nat.zero_ne_one, reduceCtorEq, Bool.and_true, Bool.false_eq_true, eq_self, true_and, and_self, List.all_cons, *]
    | simp (disch := omega) only [getD_ints, wrapI]
    | omega)
  refine T_forP [2, 3, 5, 9, 10] (fun k => [(2, .loc 0 0 0), (3, .loc 1 0 0), (5, i64 (bnd dlo dhi lo hi k)), (9, i64 n), (10, i64 k)]) n (fun k H => H = [.cells true false 2 [[ints d1 dlo, ints d2 dhi]], wB n1 lo n2 hi den]) 0 ?_ rfl (Nat.zero_le _) ?_
  · simp [St.only, get_mk, look, bnd]
  intro k H hk hHe
  subst hHe
  by_cases hkn : k < n
  · have g1 : (dlo.map fun x => [i64 x]).getD k [] = [i64 (dlo.getD k 0)] := getD_ints (by omega)
    have g2 : (dhi.map fun x => [i64 x]).getD k [] = [i64 (dhi.getD k 0)] := getD_ints (by omega)
    have g3 : (lo.map fun x => [i64 x]).getD k [] = [i64 (lo.getD k 0)] := getD_ints (by omega)
    have g4 : (hi.map fun x => [i64 x]).getD k [] = [i64 (hi.getD k 0)] := getD_ints (by omega)
    have b1 := hm1.down k hkn
    have b2 := hm2.down k hkn
    have b3 := hb.down k (by omega)
    have ew1 : IntKind.i64.wrap (lo.getD k 0 * dlo.getD k 0) = lo.getD k 0 * dlo.getD k 0 := wrapI (by omega) (by omega)
    have ew2 : IntKind.i64.wrap (hi.getD k 0 * dhi.getD k 0) = hi.getD k 0 * dhi.getD k 0 := wrapI (by omega) (by omega)
    have ew3 : IntKind.i64.wrap (lo.getD k 0 * dlo.getD k 0 - hi.getD k 0 * dhi.getD k 0) = lo.getD k 0 * dlo.getD k 0 - hi.getD k 0 * dhi.getD k 0 := wrapI (by omega) (by omega)
    have ew4 : IntKind.i64.wrap (bnd dlo dhi lo hi k + (lo.getD k 0 * dlo.getD k 0 - hi.getD k 0 * dhi.getD k 0)) = bnd dlo dhi lo hi (k + 1) := wrapI (by omega) (by omega)
    have x1 : (k : Int) < (dlo.length : Int) := by omega
    have x2 : (k : Int) < (dhi.length : Int) := by omega
    have x3 : (k : Int) < (lo.length : Int) := by omega
    have x4 : (k : Int) < (hi.length : Int) := by omega
    generalize bnd dlo dhi lo hi (k + 1) = T2 at *
    generalize bnd dlo dhi lo hi k = T1 at *
    generalize dlo.getD k 0 = u1 at *
    generalize dhi.getD k 0 = u2 at *
    generalize lo.getD k 0 = u3 at *
    generalize hi.getD k 0 = u4 at *
    clear hb hm1 hm2 b1 b2 b3 r1 r2 r3 r4
    unfold c90l0
    repeat' (first
      | with_reducible first
        | refine T_seq ?_
        | refine T_reg ?_
        | refine T_draw ?_
        | refine T_skip ?_
        | refine T_exit ?_
        | refine T_block ?_
        | refine T_cond_t rfl ?_
        | refine T_cond_f rfl ?_
        | refine wdW_cons rfl ?_
        | ((first | refine T_cond rfl (fun hc => ?_) (fun hc => ?_) | refine wguard_split (fun hc => ?_) (fun hc => ?_) | refine wguardX_split (fun hc => ?_) (fun hc => ?_)) <;> have hd := hc <;> (try simp (disch := omega) only [wrapI] at hd) <;> have hs := hd <;> (try simp only [decide_eq_true_eq, decide_eq_false_iff_not, Int.not_lt] at hd) <;> (try simp at hs))
        | refine T_ret ?_
        | refine leave_of (.inr rfl) _ rfl ?_
        | refine leave_of (.inl rfl) _ rfl ?_
        | refine leaveA_of (.inr rfl) _ rfl ?_
        | refine leaveA_of (.inl rfl) _ rfl ?_
        | refine wif_intro ?_ (fun hc => ?_)
        | refine And.intro ?_ ?_
        | intro hc
      | simp (maxSteps := 4000000) only [wops_nil, wops_cons, wstep_none, wrun_mv, wrun_bin, wrun_load, wrun_faddr, wrun_iaddrS, wrunX_mv, wrunX_bin, wrunX_load, wrunX_faddr, wrunX_iaddrS, wdW_nil, wstepX_none, get_mk, wop, aop, ev, look, put_some, writes, ores_some, ores_ite_none, binV, thenK, blockK, value, cut, hget, toLits, mkAgg, tupOf, List.length_cons, List.length_nil, List.getElem?_cons_zero, List.getElem?_cons_succ, List.take_succ_cons, List.take_zero, List.take_nil, List.drop_succ_cons, List.drop_zero, List.append_nil, List.replicate_zero, List.getD_cons_zero, Option.getD_some, Option.map_some, if_true, if_false, Nat.reduceEqDiff, Nat.reduceAdd, Nat.add_zero, Nat.zero_add, reduceCtorEq, Bool.false_eq_true, eq_self, true_and, and_true, and_self, decide_true, ren, Int.toNat_natCast, *]
      | simp (disch := omega) only [wrapI]
      | omega)
    all_goals first | rfl | (simp [St.only, get_mk, look]; done)
  · have hke : k = n := by omega
    subst hke
    have hkk : decide ((k : Int) < (k : Int)) = false := by simp
    clear hb hm1 hm2
    unfold c90l0
    repeat' (first
      | ((with_reducible refine T_calm ?_ ?_); rfl)
      | with_reducible first
        | refine T_seq ?_
        | refine T_reg ?_
        | refine T_draw ?_
        | refine T_skip ?_
        | refine T_exit ?_
        | refine T_block ?_
        | refine T_cond_t rfl ?_
        | refine T_cond_f rfl ?_
        | refine wdW_cons rfl ?_
        | ((first | refine T_cond rfl (fun hc => ?_) (fun hc => ?_) | refine wguard_split (fun hc => ?_) (fun hc => ?_) | refine wguardX_split (fun hc => ?_) (fun hc => ?_)) <;> have hd := hc <;> (try simp (disch := omega) only [wrapI] at hd) <;> have hs := hd <;> (try simp only [Bool.not_eq_true', Bool.not_eq_false', Bool.and_eq_true, Bool.and_eq_false_iff, Bool.or_eq_true, Bool.or_eq_false_iff, decide_eq_true_eq, decide_eq_false_iff_not, beq_iff_eq, bne_iff_ne, beq_eq_false_iff_ne, bne_eq_false_iff_eq, Bool.not_true, Bool.not_false, gt_iff_lt, ge_iff_le, Int.not_lt, Int.not_le, ne_eq, Decidable.not_not] at hd) <;> (try simp at hs))
        | refine T_ret ?_
        | refine leave_of (.inr rfl) _ rfl ?_
        | refine leave_of (.inl rfl) _ rfl ?_
        | refine leaveA_of (.inr rfl) _ rfl ?_
        | refine leaveA_of (.inl rfl) _ rfl ?_
        | refine wif_intro ?_ (fun hc => ?_)
        | refine And.intro ?_ ?_
        | intro hc
      | simp (maxSteps := 4000000) only [wops_nil, wops_cons, wstep_none, wrun_mv, wrun_bin, get_mk, wop, aop, ev, look, put_some, writes, ores_some, binV, thenK, blockK, tupOf, List.length_cons, List.length_nil, List.append_nil, List.replicate_zero, Option.map_some, if_true, if_false, Nat.reduceEqDiff, Nat.reduceAdd, Nat.zero_add, reduceCtorEq, eq_self, false_and, ren, Int.toNat_natCast, *]
      | simp (disch := omega) only [getD_ints, wrapI]
      | omega)
    all_goals first | rfl
set_option maxHeartbeats 8000000 in
theorem k93 (d1 d2 n1 n2 : Bool) (dlo dhi lo hi : List Int) (den : Int) (n : Nat) (hn : n ≤ 40) (hD : DOk n dlo dhi) (hW : WOk n lo hi den) : Fn Try.prog 93 [dmV d1 dlo d2 dhi, wgV n1 lo n2 hi den] (i64 (bnd dlo dhi lo hi n)) [] := by
  refine fn_of e93 ?_
  have q1 := (by simp : (dlo.map fun x => [i64 x]).length = dlo.length)
  have q2 := (by simp : (dhi.map fun x => [i64 x]).length = dhi.length)
  have q3 := (by simp : (lo.map fun x => [i64 x]).length = lo.length)
  have q4 := (by simp : (hi.map fun x => [i64 x]).length = hi.length)
  have r1 := hD.l1
  have r2 := hD.l2
  have r3 := hW.l1
  have r4 := hW.l2
  have hb := PLift.up (bnd_bd hD hW)
  have hm1 := PLift.up (fun k hk => mul_bd (hW.r1 k hk) (hD.r1 k hk))
  have hm2 := PLift.up (fun k hk => mul_bd (hW.r2 k hk) (hD.r2 k hk))
  clear hD hW
  unfold c93
  repeat' (first
    | ((with_reducible refine T_calm ?_ ?_); rfl)
    | with_reducible first
      | refine T_seq ?_
      | refine T_reg ?_
      | refine T_draw ?_
      | refine T_skip ?_
      | refine T_exit ?_
      | refine T_block ?_
      | refine T_cond_t rfl ?_
      | refine T_cond_f rfl ?_
      | refine wdW_cons rfl ?_
      | ((first | refine T_cond rfl (fun hc => ?_) (fun hc => ?_) | refine wguard_split (fun hc => ?_) (fun hc => ?_) | refine wguardX_split (fun hc => ?_) (fun hc => ?_)) <;> have hd := hc <;> (try simp (disch := omega) only [wrapI] at hd) <;> have hs := hd <;> (try simp only [Bool.not_eq_true', Bool.not_eq_false', Bool.and_eq_true, Bool.and_eq_false_iff, Bool.or_eq_true, Bool.or_eq_false_iff, decide_eq_true_eq, decide_eq_false_iff_not, beq_iff_eq, bne_iff_ne, beq_eq_false_iff_ne, bne_eq_false_iff_eq, Bool.not_true, Bool.not_false, gt_iff_lt, ge_iff_le, Int.not_lt, Int.not_le, ne_eq, Decidable.not_not] at hd) <;> (try simp at hs))
      | refine T_ret ?_
      | refine leave_of (.inr rfl) _ rfl ?_
      | refine leave_of (.inl rfl) _ rfl ?_
      | refine leaveA_of (.inr rfl) _ rfl ?_
      | refine leaveA_of (.inl rfl) _ rfl ?_
      | refine wif_intro ?_ (fun hc => ?_)
      | refine And.intro ?_ ?_
      | intro hc
    | simp (maxSteps := 4000000) only [wops_nil, wops_cons, wstep_none, wrun_mv, wrun_box, wop, aop, ev, look, put_some, writes, ores_some, thenK, AV.parts, isOne, List.map_cons, List.map_nil, List.length_cons, List.length_nil, List.getElem?_cons_zero, List.getElem?_cons_succ, List.set_cons_zero, List.set_cons_succ, List.nil_append, List.append_nil, List.replicate_zero, List.replicate_succ, List.zipIdx_cons, List.zipIdx_nil, List.all_cons, List.all_nil, if_true, if_false, Nat.reduceEqDiff, Nat.reduceAdd, Nat.add_zero, Nat.zero_add, Nat.zero_ne_one, reduceCtorEq, Bool.and_true, eq_self, true_and, and_self, List.all_cons, *]
    | simp (disch := omega) only [getD_ints, wrapI]
    | omega)
  refine T_forP [2, 3, 5, 6] (fun k => [(2, .loc 0 0 0), (3, .loc 1 0 0), (5, i64 (bnd dlo dhi lo hi k)), (6, i64 k)]) n (fun k H => H = [.cells true false 2 [[ints d1 dlo, ints d2 dhi]], wB n1 lo n2 hi den]) 0 ?_ rfl (Nat.zero_le _) ?_
  · simp [St.only, get_mk, look, bnd]
  intro k H hk hHe
  subst hHe
  by_cases hkn : k < n
  · have g1 : (dlo.map fun x => [i64 x]).getD k [] = [i64 (dlo.getD k 0)] := getD_ints (by omega)
    have g2 : (dhi.map fun x => [i64 x]).getD k [] = [i64 (dhi.getD k 0)] := getD_ints (by omega)
    have g3 : (lo.map fun x => [i64 x]).getD k [] = [i64 (lo.getD k 0)] := getD_ints (by omega)
    have g4 : (hi.map fun x => [i64 x]).getD k [] = [i64 (hi.getD k 0)] := getD_ints (by omega)
    have b1 := hm1.down k hkn
    have b2 := hm2.down k hkn
    have b3 := hb.down k (by omega)
    have ew1 : IntKind.i64.wrap (lo.getD k 0 * dlo.getD k 0) = lo.getD k 0 * dlo.getD k 0 := wrapI (by omega) (by omega)
    have ew2 : IntKind.i64.wrap (hi.getD k 0 * dhi.getD k 0) = hi.getD k 0 * dhi.getD k 0 := wrapI (by omega) (by omega)
    have ew3 : IntKind.i64.wrap (bnd dlo dhi lo hi k + lo.getD k 0 * dlo.getD k 0) = bnd dlo dhi lo hi k + lo.getD k 0 * dlo.getD k 0 := wrapI (by omega) (by omega)
    have ew4 : IntKind.i64.wrap (bnd dlo dhi lo hi k + lo.getD k 0 * dlo.getD k 0 - hi.getD k 0 * dhi.getD k 0) = bnd dlo dhi lo hi (k + 1) := by
      simp only [bnd]; rw [wrapI (by omega) (by omega)]; omega
    have x1 : (k : Int) < (dlo.length : Int) := by omega
    have x2 : (k : Int) < (dhi.length : Int) := by omega
    have x3 : (k : Int) < (lo.length : Int) := by omega
    have x4 : (k : Int) < (hi.length : Int) := by omega
    generalize bnd dlo dhi lo hi (k + 1) = T2 at *
    generalize bnd dlo dhi lo hi k = T1 at *
    generalize dlo.getD k 0 = u1 at *
    generalize dhi.getD k 0 = u2 at *
    generalize lo.getD k 0 = u3 at *
    generalize hi.getD k 0 = u4 at *
    clear hb hm1 hm2 b1 b2 b3 r1 r2 r3 r4
    unfold c93l0
    repeat' (first
      | with_reducible first
        | refine T_seq ?_
        | refine T_reg ?_
        | refine T_draw ?_
        | refine T_skip ?_
        | refine T_exit ?_
        | refine T_block ?_
        | refine T_cond_t rfl ?_
        | refine T_cond_f rfl ?_
        | refine wdW_cons rfl ?_
        | ((first | refine T_cond rfl (fun hc => ?_) (fun hc => ?_) | refine wguard_split (fun hc => ?_) (fun hc => ?_) | refine wguardX_split (fun hc => ?_) (fun hc => ?_)) <;> have hd := hc <;> (try simp (disch := omega) only [wrapI] at hd) <;> have hs := hd <;> (try simp only [Bool.not_eq_true', Bool.not_eq_false', Bool.and_eq_true, Bool.and_eq_false_iff, Bool.or_eq_true, Bool.or_eq_false_iff, decide_eq_true_eq, decide_eq_false_iff_not, beq_iff_eq, bne_iff_ne, beq_eq_false_iff_ne, bne_eq_false_iff_eq, Bool.not_true, Bool.not_false, gt_iff_lt, ge_iff_le, Int.not_lt, Int.not_le, ne_eq, Decidable.not_not] at hd) <;> (try simp at hs))
        | refine T_ret ?_
        | refine leave_of (.inr rfl) _ rfl ?_
        | refine leave_of (.inl rfl) _ rfl ?_
        | refine leaveA_of (.inr rfl) _ rfl ?_
        | refine leaveA_of (.inl rfl) _ rfl ?_
        | refine wif_intro ?_ (fun hc => ?_)
        | refine And.intro ?_ ?_
        | intro hc
      | simp (maxSteps := 4000000) only [wops_nil, wops_cons, wstep_none, wrun_mv, wrun_bin, wrun_load, wrun_faddr, wrun_iaddrS, wrun_len, wrunX_mv, wrunX_bin, wrunX_load, wrunX_faddr, wrunX_iaddrS, wdW_nil, wstepX_none, wop, aop, ev, look, put_some, writes, ores_some, ores_ite_none, ores_map, ores_bind, binV, thenK, blockK, intV, lenOf, value, cut, hget, toLits, mkAgg, List.length_cons, List.length_nil, List.getElem?_cons_zero, List.getElem?_cons_succ, List.take_succ_cons, List.take_zero, List.take_nil, List.drop_succ_cons, List.drop_zero, List.append_nil, List.replicate_zero, List.getD_cons_zero, Option.pure_def, Option.bind_eq_bind, Option.getD_some, Option.map_some, if_true, if_false, Nat.reduceEqDiff, Nat.reduceAdd, Nat.add_zero, Nat.zero_add, reduceCtorEq, Bool.false_eq_true, eq_self, true_and, and_true, and_self, decide_true, Int.toNat_natCast, *]
      | simp (disch := omega) only [wrapI]
      | omega)
    all_goals first | rfl | (simp [St.only, get_mk, look]; done)
  · have hke : k = n := by omega
    subst hke
    have hkk : decide ((k : Int) < (lo.length : Int)) = false := decide_eq_false (by omega)
    clear hb hm1 hm2
    unfold c93l0
    repeat' (first
      | ((with_reducible refine T_calm ?_ ?_); rfl)
      | with_reducible first
        | refine T_seq ?_
        | refine T_reg ?_
        | refine T_draw ?_
        | refine T_skip ?_
        | refine T_exit ?_
        | refine T_block ?_
        | refine T_cond_t rfl ?_
        | refine T_cond_f rfl ?_
        | refine wdW_cons rfl ?_
        | ((first | refine T_cond rfl (fun hc => ?_) (fun hc => ?_) | refine wguard_split (fun hc => ?_) (fun hc => ?_) | refine wguardX_split (fun hc => ?_) (fun hc => ?_)) <;> have hd := hc <;> (try simp (disch := omega) only [wrapI] at hd) <;> have hs := hd <;> (try simp only [decide_eq_true_eq, decide_eq_false_iff_not, Int.not_lt] at hd) <;> (try simp at hs))
        | refine T_ret ?_
        | refine leave_of (.inr rfl) _ rfl ?_
        | refine leave_of (.inl rfl) _ rfl ?_
        | refine leaveA_of (.inr rfl) _ rfl ?_
        | refine leaveA_of (.inl rfl) _ rfl ?_
        | refine wif_intro ?_ (fun hc => ?_)
        | refine And.intro ?_ ?_
        | intro hc
      | simp (maxSteps := 4000000) only [wops_nil, wops_cons, wstep_none, wrun_mv, wrun_bin, wrun_load, wrun_faddr, wrun_len, get_mk, wop, aop, ev, look, put_some, writes, ores_some, ores_map, ores_bind, binV, thenK, blockK, intV, lenOf, value, cut, hget, mkAgg, tupOf, List.length_cons, List.length_nil, List.getElem?_cons_zero, List.getElem?_cons_succ, List.take_succ_cons, List.take_zero, List.drop_zero, List.append_nil, List.replicate_zero, List.getD_cons_zero, Option.pure_def, Option.bind_eq_bind, Option.getD_some, Option.map_some, if_true, if_false, Nat.reduceEqDiff, Nat.reduceAdd, Nat.add_zero, Nat.zero_add, reduceCtorEq, Bool.false_eq_true, eq_self, false_and, ren, *]
      | simp (disch := omega) only [getD_ints, wrapI]
      | omega)
    all_goals first | rfl
end Go.Abs
