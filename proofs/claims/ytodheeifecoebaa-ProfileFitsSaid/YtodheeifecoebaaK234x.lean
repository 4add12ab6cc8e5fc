import Derived.Test.YtodheeifecoebaaK233x
set_option linter.all false
set_option linter.unusedVariables false
set_option linter.unusedSimpArgs false
set_option linter.unusedSectionVars false
namespace Go.Abs
open Go.Proofs
/-! the specification's CheckFit -/
section
variable {nil hn fn : Bool} {rows : List (Bool × List Int)} {h nums : List Int} {den : Int}
/-- what is left of a height -/
def lfF (rows : List (Bool × List Int)) (h nums : List Int) (den : Int) (i u : Nat) : Int := h.getD i 0 * den - sm (fun m => nums.getD m 0 * (rowN rows m).2.getD i 0) u
def suF (rows : List (Bool × List Int)) (h nums : List Int) (den : Int) (k u : Nat) : Int := sm (fun i => (rowN rows k).2.getD i 0 * lfF rows h nums den i rows.length) u
theorem su_rm (rows : List (Bool × List Int)) (h nums : List Int) (den : Int) (k : Nat) : suF rows h nums den k h.length = rmF rows h nums den k rows.length :=
  fit_sum (fun i => (rowN rows k).2.getD i 0) (fun i => h.getD i 0) (fun m i => (rowN rows m).2.getD i 0) (fun m => nums.getD m 0) den rows.length h.length
theorem lfF_bd (f : FfOk rows h nums den) {i u : Nat} (hi : i < h.length) (hu : u ≤ rows.length) : -2500000000000000 ≤ lfF rows h nums den i u ∧ lfF rows h nums den i u ≤ 2500000000000000 := by
  have hk2 := f.o.hk
  have m1 := mul_bd (x := h.getD i 0) (y := den) (A := 5000) (B := 100000000000) (f.o.hh i hi) (by have := f.hd; omega) (by omega)
  have h2 : ∀ m, m < u → -1000000000000000 ≤ nums.getD m 0 * (rowN rows m).2.getD i 0 ∧ nums.getD m 0 * (rowN rows m).2.getD i 0 ≤ 1000000000000000 := fun m hm => by
    have := mul_bd (x := nums.getD m 0) (y := (rowN rows m).2.getD i 0) (A := 10000000000000) (B := 100) (f.hN m (by have := f.hl; omega)) (f.o.hb m i (by omega) hi) (by omega)
    omega
  have h3 := sm_bd (B := 1000000000000000) u h2
  unfold lfF
  have : (u : Int) ≤ 2 := by omega
  omega
theorem suF_bd (f : FfOk rows h nums den) {k u : Nat} (hk : k < rows.length) (hu : u ≤ h.length) : -5000000000000000000 ≤ suF rows h nums den k u ∧ suF rows h nums den k u ≤ 5000000000000000000 := by
  have hn := f.o.hn
  have h2 : ∀ i, i < u → -250000000000000000 ≤ (rowN rows k).2.getD i 0 * lfF rows h nums den i rows.length ∧ (rowN rows k).2.getD i 0 * lfF rows h nums den i rows.length ≤ 250000000000000000 := fun i hi => by
    have := mul_bd (x := (rowN rows k).2.getD i 0) (y := lfF rows h nums den i rows.length) (A := 100) (B := 2500000000000000) (f.o.hb k i hk (by omega)) (lfF_bd f (by omega) (Nat.le_refl _)) (by omega)
    omega
  have h3 := sm_bd (B := 250000000000000000) u h2
  unfold suF
  have : (u : Int) ≤ 20 := by omega
  omega
abbrev bF (fn : Bool) (nums : List Int) (den : Int) : List Blk := [.cells true false 2 [[ints fn nums, i64 den]]]
set_option maxHeartbeats 8000000 in
theorem k81 (h0 : checkF rows h = 0) (hln : nums.length < 1000000) : Fn Try.prog 81 [.sl nil 1 (rows.map fun r => [ints r.1 r.2]), ints hn h, .agg [ints fn nums, i64 den]] (i64 (chkF rows h nums den)) [] := by
  refine fn_of e81 ?_
  have o := checkF_ok h0
  have hk := o.hk
  have hlh := o.hn
  have hp := plain_rws rows
  have hl2 : (rows.map fun r => [ints r.1 r.2]).length = rows.length := by simp
  unfold chkF
  by_cases h1 : nums.length ≠ rows.length
  · rw [if_pos h1]
    have hd1 : ((nums.length : Int) != (rows.length : Int)) = true := by simp only [bne_iff_ne]; omega
    clear o
    unfold c81
    repeat' (first
      | ((with_reducible refine T_calm ?_ ?_); rfl)
      | with_reducible first
        | refine T_seq ?_
        | refine T_reg ?_
        | refine T_draw ?_
        | refine T_skip ?_
        | refine T_exit ?_
        | refine T_block ?_
        | refine T_cond_t rfl ?_
        | refine T_cond_f rfl ?_
        | refine wdW_cons rfl ?_
        | ((first | refine T_cond rfl (fun hc => ?_) (fun hc => ?_) | refine wguard_split (fun hc => ?_) (fun hc => ?_) | refine wguardX_split (fun hc => ?_) (fun hc => ?_)) <;> have hd := hc <;> (try simp (disch := omega) only [wrapI] at hd) <;> have hs := hd <;> (try simp only [Bool.not_eq_true', Bool.not_eq_false', Bool.and_eq_true, Bool.and_eq_false_iff, Bool.or_eq_true, Bool.or_eq_false_iff, decide_eq_true_eq, decide_eq_false_iff_not, beq_iff_eq, bne_iff_ne, beq_eq_false_iff_ne, bne_eq_false_iff_eq, Bool.not_true, Bool.not_false, gt_iff_lt, ge_iff_le, Int.not_lt, Int.not_le, ne_eq, Decidable.not_not] at hd) <;> (try simp at hs))
        | refine T_ret ?_
        | refine leave_of (.inr rfl) _ rfl ?_
        | refine leave_of (.inl rfl) _ rfl ?_
        | refine leaveA_of (.inr rfl) _ rfl ?_
        | refine leaveA_of (.inl rfl) _ rfl ?_
        | refine wif_intro ?_ (fun hc => ?_)
        | refine And.intro ?_ ?_
        | intro hc
      | simp (maxSteps := 4000000) only [wops_nil, wops_cons, wstep_none, wrun_mv, wrun_bin, wrun_load, wrun_faddr, wrun_len, wrun_box, get_mk, wop, aop, ev, look, put_some, writes, ores_some, ores_map, ores_bind, binV, thenK, intV, lenOf, value, cut, hget, AV.parts, isOne, mkAgg, tupOf, List.map_cons, List.map_nil, List.length_cons, List.length_nil, List.getElem?_cons_zero, List.set_cons_zero, List.take_succ_cons, List.take_zero, List.drop_zero, List.nil_append, List.append_nil, List.replicate_zero, List.replicate_succ, List.getD_cons_zero, List.zipIdx_cons, List.zipIdx_nil, List.all_cons, List.all_nil, List.length_map, Option.pure_def, Option.bind_eq_bind, Option.getD_some, Option.map_some, if_true, if_false, Nat.reduceEqDiff, Nat.reduceAdd, Nat.add_zero, Nat.zero_add, reduceCtorEq, Bool.and_true, Bool.false_eq_true, eq_self, true_and, and_self, List.all_cons, ren, *]
      | simp (disch := omega) only [getD_ints, wrapI]
      | omega)
    all_goals first | rfl
  rw [if_neg h1]
  have hd1 : ((nums.length : Int) != (rows.length : Int)) = false := by simp only [bne_eq_false_iff_eq]; omega
  have hle : id (nums.length = rows.length) := by show nums.length = rows.length; omega
  clear h1
  by_cases h2 : ¬(1 ≤ den ∧ den ≤ 100000000000)
  · rw [if_pos h2]
    clear o
    unfold c81
    repeat' (first
      | ((with_reducible refine T_calm ?_ ?_); rfl)
      | with_reducible first
        | refine T_seq ?_
        | refine T_reg ?_
        | refine T_draw ?_
        | refine T_skip ?_
        | refine T_exit ?_
        | refine T_block ?_
        | refine T_cond_t rfl ?_
        | refine T_cond_f rfl ?_
        | refine wdW_cons rfl ?_
        | (show wcall _ false (.lit (.func (.func 32) _ _)) _ _ _ _; refine wcall_fn (k32 _ _ _) rfl (by simp [plainL, plain]) ?_)
        | (show wcallX _ false (.lit (.func (.func 32) _ _)) _ _ _ _; refine wcallX_fn (k32 _ _ _) rfl (by simp [plainL, plain, plainR, renR_rws, plain_rws]) ?_)
        | ((first | refine T_cond rfl (fun hc => ?_) (fun hc => ?_) | refine wguard_split (fun hc => ?_) (fun hc => ?_) | refine wguardX_split (fun hc => ?_) (fun hc => ?_)) <;> have hd := hc <;> (try simp (disch := omega) only [wrapI] at hd) <;> have hs := hd <;> (try simp only [Bool.not_eq_true', Bool.not_eq_false', Bool.and_eq_true, Bool.and_eq_false_iff, decide_eq_true_eq, decide_eq_false_iff_not, Int.not_le] at hd) <;> (try simp at hs))
        | refine T_ret ?_
        | refine leave_of (.inr rfl) _ rfl ?_
        | refine leave_of (.inl rfl) _ rfl ?_
        | refine leaveA_of (.inr rfl) _ rfl ?_
        | refine leaveA_of (.inl rfl) _ rfl ?_
        | refine wif_intro ?_ (fun hc => ?_)
        | refine And.intro ?_ ?_
        | intro hc
      | simp (maxSteps := 4000000) only [wops_nil, wops_cons, wstep_none, wrun_call, wrun_mv, wrun_bin, wrun_not, wrun_load, wrun_faddr, wrun_len, wrun_box, get_mk, wop, aop, ev, look, put_some, writes, ores_some, ores_map, ores_bind, binV, thenK, boolV, intV, lenOf, value, cut, hget, AV.parts, isOne, mkAgg, tupOf, List.map_cons, List.map_nil, List.length_cons, List.length_nil, List.getElem?_cons_zero, List.set_cons_zero, List.take_succ_cons, List.take_zero, List.take_nil, List.drop_succ_cons, List.drop_zero, List.nil_append, List.append_nil, List.replicate_zero, List.replicate_succ, List.getD_cons_zero, List.zipIdx_cons, List.zipIdx_nil, List.all_cons, List.all_nil, List.length_map, Option.pure_def, Option.bind_eq_bind, Option.getD_some, Option.map_some, if_true, if_false, Nat.reduceEqDiff, Nat.reduceAdd, Nat.add_zero, Nat.zero_add, reduceCtorEq, Bool.not_true, Bool.and_true, Bool.false_eq_true, eq_self, true_and, and_self, decide_true, freeze, lidsL, lids, List.flatMap_cons, List.flatMap_nil, List.all_cons, ren, *]
      | simp (disch := omega) only [getD_ints, wrapI]
      | (with_reducible show wcall _ false (.lit (.func (.func 32) _ _)) _ _ _ _; refine wcall_fn (k32 _ _ _) ?_ ?_ ?_; (next => simp [rfyL, rfy, hget, ints, take_rfy, renR_rws, plain_rws]); (next => simp [plainL, plain, plainR, renR_rws, plain_rws]))
      | (with_reducible show wcallX _ false (.lit (.func (.func 32) _ _)) _ _ _ _; refine wcallX_fn (k32 _ _ _) ?_ ?_ ?_; (next => simp [rfyL, rfy, hget, ints, take_rfy, renR_rws, plain_rws]); (next => simp [plainL, plain, plainR, renR_rws, plain_rws]))
      | omega)
    all_goals first | rfl
  rw [if_neg h2]
  have hg := fun k => gfP_bd (N := nums) (D := den) (by omega) k
  replace hg := And.intro hg trivial
  replace o := And.intro o trivial
  unfold c81
  repeat' (first
    | ((with_reducible refine T_calm ?_ ?_); rfl)
    | with_reducible first
      | refine T_seq ?_
      | refine T_reg ?_
      | refine T_draw ?_
      | refine T_skip ?_
      | refine T_exit ?_
      | refine T_block ?_
      | refine T_cond_t rfl ?_
      | refine T_cond_f rfl ?_
      | refine wdW_cons rfl ?_
      | (show wcall _ false (.lit (.func (.func 32) _ _)) _ _ _ _; refine wcall_fn (k32 _ _ _) rfl (by simp [plainL, plain]) ?_)
      | (show wcallX _ false (.lit (.func (.func 32) _ _)) _ _ _ _; refine wcallX_fn (k32 _ _ _) rfl (by simp [plainL, plain, plainR, renR_rws, plain_rws]) ?_)
      | ((first | refine T_cond rfl (fun hc => ?_) (fun hc => ?_) | refine wguard_split (fun hc => ?_) (fun hc => ?_) | refine wguardX_split (fun hc => ?_) (fun hc => ?_)) <;> have hd := hc <;> (try simp (disch := omega) only [wrapI] at hd) <;> have hs := hd <;> (try simp only [Bool.not_eq_true', Bool.not_eq_false', Bool.and_eq_true, Bool.and_eq_false_iff, decide_eq_true_eq, decide_eq_false_iff_not, Int.not_le] at hd) <;> (try simp at hs))
      | refine T_ret ?_
      | refine leave_of (.inr rfl) _ rfl ?_
      | refine leave_of (.inl rfl) _ rfl ?_
      | refine leaveA_of (.inr rfl) _ rfl ?_
      | refine leaveA_of (.inl rfl) _ rfl ?_
      | refine wif_intro ?_ (fun hc => ?_)
      | refine And.intro ?_ ?_
      | intro hc
    | simp (maxSteps := 4000000) only [wops_nil, wops_cons, wstep_none, wrun_call, wrun_mv, wrun_bin, wrun_not, wrun_load, wrun_faddr, wrun_len, wrun_box, get_mk, wop, aop, ev, look, put_some, writes, ores_some, ores_map, ores_bind, binV, thenK, boolV, intV, lenOf, value, cut, hget, AV.parts, isOne, mkAgg, tupOf, List.map_cons, List.map_nil, List.length_cons, List.length_nil, List.getElem?_cons_zero, List.set_cons_zero, List.take_succ_cons, List.take_zero, List.take_nil, List.drop_succ_cons, List.drop_zero, List.nil_append, List.append_nil, List.replicate_zero, List.replicate_succ, List.getD_cons_zero, List.zipIdx_cons, List.zipIdx_nil, List.all_cons, List.all_nil, List.length_map, Option.pure_def, Option.bind_eq_bind, Option.getD_some, Option.map_some, if_true, if_false, Nat.reduceEqDiff, Nat.reduceAdd, Nat.add_zero, Nat.zero_add, reduceCtorEq, Bool.not_true, Bool.and_true, Bool.false_eq_true, eq_self, true_and, and_self, decide_true, ne_eq, freeze, lidsL, lids, List.flatMap_cons, List.flatMap_nil, List.all_cons, ren, *]
    | simp (disch := omega) only [getD_ints, wrapI]
    | (with_reducible show wcall _ false (.lit (.func (.func 32) _ _)) _ _ _ _; refine wcall_fn (k32 _ _ _) ?_ ?_ ?_; (next => simp [rfyL, rfy, hget, ints, take_rfy, renR_rws, plain_rws]); (next => simp [plainL, plain, plainR, renR_rws, plain_rws]))
    | (with_reducible show wcallX _ false (.lit (.func (.func 32) _ _)) _ _ _ _; refine wcallX_fn (k32 _ _ _) ?_ ?_ ?_; (next => simp [rfyL, rfy, hget, ints, take_rfy, renR_rws, plain_rws]); (next => simp [plainL, plain, plainR, renR_rws, plain_rws]))
    | omega)
  refine T_for [0, 1, 5, 7, 8] (fun k => ⟨[(0, .sl nil 1 (rows.map fun r => [ints r.1 r.2])), (1, ints hn h), (5, .loc 0 0 0), (7, i64 (gfP nums den k)), (8, i64 k)], bF fn nums den⟩) nums.length (fun k => (∀ j, j < k → -10000000000000 ≤ nums.getD j 0 ∧ nums.getD j 0 ≤ 10000000000000) ∧ (nums.drop k).any (outB 10000000000000) = nums.any (outB 10000000000000)) 0 ?_ ⟨fun j hj => by omega, rfl⟩ (Nat.zero_le _) ?_
  · simp [St.only, get_mk, look, gfP]
  intro k hk ⟨hI, hJ⟩
  by_cases hkn : k < nums.length
  · have g1 : (nums.map fun x => [i64 x]).getD k [] = [i64 (nums.getD k 0)] := getD_ints hkn
    rw [drop_getI hkn, List.any_cons] at hJ
    have ho : outB 10000000000000 (nums.getD k 0) = !(decide (-10000000000000 ≤ nums.getD k 0) && decide (nums.getD k 0 ≤ 10000000000000)) := rfl
    rw [ho] at hJ
    clear ho
    have b2 := hg.1 k
    have h32 := k32 (nums.getD k 0) (-10000000000000) 10000000000000
    have e : gfP nums den (k + 1) = Int.gcd (nums.getD k 0) (gfP nums den k) := rfl
    cases hb : (decide (-10000000000000 ≤ nums.getD k 0) && decide (nums.getD k 0 ≤ 10000000000000)) with
    | true =>
      rw [hb] at h32 hJ
      rw [Bool.not_true, Bool.false_or] at hJ
      simp only [Bool.and_eq_true, decide_eq_true_eq] at hb
      have hI2 : ∀ j, j < k + 1 → -10000000000000 ≤ nums.getD j 0 ∧ nums.getD j 0 ≤ 10000000000000 := fun j hj => by
        by_cases hjk : j = k
        · rw [hjk]; exact hb
        · exact hI j (by omega)
      have h139 := k139 (gfP nums den k) (nums.getD k 0) (by omega) (by omega)
      rw [Int.gcd_comm] at h139
      rw [e]
      replace hI2 := And.intro hI2 (And.intro hJ trivial)
      clear hg o e hI hJ hb
      unfold c81l0
      repeat' (first
        | ((with_reducible refine T_calm ?_ ?_); rfl)
        | with_reducible first
          | refine T_seq ?_
          | refine T_reg ?_
          | refine T_draw ?_
          | refine T_skip ?_
          | refine T_exit ?_
          | refine T_block ?_
          | refine T_cond_t rfl ?_
          | refine T_cond_f rfl ?_
          | refine wdW_cons rfl ?_
          | (show wcall _ false (.lit (.func (.func 32) _ _)) _ _ _ _; refine wcall_fn (h32) rfl (by simp [plainL, plain]) ?_)
          | (show wcallX _ false (.lit (.func (.func 32) _ _)) _ _ _ _; refine wcallX_fn (h32) rfl (by simp [plainL, plain, plainR, Int.toNat_natCast]) ?_)
          | (show wcall _ false (.lit (.func (.func 139) _ _)) _ _ _ _; refine wcall_fn (h139) rfl (by simp [plainL, plain]) ?_)
          | (show wcallX _ false (.lit (.func (.func 139) _ _)) _ _ _ _; refine wcallX_fn (h139) rfl (by simp [plainL, plain, plainR, Int.toNat_natCast]) ?_)
          | ((first | refine T_cond rfl (fun hc => ?_) (fun hc => ?_) | refine wguard_split (fun hc => ?_) (fun hc => ?_) | refine wguardX_split (fun hc => ?_) (fun hc => ?_)) <;> have hd := hc <;> (try simp (disch := omega) only [wrapI] at hd) <;> have hs := hd <;> (try simp only [decide_eq_true_eq, decide_eq_false_iff_not, bne_iff_ne, bne_eq_false_iff_eq, Int.not_lt, ne_eq] at hd) <;> (try simp at hs))
          | refine T_ret ?_
          | refine leave_of (.inr rfl) _ rfl ?_
          | refine leave_of (.inl rfl) _ rfl ?_
          | refine leaveA_of (.inr rfl) _ rfl ?_
          | refine leaveA_of (.inl rfl) _ rfl ?_
          | refine wif_intro ?_ (fun hc => ?_)
          | refine And.intro ?_ ?_
          | intro hc
        | simp (maxSteps := 4000000) only [wops_nil, wops_cons, wstep_none, wrun_call, wrun_mv, wrun_bin, wrun_not, wrun_load, wrun_faddr, wrun_iaddrS, wrun_len, get_mk, wop, aop, ev, look, put_some, writes, ores_some, ores_ite_none, ores_map, ores_bind, binV, thenK, blockK, boolV, intV, lenOf, value, cut, hget, mkAgg, tupOf, List.map_cons, List.map_nil, List.length_cons, List.length_nil, List.getElem?_cons_zero, List.take_succ_cons, List.take_zero, List.take_nil, List.drop_zero, List.append_nil, List.replicate_zero, List.getD_cons_zero, List.length_map, Option.pure_def, Option.bind_eq_bind, Option.getD_some, Option.map_some, if_true, if_false, Nat.reduceEqDiff, Nat.add_zero, Nat.zero_add, reduceCtorEq, Bool.not_true, Bool.false_eq_true, eq_self, true_and, and_true, and_self, decide_true, Int.reduceNeg, freeze, lidsL, lids, List.flatMap_cons, List.flatMap_nil, ren, Int.toNat_natCast, *]
        | simp (disch := omega) only [wrapI]
        | (with_reducible show wcall _ false (.lit (.func (.func 32) _ _)) _ _ _ _; refine wcall_fn (h32) ?_ ?_ ?_; (next => simp [rfyL, rfy, hget, ints, take_rfy, Int.toNat_natCast]); (next => simp [plainL, plain, plainR, Int.toNat_natCast]))
        | (with_reducible show wcallX _ false (.lit (.func (.func 32) _ _)) _ _ _ _; refine wcallX_fn (h32) ?_ ?_ ?_; (next => simp [rfyL, rfy, hget, ints, take_rfy, Int.toNat_natCast]); (next => simp [plainL, plain, plainR, Int.toNat_natCast]))
        | (with_reducible show wcall _ false (.lit (.func (.func 139) _ _)) _ _ _ _; refine wcall_fn (h139) ?_ ?_ ?_; (next => simp [rfyL, rfy, hget, ints, take_rfy, Int.toNat_natCast]); (next => simp [plainL, plain, plainR, Int.toNat_natCast]))
        | (with_reducible show wcallX _ false (.lit (.func (.func 139) _ _)) _ _ _ _; refine wcallX_fn (h139) ?_ ?_ ?_; (next => simp [rfyL, rfy, hget, ints, take_rfy, Int.toNat_natCast]); (next => simp [plainL, plain, plainR, Int.toNat_natCast]))
        | omega)
      all_goals first | exact hI2.1 | exact hI2.2.1 | (simp [St.only, get_mk, look]; done)
    | false =>
      rw [hb] at h32 hJ
      rw [Bool.not_false, Bool.true_or] at hJ
      rw [← hJ, if_pos rfl]
      clear hg o e hI hJ hb
      unfold c81l0
      repeat' (first
        | ((with_reducible refine T_calm ?_ ?_); rfl)
        | with_reducible first
          | refine T_seq ?_
          | refine T_reg ?_
          | refine T_draw ?_
          | refine T_skip ?_
          | refine T_exit ?_
          | refine T_block ?_
          | refine T_cond_t rfl ?_
          | refine T_cond_f rfl ?_
          | refine wdW_cons rfl ?_
          | (show wcall _ false (.lit (.func (.func 32) _ _)) _ _ _ _; refine wcall_fn (h32) rfl (by simp [plainL, plain]) ?_)
          | (show wcallX _ false (.lit (.func (.func 32) _ _)) _ _ _ _; refine wcallX_fn (h32) rfl (by simp [plainL, plain, plainR, Int.toNat_natCast]) ?_)
          | ((first | refine T_cond rfl (fun hc => ?_) (fun hc => ?_) | refine wguard_split (fun hc => ?_) (fun hc => ?_) | refine wguardX_split (fun hc => ?_) (fun hc => ?_)) <;> have hd := hc <;> (try simp (disch := omega) only [wrapI] at hd) <;> have hs := hd <;> (try simp only [decide_eq_true_eq, decide_eq_false_iff_not, bne_iff_ne, bne_eq_false_iff_eq, Int.not_lt, ne_eq] at hd) <;> (try simp at hs))
          | refine T_ret ?_
          | refine leave_of (.inr rfl) _ rfl ?_
          | refine leave_of (.inl rfl) _ rfl ?_
          | refine leaveA_of (.inr rfl) _ rfl ?_
          | refine leaveA_of (.inl rfl) _ rfl ?_
          | refine wif_intro ?_ (fun hc => ?_)
          | refine And.intro ?_ ?_
          | intro hc
        | simp (maxSteps := 4000000) only [wops_nil, wops_cons, wstep_none, wrun_call, wrun_mv, wrun_bin, wrun_not, wrun_load, wrun_faddr, wrun_iaddrS, wrun_len, get_mk, wop, aop, ev, look, put_some, writes, ores_some, ores_ite_none, ores_map, ores_bind, binV, thenK, blockK, boolV, intV, lenOf, value, cut, hget, mkAgg, tupOf, List.map_cons, List.map_nil, List.length_cons, List.length_nil, List.getElem?_cons_zero, List.take_succ_cons, List.take_zero, List.take_nil, List.drop_zero, List.append_nil, List.replicate_zero, List.getD_cons_zero, List.length_map, Option.pure_def, Option.bind_eq_bind, Option.getD_some, Option.map_some, if_true, if_false, Nat.reduceEqDiff, Nat.add_zero, Nat.zero_add, reduceCtorEq, Bool.not_false, Bool.false_eq_true, eq_self, true_and, and_true, and_self, decide_true, Int.reduceNeg, freeze, lidsL, lids, List.flatMap_cons, List.flatMap_nil, ren, Int.toNat_natCast, *]
        | simp (disch := omega) only [getD_ints, wrapI]
        | (with_reducible show wcall _ false (.lit (.func (.func 32) _ _)) _ _ _ _; refine wcall_fn (h32) ?_ ?_ ?_; (next => simp [rfyL, rfy, hget, ints, take_rfy, Int.toNat_natCast]); (next => simp [plainL, plain, plainR, Int.toNat_natCast]))
        | (with_reducible show wcallX _ false (.lit (.func (.func 32) _ _)) _ _ _ _; refine wcallX_fn (h32) ?_ ?_ ?_; (next => simp [rfyL, rfy, hget, ints, take_rfy, Int.toNat_natCast]); (next => simp [plainL, plain, plainR, Int.toNat_natCast]))
        | omega)
      all_goals first | rfl
  · have hke : k = nums.length := by omega
    subst hke
    rw [List.drop_of_length_le (by omega)] at hJ
    rw [← hJ, if_neg (by simp)]
    have f : FfOk rows h nums den := ⟨o.1, hle, by omega, hI⟩
    have b2 := hg.1 nums.length
    clear hg hJ hI o
    replace f := And.intro f trivial
    by_cases hg1 : gfP nums den nums.length ≠ 1
    · rw [if_pos hg1]
      have hd3 : (gfP nums den nums.length != 1) = true := by simp only [bne_iff_ne]; exact hg1
      clear f
      generalize gfP nums den nums.length = g at *
      unfold c81l0
      repeat' (first
        | ((with_reducible refine T_calm ?_ ?_); rfl)
        | with_reducible first
          | refine T_seq ?_
          | refine T_reg ?_
          | refine T_draw ?_
          | refine T_skip ?_
          | refine T_exit ?_
          | refine T_block ?_
          | refine T_cond_t rfl ?_
          | refine T_cond_f rfl ?_
          | refine wdW_cons rfl ?_
          | ((first | refine T_cond rfl (fun hc => ?_) (fun hc => ?_) | refine wguard_split (fun hc => ?_) (fun hc => ?_) | refine wguardX_split (fun hc => ?_) (fun hc => ?_)) <;> have hd := hc <;> (try simp (disch := omega) only [wrapI] at hd) <;> have hs := hd <;> (try simp only [decide_eq_true_eq, decide_eq_false_iff_not, Int.not_lt] at hd) <;> (try simp at hs))
          | refine T_ret ?_
          | refine leave_of (.inr rfl) _ rfl ?_
          | refine leave_of (.inl rfl) _ rfl ?_
          | refine leaveA_of (.inr rfl) _ rfl ?_
          | refine leaveA_of (.inl rfl) _ rfl ?_
          | refine wif_intro ?_ (fun hc => ?_)
          | refine And.intro ?_ ?_
          | intro hc
        | simp (maxSteps := 4000000) only [wops_nil, wops_cons, wstep_none, wrun_mv, wrun_bin, wrun_load, wrun_faddr, wrun_len, get_mk, wop, aop, ev, look, put_some, writes, ores_some, ores_map, ores_bind, binV, thenK, blockK, intV, lenOf, value, cut, hget, mkAgg, tupOf, List.length_cons, List.length_nil, List.getElem?_cons_zero, List.take_succ_cons, List.take_zero, List.drop_zero, List.append_nil, List.replicate_zero, List.getD_cons_zero, List.length_map, Option.pure_def, Option.bind_eq_bind, Option.getD_some, Option.map_some, if_true, if_false, Nat.reduceEqDiff, Nat.add_zero, Nat.zero_add, reduceCtorEq, Bool.false_eq_true, eq_self, false_and, Int.reduceNeg, ren, *]
        | simp (disch := omega) only [getD_ints, wrapI]
        | omega)
      all_goals first | rfl
    rw [if_neg hg1]
    have hd3 : (gfP nums den nums.length != 1) = false := by simp only [bne_eq_false_iff_eq]; omega
    clear hg1
    generalize gfP nums den nums.length = g at *
    unfold c81l0
    repeat' (first
      | ((with_reducible refine T_calm ?_ ?_); rfl)
      | with_reducible first
        | refine T_seq ?_
        | refine T_reg ?_
        | refine T_draw ?_
        | refine T_skip ?_
        | refine T_exit ?_
        | refine T_block ?_
        | refine T_cond_t rfl ?_
        | refine T_cond_f rfl ?_
        | refine wdW_cons rfl ?_
        | ((first | refine T_cond rfl (fun hc => ?_) (fun hc => ?_) | refine wguard_split (fun hc => ?_) (fun hc => ?_) | refine wguardX_split (fun hc => ?_) (fun hc => ?_)) <;> have hd := hc <;> (try simp (disch := omega) only [wrapI] at hd) <;> have hs := hd <;> (try simp only [decide_eq_true_eq, decide_eq_false_iff_not, Int.not_lt] at hd) <;> (try simp at hs))
        | refine T_ret ?_
        | refine leave_of (.inr rfl) _ rfl ?_
        | refine leave_of (.inl rfl) _ rfl ?_
        | refine leaveA_of (.inr rfl) _ rfl ?_
        | refine leaveA_of (.inl rfl) _ rfl ?_
        | refine wif_intro ?_ (fun hc => ?_)
        | refine And.intro ?_ ?_
        | intro hc
      | simp (maxSteps := 4000000) only [wops_nil, wops_cons, wstep_none, wrun_mv, wrun_bin, wrun_load, wrun_faddr, wrun_len, wop, aop, ev, look, put_some, writes, ores_some, ores_map, ores_bind, binV, thenK, blockK, intV, lenOf, value, cut, hget, mkAgg, List.length_cons, List.length_nil, List.getElem?_cons_zero, List.take_succ_cons, List.take_zero, List.drop_zero, List.append_nil, List.replicate_zero, List.getD_cons_zero, List.length_map, Option.pure_def, Option.bind_eq_bind, Option.getD_some, Option.map_some, if_true, if_false, Nat.reduceEqDiff, Nat.add_zero, Nat.zero_add, reduceCtorEq, Bool.false_eq_true, eq_self, false_and, Int.reduceNeg, *]
      | simp (disch := omega) only [getD_ints, wrapI]
      | omega)
    refine T_for [0, 1, 5, 9] (fun k => ⟨[(0, .sl nil 1 (rows.map fun r => [ints r.1 r.2])), (1, ints hn h), (5, .loc 0 0 0), (9, i64 k)], bF fn nums den⟩) rows.length (fun k => ∀ j, j < k → rmF rows h nums den j rows.length = 0) 0 ?_ (fun j hj => by omega) (Nat.zero_le _) ?_
    · simp [St.only, get_mk, look]
    intro k hk hI
    by_cases hkr : k < rows.length
    · have r1 := rws_get hkr
      have hrl := f.1.o.hr k hkr
      replace hI := And.intro hI trivial
      have e0 : suF rows h nums den k 0 = 0 := rfl
      unfold c81l3
      repeat' (first
        | ((with_reducible refine T_calm ?_ ?_); rfl)
        | with_reducible first
          | refine T_seq ?_
          | refine T_reg ?_
          | refine T_draw ?_
          | refine T_skip ?_
          | refine T_exit ?_
          | refine T_block ?_
          | refine T_cond_t rfl ?_
          | refine T_cond_f rfl ?_
          | refine wdW_cons rfl ?_
          | ((first | refine T_cond rfl (fun hc => ?_) (fun hc => ?_) | refine wguard_split (fun hc => ?_) (fun hc => ?_) | refine wguardX_split (fun hc => ?_) (fun hc => ?_)) <;> have hd := hc <;> (try simp (disch := omega) only [wrapI] at hd) <;> have hs := hd <;> (try simp only [decide_eq_true_eq, decide_eq_false_iff_not, Int.not_lt] at hd) <;> (try simp at hs))
          | refine T_ret ?_
          | refine leave_of (.inr rfl) _ rfl ?_
          | refine leave_of (.inl rfl) _ rfl ?_
          | refine leaveA_of (.inr rfl) _ rfl ?_
          | refine leaveA_of (.inl rfl) _ rfl ?_
          | refine wif_intro ?_ (fun hc => ?_)
          | refine And.intro ?_ ?_
          | intro hc
        | simp (maxSteps := 4000000) only [wops_nil, wops_cons, wstep_none, wrun_mv, wrun_bin, wrun_len, get_mk, wop, aop, ev, look, put_some, writes, ores_some, ores_map, ores_bind, binV, thenK, blockK, intV, lenOf, hget, tupOf, List.length_cons, List.length_nil, List.append_nil, List.replicate_zero, Option.pure_def, Option.bind_eq_bind, Option.map_some, if_true, if_false, Nat.reduceEqDiff, Nat.zero_add, reduceCtorEq, eq_self, true_and, decide_true, ren, *]
        | simp (disch := omega) only [getD_ints, wrapI]
        | omega)
      refine T_for [0, 1, 5, 9, 10, 11] (fun i => ⟨[(0, .sl nil 1 (rows.map fun r => [ints r.1 r.2])), (1, ints hn h), (5, .loc 0 0 0), (9, i64 k), (10, i64 (suF rows h nums den k i)), (11, i64 i)], bF fn nums den⟩) h.length (fun _ => True) 0 ?_ trivial (Nat.zero_le _) ?_
      · simp [St.only, get_mk, look, e0]
      clear e0
      intro i hi _
      by_cases hih : i < h.length
      · have g1 : (h.map fun x => [i64 x]).getD i [] = [i64 (h.getD i 0)] := getD_ints hih
        have m1 := mul_bd (x := h.getD i 0) (y := den) (A := 5000) (B := 100000000000) (f.1.o.hh i hih) (by omega) (by omega)
        have ew : IntKind.i64.wrap (h.getD i 0 * den) = h.getD i 0 * den := wrapI (by omega) (by omega)
        have e0 : lfF rows h nums den i 0 = h.getD i 0 * den := by simp [lfF, sm]
        unfold c81l2
        repeat' (first
          | ((with_reducible refine T_calm ?_ ?_); rfl)
          | with_reducible first
            | refine T_seq ?_
            | refine T_reg ?_
            | refine T_draw ?_
            | refine T_skip ?_
            | refine T_exit ?_
            | refine T_block ?_
            | refine T_cond_t rfl ?_
            | refine T_cond_f rfl ?_
            | refine wdW_cons rfl ?_
            | ((first | refine T_cond rfl (fun hc => ?_) (fun hc => ?_) | refine wguard_split (fun hc => ?_) (fun hc => ?_) | refine wguardX_split (fun hc => ?_) (fun hc => ?_)) <;> have hd := hc <;> (try simp (disch := omega) only [wrapI] at hd) <;> have hs := hd <;> (try simp only [decide_eq_true_eq, decide_eq_false_iff_not, bne_iff_ne, bne_eq_false_iff_eq, Int.not_lt, ne_eq] at hd) <;> (try simp at hs))
            | refine T_ret ?_
            | refine leave_of (.inr rfl) _ rfl ?_
            | refine leave_of (.inl rfl) _ rfl ?_
            | refine leaveA_of (.inr rfl) _ rfl ?_
            | refine leaveA_of (.inl rfl) _ rfl ?_
            | refine wif_intro ?_ (fun hc => ?_)
            | refine And.intro ?_ ?_
            | intro hc
          | simp (maxSteps := 4000000) only [wops_nil, wops_cons, wstep_none, wrun_mv, wrun_bin, wrun_load, wrun_faddr, wrun_iaddrS, wrun_len, get_mk, wop, aop, ev, look, put_some, writes, ores_some, ores_ite_none, ores_map, ores_bind, binV, thenK, blockK, intV, lenOf, value, cut, hget, mkAgg, tupOf, List.map_cons, List.map_nil, List.length_cons, List.length_nil, List.getElem?_cons_zero, List.take_succ_cons, List.take_nil, List.drop_succ_cons, List.drop_zero, List.append_nil, List.replicate_zero, List.getD_cons_zero, List.length_map, Option.pure_def, Option.bind_eq_bind, Option.getD_some, Option.map_some, if_true, if_false, Nat.reduceEqDiff, Nat.zero_add, Nat.zero_ne_one, reduceCtorEq, Bool.false_eq_true, eq_self, true_and, and_true, and_self, decide_true, ren, Int.toNat_natCast, *]
          | simp (disch := omega) only [wrapI]
          | omega)
        refine T_for [0, 1, 5, 9, 10, 11, 12, 13] (fun m => ⟨[(0, .sl nil 1 (rows.map fun r => [ints r.1 r.2])), (1, ints hn h), (5, .loc 0 0 0), (9, i64 k), (10, i64 (suF rows h nums den k i)), (11, i64 i), (12, i64 (lfF rows h nums den i m)), (13, i64 m)], bF fn nums den⟩) rows.length (fun _ => True) 0 ?_ trivial (Nat.zero_le _) ?_
        · simp [St.only, get_mk, look, e0]
        clear e0 ew m1 g1
        intro m hm _
        by_cases hmr : m < rows.length
        · have r2 := rws_get hmr
          have hrl2 := f.1.o.hr m hmr
          have hmn : m < nums.length := by have : nums.length = rows.length := hle; omega
          have g1 : (nums.map fun x => [i64 x]).getD m [] = [i64 (nums.getD m 0)] := getD_ints hmn
          have g2 : ((rowN rows m).2.map fun x => [i64 x]).getD i [] = [i64 ((rowN rows m).2.getD i 0)] := getD_ints (by omega)
          have b1 := f.1.hN m hmn
          have b3 := lfF_bd f.1 hih (u := m) (by omega)
          have b4 := lfF_bd f.1 hih (u := m + 1) (by omega)
          have b5 := f.1.o.hb m i hmr hih
          have e : lfF rows h nums den i (m + 1) = lfF rows h nums den i m - nums.getD m 0 * (rowN rows m).2.getD i 0 := by unfold lfF; rw [sm]; omega
          have m1 := mul_bd (x := nums.getD m 0) (y := (rowN rows m).2.getD i 0) (A := 10000000000000) (B := 100) b1 b5 (by omega)
          rw [e] at b4 ⊢
          have ew1 : IntKind.i64.wrap (nums.getD m 0 * (rowN rows m).2.getD i 0) = nums.getD m 0 * (rowN rows m).2.getD i 0 := wrapI (by omega) (by omega)
          have ew2 : IntKind.i64.wrap (lfF rows h nums den i m - nums.getD m 0 * (rowN rows m).2.getD i 0) = lfF rows h nums den i m - nums.getD m 0 * (rowN rows m).2.getD i 0 := wrapI (by omega) (by omega)
          clear f e hI
          generalize lfF rows h nums den i m = z at *
          generalize suF rows h nums den k i = w at *
          generalize nums.getD m 0 = x at *
          generalize (rowN rows m).2.getD i 0 = y at *
          unfold c81l1
          repeat' (first
            | ((with_reducible refine T_calm ?_ ?_); rfl)
            | with_reducible first
              | refine T_seq ?_
              | refine T_reg ?_
              | refine T_draw ?_
              | refine T_skip ?_
              | refine T_exit ?_
              | refine T_block ?_
              | refine T_cond_t rfl ?_
              | refine T_cond_f rfl ?_
              | refine wdW_cons rfl ?_
              | ((first | refine T_cond rfl (fun hc => ?_) (fun hc => ?_) | refine wguard_split (fun hc => ?_) (fun hc => ?_) | refine wguardX_split (fun hc => ?_) (fun hc => ?_)) <;> have hd := hc <;> (try simp (disch := omega) only [wrapI] at hd) <;> have hs := hd <;> (try simp only [decide_eq_true_eq, decide_eq_false_iff_not, Int.not_lt] at hd) <;> (try simp at hs))
              | refine T_ret ?_
              | refine leave_of (.inr rfl) _ rfl ?_
              | refine leave_of (.inl rfl) _ rfl ?_
              | refine leaveA_of (.inr rfl) _ rfl ?_
              | refine leaveA_of (.inl rfl) _ rfl ?_
              | refine wif_intro ?_ (fun hc => ?_)
              | refine And.intro ?_ ?_
              | intro hc
            | simp (maxSteps := 4000000) only [wops_nil, wops_cons, wstep_none, wrun_mv, wrun_bin, wrun_load, wrun_faddr, wrun_iaddrS, wrun_len, wop, aop, ev, look, put_some, writes, ores_some, ores_none, ores_ite_none, ores_map, ores_bind, binV, thenK, blockK, intV, lenOf, value, cut, hget, mkAgg, List.map_cons, List.map_nil, List.length_cons, List.length_nil, List.getElem?_cons_zero, List.take_succ_cons, List.take_zero, List.take_nil, List.drop_zero, List.append_nil, List.replicate_zero, List.getD_cons_zero, List.length_map, Option.pure_def, Option.bind_eq_bind, Option.getD_some, Option.map_some, if_true, if_false, Nat.reduceEqDiff, Nat.add_zero, Nat.zero_add, reduceCtorEq, Bool.false_eq_true, eq_self, true_and, and_true, and_self, decide_true, Int.toNat_natCast, *]
            | simp (disch := omega) only [getD_ints, wrapI]
            | omega)
          all_goals first | (simp [St.only, get_mk, look]; done)
        · have hme : m = rows.length := by omega
          subst hme
          have g2 : ((rowN rows k).2.map fun x => [i64 x]).getD i [] = [i64 ((rowN rows k).2.getD i 0)] := getD_ints (by omega)
          have b3 := lfF_bd f.1 hih (u := rows.length) (by omega)
          have b4 := suF_bd f.1 hkr (u := i) (by omega)
          have b6 := suF_bd f.1 hkr (u := i + 1) (by omega)
          have b5 := f.1.o.hb k i hkr hih
          have e : suF rows h nums den k (i + 1) = suF rows h nums den k i + (rowN rows k).2.getD i 0 * lfF rows h nums den i rows.length := rfl
          have m1 := mul_bd (x := (rowN rows k).2.getD i 0) (y := lfF rows h nums den i rows.length) (A := 100) (B := 2500000000000000) b5 b3 (by omega)
          rw [e] at b6 ⊢
          have ew1 : IntKind.i64.wrap ((rowN rows k).2.getD i 0 * lfF rows h nums den i rows.length) = (rowN rows k).2.getD i 0 * lfF rows h nums den i rows.length := wrapI (by omega) (by omega)
          have ew2 : IntKind.i64.wrap (suF rows h nums den k i + (rowN rows k).2.getD i 0 * lfF rows h nums den i rows.length) = suF rows h nums den k i + (rowN rows k).2.getD i 0 * lfF rows h nums den i rows.length := wrapI (by omega) (by omega)
          clear f e hI
          generalize lfF rows h nums den i rows.length = z at *
          generalize suF rows h nums den k i = w at *
          generalize (rowN rows k).2.getD i 0 = y at *
          unfold c81l1
          repeat' (first
            | ((with_reducible refine T_calm ?_ ?_); rfl)
            | with_reducible first
              | refine T_seq ?_
              | refine T_reg ?_
              | refine T_draw ?_
              | refine T_skip ?_
              | refine T_exit ?_
              | refine T_block ?_
              | refine T_cond_t rfl ?_
              | refine T_cond_f rfl ?_
              | refine wdW_cons rfl ?_
              | ((first | refine T_cond rfl (fun hc => ?_) (fun hc => ?_) | refine wguard_split (fun hc => ?_) (fun hc => ?_) | refine wguardX_split (fun hc => ?_) (fun hc => ?_)) <;> have hd := hc <;> (try simp (disch := omega) only [wrapI] at hd) <;> have hs := hd <;> (try simp only [decide_eq_true_eq, decide_eq_false_iff_not, Int.not_lt] at hd) <;> (try simp at hs))
              | refine T_ret ?_
              | refine leave_of (.inr rfl) _ rfl ?_
              | refine leave_of (.inl rfl) _ rfl ?_
              | refine leaveA_of (.inr rfl) _ rfl ?_
              | refine leaveA_of (.inl rfl) _ rfl ?_
              | refine wif_intro ?_ (fun hc => ?_)
              | refine And.intro ?_ ?_
              | intro hc
            | simp (maxSteps := 4000000) only [wops_nil, wops_cons, wstep_none, wrun_mv, wrun_bin, wrun_load, wrun_iaddrS, wrun_len, wop, aop, ev, look, put_some, writes, ores_some, ores_ite_none, ores_map, ores_bind, binV, thenK, blockK, intV, lenOf, value, cut, hget, mkAgg, List.length_cons, List.length_nil, List.take_succ_cons, List.take_nil, List.drop_zero, List.append_nil, List.replicate_zero, List.length_map, Option.pure_def, Option.bind_eq_bind, Option.map_some, if_true, if_false, Nat.reduceEqDiff, Nat.zero_add, reduceCtorEq, Bool.false_eq_true, eq_self, true_and, and_true, and_self, false_and, Int.toNat_natCast, *]
            | simp (disch := omega) only [wrapI]
            | omega)
          all_goals first | (simp [St.only, get_mk, look]; done)
      · have hie : i = h.length := by omega
        subst hie
        rw [su_rm]
        by_cases hz : rmF rows h nums den k rows.length = 0
        · have hz1 : (rmF rows h nums den k rows.length != 0) = false := by simp only [bne_eq_false_iff_eq]; exact hz
          have hI2 : ∀ j, j < k + 1 → rmF rows h nums den j rows.length = 0 := fun j hj => by
            by_cases hjk : j = k
            · rw [hjk]; exact hz
            · exact hI.1 j (by omega)
          replace hI2 := And.intro hI2 trivial
          clear f hI hz
          unfold c81l2
          repeat' (first
            | ((with_reducible refine T_calm ?_ ?_); rfl)
            | with_reducible first
              | refine T_seq ?_
              | refine T_reg ?_
              | refine T_draw ?_
              | refine T_skip ?_
              | refine T_exit ?_
              | refine T_block ?_
              | refine T_cond_t rfl ?_
              | refine T_cond_f rfl ?_
              | refine wdW_cons rfl ?_
              | ((first | refine T_cond rfl (fun hc => ?_) (fun hc => ?_) | refine wguard_split (fun hc => ?_) (fun hc => ?_) | refine wguardX_split (fun hc => ?_) (fun hc => ?_)) <;> have hd := hc <;> (try simp (disch := omega) only [wrapI] at hd) <;> have hs := hd <;> (try simp only [decide_eq_true_eq, decide_eq_false_iff_not, Int.not_lt] at hd) <;> (try simp at hs))
              | refine T_ret ?_
              | refine leave_of (.inr rfl) _ rfl ?_
              | refine leave_of (.inl rfl) _ rfl ?_
              | refine leaveA_of (.inr rfl) _ rfl ?_
              | refine leaveA_of (.inl rfl) _ rfl ?_
              | refine wif_intro ?_ (fun hc => ?_)
              | refine And.intro ?_ ?_
              | intro hc
            | simp (maxSteps := 4000000) only [wops_nil, wops_cons, wstep_none, wrun_mv, wrun_bin, wrun_len, wop, aop, ev, look, put_some, writes, ores_some, ores_map, ores_bind, binV, thenK, blockK, intV, lenOf, hget, List.length_cons, List.length_nil, List.append_nil, List.replicate_zero, List.length_map, Option.pure_def, Option.bind_eq_bind, Option.map_some, if_true, if_false, Nat.reduceEqDiff, Nat.zero_add, Nat.zero_ne_one, reduceCtorEq, eq_self, and_true, false_and, *]
            | simp (disch := omega) only [wrapI]
            | omega)
          all_goals first | exact hI2.1 | (simp [St.only, get_mk, look]; done)
        · have hz1 : (rmF rows h nums den k rows.length != 0) = true := by simp only [bne_iff_ne]; exact hz
          rw [if_pos (any_range_t hkr hz1)]
          clear f hI hz
          unfold c81l2
          repeat' (first
            | ((with_reducible refine T_calm ?_ ?_); rfl)
            | with_reducible first
              | refine T_seq ?_
              | refine T_reg ?_
              | refine T_draw ?_
              | refine T_skip ?_
              | refine T_exit ?_
              | refine T_block ?_
              | refine T_cond_t rfl ?_
              | refine T_cond_f rfl ?_
              | refine wdW_cons rfl ?_
              | ((first | refine T_cond rfl (fun hc => ?_) (fun hc => ?_) | refine wguard_split (fun hc => ?_) (fun hc => ?_) | refine wguardX_split (fun hc => ?_) (fun hc => ?_)) <;> have hd := hc <;> (try simp (disch := omega) only [wrapI] at hd) <;> have hs := hd <;> (try simp only [decide_eq_true_eq, decide_eq_false_iff_not, Int.not_lt] at hd) <;> (try simp at hs))
              | refine T_ret ?_
              | refine leave_of (.inr rfl) _ rfl ?_
              | refine leave_of (.inl rfl) _ rfl ?_
              | refine leaveA_of (.inr rfl) _ rfl ?_
              | refine leaveA_of (.inl rfl) _ rfl ?_
              | refine wif_intro ?_ (fun hc => ?_)
              | refine And.intro ?_ ?_
              | intro hc
            | simp (maxSteps := 4000000) only [wops_nil, wops_cons, wstep_none, wrun_mv, wrun_bin, wrun_len, get_mk, wop, aop, ev, look, put_some, writes, ores_some, ores_map, ores_bind, binV, thenK, blockK, intV, lenOf, hget, tupOf, List.length_cons, List.length_nil, List.append_nil, List.replicate_zero, List.length_map, Option.pure_def, Option.bind_eq_bind, Option.map_some, if_true, if_false, Nat.reduceEqDiff, Nat.zero_add, Nat.zero_ne_one, reduceCtorEq, eq_self, and_true, false_and, ren, *]
            | simp (disch := omega) only [getD_ints, wrapI]
            | omega)
          all_goals first | rfl
    · have hke : k = rows.length := by omega
      subst hke
      rw [if_neg (by rw [any_range_f (fun j hj => by rw [hI j hj]; rfl)]; simp)]
      clear f hI
      unfold c81l3
      repeat' (first
        | ((with_reducible refine T_calm ?_ ?_); rfl)
        | with_reducible first
          | refine T_seq ?_
          | refine T_reg ?_
          | refine T_draw ?_
          | refine T_skip ?_
          | refine T_exit ?_
          | refine T_block ?_
          | refine T_cond_t rfl ?_
          | refine T_cond_f rfl ?_
          | refine wdW_cons rfl ?_
          | ((first | refine T_cond rfl (fun hc => ?_) (fun hc => ?_) | refine wguard_split (fun hc => ?_) (fun hc => ?_) | refine wguardX_split (fun hc => ?_) (fun hc => ?_)) <;> have hd := hc <;> (try simp (disch := omega) only [wrapI] at hd) <;> have hs := hd <;> (try simp only [decide_eq_true_eq, decide_eq_false_iff_not, Int.not_lt] at hd) <;> (try simp at hs))
          | refine T_ret ?_
          | refine leave_of (.inr rfl) _ rfl ?_
          | refine leave_of (.inl rfl) _ rfl ?_
          | refine leaveA_of (.inr rfl) _ rfl ?_
          | refine leaveA_of (.inl rfl) _ rfl ?_
          | refine wif_intro ?_ (fun hc => ?_)
          | refine And.intro ?_ ?_
          | intro hc
        | simp (maxSteps := 4000000) only [wops_nil, wops_cons, wstep_none, wrun_mv, wrun_bin, wrun_len, get_mk, wop, aop, ev, look, put_some, writes, ores_some, ores_map, ores_bind, binV, thenK, blockK, intV, lenOf, hget, tupOf, List.length_cons, List.length_nil, List.append_nil, List.replicate_zero, Option.pure_def, Option.bind_eq_bind, Option.map_some, if_true, if_false, Nat.reduceEqDiff, Nat.zero_add, reduceCtorEq, eq_self, false_and, ren, *]
        | simp (disch := omega) only [getD_ints, wrapI]
        | omega)
      all_goals first | rfl
end
end Go.Abs
