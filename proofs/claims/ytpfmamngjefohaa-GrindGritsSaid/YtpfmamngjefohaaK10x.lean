import Derived.Test.YtpfmamngjefohaaK9
import Derived.Test.YtpfmamngjefohaaK8x
set_option linter.all false
set_option linter.unusedVariables false
set_option linter.unusedSimpArgs false
set_option linter.unusedSectionVars false
namespace Go.Abs
open Go.Proofs
/-! StepMinutes; law 7 -/
theorem gR_take (l : List Gr) : List.take l.length (gR l) = gR l := List.take_of_length_le (by rw [gR_len]; exact Nat.le_refl _)
theorem rfyL0 (h : Nat → Blk) (d : Nat) (x : Value) : rfy h d (.lit x) = .lit x := by cases d <;> rfl
theorem gR_rfy (h : Nat → Blk) (d : Nat) (l : List Gr) : List.map (fun r => List.map (rfy h d) r) (gR l) = gR l := by
  unfold gR
  rw [List.map_map]
  exact List.map_congr_left fun g _ => by simp only [Function.comp, List.map_cons, List.map_nil, rfyL0]
theorem lids0 (h : Nat → Blk) (d : Nat) (x : Value) : lids h d (.lit x) = [] := by cases d <;> rfl
theorem gR_lids (h : Nat → Blk) (d : Nat) (l : List Gr) : (gR l).flatMap (fun r => r.flatMap (lids h d)) = [] := by
  rw [List.flatMap_eq_nil_iff]
  intro r hr
  unfold gR at hr
  obtain ⟨g, _, rfl⟩ := List.mem_map.1 hr
  simp [lids0]
theorem gErs_all {l : List Gr} : ∀ {n : Nat}, gErs l n = 0 → ∀ k, k < n → gErr l k = 0
  | 0, _, k, hk => by omega
  | n + 1, h, k, hk => by
    simp only [gErs] at h
    by_cases h0 : gErs l n ≠ 0
    · rw [if_pos h0] at h; exact (h0 h).elim
    · rw [if_neg h0] at h
      rcases Nat.lt_succ_iff_lt_or_eq.1 hk with h1 | rfl
      · exact gErs_all (by simpa using h0) k h1
      · exact h
theorem gE_ok {l : List Gr} (h : gE l = 0) : l.length ≤ 12 ∧ ∀ k, k < l.length → (0 ≤ (l.getD k gr0).dm ∧ (l.getD k gr0).dm ≤ 1000000) ∧ 1 ≤ (l.getD k gr0).rt ∧ (l.getD k gr0).rt ≤ 100000 := by
  unfold gE at h
  by_cases h12 : l.length > 12
  · rw [if_pos h12] at h; simp at h
  · rw [if_neg h12] at h
    refine ⟨by omega, fun k hk => ?_⟩
    have h1 := gErs_all h k hk
    unfold gErr at h1
    split at h1
    · simp at h1
    · split at h1
      · simp at h1
      · split at h1
        · simp at h1
        · rename_i h2
          unfold gRng at h2
          simp only [Bool.not_eq_false, Bool.and_eq_true, decide_eq_true_eq] at h2
          exact h2
def stE (l : List Gr) (g d : Int) : Int := if gE l ≠ 0 then gE l else if ¬(0 ≤ g ∧ g ≤ (l.length : Int) - 1) then 6 else if ¬(0 ≤ d ∧ d ≤ 1000000) then 2 else 0
def stM (l : List Gr) (g d : Int) : Int := if stE l g d = 0 then ceil d (l.getD g.toNat gr0).rt else 0
set_option maxHeartbeats 8000000 in
theorem k43 (nil : Bool) (l : List Gr) (g d : Int) (hl : l.length < 1000000) (hsz : ∀ k, k < l.length → (l.getD k gr0).nm.size ≤ 30) : Fn Try.prog 43 [gts nil l, i64 g, i64 d] (.tup [i64 (stM l g d), i64 (stE l g d)]) [] := by
  refine fn_of e43 ?_
  have hll := gR_len l
  have h45 := k45 nil l hl hsz
  have h80a := k80 g 0 ((l.length : Int) - 1)
  have h80b := k80 d 0 1000000
  by_cases h0 : gE l = 0
  · obtain ⟨h12, hr⟩ := gE_ok h0
    rw [h0] at h45
    by_cases h1 : 0 ≤ g ∧ g ≤ (l.length : Int) - 1
    · rw [show (decide ((0 : Int) ≤ g) && decide (g ≤ (l.length : Int) - 1)) = true by rw [decide_eq_true h1.1, decide_eq_true h1.2]; rfl] at h80a
      obtain ⟨k, rfl⟩ : ∃ k : Nat, g = k := ⟨g.toNat, by omega⟩
      have hk : k < l.length := by omega
      by_cases h2 : 0 ≤ d ∧ d ≤ 1000000
      · rw [show (decide ((0 : Int) ≤ d) && decide (d ≤ 1000000)) = true by rw [decide_eq_true h2.1, decide_eq_true h2.2]; rfl] at h80b
        have hE : stE l k d = 0 := by
          unfold stE; rw [if_neg (fun h => h h0), if_neg (fun h => h h1), if_neg (fun h => h h2)]
        have hM : stM l k d = ceil d (l.getD k gr0).rt := by unfold stM; rw [if_pos hE, Int.toNat_natCast]
        have h84 := k84 (l.getD k gr0) d (by omega) (by have := (hr k hk).2; omega)
        have g1 := gR_get hk
        rw [hE, hM]
        clear hE hM h0 hr hsz
        unfold c43
        repeat' (first
          | with_reducible first
            | refine T_seq ?_
            | refine T_reg ?_
            | refine T_skip ?_
            | refine T_exit ?_
            | refine T_block ?_
            | refine T_cond_t rfl ?_
            | refine T_cond_f rfl ?_
            | (show wcall _ false (.lit (.func (.func 45) _ _)) _ _ _ _; refine wcall_fn (h45) rfl (by simp [plainL, plain, plainR_gR]) ?_)
            | (show wcall _ false (.lit (.func (.func 80) _ _)) _ _ _ _; refine wcall_fn (h80a) rfl (by simp [plainL, plain]) ?_)
            | (show wcall _ false (.lit (.func (.func 80) _ _)) _ _ _ _; refine wcall_fn (h80b) rfl (by simp [plainL, plain]) ?_)
            | (show wcall _ false (.lit (.func (.func 84) _ _)) _ _ _ _; refine wcall_fn (h84) rfl (by simp [plainL, plain]) ?_)
            | ((first | refine T_cond rfl (fun hc => ?_) (fun hc => ?_) | refine wguard_split (fun hc => ?_) (fun hc => ?_)) <;> have hd := hc <;> (try simp (disch := omega) only [wrapI] at hd) <;> have hs := hd <;> (try simp only [Bool.not_eq_true', Bool.not_eq_false', Bool.and_eq_true, Bool.and_eq_false_iff, Bool.or_eq_true, Bool.or_eq_false_iff, decide_eq_true_eq, decide_eq_false_iff_not, beq_iff_eq, bne_iff_ne, beq_eq_false_iff_ne, bne_eq_false_iff_eq, Bool.not_true, Bool.not_false, gt_iff_lt, ge_iff_le, Int.not_lt, Int.not_le, ne_eq, Decidable.not_not] at hd) <;> (try simp at hs))
            | refine T_ret ?_
            | refine leave_of (.inr rfl) _ rfl ?_
            | refine leave_of (.inl rfl) _ rfl ?_
            | refine leaveA_of (.inr rfl) _ rfl ?_
            | refine leaveA_of (.inl rfl) _ rfl ?_
            | refine wif_intro ?_ (fun hc => ?_)
            | refine And.intro ?_ ?_
            | intro hc
          | simp (maxSteps := 4000000) only [wops_nil, wops_cons, wstep_none, wrun_call, wrun_mv, wrun_bin, wrun_not, wrun_load, wrun_iaddrS, wrun_len, get_mk, wop, aop, ev, look, put_some, writes, ores_some, ores_ite_none, ores_map, ores_bind, binV, thenK, blockK, boolV, intV, lenOf, value, cut, hget, toLits, mkAgg, tupOf, List.map_cons, List.map_nil, List.length_cons, List.length_nil, List.take_succ_cons, List.take_nil, List.drop_zero, List.append_nil, List.replicate_zero, List.zipIdx_cons, List.zipIdx_nil, Option.pure_def, Option.bind_eq_bind, Option.map_some, if_true, if_false, Nat.reduceEqDiff, Nat.reduceAdd, Nat.zero_add, Nat.zero_ne_one, reduceCtorEq, Bool.not_true, eq_self, true_and, and_true, freeze, lidsL, lids, List.flatMap_cons, List.flatMap_nil, ren, renL, Int.toNat_natCast, *]
          | simp (disch := omega) only [wrapI]
          | (with_reducible show wcall _ false (.lit (.func (.func 45) _ _)) _ _ _ _; refine wcall_fn (h45) ?_ ?_ ?_; (next => simp [rfyL, rfy, hget, ints, take_rfy, Int.toNat_natCast, plainR_gR]); (next => simp [plainL, plain, plainR, Int.toNat_natCast, plainR_gR]))
          | (with_reducible show wcall _ false (.lit (.func (.func 80) _ _)) _ _ _ _; refine wcall_fn (h80a) ?_ ?_ ?_; (next => simp [rfyL, rfy, hget, ints, take_rfy, Int.toNat_natCast, plainR_gR]); (next => simp [plainL, plain, plainR, Int.toNat_natCast, plainR_gR]))
          | (with_reducible show wcall _ false (.lit (.func (.func 80) _ _)) _ _ _ _; refine wcall_fn (h80b) ?_ ?_ ?_; (next => simp [rfyL, rfy, hget, ints, take_rfy, Int.toNat_natCast, plainR_gR]); (next => simp [plainL, plain, plainR, Int.toNat_natCast, plainR_gR]))
          | (with_reducible show wcall _ false (.lit (.func (.func 84) _ _)) _ _ _ _; refine wcall_fn (h84) ?_ ?_ ?_; (next => simp [rfyL, rfy, hget, ints, take_rfy, Int.toNat_natCast, plainR_gR]); (next => simp [plainL, plain, plainR, Int.toNat_natCast, plainR_gR]))
          | omega)
        all_goals first | rfl
      · rw [show (decide ((0 : Int) ≤ d) && decide (d ≤ 1000000)) = false by rw [← Bool.decide_and]; exact decide_eq_false h2] at h80b
        have hE : stE l k d = 2 := by
          unfold stE; rw [if_neg (fun h => h h0), if_neg (fun h => h h1), if_pos h2]
        have hM : stM l k d = 0 := by unfold stM; rw [if_neg (by rw [hE]; simp)]
        rw [hE, hM]
        clear hE hM h0 hr hsz h2
        unfold c43
        repeat' (first
          | with_reducible first
            | refine T_seq ?_
            | refine T_reg ?_
            | refine T_skip ?_
            | refine T_exit ?_
            | refine T_block ?_
            | refine T_cond_t rfl ?_
            | refine T_cond_f rfl ?_
            | (show wcall _ false (.lit (.func (.func 45) _ _)) _ _ _ _; refine wcall_fn (h45) rfl (by simp [plainL, plain, plainR_gR]) ?_)
            | (show wcall _ false (.lit (.func (.func 80) _ _)) _ _ _ _; refine wcall_fn (h80a) rfl (by simp [plainL, plain]) ?_)
            | (show wcall _ false (.lit (.func (.func 80) _ _)) _ _ _ _; refine wcall_fn (h80b) rfl (by simp [plainL, plain]) ?_)
            | ((first | refine T_cond rfl (fun hc => ?_) (fun hc => ?_) | refine wguard_split (fun hc => ?_) (fun hc => ?_)) <;> have hd := hc <;> (try simp (disch := omega) only [wrapI] at hd) <;> have hs := hd <;> (try simp only [Bool.not_eq_true', Bool.not_eq_false', Bool.and_eq_true, Bool.and_eq_false_iff, Bool.or_eq_true, Bool.or_eq_false_iff, decide_eq_true_eq, decide_eq_false_iff_not, beq_iff_eq, bne_iff_ne, beq_eq_false_iff_ne, bne_eq_false_iff_eq, Bool.not_true, Bool.not_false, gt_iff_lt, ge_iff_le, Int.not_lt, Int.not_le, ne_eq, Decidable.not_not] at hd) <;> (try simp at hs))
            | refine T_ret ?_
            | refine leave_of (.inr rfl) _ rfl ?_
            | refine leave_of (.inl rfl) _ rfl ?_
            | refine leaveA_of (.inr rfl) _ rfl ?_
            | refine leaveA_of (.inl rfl) _ rfl ?_
            | refine wif_intro ?_ (fun hc => ?_)
            | refine And.intro ?_ ?_
            | intro hc
          | simp (maxSteps := 4000000) only [wops_nil, wops_cons, wstep_none, wrun_call, wrun_mv, wrun_bin, wrun_not, wrun_len, get_mk, wop, aop, ev, look, put_some, writes, ores_some, ores_map, ores_bind, binV, thenK, blockK, boolV, intV, lenOf, hget, tupOf, List.map_cons, List.map_nil, List.length_nil, List.append_nil, List.replicate_zero, List.zipIdx_cons, List.zipIdx_nil, Option.pure_def, Option.bind_eq_bind, Option.map_some, if_true, if_false, Nat.reduceEqDiff, Nat.reduceAdd, Nat.zero_add, Nat.zero_ne_one, reduceCtorEq, Bool.not_true, Bool.not_false, eq_self, freeze, lidsL, lids, List.flatMap_cons, List.flatMap_nil, ren, renL, *]
          | simp (disch := omega) only [wrapI]
          | (with_reducible show wcall _ false (.lit (.func (.func 45) _ _)) _ _ _ _; refine wcall_fn (h45) ?_ ?_ ?_; (next => simp [rfyL, rfy, hget, ints, take_rfy, Int.toNat_natCast, plainR_gR]); (next => simp [plainL, plain, plainR, Int.toNat_natCast, plainR_gR]))
          | (with_reducible show wcall _ false (.lit (.func (.func 80) _ _)) _ _ _ _; refine wcall_fn (h80a) ?_ ?_ ?_; (next => simp [rfyL, rfy, hget, ints, take_rfy, Int.toNat_natCast, plainR_gR]); (next => simp [plainL, plain, plainR, Int.toNat_natCast, plainR_gR]))
          | (with_reducible show wcall _ false (.lit (.func (.func 80) _ _)) _ _ _ _; refine wcall_fn (h80b) ?_ ?_ ?_; (next => simp [rfyL, rfy, hget, ints, take_rfy, Int.toNat_natCast, plainR_gR]); (next => simp [plainL, plain, plainR, Int.toNat_natCast, plainR_gR]))
          | omega)
        all_goals first | rfl
    · rw [show (decide ((0 : Int) ≤ g) && decide (g ≤ (l.length : Int) - 1)) = false by rw [← Bool.decide_and]; exact decide_eq_false h1] at h80a
      have hE : stE l g d = 6 := by
        unfold stE; rw [if_neg (fun h => h h0), if_pos h1]
      have hM : stM l g d = 0 := by unfold stM; rw [if_neg (by rw [hE]; simp)]
      rw [hE, hM]
      clear hE hM h0 hr hsz h1
      unfold c43
      repeat' (first
        | with_reducible first
          | refine T_seq ?_
          | refine T_reg ?_
          | refine T_skip ?_
          | refine T_exit ?_
          | refine T_block ?_
          | refine T_cond_t rfl ?_
          | refine T_cond_f rfl ?_
          | (show wcall _ false (.lit (.func (.func 45) _ _)) _ _ _ _; refine wcall_fn (h45) rfl (by simp [plainL, plain, plainR_gR]) ?_)
          | (show wcall _ false (.lit (.func (.func 80) _ _)) _ _ _ _; refine wcall_fn (h80a) rfl (by simp [plainL, plain]) ?_)
          | ((first | refine T_cond rfl (fun hc => ?_) (fun hc => ?_) | refine wguard_split (fun hc => ?_) (fun hc => ?_)) <;> have hd := hc <;> (try simp (disch := omega) only [wrapI] at hd) <;> have hs := hd <;> (try simp only [Bool.not_eq_true', Bool.not_eq_false', Bool.and_eq_true, Bool.and_eq_false_iff, Bool.or_eq_true, Bool.or_eq_false_iff, decide_eq_true_eq, decide_eq_false_iff_not, beq_iff_eq, bne_iff_ne, beq_eq_false_iff_ne, bne_eq_false_iff_eq, Bool.not_true, Bool.not_false, gt_iff_lt, ge_iff_le, Int.not_lt, Int.not_le, ne_eq, Decidable.not_not] at hd) <;> (try simp at hs))
          | refine T_ret ?_
          | refine leave_of (.inr rfl) _ rfl ?_
          | refine leave_of (.inl rfl) _ rfl ?_
          | refine leaveA_of (.inr rfl) _ rfl ?_
          | refine leaveA_of (.inl rfl) _ rfl ?_
          | refine wif_intro ?_ (fun hc => ?_)
          | refine And.intro ?_ ?_
          | intro hc
        | simp (maxSteps := 4000000) only [wops_nil, wops_cons, wstep_none, wrun_call, wrun_mv, wrun_bin, wrun_not, wrun_len, get_mk, wop, aop, ev, look, put_some, writes, ores_some, ores_map, ores_bind, binV, thenK, blockK, boolV, intV, lenOf, hget, tupOf, List.map_cons, List.map_nil, List.length_nil, List.append_nil, List.replicate_zero, List.zipIdx_cons, List.zipIdx_nil, Option.pure_def, Option.bind_eq_bind, Option.map_some, if_true, if_false, Nat.reduceEqDiff, Nat.reduceAdd, Nat.zero_add, Nat.zero_ne_one, reduceCtorEq, Bool.not_false, eq_self, freeze, lidsL, lids, List.flatMap_cons, List.flatMap_nil, ren, renL, *]
        | simp (disch := omega) only [wrapI]
        | (with_reducible show wcall _ false (.lit (.func (.func 45) _ _)) _ _ _ _; refine wcall_fn (h45) ?_ ?_ ?_; (next => simp [rfyL, rfy, hget, ints, take_rfy, Int.toNat_natCast, plainR_gR]); (next => simp [plainL, plain, plainR, Int.toNat_natCast, plainR_gR]))
        | (with_reducible show wcall _ false (.lit (.func (.func 80) _ _)) _ _ _ _; refine wcall_fn (h80a) ?_ ?_ ?_; (next => simp [rfyL, rfy, hget, ints, take_rfy, Int.toNat_natCast, plainR_gR]); (next => simp [plainL, plain, plainR, Int.toNat_natCast, plainR_gR]))
        | omega)
      all_goals first | rfl
  · have hE : stE l g d = gE l := if_pos h0
    have hM : stM l g d = 0 := by unfold stM; rw [hE, if_neg h0]
    rw [hE, hM]
    have d0 : (gE l != 0) = true := by simp only [bne_iff_ne]; exact h0
    clear hE hM h0 hsz
    generalize gE l = c at *
    unfold c43
    repeat' (first
      | with_reducible first
        | refine T_seq ?_
        | refine T_reg ?_
        | refine T_skip ?_
        | refine T_exit ?_
        | refine T_block ?_
        | refine T_cond_t rfl ?_
        | refine T_cond_f rfl ?_
        | (show wcall _ false (.lit (.func (.func 45) _ _)) _ _ _ _; refine wcall_fn (h45) rfl (by simp [plainL, plain, plainR_gR]) ?_)
        | ((first | refine T_cond rfl (fun hc => ?_) (fun hc => ?_) | refine wguard_split (fun hc => ?_) (fun hc => ?_)) <;> have hd := hc <;> (try simp (disch := omega) only [wrapI] at hd) <;> have hs := hd <;> (try simp only [Bool.not_eq_true', Bool.not_eq_false', Bool.and_eq_true, Bool.and_eq_false_iff, Bool.or_eq_true, Bool.or_eq_false_iff, decide_eq_true_eq, decide_eq_false_iff_not, beq_iff_eq, bne_iff_ne, beq_eq_false_iff_ne, bne_eq_false_iff_eq, Bool.not_true, Bool.not_false, gt_iff_lt, ge_iff_le, Int.not_lt, Int.not_le, ne_eq, Decidable.not_not] at hd) <;> (try simp at hs))
        | refine T_ret ?_
        | refine leave_of (.inr rfl) _ rfl ?_
        | refine leave_of (.inl rfl) _ rfl ?_
        | refine leaveA_of (.inr rfl) _ rfl ?_
        | refine leaveA_of (.inl rfl) _ rfl ?_
        | refine wif_intro ?_ (fun hc => ?_)
        | refine And.intro ?_ ?_
        | intro hc
      | simp (maxSteps := 4000000) only [wops_nil, wops_cons, wstep_none, wrun_call, wrun_mv, wrun_bin, get_mk, wop, aop, ev, look, put_some, writes, ores_some, binV, thenK, tupOf, List.map_cons, List.map_nil, List.length_nil, List.append_nil, List.replicate_zero, List.zipIdx_cons, List.zipIdx_nil, Option.map_some, if_true, if_false, Nat.reduceEqDiff, Nat.reduceAdd, Nat.zero_add, reduceCtorEq, eq_self, freeze, lidsL, lids, List.flatMap_cons, List.flatMap_nil, ren, renL, *]
      | simp (disch := omega) only [getD_ints, wrapI]
      | (with_reducible show wcall _ false (.lit (.func (.func 45) _ _)) _ _ _ _; refine wcall_fn (h45) ?_ ?_ ?_; (next => simp [rfyL, rfy, hget, ints, take_rfy, Int.toNat_natCast, plainR_gR]); (next => simp [plainL, plain, plainR, Int.toNat_natCast, plainR_gR]))
      | omega)
    all_goals first | rfl
end Go.Abs
