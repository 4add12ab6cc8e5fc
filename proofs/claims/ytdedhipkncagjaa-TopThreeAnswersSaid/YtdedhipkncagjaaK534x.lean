import Derived.Test.YtdedhipkncagjaaK533x
import Derived.Test.YtdedhipkncagjaaK545x
set_option linter.all false
set_option linter.unusedVariables false
set_option linter.unusedSimpArgs false
set_option linter.unusedSectionVars false
namespace Go.Abs
open Go.Proofs
/-! readings: what is no measured mirror -/
set_option maxHeartbeats 8000000 in
theorem k6b1 {hn pn en : Bool} {xs : List Int} {ps es : List (Int × Int)} (hbad : ¬((1 ≤ xs.length ∧ xs.length ≤ 8) ∧ ps.length ≤ 12 ∧ es.length = ps.length)) : Fn Try.prog 6 [mV hn pn en xs ps es, i64 1] (.tup [.sl true 0 [], bl false]) [] := by
  refine fn_of e6 ?_
  have l1 := rgR_len ps
  have l2 := rgR_len es
  have hlh := (by simp : (xs.map fun x => [i64 x]).length = xs.length)
  have h10 := k10 (xs.length : Int) 1 8
  have hc0 : (decide (1 ≤ (xs.length : Int)) && decide ((xs.length : Int) ≤ 8)) = false ∨ ((decide (1 ≤ (xs.length : Int)) && decide ((xs.length : Int) ≤ 8)) = true ∧ decide ((ps.length : Int) > 12) = true) ∨ ((decide (1 ≤ (xs.length : Int)) && decide ((xs.length : Int) ≤ 8)) = true ∧ decide ((ps.length : Int) > 12) = false ∧ ((es.length : Int) != (ps.length : Int)) = true) := by
    by_cases h1 : 1 ≤ xs.length ∧ xs.length ≤ 8
    · by_cases h2 : ps.length ≤ 12
      · right; right; simp; omega
      · right; left; simp; omega
    · left; simp; omega
  generalize (decide (1 ≤ (xs.length : Int)) && decide ((xs.length : Int) ≤ 8)) = B1 at *
  clear hbad
  rcases hc0 with rfl | ⟨rfl, d1⟩ | ⟨rfl, d1, d2⟩
  all_goals unfold c6
  all_goals
    repeat' (first | ((with_reducible refine T_calm ?_ ?_); rfl) | (with_reducible first | refine T_seq ?_ | refine T_reg ?_ | refine T_draw ?_ | refine T_skip ?_ | refine T_exit ?_ | refine T_block ?_ | refine T_cond_t rfl ?_ | refine T_cond_f rfl ?_ | refine wdW_cons rfl ?_ | (show wcall _ false (.lit (.func (.func 10) _ _)) _ _ _ _; refine wcall_fn (h10) rfl (by simp [plainL, plain]) ?_) | (show wcallX _ false (.lit (.func (.func 10) _ _)) _ _ _ _; refine wcallX_fn (h10) rfl (by simp [plainL, plain, plainR, plainR_rg]) ?_) | refine T_ret ?_ | refine leave_of (.inr rfl) _ rfl ?_ | refine leave_of (.inl rfl) _ rfl ?_ | refine leaveA_of (.inr rfl) _ rfl ?_ | refine leaveA_of (.inl rfl) _ rfl ?_ | refine wif_intro ?_ (fun hc => ?_) | refine And.intro ?_ ?_ | intro hc) | simp (maxSteps := 4000000) only [wops_nil, wops_cons, wstep_none, wstep_some, wguard_ff, wguard_tf, wrun_call, wrun_mv, wrun_pick, wrun_bin, wrun_not, wrun_load, wrun_faddr, wrun_len, wrun_box, get_mk, wop, aop, ev, look, put_some, writes, ores_some, ores_map, ores_bind, binV, thenK, boolV, intV, lenOf, value, cut, hget, AV.parts, isOne, mkAgg, tupOf, List.map_cons, List.map_nil, List.length_cons, List.length_nil, List.getElem?_cons_zero, List.set_cons_zero, List.take_succ_cons, List.take_zero, List.take_nil, List.drop_succ_cons, List.drop_zero, List.nil_append, List.append_nil, List.replicate_zero, List.replicate_succ, List.getD_cons_zero, List.zipIdx_cons, List.zipIdx_nil, List.all_cons, List.all_nil, Option.pure_def, Option.bind_eq_bind, Option.getD_some, Option.map_some, if_true, if_false, Nat.reduceEqDiff, Nat.reduceAdd, Nat.add_zero, Nat.zero_add, reduceCtorEq, Bool.not_true, Bool.not_false, Bool.and_true, Bool.false_eq_true, eq_self, true_and, and_self, freeze, lidsL, lids, List.flatMap_cons, List.flatMap_nil, List.all_cons, ren, renL, renR, *] | simp (disch := omega) only [getD_ints, wrapI] | (with_reducible show wcall _ false (.lit (.func (.func 10) _ _)) _ _ _ _; refine wcall_fn (h10) ?_ ?_ ?_; (next => simp [rfyL, rfy, hget, ints, take_rfy, plainR_rg]); (next => simp [plainL, plain, plainR, plainR_rg])) | (with_reducible show wcallX _ false (.lit (.func (.func 10) _ _)) _ _ _ _; refine wcallX_fn (h10) ?_ ?_ ?_; (next => simp [rfyL, rfy, hget, ints, take_rfy, plainR_rg]); (next => simp [plainL, plain, plainR, plainR_rg])) | omega)
  all_goals first | rfl
set_option maxHeartbeats 8000000 in
theorem k6b2 {hn pn en : Bool} {xs : List Int} {ps es : List (Int × Int)} (hxl : 1 ≤ xs.length ∧ xs.length ≤ 8) (hpl : ps.length ≤ 12) (hee : es.length = ps.length) {k0 : Nat} (h0 : k0 < xs.length) (hbad : ¬gH (xs.getD k0 0)) (hok : ∀ k, k < k0 → gH (xs.getD k 0)) : Fn Try.prog 6 [mV hn pn en xs ps es, i64 1] (.tup [.sl true 0 [], bl false]) [] := by
  refine fn_of e6 ?_
  have l1 := rgR_len ps
  have l2 := rgR_len es
  have hlh := (by simp : (xs.map fun x => [i64 x]).length = xs.length)
  have h10 := k10 (xs.length : Int) 1 8
  rw [decide_eq_true (by omega : (1 : Int) ≤ (xs.length : Int)), decide_eq_true (by omega : (xs.length : Int) ≤ 8), Bool.and_true] at h10
  have d1 : decide ((ps.length : Int) > 12) = false := decide_eq_false (by omega)
  have d2 : ((es.length : Int) != (ps.length : Int)) = false := by simp; omega
  have hh := PLift.up (fun k (hk : k < k0) K hK => k6h (hn := hn) (pn := pn) (en := en) (ps := ps) (es := es) hxl.2 (by omega) (hok k hk) K hK (q := 131) (bb := 0))
  have hb := PLift.up (fun K hK => k6hb (hn := hn) (pn := pn) (en := en) (ps := ps) (es := es) hxl.2 h0 hbad K hK (q := 131) (bb := 0))
  clear hbad hok
  unfold c6
  repeat' (first | ((with_reducible refine T_calm ?_ ?_); rfl) | (with_reducible first | refine T_seq ?_ | refine T_reg ?_ | refine T_draw ?_ | refine T_skip ?_ | refine T_exit ?_ | refine T_block ?_ | refine T_cond_t rfl ?_ | refine T_cond_f rfl ?_ | refine wdW_cons rfl ?_ | (show wcall _ false (.lit (.func (.func 10) _ _)) _ _ _ _; refine wcall_fn (h10) rfl (by simp [plainL, plain]) ?_) | (show wcallX _ false (.lit (.func (.func 10) _ _)) _ _ _ _; refine wcallX_fn (h10) rfl (by simp [plainL, plain, plainR, plainR_rg]) ?_) | ((first | refine T_cond rfl (fun hc => ?_) (fun hc => ?_) | refine wguard_split (fun hc => ?_) (fun hc => ?_) | refine wguardX_split (fun hc => ?_) (fun hc => ?_)) <;> have hd := hc <;> (try simp (disch := omega) only [wrapI] at hd) <;> have hs := hd <;> (try simp only [bne_iff_ne, bne_eq_false_iff_eq, ne_eq] at hd) <;> (try simp at hs)) | refine T_ret ?_ | refine leave_of (.inr rfl) _ rfl ?_ | refine leave_of (.inl rfl) _ rfl ?_ | refine leaveA_of (.inr rfl) _ rfl ?_ | refine leaveA_of (.inl rfl) _ rfl ?_ | refine wif_intro ?_ (fun hc => ?_) | refine And.intro ?_ ?_ | intro hc) | simp (maxSteps := 4000000) only [wops_nil, wops_cons, wstep_none, wstep_some, wguard_ff, wrun_call, wrun_mv, wrun_pick, wrun_bin, wrun_not, wrun_load, wrun_faddr, wrun_len, wrun_box, wop, aop, ev, look, put_some, writes, ores_some, ores_map, ores_bind, binV, thenK, boolV, intV, lenOf, value, cut, hget, AV.parts, isOne, mkAgg, List.map_cons, List.map_nil, List.length_cons, List.length_nil, List.getElem?_cons_zero, List.set_cons_zero, List.take_succ_cons, List.take_zero, List.take_nil, List.drop_succ_cons, List.drop_zero, List.nil_append, List.append_nil, List.replicate_zero, List.replicate_succ, List.getD_cons_zero, List.zipIdx_cons, List.zipIdx_nil, List.all_cons, List.all_nil, Option.pure_def, Option.bind_eq_bind, Option.getD_some, Option.map_some, if_true, if_false, Nat.reduceEqDiff, Nat.reduceAdd, Nat.add_zero, Nat.zero_add, reduceCtorEq, Bool.not_true, Bool.and_true, Bool.false_eq_true, eq_self, true_and, and_self, freeze, lidsL, lids, List.flatMap_cons, List.flatMap_nil, List.all_cons, ren, *] | simp (disch := omega) only [getD_ints, wrapI] | (with_reducible show wcall _ false (.lit (.func (.func 10) _ _)) _ _ _ _; refine wcall_fn (h10) ?_ ?_ ?_; (next => simp [rfyL, rfy, hget, ints, take_rfy, plainR_rg]); (next => simp [plainL, plain, plainR, plainR_rg])) | (with_reducible show wcallX _ false (.lit (.func (.func 10) _ _)) _ _ _ _; refine wcallX_fn (h10) ?_ ?_ ?_; (next => simp [rfyL, rfy, hget, ints, take_rfy, plainR_rg]); (next => simp [plainL, plain, plainR, plainR_rg])) | omega)
  refine T_for [1, 2, 6, 7] (S6a hn pn en xs ps es) k0 (fun _ => True) 0 ?_ trivial (Nat.zero_le _) ?_
  · simp [St.only, get_mk, look]
  intro k hk _
  by_cases hkn : k < k0
  · exact hh.down k hkn _ fun τ ht => ⟨⟨hkn, trivial⟩, ht⟩
  · have hke : k = k0 := by omega
    subst hke
    refine hb.down _ fun τ h1 h2 => ?_
    simp only [blockK, thenK]
    exact leave_of (.inr rfl) [.sl true 0 [], bl false] (by simp [resL, resAV, h1, h2]) ⟨rfl, rfl⟩
set_option maxHeartbeats 8000000 in
theorem k6b3 {hn pn en : Bool} {xs : List Int} {ps es : List (Int × Int)} (hxl : 1 ≤ xs.length ∧ xs.length ≤ 8) (hpl : ps.length ≤ 12) (hee : es.length = ps.length) (hok : ∀ k, k < xs.length → gH (xs.getD k 0)) {k0 : Nat} (h0 : k0 < ps.length) (hbad : ¬gP xs.length (ps.getD k0 (0, 0)) (es.getD k0 (0, 0))) (hpo : ∀ k (hn pn en : Bool), k < k0 → ∀ K : Exit → St → Prop, T none Try.prog muts 131 0 c6l1 (S6b hn pn en xs ps es k) (thenK (fun s' => (k < k0 ∧ True) ∧ ∃ ids : List Nat, 0 ≤ s'.heap.length ∧ (∀ id ∈ ids, 0 ≤ id ∧ id < s'.heap.length) ∧ ids.Nodup ∧ s'.keep 0 [1, 2, 6, 8, 9] ids = S6b hn pn en xs ps es (k + 1)) K)) : Fn Try.prog 6 [mV hn pn en xs ps es, i64 1] (.tup [.sl true 0 [], bl false]) [] := by
  refine fn_of e6 ?_
  have l1 := rgR_len ps
  have l2 := rgR_len es
  have hlh := (by simp : (xs.map fun x => [i64 x]).length = xs.length)
  have h10 := k10 (xs.length : Int) 1 8
  rw [decide_eq_true (by omega : (1 : Int) ≤ (xs.length : Int)), decide_eq_true (by omega : (xs.length : Int) ≤ 8), Bool.and_true] at h10
  have d1 : decide ((ps.length : Int) > 12) = false := decide_eq_false (by omega)
  have d2 : ((es.length : Int) != (ps.length : Int)) = false := by simp; omega
  have hh := PLift.up (fun k hk K hK => k6h (hn := hn) (pn := pn) (en := en) (ps := ps) (es := es) hxl.2 hk (hok k hk) K hK (q := 131) (bb := 0))
  have hb := PLift.up (fun K hK => k6pb (hn := hn) (pn := pn) (en := en) hee hpl hxl.2 h0 hbad K hK)
  replace hpo := PLift.up hpo
  clear hbad hok
  unfold c6
  repeat' (first | ((with_reducible refine T_calm ?_ ?_); rfl) | (with_reducible first | refine T_seq ?_ | refine T_reg ?_ | refine T_draw ?_ | refine T_skip ?_ | refine T_exit ?_ | refine T_block ?_ | refine T_cond_t rfl ?_ | refine T_cond_f rfl ?_ | refine wdW_cons rfl ?_ | (show wcall _ false (.lit (.func (.func 10) _ _)) _ _ _ _; refine wcall_fn (h10) rfl (by simp [plainL, plain]) ?_) | (show wcallX _ false (.lit (.func (.func 10) _ _)) _ _ _ _; refine wcallX_fn (h10) rfl (by simp [plainL, plain, plainR, plainR_rg]) ?_) | ((first | refine T_cond rfl (fun hc => ?_) (fun hc => ?_) | refine wguard_split (fun hc => ?_) (fun hc => ?_) | refine wguardX_split (fun hc => ?_) (fun hc => ?_)) <;> have hd := hc <;> (try simp (disch := omega) only [wrapI] at hd) <;> have hs := hd <;> (try simp only [bne_iff_ne, bne_eq_false_iff_eq, ne_eq] at hd) <;> (try simp at hs)) | refine T_ret ?_ | refine leave_of (.inr rfl) _ rfl ?_ | refine leave_of (.inl rfl) _ rfl ?_ | refine leaveA_of (.inr rfl) _ rfl ?_ | refine leaveA_of (.inl rfl) _ rfl ?_ | refine wif_intro ?_ (fun hc => ?_) | refine And.intro ?_ ?_ | intro hc) | simp (maxSteps := 4000000) only [wops_nil, wops_cons, wstep_none, wstep_some, wguard_ff, wrun_call, wrun_mv, wrun_pick, wrun_bin, wrun_not, wrun_load, wrun_faddr, wrun_len, wrun_box, wop, aop, ev, look, put_some, writes, ores_some, ores_map, ores_bind, binV, thenK, boolV, intV, lenOf, value, cut, hget, AV.parts, isOne, mkAgg, List.map_cons, List.map_nil, List.length_cons, List.length_nil, List.getElem?_cons_zero, List.set_cons_zero, List.take_succ_cons, List.take_zero, List.take_nil, List.drop_succ_cons, List.drop_zero, List.nil_append, List.append_nil, List.replicate_zero, List.replicate_succ, List.getD_cons_zero, List.zipIdx_cons, List.zipIdx_nil, List.all_cons, List.all_nil, Option.pure_def, Option.bind_eq_bind, Option.getD_some, Option.map_some, if_true, if_false, Nat.reduceEqDiff, Nat.reduceAdd, Nat.add_zero, Nat.zero_add, reduceCtorEq, Bool.not_true, Bool.and_true, Bool.false_eq_true, eq_self, true_and, and_self, freeze, lidsL, lids, List.flatMap_cons, List.flatMap_nil, List.all_cons, ren, *] | simp (disch := omega) only [getD_ints, wrapI] | (with_reducible show wcall _ false (.lit (.func (.func 10) _ _)) _ _ _ _; refine wcall_fn (h10) ?_ ?_ ?_; (next => simp [rfyL, rfy, hget, ints, take_rfy, plainR_rg]); (next => simp [plainL, plain, plainR, plainR_rg])) | (with_reducible show wcallX _ false (.lit (.func (.func 10) _ _)) _ _ _ _; refine wcallX_fn (h10) ?_ ?_ ?_; (next => simp [rfyL, rfy, hget, ints, take_rfy, plainR_rg]); (next => simp [plainL, plain, plainR, plainR_rg])) | omega)
  refine T_for [1, 2, 6, 7] (S6a hn pn en xs ps es) xs.length (fun _ => True) 0 ?_ trivial (Nat.zero_le _) ?_
  · simp [St.only, get_mk, look]
  intro k hk _
  by_cases hkn : k < xs.length
  · exact hh.down k hkn _ fun τ ht => ⟨⟨hkn, trivial⟩, ht⟩
  · have hke : k = xs.length := by omega
    subst hke
    clear hh
    have hkk : decide ((xs.length : Int) < (xs.length : Int)) = false := by simp
    unfold c6l0
    repeat' (first | ((with_reducible refine T_calm ?_ ?_); rfl) | (with_reducible first | refine T_seq ?_ | refine T_reg ?_ | refine T_draw ?_ | refine T_skip ?_ | refine T_exit ?_ | refine T_block ?_ | refine T_cond_t rfl ?_ | refine T_cond_f rfl ?_ | refine wdW_cons rfl ?_ | refine T_ret ?_ | refine leave_of (.inr rfl) _ rfl ?_ | refine leave_of (.inl rfl) _ rfl ?_ | refine leaveA_of (.inr rfl) _ rfl ?_ | refine leaveA_of (.inl rfl) _ rfl ?_ | refine wif_intro ?_ (fun hc => ?_) | refine And.intro ?_ ?_ | intro hc) | simp (maxSteps := 4000000) only [wops_nil, wops_cons, wstep_none, wrun_mv, wrun_bin, wop, aop, ev, look, put_some, writes, ores_some, binV, thenK, blockK, List.length_cons, List.length_nil, List.append_nil, List.replicate_zero, Option.map_some, if_true, if_false, Nat.reduceEqDiff, Nat.zero_add, reduceCtorEq, eq_self, and_true, false_and, Int.reduceNeg, *] | simp (disch := omega) only [getD_ints, wrapI] | omega)
    refine T_for_keep [1, 2, 6, 8, 9] (S6b hn pn en xs ps es) k0 (fun _ => True) 0 ⟨[0], by simp, by simp, by simp, ?_⟩ trivial (Nat.zero_le _) ?_
    · rw [S6b_init]
      simp [St.keep, get_mk, look, ren, renL, renR, renB, renO, keepρ, pos, hget, renR_rg, renR_ints]
    intro k hk _
    by_cases hkn : k < k0
    · exact hpo.down k hn pn en hkn _
    · have hke : k = k0 := by omega
      subst hke
      refine hb.down _ fun τ h1 h2 => ?_
      simp only [blockK, thenK]
      exact leave_of (.inr rfl) [.sl true 0 [], bl false] (by simp [resL, resAV, h1, h2]) ⟨rfl, rfl⟩
set_option maxHeartbeats 8000000 in
theorem k6b {hn pn en : Bool} {xs : List Int} {ps es : List (Int × Int)} (hM : ¬MOk xs ps es) : Fn Try.prog 6 [mV hn pn en xs ps es, i64 1] (.tup [.sl true 0 [], bl false]) [] := by
  by_cases h1 : (1 ≤ xs.length ∧ xs.length ≤ 8) ∧ ps.length ≤ 12 ∧ es.length = ps.length
  · obtain ⟨hxl, hpl, hee⟩ := h1
    by_cases h2 : ∃ k, k < xs.length ∧ ¬gH (xs.getD k 0)
    · obtain ⟨k, hk, hb⟩ := h2
      obtain ⟨m, ⟨h3, h4⟩, _, h6⟩ := leastN (P := fun k => k < xs.length ∧ ¬gH (xs.getD k 0)) k ⟨hk, hb⟩
      exact k6b2 hxl hpl hee h3 h4 fun j hj => Classical.byContradiction fun hh => h6 j hj ⟨by omega, hh⟩
    · have hok : ∀ k, k < xs.length → gH (xs.getD k 0) := fun k hk => Classical.byContradiction fun hh => h2 ⟨k, hk, hh⟩
      by_cases h3 : ∃ k, k < ps.length ∧ ¬gP xs.length (ps.getD k (0, 0)) (es.getD k (0, 0))
      · obtain ⟨k, hk, hb⟩ := h3
        obtain ⟨m, ⟨h4, h5⟩, _, h6⟩ := leastN (P := fun k => k < ps.length ∧ ¬gP xs.length (ps.getD k (0, 0)) (es.getD k (0, 0))) k ⟨hk, hb⟩
        refine k6b3 hxl hpl hee hok h4 h5 fun j hn pn en hj K => ?_
        exact T_thenR (k6p hxl hpl hee hok (by omega) (Classical.byContradiction fun hh => h6 j hj ⟨by omega, hh⟩) K (bb := 0)) fun s ⟨_, h7⟩ => ⟨⟨hj, trivial⟩, h7⟩
      · exact (hM ⟨hxl, hpl, hee, hok, fun k hk => Classical.byContradiction fun hh => h3 ⟨k, hk, hh⟩⟩).elim
  · exact k6b1 h1
end Go.Abs
