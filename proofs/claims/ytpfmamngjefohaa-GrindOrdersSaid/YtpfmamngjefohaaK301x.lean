import Derived.Test.YtpfmamngjefohaaK300x
set_option linter.all false
set_option linter.unusedVariables false
set_option linter.unusedSimpArgs false
set_option linter.unusedSectionVars false
namespace Go.Abs
open Go.Proofs
/-! Light; numbers of which something is true -/
abbrev SL18 (nil : Bool) (l : List Sk) (k : Nat) : List (Nat × AV) := [(0, sts nil l), (3, i64 k)]
set_option maxHeartbeats 8000000 in
theorem k18l {nil : Bool} {l : List Sk} (hl : l.length < 1000000) {k : Nat} (hk : k < l.length) (K : Exit → St → Prop) (hE : lgS (l.getD k sk0) = false → ∀ τ : St, τ.get 2 = bl false → K .ret τ) :
    T none Try.prog muts 57 0 c18l0 ⟨SL18 nil l k, []⟩ (thenK (fun s' => lgS (l.getD k sk0) = true ∧ s'.heap = [] ∧ (s'.only [0, 3]).slots = SL18 nil l (k + 1)) K) := by
  have hll := skR_len l
  have g1 := skR_get hk
  have hwl : ((l.getD k sk0).wr.map fun x => [i64 x]).length = (l.getD k sk0).wr.length := by simp
  have hS : lgS (l.getD k sk0) = (decide ((l.getD k sk0).nm.size ≤ 30) && (decide ((l.getD k sk0).wr.length ≤ 10) || (decide (40 < (l.getD k sk0).wr.length) && decide ((l.getD k sk0).wr.length ≤ 43)))) := rfl
  generalize lgS (l.getD k sk0) = S at *
  replace hE := PLift.up hE
  by_cases h1 : (l.getD k sk0).nm.size ≤ 30
  · have e1 : decide (((l.getD k sk0).nm.size : Int) > 30) = false := decide_eq_false (by omega)
    by_cases h2 : (l.getD k sk0).wr.length ≤ 10
    · have e2 : decide (((l.getD k sk0).wr.length : Int) > 10) = false := decide_eq_false (by omega)
      have e3 : decide (((l.getD k sk0).wr.length : Int) > 43) = false := decide_eq_false (by omega)
      have hT : S = true := by rw [hS]; simp only [Bool.and_eq_true, Bool.or_eq_true, decide_eq_true_eq]; omega
      subst hT
      clear h1 h2 hS hE
      unfold c18l0
      repeat' (first | (with_reducible first | refine T_seq ?_ | refine T_reg ?_ | refine T_skip ?_ | refine T_exit ?_ | refine T_block ?_ | refine T_cond_t rfl ?_ | refine T_cond_f rfl ?_ | ((first | refine T_cond rfl (fun hc => ?_) (fun hc => ?_) | refine wguard_split (fun hc => ?_) (fun hc => ?_)) <;> have hd := hc <;> (try simp (disch := omega) only [wrapI] at hd) <;> have hs := hd <;> (try simp only [decide_eq_true_eq, decide_eq_false_iff_not, Int.not_lt] at hd) <;> (try simp at hs)) | refine T_ret ?_ | refine leave_of (.inr rfl) _ rfl ?_ | refine leave_of (.inl rfl) _ rfl ?_ | refine leaveA_of (.inr rfl) _ rfl ?_ | refine leaveA_of (.inl rfl) _ rfl ?_ | refine wif_intro ?_ (fun hc => ?_) | refine And.intro ?_ ?_ | intro hc) | simp (maxSteps := 4000000) only [wops_nil, wops_cons, wstep_none, wstep_some, wguard_ff, wguard_ft, wrun_mv, wrun_pick, wrun_bin, wrun_load, wrun_faddr, wrun_iaddrS, wrun_len, wrun_lenS, wop, aop, ev, look, put_some, writes, ores_some, ores_ite_none, ores_map, ores_bind, binV, thenK, blockK, intV, lenOf, value, cut, hget, mkAgg, List.length_cons, List.length_nil, List.take_succ_cons, List.take_zero, List.take_nil, List.drop_succ_cons, List.drop_zero, List.append_nil, List.replicate_zero, Option.pure_def, Option.bind_eq_bind, Option.map_some, if_true, if_false, Nat.reduceEqDiff, Nat.add_zero, Nat.zero_add, reduceCtorEq, Bool.false_eq_true, eq_self, true_and, and_true, and_self, decide_true, Int.toNat_natCast, *] | simp (disch := omega) only [wrapI] | omega)
      all_goals first | rfl | (simp [St.only, get_mk, look]; done)
    · have e2 : decide (((l.getD k sk0).wr.length : Int) > 10) = true := decide_eq_true (by omega)
      by_cases h3 : (l.getD k sk0).wr.length ≤ 40
      · have e3 : decide (((l.getD k sk0).wr.length : Int) ≤ 40) = true := decide_eq_true (by omega)
        have hF := PLift.up (hE.down (by rw [hS]; simp only [Bool.and_eq_false_iff, Bool.or_eq_false_iff, decide_eq_false_iff_not]; omega))
        clear h1 h2 h3 hS hE
        unfold c18l0
        repeat' (first | (with_reducible first | refine T_seq ?_ | refine T_reg ?_ | refine T_skip ?_ | refine T_exit ?_ | refine T_block ?_ | refine T_cond_t rfl ?_ | refine T_cond_f rfl ?_ | ((first | refine T_cond rfl (fun hc => ?_) (fun hc => ?_) | refine wguard_split (fun hc => ?_) (fun hc => ?_)) <;> have hd := hc <;> (try simp (disch := omega) only [wrapI] at hd) <;> have hs := hd <;> (try simp only [decide_eq_true_eq, decide_eq_false_iff_not, Int.not_lt] at hd) <;> (try simp at hs)) | refine T_ret ?_ | refine leave_of (.inr rfl) _ rfl ?_ | refine leave_of (.inl rfl) _ rfl ?_ | refine leaveA_of (.inr rfl) _ rfl ?_ | refine leaveA_of (.inl rfl) _ rfl ?_ | refine wif_intro ?_ (fun hc => ?_) | refine And.intro ?_ ?_ | intro hc) | simp (maxSteps := 4000000) only [wops_nil, wops_cons, wstep_none, wstep_some, wguard_true, wguard_ff, wguard_tf, wrun_mv, wrun_pick, wrun_bin, wrun_load, wrun_faddr, wrun_iaddrS, wrun_len, wrun_lenS, wop, aop, ev, look, put_some, writes, ores_some, ores_ite_none, ores_map, ores_bind, binV, thenK, blockK, intV, lenOf, value, cut, hget, mkAgg, List.length_cons, List.length_nil, List.take_succ_cons, List.take_zero, List.take_nil, List.drop_succ_cons, List.drop_zero, List.append_nil, List.replicate_zero, Option.pure_def, Option.bind_eq_bind, Option.map_some, if_true, if_false, Nat.reduceEqDiff, Nat.add_zero, Nat.zero_add, reduceCtorEq, Bool.false_eq_true, eq_self, and_true, and_self, decide_true, Int.toNat_natCast, *] | simp (disch := omega) only [getD_ints, wrapI] | omega)
        all_goals first | exact hF.down _ rfl
      · have e3 : decide (((l.getD k sk0).wr.length : Int) ≤ 40) = false := decide_eq_false (by omega)
        by_cases h5 : (l.getD k sk0).wr.length ≤ 43
        · have e4 : decide (((l.getD k sk0).wr.length : Int) > 43) = false := decide_eq_false (by omega)
          have hT : S = true := by rw [hS]; simp only [Bool.and_eq_true, Bool.or_eq_true, decide_eq_true_eq]; omega
          subst hT
          clear h1 h2 h3 h5 hS hE
          unfold c18l0
          repeat' (first | (with_reducible first | refine T_seq ?_ | refine T_reg ?_ | refine T_skip ?_ | refine T_exit ?_ | refine T_block ?_ | refine T_cond_t rfl ?_ | refine T_cond_f rfl ?_ | ((first | refine T_cond rfl (fun hc => ?_) (fun hc => ?_) | refine wguard_split (fun hc => ?_) (fun hc => ?_)) <;> have hd := hc <;> (try simp (disch := omega) only [wrapI] at hd) <;> have hs := hd <;> (try simp only [decide_eq_true_eq, decide_eq_false_iff_not, Int.not_lt] at hd) <;> (try simp at hs)) | refine T_ret ?_ | refine leave_of (.inr rfl) _ rfl ?_ | refine leave_of (.inl rfl) _ rfl ?_ | refine leaveA_of (.inr rfl) _ rfl ?_ | refine leaveA_of (.inl rfl) _ rfl ?_ | refine wif_intro ?_ (fun hc => ?_) | refine And.intro ?_ ?_ | intro hc) | simp (maxSteps := 4000000) only [wops_nil, wops_cons, wstep_none, wstep_some, wguard_true, wguard_ff, wrun_mv, wrun_pick, wrun_bin, wrun_load, wrun_faddr, wrun_iaddrS, wrun_len, wrun_lenS, wop, aop, ev, look, put_some, writes, ores_some, ores_ite_none, ores_map, ores_bind, binV, thenK, blockK, intV, lenOf, value, cut, hget, mkAgg, List.length_cons, List.length_nil, List.take_succ_cons, List.take_zero, List.take_nil, List.drop_succ_cons, List.drop_zero, List.append_nil, List.replicate_zero, Option.pure_def, Option.bind_eq_bind, Option.map_some, if_true, if_false, Nat.reduceEqDiff, Nat.add_zero, Nat.zero_add, reduceCtorEq, Bool.false_eq_true, eq_self, true_and, and_true, and_self, decide_true, Int.toNat_natCast, *] | simp (disch := omega) only [wrapI] | omega)
          all_goals first | rfl | (simp [St.only, get_mk, look]; done)
        · have e4 : decide (((l.getD k sk0).wr.length : Int) > 43) = true := decide_eq_true (by omega)
          have hF := PLift.up (hE.down (by rw [hS]; simp only [Bool.and_eq_false_iff, Bool.or_eq_false_iff, decide_eq_false_iff_not]; omega))
          clear h1 h2 h3 h5 hS hE
          unfold c18l0
          repeat' (first | (with_reducible first | refine T_seq ?_ | refine T_reg ?_ | refine T_skip ?_ | refine T_exit ?_ | refine T_block ?_ | refine T_cond_t rfl ?_ | refine T_cond_f rfl ?_ | ((first | refine T_cond rfl (fun hc => ?_) (fun hc => ?_) | refine wguard_split (fun hc => ?_) (fun hc => ?_)) <;> have hd := hc <;> (try simp (disch := omega) only [wrapI] at hd) <;> have hs := hd <;> (try simp only [decide_eq_true_eq, decide_eq_false_iff_not, Int.not_lt] at hd) <;> (try simp at hs)) | refine T_ret ?_ | refine leave_of (.inr rfl) _ rfl ?_ | refine leave_of (.inl rfl) _ rfl ?_ | refine leaveA_of (.inr rfl) _ rfl ?_ | refine leaveA_of (.inl rfl) _ rfl ?_ | refine wif_intro ?_ (fun hc => ?_) | refine And.intro ?_ ?_ | intro hc) | simp (maxSteps := 4000000) only [wops_nil, wops_cons, wstep_none, wstep_some, wguard_true, wguard_ff, wrun_mv, wrun_pick, wrun_bin, wrun_load, wrun_faddr, wrun_iaddrS, wrun_len, wrun_lenS, wop, aop, ev, look, put_some, writes, ores_some, ores_ite_none, ores_map, ores_bind, binV, thenK, blockK, intV, lenOf, value, cut, hget, mkAgg, List.length_cons, List.length_nil, List.take_succ_cons, List.take_zero, List.take_nil, List.drop_succ_cons, List.drop_zero, List.append_nil, List.replicate_zero, Option.pure_def, Option.bind_eq_bind, Option.map_some, if_true, if_false, Nat.reduceEqDiff, Nat.add_zero, Nat.zero_add, reduceCtorEq, Bool.false_eq_true, eq_self, and_true, and_self, decide_true, Int.toNat_natCast, *] | simp (disch := omega) only [getD_ints, wrapI] | omega)
          all_goals first | exact hF.down _ rfl
  · have e1 : decide (((l.getD k sk0).nm.size : Int) > 30) = true := decide_eq_true (by omega)
    have hF := PLift.up (hE.down (by rw [hS]; simp only [Bool.and_eq_false_iff, Bool.or_eq_false_iff, decide_eq_false_iff_not]; omega))
    clear h1 hS hE
    unfold c18l0
    repeat' (first | (with_reducible first | refine T_seq ?_ | refine T_reg ?_ | refine T_skip ?_ | refine T_exit ?_ | refine T_block ?_ | refine T_cond_t rfl ?_ | refine T_cond_f rfl ?_ | ((first | refine T_cond rfl (fun hc => ?_) (fun hc => ?_) | refine wguard_split (fun hc => ?_) (fun hc => ?_)) <;> have hd := hc <;> (try simp (disch := omega) only [wrapI] at hd) <;> have hs := hd <;> (try simp only [decide_eq_true_eq, decide_eq_false_iff_not, Int.not_lt] at hd) <;> (try simp at hs)) | refine T_ret ?_ | refine leave_of (.inr rfl) _ rfl ?_ | refine leave_of (.inl rfl) _ rfl ?_ | refine leaveA_of (.inr rfl) _ rfl ?_ | refine leaveA_of (.inl rfl) _ rfl ?_ | refine wif_intro ?_ (fun hc => ?_) | refine And.intro ?_ ?_ | intro hc) | simp (maxSteps := 4000000) only [wops_nil, wops_cons, wstep_none, wstep_some, wguard_tf, wguard_undef, wrun_mv, wrun_pick, wrun_bin, wrun_load, wrun_faddr, wrun_iaddrS, wrun_len, wrun_lenS, wop, aop, ev, look, put_some, writes, ores_some, ores_ite_none, ores_map, ores_bind, binV, thenK, blockK, intV, lenOf, value, cut, hget, mkAgg, List.length_cons, List.length_nil, List.take_succ_cons, List.take_zero, List.drop_zero, List.append_nil, List.replicate_zero, Option.pure_def, Option.bind_eq_bind, Option.map_some, if_true, if_false, Nat.reduceEqDiff, Nat.add_zero, Nat.zero_add, reduceCtorEq, Bool.false_eq_true, eq_self, and_true, and_self, decide_true, Int.toNat_natCast, *] | simp (disch := omega) only [getD_ints, wrapI] | omega)
    all_goals first | exact hF.down _ rfl
set_option maxHeartbeats 8000000 in
theorem k18loop {nil : Bool} {l : List Sk} (hl : l.length < 1000000) (K : Exit → St → Prop) (hE : ∀ k, k < l.length → lgS (l.getD k sk0) = false → ∀ τ : St, τ.get 2 = bl false → K .ret τ)
    (hN : (∀ k, k < l.length → lgS (l.getD k sk0) = true) → ∀ τ : St, K (.exit 0) τ) {σ : St} (h0 : (σ.only [0, 3]).slots = SL18 nil l 0) (hH : σ.heap = []) : T none Try.prog muts 57 0 (.loop c18l0) σ K := by
  have hll := skR_len l
  refine T_forP [0, 3] (SL18 nil l) l.length (fun k H => H = [] ∧ ∀ j, j < k → lgS (l.getD j sk0) = true) 0 h0 ⟨hH, fun j hj => by omega⟩ (Nat.zero_le _) ?_
  intro k H hk ⟨hH0, hI⟩
  subst hH0
  by_cases hkn : k < l.length
  · refine T_thenR (k18l hl hkn _ (hE k hkn)) fun s' hs => ⟨hkn, ⟨hs.2.1, fun j hj => ?_⟩, hs.2.2⟩
    rcases Nat.lt_succ_iff_lt_or_eq.1 hj with h | rfl
    · exact hI j h
    · exact hs.1
  · have hke : k = l.length := by omega
    subst hke
    have f9 := PLift.up (hN hI)
    clear hI hE hN h0 hH
    unfold c18l0
    repeat' (first | (with_reducible first | refine T_seq ?_ | refine T_reg ?_ | refine T_skip ?_ | refine T_exit ?_ | refine T_block ?_ | refine T_cond_t rfl ?_ | refine T_cond_f rfl ?_ | ((first | refine T_cond rfl (fun hc => ?_) (fun hc => ?_) | refine wguard_split (fun hc => ?_) (fun hc => ?_)) <;> have hd := hc <;> (try simp (disch := omega) only [wrapI] at hd) <;> have hs := hd <;> (try simp only [decide_eq_true_eq, decide_eq_false_iff_not, Int.not_lt] at hd) <;> (try simp at hs)) | refine T_ret ?_ | refine leave_of (.inr rfl) _ rfl ?_ | refine leave_of (.inl rfl) _ rfl ?_ | refine leaveA_of (.inr rfl) _ rfl ?_ | refine leaveA_of (.inl rfl) _ rfl ?_ | refine wif_intro ?_ (fun hc => ?_) | refine And.intro ?_ ?_ | intro hc) | simp (maxSteps := 4000000) only [wops_nil, wops_cons, wstep_none, wrun_mv, wrun_bin, wrun_len, wop, aop, ev, look, put_some, writes, ores_some, ores_map, ores_bind, binV, thenK, intV, lenOf, hget, List.length_nil, List.append_nil, List.replicate_zero, Option.pure_def, Option.bind_eq_bind, Option.map_some, if_true, if_false, Nat.reduceEqDiff, reduceCtorEq, eq_self, false_and, *] | simp (disch := omega) only [getD_ints, wrapI] | omega)
    all_goals first | exact f9.down _
set_option maxHeartbeats 8000000 in
theorem k18 (nil : Bool) (l : List Sk) (hl : l.length ≤ 9223372036854775807) : Fn Try.prog 18 [sts nil l] (bl (lgB l)) [] := by
  refine fn_of e18 ?_
  have hll := skR_len l
  by_cases h4 : l.length ≤ 4 ∨ (12 < l.length ∧ l.length ≤ 15)
  · have d2 : decide ((l.length : Int) > 15) = false := decide_eq_false (by omega)
    have hz2 : (decide (l.length ≤ 4) || (decide (12 < l.length) && decide (l.length ≤ 15))) = true := by simp; omega
    have hret : ∀ R τ, τ.get 2 = bl R → leave 0 [.tmp 2] (fun r' H' => r' = bl R ∧ H' = []) .ret τ := fun R τ h => leave0 (.inr rfl) (by simp [resL, resAV, h]) (fun _ => rfl) ⟨rfl, rfl⟩
    have hB : ∀ k, k < l.length → lgS (l.getD k sk0) = false → lgB l = false := fun k hk h => by
      have : l.all lgS = false := by
        cases hs9 : l.all lgS with
        | false => rfl
        | true => have := all_getSk.1 hs9 k hk; rw [this] at h; simp at h
      unfold lgB; rw [this, Bool.and_false]
    have hG : (∀ k, k < l.length → lgS (l.getD k sk0) = true) → lgB l = true := fun h => by
      unfold lgB; rw [hz2, all_getSk.2 h]; rfl
    have hlp := fun K hE hN σ h0 hH => k18loop (nil := nil) (l := l) (by omega) K hE hN (σ := σ) h0 hH
    replace hB := PLift.up hB
    replace hG := PLift.up hG
    replace hlp := PLift.up hlp
    replace hret := PLift.up hret
    clear hz2
    generalize lgB l = R at *
    by_cases h5 : 4 < l.length
    · have d0 : decide ((l.length : Int) > 4) = true := decide_eq_true (by omega)
      have d1 : decide ((l.length : Int) ≤ 12) = false := decide_eq_false (by omega)
      clear h4 h5
      unfold c18
      repeat' (first | (with_reducible first | refine T_seq ?_ | refine T_reg ?_ | refine T_skip ?_ | refine T_exit ?_ | refine T_block ?_ | refine T_cond_t rfl ?_ | refine T_cond_f rfl ?_ | refine T_ret ?_ | refine leave_of (.inr rfl) _ rfl ?_ | refine leave_of (.inl rfl) _ rfl ?_ | refine leaveA_of (.inr rfl) _ rfl ?_ | refine leaveA_of (.inl rfl) _ rfl ?_ | refine wif_intro ?_ (fun hc => ?_) | refine And.intro ?_ ?_ | intro hc) | simp (maxSteps := 4000000) only [wops_nil, wops_cons, wstep_none, wstep_some, wguard_true, wguard_ff, wrun_mv, wrun_pick, wrun_bin, wrun_len, wop, aop, ev, look, put_some, writes, ores_some, ores_map, ores_bind, binV, thenK, intV, lenOf, hget, List.map_cons, List.map_nil, List.length_nil, List.append_nil, List.replicate_zero, List.zipIdx_cons, List.zipIdx_nil, Option.pure_def, Option.bind_eq_bind, Option.map_some, if_true, if_false, Nat.reduceEqDiff, Nat.zero_add, reduceCtorEq, Bool.false_eq_true, eq_self, *] | simp (disch := omega) only [getD_ints, wrapI] | omega)
      refine hlp.down _ ?_ ?_ _ ?_ rfl
      · intro k hk h τ hτ
        rw [hB.down k hk h]
        exact hret.down _ τ hτ
      · intro h τ
        rw [hG.down h]
        clear hB hG hlp
        repeat' (first | (with_reducible first | refine T_seq ?_ | refine T_reg ?_ | refine T_skip ?_ | refine T_exit ?_ | refine T_block ?_ | refine T_cond_t rfl ?_ | refine T_cond_f rfl ?_ | refine T_ret ?_ | refine leave_of (.inr rfl) _ rfl ?_ | refine leave_of (.inl rfl) _ rfl ?_ | refine leaveA_of (.inr rfl) _ rfl ?_ | refine leaveA_of (.inl rfl) _ rfl ?_ | refine wif_intro ?_ (fun hc => ?_) | refine And.intro ?_ ?_ | intro hc) | simp (maxSteps := 4000000) only [wops_nil, wops_cons, wstep_none, wrun_mv, get_mk, wop, aop, ev, look, put_some, writes, ores_some, thenK, blockK, tupOf, List.append_nil, List.replicate_zero, if_true, eq_self, ren, *] | simp (disch := omega) only [getD_ints, wrapI] | omega)
        all_goals first | rfl
      · simp [St.only, get_mk, look]
    · have d0 : decide ((l.length : Int) > 4) = false := decide_eq_false (by omega)
      clear h4 h5
      unfold c18
      repeat' (first | (with_reducible first | refine T_seq ?_ | refine T_reg ?_ | refine T_skip ?_ | refine T_exit ?_ | refine T_block ?_ | refine T_cond_t rfl ?_ | refine T_cond_f rfl ?_ | refine T_ret ?_ | refine leave_of (.inr rfl) _ rfl ?_ | refine leave_of (.inl rfl) _ rfl ?_ | refine leaveA_of (.inr rfl) _ rfl ?_ | refine leaveA_of (.inl rfl) _ rfl ?_ | refine wif_intro ?_ (fun hc => ?_) | refine And.intro ?_ ?_ | intro hc) | simp (maxSteps := 4000000) only [wops_nil, wops_cons, wstep_none, wstep_some, wguard_ff, wguard_ft, wrun_mv, wrun_pick, wrun_bin, wrun_len, wop, aop, ev, look, put_some, writes, ores_some, ores_map, ores_bind, binV, thenK, intV, lenOf, hget, List.map_cons, List.map_nil, List.length_nil, List.append_nil, List.replicate_zero, List.zipIdx_cons, List.zipIdx_nil, Option.pure_def, Option.bind_eq_bind, Option.map_some, if_true, if_false, Nat.reduceEqDiff, Nat.zero_add, reduceCtorEq, Bool.false_eq_true, eq_self, *] | simp (disch := omega) only [getD_ints, wrapI] | omega)
      refine hlp.down _ ?_ ?_ _ ?_ rfl
      · intro k hk h τ hτ
        rw [hB.down k hk h]
        exact hret.down _ τ hτ
      · intro h τ
        rw [hG.down h]
        clear hB hG hlp
        repeat' (first | (with_reducible first | refine T_seq ?_ | refine T_reg ?_ | refine T_skip ?_ | refine T_exit ?_ | refine T_block ?_ | refine T_cond_t rfl ?_ | refine T_cond_f rfl ?_ | refine T_ret ?_ | refine leave_of (.inr rfl) _ rfl ?_ | refine leave_of (.inl rfl) _ rfl ?_ | refine leaveA_of (.inr rfl) _ rfl ?_ | refine leaveA_of (.inl rfl) _ rfl ?_ | refine wif_intro ?_ (fun hc => ?_) | refine And.intro ?_ ?_ | intro hc) | simp (maxSteps := 4000000) only [wops_nil, wops_cons, wstep_none, wrun_mv, get_mk, wop, aop, ev, look, put_some, writes, ores_some, thenK, blockK, tupOf, List.append_nil, List.replicate_zero, if_true, eq_self, ren, *] | simp (disch := omega) only [getD_ints, wrapI] | omega)
        all_goals first | rfl
      · simp [St.only, get_mk, look]
  · have hz2 : (decide (l.length ≤ 4) || (decide (12 < l.length) && decide (l.length ≤ 15))) = false := by simp; omega
    have hF : lgB l = false := by unfold lgB; rw [hz2]; rfl
    rw [hF]
    have d0 : decide ((l.length : Int) > 4) = true := decide_eq_true (by omega)
    by_cases h5 : l.length ≤ 12
    · have d1 : decide ((l.length : Int) ≤ 12) = true := decide_eq_true (by omega)
      clear h4 h5 hz2 hF
      unfold c18
      repeat' (first | (with_reducible first | refine T_seq ?_ | refine T_reg ?_ | refine T_skip ?_ | refine T_exit ?_ | refine T_block ?_ | refine T_cond_t rfl ?_ | refine T_cond_f rfl ?_ | refine T_ret ?_ | refine leave_of (.inr rfl) _ rfl ?_ | refine leave_of (.inl rfl) _ rfl ?_ | refine leaveA_of (.inr rfl) _ rfl ?_ | refine leaveA_of (.inl rfl) _ rfl ?_ | refine wif_intro ?_ (fun hc => ?_) | refine And.intro ?_ ?_ | intro hc) | simp (maxSteps := 4000000) only [wops_nil, wops_cons, wstep_none, wstep_some, wguard_true, wguard_tf, wrun_mv, wrun_pick, wrun_bin, wrun_len, get_mk, wop, aop, ev, look, put_some, writes, ores_some, ores_map, ores_bind, binV, thenK, intV, lenOf, hget, tupOf, List.map_cons, List.map_nil, List.length_nil, List.append_nil, List.replicate_zero, List.zipIdx_cons, List.zipIdx_nil, Option.pure_def, Option.bind_eq_bind, Option.map_some, if_true, if_false, Nat.reduceEqDiff, Nat.zero_add, reduceCtorEq, eq_self, ren, *] | simp (disch := omega) only [getD_ints, wrapI] | omega)
      all_goals first | rfl
    · have d1 : decide ((l.length : Int) ≤ 12) = false := decide_eq_false (by omega)
      have d2 : decide ((l.length : Int) > 15) = true := decide_eq_true (by omega)
      clear h4 h5 hz2 hF
      unfold c18
      repeat' (first | (with_reducible first | refine T_seq ?_ | refine T_reg ?_ | refine T_skip ?_ | refine T_exit ?_ | refine T_block ?_ | refine T_cond_t rfl ?_ | refine T_cond_f rfl ?_ | refine T_ret ?_ | refine leave_of (.inr rfl) _ rfl ?_ | refine leave_of (.inl rfl) _ rfl ?_ | refine leaveA_of (.inr rfl) _ rfl ?_ | refine leaveA_of (.inl rfl) _ rfl ?_ | refine wif_intro ?_ (fun hc => ?_) | refine And.intro ?_ ?_ | intro hc) | simp (maxSteps := 4000000) only [wops_nil, wops_cons, wstep_none, wstep_some, wguard_true, wguard_ff, wrun_mv, wrun_pick, wrun_bin, wrun_len, get_mk, wop, aop, ev, look, put_some, writes, ores_some, ores_map, ores_bind, binV, thenK, intV, lenOf, hget, tupOf, List.map_cons, List.map_nil, List.length_nil, List.append_nil, List.replicate_zero, List.zipIdx_cons, List.zipIdx_nil, Option.pure_def, Option.bind_eq_bind, Option.map_some, if_true, if_false, Nat.reduceEqDiff, Nat.zero_add, reduceCtorEq, Bool.false_eq_true, eq_self, ren, *] | simp (disch := omega) only [getD_ints, wrapI] | omega)
      all_goals first | rfl
end Go.Abs
