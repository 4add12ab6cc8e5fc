import Derived.Test.YtpfmamngjefohaaK7x
set_option linter.all false
set_option linter.unusedVariables false
set_option linter.unusedSimpArgs false
set_option linter.unusedSectionVars false
namespace Go.Abs
open Go.Proofs
set_option maxHeartbeats 8000000 in
theorem k45 (nil : Bool) (l : List Gr) (hl : l.length < 1000000) (hsz : ∀ k, k < l.length → (l.getD k gr0).nm.size ≤ 30) : Fn Try.prog 45 [gts nil l] (i64 (gE l)) [] := by
  refine fn_of e45 ?_
  have hll := gR_len l
  by_cases h12 : l.length > 12
  · have hE : gE l = 8 := if_pos h12
    rw [hE]
    have d1 : decide ((l.length : Int) > 12) = true := decide_eq_true (by omega)
    clear hE h12 hsz
    unfold c45
    repeat' (first
      | with_reducible first
        | refine T_seq ?_
        | refine T_reg ?_
        | refine T_skip ?_
        | refine T_exit ?_
        | refine T_block ?_
        | refine T_cond_t rfl ?_
        | refine T_cond_f rfl ?_
        | ((first | refine T_cond rfl (fun hc => ?_) (fun hc => ?_) | refine wguard_split (fun hc => ?_) (fun hc => ?_)) <;> have hd := hc <;> (try simp (disch := omega) only [wrapI] at hd) <;> have hs := hd <;> (try simp only [Bool.not_eq_true', Bool.not_eq_false', Bool.and_eq_true, Bool.and_eq_false_iff, Bool.or_eq_true, Bool.or_eq_false_iff, decide_eq_true_eq, decide_eq_false_iff_not, beq_iff_eq, bne_iff_ne, beq_eq_false_iff_ne, bne_eq_false_iff_eq, Bool.not_true, Bool.not_false, gt_iff_lt, ge_iff_le, Int.not_lt, Int.not_le, ne_eq, Decidable.not_not] at hd) <;> (try simp at hs))
        | refine T_ret ?_
        | refine leave_of (.inr rfl) _ rfl ?_
        | refine leave_of (.inl rfl) _ rfl ?_
        | refine leaveA_of (.inr rfl) _ rfl ?_
        | refine leaveA_of (.inl rfl) _ rfl ?_
        | refine wif_intro ?_ (fun hc => ?_)
        | refine And.intro ?_ ?_
        | intro hc
      | simp (maxSteps := 4000000) only [wops_nil, wops_cons, wstep_none, wrun_mv, wrun_bin, wrun_len, get_mk, wop, aop, ev, look, put_some, writes, ores_some, ores_map, ores_bind, binV, thenK, intV, lenOf, hget, tupOf, List.map_cons, List.map_nil, List.length_nil, List.append_nil, List.replicate_zero, List.zipIdx_cons, List.zipIdx_nil, Option.pure_def, Option.bind_eq_bind, Option.map_some, if_true, if_false, Nat.reduceEqDiff, Nat.zero_add, reduceCtorEq, eq_self, ren, *]
      | simp (disch := omega) only [getD_ints, wrapI]
      | omega)
    all_goals first | rfl
  · have d1 : decide ((l.length : Int) > 12) = false := decide_eq_false (by omega)
    have hE : gE l = gErs l l.length := if_neg h12
    rw [hE]
    have hrow := fun k (hk : k < l.length) H hJ K hE => k45l0 (nil := nil) (H := H) hl hsz hk hJ K hE
    have hJ0 : J45 l 0 [.obj (.smap .str [])] := ⟨_, rfl, fun b => .inr ⟨rfl, fun ⟨j, hj, _⟩ => by omega⟩⟩
    have hret : ∀ R τ, τ.get 2 = i64 R → leave 0 [.tmp 2] (fun r' H' => r' = i64 R ∧ H' = []) .ret τ := fun R τ h => leave0 (.inr rfl) (by simp [resL, resAV, h]) (fun _ => rfl) ⟨rfl, rfl⟩
    replace hrow := PLift.up hrow
    replace hJ0 := PLift.up hJ0
    replace hret := PLift.up hret
    have hRe : ∃ R, R = gErs l l.length := ⟨_, rfl⟩
    obtain ⟨R, hRe⟩ := hRe
    rw [← hRe]
    replace hRe := PLift.up hRe
    clear hE h12 hsz
    unfold c45
    repeat' (first
      | with_reducible first
        | refine T_seq ?_
        | refine T_reg ?_
        | refine T_skip ?_
        | refine T_exit ?_
        | refine T_block ?_
        | refine T_cond_t rfl ?_
        | refine T_cond_f rfl ?_
        | ((first | refine T_cond rfl (fun hc => ?_) (fun hc => ?_) | refine wguard_split (fun hc => ?_) (fun hc => ?_)) <;> have hd := hc <;> (try simp (disch := omega) only [wrapI] at hd) <;> have hs := hd <;> (try simp only [Bool.not_eq_true', Bool.not_eq_false', Bool.and_eq_true, Bool.and_eq_false_iff, Bool.or_eq_true, Bool.or_eq_false_iff, decide_eq_true_eq, decide_eq_false_iff_not, beq_iff_eq, bne_iff_ne, beq_eq_false_iff_ne, bne_eq_false_iff_eq, Bool.not_true, Bool.not_false, gt_iff_lt, ge_iff_le, Int.not_lt, Int.not_le, ne_eq, Decidable.not_not] at hd) <;> (try simp at hs))
        | refine T_ret ?_
        | refine leave_of (.inr rfl) _ rfl ?_
        | refine leave_of (.inl rfl) _ rfl ?_
        | refine leaveA_of (.inr rfl) _ rfl ?_
        | refine leaveA_of (.inl rfl) _ rfl ?_
        | refine wif_intro ?_ (fun hc => ?_)
        | refine And.intro ?_ ?_
        | intro hc
      | simp (maxSteps := 4000000) only [wops_nil, wops_cons, wstep_none, wrun_mv, wrun_bin, wrun_len, wrun_mkmap, wop, aop, ev, look, put_some, writes, ores_some, ores_map, ores_bind, binV, thenK, intV, lenOf, hget, List.map_cons, List.map_nil, List.length_cons, List.length_nil, List.getElem?_cons_zero, List.set_cons_zero, List.nil_append, List.append_nil, List.replicate_zero, List.replicate_succ, List.zipIdx_cons, List.zipIdx_nil, Option.pure_def, Option.bind_eq_bind, Option.map_some, if_true, if_false, Nat.reduceEqDiff, Nat.add_zero, Nat.zero_add, reduceCtorEq, eq_self, true_and, *]
      | simp (disch := omega) only [getD_ints, wrapI]
      | omega)
    refine T_forP [3, 10, 11, 12] (SL45 nil l) l.length (fun k H => J45 l k H ∧ gErs l k = 0) 0 ?_ ⟨hJ0.down, rfl⟩ (Nat.zero_le _) ?_
    · simp [St.only, get_mk, look]
    intro k H hk hI
    by_cases hkn : k < l.length
    · refine T_thenR (hrow.down k hkn H hI.1 _ fun hne τ hτ => ?_) fun s' hs => ⟨hkn, ⟨hs.2.1, gErs_next hI.2 hs.1⟩, hs.2.2⟩
      have hR : R = gErr l k := hRe.down.trans (gErs_stop hI.2 hne l.length hkn)
      rw [← hR] at hτ
      exact hret.down _ τ hτ
    · have hke : k = l.length := by omega
      subst hke
      have hr : R = 0 := hRe.down.trans hI.2
      rw [hr]
      clear hI hrow hret hRe hr hJ0
      unfold c45l0
      repeat' (first
        | with_reducible first
          | refine T_seq ?_
          | refine T_reg ?_
          | refine T_skip ?_
          | refine T_exit ?_
          | refine T_block ?_
          | refine T_cond_t rfl ?_
          | refine T_cond_f rfl ?_
          | ((first | refine T_cond rfl (fun hc => ?_) (fun hc => ?_) | refine wguard_split (fun hc => ?_) (fun hc => ?_)) <;> have hd := hc <;> (try simp (disch := omega) only [wrapI] at hd) <;> have hs := hd <;> (try simp only [decide_eq_true_eq, decide_eq_false_iff_not, Int.not_lt] at hd) <;> (try simp at hs))
          | refine T_ret ?_
          | refine leave_of (.inr rfl) _ rfl ?_
          | refine leave_of (.inl rfl) _ rfl ?_
          | refine leaveA_of (.inr rfl) _ rfl ?_
          | refine leaveA_of (.inl rfl) _ rfl ?_
          | refine wif_intro ?_ (fun hc => ?_)
          | refine And.intro ?_ ?_
          | intro hc
        | simp (maxSteps := 4000000) only [wops_nil, wops_cons, wstep_none, wrun_mv, wrun_bin, get_mk, wop, aop, ev, look, put_some, writes, ores_some, binV, thenK, blockK, tupOf, List.append_nil, List.replicate_zero, Option.map_some, if_true, if_false, Nat.reduceEqDiff, reduceCtorEq, eq_self, false_and, ren, Int.toNat_natCast, *]
        | simp (disch := omega) only [getD_ints, wrapI]
        | omega)
      all_goals first | rfl
end Go.Abs
