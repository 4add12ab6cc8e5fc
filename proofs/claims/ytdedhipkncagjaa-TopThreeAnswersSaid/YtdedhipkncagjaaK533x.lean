import Derived.Test.YtdedhipkncagjaaK532x
set_option linter.all false
set_option linter.unusedVariables false
set_option linter.unusedSimpArgs false
set_option linter.unusedSectionVars false
namespace Go.Abs
open Go.Proofs
/-! readings, whole -/
theorem S6b_init (hn pn en : Bool) (xs : List Int) (ps es : List (Int × Int)) : S6b hn pn en xs ps es 0 = ⟨[(1, i64 1), (2, .loc 0 0 0), (6, i64 xs.length), (8, .sl true 0 []), (9, i64 0)], [mB true hn pn en xs ps es]⟩ := rfl
set_option maxHeartbeats 8000000 in
theorem k6end {hn pn en : Bool} {xs : List Int} {ps es : List (Int × Int)} (hpl : ps.length ≤ 12) (K : Exit → St → Prop) (hK : ∀ τ : St, τ.get 8 = reV 1 (rdM xs ps es ps.length) → τ.heap = mB true hn pn en xs ps es :: reB (rdM xs ps es ps.length) → K (.exit 2) τ) : T none Try.prog muts 131 0 c6l1 (S6b hn pn en xs ps es ps.length) K := by
  have l1 := rgR_len ps
  have hkk : decide ((ps.length : Int) < (ps.length : Int)) = false := by simp
  unfold S6b
  generalize rdM xs ps es ps.length = L at *
  obtain ⟨X, V, hX⟩ : ∃ X V, reB L = X ∧ reV 1 L = V := ⟨_, _, rfl, rfl⟩
  rw [hX.1, hX.2] at hK ⊢
  clear hX
  replace hK := PLift.up hK
  unfold c6l1
  repeat' (first | ((with_reducible refine T_calm ?_ ?_); rfl) | (with_reducible first | refine T_seq ?_ | refine T_reg ?_ | refine T_draw ?_ | refine T_skip ?_ | refine T_exit ?_ | refine T_block ?_ | refine T_cond_t rfl ?_ | refine T_cond_f rfl ?_ | refine wdW_cons rfl ?_ | refine T_ret ?_ | refine wif_intro ?_ (fun hc => ?_) | refine And.intro ?_ ?_ | intro hc) | simp (maxSteps := 4000000) only [wops_nil, wops_cons, wstep_none, wrun_mv, wrun_bin, wrun_load, wrun_faddr, wrun_len, wop, aop, ev, look, put_some, writes, ores_some, ores_map, ores_bind, binV, thenK, intV, lenOf, value, cut, hget, mkAgg, List.length_cons, List.length_nil, List.getElem?_cons_zero, List.take_succ_cons, List.take_zero, List.drop_succ_cons, List.drop_zero, List.append_nil, List.replicate_zero, List.getD_cons_zero, Option.pure_def, Option.bind_eq_bind, Option.getD_some, Option.map_some, if_true, if_false, Nat.reduceEqDiff, Nat.zero_add, reduceCtorEq, Bool.false_eq_true, eq_self, *] | simp (disch := omega) only [getD_ints, wrapI] | omega)
  all_goals first | exact hK.down _ rfl rfl
set_option maxHeartbeats 8000000 in
theorem k6g {hn pn en : Bool} {xs : List Int} {ps es : List (Int × Int)} (hM : MOk xs ps es) : Fn Try.prog 6 [mV hn pn en xs ps es, i64 1] (.tup [reV 0 (rdM xs ps es ps.length), bl true]) (reB (rdM xs ps es ps.length)) := by
  refine fn_of e6 ?_
  have hxl := hM.n
  have hpl := hM.p
  have hee := hM.e
  have l1 := rgR_len ps
  have l2 := rgR_len es
  have hlh := (by simp : (xs.map fun x => [i64 x]).length = xs.length)
  have h10 := k10 (xs.length : Int) 1 8
  rw [decide_eq_true (by omega : (1 : Int) ≤ (xs.length : Int)), decide_eq_true (by omega : (xs.length : Int) ≤ 8), Bool.and_true] at h10
  have d1 : decide ((ps.length : Int) > 12) = false := decide_eq_false (by omega)
  have d2 : ((es.length : Int) != (ps.length : Int)) = false := by simp; omega
  have hh := PLift.up (fun k hk K hK => k6h (hn := hn) (pn := pn) (en := en) (ps := ps) (es := es) hxl.2 hk (hM.h k hk) K hK (q := 131) (bb := 0))
  have hp := PLift.up (fun k hk K => k6p (hn := hn) (pn := pn) (en := en) hxl hpl hee hM.h (k := k) hk (hM.g k hk) K (bb := 0))
  have he := PLift.up (fun K hK => k6end (hn := hn) (pn := pn) (en := en) (xs := xs) (ps := ps) (es := es) hpl K hK)
  clear hM
  unfold c6
  repeat' (first | ((with_reducible refine T_calm ?_ ?_); rfl) | (with_reducible first | refine T_seq ?_ | refine T_reg ?_ | refine T_draw ?_ | refine T_skip ?_ | refine T_exit ?_ | refine T_block ?_ | refine T_cond_t rfl ?_ | refine T_cond_f rfl ?_ | refine wdW_cons rfl ?_ | (show wcall _ false (.lit (.func (.func 10) _ _)) _ _ _ _; refine wcall_fn (h10) rfl (by simp [plainL, plain]) ?_) | (show wcallX _ false (.lit (.func (.func 10) _ _)) _ _ _ _; refine wcallX_fn (h10) rfl (by simp [plainL, plain, plainR, plainR_rg]) ?_) | ((first | refine T_cond rfl (fun hc => ?_) (fun hc => ?_) | refine wguard_split (fun hc => ?_) (fun hc => ?_) | refine wguardX_split (fun hc => ?_) (fun hc => ?_)) <;> have hd := hc <;> (try simp (disch := omega) only [wrapI] at hd) <;> have hs := hd <;> (try simp only [bne_iff_ne, bne_eq_false_iff_eq, ne_eq] at hd) <;> (try simp at hs)) | refine T_ret ?_ | refine leave_of (.inr rfl) _ rfl ?_ | refine leave_of (.inl rfl) _ rfl ?_ | refine leaveA_of (.inr rfl) _ rfl ?_ | refine leaveA_of (.inl rfl) _ rfl ?_ | refine wif_intro ?_ (fun hc => ?_) | refine And.intro ?_ ?_ | intro hc) | simp (maxSteps := 4000000) only [wops_nil, wops_cons, wstep_none, wstep_some, wguard_ff, wrun_call, wrun_mv, wrun_pick, wrun_bin, wrun_not, wrun_load, wrun_faddr, wrun_len, wrun_box, wop, aop, ev, look, put_some, writes, ores_some, ores_map, ores_bind, binV, thenK, boolV, intV, lenOf, value, cut, hget, AV.parts, isOne, mkAgg, List.map_cons, List.map_nil, List.length_cons, List.length_nil, List.getElem?_cons_zero, List.set_cons_zero, List.take_succ_cons, List.take_zero, List.take_nil, List.drop_succ_cons, List.drop_zero, List.nil_append, List.append_nil, List.replicate_zero, List.replicate_succ, List.getD_cons_zero, List.zipIdx_cons, List.zipIdx_nil, List.all_cons, List.all_nil, Option.pure_def, Option.bind_eq_bind, Option.getD_some, Option.map_some, if_true, if_false, Nat.reduceEqDiff, Nat.reduceAdd, Nat.add_zero, Nat.zero_add, reduceCtorEq, Bool.not_true, Bool.and_true, Bool.false_eq_true, eq_self, true_and, and_self, freeze, lidsL, lids, List.flatMap_cons, List.flatMap_nil, List.all_cons, ren, *] | simp (disch := omega) only [getD_ints, wrapI] | (with_reducible show wcall _ false (.lit (.func (.func 10) _ _)) _ _ _ _; refine wcall_fn (h10) ?_ ?_ ?_; (next => simp [rfyL, rfy, hget, ints, take_rfy, plainR_rg]); (next => simp [plainL, plain, plainR, plainR_rg])) | (with_reducible show wcallX _ false (.lit (.func (.func 10) _ _)) _ _ _ _; refine wcallX_fn (h10) ?_ ?_ ?_; (next => simp [rfyL, rfy, hget, ints, take_rfy, plainR_rg]); (next => simp [plainL, plain, plainR, plainR_rg])) | omega)
  refine T_for [1, 2, 6, 7] (S6a hn pn en xs ps es) xs.length (fun _ => True) 0 ?_ trivial (Nat.zero_le _) ?_
  · simp [St.only, get_mk, look]
  intro k hk _
  by_cases hkn : k < xs.length
  · exact hh.down k hkn _ fun τ ht => ⟨⟨hkn, trivial⟩, ht⟩
  · have hke : k = xs.length := by omega
    subst hke
    clear hh
    have hkk : decide ((xs.length : Int) < (xs.length : Int)) = false := by simp
    unfold c6l0
    repeat' (first | ((with_reducible refine T_calm ?_ ?_); rfl) | (with_reducible first | refine T_seq ?_ | refine T_reg ?_ | refine T_draw ?_ | refine T_skip ?_ | refine T_exit ?_ | refine T_block ?_ | refine T_cond_t rfl ?_ | refine T_cond_f rfl ?_ | refine wdW_cons rfl ?_ | refine T_ret ?_ | refine leave_of (.inr rfl) _ rfl ?_ | refine leave_of (.inl rfl) _ rfl ?_ | refine leaveA_of (.inr rfl) _ rfl ?_ | refine leaveA_of (.inl rfl) _ rfl ?_ | refine wif_intro ?_ (fun hc => ?_) | refine And.intro ?_ ?_ | intro hc) | simp (maxSteps := 4000000) only [wops_nil, wops_cons, wstep_none, wrun_mv, wrun_bin, wop, aop, ev, look, put_some, writes, ores_some, binV, thenK, blockK, List.length_cons, List.length_nil, List.append_nil, List.replicate_zero, Option.map_some, if_true, if_false, Nat.reduceEqDiff, Nat.zero_add, reduceCtorEq, eq_self, and_true, false_and, Int.reduceNeg, *] | simp (disch := omega) only [getD_ints, wrapI] | omega)
    refine T_for_keep [1, 2, 6, 8, 9] (S6b hn pn en xs ps es) ps.length (fun _ => True) 0 ⟨[0], by simp, by simp, by simp, ?_⟩ trivial (Nat.zero_le _) ?_
    · rw [S6b_init]
      simp [St.keep, get_mk, look, ren, renL, renR, renB, renO, keepρ, pos, hget, renR_rg, renR_ints]
    intro k hk _
    by_cases hkn : k < ps.length
    · exact hp.down k hkn _
    · have hke : k = ps.length := by omega
      subst hke
      refine he.down _ fun τ h1 h2 => ?_
      obtain ⟨s, H⟩ := τ
      dsimp only at h2
      subst h2
      simp only [blockK, thenK, reduceIte]
      clear hp he h10
      generalize rdM xs ps es ps.length = L at *
      by_cases hx : L = []
      · simp only [reV, reB, hx, if_true] at h1 ⊢
        change look s 8 = _ at h1
        repeat' (first | ((with_reducible refine T_calm ?_ ?_); rfl) | (with_reducible first | refine T_seq ?_ | refine T_reg ?_ | refine T_draw ?_ | refine T_skip ?_ | refine T_exit ?_ | refine T_block ?_ | refine T_cond_t rfl ?_ | refine T_cond_f rfl ?_ | refine wdW_cons rfl ?_ | refine T_ret ?_ | refine wif_intro ?_ (fun hc => ?_) | refine And.intro ?_ ?_ | intro hc) | simp (maxSteps := 4000000) only [wops_nil, wops_cons, wstep_none, wrun_mv, wop, aop, ev, look, put_some, writes, ores_some, thenK, List.length_cons, List.length_nil, List.append_nil, List.replicate_zero, if_true, Nat.zero_add, eq_self, *] | simp (disch := omega) only [getD_ints, wrapI] | omega)
        exact leave_of (.inr rfl) [.sl true 0 [], bl true] (by simp [resL, resAV, get_mk, look]) ⟨rfl, rfl⟩
      · simp only [reV, reB, hx, if_false] at h1 ⊢
        change look s 8 = _ at h1
        repeat' (first | ((with_reducible refine T_calm ?_ ?_); rfl) | (with_reducible first | refine T_seq ?_ | refine T_reg ?_ | refine T_draw ?_ | refine T_skip ?_ | refine T_exit ?_ | refine T_block ?_ | refine T_cond_t rfl ?_ | refine T_cond_f rfl ?_ | refine wdW_cons rfl ?_ | refine T_ret ?_ | refine wif_intro ?_ (fun hc => ?_) | refine And.intro ?_ ?_ | intro hc) | simp (maxSteps := 4000000) only [wops_nil, wops_cons, wstep_none, wrun_mv, wop, aop, ev, look, put_some, writes, ores_some, thenK, List.length_cons, List.length_nil, List.append_nil, List.replicate_zero, if_true, Nat.reduceAdd, Nat.zero_add, eq_self, *] | simp (disch := omega) only [getD_ints, wrapI] | omega)
        refine leave_ids (.inr rfl) [.lsl 1 0 L.length, bl true] [1] (by simp [resL, resAV, get_mk, look]) (by simp) (by simp) ⟨?_, ?_⟩
        · simp [tupOf, ren, renL, keepρ, pos]
        · simp [hget, renB, renR_rows4]
end Go.Abs
