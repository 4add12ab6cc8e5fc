import Derived.Test.YtdedhipkncagjaaK306x
set_option linter.all false
set_option linter.unusedVariables false
set_option linter.unusedSimpArgs false
set_option linter.unusedSectionVars false
namespace Go.Abs
open Go.Proofs
/-! find -/
abbrev skA (s : Sk) : AV := .agg [tx s.nm, ints s.nil s.wr]
set_option maxHeartbeats 8000000 in
theorem k76 {H : List Blk} {a : Nat} {o n : Bool} {b : ByteArray} (s : Sk) (hH : H[a]? = some (.cells o n 1 [[tx b]])) : ACall Try.prog 76 [skA s, .loc a 0 0] H fun r H' => r = bl (eqT s.nm b) ∧ Ext H H' := by
  refine envOf_all e76 ?_
  have hq := eqT_bin s.nm b
  have hal := (List.getElem?_eq_some_iff.1 hH).1
  have a0 := at_in hH
  have hx := PLift.up (fun X => Ext.app H X)
  obtain ⟨u1, u2, u3, u4⟩ := cells_sub (X := []) (H := H) rfl
  unfold c76
  repeat' (first | (with_reducible first | refine T_seq ?_ | refine T_reg ?_ | refine T_skip ?_ | refine T_exit ?_ | refine T_block ?_ | refine T_cond_t rfl ?_ | refine T_cond_f rfl ?_ | refine T_ret ?_ | refine wif_intro ?_ (fun hc => ?_) | refine And.intro ?_ ?_ | intro hc) | simp (maxSteps := 4000000) only [wops_nil, wops_cons, wstep_none, wrun_mv, wrun_bin, wrun_load, wrun_faddr, wrun_box, wop, aop, ev, look, put_some, writes, ores_some, binV, thenK, value, cut, hget, AV.parts, isOne, mkAgg, List.map_cons, List.map_nil, List.length_cons, List.length_nil, List.getElem?_cons_zero, List.set_cons_zero, List.take_succ_cons, List.take_zero, List.take_nil, List.drop_zero, List.append_nil, List.replicate_zero, List.replicate_succ, List.getD_cons_zero, List.zipIdx_cons, List.zipIdx_nil, List.all_cons, List.all_nil, List.length_append, Option.getD_some, Option.map_some, if_true, if_false, Nat.reduceEqDiff, Nat.reduceAdd, Nat.add_zero, Nat.zero_add, Nat.zero_ne_one, reduceCtorEq, Bool.and_true, Bool.false_eq_true, eq_self, true_and, and_self, List.all_cons, *] | simp (disch := omega) only [getD_ints, wrapI] | omega)
  all_goals first | exact ⟨_, rfl, rfl, hx.down _⟩ | exact ⟨_, rfl, by rw [hq]; rfl, hx.down _⟩
set_option maxHeartbeats 8000000 in
theorem k75 {H : List Blk} {g : FuncId} {first cap : List AV} (nil : Bool) (l : List Sk) (hl : l.length < 1000000) (p : Nat → Bool)
    (hc0 : ∀ k, k < l.length → ∀ H', Ext H H' → ACall Try.prog g (first ++ [skA (l.getD k sk0)] ++ cap) H' fun r H'' => r = bl (p k) ∧ Ext H' H'') : ACall Try.prog 75 [sts nil l, .clo (.func g) first cap] H fun r H' => r = i64 (fstP p l.length) ∧ Ext H H' := by
  refine envOf_all e75 ?_
  have hll := skR_len l
  have hR : (∀ j, j < l.length → p j = false) → fstP p l.length = -1 := fun h => fstP_no h
  have hA : ∀ k, k < l.length → p k = true → (∀ j, j < k → p j = false) → fstP p l.length = k := fun k h1 h2 h200 => fstP_at h1 h2 h200
  replace hR := PLift.up hR
  replace hA := PLift.up hA
  replace hc0 := PLift.up hc0
  generalize fstP p l.length = R at *
  unfold c75
  repeat' (first | (with_reducible first | refine T_seq ?_ | refine T_reg ?_ | refine T_skip ?_ | refine T_exit ?_ | refine T_block ?_ | refine T_cond_t rfl ?_ | refine T_cond_f rfl ?_ | refine T_ret ?_ | refine wif_intro ?_ (fun hc => ?_) | refine And.intro ?_ ?_ | intro hc) | simp (maxSteps := 4000000) only [wops_nil, wops_cons, wstep_none, wrun_mv, wrun_len, wop, aop, ev, look, put_some, writes, ores_some, ores_map, ores_bind, thenK, intV, lenOf, hget, List.map_cons, List.map_nil, List.append_nil, List.replicate_zero, List.zipIdx_cons, List.zipIdx_nil, Option.pure_def, Option.bind_eq_bind, if_true, if_false, Nat.reduceEqDiff, Nat.reduceAdd, Nat.zero_add, reduceCtorEq, eq_self, Int.reduceNeg, *] | simp (disch := omega) only [getD_ints, wrapI] | omega)
  refine T_forP [0, 1, 7, 8] (fun k => [(0, sts nil l), (1, .clo (.func g) first cap), (7, i64 l.length), (8, i64 k)]) l.length (fun k H' => Ext H H' ∧ ∀ j, j < k → p j = false) 0 ?_ ⟨Ext.refl H, fun j hj => by omega⟩ (Nat.zero_le _) ?_
  · simp [St.only, get_mk, look]
  intro k H' hk ⟨hx, hI⟩
  by_cases hkn : k < l.length
  · have g1 := skR_get hkn
    have hcall := PLift.up (hc0.down k hkn H' hx)
    have hx9 := PLift.up hx
    have hAk := PLift.up (fun h => hA.down k hkn h hI)
    have hIn : p k = false → ∀ j, j < k + 1 → p j = false := fun h j hj => by
      rcases Nat.lt_succ_iff_lt_or_eq.1 hj with h' | rfl
      · exact hI j h'
      · exact h
    replace hIn := PLift.up hIn
    clear hc0 hx hI hA hR
    unfold c75l0
    repeat' (first | (with_reducible first | refine T_seq ?_ | refine T_reg ?_ | refine T_skip ?_ | refine T_exit ?_ | refine T_block ?_ | refine T_cond_t rfl ?_ | refine T_cond_f rfl ?_ | ((first | refine T_cond rfl (fun hc => ?_) (fun hc => ?_) | refine wguard_split (fun hc => ?_) (fun hc => ?_)) <;> have hd := hc <;> (try simp (disch := omega) only [wrapI] at hd) <;> have hs := hd <;> (try simp only [decide_eq_true_eq, decide_eq_false_iff_not, Int.not_lt] at hd) <;> (try simp at hs)) | refine T_ret ?_ | refine wif_intro ?_ (fun hc => ?_) | refine And.intro ?_ ?_ | intro hc) | simp (maxSteps := 4000000) only [wops_nil, wops_cons, wstep_none, wrun_call, wrun_mv, wrun_bin, wrun_load, wrun_iaddrS, wop, aop, ev, look, put_some, writes, ores_some, ores_ite_none, binV, thenK, blockK, value, cut, hget, toLits, mkAgg, List.map_cons, List.map_nil, List.length_cons, List.length_nil, List.take_succ_cons, List.take_nil, List.drop_zero, List.append_nil, List.replicate_zero, Option.map_some, Option.map_none, if_true, if_false, Nat.reduceEqDiff, Nat.reduceAdd, Nat.zero_add, Nat.zero_ne_one, reduceCtorEq, eq_self, true_and, and_true, and_self, decide_true, Int.reduceNeg, Int.toNat_natCast, *] | simp (disch := omega) only [getD_ints, wrapI] | omega)
    refine wcall_clo (hcall.down.mono ?_)
    rintro r H'' ⟨rfl, hx2⟩
    have hxx := PLift.up (hx9.down.trans hx2)
    clear hcall hx2 hx9
    cases hb : p k with
    | true =>
      have hr := hAk.down hb
      subst hr
      clear hAk hIn hb
      repeat' (first | (with_reducible first | refine T_seq ?_ | refine T_reg ?_ | refine T_skip ?_ | refine T_exit ?_ | refine T_block ?_ | refine T_cond_t rfl ?_ | refine T_cond_f rfl ?_ | refine T_ret ?_ | refine wif_intro ?_ (fun hc => ?_) | refine And.intro ?_ ?_ | intro hc) | simp (maxSteps := 4000000) only [wops_nil, wops_cons, wstep_none, wrun_mv, wop, aop, ev, look, put_some, writes, ores_some, thenK, blockK, List.append_nil, List.replicate_zero, if_true, if_false, Nat.reduceEqDiff, reduceCtorEq, eq_self, Int.reduceNeg, *] | simp (disch := omega) only [getD_ints, wrapI] | omega)
      all_goals first | exact ⟨_, rfl, rfl, hxx.down⟩
    | false =>
      have hI2 := PLift.up (hIn.down hb)
      clear hAk hIn hb
      repeat' (first | (with_reducible first | refine T_seq ?_ | refine T_reg ?_ | refine T_skip ?_ | refine T_exit ?_ | refine T_block ?_ | refine T_cond_t rfl ?_ | refine T_cond_f rfl ?_ | refine T_ret ?_ | refine wif_intro ?_ (fun hc => ?_) | refine And.intro ?_ ?_ | intro hc) | simp (maxSteps := 4000000) only [wops_nil, wops_cons, wstep_none, wrun_mv, wrun_bin, wop, aop, ev, look, put_some, writes, ores_some, binV, thenK, blockK, List.append_nil, List.replicate_zero, Option.map_some, if_true, if_false, Nat.reduceEqDiff, reduceCtorEq, eq_self, Int.reduceNeg, *] | simp (disch := omega) only [wrapI] | omega)
      all_goals first | exact hxx.down | exact hI2.down | exact ⟨hxx.down, hI2.down⟩ | exact hI2.down _ (by assumption) | (simp [St.only, get_mk, look]; done)
  · have hke : k = l.length := by omega
    subst hke
    have hr := hR.down hI
    subst hr
    have hx9 := PLift.up hx
    clear hc0 hI hx hA hR
    unfold c75l0
    repeat' (first | (with_reducible first | refine T_seq ?_ | refine T_reg ?_ | refine T_skip ?_ | refine T_exit ?_ | refine T_block ?_ | refine T_cond_t rfl ?_ | refine T_cond_f rfl ?_ | ((first | refine T_cond rfl (fun hc => ?_) (fun hc => ?_) | refine wguard_split (fun hc => ?_) (fun hc => ?_)) <;> have hd := hc <;> (try simp (disch := omega) only [wrapI] at hd) <;> have hs := hd <;> (try simp only [decide_eq_true_eq, decide_eq_false_iff_not, Int.not_lt] at hd) <;> (try simp at hs)) | refine T_ret ?_ | refine wif_intro ?_ (fun hc => ?_) | refine And.intro ?_ ?_ | intro hc) | simp (maxSteps := 4000000) only [wops_nil, wops_cons, wstep_none, wrun_mv, wrun_bin, wop, aop, ev, look, put_some, writes, ores_some, binV, thenK, blockK, List.append_nil, List.replicate_zero, Option.map_some, if_true, if_false, Nat.reduceEqDiff, reduceCtorEq, eq_self, false_and, Int.reduceNeg, Int.toNat_natCast, *] | simp (disch := omega) only [getD_ints, wrapI] | omega)
    all_goals first | exact ⟨_, rfl, rfl, hx9.down⟩
set_option maxHeartbeats 8000000 in
theorem k68 (nil : Bool) (l : List Sk) (b : ByteArray) (hl : l.length < 1000000) : Fn Try.prog 68 [sts nil l, tx b] (i64 (sAt l b)) [] := by
  refine fn_of e68 ?_
  have hcall : ∀ H : List Blk, H[0]? = some (.cells true false 1 [[tx b]]) → ACall Try.prog 75 [sts nil l, .clo (.func 76) [] [.loc 0 0 0]] H fun r H' => r = i64 (sAt l b) ∧ Ext H H' := fun H hH =>
    k75 nil l hl (fun j => eqT (l.getD j sk0).nm b) fun k hk H' hx => by
      obtain ⟨o', h0⟩ := hx.cell hH
      exact k76 (l.getD k sk0) h0
  replace hcall := PLift.up hcall
  unfold c68
  repeat' (first | (with_reducible first | refine T_seq ?_ | refine T_reg ?_ | refine T_skip ?_ | refine T_exit ?_ | refine T_block ?_ | refine T_cond_t rfl ?_ | refine T_cond_f rfl ?_ | refine T_ret ?_ | refine leave_of (.inr rfl) _ rfl ?_ | refine leave_of (.inl rfl) _ rfl ?_ | refine leaveA_of (.inr rfl) _ rfl ?_ | refine leaveA_of (.inl rfl) _ rfl ?_ | refine wif_intro ?_ (fun hc => ?_) | refine And.intro ?_ ?_ | intro hc) | simp (maxSteps := 4000000) only [wops_nil, wops_cons, wstep_none, wrun_call, wrun_mv, wrun_mkf, wrun_box, wop, aop, ev, look, put_some, writes, ores_some, thenK, AV.parts, isOne, List.map_cons, List.map_nil, List.length_cons, List.length_nil, List.getElem?_cons_zero, List.set_cons_zero, List.nil_append, List.append_nil, List.replicate_zero, List.replicate_succ, List.zipIdx_cons, List.zipIdx_nil, List.all_cons, List.all_nil, if_true, if_false, Nat.reduceEqDiff, Nat.reduceAdd, Nat.add_zero, Nat.zero_add, Nat.zero_ne_one, reduceCtorEq, Bool.and_true, eq_self, true_and, and_self, List.all_cons, *] | simp (disch := omega) only [getD_ints, wrapI] | omega)
  refine wcall_raw ((hcall.down _ rfl).mono ?_)
  rintro r H' ⟨rfl, _⟩
  clear hcall
  repeat' (first | (with_reducible first | refine T_seq ?_ | refine T_reg ?_ | refine T_skip ?_ | refine T_exit ?_ | refine T_block ?_ | refine T_cond_t rfl ?_ | refine T_cond_f rfl ?_ | refine T_ret ?_ | refine leave_of (.inr rfl) _ rfl ?_ | refine leave_of (.inl rfl) _ rfl ?_ | refine leaveA_of (.inr rfl) _ rfl ?_ | refine leaveA_of (.inl rfl) _ rfl ?_ | refine wif_intro ?_ (fun hc => ?_) | refine And.intro ?_ ?_ | intro hc) | simp (maxSteps := 4000000) only [wops_nil, wops_cons, wstep_none, wrun_mv, get_mk, wop, aop, ev, look, put_some, writes, ores_some, thenK, tupOf, if_true, if_false, Nat.reduceEqDiff, reduceCtorEq, eq_self, ren, *] | simp (disch := omega) only [getD_ints, wrapI] | omega)
  all_goals first | rfl
end Go.Abs
