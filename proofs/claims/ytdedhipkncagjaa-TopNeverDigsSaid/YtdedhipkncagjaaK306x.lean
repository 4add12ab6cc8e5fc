import Derived.Test.YtdedhipkncagjaaK305x
set_option linter.all false
set_option linter.unusedVariables false
set_option linter.unusedSimpArgs false
set_option linter.unusedSectionVars false
namespace Go.Abs
open Go.Proofs
/-! first: checks one after the other -/
def ClA (g : FuncId) (cap : List AV) (H : List Blk) (e : Int) : Prop := ∀ H', Ext H H' → ACall Try.prog g cap H' fun r H'' => r = i64 e ∧ Ext H' H''
theorem ClA.ext {g : FuncId} {cap : List AV} {H H2 : List Blk} {e : Int} (h : ClA g cap H e) (hx : Ext H H2) : ClA g cap H2 e := fun H' h' => h H' (hx.trans h')
set_option maxHeartbeats 8000000 in
theorem k38 {H : List Blk} {id n : Nat} {o nl : Bool} {els : List (List AV)} (hH : H[id]? = some (.cells o nl 1 els)) (hlen : els.length = n) (hn : n < 1000000) (es : Nat → Int)
    (hc0 : ∀ k, k < n → fe es k = 0 → ∃ g cap, els.getD k [] = [.clo (.func g) [] cap] ∧ ClA g cap H (es k)) : ACall Try.prog 38 [.lsl id 0 n] H fun r H' => r = i64 (fe es n) ∧ Ext H H' := by
  refine envOf_all e38 ?_
  have hstop : ∀ k, k < n → fe es k = 0 → es k ≠ 0 → fe es n = es k := fun k hk h1 h2 => fe_stop h1 h2 _ hk
  have hend : fe es n = 0 → fe es n = 0 := fun h => h
  have hRe : ∃ R, R = fe es n := ⟨_, rfl⟩
  obtain ⟨R, hRe⟩ := hRe
  rw [← hRe] at hstop hend ⊢
  replace hstop := PLift.up hstop
  replace hRe := PLift.up hRe
  replace hc0 := PLift.up hc0
  unfold c38
  repeat' (first | (with_reducible first | refine T_seq ?_ | refine T_reg ?_ | refine T_skip ?_ | refine T_exit ?_ | refine T_block ?_ | refine T_cond_t rfl ?_ | refine T_cond_f rfl ?_ | refine T_ret ?_ | refine wif_intro ?_ (fun hc => ?_) | refine And.intro ?_ ?_ | intro hc) | simp (maxSteps := 4000000) only [wops_nil, wops_cons, wstep_none, wrun_mv, wrun_len, wop, aop, ev, look, put_some, writes, ores_some, ores_map, ores_bind, thenK, intV, lenOf, hget, List.map_cons, List.map_nil, List.append_nil, List.replicate_zero, List.zipIdx_cons, List.zipIdx_nil, Option.pure_def, Option.bind_eq_bind, Option.getD_some, if_true, if_false, Nat.reduceEqDiff, Nat.zero_add, reduceCtorEq, eq_self, *] | simp (disch := omega) only [getD_ints, wrapI] | omega)
  refine T_forP [6, 7, 8] (fun k => [(6, .lsl id 0 n), (7, i64 n), (8, i64 k)]) n (fun k H' => Ext H H' ∧ fe es k = 0) 0 ?_ ⟨Ext.refl H, rfl⟩ (Nat.zero_le _) ?_
  · simp [St.only, get_mk, look]
  intro k H' hk ⟨hx, hI⟩
  obtain ⟨o', h0⟩ := hx.cell hH
  by_cases hkn : k < n
  · obtain ⟨g, cap, hg, hcl⟩ := hc0.down k hkn hI
    have hcall := hcl H' hx
    have hst := PLift.up (hstop.down k hkn hI)
    have hnx := PLift.up (fun h => fe_next (e := es) hI h)
    have hx9 := PLift.up hx
    replace hcall := PLift.up hcall
    have hlk : k < els.length := by omega
    clear hcl hc0 hstop hI hx hRe hend hH
    unfold c38l0
    repeat' (first | (with_reducible first | refine T_seq ?_ | refine T_reg ?_ | refine T_skip ?_ | refine T_exit ?_ | refine T_block ?_ | refine T_cond_t rfl ?_ | refine T_cond_f rfl ?_ | ((first | refine T_cond rfl (fun hc => ?_) (fun hc => ?_) | refine wguard_split (fun hc => ?_) (fun hc => ?_)) <;> have hd := hc <;> (try simp (disch := omega) only [wrapI] at hd) <;> have hs := hd <;> (try simp only [decide_eq_true_eq, decide_eq_false_iff_not, Int.not_lt] at hd) <;> (try simp at hs)) | refine T_ret ?_ | refine wif_intro ?_ (fun hc => ?_) | refine And.intro ?_ ?_ | intro hc) | simp (maxSteps := 4000000) only [wops_nil, wops_cons, wstep_none, wrun_call, wrun_mv, wrun_bin, wrun_load, wrun_iaddrS, wop, aop, ev, look, put_some, writes, ores_some, ores_ite_none, binV, thenK, blockK, value, cut, hget, mkAgg, List.map_nil, List.length_cons, List.length_nil, List.take_succ_cons, List.take_nil, List.drop_zero, List.append_nil, List.replicate_zero, Option.getD_some, Option.map_some, if_true, if_false, Nat.reduceEqDiff, Nat.zero_add, reduceCtorEq, Bool.false_eq_true, eq_self, true_and, and_true, and_self, decide_true, Int.toNat_natCast, *] | simp (disch := omega) only [getD_ints, wrapI] | omega)
    refine wcall_clo (hcall.down.mono ?_)
    rintro r H'' ⟨rfl, hx2⟩
    clear hcall
    by_cases he : es k = 0
    · have hn0 := PLift.up (hnx.down he)
      have hxx := PLift.up (hx9.down.trans hx2)
      rw [he]
      clear hst hnx hx9 hx2 he h0
      repeat' (first | (with_reducible first | refine T_seq ?_ | refine T_reg ?_ | refine T_skip ?_ | refine T_exit ?_ | refine T_block ?_ | refine T_cond_t rfl ?_ | refine T_cond_f rfl ?_ | refine T_ret ?_ | refine wif_intro ?_ (fun hc => ?_) | refine And.intro ?_ ?_ | intro hc) | simp (maxSteps := 4000000) only [wops_nil, wops_cons, wstep_none, wrun_mv, wrun_bin, wop, aop, ev, look, put_some, writes, ores_some, binV, thenK, blockK, List.append_nil, List.replicate_zero, Option.map_some, if_true, if_false, Nat.reduceEqDiff, reduceCtorEq, eq_self, *] | simp (disch := omega) only [wrapI] | omega)
      all_goals first | exact hn0.down | exact hxx.down | exact ⟨hxx.down, hn0.down⟩ | (simp [St.only, get_mk, look]; done)
    · have hr := hst.down he
      have hxx := PLift.up (hx9.down.trans hx2)
      have hne : (es k != 0) = true := by simp only [bne_iff_ne]; exact he
      subst hr
      clear hst hnx hx9 hx2 he h0
      repeat' (first | (with_reducible first | refine T_seq ?_ | refine T_reg ?_ | refine T_skip ?_ | refine T_exit ?_ | refine T_block ?_ | refine T_cond_t rfl ?_ | refine T_cond_f rfl ?_ | refine T_ret ?_ | refine wif_intro ?_ (fun hc => ?_) | refine And.intro ?_ ?_ | intro hc) | simp (maxSteps := 4000000) only [wops_nil, wops_cons, wstep_none, wrun_mv, wrun_bin, wop, aop, ev, look, put_some, writes, ores_some, binV, thenK, blockK, List.append_nil, List.replicate_zero, Option.map_some, if_true, if_false, Nat.reduceEqDiff, reduceCtorEq, eq_self, *] | simp (disch := omega) only [getD_ints, wrapI] | omega)
      all_goals first | exact ⟨_, rfl, rfl, hxx.down⟩
  · have hke : k = n := by omega
    subst hke
    have hr : R = 0 := hRe.down.trans hI
    subst hr
    have hx9 := PLift.up hx
    clear hc0 hstop hI hx hRe hend h0 hH
    unfold c38l0
    repeat' (first | (with_reducible first | refine T_seq ?_ | refine T_reg ?_ | refine T_skip ?_ | refine T_exit ?_ | refine T_block ?_ | refine T_cond_t rfl ?_ | refine T_cond_f rfl ?_ | ((first | refine T_cond rfl (fun hc => ?_) (fun hc => ?_) | refine wguard_split (fun hc => ?_) (fun hc => ?_)) <;> have hd := hc <;> (try simp (disch := omega) only [wrapI] at hd) <;> have hs := hd <;> (try simp only [decide_eq_true_eq, decide_eq_false_iff_not, Int.not_lt] at hd) <;> (try simp at hs)) | refine T_ret ?_ | refine wif_intro ?_ (fun hc => ?_) | refine And.intro ?_ ?_ | intro hc) | simp (maxSteps := 4000000) only [wops_nil, wops_cons, wstep_none, wrun_mv, wrun_bin, wop, aop, ev, look, put_some, writes, ores_some, binV, thenK, blockK, List.append_nil, List.replicate_zero, Option.map_some, if_true, if_false, Nat.reduceEqDiff, reduceCtorEq, eq_self, false_and, Int.toNat_natCast, *] | simp (disch := omega) only [getD_ints, wrapI] | omega)
    all_goals first | exact ⟨_, rfl, rfl, hx9.down⟩
set_option maxHeartbeats 8000000 in
theorem k39 {b : Bool} {m : Nat} {E : List (List AV)} (hE : plainR E = true) : Fn Try.prog 39 [.sl b m E] (.clo (.func 62) [] [.loc 0 0 0]) [.cells true false 1 [[.sl b m E]]] := by
  refine fn_of e39 ?_
  unfold c39
  have hr := fun ρ => renR_plain ρ E hE
  repeat' (first | (with_reducible first | refine T_seq ?_ | refine T_reg ?_ | refine T_skip ?_ | refine T_exit ?_ | refine T_block ?_ | refine T_cond_t rfl ?_ | refine T_cond_f rfl ?_ | refine T_ret ?_ | refine leave_ids (.inr rfl) _ [0] rfl (by simp) (by simp) ?_ | refine leave_ids (.inl rfl) _ [0] rfl (by simp) (by simp) ?_ | refine leaveA_of (.inr rfl) _ rfl ?_ | refine leaveA_of (.inl rfl) _ rfl ?_ | refine wif_intro ?_ (fun hc => ?_) | refine And.intro ?_ ?_ | intro hc) | simp (maxSteps := 4000000) only [wops_nil, wops_cons, wstep_none, wrun_mv, wrun_mkf, wrun_box, get_mk, wop, aop, ev, look, put_some, writes, ores_some, thenK, hget, AV.parts, isOne, tupOf, List.map_cons, List.map_nil, List.length_cons, List.length_nil, List.getElem?_cons_zero, List.set_cons_zero, List.nil_append, List.append_nil, List.replicate_zero, List.replicate_succ, List.zipIdx_cons, List.zipIdx_nil, List.all_cons, List.all_nil, Option.getD_some, Option.map_some, Option.map_none, if_true, if_false, Nat.reduceEqDiff, Nat.add_zero, Nat.zero_add, Nat.zero_ne_one, reduceCtorEq, Bool.and_true, eq_self, true_and, and_self, List.all_cons, ren, renL, renR, renB, renO, keepρ, pos, Nat.not_lt_zero, *] | simp (disch := omega) only [getD_ints, wrapI] | omega)
  all_goals first | rfl
set_option maxHeartbeats 8000000 in
theorem k62 {H : List Blk} {a : Nat} {o n : Bool} {b : Bool} {m : Nat} {E : List (List AV)} {x e : Int} (hE : plainR E = true) (hH : H[a]? = some (.cells o n 1 [[.sl b m E]])) (h63 : Fn Try.prog 63 [.sl b m E] (.tup [i64 x, i64 e]) []) : ClA 62 [.loc a 0 0] H e := by
  intro H0 hx0
  refine envOf_all e62 ?_
  obtain ⟨o', h0⟩ := hx0.cell hH
  have hx9 := PLift.up (Ext.refl H0)
  clear hx0 hH
  unfold c62
  repeat' (first | (with_reducible first | refine T_seq ?_ | refine T_reg ?_ | refine T_skip ?_ | refine T_exit ?_ | refine T_block ?_ | refine T_cond_t rfl ?_ | refine T_cond_f rfl ?_ | (show wcall _ false (.lit (.func (.func 63) _ _)) _ _ _ _; refine wcall_fn (h63) rfl (by simp [plainL, plain, hE]) ?_) | refine T_ret ?_ | refine wif_intro ?_ (fun hc => ?_) | refine And.intro ?_ ?_ | intro hc) | simp (maxSteps := 4000000) only [wops_nil, wops_cons, wstep_none, wrun_call, wrun_mv, wrun_ext, wrun_load, wop, aop, ev, look, put_some, writes, ores_some, thenK, value, cut, hget, toLits, mkAgg, List.map_cons, List.map_nil, List.length_cons, List.length_nil, List.getElem?_cons_zero, List.getElem?_cons_succ, List.take_succ_cons, List.take_nil, List.drop_zero, List.append_nil, List.replicate_zero, List.getD_cons_zero, List.zipIdx_cons, List.zipIdx_nil, Option.getD_some, Option.map_some, if_true, if_false, Nat.reduceEqDiff, Nat.zero_add, reduceCtorEq, Bool.false_eq_true, eq_self, freeze, lidsL, lids, List.flatMap_cons, List.flatMap_nil, ren, renL, *] | simp (disch := omega) only [getD_ints, wrapI] | (with_reducible show wcall _ false (.lit (.func (.func 63) _ _)) _ _ _ _; refine wcall_fn (h63) ?_ ?_ ?_; (next => simp [rfyL, rfy, hget, ints, take_rfy, Int.toNat_natCast, hE]); (next => simp [plainL, plain, plainR, Int.toNat_natCast, hE])) | omega)
  all_goals first | exact ⟨_, rfl, rfl, hx9.down⟩
end Go.Abs
