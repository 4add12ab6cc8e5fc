import Derived.Test.YtookdheldelepaaGreatDoorK64
import Derived.Test.YtookdheldelepaaGreatDoorKQ1
set_option linter.all false
set_option linter.unusedVariables false
set_option linter.unusedSimpArgs false
set_option linter.unusedSectionVars false
namespace Go.Abs
open Go.Proofs
/-! strings.Lines -/
theorem wcall_yield {P : Program} {s : List (Nat × AV)} {h : List Blk} {K : St → Prop} {hl : Nat} {args : List AV} {d : Option Nat} {r : Loop} {sl : List (Nat × AV)} {raw : Bool} {Q : AV → List Blk → Prop}
    (hh : h[hl]? = some (.obj (.lp r sl))) (hy : AYield P hl args h Q) (hk : ∀ v H', Q v H' → K (St.put ⟨s, H'⟩ d v)) : wcall P raw (.mp hl) args d ⟨s, h⟩ K := by
  unfold wcall
  have : hget h hl = .obj (.lp r sl) := by unfold hget; rw [hh]; rfl
  simp only [target]
  rw [this]
  exact hy.mono hk
set_option maxHeartbeats 8000000 in
theorem k46 (s : ByteArray) : Fn Tryz.prog 46 [strV s] (.clo (.func 71) [] [.loc 0 0 0]) [.cells true false 1 [[strV s]]] := by
  refine fn_of e46 ?_
  unfold c46
  repeat' (first | (with_reducible first | refine T_seq ?_ | refine T_reg ?_ | refine T_skip ?_ | refine T_exit ?_ | refine T_block ?_ | refine T_cond_t rfl ?_ | refine T_cond_f rfl ?_ | refine T_ret ?_ | refine leave_ids (.inr rfl) _ [0] rfl (by simp) (by simp) ?_ | refine leave_ids (.inl rfl) _ [0] rfl (by simp) (by simp) ?_ | refine leaveA_of (.inr rfl) _ rfl ?_ | refine leaveA_of (.inl rfl) _ rfl ?_ | refine wif_intro ?_ (fun hc => ?_) | refine And.intro ?_ ?_ | intro hc) | simp (maxSteps := 4000000) only [wops_nil, wops_cons, wstep_none, wrun_mv, wrun_mkf, wrun_box, get_mk, wop, aop, ev, look, put_some, writes, ores_some, thenK, hget, AV.parts, isOne, tupOf, List.map_cons, List.map_nil, List.length_cons, List.length_nil, List.getElem?_cons_zero, List.set_cons_zero, List.nil_append, List.append_nil, List.replicate_zero, List.replicate_succ, List.zipIdx_cons, List.zipIdx_nil, List.all_cons, List.all_nil, Option.getD_some, Option.map_some, Option.map_none, if_true, if_false, Nat.reduceEqDiff, Nat.add_zero, Nat.zero_add, Nat.zero_ne_one, reduceCtorEq, Bool.and_true, eq_self, true_and, and_self, List.all_cons, ren, renL, renR, renB, renO, keepρ, pos, Nat.not_lt_zero, *] | simp (disch := omega) only [getD_ints, wrapI] | omega)
def BL (ic : Nat) (s : ByteArray) (k : Nat) (H : List Blk) : Prop := H[ic]? = some (.cells true false 1 [[strV (restB s k)]])
def UL (ic : Nat) (s : ByteArray) (k : Nat) (H H1 : List Blk) : Prop := (∃ o n z e, H[ic]? = some (.cells o n z e)) ∧ H1 = H.set ic (.cells true false 1 [[strV (restB s (k + 1))]])
def EL (s : ByteArray) (k : Nat) (_ : List Blk) (args : List AV) : Prop := args = [strV (lnB s k)]
section
variable {ic hl : Nat} {s : ByteArray} {J : Nat → List Blk → Prop} {Jx : List Blk → Prop}
set_option maxHeartbeats 8000000 in
theorem k71r {b : Nat} (hz : s.size ≤ 1000000) (hB : ∀ k H', J k H' → (∃ r s, H'[hl]? = some (.obj (.lp r s))) ∧ BL ic s k H')
    (hY : ∀ k H' H1 args, k < nln s → J k H' → UL ic s k H' H1 → EL s k H1 args → AYield Tryz.prog hl args H1 fun r H'' => (r = boolV true ∧ J (k + 1) H'') ∨ (r = boolV false ∧ Jx H'')) (K : Exit → St → Prop)
    (hN : ∀ τ : St, J (nln s) τ.heap → K (.exit 0) τ) (hR : ∀ τ : St, Jx τ.heap → K .ret τ) {σ : St} (h0 : (σ.only [0, 1]).slots = [(0, .mp hl), (1, .loc ic 0 0)]) (hJ : J 0 σ.heap) : T none Tryz.prog muts 25 b (.loop c71l0) σ K := by
  refine T_loop_only [0, 1] (fun m s' => ∃ k, k ≤ nln s ∧ m = nln s - k ∧ J k s'.heap ∧ s'.slots = [(0, .mp hl), (1, .loc ic 0 0)]) (nln s) ⟨0, Nat.zero_le _, rfl, hJ, h0⟩ ?_
  clear h0 hJ
  rintro m ⟨sl, H⟩ ⟨k, hk, rfl, hJ, hsl⟩
  dsimp only at hJ hsl
  subst hsl
  have f := PLift.up hN
  have fr := PLift.up hR
  obtain ⟨⟨r0, s0, hl0⟩, hic⟩ := hB _ _ hJ
  clear hN hR
  unfold BL at hic
  have hlt : ic < H.length := (List.getElem?_eq_some_iff.1 hic).1
  have hne : hl ≠ ic := fun e => by rw [e, hic] at hl0; simp at hl0
  by_cases hkn : k < nln s
  · have hpos := rest_pos hkn
    have hd : decide (((restB s k).size : Int) > 0) = true := decide_eq_true (by omega)
    have hU : UL ic s k H (H.set ic (.cells true false 1 [[strV (restB s (k + 1))]])) := ⟨⟨_, _, _, _, hic⟩, rfl⟩
    have hy := hY k H _ [strV (lnB s k)] hkn hJ hU rfl
    have hl1 : (H.set ic (.cells true false 1 [[strV (restB s (k + 1))]]))[hl]? = some (.obj (.lp r0 s0)) := by rw [List.getElem?_set_ne (Ne.symm hne)]; exact hl0
    have h72 := k72 (restB s k)
    replace hy := PLift.up hy
    replace hl1 := PLift.up hl1
    have hrsz : (restB s k).size ≤ 1000001 := by
      rw [← ba_len]
      unfold restB
      rw [bA_data]
      exact Nat.le_trans (jn_drop 10 (psL s) k) (by unfold psL; rw [jn_cut, ba_len]; omega)
    clear hB hY hU hJ hl0 hpos
    by_cases h1 : k + 1 < (psL s).length
    · obtain ⟨g1, g2, g3, g4⟩ := rest_hit h1
      rw [g1] at h72
      have hdi : decide (((pcL s k).length : Int) ≥ 0) = true := decide_eq_true (by omega)
      generalize (pcL s k).length = i at *
      have tn : ((i : Int) + 1).toNat = i + 1 := by omega
      have tz : (((restB s k).size : Nat) : Int).toNat = (restB s k).size := rfl
      replace g3 := And.intro g3 trivial
      replace g4 := And.intro g4 trivial
      clear g1
      unfold c71l0
      repeat' (first | ((with_reducible refine T_calm ?_ ?_); rfl) | (with_reducible first | refine T_seq ?_ | refine T_reg ?_ | refine T_draw ?_ | refine T_skip ?_ | refine T_exit ?_ | refine T_block ?_ | refine T_cond_t rfl ?_ | refine T_cond_f rfl ?_ | refine wdW_cons rfl ?_ | (show wcall _ false (.lit (.func (.func 72) _ _)) _ _ _ _; refine wcall_fn (h72) rfl (by simp [plainL, plain]) ?_) | (show wcallX _ false (.lit (.func (.func 72) _ _)) _ _ _ _; refine wcallX_fn (h72) rfl (by simp [plainL, plain, plainR, Int.toNat_natCast, tn, hlt]) ?_) | refine T_ret ?_ | refine leave_of (.inr rfl) _ rfl ?_ | refine leave_of (.inl rfl) _ rfl ?_ | refine leaveA_of (.inr rfl) _ rfl ?_ | refine leaveA_of (.inl rfl) _ rfl ?_ | refine wif_intro ?_ (fun hc => ?_) | refine And.intro ?_ ?_ | intro hc) | simp (maxSteps := 4000000) only [wops_nil, wops_cons, wstep_none, wrun_call, wrun_mv, wrun_bin, wrun_load, wrun_store, wrun_slcS, wrun_lenS, wrunX_mv, wrunX_bin, wrunX_load, wrunX_store, wrunX_slcS, wdW_nil, wstepX_none, wop, aop, ev, look, put_some, put_none, writes, ores_some, ores_ite_none, ores_bind, binV, thenK, intV, value, cut, hget, putCells, AV.parts, isOne, toLits, mkAgg, boundOf, List.map_cons, List.map_nil, List.length_cons, List.length_nil, List.set_cons_zero, List.take_succ_cons, List.take_zero, List.take_nil, List.drop_succ_cons, List.drop_zero, List.drop_nil, List.nil_append, List.append_nil, List.replicate_zero, List.getD_cons_zero, List.all_cons, List.all_nil, Option.getD_some, Option.map_some, Option.map_none, Option.bind_some, if_true, if_false, Nat.reduceEqDiff, Nat.reduceLT, Nat.zero_add, Nat.le_refl, Nat.zero_ne_one, reduceCtorEq, Bool.and_true, Bool.false_eq_true, eq_self, true_and, and_self, freeze, lidsL, lids, List.flatMap_cons, List.flatMap_nil, List.all_cons, ren, *] | simp (disch := omega) only [wrapI] | (with_reducible show wcall _ false (.lit (.func (.func 72) _ _)) _ _ _ _; refine wcall_fn (h72) ?_ ?_ ?_; (next => simp [rfyL, rfy, hget, ints, take_rfy, Int.toNat_natCast, tn, hlt]); (next => simp [plainL, plain, plainR, Int.toNat_natCast, tn, hlt])) | (with_reducible show wcallX _ false (.lit (.func (.func 72) _ _)) _ _ _ _; refine wcallX_fn (h72) ?_ ?_ ?_; (next => simp [rfyL, rfy, hget, ints, take_rfy, Int.toNat_natCast, tn, hlt]); (next => simp [plainL, plain, plainR, Int.toNat_natCast, tn, hlt])) | (with_reducible refine wdW_cons ?_ ?_; (next => simp [chk, foot, compatB, argsOf, St.get, target, ev, look, lidsL, hget, kind, AOp.isRaw, wids, wtops, tops, opds, topId, Int.toNat_natCast, tn, hlt]; done)) | omega)
      refine wcall_yield hl1.down hy.down ?_
      clear hy hl1 hic g3 g4
      rintro v H2 (⟨rfl, hJ2⟩ | ⟨rfl, hX⟩)
      · have fin := PLift.up (show ∃ k', k' ≤ nln s ∧ nln s - (k + 1) = nln s - k' ∧ J k' H2 from ⟨k + 1, hkn, rfl, hJ2⟩)
        clear fr f hJ2
        repeat' (first | ((with_reducible refine T_calm ?_ ?_); rfl) | (with_reducible first | refine T_seq ?_ | refine T_reg ?_ | refine T_draw ?_ | refine T_skip ?_ | refine T_exit ?_ | refine T_block ?_ | refine T_cond_t rfl ?_ | refine T_cond_f rfl ?_ | refine wdW_cons rfl ?_ | refine T_ret ?_ | refine leave_of (.inr rfl) _ rfl ?_ | refine leave_of (.inl rfl) _ rfl ?_ | refine leaveA_of (.inr rfl) _ rfl ?_ | refine leaveA_of (.inl rfl) _ rfl ?_ | refine wif_intro ?_ (fun hc => ?_) | refine And.intro ?_ ?_ | intro hc) | simp (maxSteps := 4000000) only [wops_nil, wops_cons, wstep_none, wrun_not, wop, aop, ev, look, put_some, writes, ores_some, thenK, blockK, boolV, if_true, if_false, Nat.reduceEqDiff, reduceCtorEq, Bool.not_true, eq_self, boolV, *] | simp (disch := omega) only [getD_ints, wrapI] | omega)
        obtain ⟨k', a1, a2, a3⟩ := fin.down
        exact ⟨nln s - (k + 1), by omega, k', a1, a2, a3, by simp [St.only, get_mk, look]⟩
      · have fx := PLift.up (fun τ h => fr.down τ h)
        replace hX := PLift.up hX
        clear fr f
        repeat' (first | ((with_reducible refine T_calm ?_ ?_); rfl) | (with_reducible first | refine T_seq ?_ | refine T_reg ?_ | refine T_draw ?_ | refine T_skip ?_ | refine T_exit ?_ | refine T_block ?_ | refine T_cond_t rfl ?_ | refine T_cond_f rfl ?_ | refine wdW_cons rfl ?_ | refine T_ret ?_ | refine wif_intro ?_ (fun hc => ?_) | refine And.intro ?_ ?_ | intro hc) | simp (maxSteps := 4000000) only [wops_nil, wops_cons, wstep_none, wrun_not, wop, aop, ev, look, put_some, writes, ores_some, thenK, blockK, boolV, if_true, if_false, Nat.reduceEqDiff, reduceCtorEq, Bool.not_false, eq_self, boolV, *] | simp (disch := omega) only [getD_ints, wrapI] | omega)
        all_goals first | exact fx.down _ hX.down
    · have h1e : k + 1 = (psL s).length := by have := nln_le s; omega
      obtain ⟨g1, g2, g3⟩ := rest_miss h1e
      rw [g1] at h72
      have hy' := hy.down
      have hl1' := hl1.down
      rw [g3] at hy' hl1'
      change AYield Tryz.prog hl [strV (lnB s k)] (H.set ic (.cells true false 1 [[strV ⟨#[]⟩]])) _ at hy'
      change (H.set ic (.cells true false 1 [[strV ⟨#[]⟩]]))[hl]? = _ at hl1'
      rw [← g2] at hy'
      replace hy := PLift.up hy'
      replace hl1 := PLift.up hl1'
      clear hy' hl1' g1 g2 g3 h1e h1
      unfold c71l0
      repeat' (first | ((with_reducible refine T_calm ?_ ?_); rfl) | (with_reducible first | refine T_seq ?_ | refine T_reg ?_ | refine T_draw ?_ | refine T_skip ?_ | refine T_exit ?_ | refine T_block ?_ | refine T_cond_t rfl ?_ | refine T_cond_f rfl ?_ | refine wdW_cons rfl ?_ | (show wcall _ false (.lit (.func (.func 72) _ _)) _ _ _ _; refine wcall_fn (h72) rfl (by simp [plainL, plain]) ?_) | (show wcallX _ false (.lit (.func (.func 72) _ _)) _ _ _ _; refine wcallX_fn (h72) rfl (by simp [plainL, plain, plainR, Int.toNat_natCast, hlt]) ?_) | refine T_ret ?_ | refine leave_of (.inr rfl) _ rfl ?_ | refine leave_of (.inl rfl) _ rfl ?_ | refine leaveA_of (.inr rfl) _ rfl ?_ | refine leaveA_of (.inl rfl) _ rfl ?_ | refine wif_intro ?_ (fun hc => ?_) | refine And.intro ?_ ?_ | intro hc) | simp (maxSteps := 4000000) only [wops_nil, wops_cons, wstep_none, wrun_call, wrun_mv, wrun_bin, wrun_load, wrun_store, wrun_lenS, wop, aop, ev, look, put_some, put_none, writes, ores_some, binV, thenK, intV, value, cut, hget, putCells, AV.parts, isOne, toLits, mkAgg, List.map_cons, List.map_nil, List.length_cons, List.length_nil, List.set_cons_zero, List.take_succ_cons, List.take_zero, List.take_nil, List.drop_succ_cons, List.drop_zero, List.drop_nil, List.cons_append, List.nil_append, List.append_nil, List.replicate_zero, List.getD_cons_zero, List.all_cons, List.all_nil, Option.getD_some, Option.map_some, if_true, if_false, Nat.reduceEqDiff, Nat.reduceLT, Nat.zero_add, Nat.le_refl, Nat.zero_ne_one, reduceCtorEq, Bool.and_true, Bool.false_eq_true, eq_self, true_and, and_self, Int.reduceNeg, freeze, lidsL, lids, List.flatMap_cons, List.flatMap_nil, List.all_cons, ren, *] | simp (disch := omega) only [getD_ints, wrapI] | (with_reducible show wcall _ false (.lit (.func (.func 72) _ _)) _ _ _ _; refine wcall_fn (h72) ?_ ?_ ?_; (next => simp [rfyL, rfy, hget, ints, take_rfy, Int.toNat_natCast, hlt]); (next => simp [plainL, plain, plainR, Int.toNat_natCast, hlt])) | (with_reducible show wcallX _ false (.lit (.func (.func 72) _ _)) _ _ _ _; refine wcallX_fn (h72) ?_ ?_ ?_; (next => simp [rfyL, rfy, hget, ints, take_rfy, Int.toNat_natCast, hlt]); (next => simp [plainL, plain, plainR, Int.toNat_natCast, hlt])) | (with_reducible refine wdW_cons ?_ ?_; (next => simp [chk, foot, compatB, argsOf, St.get, target, ev, look, lidsL, hget, kind, AOp.isRaw, wids, wtops, tops, opds, topId, Int.toNat_natCast, hlt]; done)) | omega)
      refine wcall_yield hl1.down hy.down ?_
      clear hy hl1 hic
      rintro v H2 (⟨rfl, hJ2⟩ | ⟨rfl, hX⟩)
      · have fin := PLift.up (show ∃ k', k' ≤ nln s ∧ nln s - (k + 1) = nln s - k' ∧ J k' H2 from ⟨k + 1, hkn, rfl, hJ2⟩)
        clear fr f hJ2
        repeat' (first | ((with_reducible refine T_calm ?_ ?_); rfl) | (with_reducible first | refine T_seq ?_ | refine T_reg ?_ | refine T_draw ?_ | refine T_skip ?_ | refine T_exit ?_ | refine T_block ?_ | refine T_cond_t rfl ?_ | refine T_cond_f rfl ?_ | refine wdW_cons rfl ?_ | refine T_ret ?_ | refine leave_of (.inr rfl) _ rfl ?_ | refine leave_of (.inl rfl) _ rfl ?_ | refine leaveA_of (.inr rfl) _ rfl ?_ | refine leaveA_of (.inl rfl) _ rfl ?_ | refine wif_intro ?_ (fun hc => ?_) | refine And.intro ?_ ?_ | intro hc) | simp (maxSteps := 4000000) only [wops_nil, wops_cons, wstep_none, wrun_not, wop, aop, ev, look, put_some, writes, ores_some, thenK, blockK, boolV, if_true, if_false, Nat.reduceEqDiff, reduceCtorEq, Bool.not_true, eq_self, Int.reduceNeg, boolV, *] | simp (disch := omega) only [getD_ints, wrapI] | omega)
        obtain ⟨k', a1, a2, a3⟩ := fin.down
        exact ⟨nln s - (k + 1), by omega, k', a1, a2, a3, by simp [St.only, get_mk, look]⟩
      · have fx := PLift.up (fun τ h => fr.down τ h)
        replace hX := PLift.up hX
        clear fr f
        repeat' (first | ((with_reducible refine T_calm ?_ ?_); rfl) | (with_reducible first | refine T_seq ?_ | refine T_reg ?_ | refine T_draw ?_ | refine T_skip ?_ | refine T_exit ?_ | refine T_block ?_ | refine T_cond_t rfl ?_ | refine T_cond_f rfl ?_ | refine wdW_cons rfl ?_ | refine T_ret ?_ | refine wif_intro ?_ (fun hc => ?_) | refine And.intro ?_ ?_ | intro hc) | simp (maxSteps := 4000000) only [wops_nil, wops_cons, wstep_none, wrun_not, wop, aop, ev, look, put_some, writes, ores_some, thenK, blockK, boolV, if_true, if_false, Nat.reduceEqDiff, reduceCtorEq, Bool.not_false, eq_self, Int.reduceNeg, boolV, *] | simp (disch := omega) only [getD_ints, wrapI] | omega)
        all_goals first | exact fx.down _ hX.down
  · have hke : k = nln s := by omega
    have hz0 := rest_end s
    rw [← hke] at hz0
    have hd : decide (((restB s k).size : Int) > 0) = false := decide_eq_false (by omega)
    rw [hke] at hJ
    have fin := PLift.up (fun τ h => f.down τ h)
    replace hJ := PLift.up hJ
    clear hB hY f fr hl0 hz0 hke
    unfold c71l0
    repeat' (first | ((with_reducible refine T_calm ?_ ?_); rfl) | (with_reducible first | refine T_seq ?_ | refine T_reg ?_ | refine T_draw ?_ | refine T_skip ?_ | refine T_exit ?_ | refine T_block ?_ | refine T_cond_t rfl ?_ | refine T_cond_f rfl ?_ | refine wdW_cons rfl ?_ | refine T_ret ?_ | refine leave_of (.inr rfl) _ rfl ?_ | refine leave_of (.inl rfl) _ rfl ?_ | refine leaveA_of (.inr rfl) _ rfl ?_ | refine leaveA_of (.inl rfl) _ rfl ?_ | refine wif_intro ?_ (fun hc => ?_) | refine And.intro ?_ ?_ | intro hc) | simp (maxSteps := 4000000) only [wops_nil, wops_cons, wstep_none, wrun_bin, wrun_load, wrun_lenS, wop, aop, ev, look, put_some, writes, ores_some, binV, thenK, intV, value, cut, hget, toLits, mkAgg, List.length_cons, List.length_nil, List.take_succ_cons, List.take_nil, List.drop_zero, List.append_nil, List.replicate_zero, List.getD_cons_zero, Option.getD_some, Option.map_some, if_true, if_false, Nat.reduceEqDiff, Nat.zero_add, Nat.zero_ne_one, reduceCtorEq, Bool.false_eq_true, eq_self, *] | simp (disch := omega) only [getD_ints, wrapI] | (with_reducible refine wdW_cons ?_ ?_; (next => simp [chk, foot, compatB, argsOf, St.get, target, ev, look, lidsL, hget, kind, AOp.isRaw, wids, wtops, tops, opds, topId, hlt]; done)) | omega)
    all_goals first | exact fin.down _ hJ.down
end
theorem i71 (ic : Nat) {s : ByteArray} (hz : s.size ≤ 1000000) : IterG Tryz.prog 71 [] [.loc ic 0 0] (nln s) (UL ic s) (EL s) (BL ic s) := by
  intro hl J Jx H hB hY hJ
  refine envOf_all e71 ?_
  have hB' := PLift.up hB
  have hY' := PLift.up hY
  have hJ' := PLift.up hJ
  clear hB hY hJ
  unfold c71
  repeat' (first | ((with_reducible refine T_calm ?_ ?_); rfl) | (with_reducible first | refine T_seq ?_ | refine T_reg ?_ | refine T_draw ?_ | refine T_skip ?_ | refine T_exit ?_ | refine T_block ?_ | refine T_cond_t rfl ?_ | refine T_cond_f rfl ?_ | refine wdW_cons rfl ?_ | refine T_ret ?_ | refine wif_intro ?_ (fun hc => ?_) | refine And.intro ?_ ?_ | intro hc) | simp (maxSteps := 4000000) only [List.map_cons, List.map_nil, List.cons_append, List.nil_append, List.zipIdx_cons, List.zipIdx_nil, Nat.reduceAdd, Nat.zero_add, *] | simp (disch := omega) only [getD_ints, wrapI] | omega)
  refine k71r hz hB'.down hY'.down _ ?_ ?_ ?_ ?_
  · intro τ h
    simp only [blockK, if_true]
    exact leaveA_of (.inl rfl) [] rfl (.inl h)
  · intro τ h
    simp only [blockK]
    exact leaveA_of (.inr rfl) [] rfl (.inr h)
  · simp [St.only, get_mk, look]
  · exact hJ'.down
end Go.Abs
