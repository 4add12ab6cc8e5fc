import Derived.Test.YtdedhipkncagjaaK372x
set_option linter.all false
set_option linter.unusedVariables false
set_option linter.unusedSimpArgs false
set_option linter.unusedSectionVars false
namespace Go.Abs
open Go.Proofs
/-! rest, whole -/
def lwL (lo W : List Int) (n : Nat) : List Int := fL n (lwz lo W)
def hwL (hi W : List Int) (n : Nat) : List Int := fL n (hwz hi W)
abbrev zA : AV := .agg [.sl true 0 [], .sl true 0 []]
structure RB (lo hi W : List Int) (n : Nat) : Prop where
  nn : 1 ≤ n ∧ n ≤ 1000
  l1 : lo.length = n
  l2 : hi.length = n
  l3 : W.length = n
  b : ∀ k, k < n → (-1000000000 ≤ lo.getD k 0 ∧ lo.getD k 0 ≤ 1000000000) ∧ (-1000000000 ≤ hi.getD k 0 ∧ hi.getD k 0 ≤ 1000000000) ∧ (-1000000000 ≤ W.getD k 0 ∧ W.getD k 0 ≤ 1000000000)
theorem I96.zero (d1 d2 : Bool) (lo hi W : List Int) : I96 (H96 d1 d2 lo hi) 2 lo hi W 0 (H96 d1 d2 lo hi) := ⟨rfl, fun i _ _ => rfl, rfl, fun h => (h rfl).elim, fun h => (h rfl).elim⟩
set_option maxHeartbeats 8000000 in
theorem k42e (d1 d2 nw : Bool) {lo hi W : List Int} {n : Nat} (hR : RB lo hi W n) (h0 : okB hi W n = false) : Fn Try.prog 42 [dmV d1 lo d2 hi, ints nw W] (.tup [zA, i64 26]) [] := by
  refine fn_of e42 ?_
  have hlw := (by simp : (W.map fun x => [i64 x]).length = W.length)
  have h200 := hR.l3
  have hno : ¬∀ z, z < n → W.getD z 0 ≤ hi.getD z 0 := of_decide_eq_false h0
  have hbad := fun k hk hgt H hJ K hE => k42bad (d1 := d1) (d2 := d2) (nw := nw) (lo := lo) (hi := hi) (W := W) (n := n) (k := k) (bb := 0) hR.nn.2 hR.l3 hR.l2 K hk hgt (H := H) hJ hE
  have hgood := fun k hk hle H hJ K => k42good (d1 := d1) (d2 := d2) (nw := nw) (lo := lo) (hi := hi) (W := W) (n := n) (k := k) (bb := 0) hR.nn.2 hR.l3 hR.l2 hR.l1 (hR.b k hk) K hk hle (H := H) hJ
  replace hbad := PLift.up hbad
  replace hgood := PLift.up hgood
  replace hno := PLift.up hno
  clear hR h0
  unfold c42
  repeat' (first | ((with_reducible refine T_calm ?_ ?_); rfl) | (with_reducible first | refine T_seq ?_ | refine T_reg ?_ | refine T_draw ?_ | refine T_skip ?_ | refine T_exit ?_ | refine T_block ?_ | refine T_cond_t rfl ?_ | refine T_cond_f rfl ?_ | refine wdW_cons rfl ?_ | refine T_ret ?_ | refine leave_of (.inr rfl) _ rfl ?_ | refine leave_of (.inl rfl) _ rfl ?_ | refine leaveA_of (.inr rfl) _ rfl ?_ | refine leaveA_of (.inl rfl) _ rfl ?_ | refine wif_intro ?_ (fun hc => ?_) | refine And.intro ?_ ?_ | intro hc) | simp (maxSteps := 4000000) only [wops_nil, wops_cons, wstep_none, wrun_mv, wrun_len, wrun_alloc, wrun_box, wop, aop, ev, look, put_some, writes, ores_some, ores_map, ores_bind, thenK, intV, lenOf, hget, AV.parts, isOne, List.map_cons, List.map_nil, List.length_cons, List.length_nil, List.getElem?_cons_zero, List.getElem?_cons_succ, List.set_cons_zero, List.set_cons_succ, List.cons_append, List.nil_append, List.append_nil, List.replicate_zero, List.replicate_succ, List.zipIdx_cons, List.zipIdx_nil, List.all_cons, List.all_nil, Option.pure_def, Option.bind_eq_bind, if_true, if_false, Nat.reduceEqDiff, Nat.reduceAdd, Nat.add_zero, Nat.zero_add, Nat.zero_ne_one, reduceCtorEq, Bool.and_true, eq_self, true_and, and_self, List.all_cons, *] | simp (disch := omega) only [getD_ints, wrapI] | omega)
  refine T_forP [2, 4, 6, 9, 10, 11] (SL96 nw W n) n (fun k H => I96 (H96 d1 d2 lo hi) 2 lo hi W k H ∧ ∀ z, z < k → W.getD z 0 ≤ hi.getD z 0) 0 ?_ ⟨I96.zero d1 d2 lo hi W, fun z hz => by omega⟩ (Nat.zero_le _) ?_
  · simp [St.only, get_mk, look]
  intro k H hk ⟨hJ, hI⟩
  by_cases hkn : k < n
  · by_cases hle : W.getD k 0 ≤ hi.getD k 0
    · refine T_thenR (hgood.down k hkn hle H hJ _) fun s' hs => ⟨hkn, ⟨hs.1, fun z hz => ?_⟩, hs.2⟩
      rcases Nat.lt_succ_iff_lt_or_eq.1 hz with h | rfl
      · exact hI z h
      · exact hle
    · refine T_thenR (hbad.down k hkn hle H hJ _ fun τ t5 t4 t1 => ?_) fun s' hs => hs.elim
      have h205 : leave 0 [.cell 2 true 4, .tmp 5] (fun r' H' => r' = .tup [zA, i64 26] ∧ H' = []) .ret τ := leave_of (.inr rfl) [zA, i64 26] (by simp [resL, resAV, aop, ev, t5, t4, hget, t1, cut, value, mkAgg, toLits]) ⟨rfl, rfl⟩
      exact h205
  · have hke : k = n := by omega
    subst hke
    exact (hno.down hI).elim
set_option maxHeartbeats 8000000 in
theorem k42 (d1 d2 nw : Bool) {lo hi W : List Int} {n : Nat} (hR : RB lo hi W n) (h0 : okB hi W n = true) : Fn Try.prog 42 [dmV d1 lo d2 hi, ints nw W] (.tup [.agg [.lsl 0 0 n, .lsl 1 0 n], i64 0]) [iC (lwL lo W n), iC (hwL hi W n)] := by
  refine fn_of e42 ?_
  have hlw := (by simp : (W.map fun x => [i64 x]).length = W.length)
  have h200 := hR.l3
  have hyes : ∀ z, z < n → W.getD z 0 ≤ hi.getD z 0 := of_decide_eq_true h0
  have hgood := fun k hk hle H hJ K => k42good (d1 := d1) (d2 := d2) (nw := nw) (lo := lo) (hi := hi) (W := W) (n := n) (k := k) (bb := 0) hR.nn.2 hR.l3 hR.l2 hR.l1 (hR.b k hk) K hk hle (H := H) hJ
  have hn1 := hR.nn
  have e1 : fR n (lwz lo W) = (lwL lo W n).map fun x => [i64 x] := fR_eq _ _
  have e2 : fR n (hwz hi W) = (hwL hi W n).map fun x => [i64 x] := fR_eq _ _
  replace hgood := PLift.up hgood
  replace hyes := PLift.up hyes
  clear hR h0
  unfold c42
  repeat' (first | ((with_reducible refine T_calm ?_ ?_); rfl) | (with_reducible first | refine T_seq ?_ | refine T_reg ?_ | refine T_draw ?_ | refine T_skip ?_ | refine T_exit ?_ | refine T_block ?_ | refine T_cond_t rfl ?_ | refine T_cond_f rfl ?_ | refine wdW_cons rfl ?_ | refine T_ret ?_ | refine leave_of (.inr rfl) _ rfl ?_ | refine leave_of (.inl rfl) _ rfl ?_ | refine leaveA_of (.inr rfl) _ rfl ?_ | refine leaveA_of (.inl rfl) _ rfl ?_ | refine wif_intro ?_ (fun hc => ?_) | refine And.intro ?_ ?_ | intro hc) | simp (maxSteps := 4000000) only [wops_nil, wops_cons, wstep_none, wrun_mv, wrun_len, wrun_alloc, wrun_box, wop, aop, ev, look, put_some, writes, ores_some, ores_map, ores_bind, thenK, intV, lenOf, hget, AV.parts, isOne, List.map_cons, List.map_nil, List.length_cons, List.length_nil, List.getElem?_cons_zero, List.getElem?_cons_succ, List.set_cons_zero, List.set_cons_succ, List.cons_append, List.nil_append, List.append_nil, List.replicate_zero, List.replicate_succ, List.zipIdx_cons, List.zipIdx_nil, List.all_cons, List.all_nil, Option.pure_def, Option.bind_eq_bind, if_true, if_false, Nat.reduceEqDiff, Nat.reduceAdd, Nat.add_zero, Nat.zero_add, Nat.zero_ne_one, reduceCtorEq, Bool.and_true, eq_self, true_and, and_self, List.all_cons, *] | simp (disch := omega) only [getD_ints, wrapI] | omega)
  refine T_forP [2, 4, 6, 9, 10, 11] (SL96 nw W n) n (I96 (H96 d1 d2 lo hi) 2 lo hi W) 0 ?_ (I96.zero d1 d2 lo hi W) (Nat.zero_le _) ?_
  · simp [St.only, get_mk, look]
  intro k H hk hJ
  by_cases hkn : k < n
  · exact T_thenR (hgood.down k hkn (hyes.down k hkn) H hJ _) fun s' hs => ⟨hkn, hs.1, hs.2⟩
  · have hke : k = n := by omega
    subst hke
    have hk0 : k ≠ 0 := by omega
    obtain ⟨hN, hS, hB, hT1, hT2⟩ := hJ
    have f1 : H[1]? = some zB := hS 1 (by simp) (by omega)
    have y1 := (List.getElem?_eq_some_iff.1 f1).1
    have hT1' := hT1 hk0
    have hT2' := hT2 hk0
    rw [e1] at hT1'
    rw [e2] at hT2'
    simp only [oL, if_neg hk0] at hB
    have eM1 : (H96 d1 d2 lo hi).length + 4 * k - 3 = 4 * k := by show 3 + 4 * k - 3 = 4 * k; omega
    have eM2 : (H96 d1 d2 lo hi).length + 4 * k - 1 = 4 * k + 2 := by show 3 + 4 * k - 1 = 4 * k + 2; omega
    rw [eM1] at hT1' hB
    rw [eM2] at hT2' hB
    have n1 : 4 * k ≠ 1 := by omega
    have n2 : 4 * k + 2 ≠ 1 := by omega
    have q1 := fun v => look_off hT1' n1 v
    have q2 := fun v => look_off hT2' n2 v
    have q3 : ∀ v, (H.set 1 v)[1]? = some v := fun v => List.getElem?_set_self y1
    have n3 : 4 * k ≠ 4 * k + 2 := by omega
    have q1l := fun v => (List.getElem?_eq_some_iff.1 (q1 v)).1
    have q2l := fun v => (List.getElem?_eq_some_iff.1 (q2 v)).1
    have hkk : decide ((k : Int) < (k : Int)) = false := by simp
    replace q1 := PLift.up q1
    replace q2 := PLift.up q2
    replace q1l := PLift.up q1l
    replace q2l := PLift.up q2l
    replace n3 := PLift.up n3
    generalize 4 * k = M at *
    clear hgood hyes hS hT1 hT2 hN e1 e2 eM1 eM2 n1 n2 hT1' hT2' hn1
    unfold c42l0
    repeat' (first | ((with_reducible refine T_calm ?_ ?_); rfl) | (with_reducible first | refine T_seq ?_ | refine T_reg ?_ | refine T_draw ?_ | refine T_skip ?_ | refine T_exit ?_ | refine T_block ?_ | refine T_cond_t rfl ?_ | refine T_cond_f rfl ?_ | refine wdW_cons rfl ?_ | refine T_ret ?_ | refine wif_intro ?_ (fun hc => ?_) | refine And.intro ?_ ?_ | intro hc) | simp (maxSteps := 4000000) only [wops_nil, wops_cons, wstep_none, wrun_mv, wrun_bin, wrun_load, wrun_store, wop, aop, ev, look, put_some, put_none, writes, ores_some, binV, thenK, blockK, value, cut, hget, putCells, AV.parts, isOne, toLits, mkAgg, List.length_cons, List.length_nil, List.set_cons_zero, List.take_succ_cons, List.take_zero, List.take_nil, List.drop_succ_cons, List.drop_zero, List.drop_nil, List.nil_append, List.append_nil, List.replicate_zero, List.getD_cons_zero, List.all_cons, List.all_nil, Option.getD_some, Option.map_some, if_true, if_false, Nat.reduceEqDiff, Nat.reduceAdd, Nat.reduceLT, Nat.zero_add, Nat.le_refl, reduceCtorEq, Bool.and_true, eq_self, and_self, false_and, List.all_cons, Int.toNat_natCast, *] | simp (disch := omega) only [getD_ints, wrapI] | omega)
    refine leave_ids (.inr rfl) [.agg [.lsl M 0 k, .lsl (M + 2) 0 k], i64 0] [M, M + 2] ?_ (fun id hid => ?_) (by simp) ?_
    · simp [resL, resAV, aop, ev, get_mk, look, hget, q3, cut, value, mkAgg, toLits]
    · simp only [List.mem_cons, List.not_mem_nil, or_false] at hid
      rcases hid with rfl | rfl
      · exact q1l.down _
      · exact q2l.down _
    · have := n3.down
      simp [ren, renL, tupOf, keepρ, pos, hget, q1.down, q2.down, renB, renR_ints]
end Go.Abs
