import Derived.Test.YtdedhipkncagjaaK302x
set_option linter.all false
set_option linter.unusedVariables false
set_option linter.unusedSimpArgs false
set_option linter.unusedSectionVars false
namespace Go.Abs
open Go.Proofs
/-! pairs of zones -/
theorem wcall_yield {P : Program} {s : List (Nat × AV)} {h : List Blk} {K : St → Prop} {hl : Nat} {args : List AV} {d : Option Nat} {r : Loop} {sl : List (Nat × AV)} {raw : Bool} {Q : AV → List Blk → Prop}
    (hh : h[hl]? = some (.obj (.lp r sl))) (hy : AYield P hl args h Q) (hk : ∀ v H', Q v H' → K (St.put ⟨s, H'⟩ d v)) : wcall P raw (.mp hl) args d ⟨s, h⟩ K := by
  unfold wcall
  have : hget h hl = .obj (.lp r sl) := by unfold hget; rw [hh]; rfl
  simp only [target]
  rw [this]
  exact hy.mono hk
def restI (n i k : Nat) : List (Nat × Nat) := (((List.range n).drop k).filter (fun j => j != i)).map fun j => (i, j)
def restO (n i : Nat) : List (Nat × Nat) := ((List.range n).drop i).flatMap fun j => restI n j 0
theorem range_drop {n k : Nat} (h : k < n) : (List.range n).drop k = k :: (List.range n).drop (k + 1) := by
  rw [List.drop_eq_getElem_cons (by simpa using h)]; simp
theorem restI_eq {n i : Nat} (h : i < n) : restI n i i = restI n i (i + 1) := by
  unfold restI; rw [range_drop h, List.filter_cons_of_neg (by simp)]
theorem restI_ne {n i k : Nat} (h : k < n) (hne : k ≠ i) : restI n i k = (i, k) :: restI n i (k + 1) := by
  unfold restI; rw [range_drop h, List.filter_cons_of_pos (by simpa using hne)]; rfl
theorem restI_end (n i : Nat) : restI n i n = [] := by unfold restI; rw [List.drop_of_length_le (by simp)]; rfl
theorem restO_cons {n i : Nat} (h : i < n) : restO n i = restI n i 0 ++ restO n (i + 1) := by unfold restO; rw [range_drop h, List.flatMap_cons]
theorem restO_end (n : Nat) : restO n n = [] := by unfold restO; rw [List.drop_of_length_le (by simp)]; rfl
def prs (n : Nat) : List (Nat × Nat) := restO n 0
def EP (n : Nat) (k : Nat) (_ : List Blk) (args : List AV) : Prop := ∃ p : Nat × Nat, (prs n)[k]? = some p ∧ args = [i64 p.1, i64 p.2]
def BP (ic n : Nat) (H : List Blk) : Prop := ∃ o nn, H[ic]? = some (.cells o nn 1 [[i64 n]])
section
variable {n hl ic : Nat} {J : Nat → List Blk → Prop} {Jx : List Blk → Prop}
theorem i59in {i : Nat} {b0 : Nat} (hn : n ≤ 1000) (hi : i < n) (hB : ∀ k H', J k H' → (∃ r s, H'[hl]? = some (.obj (.lp r s))) ∧ BP ic n H')
    (hY : ∀ k H' args, k < (prs n).length → J k H' → EP n k H' args → AYield Try.prog hl args H' fun r H'' => (r = boolV true ∧ J (k + 1) H'') ∨ (r = boolV false ∧ Jx H'')) (K : Exit → St → Prop)
    (hN : ∀ pre, prs n = pre ++ restO n (i + 1) → ∀ τ : St, J pre.length τ.heap → (τ.only [0, 1, 5, 6]).slots = [(0, .mp hl), (1, .loc ic 0 0), (5, i64 n), (6, i64 i)] → K (.exit 2) τ)
    (hR : ∀ τ : St, Jx τ.heap → K .ret τ)
    {pre : List (Nat × Nat)} (hp : prs n = pre ++ restO n i) {σ : St} (h0 : (σ.only [0, 1, 3, 5, 6, 9, 10]).slots = [(0, .mp hl), (1, .loc ic 0 0), (3, i64 i), (5, i64 n), (6, i64 i), (9, i64 n), (10, i64 (0 : Nat))]) (hJ : J pre.length σ.heap) : T none Try.prog muts 25 b0 (.loop c59l0) σ K := by
  refine T_loop_only [0, 1, 3, 5, 6, 9, 10] (fun m s => ∃ k pre, k ≤ n ∧ m = n - k ∧ prs n = pre ++ (restI n i k ++ restO n (i + 1)) ∧ J pre.length s.heap ∧ s.slots = [(0, .mp hl), (1, .loc ic 0 0), (3, i64 i), (5, i64 n), (6, i64 i), (9, i64 n), (10, i64 (k : Nat))]) n ?_ ?_
  · exact ⟨0, pre, Nat.zero_le _, rfl, by rw [hp, restO_cons hi], hJ, h0⟩
  clear h0 hJ hp
  rintro m ⟨sl, H⟩ ⟨k, pre, hk, rfl, hp, hJ, hsl⟩
  dsimp only at hJ hsl
  subst hsl
  have f := PLift.up hN
  have fr := PLift.up hR
  obtain ⟨⟨r0, s0, hl0⟩, _⟩ := hB _ _ hJ
  clear hN hR
  by_cases hkn : k < n
  · have ek : (k : Int) < (n : Int) := by omega
    by_cases hki : k = i
    · subst hki
      rw [restI_eq hi] at hp
      have dne : ((k : Int) != (k : Int)) = false := by simp
      have fin := PLift.up (show ∃ k' pre', k' ≤ n ∧ n - (k + 1) = n - k' ∧ k' = k + 1 ∧ prs n = pre' ++ (restI n k k' ++ restO n (k + 1)) ∧ J pre'.length H from ⟨k + 1, pre, hkn, rfl, rfl, hp, hJ⟩)
      clear hB hY f fr hp hJ hl0
      unfold c59l0
      repeat' (first | (with_reducible first | refine T_seq ?_ | refine T_reg ?_ | refine T_skip ?_ | refine T_exit ?_ | refine T_block ?_ | refine T_cond_t rfl ?_ | refine T_cond_f rfl ?_ | refine T_ret ?_ | refine leave_of (.inr rfl) _ rfl ?_ | refine leave_of (.inl rfl) _ rfl ?_ | refine leaveA_of (.inr rfl) _ rfl ?_ | refine leaveA_of (.inl rfl) _ rfl ?_ | refine wif_intro ?_ (fun hc => ?_) | refine And.intro ?_ ?_ | intro hc) | simp (maxSteps := 4000000) only [wops_nil, wops_cons, wstep_none, wstep_some, wguard_ft, wrun_mv, wrun_pick, wrun_bin, wop, aop, ev, look, put_some, writes, ores_some, binV, thenK, blockK, List.append_nil, List.replicate_zero, Option.map_some, if_true, if_false, Nat.reduceEqDiff, reduceCtorEq, Bool.false_eq_true, eq_self, decide_true, Int.toNat_natCast, *] | simp (disch := omega) only [wrapI] | omega)
      obtain ⟨k', pre', a1, a2, rfl, a4, a5⟩ := fin.down
      exact ⟨n - (k + 1), by omega, k + 1, pre', a1, rfl, a4, a5, by simp [St.only, get_mk, look]⟩
    · rw [restI_ne hkn hki] at hp
      have dne : ((i : Int) != (k : Int)) = true := by simp only [bne_iff_ne]; omega
      have hlen : pre.length < (prs n).length := by rw [hp]; simp
      have hy := hY pre.length H [i64 i, i64 k] hlen hJ ⟨(i, k), by rw [hp]; simp, rfl⟩
      have hp2 := PLift.up (show prs n = (pre ++ [(i, k)]) ++ (restI n i (k + 1) ++ restO n (i + 1)) by rw [hp]; simp)
      have hl2 : (pre ++ [(i, k)]).length = pre.length + 1 := by simp
      replace hy := PLift.up hy
      clear hB hY f hp hJ hlen
      unfold c59l0
      repeat' (first | (with_reducible first | refine T_seq ?_ | refine T_reg ?_ | refine T_skip ?_ | refine T_exit ?_ | refine T_block ?_ | refine T_cond_t rfl ?_ | refine T_cond_f rfl ?_ | refine T_ret ?_ | refine leave_of (.inr rfl) _ rfl ?_ | refine leave_of (.inl rfl) _ rfl ?_ | refine leaveA_of (.inr rfl) _ rfl ?_ | refine leaveA_of (.inl rfl) _ rfl ?_ | refine wif_intro ?_ (fun hc => ?_) | refine And.intro ?_ ?_ | intro hc) | simp (maxSteps := 4000000) only [wops_nil, wops_cons, wstep_none, wstep_some, wguard_true, wrun_call, wrun_mv, wrun_bin, wop, aop, ev, look, put_some, writes, ores_some, binV, thenK, List.map_cons, List.map_nil, List.append_nil, List.replicate_zero, Option.map_some, if_true, if_false, Nat.reduceEqDiff, reduceCtorEq, eq_self, decide_true, Int.toNat_natCast, *] | simp (disch := omega) only [getD_ints, wrapI] | omega)
      refine wcall_yield hl0 hy.down ?_
      clear hy hl0
      rintro v H2 (⟨rfl, hJ2⟩ | ⟨rfl, hX⟩)
      · rw [← hl2] at hJ2
        have fin := PLift.up (show ∃ k' pre', k' ≤ n ∧ n - (k + 1) = n - k' ∧ k' = k + 1 ∧ prs n = pre' ++ (restI n i k' ++ restO n (i + 1)) ∧ J pre'.length H2 from ⟨k + 1, _, hkn, rfl, rfl, hp2.down, hJ2⟩)
        clear fr hp2 hl2 hJ2
        repeat' (first | (with_reducible first | refine T_seq ?_ | refine T_reg ?_ | refine T_skip ?_ | refine T_exit ?_ | refine T_block ?_ | refine T_cond_t rfl ?_ | refine T_cond_f rfl ?_ | refine T_ret ?_ | refine leave_of (.inr rfl) _ rfl ?_ | refine leave_of (.inl rfl) _ rfl ?_ | refine leaveA_of (.inr rfl) _ rfl ?_ | refine leaveA_of (.inl rfl) _ rfl ?_ | refine wif_intro ?_ (fun hc => ?_) | refine And.intro ?_ ?_ | intro hc) | simp (maxSteps := 4000000) only [wops_nil, wops_cons, wstep_none, wstep_some, wguard_true, wrun_mv, wrun_pick, wrun_bin, wrun_not, wop, aop, ev, look, put_some, writes, ores_some, binV, thenK, blockK, boolV, List.append_nil, List.replicate_zero, Option.map_some, if_true, if_false, Nat.reduceEqDiff, reduceCtorEq, Bool.not_true, eq_self, boolV, *] | simp (disch := omega) only [wrapI] | omega)
        obtain ⟨k', pre', a1, a2, rfl, a4, a5⟩ := fin.down
        exact ⟨n - (k + 1), by omega, k + 1, pre', a1, rfl, a4, a5, by simp [St.only, get_mk, look]⟩
      · have fx := PLift.up (fun τ h => fr.down τ h)
        replace hX := PLift.up hX
        clear fr hp2 hl2
        repeat' (first | (with_reducible first | refine T_seq ?_ | refine T_reg ?_ | refine T_skip ?_ | refine T_exit ?_ | refine T_block ?_ | refine T_cond_t rfl ?_ | refine T_cond_f rfl ?_ | refine T_ret ?_ | refine wif_intro ?_ (fun hc => ?_) | refine And.intro ?_ ?_ | intro hc) | simp (maxSteps := 4000000) only [wops_nil, wops_cons, wstep_none, wstep_some, wguard_true, wrun_pick, wrun_not, wop, aop, ev, look, put_some, writes, ores_some, thenK, blockK, boolV, if_true, if_false, Nat.reduceEqDiff, reduceCtorEq, Bool.not_false, eq_self, boolV, *] | simp (disch := omega) only [getD_ints, wrapI] | omega)
        all_goals first | exact fx.down _ hX.down
  · have hke : k = n := by omega
    subst hke
    rw [restI_end] at hp
    have hkk : decide ((k : Int) < (k : Int)) = false := by simp
    have fin := PLift.up (fun τ h1 h2 => f.down pre (by rw [hp]; simp) τ h1 h2)
    replace hJ := PLift.up hJ
    clear hB hY f fr hp hl0
    unfold c59l0
    repeat' (first | (with_reducible first | refine T_seq ?_ | refine T_reg ?_ | refine T_skip ?_ | refine T_exit ?_ | refine T_block ?_ | refine T_cond_t rfl ?_ | refine T_cond_f rfl ?_ | refine T_ret ?_ | refine leave_of (.inr rfl) _ rfl ?_ | refine leave_of (.inl rfl) _ rfl ?_ | refine leaveA_of (.inr rfl) _ rfl ?_ | refine leaveA_of (.inl rfl) _ rfl ?_ | refine wif_intro ?_ (fun hc => ?_) | refine And.intro ?_ ?_ | intro hc) | simp (maxSteps := 4000000) only [wops_nil, wops_cons, wstep_none, wrun_bin, wop, aop, ev, look, put_some, writes, ores_some, binV, thenK, List.append_nil, List.replicate_zero, Option.map_some, if_true, if_false, Nat.reduceEqDiff, Nat.sub_self, reduceCtorEq, eq_self, false_and, Nat.not_lt_zero, Int.toNat_natCast, *] | simp (disch := omega) only [getD_ints, wrapI] | omega)
    all_goals first | exact fin.down _ hJ.down rfl
end
theorem i59 (ic n : Nat) (hn : n ≤ 1000) : IterOk Try.prog 59 [] [.loc ic 0 0] (prs n).length (EP n) (BP ic n) := by
  intro hl J Jx H hB hY hJ
  refine envOf_all e59 ?_
  obtain ⟨⟨r0, s0, hl0⟩, o, nn, hc⟩ := hB _ _ hJ
  have hin := PLift.up (fun i hi K hN hR pre hp σ h0 hJ => i59in (hl := hl) (ic := ic) (b0 := H.length) (J := J) (Jx := Jx) (i := i) hn hi hB hY K hN hR (pre := pre) hp (σ := σ) h0 hJ)
  have hBc := PLift.up (fun k H' h => (hB k H' h).2)
  clear hB hY
  unfold c59
  repeat' (first | (with_reducible first | refine T_seq ?_ | refine T_reg ?_ | refine T_skip ?_ | refine T_exit ?_ | refine T_block ?_ | refine T_cond_t rfl ?_ | refine T_cond_f rfl ?_ | refine T_ret ?_ | refine wif_intro ?_ (fun hc => ?_) | refine And.intro ?_ ?_ | intro hc) | simp (maxSteps := 4000000) only [wops_nil, wops_cons, wstep_none, wrun_mv, wrun_load, wop, aop, ev, look, put_some, writes, ores_some, thenK, value, cut, hget, toLits, mkAgg, List.map_cons, List.map_nil, List.length_cons, List.length_nil, List.take_succ_cons, List.take_nil, List.drop_zero, List.cons_append, List.nil_append, List.append_nil, List.replicate_zero, List.getD_cons_zero, List.zipIdx_cons, List.zipIdx_nil, Option.getD_some, Option.map_some, if_true, if_false, Nat.reduceAdd, Nat.zero_add, Nat.zero_ne_one, Bool.false_eq_true, eq_self, *] | simp (disch := omega) only [getD_ints, wrapI] | omega)
  refine T_loop_only [0, 1, 5, 6] (fun m s => ∃ i pre, i ≤ n ∧ m = n - i ∧ prs n = pre ++ restO n i ∧ J pre.length s.heap ∧ s.slots = [(0, .mp hl), (1, .loc ic 0 0), (5, i64 n), (6, i64 (i : Nat))]) n ?_ ?_
  · exact ⟨0, [], Nat.zero_le _, rfl, rfl, hJ, by simp [St.only, get_mk, look]⟩
  clear hJ hc hl0
  rintro m ⟨sl, H1⟩ ⟨i, pre, hi, rfl, hp, hJ, hsl⟩
  dsimp only at hJ hsl
  subst hsl
  obtain ⟨o, nn, hc⟩ := hBc.down _ _ hJ
  by_cases hin' : i < n
  · have hii := PLift.up (fun K hN hR σ h0 hJ => hin.down i hin' K hN hR pre hp σ h0 hJ)
    have ei : (i : Int) < (n : Int) := by omega
    replace hJ := PLift.up hJ
    clear hin hp hBc
    unfold c59l1
    repeat' (first | (with_reducible first | refine T_seq ?_ | refine T_reg ?_ | refine T_skip ?_ | refine T_exit ?_ | refine T_block ?_ | refine T_cond_t rfl ?_ | refine T_cond_f rfl ?_ | refine T_ret ?_ | refine wif_intro ?_ (fun hc => ?_) | refine And.intro ?_ ?_ | intro hc) | simp (maxSteps := 4000000) only [wops_nil, wops_cons, wstep_none, wrun_mv, wrun_bin, wrun_load, wop, aop, ev, look, put_some, writes, ores_some, binV, thenK, value, cut, hget, toLits, mkAgg, List.length_cons, List.length_nil, List.take_succ_cons, List.take_nil, List.drop_zero, List.append_nil, List.replicate_zero, List.getD_cons_zero, Option.getD_some, Option.map_some, if_true, if_false, Nat.reduceEqDiff, Nat.zero_add, Nat.zero_ne_one, reduceCtorEq, Bool.false_eq_true, eq_self, decide_true, Int.toNat_natCast, *] | simp (disch := omega) only [getD_ints, wrapI] | omega)
    refine hii.down _ ?_ ?_ _ ?_ hJ.down
    · intro pre2 hp2 τ hJ2 t2
      simp only [blockK, thenK, reduceIte]
      refine T_onlyU [0, 1, 5, 6] (S := ⟨[(0, .mp hl), (1, .loc ic 0 0), (5, i64 n), (6, i64 i)], τ.heap⟩) (by show (⟨(τ.only [0, 1, 5, 6]).slots, τ.heap⟩ : St) = _; rw [t2]) ?_
      have fin := PLift.up (show ∃ i' pre', i' ≤ n ∧ n - (i + 1) = n - i' ∧ i' = i + 1 ∧ prs n = pre' ++ restO n i' ∧ J pre'.length τ.heap from ⟨i + 1, pre2, hin', rfl, rfl, hp2, hJ2⟩)
      clear hii hJ hp2 hJ2 t2 hc
      generalize τ.heap = HH at *
      repeat' (first | (with_reducible first | refine T_seq ?_ | refine T_reg ?_ | refine T_skip ?_ | refine T_exit ?_ | refine T_block ?_ | refine T_cond_t rfl ?_ | refine T_cond_f rfl ?_ | refine T_ret ?_ | refine wif_intro ?_ (fun hc => ?_) | refine And.intro ?_ ?_ | intro hc) | simp (maxSteps := 4000000) only [wops_nil, wops_cons, wstep_none, wrun_mv, wrun_bin, wop, aop, ev, look, put_some, writes, ores_some, binV, thenK, List.append_nil, List.replicate_zero, Option.map_some, if_true, if_false, Nat.reduceEqDiff, reduceCtorEq, eq_self, *] | simp (disch := omega) only [wrapI] | omega)
      obtain ⟨k', pre', a1, a2, rfl, a4, a5⟩ := fin.down
      exact ⟨n - (i + 1), by omega, i + 1, pre', a1, rfl, a4, a5, by simp [St.only, get_mk, look]⟩
    · intro τ hX
      exact ⟨_, rfl, .inr hX⟩
    · simp [St.only, get_mk, look]
  · have hie : i = n := by omega
    subst hie
    rw [restO_end, List.append_nil] at hp
    rw [← hp] at hJ
    replace hJ := PLift.up hJ
    have hii : decide ((i : Int) < (i : Int)) = false := by simp
    clear hin hp hBc
    unfold c59l1
    repeat' (first | (with_reducible first | refine T_seq ?_ | refine T_reg ?_ | refine T_skip ?_ | refine T_exit ?_ | refine T_block ?_ | refine T_cond_t rfl ?_ | refine T_cond_f rfl ?_ | refine T_ret ?_ | refine wif_intro ?_ (fun hc => ?_) | refine And.intro ?_ ?_ | intro hc) | simp (maxSteps := 4000000) only [wops_nil, wops_cons, wstep_none, wrun_bin, wop, aop, ev, look, put_some, writes, ores_some, binV, thenK, blockK, List.append_nil, List.replicate_zero, Option.map_some, if_true, if_false, Nat.reduceEqDiff, Nat.sub_self, reduceCtorEq, eq_self, false_and, Nat.not_lt_zero, Int.toNat_natCast, *] | simp (disch := omega) only [getD_ints, wrapI] | omega)
    all_goals first | exact ⟨_, rfl, .inl hJ.down⟩
end Go.Abs
