import Derived.Test.YtdedhipkncagjaaK543x
set_option linter.all false
set_option linter.unusedVariables false
set_option linter.unusedSimpArgs false
set_option linter.unusedSectionVars false
namespace Go.Abs
open Go.Proofs
/-! decides whole; Deciding -/
theorem leastN {P : Nat → Prop} : ∀ n, P n → ∃ m, P m ∧ m ≤ n ∧ ∀ j, j < m → ¬P j := by
  intro n
  induction n using Nat.strongRecOn with
  | _ n ih =>
    intro hn
    by_cases h : ∃ j, j < n ∧ P j
    · obtain ⟨j, h1, h2⟩ := h
      obtain ⟨m, h3, h4, h5⟩ := ih j h1 h2
      exact ⟨m, h3, by omega, h5⟩
    · exact ⟨n, hn, Nat.le_refl _, fun j hj hp => h ⟨j, hj, hp⟩⟩
theorem ROk.set {L : List (Int × Int)} (h : ROk L) (z : Nat) {v : Int} (hv : -100000 ≤ v ∧ v ≤ 100000) : ROk (L.set z (v, v)) := by
  have key : ∀ j, j < L.length → (L.set z (v, v)).getD j (0, 0) = if z = j then (v, v) else L.getD j (0, 0) := fun j hj => by
    by_cases hz : z = j
    · subst hz; simp [List.getD_eq_getElem?_getD, hj]
    · rw [if_neg hz]; simp [List.getD_eq_getElem?_getD, List.getElem?_set_ne hz]
  refine ⟨by rw [List.length_set]; exact h.n, fun j hj => ?_, fun j hj => ?_⟩
  · rw [List.length_set] at hj
    rw [key j hj]
    split
    · exact ⟨hv, hv⟩
    · exact h.r j hj
  · rw [List.length_set] at hj
    rw [key j hj]
    split
    · exact Int.le_refl _
    · exact h.le j hj
def Lz (L : List (Int × Int)) (z : Nat) (lo : Int) : Nat → List (Int × Int)
  | 0 => L
  | k + 1 => L.set z (lo + k, lo + k)
theorem Lz_len (L : List (Int × Int)) (z : Nat) (lo : Int) : ∀ k, (Lz L z lo k).length = L.length
  | 0 => rfl
  | k + 1 => by simp [Lz]
theorem Lz_set (L : List (Int × Int)) (z : Nat) (lo : Int) : ∀ k, (Lz L z lo k).set z (lo + k, lo + k) = L.set z (lo + k, lo + k)
  | 0 => rfl
  | k + 1 => by simp [Lz, List.set_set]
def ansA (L : List (Int × Int)) (pk sl : Int) : Int := (jdg L pk sl (prs L.length) 1).1
def Dz (L : List (Int × Int)) (pk sl : Int) (z : Nat) : Prop := ∀ h, (L.getD z (0, 0)).1 ≤ h → h ≤ (L.getD z (0, 0)).2 → ansA (L.set z (h, h)) pk sl ≠ 0
set_option maxHeartbeats 8000000 in
theorem k35s {L : List (Int × Int)} {pk sl : Int} {zone : Nat} (hR : ROk L) (hz : zone < L.length) (hsl : 0 ≤ sl ∧ sl ≤ 200000) (k : Nat) (hk : (L.getD zone (0, 0)).1 + (k : Int) ≤ (L.getD zone (0, 0)).2) (K : Exit → St → Prop)
    (hX : ansA (L.set zone ((L.getD zone (0, 0)).1 + k, (L.getD zone (0, 0)).1 + k)) pk sl = 0 → ∀ τ : St, τ.get 6 = bl false → K .ret τ)
    (hN : ansA (L.set zone ((L.getD zone (0, 0)).1 + k, (L.getD zone (0, 0)).1 + k)) pk sl ≠ 0 → ∀ τ : St, 2 ≤ τ.heap.length → τ.keep 0 [1, 2, 3, 7, 8] [0, 1] = S35 false L zone pk sl ((L.getD zone (0, 0)).1 + ((k + 1 : Nat) : Int)) (Lz L zone (L.getD zone (0, 0)).1 (k + 1)) → K .normal τ) :
    T none Try.prog muts 41 0 c35l0 (S35 false L zone pk sl ((L.getD zone (0, 0)).1 + k) (Lz L zone (L.getD zone (0, 0)).1 k)) K := by
  have hr := hR.r zone hz
  have hv : -100000 ≤ (L.getD zone (0, 0)).1 + (k : Int) ∧ (L.getD zone (0, 0)).1 + (k : Int) ≤ 100000 := by omega
  have es := Lz_set L zone (L.getD zone (0, 0)).1 k
  have e2 : ((L.getD zone (0, 0)).1 + ((k + 1 : Nat) : Int)) = (L.getD zone (0, 0)).1 + (k : Int) + 1 := by push_cast; omega
  rw [e2] at hN
  have hRs := hR.set zone hv
  unfold ansA at hX hN
  rw [List.length_set] at hX hN
  obtain ⟨A, I, J, hj⟩ : ∃ A I J, jdg (L.set zone ((L.getD zone (0, 0)).1 + k, (L.getD zone (0, 0)).1 + k)) pk sl (prs L.length) 1 = (A, I, J) := ⟨_, _, _, rfl⟩
  rw [hj] at hX hN
  refine k35b (h := (L.getD zone (0, 0)).1 + k) (A := A) (I := I) (J := J) hz (Lz_len _ _ _ _) (by rw [es]; exact hRs) hsl hk hv (by rw [es]; exact hj) K hX (fun h τ h1 h2 => hN h τ h1 ?_)
  rw [h2, es]
  rfl
theorem S35_init (L : List (Int × Int)) (zone : Nat) (pk sl : Int) : S35 false L zone pk sl ((L.getD zone (0, 0)).1 + ((0 : Nat) : Int)) (Lz L zone (L.getD zone (0, 0)).1 0) = S35 false L zone pk sl (L.getD zone (0, 0)).1 L := by
  simp [S35, Lz]
set_option maxHeartbeats 8000000 in
theorem k35t {L : List (Int × Int)} {pk sl : Int} {zone : Nat} (hR : ROk L) (hz : zone < L.length) (hsl : 0 ≤ sl ∧ sl ≤ 200000) (hD : Dz L pk sl zone) : Fn Try.prog 35 [tlV pk sl, .sl false 2 (rgR L), i64 zone] (bl true) [] := by
  refine fn_of e35 ?_
  have hn := hR.n
  have h61 := k61 (nb := false) (L := L) (by omega) hn.1 rfl
  have g1 := rgR_get hz
  have hll := rgR_len L
  have hle := hR.le zone hz
  have hr := hR.r zone hz
  have hzn : (zone : Int) < (L.length : Int) := by omega
  have hst := PLift.up (k35s (pk := pk) (sl := sl) hR hz hsl)
  have hD' : ∀ k : Nat, (L.getD zone (0, 0)).1 + (k : Int) ≤ (L.getD zone (0, 0)).2 → ansA (L.set zone ((L.getD zone (0, 0)).1 + k, (L.getD zone (0, 0)).1 + k)) pk sl ≠ 0 := fun k hk => hD _ (by omega) hk
  replace hD' := PLift.up hD'
  have hS0 := PLift.up (S35_init L zone pk sl)
  have hend : ∀ K : Exit → St → Prop, ∀ k : Nat, (L.getD zone (0, 0)).2 < (L.getD zone (0, 0)).1 + (k : Int) → (∀ τ : St, K (.exit 0) τ) → T none Try.prog muts 41 0 c35l0 (S35 false L zone pk sl ((L.getD zone (0, 0)).1 + k) (Lz L zone (L.getD zone (0, 0)).1 k)) K := by
    intro K k hk hK
    have d1 : decide ((L.getD zone (0, 0)).1 + (k : Int) ≤ (L.getD zone (0, 0)).2) = false := decide_eq_false (by omega)
    replace hK := PLift.up hK
    generalize (L.getD zone (0, 0)).1 + (k : Int) = v at *
    clear hst hD' hS0 hD h61
    generalize Lz L zone (L.getD zone (0, 0)).1 k = M at *
    generalize (L.getD zone (0, 0)).1 = lo at *
    generalize (L.getD zone (0, 0)).2 = up at *
    clear hk hle hr
    unfold c35l0
    repeat' (first | (with_reducible first | refine T_seq ?_ | refine T_reg ?_ | refine T_skip ?_ | refine T_exit ?_ | refine T_block ?_ | refine T_cond_t rfl ?_ | refine T_cond_f rfl ?_ | refine T_ret ?_ | refine wif_intro ?_ (fun hc => ?_) | refine And.intro ?_ ?_ | intro hc) | simp (maxSteps := 4000000) only [wops_nil, wops_cons, wstep_none, wrun_mv, wrun_bin, wrun_load, wrun_faddr, wrun_iaddrS, wop, aop, ev, look, put_some, writes, ores_some, ores_ite_none, binV, thenK, value, cut, hget, mkAgg, List.length_cons, List.length_nil, List.take_succ_cons, List.take_nil, List.drop_succ_cons, List.drop_zero, List.append_nil, List.replicate_zero, Option.map_some, if_true, if_false, Nat.reduceEqDiff, Nat.reduceAdd, Nat.zero_add, reduceCtorEq, Bool.false_eq_true, eq_self, and_true, and_self, Int.toNat_natCast, *] | simp (disch := omega) only [getD_ints, wrapI] | omega)
    all_goals first | exact hK.down _
  replace hend := PLift.up hend
  obtain ⟨m, hm⟩ : ∃ m : Nat, (m : Int) = (L.getD zone (0, 0)).2 - (L.getD zone (0, 0)).1 + 1 := ⟨((L.getD zone (0, 0)).2 - (L.getD zone (0, 0)).1 + 1).toNat, by omega⟩
  clear hD hR
  unfold c35
  repeat' (first | (with_reducible first | refine T_seq ?_ | refine T_reg ?_ | refine T_skip ?_ | refine T_exit ?_ | refine T_block ?_ | refine T_cond_t rfl ?_ | refine T_cond_f rfl ?_ | (show wcall _ false (.lit (.func (.func 61) _ _)) _ _ _ _; refine wcall_fn (h61) rfl (by simp [plainL, plain, plainR_rg]) ?_) | refine T_ret ?_ | refine wif_intro ?_ (fun hc => ?_) | refine And.intro ?_ ?_ | intro hc) | simp (maxSteps := 4000000) only [wops_nil, wops_cons, wstep_none, wrun_call, wrun_mv, wrun_load, wrun_faddr, wrun_iaddrS, wrun_box, wop, aop, ev, look, put_some, writes, ores_some, ores_ite_none, thenK, value, cut, hget, AV.parts, isOne, mkAgg, ofValue_int, List.map_cons, List.map_nil, List.length_cons, List.length_nil, List.getElem?_cons_zero, List.set_cons_zero, List.take_succ_cons, List.take_zero, List.drop_zero, List.cons_append, List.nil_append, List.append_nil, List.replicate_zero, List.replicate_succ, List.zipIdx_cons, List.zipIdx_nil, List.all_cons, List.all_nil, Option.map_some, if_true, if_false, Nat.reduceEqDiff, Nat.reduceAdd, Nat.add_zero, Nat.zero_add, Nat.zero_ne_one, reduceCtorEq, Bool.and_true, Bool.false_eq_true, eq_self, true_and, and_true, and_self, freeze, lidsL, lids, List.flatMap_cons, List.flatMap_nil, List.all_cons, ren, renB, shiftρ, Int.toNat_natCast, renR_rgL, *] | simp (disch := omega) only [getD_ints, wrapI] | (with_reducible show wcall _ false (.lit (.func (.func 61) _ _)) _ _ _ _; refine wcall_fn (h61) ?_ ?_ ?_; (next => simp [rfyL, rfy, hget, ints, take_rfy, Int.toNat_natCast, plainR_rg, renR_rgL]); (next => simp [plainL, plain, plainR, Int.toNat_natCast, plainR_rg, renR_rgL])) | omega)
  refine T_for_keep [1, 2, 3, 7, 8] (fun k => S35 false L zone pk sl ((L.getD zone (0, 0)).1 + (k : Int)) (Lz L zone (L.getD zone (0, 0)).1 k)) m (fun _ => True) 0 ⟨[0, 1], by simp, by simp, by simp, ?_⟩ trivial (Nat.zero_le _) ?_
  · rw [hS0.down]
    simp [St.keep, get_mk, look, ren, renL, renR, renB, renO, keepρ, pos, hget, renR_rgL]
  intro k hk _
  by_cases hkm : k < m
  · refine hst.down k (by omega) _ (fun h => (hD'.down k (by omega) h).elim) (fun _ τ h1 h2 => ?_)
    exact ⟨⟨hkm, trivial⟩, [0, 1], by omega, by simp; omega, by simp, h2⟩
  · have hke : k = m := by omega
    refine hend.down _ k (by omega) fun τ => ?_
    simp only [blockK, thenK, reduceIte]
    clear hst hD' hS0 hend h61
    repeat' (first | (with_reducible first | refine T_seq ?_ | refine T_reg ?_ | refine T_skip ?_ | refine T_exit ?_ | refine T_block ?_ | refine T_cond_t rfl ?_ | refine T_cond_f rfl ?_ | refine T_ret ?_ | refine leave_of (.inr rfl) _ rfl ?_ | refine leave_of (.inl rfl) _ rfl ?_ | refine leaveA_of (.inr rfl) _ rfl ?_ | refine leaveA_of (.inl rfl) _ rfl ?_ | refine wif_intro ?_ (fun hc => ?_) | refine And.intro ?_ ?_ | intro hc) | simp (maxSteps := 4000000) only [wops_nil, wops_cons, wstep_none, wrun_mv, get_mk, wop, aop, ev, look, put_some, writes, ores_some, thenK, tupOf, List.append_nil, List.replicate_zero, if_true, eq_self, ren, *] | simp (disch := omega) only [getD_ints, wrapI] | omega)
    all_goals first | rfl
set_option maxHeartbeats 8000000 in
theorem k35f {L : List (Int × Int)} {pk sl : Int} {zone : Nat} (hR : ROk L) (hz : zone < L.length) (hsl : 0 ≤ sl ∧ sl ≤ 200000) (hD : ¬Dz L pk sl zone) : Fn Try.prog 35 [tlV pk sl, .sl false 2 (rgR L), i64 zone] (bl false) [] := by
  refine fn_of e35 ?_
  have hn := hR.n
  have h61 := k61 (nb := false) (L := L) (by omega) hn.1 rfl
  have g1 := rgR_get hz
  have hll := rgR_len L
  have hle := hR.le zone hz
  have hr := hR.r zone hz
  have hzn : (zone : Int) < (L.length : Int) := by omega
  have hst := PLift.up (k35s (pk := pk) (sl := sl) hR hz hsl)
  obtain ⟨m, ⟨hm1, hm2⟩, hm3⟩ : ∃ m : Nat, ((L.getD zone (0, 0)).1 + (m : Int) ≤ (L.getD zone (0, 0)).2 ∧ ansA (L.set zone ((L.getD zone (0, 0)).1 + m, (L.getD zone (0, 0)).1 + m)) pk sl = 0) ∧ ∀ j, j < m → ¬((L.getD zone (0, 0)).1 + (j : Int) ≤ (L.getD zone (0, 0)).2 ∧ ansA (L.set zone ((L.getD zone (0, 0)).1 + j, (L.getD zone (0, 0)).1 + j)) pk sl = 0) := by
    unfold Dz at hD
    simp only [Classical.not_forall, Classical.not_not] at hD
    obtain ⟨h, h1, h2, h3⟩ := hD
    obtain ⟨m, h4, _, h5⟩ := leastN (P := fun m : Nat => (L.getD zone (0, 0)).1 + (m : Int) ≤ (L.getD zone (0, 0)).2 ∧ ansA (L.set zone ((L.getD zone (0, 0)).1 + m, (L.getD zone (0, 0)).1 + m)) pk sl = 0) (h - (L.getD zone (0, 0)).1).toNat (by
      have e : (L.getD zone (0, 0)).1 + (((h - (L.getD zone (0, 0)).1).toNat : Nat) : Int) = h := by omega
      rw [e]; exact ⟨h2, h3⟩)
    exact ⟨m, h4, h5⟩
  replace hm2 := PLift.up hm2
  replace hm3 := PLift.up hm3
  have hS0 := PLift.up (S35_init L zone pk sl)
  clear hD hR
  unfold c35
  repeat' (first | (with_reducible first | refine T_seq ?_ | refine T_reg ?_ | refine T_skip ?_ | refine T_exit ?_ | refine T_block ?_ | refine T_cond_t rfl ?_ | refine T_cond_f rfl ?_ | (show wcall _ false (.lit (.func (.func 61) _ _)) _ _ _ _; refine wcall_fn (h61) rfl (by simp [plainL, plain, plainR_rg]) ?_) | refine T_ret ?_ | refine wif_intro ?_ (fun hc => ?_) | refine And.intro ?_ ?_ | intro hc) | simp (maxSteps := 4000000) only [wops_nil, wops_cons, wstep_none, wrun_call, wrun_mv, wrun_load, wrun_faddr, wrun_iaddrS, wrun_box, wop, aop, ev, look, put_some, writes, ores_some, ores_ite_none, thenK, value, cut, hget, AV.parts, isOne, mkAgg, ofValue_int, List.map_cons, List.map_nil, List.length_cons, List.length_nil, List.getElem?_cons_zero, List.set_cons_zero, List.take_succ_cons, List.take_zero, List.drop_zero, List.cons_append, List.nil_append, List.append_nil, List.replicate_zero, List.replicate_succ, List.zipIdx_cons, List.zipIdx_nil, List.all_cons, List.all_nil, Option.map_some, if_true, if_false, Nat.reduceEqDiff, Nat.reduceAdd, Nat.add_zero, Nat.zero_add, Nat.zero_ne_one, reduceCtorEq, Bool.and_true, Bool.false_eq_true, eq_self, true_and, and_true, and_self, freeze, lidsL, lids, List.flatMap_cons, List.flatMap_nil, List.all_cons, ren, renB, shiftρ, Int.toNat_natCast, renR_rgL, *] | simp (disch := omega) only [getD_ints, wrapI] | (with_reducible show wcall _ false (.lit (.func (.func 61) _ _)) _ _ _ _; refine wcall_fn (h61) ?_ ?_ ?_; (next => simp [rfyL, rfy, hget, ints, take_rfy, Int.toNat_natCast, plainR_rg, renR_rgL]); (next => simp [plainL, plain, plainR, Int.toNat_natCast, plainR_rg, renR_rgL])) | omega)
  refine T_for_keep [1, 2, 3, 7, 8] (fun k => S35 false L zone pk sl ((L.getD zone (0, 0)).1 + (k : Int)) (Lz L zone (L.getD zone (0, 0)).1 k)) m (fun _ => True) 0 ⟨[0, 1], by simp, by simp, by simp, ?_⟩ trivial (Nat.zero_le _) ?_
  · rw [hS0.down]
    simp [St.keep, get_mk, look, ren, renL, renR, renB, renO, keepρ, pos, hget, renR_rgL]
  intro k hk _
  by_cases hkm : k < m
  · refine hst.down k (by omega) _ (fun h => (hm3.down k hkm ⟨by omega, h⟩).elim) (fun _ τ h1 h2 => ?_)
    exact ⟨⟨hkm, trivial⟩, [0, 1], by omega, by simp; omega, by simp, h2⟩
  · have hke : k = m := by omega
    subst hke
    refine hst.down k hm1 _ (fun _ τ h1 => ?_) (fun h => (h hm2.down).elim)
    simp only [blockK, thenK]
    exact leave_of (.inr rfl) [bl false] (by simp [resL, resAV, h1]) ⟨rfl, rfl⟩
end Go.Abs
