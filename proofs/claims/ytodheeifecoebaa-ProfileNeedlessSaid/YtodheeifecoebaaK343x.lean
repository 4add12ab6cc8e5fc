import Derived.Test.YtodheeifecoebaaK342x
set_option linter.all false
set_option linter.unusedVariables false
set_option linter.unusedSimpArgs false
set_option linter.unusedSectionVars false
namespace Go.Abs
open Go.Proofs
/-! ProfileNeedless, whole -/
theorem kpL_len (l : List Rd) (out : List Nat) : ∀ k, (kpL l out k).length ≤ k
  | 0 => by simp [kpL]
  | k + 1 => by
    have := kpL_len l out k
    unfold kpL
    split
    · omega
    · simp; omega
abbrev S15D (z : Nat) (nil : Bool) (l L : List Rd) : St := ⟨[(0, i64 z), (1, rdgs nil l), (10, leV 0 L)], leB L⟩
set_option maxHeartbeats 8000000 in
theorem k15end {z : Nat} {nil : Bool} {l L : List Rd} {out : List Nat} (hl : l.length ≤ 100) (K : Exit → St → Prop) (hK : ∀ τ : St, τ.only [0, 1, 10] = ⟨[(0, i64 z), (1, rdgs nil l), (10, leV (qO out) L)], lBf out ++ leB L⟩ → K (.exit 0) τ) : T none Try.prog muts 103 0 c15l0 (S15k z nil l out L l.length) K := by
  have hrl := rows4_len l
  have d : decide ((l.length : Int) < (l.length : Int)) = false := by simp
  simp only [S15k]
  generalize leV (qO out) L = V at *
  generalize lBf out ++ leB L = X at *
  generalize lV 0 out = W at *
  replace hK := PLift.up hK
  unfold c15l0
  repeat' (first | (with_reducible first | refine T_seq ?_ | refine T_reg ?_ | refine T_skip ?_ | refine T_exit ?_ | refine T_block ?_ | refine T_cond_t rfl ?_ | refine T_cond_f rfl ?_ | refine T_ret ?_ | refine wif_intro ?_ (fun hc => ?_) | refine And.intro ?_ ?_ | intro hc) | simp (maxSteps := 4000000) only [wops_nil, wops_cons, wstep_none, wrun_mv, wrun_bin, wrun_len, wop, aop, ev, look, put_some, writes, ores_some, ores_map, ores_bind, binV, thenK, intV, lenOf, hget, List.append_nil, List.replicate_zero, Option.pure_def, Option.bind_eq_bind, Option.map_some, if_true, if_false, Nat.reduceEqDiff, Nat.zero_ne_one, reduceCtorEq, eq_self, *] | simp (disch := omega) only [getD_ints, wrapI] | omega)
  all_goals first | exact hK.down _ (by simp [St.only, get_mk, look])
set_option maxHeartbeats 8000000 in
theorem k15C {z : Nat} {nil : Bool} {l : List Rd} {out : List Nat} {t : ACode} (hl : l.length ≤ 100) (hol : out.length < 1000) (K : Exit → St → Prop) (hN : T none Try.prog muts 103 0 t (S15D z nil l (kpL l out l.length)) K) : T none Try.prog muts 103 0 (c15r2 t) (S15C z nil l out) K := by
  have hh := PLift.up (fun k hk hm K hT => k15h (z := z) (nil := nil) (l := l) (L := kpL l out k) (out := out) (k := k) hk hl hol hm K hT)
  have hn := PLift.up (fun k hk hm K hT => k15n (z := z) (nil := nil) (l := l) (L := kpL l out k) (out := out) (k := k) hk hl (by have := kpL_len l out k; omega) hol hm K hT)
  have he := PLift.up (fun K hK => k15end (z := z) (nil := nil) (l := l) (L := kpL l out l.length) (out := out) hl K hK)
  have s0 : S15k z nil l out (kpL l out 0) 0 = ⟨[(0, i64 z), (1, rdgs nil l), (5, lV 0 out), (10, .sl true 0 []), (11, i64 (0 : Nat))], lBf out⟩ := by simp [S15k, kpL, leV, leB]
  have hx : ∀ ts : List Nat, ∃ ids : List Nat, (∀ id ∈ ids, 0 ≤ id ∧ id < (lBf out).length) ∧ ids.Nodup ∧ ren (keepρ 0 ids) (lV 0 out) = lV 0 out ∧ (ids.map fun id => renB (keepρ 0 ids) (hget (lBf out) id)) = lBf out := by
    intro _
    by_cases ho : out = []
    · exact ⟨[], by simp, by simp, by simp [lV, ho, ren, renR], by simp [lBf, ho]⟩
    · refine ⟨[0], by simp [lBf, ho], by simp, by simp [lV, ho, ren, keepρ, pos], ?_⟩
      simp [lBf, ho, hget, renB, renR_iRw]
  obtain ⟨ids, x1, x2, x3, x4⟩ := hx []
  replace hN := PLift.up hN
  replace x4 := PLift.up x4
  replace x3 := PLift.up x3
  replace x1 := PLift.up x1
  replace x2 := PLift.up x2
  replace s0 := PLift.up s0
  unfold c15r2
  simp only [S15C]
  generalize hW : lV 0 out = W at *
  generalize hX : lBf out = X at *
  repeat' (first | (with_reducible first | refine T_seq ?_ | refine T_reg ?_ | refine T_skip ?_ | refine T_exit ?_ | refine T_block ?_ | refine T_cond_t rfl ?_ | refine T_cond_f rfl ?_ | refine T_ret ?_ | refine wif_intro ?_ (fun hc => ?_) | refine And.intro ?_ ?_ | intro hc) | simp (maxSteps := 4000000) only [wops_nil, wops_cons, wstep_none, wrun_mv, wop, aop, ev, put_some, writes, ores_some, thenK, List.append_nil, List.replicate_zero, *] | simp (disch := omega) only [getD_ints, wrapI] | omega)
  refine T_for_keep [0, 1, 5, 10, 11] (fun k => S15k z nil l out (kpL l out k) k) l.length (fun _ => True) 0 ⟨ids, Nat.zero_le _, x1.down, x2.down, ?_⟩ trivial (Nat.zero_le _) ?_
  · rw [s0.down]
    have y4 := x4.down
    have y3 := x3.down
    simp [St.keep, get_mk, look, ren, renR, y3, y4, renR_rows4]
  intro k hk _
  by_cases hkn : k < l.length
  · by_cases hm : k ∈ out
    · have e : kpL l out (k + 1) = kpL l out k := by rw [kpL, if_pos hm]
      refine hh.down k hkn hm _ fun τ ⟨ids, h1, h2, h3⟩ => ⟨⟨hkn, trivial⟩, ids, Nat.zero_le _, h1, h2, ?_⟩
      rw [e]; exact h3
    · have e : kpL l out (k + 1) = kpL l out k ++ [l.getD k rd0] := by rw [kpL, if_neg hm]
      refine hn.down k hkn hm _ fun τ ⟨ids, h1, h2, h3⟩ => ⟨⟨hkn, trivial⟩, ids, Nat.zero_le _, h1, h2, ?_⟩
      rw [e]; exact h3
  · have hke : k = l.length := by omega
    subst hke
    refine he.down _ fun τ h1 => ?_
    simp only [blockK, thenK, reduceIte]
    refine T_weak (weak_only [0, 1, 10]) ?_
    rw [h1]
    clear hh hn he hx x4 x1 s0
    subst hX
    generalize kpL l out l.length = L at *
    by_cases hL : L = []
    · refine T_keepN [0, 1, 10] [] (by simp) (by simp) ?_ hN.down
      simp [St.keep, get_mk, look, ren, renR, renR_rows4, leV, leB, hL]
    · refine T_keepN [0, 1, 10] [qO out] ?_ (by simp) ?_ hN.down
      · by_cases ho : out = [] <;> simp [qO, lBf, leB, ho, hL]
      · by_cases ho : out = []
        · simp [St.keep, get_mk, look, ren, renB, keepρ, pos, hget, renR_rows4, leV, leB, lBf, qO, hL, ho]
        · simp [St.keep, get_mk, look, ren, renB, keepρ, pos, hget, renR_rows4, leV, leB, lBf, qO, hL, ho]
end Go.Abs
