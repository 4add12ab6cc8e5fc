import Derived.Test.YtdedhipkncagjaaK516
set_option linter.all false
set_option linter.unusedVariables false
set_option linter.unusedSimpArgs false
set_option linter.unusedSectionVars false
namespace Go.Abs
open Go.Proofs
/-! TopNeverDigs: the loop of the sessions -/
set_option maxHeartbeats 8000000 in
theorem k4sess {n1 n2 n3 nil : Bool} {l : List Sk} {s : List Ss} {b : ByteArray} {hs ws : List Int} {K : Exit → St → Prop} {bb : Nat} (hV : StV l nil 2 (skR l)) (hl : l.length < 1000000) (hr : Rt l hs ws) (hbz : b.size < 1000000) (hs9 : s.length ≤ 100)
    (hN : ∀ (τ : St) S sv wv, Inv nil l n3 s b hs ws S sv wv s.length τ.heap → (τ.only [1, 2, 3, 10, 11]).slots = [(1, ints n1 hs), (2, ints n2 ws), (3, .loc 0 0 0), (10, sv), (11, wv)] → K (.exit 4) τ)
    (hR : ∀ τ : St, τ.get 6 = bl true → K .ret τ)
    {σ : St} (h0 : (σ.only [1, 2, 3, 8, 10, 11, 12]).slots = SLs n1 n2 hs ws (.sl true 0 []) (.sl true 0 []) 0) (hI0 : Inv nil l n3 s b hs ws [] (.sl true 0 []) (.sl true 0 []) 0 σ.heap) :
    T none Try.prog muts 217 bb (.loop c4l2) σ K := by
  refine T_loop_only [1, 2, 3, 8, 10, 11, 12] (fun m st => ∃ i S sv wv H, Inv nil l n3 s b hs ws S sv wv i H ∧ i ≤ s.length ∧ m = s.length - i ∧ st = ⟨SLs n1 n2 hs ws sv wv i, H⟩) s.length ?_ ?_
  · exact ⟨0, [], _, _, σ.heap, hI0, Nat.zero_le _, rfl, by rw [← h0]; rfl⟩
  clear h0 hI0
  rintro m st ⟨i, S, sv, wv, H, hI, hi, rfl, rfl⟩
  have hll := ssR_len s
  obtain ⟨o, a0⟩ := hI.m.h0
  by_cases hin : i < s.length
  · have hic : (i : Int) < (s.length : Int) := by omega
    have ew : IntKind.i64.wrap ((i : Int) + 1) = ((i + 1 : Nat) : Int) := by rw [wrapI (by omega) (by omega)]; push_cast; rfl
    have hrd := PLift.up (fun K hN hR => k4round (n1 := n1) (n2 := n2) (bb := bb) (K := K) hV hl hr hbz hI hin hs9 hN hR)
    replace hR := PLift.up hR
    clear hN hV hl hr hI
    rw [c4l2_cut]
    repeat' (first | ((with_reducible refine T_calm ?_ ?_); rfl) | (with_reducible first | refine T_seq ?_ | refine T_reg ?_ | refine T_draw ?_ | refine T_skip ?_ | refine T_exit ?_ | refine T_block ?_ | refine T_cond_t rfl ?_ | refine T_cond_f rfl ?_ | refine wdW_cons rfl ?_ | refine T_ret ?_ | refine wif_intro ?_ (fun hc => ?_) | refine And.intro ?_ ?_ | intro hc) | simp (maxSteps := 4000000) only [wops_nil, wops_cons, wstep_none, wrun_mv, wrun_bin, wrun_load, wrun_faddr, wrun_len, wop, aop, ev, look, put_some, writes, ores_some, ores_map, ores_bind, binV, thenK, intV, lenOf, value, cut, hget, mkAgg, List.length_cons, List.length_nil, List.take_succ_cons, List.take_zero, List.drop_succ_cons, List.drop_zero, List.append_nil, List.replicate_zero, List.getD_cons_zero, Option.pure_def, Option.bind_eq_bind, Option.getD_some, Option.map_some, if_true, if_false, Nat.reduceEqDiff, Nat.zero_add, reduceCtorEq, Bool.false_eq_true, eq_self, decide_true, *] | simp (disch := omega) only [getD_ints, wrapI] | omega)
    refine T_onlyU [1, 2, 3, 8, 10, 11, 12] rfl (hrd.down _ ?_ ?_)
    · intro τ S' sv' wv' hI' hτ
      simp only [blockK, thenK, if_true, and_self]
      refine T_onlyU [1, 2, 3, 8, 10, 11, 12] (S := ⟨SLs n1 n2 hs ws sv' wv' i, τ.heap⟩) (by show (⟨(τ.only [1, 2, 3, 8, 10, 11, 12]).slots, τ.heap⟩ : St) = _; rw [hτ]) ?_
      have fin := PLift.up hI'
      clear hrd hI' hτ a0
      generalize τ.heap = H' at *
      repeat' (first | ((with_reducible refine T_calm ?_ ?_); rfl) | (with_reducible first | refine T_seq ?_ | refine T_reg ?_ | refine T_draw ?_ | refine T_skip ?_ | refine T_exit ?_ | refine T_block ?_ | refine T_cond_t rfl ?_ | refine T_cond_f rfl ?_ | refine wdW_cons rfl ?_ | refine T_ret ?_ | refine wif_intro ?_ (fun hc => ?_) | refine And.intro ?_ ?_ | intro hc) | simp (maxSteps := 4000000) only [wops_nil, wops_cons, wstep_none, wrun_mv, wrun_bin, wop, aop, ev, look, put_some, writes, ores_some, binV, thenK, List.append_nil, List.replicate_zero, Option.map_some, if_true, if_false, Nat.reduceEqDiff, reduceCtorEq, eq_self, *] | simp (disch := omega) only [getD_ints, wrapI] | omega)
      exact ⟨s.length - (i + 1), by omega, i + 1, S', sv', wv', H', fin.down, by omega, rfl, by simp [St.only, get_mk, look]⟩
    · intro τ h6
      exact hR.down τ h6
  · have hie : i = s.length := by omega
    subst hie
    have f := PLift.up (fun τ h1 h2 => hN τ S sv wv h1 h2)
    have hI2 := PLift.up hI
    have hkk : decide ((s.length : Int) < (s.length : Int)) = false := by simp
    clear hN hR hV hl hr hI hi hin
    rw [c4l2_cut]
    repeat' (first | ((with_reducible refine T_calm ?_ ?_); rfl) | (with_reducible first | refine T_seq ?_ | refine T_reg ?_ | refine T_draw ?_ | refine T_skip ?_ | refine T_exit ?_ | refine T_block ?_ | refine T_cond_t rfl ?_ | refine T_cond_f rfl ?_ | refine wdW_cons rfl ?_ | refine T_ret ?_ | refine wif_intro ?_ (fun hc => ?_) | refine And.intro ?_ ?_ | intro hc) | simp (maxSteps := 4000000) only [wops_nil, wops_cons, wstep_none, wrun_mv, wrun_bin, wrun_load, wrun_faddr, wrun_len, wop, aop, ev, look, put_some, writes, ores_some, ores_map, ores_bind, binV, thenK, intV, lenOf, value, cut, hget, mkAgg, List.length_cons, List.length_nil, List.take_succ_cons, List.take_zero, List.drop_succ_cons, List.drop_zero, List.append_nil, List.replicate_zero, List.getD_cons_zero, Option.pure_def, Option.bind_eq_bind, Option.getD_some, Option.map_some, if_true, if_false, Nat.reduceEqDiff, Nat.zero_add, Nat.sub_self, reduceCtorEq, Bool.false_eq_true, eq_self, false_and, Nat.not_lt_zero, *] | simp (disch := omega) only [getD_ints, wrapI] | omega)
    exact f.down _ hI2.down (by simp [St.only, get_mk, look])
end Go.Abs
