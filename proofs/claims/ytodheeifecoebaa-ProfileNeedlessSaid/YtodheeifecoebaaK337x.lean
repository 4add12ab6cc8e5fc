import Derived.Test.YtodheeifecoebaaK336x
set_option linter.all false
set_option linter.unusedVariables false
set_option linter.unusedSimpArgs false
set_option linter.unusedSectionVars false
namespace Go.Abs
open Go.Proofs
/-! Needless of the document, whole -/
set_option maxHeartbeats 8000000 in
theorem k71r {z k : Nat} {nl : Bool} {l : List Rd} (h : NC z l) (hk : k < l.length) (K : Exit → St → Prop)
    (hT : ∀ τ : St, (∃ ids : List Nat, (∀ id ∈ ids, 0 ≤ id ∧ id < τ.heap.length) ∧ ids.Nodup ∧ τ.keep 0 [0, 1, 5, 6, 7] ids = S71 z nl l (nd (imp z) l (k + 1)).1 (nd (imp z) l (k + 1)).2 (k + 1)) → K .normal τ) : T none Try.prog muts 77 0 c71l0 (S71 z nl l (nd (imp z) l k).1 (nd (imp z) l k).2 k) K := by
  obtain ⟨hz, hl, hrd⟩ := checkR_ok h.1
  have hle := nd_len (imp z) l (k := k) (by omega)
  have hNC := nd_nc h (imp z) (k := k) (by omega)
  have hs : NC z ((nd (imp z) l k).1.eraseIdx (l.length - (k + 1))) := hNC.sub (fun r hr => mem_erase hr) (by rw [List.length_eraseIdx]; split <;> omega)
  have h70 := (k70 (nil := false) hs.1).1 hs.2
  have hM := toR_sq hs.stt.sq
  have hg := h.gd (i := l.length - (k + 1)) (by omega)
  have hol : (nd (imp z) l k).2.length ≤ 100 := by
    have : ∀ j, (nd (imp z) l j).2.length ≤ j := by
      intro j
      induction j with
      | zero => simp [nd]
      | succ j ih =>
        unfold nd
        split
        · simp; omega
        · omega
    have := this k
    omega
  have himp := (imp_eq hs hg).symm
  have hndT : imp z ((nd (imp z) l k).1.eraseIdx (l.length - (k + 1))) (l.getD (l.length - (k + 1)) rd0) = true → nd (imp z) l (k + 1) = ((nd (imp z) l k).1.eraseIdx (l.length - (k + 1)), (l.length - (k + 1)) :: (nd (imp z) l k).2) := fun hc => by rw [nd, if_pos hc]
  have hndF : ¬ imp z ((nd (imp z) l k).1.eraseIdx (l.length - (k + 1))) (l.getD (l.length - (k + 1)) rd0) = true → nd (imp z) l (k + 1) = nd (imp z) l k := fun hc => by rw [nd, if_neg hc]
  unfold imp2 at himp
  generalize nd (imp z) l k = p at *
  obtain ⟨L, out⟩ := p
  dsimp only at *
  by_cases hx : mget (toR (tb z (L.eraseIdx (l.length - (k + 1))))) (l.getD (l.length - (k + 1)) rd0).a.toNat (l.getD (l.length - (k + 1)) rd0).b.toNat ≤ (l.getD (l.length - (k + 1)) rd0).hi
  · by_cases hy : mget (toR (tb z (L.eraseIdx (l.length - (k + 1))))) (l.getD (l.length - (k + 1)) rd0).b.toNat (l.getD (l.length - (k + 1)) rd0).a.toNat ≤ -(l.getD (l.length - (k + 1)) rd0).lo
    · rw [hndT (by rw [himp, decide_eq_true hx, decide_eq_true hy]; rfl)] at hT
      by_cases ho : out = []
      · subst ho
        exact k71T hk hl (by omega) (by omega) (by omega) (by omega) h70 hM hg hx hy K hT
      · exact k71oT hk hl (by omega) (by omega) (by omega) (by omega) ho hol h70 hM hg hx hy K hT
    · rw [hndF (by rw [himp, decide_eq_false hy]; simp)] at hT
      by_cases ho : out = []
      · subst ho
        exact k71G hk hl (by omega) (by omega) (by omega) (by omega) h70 hM hg hx hy K hT
      · exact k71oG hk hl (by omega) (by omega) (by omega) (by omega) ho hol h70 hM hg hx hy K hT
  · rw [hndF (by rw [himp, decide_eq_false hx]; simp)] at hT
    by_cases ho : out = []
    · subst ho
      exact k71F hk hl (by omega) (by omega) (by omega) (by omega) h70 hM hg hx K hT
    · exact k71oF hk hl (by omega) (by omega) (by omega) (by omega) ho hol h70 hM hg hx K hT
set_option maxHeartbeats 8000000 in
theorem k71end {z : Nat} {nl : Bool} {l L : List Rd} {out : List Nat} (hl : l.length ≤ 100) (K : Exit → St → Prop) (hK : ∀ τ : St, τ.only [5] = ⟨[(5, oV 1 out)], .cells (decide (out = [])) false 4 (rows4 L) :: eB out⟩ → K (.exit 0) τ) : T none Try.prog muts 77 0 c71l0 (S71 z nl l L out l.length) K := by
  have e : (l.length : Int) - 1 - (l.length : Int) = -1 := by omega
  have d : decide ((-1 : Int) ≥ 0) = false := by decide
  simp only [S71, e]
  generalize oV 1 out = V at *
  generalize eB out = X at *
  generalize rows4 L = R at *
  generalize decide (out = []) = B at *
  replace hK := PLift.up hK
  unfold c71l0
  repeat' (first | ((with_reducible refine T_calm ?_ ?_); rfl) | (with_reducible first | refine T_seq ?_ | refine T_reg ?_ | refine T_draw ?_ | refine T_skip ?_ | refine T_exit ?_ | refine T_block ?_ | refine T_cond_t rfl ?_ | refine T_cond_f rfl ?_ | refine wdW_cons rfl ?_ | refine T_ret ?_ | refine wif_intro ?_ (fun hc => ?_) | refine And.intro ?_ ?_ | intro hc) | simp (maxSteps := 4000000) only [wops_nil, wops_cons, wstep_none, wrun_mv, wrun_bin, wop, aop, ev, look, put_some, writes, ores_some, binV, thenK, List.length_cons, List.append_nil, List.replicate_zero, Option.map_some, if_true, if_false, Nat.reduceEqDiff, reduceCtorEq, eq_self, Int.reduceNeg, *] | simp (disch := omega) only [getD_ints, wrapI] | omega)
  all_goals first | exact hK.down _ (by simp [St.only, get_mk, look])
set_option maxHeartbeats 8000000 in
theorem k71 {z : Nat} {nl : Bool} {l : List Rd} (h : NC z l) : Fn Try.prog 71 [i64 z, rdgs nl l] (lV 0 (ndO z l)) (lB (ndO z l)) := by
  refine fn_of e71 ?_
  obtain ⟨hz, hl, hrd⟩ := checkR_ok h.1
  have hrl := rows4_len l
  have hr := PLift.up (fun k hk K hT => k71r (nl := nl) (k := k) h hk K hT)
  have he := PLift.up (fun K hK => k71end (z := z) (nl := nl) (L := (nd (imp z) l l.length).1) (out := (nd (imp z) l l.length).2) hl K hK)
  have ewd : IntKind.i64.wrap ((l.length : Int) - 1) = (l.length : Int) - 1 := wrapI (by omega) (by omega)
  have hl0 : l.length * 32 ≤ 140737488355328 := by omega
  clear h hrd
  unfold c71
  repeat' (first | ((with_reducible refine T_calm ?_ ?_); rfl) | (with_reducible first | refine T_seq ?_ | refine T_reg ?_ | refine T_draw ?_ | refine T_skip ?_ | refine T_exit ?_ | refine T_block ?_ | refine T_cond_t rfl ?_ | refine T_cond_f rfl ?_ | refine wdW_cons rfl ?_ | refine T_ret ?_ | refine wif_intro ?_ (fun hc => ?_) | refine And.intro ?_ ?_ | intro hc) | simp (maxSteps := 4000000) only [wops_nil, wops_cons, wstep_none, wrun_mv, wrun_bin, wrun_len, wrun_bslice, wrun_app, wop, aop, ev, look, put_some, writes, ores_some, ores_map, ores_bind, binV, thenK, intV, lenOf, elsOf, szOk, hget, fillA, List.flatten_nil, rowsOf, List.map_cons, List.map_nil, List.length_cons, List.length_nil, List.getElem?_cons_zero, List.getElem?_cons_succ, List.set_cons_zero, List.set_cons_succ, List.take_nil, List.drop_nil, List.nil_append, List.append_nil, List.replicate_zero, List.replicate_succ, List.zipIdx_cons, List.zipIdx_nil, Option.pure_def, Option.bind_eq_bind, Option.getD_some, Option.map_some, if_true, if_false, Nat.reduceEqDiff, Nat.reduceAdd, Nat.add_zero, Nat.zero_add, Nat.sub_self, Nat.le_refl, Nat.zero_ne_one, reduceCtorEq, Bool.false_and, Bool.or_true, eq_self, true_and, and_self, beq_self_eq_true, *] | simp (disch := omega) only [getD_ints, wrapI] | omega)
  refine T_for_keep [0, 1, 5, 6, 7] (fun k => S71 z nl l (nd (imp z) l k).1 (nd (imp z) l k).2 k) l.length (fun _ => True) 0 ⟨[1], by simp, by simp, by simp, ?_⟩ trivial (Nat.zero_le _) ?_
  · simp [St.keep, get_mk, look, ren, renR, renB, renO, keepρ, pos, hget, S71, nd, oV, eB, renR_rows4]
  intro k hk _
  by_cases hkn : k < l.length
  · exact hr.down k hkn _ fun τ ⟨ids, h1, h2, h3⟩ => ⟨⟨hkn, trivial⟩, ids, Nat.zero_le _, h1, h2, h3⟩
  · have hke : k = l.length := by omega
    subst hke
    refine he.down _ fun τ h1 => ?_
    simp only [blockK, thenK, reduceIte]
    refine T_weak (weak_only [5]) ?_
    rw [h1]
    clear hr he
    show T none Try.prog muts 77 0 _ _ (leave 0 _ fun r' H' => r' = lV 0 (nd (imp z) l l.length).2 ∧ H' = lB (nd (imp z) l l.length).2)
    generalize (nd (imp z) l l.length).2 = out at *
    generalize (nd (imp z) l l.length).1 = L at *
    by_cases ho : out = []
    · subst ho
      simp only [oV, eB, lV, lB, if_true]
      repeat' (first | ((with_reducible refine T_calm ?_ ?_); rfl) | (with_reducible first | refine T_seq ?_ | refine T_reg ?_ | refine T_draw ?_ | refine T_skip ?_ | refine T_exit ?_ | refine T_block ?_ | refine T_cond_t rfl ?_ | refine T_cond_f rfl ?_ | refine wdW_cons rfl ?_ | refine T_ret ?_ | refine wif_intro ?_ (fun hc => ?_) | refine And.intro ?_ ?_ | intro hc) | simp (maxSteps := 4000000) only [wops_nil, wops_cons, wstep_none, wrun_mv, wop, aop, ev, look, put_some, writes, ores_some, thenK, List.length_cons, List.length_nil, List.append_nil, List.replicate_zero, if_true, if_false, Nat.reduceEqDiff, Nat.zero_add, eq_self, decide_true, *] | simp (disch := omega) only [getD_ints, wrapI] | omega)
      exact leave_of (.inr rfl) [.sl true 0 []] (by simp [resL, resAV, get_mk, look]) ⟨rfl, rfl⟩
    · simp only [oV, eB, lV, lB, if_neg ho]
      repeat' (first | ((with_reducible refine T_calm ?_ ?_); rfl) | (with_reducible first | refine T_seq ?_ | refine T_reg ?_ | refine T_draw ?_ | refine T_skip ?_ | refine T_exit ?_ | refine T_block ?_ | refine T_cond_t rfl ?_ | refine T_cond_f rfl ?_ | refine wdW_cons rfl ?_ | refine T_ret ?_ | refine wif_intro ?_ (fun hc => ?_) | refine And.intro ?_ ?_ | intro hc) | simp (maxSteps := 4000000) only [wops_nil, wops_cons, wstep_none, wrun_mv, wop, aop, ev, look, put_some, writes, ores_some, thenK, List.length_cons, List.length_nil, List.append_nil, List.replicate_zero, if_true, if_false, Nat.reduceEqDiff, Nat.reduceAdd, Nat.zero_add, eq_self, decide_false, *] | simp (disch := omega) only [getD_ints, wrapI] | omega)
      refine leave_ids (.inr rfl) [.lsl 1 0 out.length] [1] (by simp [resL, resAV, get_mk, look]) (by simp) (by simp) ⟨?_, ?_⟩
      · simp [tupOf, ren, keepρ, pos]
      · simp only [List.map_cons, List.map_nil, hget, List.getElem?_cons_succ, List.getElem?_cons_zero, Option.getD_some, renB, renR_iRw]
end Go.Abs
