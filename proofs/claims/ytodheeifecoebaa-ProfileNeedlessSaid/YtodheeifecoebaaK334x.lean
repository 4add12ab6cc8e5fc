import Derived.Test.YtodheeifecoebaaK333x
import Derived.Test.YtodheeifecoebaaK98x
set_option linter.all false
set_option linter.unusedVariables false
set_option linter.unusedSimpArgs false
set_option linter.unusedSectionVars false
namespace Go.Abs
open Go.Proofs
/-! Needless of the program, whole -/
theorem NC.k96 {z : Nat} {s : List Rd} (h : NC z s) : Fn Try.prog 96 [i64 z, rdgs false s] (.lsl 0 0 z) (tabB (tb z s) z) := by
  obtain ⟨hz, hl, hrd⟩ := checkR_ok h.1
  obtain ⟨hA, hN, hok⟩ := arcs_ok hrd
  obtain ⟨P, hp, hb⟩ := h.pot
  exact _root_.Go.Abs.k96 hl hok (by omega) rfl hA (potR_iff.2 hp) hb
theorem NC.gd {z : Nat} {l : List Rd} (h : NC z l) {i : Nat} (hi : i < l.length) : gRd z (l.getD i rd0) := by
  obtain ⟨hz, hl, hrd⟩ := checkR_ok h.1
  exact rdErr_iff.1 hrd _ (rd_mem hi)
set_option maxHeartbeats 8000000 in
theorem k69r {z k : Nat} {l : List Rd} (h : NC z l) (hk : k < l.length) (K : Exit → St → Prop)
    (hT : ∀ τ : St, (∃ ids : List Nat, (∀ id ∈ ids, 0 ≤ id ∧ id < τ.heap.length) ∧ ids.Nodup ∧ τ.keep 0 [0, 1, 8, 9, 10] ids = S69 z l (nd (imp z) l (k + 1)).1 (nd (imp z) l (k + 1)).2 (k + 1)) → K .normal τ) : T none Try.prog muts 82 0 c69l0 (S69 z l (nd (imp z) l k).1 (nd (imp z) l k).2 k) K := by
  obtain ⟨hz, hl, hrd⟩ := checkR_ok h.1
  have hle := nd_len (imp z) l (k := k) (by omega)
  have hNC := nd_nc h (imp z) (k := k) (by omega)
  have hs : NC z ((nd (imp z) l k).1.eraseIdx (l.length - (k + 1))) := hNC.sub (fun r hr => mem_erase hr) (by rw [List.length_eraseIdx]; split <;> omega)
  have h96 := hs.k96
  have hM := hs.stt.sq
  have hg := h.gd (i := l.length - (k + 1)) (by omega)
  have hol : (nd (imp z) l k).2.length ≤ 100 := by
    have : ∀ j, (nd (imp z) l j).2.length ≤ j := by
      intro j
      induction j with
      | zero => simp [nd]
      | succ j ih =>
        unfold nd
        split
        · simp; omega
        · omega
    have := this k
    omega
  have hndT : imp z ((nd (imp z) l k).1.eraseIdx (l.length - (k + 1))) (l.getD (l.length - (k + 1)) rd0) = true → nd (imp z) l (k + 1) = ((nd (imp z) l k).1.eraseIdx (l.length - (k + 1)), (l.length - (k + 1)) :: (nd (imp z) l k).2) := fun hc => by rw [nd, if_pos hc]
  have hndF : ¬ imp z ((nd (imp z) l k).1.eraseIdx (l.length - (k + 1))) (l.getD (l.length - (k + 1)) rd0) = true → nd (imp z) l (k + 1) = nd (imp z) l k := fun hc => by rw [nd, if_neg hc]
  generalize nd (imp z) l k = p at *
  obtain ⟨L, out⟩ := p
  dsimp only at *
  have himp : imp z (L.eraseIdx (l.length - (k + 1))) (l.getD (l.length - (k + 1)) rd0) = (decide (mget (tb z (L.eraseIdx (l.length - (k + 1)))) (l.getD (l.length - (k + 1)) rd0).a.toNat (l.getD (l.length - (k + 1)) rd0).b.toNat ≤ (l.getD (l.length - (k + 1)) rd0).hi) && decide (mget (tb z (L.eraseIdx (l.length - (k + 1)))) (l.getD (l.length - (k + 1)) rd0).b.toNat (l.getD (l.length - (k + 1)) rd0).a.toNat ≤ -(l.getD (l.length - (k + 1)) rd0).lo)) := rfl
  by_cases hx : mget (tb z (L.eraseIdx (l.length - (k + 1)))) (l.getD (l.length - (k + 1)) rd0).a.toNat (l.getD (l.length - (k + 1)) rd0).b.toNat ≤ (l.getD (l.length - (k + 1)) rd0).hi
  · by_cases hy : mget (tb z (L.eraseIdx (l.length - (k + 1)))) (l.getD (l.length - (k + 1)) rd0).b.toNat (l.getD (l.length - (k + 1)) rd0).a.toNat ≤ -(l.getD (l.length - (k + 1)) rd0).lo
    · rw [hndT (by rw [himp, decide_eq_true hx, decide_eq_true hy]; rfl)] at hT
      by_cases ho : out = []
      · subst ho
        exact k69T hk hl (by omega) (by omega) (by omega) (by omega) h96 hM hg hx hy K hT
      · exact k69oT hk hl (by omega) (by omega) (by omega) (by omega) ho hol h96 hM hg hx hy K hT
    · rw [hndF (by rw [himp, decide_eq_false hy]; simp)] at hT
      by_cases ho : out = []
      · subst ho
        exact k69G hk hl (by omega) (by omega) (by omega) (by omega) h96 hM hg hx hy K hT
      · exact k69oG hk hl (by omega) (by omega) (by omega) (by omega) ho hol h96 hM hg hx hy K hT
  · rw [hndF (by rw [himp, decide_eq_false hx]; simp)] at hT
    by_cases ho : out = []
    · subst ho
      exact k69F hk hl (by omega) (by omega) (by omega) (by omega) h96 hM hg hx K hT
    · exact k69oF hk hl (by omega) (by omega) (by omega) (by omega) ho hol h96 hM hg hx K hT
set_option maxHeartbeats 8000000 in
theorem k131n {H : List Blk} : ACall Try.prog 131 [.sl true 0 []] H fun _ H' => H' = H := by
  refine envOf_all e131 ?_
  unfold c131
  repeat' (first | ((with_reducible refine T_calm ?_ ?_); rfl) | (with_reducible first | refine T_seq ?_ | refine T_reg ?_ | refine T_draw ?_ | refine T_skip ?_ | refine T_exit ?_ | refine T_block ?_ | refine T_cond_t rfl ?_ | refine T_cond_f rfl ?_ | refine wdW_cons rfl ?_ | refine T_ret ?_ | refine wif_intro ?_ (fun hc => ?_) | refine And.intro ?_ ?_ | intro hc) | simp (maxSteps := 4000000) only [wops_nil, wops_cons, wstep_none, wrun_mv, wrun_bin, wrun_len, wop, aop, ev, look, put_some, writes, ores_some, ores_map, ores_bind, binV, thenK, intV, lenOf, hget, List.map_cons, List.map_nil, List.length_nil, List.append_nil, List.replicate_zero, List.zipIdx_cons, List.zipIdx_nil, Option.pure_def, Option.bind_eq_bind, Option.map_some, if_true, if_false, Nat.reduceEqDiff, Nat.zero_add, reduceCtorEq, eq_self, *] | simp (disch := omega) only [wrapI] | omega)
  refine T_for [0, 2, 3] (fun k => ⟨[(0, .sl true 0 []), (2, i64 0), (3, i64 (-1))], H⟩) 0 (fun _ => True) 0 ?_ trivial (Nat.zero_le _) ?_
  · simp [St.only, get_mk, look]
  intro k hk _
  have d : decide ((0 : Int) < -1) = false := by decide
  unfold c131l0
  repeat' (first | ((with_reducible refine T_calm ?_ ?_); rfl) | (with_reducible first | refine T_seq ?_ | refine T_reg ?_ | refine T_draw ?_ | refine T_skip ?_ | refine T_exit ?_ | refine T_block ?_ | refine T_cond_t rfl ?_ | refine T_cond_f rfl ?_ | refine wdW_cons rfl ?_ | refine T_ret ?_ | refine wif_intro ?_ (fun hc => ?_) | refine And.intro ?_ ?_ | intro hc) | simp (maxSteps := 4000000) only [wops_nil, wops_cons, wstep_none, wrun_mv, wrun_bin, wop, aop, ev, look, put_some, writes, ores_some, binV, thenK, blockK, List.append_nil, List.replicate_zero, Option.map_some, if_true, if_false, Nat.reduceEqDiff, reduceCtorEq, eq_self, and_true, false_and, Int.reduceNeg, Nat.not_lt_zero, *] | simp (disch := omega) only [getD_ints, wrapI] | omega)
  all_goals first | exact ⟨_, rfl, rfl⟩
def lV (id : Nat) (out : List Nat) : AV := if out = [] then .sl true 0 [] else .lsl id 0 out.length
def lB (out : List Nat) : List Blk := if out = [] then [] else [.cells true false 1 (iRw (out.map fun i : Nat => (i : Int)))]
def ndO (z : Nat) (l : List Rd) : List Nat := (nd (imp z) l l.length).2
set_option maxHeartbeats 8000000 in
theorem k69end {z : Nat} {l L : List Rd} {out : List Nat} (hl : l.length ≤ 100) (hol : out.length ≤ 1000) (K : Exit → St → Prop) (hK : ∀ τ : St, τ.only [9] = ⟨[(9, oV 1 out)], .cells (decide (l.length = 0)) false 4 (rows4 L ++ J69 out) :: oB out⟩ → K (.exit 0) τ) : T none Try.prog muts 82 0 c69l0 (S69 z l L out l.length) K := by
  have e : (l.length : Int) - 1 - (l.length : Int) = -1 := by omega
  have d : decide ((-1 : Int) ≥ 0) = false := by decide
  simp only [S69, e]
  generalize oV 1 out = V at *
  generalize oB out = X at *
  generalize rows4 L ++ J69 out = R at *
  replace hK := PLift.up hK
  unfold c69l0
  repeat' (first | ((with_reducible refine T_calm ?_ ?_); rfl) | (with_reducible first | refine T_seq ?_ | refine T_reg ?_ | refine T_draw ?_ | refine T_skip ?_ | refine T_exit ?_ | refine T_block ?_ | refine T_cond_t rfl ?_ | refine T_cond_f rfl ?_ | refine wdW_cons rfl ?_ | refine T_ret ?_ | refine wif_intro ?_ (fun hc => ?_) | refine And.intro ?_ ?_ | intro hc) | simp (maxSteps := 4000000) only [wops_nil, wops_cons, wstep_none, wrun_mv, wrun_bin, wop, aop, ev, look, put_some, writes, ores_some, binV, thenK, List.length_cons, List.append_nil, List.replicate_zero, Option.map_some, if_true, if_false, Nat.reduceEqDiff, reduceCtorEq, eq_self, Int.reduceNeg, *] | simp (disch := omega) only [getD_ints, wrapI] | omega)
  all_goals first | exact hK.down _ (by simp [St.only, get_mk, look])
set_option maxHeartbeats 8000000 in
theorem k69 {z : Nat} {l : List Rd} (h : NC z l) : Fn Try.prog 69 [i64 z, rdgs false l] (.tup [lV 0 (ndO z l), i64 0]) (lB (ndO z l)) := by
  refine fn_of e69 ?_
  obtain ⟨hz, hl, hrd⟩ := checkR_ok h.1
  have h119 := k119n (nil := false) h.1 h.2
  have h129 := k129 l (by omega)
  have hrl := rows4_len l
  have hM := h.stt.sq
  have htl : (tabB (tabM (arcsL l l.length) z) z).length = z + 1 := by
    have : (tabM (arcsL l l.length) z).length = z := hM.hl
    simp [tabB, this]
  have hr := PLift.up (fun k hk K hT => k69r (k := k) h hk K hT)
  have hol : (nd (imp z) l l.length).2.length ≤ 1000 := by
    have : ∀ j, (nd (imp z) l j).2.length ≤ j := by
      intro j
      induction j with
      | zero => simp [nd]
      | succ j ih =>
        unfold nd
        split
        · simp; omega
        · omega
    have := this l.length
    omega
  have he := PLift.up (fun K hK => k69end (z := z) (L := (nd (imp z) l l.length).1) (out := (nd (imp z) l l.length).2) hl hol K hK)
  generalize hTB : tabB (tabM (arcsL l l.length) z) z = TB at *
  have ewd : IntKind.i64.wrap ((l.length : Int) - 1) = (l.length : Int) - 1 := wrapI (by omega) (by omega)
  clear hTB hM h hrd
  unfold c69
  repeat' (first | ((with_reducible refine T_calm ?_ ?_); rfl) | (with_reducible first | refine T_seq ?_ | refine T_reg ?_ | refine T_draw ?_ | refine T_skip ?_ | refine T_exit ?_ | refine T_block ?_ | refine T_cond_t rfl ?_ | refine T_cond_f rfl ?_ | refine wdW_cons rfl ?_ | (show wcall _ false (.lit (.func (.func 119) _ _)) _ _ _ _; refine wcall_fn (h119) rfl (by simp [plainL, plain, plainR_rows4]) ?_) | (show wcallX _ false (.lit (.func (.func 119) _ _)) _ _ _ _; refine wcallX_fn (h119) rfl (by simp [plainL, plain, plainR, renR_rows4, plainR_rows4, take_rows4', flat_rows4', rows4_len]) ?_) | (show wcall _ false (.lit (.func (.func 129) _ _)) _ _ _ _; refine wcall_fn (h129) rfl (by simp [plainL, plain, plainR_rows4]) ?_) | (show wcallX _ false (.lit (.func (.func 129) _ _)) _ _ _ _; refine wcallX_fn (h129) rfl (by simp [plainL, plain, plainR, renR_rows4, plainR_rows4, take_rows4', flat_rows4', rows4_len]) ?_) | refine T_ret ?_ | refine wif_intro ?_ (fun hc => ?_) | refine And.intro ?_ ?_ | intro hc) | simp (maxSteps := 4000000) only [wops_nil, wops_cons, wstep_none, wrun_call, wrun_mv, wrun_bin, wrun_ext, wrun_len, wop, aop, ev, look, put_some, writes, ores_some, ores_map, ores_bind, binV, thenK, intV, lenOf, hget, List.map_cons, List.map_nil, List.length_cons, List.length_nil, List.getElem?_cons_zero, List.getElem?_cons_succ, List.nil_append, List.append_nil, List.replicate_zero, List.zipIdx_cons, List.zipIdx_nil, List.length_append, List.length_map, Option.pure_def, Option.bind_eq_bind, Option.map_some, if_true, if_false, Nat.reduceEqDiff, Nat.reduceAdd, Nat.add_zero, Nat.zero_add, Nat.zero_ne_one, reduceCtorEq, eq_self, freeze, lidsL, lids, List.flatMap_cons, List.flatMap_nil, ren, renL, renB, shiftρ, renR_rows4, *] | simp (disch := omega) only [getD_ints, wrapI] | (with_reducible show wcall _ false (.lit (.func (.func 119) _ _)) _ _ _ _; refine wcall_fn (h119) ?_ ?_ ?_; (next => simp [rfyL, rfy, hget, ints, take_rfy, renR_rows4, plainR_rows4, take_rows4', flat_rows4', rows4_len]); (next => simp [plainL, plain, plainR, renR_rows4, plainR_rows4, take_rows4', flat_rows4', rows4_len])) | (with_reducible show wcallX _ false (.lit (.func (.func 119) _ _)) _ _ _ _; refine wcallX_fn (h119) ?_ ?_ ?_; (next => simp [rfyL, rfy, hget, ints, take_rfy, renR_rows4, plainR_rows4, take_rows4', flat_rows4', rows4_len]); (next => simp [plainL, plain, plainR, renR_rows4, plainR_rows4, take_rows4', flat_rows4', rows4_len])) | (with_reducible show wcall _ false (.lit (.func (.func 129) _ _)) _ _ _ _; refine wcall_fn (h129) ?_ ?_ ?_; (next => simp [rfyL, rfy, hget, ints, take_rfy, renR_rows4, plainR_rows4, take_rows4', flat_rows4', rows4_len]); (next => simp [plainL, plain, plainR, renR_rows4, plainR_rows4, take_rows4', flat_rows4', rows4_len])) | (with_reducible show wcallX _ false (.lit (.func (.func 129) _ _)) _ _ _ _; refine wcallX_fn (h129) ?_ ?_ ?_; (next => simp [rfyL, rfy, hget, ints, take_rfy, renR_rows4, plainR_rows4, take_rows4', flat_rows4', rows4_len]); (next => simp [plainL, plain, plainR, renR_rows4, plainR_rows4, take_rows4', flat_rows4', rows4_len])) | (with_reducible refine wdW_cons ?_ ?_; (next => simp [chk, foot, compatB, argsOf, St.get, target, ev, look, lidsL, lids, hget, kind, AOp.isRaw, wids, wtops, tops, opds, topId, renR_rows4, plainR_rows4, take_rows4', flat_rows4', rows4_len])) | omega)
  have hx : ∀ C : Blk, (List.map (renB (shiftρ 0)) TB ++ [C])[z + 1]? = some C := fun C => by rw [List.getElem?_append_right (by simp [htl])]; simp [htl]
  refine T_for_keep [0, 1, 8, 9, 10] (fun k => S69 z l (nd (imp z) l k).1 (nd (imp z) l k).2 k) l.length (fun _ => True) 0 ⟨[z + 1], by simp, by simp [htl], by simp, ?_⟩ trivial (Nat.zero_le _) ?_
  · simp [St.keep, get_mk, look, ren, renR, renB, renO, keepρ, pos, hget, hx, S69, nd, oV, oB, J69, renR_rows4]
  intro k hk _
  by_cases hkn : k < l.length
  · exact hr.down k hkn _ fun τ ⟨ids, h1, h2, h3⟩ => ⟨⟨hkn, trivial⟩, ids, Nat.zero_le _, h1, h2, h3⟩
  · have hke : k = l.length := by omega
    subst hke
    refine he.down _ fun τ h1 => ?_
    simp only [blockK, thenK, reduceIte]
    refine T_weak (weak_only [9]) ?_
    rw [h1]
    clear hr he h119 h129
    show T none Try.prog muts 82 0 _ _ (leave 0 _ fun r' H' => r' = .tup [lV 0 (nd (imp z) l l.length).2, i64 0] ∧ H' = lB (nd (imp z) l l.length).2)
    generalize (nd (imp z) l l.length).2 = out at *
    generalize (nd (imp z) l l.length).1 = L at *
    by_cases ho : out = []
    · subst ho
      simp only [oV, oB, lV, lB, if_true]
      repeat' (first | ((with_reducible refine T_calm ?_ ?_); rfl) | (with_reducible first | refine T_seq ?_ | refine T_reg ?_ | refine T_draw ?_ | refine T_skip ?_ | refine T_exit ?_ | refine T_block ?_ | refine T_cond_t rfl ?_ | refine T_cond_f rfl ?_ | refine wdW_cons rfl ?_ | refine T_ret ?_ | refine wif_intro ?_ (fun hc => ?_) | refine And.intro ?_ ?_ | intro hc) | simp (maxSteps := 4000000) only [wops_cons, wstep_none, wrun_call, wrun_mv, wop, aop, ev, look, put_some, writes, ores_some, List.map_cons, List.map_nil, List.length_cons, List.length_nil, List.append_nil, List.replicate_zero, if_true, if_false, Nat.reduceEqDiff, Nat.zero_add, eq_self, *] | simp (disch := omega) only [getD_ints, wrapI] | omega)
      refine wcall_raw (k131n.mono fun r H' hr => ?_)
      subst hr
      repeat' (first | ((with_reducible refine T_calm ?_ ?_); rfl) | (with_reducible first | refine T_seq ?_ | refine T_reg ?_ | refine T_draw ?_ | refine T_skip ?_ | refine T_exit ?_ | refine T_block ?_ | refine T_cond_t rfl ?_ | refine T_cond_f rfl ?_ | refine wdW_cons rfl ?_ | refine T_ret ?_ | refine wif_intro ?_ (fun hc => ?_) | refine And.intro ?_ ?_ | intro hc) | simp (maxSteps := 4000000) only [wops_nil, wops_cons, wstep_none, wrun_mv, wop, aop, ev, look, put_some, writes, ores_some, thenK, List.length_cons, List.length_nil, List.append_nil, List.replicate_zero, if_true, if_false, Nat.reduceEqDiff, Nat.zero_add, eq_self, *] | simp (disch := omega) only [getD_ints, wrapI] | omega)
      exact leave_of (.inr rfl) [.sl true 0 [], i64 0] (by simp [resL, resAV, get_mk, look]) ⟨rfl, rfl⟩
    · simp only [oV, oB, lV, lB, if_neg ho]
      have hoi := oI_len out
      have h1o : 1 ≤ out.length := by cases out with | nil => exact (ho rfl).elim | cons x r => simp
      have hrev := k131 (H := [Blk.cells (decide (l.length = 0)) false 4 (rows4 L ++ J69 out), Blk.cells true false 1 (iRw (oI out))]) (ib := 1) (oI out) (by omega) (by omega) rfl
      rw [hoi] at hrev
      have erev : (oI out).reverse = out.map fun i : Nat => (i : Int) := by simp [oI]
      rw [erev] at hrev
      replace hrev := PLift.up hrev
      repeat' (first | ((with_reducible refine T_calm ?_ ?_); rfl) | (with_reducible first | refine T_seq ?_ | refine T_reg ?_ | refine T_draw ?_ | refine T_skip ?_ | refine T_exit ?_ | refine T_block ?_ | refine T_cond_t rfl ?_ | refine T_cond_f rfl ?_ | refine wdW_cons rfl ?_ | refine T_ret ?_ | refine wif_intro ?_ (fun hc => ?_) | refine And.intro ?_ ?_ | intro hc) | simp (maxSteps := 4000000) only [wops_cons, wstep_none, wrun_call, wrun_mv, wop, aop, ev, look, put_some, writes, ores_some, List.map_cons, List.map_nil, List.length_cons, List.length_nil, List.append_nil, List.replicate_zero, if_true, if_false, Nat.reduceEqDiff, Nat.reduceAdd, Nat.zero_add, eq_self, *] | simp (disch := omega) only [getD_ints, wrapI] | omega)
      refine wcall_raw (hrev.down.mono fun r H' hr => ?_)
      subst hr
      repeat' (first | ((with_reducible refine T_calm ?_ ?_); rfl) | (with_reducible first | refine T_seq ?_ | refine T_reg ?_ | refine T_draw ?_ | refine T_skip ?_ | refine T_exit ?_ | refine T_block ?_ | refine T_cond_t rfl ?_ | refine T_cond_f rfl ?_ | refine wdW_cons rfl ?_ | refine T_ret ?_ | refine wif_intro ?_ (fun hc => ?_) | refine And.intro ?_ ?_ | intro hc) | simp (maxSteps := 4000000) only [wops_nil, wops_cons, wstep_none, wrun_mv, wop, aop, ev, look, put_some, writes, ores_some, thenK, List.length_cons, List.length_nil, List.set_cons_zero, List.set_cons_succ, List.append_nil, List.replicate_zero, if_true, if_false, Nat.reduceEqDiff, Nat.reduceAdd, Nat.zero_add, eq_self, *] | simp (disch := omega) only [getD_ints, wrapI] | omega)
      refine leave_ids (.inr rfl) [.lsl 1 0 out.length, i64 0] [1] (by simp [resL, resAV, get_mk, look]) (by simp) (by simp) ⟨?_, ?_⟩
      · simp [tupOf, ren, renL, keepρ, pos]
      · have e2 : ∀ ρ : Nat → Option Nat, renR ρ ((out.map fun i : Nat => (i : Int)).map fun x => [i64 x]) = iRw (out.map fun i : Nat => (i : Int)) := fun ρ => renR_iRw ρ _
        simp only [List.map_cons, List.map_nil, hget, List.getElem?_cons_succ, List.getElem?_cons_zero, Option.getD_some, renB, e2]
end Go.Abs
