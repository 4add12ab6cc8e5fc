import Derived.Test.YtookdheldelepaaGreatDoorKP3x
set_option linter.all false
set_option linter.unusedVariables false
set_option linter.unusedSimpArgs false
set_option linter.unusedSectionVars false
namespace Go.Abs
open Go.Proofs
/-! a line of a stroke: the reference's line -/
def S51 (n p0 : ByteArray) (ws : List ByteArray) (vs : List Int) (k : Nat) : St := ⟨[(2, .loc 0 0 0), (4, .lsl 1 0 (ws.length + 2)), (5, .loc 2 0 0), (6, i64 ((k : Int) + 2))], [zrB, .cells true false 1 ([strV p0] :: [strV n] :: ws.map fun x => [strV x]), .cells true false 2 [[strV n, wvV 3 vs]]] ++ wvB vs⟩
abbrev bad51 (s : St) : Prop := look s.slots 3 = bl false ∧ look s.slots 2 = .loc 0 0 0 ∧ s.heap[0]? = some zrB
set_option maxHeartbeats 8000000 in
theorem k51r {n p0 w : ByteArray} {ws : List ByteArray} {vs : List Int} {k : Nat} {v : Int} {b : Bool} (hk : ws[k]? = some w) (hl : ws.length ≤ 1000000) (hv : vs.length = k) (h54 : Fn Tryz.prog 54 [strV w, i64 7] (.tup [i64 v, bl b]) []) :
    T none Tryz.prog muts 49 0 c51l0 (S51 n p0 ws vs k) (fun e s => (b = false ∧ e = .ret ∧ bad51 s) ∨ (b = true ∧ e = .normal ∧ ∃ ids : List Nat, 0 ≤ s.heap.length ∧ (∀ id ∈ ids, 0 ≤ id ∧ id < s.heap.length) ∧ ids.Nodup ∧ s.keep 0 [2, 4, 5, 6] ids = S51 n p0 ws (vs ++ [v]) (k + 1))) := by
  have hkl : k < ws.length := (List.getElem?_eq_some_iff.1 hk).1
  have hg0 := getD_txt hk
  have tn : ((k : Int) + 2).toNat = k + 1 + 1 := by omega
  have hg : ([strV p0] :: [strV n] :: ws.map fun x => [strV x]).getD (k + 1 + 1) [] = [strV w] := hg0
  have hll : (ws.map fun x => [strV x]).length = ws.length := List.length_map _
  have hd : decide ((k : Int) + 2 < ((ws.length + 2 : Nat) : Int)) = true := decide_eq_true (by omega)
  obtain ⟨e1, e2⟩ := wv_app 3 vs v
  have hvl : (vs.map fun x => [i64 x]).length = vs.length := List.length_map _
  replace e1 := And.intro e1 trivial
  replace e2 := And.intro e2 trivial
  replace hv := PLift.up hv
  unfold c51l0
  by_cases h0 : vs = []
  · subst h0
    simp only [S51, wvV, wvB, if_true, List.append_nil]
    cases b with
    | false =>
      repeat' (first | (with_reducible first | refine T_seq ?_ | refine T_reg ?_ | refine T_skip ?_ | refine T_exit ?_ | refine T_block ?_ | refine T_cond_t rfl ?_ | refine T_cond_f rfl ?_ | (show wcall _ false (.lit (.func (.func 54) _ _)) _ _ _ _; refine wcall_fn (h54) rfl (by simp [plainL, plain]) ?_) | refine T_ret ?_ | refine leave_of (.inr rfl) _ rfl ?_ | refine leave_of (.inl rfl) _ rfl ?_ | refine wif_intro ?_ (fun hc => ?_) | refine And.intro ?_ ?_ | intro hc) | simp (maxSteps := 4000000) only [wops_nil, wops_cons, wstep_none, wrun_call, wrun_mv, wrun_bin, wrun_not, wrun_ext, wrun_build, wrun_load, wrun_store, wrun_iaddrS, wrun_len, wop, aop, ev, look, put_some, put_none, writes, ores_some, ores_ite_none, ores_map, ores_bind, binV, thenK, blockK, boolV, intV, lenOf, value, cut, hget, fillA, putCells, AV.parts, isOne, toLits, mkAgg, List.map_cons, List.map_nil, List.length_cons, List.length_nil, List.getElem?_cons_zero, List.getElem?_cons_succ, List.set_cons_zero, List.take_succ_cons, List.take_zero, List.take_nil, List.drop_succ_cons, List.drop_zero, List.drop_nil, List.cons_append, List.nil_append, List.append_nil, List.replicate_zero, List.getD_cons_zero, List.all_cons, List.all_nil, Option.pure_def, Option.bind_eq_bind, Option.getD_some, Option.map_some, Option.map_none, if_true, if_false, Nat.reduceEqDiff, Nat.reduceAdd, Nat.reduceLT, Nat.zero_add, Nat.le_refl, reduceCtorEq, Bool.not_false, Bool.and_true, Bool.false_eq_true, eq_self, true_and, and_true, and_self, false_and, freeze, lidsL, lids, List.flatMap_cons, List.flatMap_nil, List.all_cons, ren, renL, *] | simp (disch := omega) only [getD_ints, wrapI] | (with_reducible show wcall _ false (.lit (.func (.func 54) _ _)) _ _ _ _; refine wcall_fn (h54) ?_ ?_ ?_; (next => simp [rfyL, rfy, hget, ints, take_rfy, tn, hll]); (next => simp [plainL, plain, plainR, tn, hll])) | omega)
      all_goals first | (simp [bad51, look]; done)
    | true =>
      repeat' (first | (with_reducible first | refine T_seq ?_ | refine T_reg ?_ | refine T_skip ?_ | refine T_exit ?_ | refine T_block ?_ | refine T_cond_t rfl ?_ | refine T_cond_f rfl ?_ | (show wcall _ false (.lit (.func (.func 54) _ _)) _ _ _ _; refine wcall_fn (h54) rfl (by simp [plainL, plain]) ?_) | refine T_ret ?_ | refine leave_of (.inr rfl) _ rfl ?_ | refine leave_of (.inl rfl) _ rfl ?_ | refine wif_intro ?_ (fun hc => ?_) | refine And.intro ?_ ?_ | intro hc) | simp (maxSteps := 4000000) only [wops_nil, wops_cons, wstep_none, wrun_call, wrun_mv, wrun_bin, wrun_not, wrun_ext, wrun_load, wrun_store, wrun_faddr, wrun_iaddrS, wrun_len, wrun_bslice, wrun_app, wop, aop, ev, look, put_some, put_none, writes, ores_some, ores_ite_none, ores_map, ores_bind, binV, thenK, blockK, boolV, intV, lenOf, elsOf, szOk, value, cut, hget, fillA, putCells, AV.parts, isOne, mkAgg, List.flatten_cons, List.flatten_nil, rowsOf, List.map_cons, List.map_nil, List.length_cons, List.length_nil, List.getElem?_cons_zero, List.getElem?_cons_succ, List.set_cons_zero, List.set_cons_succ, List.take_succ_cons, List.take_zero, List.take_nil, List.drop_succ_cons, List.drop_zero, List.drop_nil, List.cons_append, List.nil_append, List.append_nil, List.append_assoc, List.replicate_zero, List.replicate_succ, List.getD_cons_zero, List.all_cons, List.all_nil, List.isEmpty_cons, Option.pure_def, Option.bind_eq_bind, Option.getD_some, Option.map_some, if_true, if_false, Nat.reduceEqDiff, Nat.reduceAdd, Nat.reduceMul, Nat.reduceLeDiff, Nat.reduceLT, Nat.add_zero, Nat.zero_add, Nat.sub_zero, Nat.mul_one, Nat.le_refl, reduceCtorEq, Bool.not_true, Bool.and_true, Bool.or_true, Bool.false_eq_true, eq_self, true_and, and_true, and_self, false_and, beq_self_eq_true, freeze, lidsL, lids, List.flatMap_cons, List.flatMap_nil, List.all_cons, ren, renL, *] | simp (disch := omega) only [wrapI] | (with_reducible show wcall _ false (.lit (.func (.func 54) _ _)) _ _ _ _; refine wcall_fn (h54) ?_ ?_ ?_; (next => simp [rfyL, rfy, hget, ints, take_rfy, tn, hll]); (next => simp [plainL, plain, plainR, tn, hll])) | omega)
      refine .inr ⟨[0, 1, 2, 4], by simp, by simp, ?_⟩
      simp [St.keep, get_mk, look, ren, renL, renR, renB, renO, keepρ, pos, hget, renR_txt]
      omega
  · simp only [S51, wvV, wvB, h0, if_false, List.cons_append, List.nil_append]
    cases b with
    | false =>
      repeat' (first | (with_reducible first | refine T_seq ?_ | refine T_reg ?_ | refine T_skip ?_ | refine T_exit ?_ | refine T_block ?_ | refine T_cond_t rfl ?_ | refine T_cond_f rfl ?_ | (show wcall _ false (.lit (.func (.func 54) _ _)) _ _ _ _; refine wcall_fn (h54) rfl (by simp [plainL, plain]) ?_) | refine T_ret ?_ | refine leave_of (.inr rfl) _ rfl ?_ | refine leave_of (.inl rfl) _ rfl ?_ | refine wif_intro ?_ (fun hc => ?_) | refine And.intro ?_ ?_ | intro hc) | simp (maxSteps := 4000000) only [wops_nil, wops_cons, wstep_none, wrun_call, wrun_mv, wrun_bin, wrun_not, wrun_ext, wrun_build, wrun_load, wrun_store, wrun_iaddrS, wrun_len, wop, aop, ev, look, put_some, put_none, writes, ores_some, ores_ite_none, ores_map, ores_bind, binV, thenK, blockK, boolV, intV, lenOf, value, cut, hget, fillA, putCells, AV.parts, isOne, toLits, mkAgg, List.map_cons, List.map_nil, List.length_cons, List.length_nil, List.getElem?_cons_zero, List.getElem?_cons_succ, List.set_cons_zero, List.take_succ_cons, List.take_zero, List.take_nil, List.drop_succ_cons, List.drop_zero, List.drop_nil, List.nil_append, List.append_nil, List.replicate_zero, List.getD_cons_zero, List.all_cons, List.all_nil, List.length_append, Option.pure_def, Option.bind_eq_bind, Option.getD_some, Option.map_some, Option.map_none, if_true, if_false, Nat.reduceEqDiff, Nat.reduceAdd, Nat.reduceLT, Nat.zero_add, Nat.le_refl, reduceCtorEq, Bool.not_false, Bool.and_true, Bool.false_eq_true, eq_self, true_and, and_true, and_self, false_and, freeze, lidsL, lids, List.flatMap_cons, List.flatMap_nil, List.all_cons, ren, renL, *] | simp (disch := omega) only [getD_ints, wrapI] | (with_reducible show wcall _ false (.lit (.func (.func 54) _ _)) _ _ _ _; refine wcall_fn (h54) ?_ ?_ ?_; (next => simp [rfyL, rfy, hget, ints, take_rfy, tn, hll]); (next => simp [plainL, plain, plainR, tn, hll])) | omega)
      all_goals first | (simp [bad51, look]; done)
    | true =>
      have hvk : vs.length ≤ 1000000 := by have := hv.down; omega
      have hr16 : (vs.length + 1) * 8 ≤ 140737488355328 := by omega
      repeat' (first | (with_reducible first | refine T_seq ?_ | refine T_reg ?_ | refine T_skip ?_ | refine T_exit ?_ | refine T_block ?_ | refine T_cond_t rfl ?_ | refine T_cond_f rfl ?_ | (show wcall _ false (.lit (.func (.func 54) _ _)) _ _ _ _; refine wcall_fn (h54) rfl (by simp [plainL, plain]) ?_) | refine T_ret ?_ | refine leave_of (.inr rfl) _ rfl ?_ | refine leave_of (.inl rfl) _ rfl ?_ | refine wif_intro ?_ (fun hc => ?_) | refine And.intro ?_ ?_ | intro hc) | simp (maxSteps := 4000000) only [wops_nil, wops_cons, wstep_none, wrun_call, wrun_mv, wrun_bin, wrun_not, wrun_ext, wrun_load, wrun_store, wrun_faddr, wrun_iaddrS, wrun_len, wrun_bslice, wrun_app, wop, aop, ev, look, put_some, put_none, writes, ores_some, ores_ite_none, ores_map, ores_bind, binV, thenK, blockK, boolV, intV, lenOf, elsOf, szOk, value, cut, hget, fillA, putCells, AV.parts, isOne, mkAgg, List.flatten_cons, List.flatten_nil, rowsOf, List.map_cons, List.map_nil, List.length_cons, List.length_nil, List.getElem?_cons_zero, List.getElem?_cons_succ, List.set_cons_zero, List.set_cons_succ, List.take_succ_cons, List.take_zero, List.take_nil, List.drop_succ_cons, List.drop_zero, List.drop_nil, List.cons_append, List.nil_append, List.append_nil, List.append_assoc, List.replicate_zero, List.replicate_succ, List.getD_cons_zero, List.all_cons, List.all_nil, List.isEmpty_cons, List.length_append, Option.pure_def, Option.bind_eq_bind, Option.getD_some, Option.map_some, if_true, if_false, Nat.reduceEqDiff, Nat.reduceAdd, Nat.reduceLeDiff, Nat.reduceLT, Nat.add_zero, Nat.zero_add, Nat.sub_zero, Nat.mul_one, Nat.le_refl, reduceCtorEq, Bool.not_true, Bool.and_true, Bool.and_false, Bool.or_true, Bool.false_eq_true, eq_self, true_and, and_true, and_self, false_and, beq_self_eq_true, freeze, lidsL, lids, List.flatMap_cons, List.flatMap_nil, List.all_cons, ren, renL, take_int, *] | simp (disch := omega) only [wrapI] | (with_reducible show wcall _ false (.lit (.func (.func 54) _ _)) _ _ _ _; refine wcall_fn (h54) ?_ ?_ ?_; (next => simp [rfyL, rfy, hget, ints, take_rfy, tn, hll, take_int]); (next => simp [plainL, plain, plainR, tn, hll, take_int])) | omega)
      refine .inr ⟨[0, 1, 2, 5], by simp, by simp, ?_⟩
      simp [St.keep, get_mk, look, ren, renL, renR, renB, renO, keepρ, pos, hget, renR_ints, renR_app4, renR_txt]
      omega
set_option maxHeartbeats 8000000 in
theorem k50s {s : ByteArray} (hz : s.size ≤ 1000) : Fn Tryz.prog 50 [strV s, .lit (.int .u8 32)] (.lsl 0 0 (pieces s ⟨#[32]⟩).length) [.cells true false 1 ((pieces s ⟨#[32]⟩).map fun x => [strV x])] := k50 32 hz
set_option maxHeartbeats 8000000 in
theorem k51p {s p0 p1 : ByteArray} {ws : List ByteArray} (hp : pieces s ⟨#[32]⟩ = p0 :: p1 :: ws) (h0 : (p0.toList == strokeB.toList) = true) (hz : s.size ≤ 1000) : Fn Tryz.prog 51 [strV s] (rdV ((rdAll ws).map fun l => (p1, l))) (rdB ((rdAll ws).map fun l => (p1, l))) := by
  refine fn_of e51 ?_
  have hwz : ∀ w ∈ ws, w.size ≤ 1000 := fun w hw => by
    have := pieces_le (s := s) (w := w) (c := 32) (by rw [hp]; exact List.mem_cons_of_mem _ (List.mem_cons_of_mem _ hw))
    omega
  have hwl : ws.length ≤ 1000000 := by
    have := pieces_len s 32
    rw [hp] at this
    simp at this; omega
  have h50 := k50s hz
  rw [hp] at h50
  simp only [List.map_cons, List.length_cons] at h50
  have hR : ∀ l, rdAll ws = some l → rdV ((rdAll ws).map fun l => (p1, l)) = .tup [.agg [strV p1, wvV 0 l], bl true] ∧ rdB ((rdAll ws).map fun l => (p1, l)) = wvB l := fun l h => by rw [h]; exact ⟨rfl, rfl⟩
  have hB : ∀ (k : Nat) (w : ByteArray), ws[k]? = some w → rdI w = none → rdV ((rdAll ws).map fun l => (p1, l)) = .tup [.agg [strV ⟨#[]⟩, .sl true 0 []], bl false] ∧ rdB ((rdAll ws).map fun l => (p1, l)) = [] := fun k w h1 h2 => by rw [rdAll_no h1 h2]; exact ⟨rfl, rfl⟩
  generalize rdV ((rdAll ws).map fun l => (p1, l)) = R at *
  generalize rdB ((rdAll ws).map fun l => (p1, l)) = new at *
  have hll : (ws.map fun x => [strV x]).length = ws.length := List.length_map _
  have hlt : decide (((ws.length + 1 + 1 : Nat) : Int) < 2) = false := decide_eq_false (by omega)
  have hne : (p0.toList == (⟨#[115, 116, 114, 111, 107, 101]⟩ : ByteArray).toList) = true := h0
  replace hR := PLift.up hR
  replace hB := PLift.up hB
  replace hwz := PLift.up hwz
  clear hp h0
  unfold c51
  repeat' (first | (with_reducible first | refine T_seq ?_ | refine T_reg ?_ | refine T_skip ?_ | refine T_exit ?_ | refine T_block ?_ | refine T_cond_t rfl ?_ | refine T_cond_f rfl ?_ | (show wcall _ false (.lit (.func (.func 50) _ _)) _ _ _ _; refine wcall_fn (h50) rfl (by simp [plainL, plain]) ?_) | refine T_ret ?_ | refine leave_of (.inr rfl) _ rfl ?_ | refine leave_of (.inl rfl) _ rfl ?_ | refine wif_intro ?_ (fun hc => ?_) | refine And.intro ?_ ?_ | intro hc) | simp (maxSteps := 4000000) only [wops_nil, wops_cons, wstep_none, wstep_some, wguard_ff, wrun_call, wrun_mv, wrun_pick, wrun_bin, wrun_build, wrun_load, wrun_store, wrun_iaddrS, wrun_len, wrun_alloc, wop, aop, ev, look, put_some, put_none, writes, ores_some, ores_ite_none, ores_map, ores_bind, wif_true, binV, thenK, intV, lenOf, value, cut, hget, fillA, putCells, AV.parts, isOne, toLits, mkAgg, List.map_cons, List.map_nil, List.length_cons, List.length_nil, List.getElem?_cons_zero, List.getElem?_cons_succ, List.set_cons_zero, List.set_cons_succ, List.take_succ_cons, List.take_zero, List.take_nil, List.drop_succ_cons, List.drop_zero, List.drop_nil, List.cons_append, List.nil_append, List.append_nil, List.append_assoc, List.replicate_zero, List.replicate_succ, List.getD_cons_zero, List.getD_cons_succ, List.zipIdx_cons, List.zipIdx_nil, List.all_cons, List.all_nil, Option.pure_def, Option.bind_eq_bind, Option.getD_some, Option.map_some, Option.map_none, if_true, if_false, Nat.reduceEqDiff, Nat.reduceAdd, Nat.reduceLeDiff, Nat.reduceLT, Nat.add_zero, Nat.zero_add, Nat.le_refl, reduceCtorEq, Bool.not_true, Bool.and_true, Bool.false_eq_true, eq_self, true_and, and_true, and_self, freeze, lidsL, lids, List.flatMap_cons, List.flatMap_nil, List.all_cons, ren, renL, renR, renB, shiftρ, renR_txt, nt0, nt1, *] | simp (disch := omega) only [getD_ints, wrapI] | (with_reducible show wcall _ false (.lit (.func (.func 50) _ _)) _ _ _ _; refine wcall_fn (h50) ?_ ?_ ?_; (next => simp [rfyL, rfy, hget, ints, take_rfy, renR_txt, hll, nt0, nt1, nt2]); (next => simp [plainL, plain, plainR, renR_txt, hll, nt0, nt1, nt2])) | omega)
  refine T_for_keep [2, 4, 5, 6] (fun k => S51 p1 p0 ws ((rdAll (ws.take k)).getD []) k) ws.length (fun k => ∃ l, rdAll (ws.take k) = some l) 0 ⟨[0, 1, 2], by simp, by simp, by simp, ?_⟩ ⟨[], rfl⟩ (Nat.zero_le _) ?_
  · simp [St.keep, get_mk, look, ren, renL, renR, renB, renO, keepρ, pos, hget, S51, wvV, wvB, rdAll, renR_txt]
  clear h50 hlt hne
  rintro k hk ⟨l, hl⟩
  rw [hl]
  simp only [Option.getD_some]
  have hll2 : l.length = k := by rw [(rdAll_get hl).1, List.length_take]; omega
  by_cases hkn : k < ws.length
  · obtain ⟨w, hw⟩ : ∃ w, ws[k]? = some w := ⟨ws[k], List.getElem?_eq_getElem hkn⟩
    obtain ⟨v, b, h54, hf, ht⟩ := k54 (hwz.down w (List.mem_of_getElem? hw))
    refine T_mono (k51r (n := p1) (p0 := p0) (vs := l) hw hwl hll2 h54) fun e st hx => ?_
    rcases hx with ⟨rfl, rfl, hb1, hb2, hb3⟩ | ⟨rfl, rfl, hg⟩
    · obtain ⟨rfl, rfl⟩ := hB.down k w hw (hf rfl)
      change leave 0 [ARes.cell 2 true 2, ARes.tmp 3] (fun r' H' => r' = .tup [.agg [strV ⟨#[]⟩, .sl true 0 []], bl false] ∧ H' = []) .ret st
      refine leave_of (.inr rfl) [.agg [strV ⟨#[]⟩, .sl true 0 []], bl false] ?_ ?_
      · simp [resL, resAV, St.get, hb1, hb2, aop, ev, hget, hb3, value, cut, mkAgg, toLits]
      · exact ⟨rfl, rfl⟩
    · have hs := rdAll_snoc hw hl (ht rfl)
      exact ⟨⟨hkn, _, hs⟩, by rw [hs]; exact hg⟩
  · have hke : k = ws.length := by omega
    subst hke
    rw [List.take_length] at hl
    obtain ⟨rfl, rfl⟩ := hR.down l hl
    have hd : decide ((ws.length : Int) + 2 < ((ws.length + 2 : Nat) : Int)) = false := decide_eq_false (by omega)
    clear hR hB hwz hl hll2
    unfold c51l0
    by_cases h0 : l = []
    · subst h0
      simp only [S51, wvV, wvB, if_true, List.append_nil]
      repeat' (first | (with_reducible first | refine T_seq ?_ | refine T_reg ?_ | refine T_skip ?_ | refine T_exit ?_ | refine T_block ?_ | refine T_cond_t rfl ?_ | refine T_cond_f rfl ?_ | refine T_ret ?_ | refine leave_of (.inr rfl) _ rfl ?_ | refine leave_of (.inl rfl) _ rfl ?_ | refine wif_intro ?_ (fun hc => ?_) | refine And.intro ?_ ?_ | intro hc) | simp (maxSteps := 4000000) only [wops_nil, wops_cons, wstep_none, wrun_mv, wrun_bin, wrun_load, wrun_store, wrun_len, get_mk, wop, aop, ev, look, put_some, put_none, writes, ores_some, ores_map, ores_bind, binV, thenK, blockK, intV, lenOf, value, cut, hget, putCells, AV.parts, isOne, toLits, mkAgg, tupOf, List.length_cons, List.length_nil, List.getElem?_cons_zero, List.getElem?_cons_succ, List.set_cons_zero, List.take_succ_cons, List.take_zero, List.take_nil, List.drop_succ_cons, List.drop_zero, List.drop_nil, List.cons_append, List.nil_append, List.append_nil, List.replicate_zero, List.getD_cons_zero, List.all_cons, List.all_nil, Option.pure_def, Option.bind_eq_bind, Option.getD_some, Option.map_some, Option.map_none, if_true, if_false, Nat.reduceEqDiff, Nat.reduceAdd, Nat.reduceLT, Nat.zero_add, Nat.le_refl, reduceCtorEq, Bool.and_true, eq_self, and_self, false_and, List.all_cons, ren, renL, renR, *] | simp (disch := omega) only [getD_ints, wrapI] | omega)
    · simp only [S51, wvV, wvB, h0, if_false, List.cons_append, List.nil_append]
      repeat' (first | (with_reducible first | refine T_seq ?_ | refine T_reg ?_ | refine T_skip ?_ | refine T_exit ?_ | refine T_block ?_ | refine T_cond_t rfl ?_ | refine T_cond_f rfl ?_ | refine T_ret ?_ | refine leave_ids (.inr rfl) _ [3] rfl (by simp) (by simp) ?_ | refine leave_ids (.inl rfl) _ [3] rfl (by simp) (by simp) ?_ | refine wif_intro ?_ (fun hc => ?_) | refine And.intro ?_ ?_ | intro hc) | simp (maxSteps := 4000000) only [wops_nil, wops_cons, wstep_none, wrun_mv, wrun_bin, wrun_load, wrun_store, wrun_len, get_mk, wop, aop, ev, look, put_some, put_none, writes, ores_some, ores_map, ores_bind, binV, thenK, blockK, intV, lenOf, value, cut, hget, putCells, AV.parts, isOne, toLits, mkAgg, tupOf, List.map_cons, List.map_nil, List.length_cons, List.length_nil, List.getElem?_cons_zero, List.getElem?_cons_succ, List.set_cons_zero, List.take_succ_cons, List.take_zero, List.take_nil, List.drop_succ_cons, List.drop_zero, List.drop_nil, List.nil_append, List.append_nil, List.replicate_zero, List.getD_cons_zero, List.all_cons, List.all_nil, Option.pure_def, Option.bind_eq_bind, Option.getD_some, Option.map_some, Option.map_none, if_true, if_false, Nat.reduceEqDiff, Nat.reduceAdd, Nat.reduceLT, Nat.zero_add, Nat.le_refl, reduceCtorEq, Bool.and_true, eq_self, and_self, false_and, List.all_cons, ren, renL, renB, renO, keepρ, pos, Nat.not_lt_zero, renR_ints, renR_ints, *] | simp (disch := omega) only [getD_ints, wrapI] | omega)
set_option maxHeartbeats 8000000 in
theorem k51s {s p0 : ByteArray} (hp : pieces s ⟨#[32]⟩ = [p0]) (hz : s.size ≤ 1000) : Fn Tryz.prog 51 [strV s] (rdV none) [] := by
  refine fn_of e51 ?_
  have h50 := k50s hz
  rw [hp] at h50
  simp only [List.map_cons, List.map_nil, List.length_cons, List.length_nil] at h50
  clear hp
  unfold rdV
  unfold c51
  cases h0 : (p0.toList == (⟨#[115, 116, 114, 111, 107, 101]⟩ : ByteArray).toList) with
  | true =>
    repeat' (first | (with_reducible first | refine T_seq ?_ | refine T_reg ?_ | refine T_skip ?_ | refine T_exit ?_ | refine T_block ?_ | refine T_cond_t rfl ?_ | refine T_cond_f rfl ?_ | (show wcall _ false (.lit (.func (.func 50) _ _)) _ _ _ _; refine wcall_fn (h50) rfl (by simp [plainL, plain]) ?_) | refine T_ret ?_ | refine leave_of (.inr rfl) _ rfl ?_ | refine leave_of (.inl rfl) _ rfl ?_ | refine wif_intro ?_ (fun hc => ?_) | refine And.intro ?_ ?_ | intro hc) | simp (maxSteps := 4000000) only [wops_nil, wops_cons, wstep_none, wstep_some, wguard_ff, wrun_call, wrun_mv, wrun_pick, wrun_bin, wrun_build, wrun_load, wrun_store, wrun_iaddrS, wrun_len, wrun_alloc, get_mk, wop, aop, ev, look, put_some, put_none, writes, ores_some, ores_ite_none, ores_map, ores_bind, binV, thenK, intV, lenOf, value, cut, hget, fillA, putCells, AV.parts, isOne, toLits, mkAgg, tupOf, List.map_cons, List.map_nil, List.length_cons, List.length_nil, List.getElem?_cons_zero, List.getElem?_cons_succ, List.set_cons_zero, List.take_succ_cons, List.take_zero, List.take_nil, List.drop_succ_cons, List.drop_zero, List.drop_nil, List.cons_append, List.nil_append, List.append_nil, List.replicate_zero, List.replicate_succ, List.getD_cons_zero, List.zipIdx_cons, List.zipIdx_nil, List.all_cons, List.all_nil, Option.pure_def, Option.bind_eq_bind, Option.getD_some, Option.map_some, Option.map_none, if_true, if_false, Nat.reduceEqDiff, Nat.reduceAdd, Nat.reduceLT, Nat.add_zero, Nat.zero_add, Nat.le_refl, reduceCtorEq, Bool.not_true, Bool.and_true, Bool.false_eq_true, eq_self, true_and, and_true, and_self, freeze, lidsL, lids, List.flatMap_cons, List.flatMap_nil, List.all_cons, ren, renL, renR, renB, shiftρ, nt0, *] | simp (disch := omega) only [getD_ints, wrapI] | (with_reducible show wcall _ false (.lit (.func (.func 50) _ _)) _ _ _ _; refine wcall_fn (h50) ?_ ?_ ?_; (next => simp [rfyL, rfy, hget, ints, take_rfy, renR_txt, nt0, nt1, nt2]); (next => simp [plainL, plain, plainR, renR_txt, nt0, nt1, nt2])) | omega)
  | false =>
    repeat' (first | (with_reducible first | refine T_seq ?_ | refine T_reg ?_ | refine T_skip ?_ | refine T_exit ?_ | refine T_block ?_ | refine T_cond_t rfl ?_ | refine T_cond_f rfl ?_ | (show wcall _ false (.lit (.func (.func 50) _ _)) _ _ _ _; refine wcall_fn (h50) rfl (by simp [plainL, plain]) ?_) | refine T_ret ?_ | refine leave_of (.inr rfl) _ rfl ?_ | refine leave_of (.inl rfl) _ rfl ?_ | refine wif_intro ?_ (fun hc => ?_) | refine And.intro ?_ ?_ | intro hc) | simp (maxSteps := 4000000) only [wops_nil, wops_cons, wstep_none, wstep_some, wguard_tf, wrun_call, wrun_mv, wrun_pick, wrun_bin, wrun_build, wrun_load, wrun_store, wrun_iaddrS, wrun_alloc, get_mk, wop, aop, ev, look, put_some, put_none, writes, ores_some, ores_ite_none, binV, thenK, value, cut, hget, fillA, putCells, AV.parts, isOne, toLits, mkAgg, tupOf, List.map_cons, List.map_nil, List.length_cons, List.length_nil, List.getElem?_cons_zero, List.getElem?_cons_succ, List.set_cons_zero, List.take_succ_cons, List.take_zero, List.take_nil, List.drop_succ_cons, List.drop_zero, List.drop_nil, List.cons_append, List.nil_append, List.append_nil, List.replicate_zero, List.replicate_succ, List.getD_cons_zero, List.zipIdx_cons, List.zipIdx_nil, List.all_cons, List.all_nil, Option.getD_some, Option.map_some, Option.map_none, if_true, if_false, Nat.reduceEqDiff, Nat.reduceAdd, Nat.reduceLT, Nat.add_zero, Nat.zero_add, Nat.le_refl, reduceCtorEq, Bool.not_false, Bool.and_true, Bool.false_eq_true, eq_self, true_and, and_true, and_self, freeze, lidsL, lids, List.flatMap_cons, List.flatMap_nil, List.all_cons, ren, renL, renR, renB, shiftρ, nt0, *] | simp (disch := omega) only [getD_ints, wrapI] | (with_reducible show wcall _ false (.lit (.func (.func 50) _ _)) _ _ _ _; refine wcall_fn (h50) ?_ ?_ ?_; (next => simp [rfyL, rfy, hget, ints, take_rfy, renR_txt, nt0, nt1, nt2]); (next => simp [plainL, plain, plainR, renR_txt, nt0, nt1, nt2])) | omega)
set_option maxHeartbeats 8000000 in
theorem k51n {s p0 p1 : ByteArray} {ws : List ByteArray} (hp : pieces s ⟨#[32]⟩ = p0 :: p1 :: ws) (h0 : (p0.toList == strokeB.toList) = false) (hz : s.size ≤ 1000) : Fn Tryz.prog 51 [strV s] (rdV none) [] := by
  refine fn_of e51 ?_
  have h50 := k50s hz
  rw [hp] at h50
  simp only [List.map_cons, List.length_cons] at h50
  have hll : (ws.map fun x => [strV x]).length = ws.length := List.length_map _
  have hne : (p0.toList == (⟨#[115, 116, 114, 111, 107, 101]⟩ : ByteArray).toList) = false := h0
  clear hp h0
  unfold rdV
  unfold c51
  repeat' (first | (with_reducible first | refine T_seq ?_ | refine T_reg ?_ | refine T_skip ?_ | refine T_exit ?_ | refine T_block ?_ | refine T_cond_t rfl ?_ | refine T_cond_f rfl ?_ | (show wcall _ false (.lit (.func (.func 50) _ _)) _ _ _ _; refine wcall_fn (h50) rfl (by simp [plainL, plain]) ?_) | refine T_ret ?_ | refine leave_of (.inr rfl) _ rfl ?_ | refine leave_of (.inl rfl) _ rfl ?_ | refine wif_intro ?_ (fun hc => ?_) | refine And.intro ?_ ?_ | intro hc) | simp (maxSteps := 4000000) only [wops_nil, wops_cons, wstep_none, wstep_some, wguard_tf, wrun_call, wrun_mv, wrun_pick, wrun_bin, wrun_build, wrun_load, wrun_store, wrun_iaddrS, wrun_alloc, get_mk, wop, aop, ev, look, put_some, put_none, writes, ores_some, ores_ite_none, binV, thenK, value, cut, hget, fillA, putCells, AV.parts, isOne, toLits, mkAgg, tupOf, List.map_cons, List.map_nil, List.length_cons, List.length_nil, List.getElem?_cons_zero, List.getElem?_cons_succ, List.set_cons_zero, List.take_succ_cons, List.take_zero, List.take_nil, List.drop_succ_cons, List.drop_zero, List.drop_nil, List.cons_append, List.nil_append, List.append_nil, List.replicate_zero, List.replicate_succ, List.getD_cons_zero, List.zipIdx_cons, List.zipIdx_nil, List.all_cons, List.all_nil, Option.getD_some, Option.map_some, Option.map_none, if_true, if_false, Nat.reduceEqDiff, Nat.reduceAdd, Nat.reduceLT, Nat.add_zero, Nat.zero_add, Nat.le_refl, reduceCtorEq, Bool.not_false, Bool.and_true, Bool.false_eq_true, eq_self, true_and, and_true, and_self, freeze, lidsL, lids, List.flatMap_cons, List.flatMap_nil, List.all_cons, ren, renL, renR, renB, shiftρ, renR_txt, nt0, *] | simp (disch := omega) only [getD_ints, wrapI] | (with_reducible show wcall _ false (.lit (.func (.func 50) _ _)) _ _ _ _; refine wcall_fn (h50) ?_ ?_ ?_; (next => simp [rfyL, rfy, hget, ints, take_rfy, renR_txt, hll, nt0, nt1, nt2]); (next => simp [plainL, plain, plainR, renR_txt, hll, nt0, nt1, nt2])) | omega)
set_option maxHeartbeats 8000000 in
theorem k51 {s : ByteArray} (hz : s.size ≤ 1000) : Fn Tryz.prog 51 [strV s] (rdV (rdS (pieces s ⟨#[32]⟩))) (rdB (rdS (pieces s ⟨#[32]⟩))) := by
  match hp : pieces s ⟨#[32]⟩ with
  | [] => exact absurd hp (pieces_ne s 32)
  | [p] => exact k51s hp hz
  | p0 :: p1 :: ws =>
    unfold rdS
    dsimp only
    cases h0 : (p0.toList == strokeB.toList) with
    | true => rw [if_pos rfl]; exact k51p hp h0 hz
    | false => rw [if_neg (by simp)]; exact k51n hp h0 hz
end Go.Abs
