import Derived.Test.YtpfmamngjefohaaK393x
set_option linter.all false
set_option linter.unusedVariables false
set_option linter.unusedSimpArgs false
set_option linter.unusedSectionVars false
namespace Go.Abs
open Go.Proofs
/-! GrindOrders: the lists, whole, and their wear -/
theorem drop_rev (s : List Ss) {q : Nat} (hq : q < s.length) : (s.drop q).reverse = (s.drop (q + 1)).reverse ++ [s.getD q ss0] := by
  rw [List.drop_eq_getElem_cons hq, List.reverse_cons]
  congr 1
  rw [List.getD_eq_getElem?_getD, List.getElem?_eq_getElem hq]; rfl
set_option maxHeartbeats 8000000 in
theorem k12loop {nil n1 n2 n3 o nl : Bool} {l : List Sk} {lo hi : List Int} {s : List Ss} {x : Ss} {b : ByteArray} {wv : AV} {H0 : List Blk} (hs : s.length ≤ 1000) (hH : H0[0]? = some (.cells o nl 6 [dyR n1 lo n2 hi n3 s x])) (K : Exit → St → Prop)
    (hN : ∀ tv mv H, I12 H0 b s.reverse tv mv H → ∀ τ : St, τ.heap = H → (τ.only [0, 3, 5, 6, 8, 9]).slots = [(0, sts nil l), (3, .loc 0 0 0), (5, tx b), (6, wv), (8, tv), (9, mv)] → K (.exit 0) τ)
    {σ : St} (h0 : (σ.only [0, 3, 5, 6, 8, 9, 10]).slots = SL12 nil l b wv (.sl true 0 []) (.sl true 0 []) ((s.length : Int) - 1)) (hH0 : σ.heap = H0) {bb : Nat} : T none Try.prog muts 312 bb (.loop c12l0) σ K := by
  refine T_loop_only [0, 3, 5, 6, 8, 9, 10] (fun j st => ∃ tv mv H, I12 H0 b (s.drop j).reverse tv mv H ∧ j ≤ s.length ∧ st = ⟨SL12 nil l b wv tv mv ((j : Int) - 1), H⟩) s.length ?_ ?_
  · refine ⟨.sl true 0 [], .sl true 0 [], H0, ⟨⟨fun i hi => rfl, Nat.le_refl _⟩, .inl ⟨by simp, rfl, rfl⟩⟩, Nat.le_refl _, ?_⟩
    show (⟨(σ.only [0, 3, 5, 6, 8, 9, 10]).slots, σ.heap⟩ : St) = _
    rw [h0, hH0]
  clear h0 hH0
  rintro j st ⟨tv, mv, H, hI, hj, rfl⟩
  match j, hj, hI with
  | 0, _, hI =>
    have f := PLift.up (hN tv mv H hI)
    have d0 : decide (((0 : Nat) : Int) - 1 ≥ 0) = false := by simp
    clear hN hI
    unfold c12l0
    repeat' (first | ((with_reducible refine T_calm ?_ ?_); rfl) | (with_reducible first | refine T_seq ?_ | refine T_reg ?_ | refine T_draw ?_ | refine T_skip ?_ | refine T_exit ?_ | refine T_block ?_ | refine T_cond_t rfl ?_ | refine T_cond_f rfl ?_ | refine wdW_cons rfl ?_ | refine T_ret ?_ | refine wif_intro ?_ (fun hc => ?_) | refine And.intro ?_ ?_ | intro hc) | simp (maxSteps := 4000000) only [wops_nil, wops_cons, wstep_none, wrun_mv, wrun_bin, wop, aop, ev, look, put_some, writes, ores_some, binV, thenK, List.append_nil, List.replicate_zero, Option.map_some, if_true, if_false, Nat.reduceEqDiff, reduceCtorEq, eq_self, false_and, Nat.not_lt_zero, *] | simp (disch := omega) only [getD_ints, wrapI] | omega)
    all_goals first | exact f.down _ rfl rfl
  | q + 1, hj, hI =>
    have e : (((q + 1 : Nat) : Int) - 1) = (q : Int) := by omega
    rw [e]
    have hH' : H[0]? = some (.cells o nl 6 [dyR n1 lo n2 hi n3 s x]) := by rw [hI.1.1 0 (List.getElem?_eq_some_iff.1 hH).1]; exact hH
    have h00 := (List.getElem?_eq_some_iff.1 hH).1
    have hl2 : ((s.drop (q + 1)).reverse).length ≤ 1000 := by rw [List.length_reverse, List.length_drop]; omega
    have hd := drop_rev s (q := q) (by omega)
    have goal : T none Try.prog muts 312 bb c12l0 ⟨SL12 nil l b wv tv mv (q : Int), H⟩ (thenK (fun s' => ∃ tv mv, I12 H0 b ((s.drop (q + 1)).reverse ++ [s.getD q ss0]) tv mv s'.heap ∧ (s'.only [0, 3, 5, 6, 8, 9, 10]).slots = SL12 nil l b wv tv mv ((q : Int) - 1)) K) := by
      obtain ⟨hP, hc⟩ := hI
      generalize (s.drop (q + 1)).reverse = TT at *
      rcases hc with ⟨rfl, rfl, rfl⟩ | ⟨it, h1, h2, rfl, h3, rfl⟩ | ⟨it, im, h1, h2, h3, h4, h5, rfl, rfl⟩
      · exact k12lA (by omega) hs hH' hP K
      · exact k12lB (by omega) hs hl2 h00 hH' hP h1 h2 h3 K
      · exact k12lC (by omega) hs hl2 h00 hH' hP h1 h2 h3 h4 h5 K
    refine T_thenR goal fun s' hs' => ?_
    obtain ⟨tv', mv', g1, g2⟩ := hs'
    refine ⟨q, by omega, tv', mv', s'.heap, by rw [hd]; exact g1, by omega, ?_⟩
    show (⟨(s'.only [0, 3, 5, 6, 8, 9, 10]).slots, s'.heap⟩ : St) = _
    rw [g2]
theorem I12.rd {H0 H : List Blk} {b : ByteArray} {TT : List Ss} {tv mv : AV} (h : I12 H0 b TT tv mv H) : ∃ tR mR, Rds 1 H tv tR ∧ Rds 1 H mv mR ∧ ((TT = [] ∧ tR = .sl true 0 []) ∨ tR = sss false TT) ∧ ((TT.filter (fun g => eqT g.mi b) = [] ∧ mR = .sl true 0 []) ∨ mR = sss false (TT.filter fun g => eqT g.mi b)) := by
  rcases h.2 with ⟨rfl, rfl, rfl⟩ | ⟨it, h1, h2, rfl, h3, rfl⟩ | ⟨it, im, h1, h2, h3, h4, h5, rfl, rfl⟩
  · exact ⟨_, _, rds_plain rfl, rds_plain rfl, .inl ⟨rfl, rfl⟩, .inl ⟨rfl, rfl⟩⟩
  · exact ⟨_, _, rds_row (d := 0) h2 (plainR_ss _) (ssR_len _), rds_plain rfl, .inr rfl, .inl ⟨h3, rfl⟩⟩
  · exact ⟨_, _, rds_row (d := 0) h4 (plainR_ss _) (ssR_len _), rds_row (d := 0) h5 (plainR_ss _) (ssR_len _), .inr rfl, .inr rfl⟩
set_option maxHeartbeats 8000000 in
theorem k12b {nil n1 n2 n3 o nl ow : Bool} {l : List Sk} {lo hi W : List Int} {s : List Ss} {x : Ss} {b : ByteArray} {iw : Nat} {H0 : List Blk} {t : ACode} {K : Exit → St → Prop} (hs : s.length ≤ 1000) (hW : W.length ≤ 1000) (hH : H0[0]? = some (.cells o nl 6 [dyR n1 lo n2 hi n3 s x])) (hw : H0[iw]? = some (.cells ow false 1 (W.map fun x => [i64 x]))) (h22 : Gv 2 Try.prog 22 [sts nil l] [cpS l])
    (hgT : ∀ tR, ((s.reverse = [] ∧ tR = .sl true 0 []) ∨ tR = sss false s.reverse) → Gv 1 Try.prog 29 [cpS l, tR, tx b] [ints false W, i64 0])
    (hgM : ∀ tR, ((s.reverse.filter (fun g => eqT g.mi b) = [] ∧ tR = .sl true 0 []) ∨ tR = sss false (s.reverse.filter fun g => eqT g.mi b)) → Gv 1 Try.prog 29 [cpS l, tR, tx b] [ints false W, i64 0])
    (hnext : ∀ H' o' ow', H'[0]? = some (.cells o' nl 6 [dyR n1 lo n2 hi n3 s x]) → H'[iw]? = some (.cells ow' false 1 (W.map fun x => [i64 x])) → T none Try.prog muts 312 0 t ⟨[(0, sts nil l), (3, .loc 0 0 0), (5, tx b), (6, .lsl iw 0 W.length)], H'⟩ K) :
    T none Try.prog muts 312 0 (c12r2 t) ⟨[(0, sts nil l), (3, .loc 0 0 0), (5, tx b), (6, .lsl iw 0 W.length)], H0⟩ K := by
  have hp : plain (cpS l) = true := plain_cpS l
  have hloop := PLift.up (fun K hN σ h0 hH0 => k12loop (nil := nil) (l := l) (b := b) (wv := .lsl iw 0 W.length) (bb := 0) hs hH K hN (σ := σ) h0 hH0)
  have hll := ssR_len s
  have ew : IntKind.i64.wrap ((s.length : Int) - 1) = (s.length : Int) - 1 := wrapI (by omega) (by omega)
  have h34 := And.intro (k34 false false W (by omega)) trivial
  have y0 := (List.getElem?_eq_some_iff.1 hH).1
  have yw := (List.getElem?_eq_some_iff.1 hw).1
  replace h22 := And.intro h22 trivial
  replace hgT := PLift.up hgT
  replace hgM := PLift.up hgM
  replace hnext := PLift.up hnext
  replace hw := PLift.up hw
  unfold c12r2
  repeat' (first | ((with_reducible refine T_calm ?_ ?_); rfl) | (with_reducible first | refine T_seq ?_ | refine T_reg ?_ | refine T_draw ?_ | refine T_skip ?_ | refine T_exit ?_ | refine T_block ?_ | refine T_cond_t rfl ?_ | refine T_cond_f rfl ?_ | refine wdW_cons rfl ?_ | refine T_ret ?_ | refine wif_intro ?_ (fun hc => ?_) | refine And.intro ?_ ?_ | intro hc) | simp (maxSteps := 4000000) only [wops_nil, wops_cons, wstep_none, wrun_mv, wrun_bin, wrun_load, wrun_faddr, wrun_len, wop, aop, ev, look, put_some, writes, ores_some, ores_map, ores_bind, binV, thenK, intV, lenOf, value, cut, hget, mkAgg, List.length_cons, List.length_nil, List.take_succ_cons, List.take_zero, List.drop_succ_cons, List.drop_zero, List.append_nil, List.replicate_zero, List.getD_cons_zero, Option.pure_def, Option.bind_eq_bind, Option.getD_some, Option.map_some, if_true, if_false, Nat.reduceEqDiff, Nat.zero_add, reduceCtorEq, Bool.false_eq_true, eq_self, *] | simp (disch := omega) only [getD_ints, wrapI] | omega)
  refine hloop.down _ ?_ _ ?_ rfl
  · intro tv mv H hI τ t1 t2
    obtain ⟨tR, mR, r1, r2, r3, r4⟩ := hI.rd
    have hT := And.intro (hgT.down _ r3) trivial
    have hM := And.intro (hgM.down _ r4) trivial
    have g0 : H[0]? = _ := (hI.1.1 0 y0).trans hH
    have gw := PLift.up ((hI.1.1 iw yw).trans hw.down)
    simp only [blockK, thenK, reduceIte]
    refine T_onlyU [0, 3, 5, 6, 8, 9] (S := ⟨[(0, sts nil l), (3, .loc 0 0 0), (5, tx b), (6, .lsl iw 0 W.length), (8, tv), (9, mv)], H⟩) (by show (⟨(τ.only [0, 3, 5, 6, 8, 9]).slots, τ.heap⟩ : St) = _; rw [t2, t1]) ?_
    have pT : plain tR = true := by rcases r3 with ⟨_, rfl⟩ | rfl; rfl; exact plainR_ss _
    have pM : plain mR = true := by rcases r4 with ⟨_, rfl⟩ | rfl; rfl; exact plainR_ss _
    clear hloop hgT hgM hI t1 t2 r3 r4 hH hw y0 yw
    repeat' (first | ((with_reducible refine T_calm ?_ ?_); rfl) | (with_reducible first | refine T_seq ?_ | refine T_reg ?_ | refine T_draw ?_ | refine T_skip ?_ | refine T_exit ?_ | refine T_block ?_ | refine T_cond_t rfl ?_ | refine T_cond_f rfl ?_ | refine wdW_cons rfl ?_ | refine T_ret ?_ | refine wif_intro ?_ (fun hc => ?_) | refine And.intro ?_ ?_ | intro hc) | simp (maxSteps := 4000000) only [wops_cons, wstep_none, wrun_call, wrun_mv, wop, aop, ev, look, put_some, writes, ores_some, List.map_cons, List.map_nil, List.append_nil, List.replicate_zero, if_true, if_false, Nat.reduceEqDiff, reduceCtorEq, eq_self, *] | simp (disch := omega) only [getD_ints, wrapI] | omega)
    refine wcall_E1 h22.1 rfl (by simp [plainL, plain, plainR_sk]) ?_
    intro v1 H1 hx1 hv1
    obtain ⟨q1, g1⟩ := hx1.cell g0
    obtain ⟨w1, gw1⟩ := hx1.cell gw.down
    replace r1 := r1.ext hx1
    replace r2 := r2.ext hx1
    clear hx1 g0 gw
    repeat' (first | ((with_reducible refine T_calm ?_ ?_); rfl) | (with_reducible first | refine T_seq ?_ | refine T_reg ?_ | refine T_draw ?_ | refine T_skip ?_ | refine T_exit ?_ | refine T_block ?_ | refine T_cond_t rfl ?_ | refine T_cond_f rfl ?_ | refine wdW_cons rfl ?_ | refine T_ret ?_ | refine wif_intro ?_ (fun hc => ?_) | refine And.intro ?_ ?_ | intro hc) | simp (maxSteps := 4000000) only [wops_cons, wstep_none, wrun_call, wrun_mv, wop, aop, ev, look, put_some, writes, ores_some, List.map_cons, List.map_nil, if_true, if_false, Nat.reduceEqDiff, reduceCtorEq, eq_self, *] | simp (disch := omega) only [getD_ints, wrapI] | omega)
    refine wcall_E2 hT.1 (rL3 hv1 r1 (rds_plain (d := 0) (v := tx b) rfl) (by omega) (by omega) (by omega)) (by simp [plainL, plain, hp, pT]) ?_
    intro va vc H2 hx2 hva hvc
    have := hvc.lit; subst this
    obtain ⟨q2, g2⟩ := hx2.cell g1
    obtain ⟨w2, gw2⟩ := hx2.cell gw1
    replace r2 := r2.ext hx2
    clear hx2 hvc g1 gw1 hv1 r1
    repeat' (first | ((with_reducible refine T_calm ?_ ?_); rfl) | (with_reducible first | refine T_seq ?_ | refine T_reg ?_ | refine T_draw ?_ | refine T_skip ?_ | refine T_exit ?_ | refine T_block ?_ | refine T_cond_t rfl ?_ | refine T_cond_f rfl ?_ | refine wdW_cons rfl ?_ | refine T_ret ?_ | refine wif_intro ?_ (fun hc => ?_) | refine And.intro ?_ ?_ | intro hc) | simp (maxSteps := 4000000) only [wops_nil, wops_cons, wstep_none, wrun_call, wrun_mv, wrun_ext, wop, aop, ev, look, put_some, writes, ores_some, thenK, List.map_cons, List.map_nil, List.getElem?_cons_zero, List.getElem?_cons_succ, List.append_nil, List.replicate_zero, Option.map_some, if_true, if_false, Nat.reduceEqDiff, reduceCtorEq, eq_self, *] | simp (disch := omega) only [getD_ints, wrapI] | omega)
    refine wcall_E1 h22.1 rfl (by simp [plainL, plain, plainR_sk]) ?_
    intro v2 H3 hx3 hv2
    obtain ⟨q3, g3⟩ := hx3.cell g2
    obtain ⟨w3, gw3⟩ := hx3.cell gw2
    replace r2 := r2.ext hx3
    replace hva := hva.ext hx3
    clear hx3 g2 gw2
    repeat' (first | ((with_reducible refine T_calm ?_ ?_); rfl) | (with_reducible first | refine T_seq ?_ | refine T_reg ?_ | refine T_draw ?_ | refine T_skip ?_ | refine T_exit ?_ | refine T_block ?_ | refine T_cond_t rfl ?_ | refine T_cond_f rfl ?_ | refine wdW_cons rfl ?_ | refine T_ret ?_ | refine wif_intro ?_ (fun hc => ?_) | refine And.intro ?_ ?_ | intro hc) | simp (maxSteps := 4000000) only [wops_cons, wstep_none, wrun_call, wrun_mv, wop, aop, ev, look, put_some, writes, ores_some, List.map_cons, List.map_nil, if_true, if_false, Nat.reduceEqDiff, reduceCtorEq, eq_self, *] | simp (disch := omega) only [getD_ints, wrapI] | omega)
    refine wcall_E2 hM.1 (rL3 hv2 r2 (rds_plain (d := 0) (v := tx b) rfl) (by omega) (by omega) (by omega)) (by simp [plainL, plain, hp, pM]) ?_
    intro vb vd H4 hx4 hvb hvd
    have := hvd.lit; subst this
    obtain ⟨q4, g4⟩ := hx4.cell g3
    obtain ⟨w4, gw4⟩ := hx4.cell gw3
    replace hva := hva.ext hx4
    clear hx4 hvd g3 gw3 hv2 r2
    repeat' (first | ((with_reducible refine T_calm ?_ ?_); rfl) | (with_reducible first | refine T_seq ?_ | refine T_reg ?_ | refine T_draw ?_ | refine T_skip ?_ | refine T_exit ?_ | refine T_block ?_ | refine T_cond_t rfl ?_ | refine T_cond_f rfl ?_ | refine wdW_cons rfl ?_ | ((first | refine T_cond rfl (fun hc => ?_) (fun hc => ?_) | refine wguard_split (fun hc => ?_) (fun hc => ?_) | refine wguardX_split (fun hc => ?_) (fun hc => ?_)) <;> have hd := hc <;> (try simp (disch := omega) only [wrapI] at hd) <;> have hs := hd <;> (try simp only [bne_iff_ne, bne_eq_false_iff_eq, Bool.not_false, ne_eq] at hd) <;> (try simp at hs)) | refine T_ret ?_ | refine wif_intro ?_ (fun hc => ?_) | refine And.intro ?_ ?_ | intro hc) | simp (maxSteps := 4000000) only [wops_nil, wops_cons, wstep_none, wstep_some, wguard_ff, wrun_call, wrun_mv, wrun_pick, wrun_bin, wrun_ext, wop, aop, ev, look, put_some, writes, ores_some, binV, thenK, List.map_cons, List.map_nil, List.getElem?_cons_zero, List.getElem?_cons_succ, List.append_nil, List.replicate_zero, Option.map_some, if_true, if_false, Nat.reduceEqDiff, reduceCtorEq, Bool.false_eq_true, eq_self, *] | simp (disch := omega) only [getD_ints, wrapI] | omega)
    refine wcall_E0 h34.1 rfl (rL2 hva (rds_iB (d := 0) gw4 rfl) (by omega) (by omega)) (by simp [plainL, plain]) ?_
    intro H5 hx5
    obtain ⟨q5, g5⟩ := hx5.cell g4
    obtain ⟨w5, gw5⟩ := hx5.cell gw4
    replace hvb := hvb.ext hx5
    clear hx5 g4 gw4 hva
    repeat' (first | ((with_reducible refine T_calm ?_ ?_); rfl) | (with_reducible first | refine T_seq ?_ | refine T_reg ?_ | refine T_draw ?_ | refine T_skip ?_ | refine T_exit ?_ | refine T_block ?_ | refine T_cond_t rfl ?_ | refine T_cond_f rfl ?_ | refine wdW_cons rfl ?_ | refine T_ret ?_ | refine wif_intro ?_ (fun hc => ?_) | refine And.intro ?_ ?_ | intro hc) | simp (maxSteps := 4000000) only [wops_cons, wstep_none, wstep_some, wguard_ff, wrun_call, wrun_mv, wrun_pick, wrun_not, wop, aop, ev, look, put_some, writes, ores_some, boolV, List.map_cons, List.map_nil, if_true, if_false, Nat.reduceEqDiff, reduceCtorEq, Bool.not_true, Bool.false_eq_true, eq_self, *] | simp (disch := omega) only [getD_ints, wrapI] | omega)
    refine wcall_E0 h34.1 rfl (rL2 hvb (rds_iB (d := 0) gw5 rfl) (by omega) (by omega)) (by simp [plainL, plain]) ?_
    intro H6 hx6
    obtain ⟨q6, g6⟩ := hx6.cell g5
    obtain ⟨w6, gw6⟩ := hx6.cell gw5
    clear hx6 g5 gw5 hvb
    repeat' (first | ((with_reducible refine T_calm ?_ ?_); rfl) | (with_reducible first | refine T_seq ?_ | refine T_reg ?_ | refine T_draw ?_ | refine T_skip ?_ | refine T_exit ?_ | refine T_block ?_ | refine T_cond_t rfl ?_ | refine T_cond_f rfl ?_ | refine wdW_cons rfl ?_ | refine T_ret ?_ | refine wif_intro ?_ (fun hc => ?_) | refine And.intro ?_ ?_ | intro hc) | simp (maxSteps := 4000000) only [wops_nil, wops_cons, wstep_none, wstep_some, wguard_ff, wrun_pick, wrun_not, wop, aop, ev, look, put_some, writes, ores_some, thenK, boolV, if_true, if_false, Nat.reduceEqDiff, reduceCtorEq, Bool.not_true, Bool.false_eq_true, eq_self, *] | simp (disch := omega) only [getD_ints, wrapI] | omega)
    exact T_onlyU [0, 3, 5, 6] rfl (hnext.down _ q6 w6 g6 gw6)
  · simp [St.only, get_mk, look]
end Go.Abs
