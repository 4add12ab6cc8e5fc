import Derived.Test.YtodheeifecoebaaK306x
set_option linter.all false
set_option linter.unusedVariables false
set_option linter.unusedSimpArgs false
set_option linter.unusedSectionVars false
namespace Go.Abs
open Go.Proofs
/-! law 12 -/
theorem rds_fml {H : List Blk} {q n d : Nat} {own : Bool} {w : Int} {ph : List Int} (h : H[q]? = some (.cells own false 1 (ph.map fun x => [i64 x]))) (hl : ph.length = n) : Rds (d + 2) H (.agg [i64 w, .lsl q 0 n]) (fmap w false ph) := ⟨by
  have h1 := (rds_lsl (d := d) h hl).1
  show AV.agg [rfy _ (d + 1) (i64 w), rfy _ (d + 1) (.lsl q 0 n)] = _
  rw [h1, rfyU], by simp [plain, plainL]⟩
theorem rl1 {d : Nat} {H : List Blk} {v w : AV} (h : Rds d H v w) (hd6 : d ≤ 6) : rfyL (hget H) [v] = [w] := by
  simp only [rfyL, List.map_cons, List.map_nil, h.six hd6]
set_option maxHeartbeats 8000000 in
theorem k12 (w : Int) (n1 : Bool) (zs : List Int) (n2 : Bool) (msk : List Int) : Fn Try.prog 12 [.agg [i64 w, ints n1 zs, ints n2 msk]] (bl true) [] := by
  refine fn_of e12 ?_
  have h57 := k57
  have hzl : (zs.map fun x => [i64 x]).length = zs.length := by simp
  have hql : (msk.map fun x => [i64 x]).length = msk.length := by simp
  have h32w := k32 w 1 6
  have h32n := k32 (zs.length : Int) 1 36
  have hT : ∀ τ : St, τ.get 2 = bl true → leave 0 [.tmp 2] (fun r' H' => r' = bl true ∧ H' = []) .ret τ := fun τ h => leave0 (.inr rfl) (by simp [resL, resAV, h]) (fun _ => rfl) ⟨rfl, rfl⟩
  by_cases c1 : 1 ≤ w ∧ w ≤ 6
  · rw [show (decide ((1 : Int) ≤ w) && decide (w ≤ 6)) = true by rw [decide_eq_true c1.1, decide_eq_true c1.2]; rfl] at h32w
    by_cases c2 : 1 ≤ (zs.length : Int) ∧ (zs.length : Int) ≤ 36
    · rw [show (decide ((1 : Int) ≤ zs.length) && decide ((zs.length : Int) ≤ 36)) = true by rw [decide_eq_true c2.1, decide_eq_true c2.2]; rfl] at h32n
      have hw0 : (w = 0) = False := by simp; omega
      by_cases c3 : (zs.length : Int).tmod w = 0
      · have d3 : ((zs.length : Int).tmod w != 0) = false := by simp only [bne_eq_false_iff_eq]; exact c3
        have hq := Int.tdiv_le_self w (show (0 : Int) ≤ (zs.length : Int) by omega)
        have hq0 : 0 ≤ (zs.length : Int).tdiv w := Int.tdiv_nonneg (by omega) (by omega)
        have ewq : IntKind.i64.wrap ((zs.length : Int).tdiv w) = (zs.length : Int).tdiv w := wrapI (by omega) (by omega)
        by_cases c4 : (zs.length : Int).tdiv w > 6
        · have d4 : decide ((zs.length : Int).tdiv w > 6) = true := decide_eq_true c4
          clear c4 hT
          unfold c12
          repeat' (first
            | ((with_reducible refine T_calm ?_ ?_); rfl)
            | with_reducible first
              | refine T_seq ?_
              | refine T_reg ?_
              | refine T_draw ?_
              | refine T_skip ?_
              | refine T_exit ?_
              | refine T_block ?_
              | refine T_cond_t rfl ?_
              | refine T_cond_f rfl ?_
              | refine wdW_cons rfl ?_
              | (show wcall _ false (.lit (.func (.func 57) _ _)) _ _ _ _; refine wcall_fn (h57) rfl (by simp [plainL]) ?_)
              | (show wcallX _ false (.lit (.func (.func 57) _ _)) _ _ _ _; refine wcallX_fn (h57) rfl (by simp [plainL, plain, plainR, hw0]) ?_)
              | (show wcall _ false (.lit (.func (.func 32) _ _)) _ _ _ _; refine wcall_fn (h32w) rfl (by simp [plainL, plain]) ?_)
              | (show wcallX _ false (.lit (.func (.func 32) _ _)) _ _ _ _; refine wcallX_fn (h32w) rfl (by simp [plainL, plain, plainR, hw0]) ?_)
              | (show wcall _ false (.lit (.func (.func 32) _ _)) _ _ _ _; refine wcall_fn (h32n) rfl (by simp [plainL, plain]) ?_)
              | (show wcallX _ false (.lit (.func (.func 32) _ _)) _ _ _ _; refine wcallX_fn (h32n) rfl (by simp [plainL, plain, plainR, hw0]) ?_)
              | ((first | refine T_cond rfl (fun hc => ?_) (fun hc => ?_) | refine wguard_split (fun hc => ?_) (fun hc => ?_) | refine wguardX_split (fun hc => ?_) (fun hc => ?_)) <;> have hd := hc <;> (try simp (disch := omega) only [wrapI] at hd) <;> have hs := hd <;> (try simp only [bne_iff_ne, bne_eq_false_iff_eq, Bool.not_false, ne_eq] at hd) <;> (try simp at hs))
              | refine T_ret ?_
              | refine leave_of (.inr rfl) _ rfl ?_
              | refine leave_of (.inl rfl) _ rfl ?_
              | refine leaveA_of (.inr rfl) _ rfl ?_
              | refine leaveA_of (.inl rfl) _ rfl ?_
              | refine wif_intro ?_ (fun hc => ?_)
              | refine And.intro ?_ ?_
              | intro hc
            | simp (maxSteps := 4000000) only [wops_nil, wops_cons, wstep_none, wstep_some, wguard_ff, wguard_tf, wrun_call, wrun_mv, wrun_pick, wrun_bin, wrun_not, wrun_load, wrun_faddr, wrun_len, wrun_box, get_mk, wop, aop, ev, look, put_some, writes, ores_some, ores_map, ores_bind, binV, thenK, boolV, intV, lenOf, value, cut, hget, AV.parts, isOne, mkAgg, tupOf, List.map_cons, List.map_nil, List.length_cons, List.length_nil, List.getElem?_cons_zero, List.set_cons_zero, List.take_succ_cons, List.take_zero, List.drop_succ_cons, List.drop_zero, List.nil_append, List.append_nil, List.replicate_zero, List.replicate_succ, List.getD_cons_zero, List.zipIdx_cons, List.zipIdx_nil, List.all_cons, List.all_nil, Option.pure_def, Option.bind_eq_bind, Option.getD_some, Option.map_some, if_true, if_false, Nat.reduceEqDiff, Nat.reduceAdd, Nat.add_zero, Nat.zero_add, Nat.zero_ne_one, reduceCtorEq, Bool.not_true, Bool.and_true, Bool.false_eq_true, eq_self, true_and, and_self, freeze, lidsL, lids, List.flatMap_cons, List.flatMap_nil, List.all_cons, ren, *]
            | simp (disch := omega) only [getD_ints, wrapI]
            | (with_reducible show wcall _ false (.lit (.func (.func 57) _ _)) _ _ _ _; refine wcall_fn (h57) ?_ ?_ ?_; (next => simp [rfyL, rfy, hget, ints, take_rfy, hw0]); (next => simp [plainL, plain, plainR, hw0]))
            | (with_reducible show wcallX _ false (.lit (.func (.func 57) _ _)) _ _ _ _; refine wcallX_fn (h57) ?_ ?_ ?_; (next => simp [rfyL, rfy, hget, ints, take_rfy, hw0]); (next => simp [plainL, plain, plainR, hw0]))
            | (with_reducible show wcall _ false (.lit (.func (.func 32) _ _)) _ _ _ _; refine wcall_fn (h32w) ?_ ?_ ?_; (next => simp [rfyL, rfy, hget, ints, take_rfy, hw0]); (next => simp [plainL, plain, plainR, hw0]))
            | (with_reducible show wcallX _ false (.lit (.func (.func 32) _ _)) _ _ _ _; refine wcallX_fn (h32w) ?_ ?_ ?_; (next => simp [rfyL, rfy, hget, ints, take_rfy, hw0]); (next => simp [plainL, plain, plainR, hw0]))
            | (with_reducible show wcall _ false (.lit (.func (.func 32) _ _)) _ _ _ _; refine wcall_fn (h32n) ?_ ?_ ?_; (next => simp [rfyL, rfy, hget, ints, take_rfy, hw0]); (next => simp [plainL, plain, plainR, hw0]))
            | (with_reducible show wcallX _ false (.lit (.func (.func 32) _ _)) _ _ _ _; refine wcallX_fn (h32n) ?_ ?_ ?_; (next => simp [rfyL, rfy, hget, ints, take_rfy, hw0]); (next => simp [plainL, plain, plainR, hw0]))
            | omega)
          all_goals first | rfl
        · have d4 : decide ((zs.length : Int).tdiv w > 6) = false := decide_eq_false c4
          by_cases c5 : (msk.length : Int) > 36
          · have d5 : decide ((msk.length : Int) > 36) = true := decide_eq_true c5
            clear c4 c5 hT
            unfold c12
            repeat' (first
              | ((with_reducible refine T_calm ?_ ?_); rfl)
              | with_reducible first
                | refine T_seq ?_
                | refine T_reg ?_
                | refine T_draw ?_
                | refine T_skip ?_
                | refine T_exit ?_
                | refine T_block ?_
                | refine T_cond_t rfl ?_
                | refine T_cond_f rfl ?_
                | refine wdW_cons rfl ?_
                | (show wcall _ false (.lit (.func (.func 57) _ _)) _ _ _ _; refine wcall_fn (h57) rfl (by simp [plainL]) ?_)
                | (show wcallX _ false (.lit (.func (.func 57) _ _)) _ _ _ _; refine wcallX_fn (h57) rfl (by simp [plainL, plain, plainR, hw0]) ?_)
                | (show wcall _ false (.lit (.func (.func 32) _ _)) _ _ _ _; refine wcall_fn (h32w) rfl (by simp [plainL, plain]) ?_)
                | (show wcallX _ false (.lit (.func (.func 32) _ _)) _ _ _ _; refine wcallX_fn (h32w) rfl (by simp [plainL, plain, plainR, hw0]) ?_)
                | (show wcall _ false (.lit (.func (.func 32) _ _)) _ _ _ _; refine wcall_fn (h32n) rfl (by simp [plainL, plain]) ?_)
                | (show wcallX _ false (.lit (.func (.func 32) _ _)) _ _ _ _; refine wcallX_fn (h32n) rfl (by simp [plainL, plain, plainR, hw0]) ?_)
                | ((first | refine T_cond rfl (fun hc => ?_) (fun hc => ?_) | refine wguard_split (fun hc => ?_) (fun hc => ?_) | refine wguardX_split (fun hc => ?_) (fun hc => ?_)) <;> have hd := hc <;> (try simp (disch := omega) only [wrapI] at hd) <;> have hs := hd <;> (try simp only [bne_iff_ne, bne_eq_false_iff_eq, Bool.not_false, ne_eq] at hd) <;> (try simp at hs))
                | refine T_ret ?_
                | refine leave_of (.inr rfl) _ rfl ?_
                | refine leave_of (.inl rfl) _ rfl ?_
                | refine leaveA_of (.inr rfl) _ rfl ?_
                | refine leaveA_of (.inl rfl) _ rfl ?_
                | refine wif_intro ?_ (fun hc => ?_)
                | refine And.intro ?_ ?_
                | intro hc
              | simp (maxSteps := 4000000) only [wops_nil, wops_cons, wstep_none, wstep_some, wguard_ff, wrun_call, wrun_mv, wrun_pick, wrun_bin, wrun_not, wrun_load, wrun_faddr, wrun_len, wrun_box, get_mk, wop, aop, ev, look, put_some, writes, ores_some, ores_map, ores_bind, binV, thenK, boolV, intV, lenOf, value, cut, hget, AV.parts, isOne, mkAgg, tupOf, List.map_cons, List.map_nil, List.length_cons, List.length_nil, List.getElem?_cons_zero, List.set_cons_zero, List.take_succ_cons, List.take_zero, List.take_nil, List.drop_succ_cons, List.drop_zero, List.nil_append, List.append_nil, List.replicate_zero, List.replicate_succ, List.getD_cons_zero, List.zipIdx_cons, List.zipIdx_nil, List.all_cons, List.all_nil, Option.pure_def, Option.bind_eq_bind, Option.getD_some, Option.map_some, if_true, if_false, Nat.reduceEqDiff, Nat.reduceAdd, Nat.add_zero, Nat.zero_add, Nat.zero_ne_one, reduceCtorEq, Bool.not_true, Bool.and_true, Bool.false_eq_true, eq_self, true_and, and_self, freeze, lidsL, lids, List.flatMap_cons, List.flatMap_nil, List.all_cons, ren, *]
              | simp (disch := omega) only [getD_ints, wrapI]
              | (with_reducible show wcall _ false (.lit (.func (.func 57) _ _)) _ _ _ _; refine wcall_fn (h57) ?_ ?_ ?_; (next => simp [rfyL, rfy, hget, ints, take_rfy, hw0]); (next => simp [plainL, plain, plainR, hw0]))
              | (with_reducible show wcallX _ false (.lit (.func (.func 57) _ _)) _ _ _ _; refine wcallX_fn (h57) ?_ ?_ ?_; (next => simp [rfyL, rfy, hget, ints, take_rfy, hw0]); (next => simp [plainL, plain, plainR, hw0]))
              | (with_reducible show wcall _ false (.lit (.func (.func 32) _ _)) _ _ _ _; refine wcall_fn (h32w) ?_ ?_ ?_; (next => simp [rfyL, rfy, hget, ints, take_rfy, hw0]); (next => simp [plainL, plain, plainR, hw0]))
              | (with_reducible show wcallX _ false (.lit (.func (.func 32) _ _)) _ _ _ _; refine wcallX_fn (h32w) ?_ ?_ ?_; (next => simp [rfyL, rfy, hget, ints, take_rfy, hw0]); (next => simp [plainL, plain, plainR, hw0]))
              | (with_reducible show wcall _ false (.lit (.func (.func 32) _ _)) _ _ _ _; refine wcall_fn (h32n) ?_ ?_ ?_; (next => simp [rfyL, rfy, hget, ints, take_rfy, hw0]); (next => simp [plainL, plain, plainR, hw0]))
              | (with_reducible show wcallX _ false (.lit (.func (.func 32) _ _)) _ _ _ _; refine wcallX_fn (h32n) ?_ ?_ ?_; (next => simp [rfyL, rfy, hget, ints, take_rfy, hw0]); (next => simp [plainL, plain, plainR, hw0]))
              | omega)
            all_goals first | rfl
          · have d5 : decide ((msk.length : Int) > 36) = false := decide_eq_false c5
            have hl : zs.length ≤ 1000 := by omega
            have hl0 := fun {i H} hi hJ K hK => k12l0 (w := w) (n1 := n1) (n2 := n2) (zs := zs) (msk := msk) (i := i) (H := H) hl (by omega) hi hJ K hK
            have hJ0 : J12 w n1 n2 zs msk 0 [.cells true false 3 [[i64 w, ints n1 zs, ints n2 msk]], .cells true false 2 [[i64 w, .sl true 0 []]]] := ⟨rfl, fun _ => rfl, fun h => (h rfl).elim⟩
            have hfr : checkFr w (phL zs msk zs.length) = 0 := by
              have h1 := Int.mul_tdiv_add_tmod (zs.length : Int) w
              have hwn : (w = 1 ∨ w = 2 ∨ w = 3 ∨ w = 4 ∨ w = 5 ∨ w = 6) := by omega
              refine fr_zero (by omega) (by rw [phL_len]; omega) (by rw [phL_len]; exact c3) ?_ (phL_ok zs msk zs.length)
              rw [phL_len]
              generalize (zs.length : Int).tdiv w = y at *
              rw [c3] at h1
              rcases hwn with rfl | rfl | rfl | rfl | rfl | rfl <;> omega
            replace hl0 := PLift.up @hl0
            replace hJ0 := PLift.up hJ0
            replace hT := PLift.up hT
            replace hfr := PLift.up hfr
            replace c3 := PLift.up c3
            clear c4 c5 hq hq0
            unfold c12
            repeat' (first
              | ((with_reducible refine T_calm ?_ ?_); rfl)
              | with_reducible first
                | refine T_seq ?_
                | refine T_reg ?_
                | refine T_draw ?_
                | refine T_skip ?_
                | refine T_exit ?_
                | refine T_block ?_
                | refine T_cond_t rfl ?_
                | refine T_cond_f rfl ?_
                | refine wdW_cons rfl ?_
                | (show wcall _ false (.lit (.func (.func 57) _ _)) _ _ _ _; refine wcall_fn (h57) rfl (by simp [plainL]) ?_)
                | (show wcallX _ false (.lit (.func (.func 57) _ _)) _ _ _ _; refine wcallX_fn (h57) rfl (by simp [plainL, plain, plainR, hw0]) ?_)
                | (show wcall _ false (.lit (.func (.func 32) _ _)) _ _ _ _; refine wcall_fn (h32w) rfl (by simp [plainL, plain]) ?_)
                | (show wcallX _ false (.lit (.func (.func 32) _ _)) _ _ _ _; refine wcallX_fn (h32w) rfl (by simp [plainL, plain, plainR, hw0]) ?_)
                | (show wcall _ false (.lit (.func (.func 32) _ _)) _ _ _ _; refine wcall_fn (h32n) rfl (by simp [plainL, plain]) ?_)
                | (show wcallX _ false (.lit (.func (.func 32) _ _)) _ _ _ _; refine wcallX_fn (h32n) rfl (by simp [plainL, plain, plainR, hw0]) ?_)
                | ((first | refine T_cond rfl (fun hc => ?_) (fun hc => ?_) | refine wguard_split (fun hc => ?_) (fun hc => ?_) | refine wguardX_split (fun hc => ?_) (fun hc => ?_)) <;> have hd := hc <;> (try simp (disch := omega) only [wrapI] at hd) <;> have hs := hd <;> (try simp only [Bool.not_eq_true', Bool.not_eq_false', Bool.and_eq_true, Bool.and_eq_false_iff, Bool.or_eq_true, Bool.or_eq_false_iff, decide_eq_true_eq, decide_eq_false_iff_not, beq_iff_eq, bne_iff_ne, beq_eq_false_iff_ne, bne_eq_false_iff_eq, Bool.not_true, Bool.not_false, gt_iff_lt, ge_iff_le, Int.not_lt, Int.not_le, ne_eq, Decidable.not_not] at hd) <;> (try simp at hs))
                | refine T_ret ?_
                | refine leave_of (.inr rfl) _ rfl ?_
                | refine leave_of (.inl rfl) _ rfl ?_
                | refine leaveA_of (.inr rfl) _ rfl ?_
                | refine leaveA_of (.inl rfl) _ rfl ?_
                | refine wif_intro ?_ (fun hc => ?_)
                | refine And.intro ?_ ?_
                | intro hc
              | simp (maxSteps := 4000000) only [wops_nil, wops_cons, wstep_none, wstep_some, wguard_ff, wrun_call, wrun_mv, wrun_pick, wrun_bin, wrun_not, wrun_build, wrun_load, wrun_store, wrun_faddr, wrun_len, wrun_alloc, wrun_box, wop, aop, ev, look, put_some, put_none, writes, ores_some, ores_ite_none, ores_map, ores_bind, wif_true, binV, thenK, boolV, intV, lenOf, value, cut, hget, fillA, putCells, AV.parts, isOne, toLits, mkAgg, List.map_cons, List.map_nil, List.length_cons, List.length_nil, List.getElem?_cons_zero, List.getElem?_cons_succ, List.set_cons_zero, List.set_cons_succ, List.take_succ_cons, List.take_zero, List.take_nil, List.drop_succ_cons, List.drop_zero, List.drop_nil, List.cons_append, List.nil_append, List.append_nil, List.append_assoc, List.replicate_zero, List.replicate_succ, List.getD_cons_zero, List.zipIdx_cons, List.zipIdx_nil, List.all_cons, List.all_nil, Option.pure_def, Option.bind_eq_bind, Option.getD_some, Option.map_some, Option.map_none, if_true, if_false, Nat.reduceEqDiff, Nat.reduceAdd, Nat.reduceLeDiff, Nat.reduceLT, Nat.add_zero, Nat.zero_add, Nat.le_refl, Nat.zero_ne_one, reduceCtorEq, Bool.not_true, Bool.and_true, Bool.false_eq_true, eq_self, true_and, and_self, freeze, lidsL, lids, List.flatMap_cons, List.flatMap_nil, List.all_cons, ren, *]
              | simp (disch := omega) only [getD_ints, wrapI]
              | (with_reducible show wcall _ false (.lit (.func (.func 57) _ _)) _ _ _ _; refine wcall_fn (h57) ?_ ?_ ?_; (next => simp [rfyL, rfy, hget, ints, take_rfy, hw0]); (next => simp [plainL, plain, plainR, hw0]))
              | (with_reducible show wcallX _ false (.lit (.func (.func 57) _ _)) _ _ _ _; refine wcallX_fn (h57) ?_ ?_ ?_; (next => simp [rfyL, rfy, hget, ints, take_rfy, hw0]); (next => simp [plainL, plain, plainR, hw0]))
              | (with_reducible show wcall _ false (.lit (.func (.func 32) _ _)) _ _ _ _; refine wcall_fn (h32w) ?_ ?_ ?_; (next => simp [rfyL, rfy, hget, ints, take_rfy, hw0]); (next => simp [plainL, plain, plainR, hw0]))
              | (with_reducible show wcallX _ false (.lit (.func (.func 32) _ _)) _ _ _ _; refine wcallX_fn (h32w) ?_ ?_ ?_; (next => simp [rfyL, rfy, hget, ints, take_rfy, hw0]); (next => simp [plainL, plain, plainR, hw0]))
              | (with_reducible show wcall _ false (.lit (.func (.func 32) _ _)) _ _ _ _; refine wcall_fn (h32n) ?_ ?_ ?_; (next => simp [rfyL, rfy, hget, ints, take_rfy, hw0]); (next => simp [plainL, plain, plainR, hw0]))
              | (with_reducible show wcallX _ false (.lit (.func (.func 32) _ _)) _ _ _ _; refine wcallX_fn (h32n) ?_ ?_ ?_; (next => simp [rfyL, rfy, hget, ints, take_rfy, hw0]); (next => simp [plainL, plain, plainR, hw0]))
              | omega)
            refine T_loop_only [1, 3, 4, 5] (fun m s => ∃ i, i ≤ zs.length ∧ m = zs.length - i ∧ (∀ j, j < i → -1000000 ≤ zs.getD j 0 ∧ zs.getD j 0 ≤ 1000000) ∧ J12 w n1 n2 zs msk i s.heap ∧ s.slots = SL12 zs.length i) zs.length ⟨0, Nat.zero_le _, rfl, fun j hj => by omega, hJ0.down, ?_⟩ ?_
            · simp [St.only, get_mk, look]
            clear hJ0 h57 h32w h32n d3 d4 d5 ewq hql
            rintro m ⟨s, H⟩ ⟨i, hi, rfl, hbj, hJ, rfl⟩
            by_cases hin : i < zs.length
            · refine T_thenR (hl0.down hin hJ _ fun τ h => hT.down τ h) fun s' h' => ?_
              refine ⟨zs.length - (i + 1), by omega, i + 1, by omega, rfl, fun j hj => ?_, h'.2.1, h'.2.2⟩
              rcases Nat.lt_succ_iff_lt_or_eq.1 hj with h | rfl
              · exact hbj j h
              · exact h'.1
            have hie : i = zs.length := by omega
            subst hie
            have hbd : ∀ j, -1000000 ≤ zs.getD j 0 ∧ zs.getD j 0 ≤ 1000000 := fun j => by
              by_cases hj : j < zs.length
              · exact hbj j hj
              · rw [List.getD_eq_getElem?_getD, List.getElem?_eq_none (by omega)]; simp
            obtain ⟨q, hq1, j1, jq⟩ := hJ.s (by omega)
            have jb := hJ.b
            have hl1 := fun {i} hi K hK => k12l1 (w := w) (n1 := n1) (n2 := n2) (zs := zs) (msk := msk) (i := i) (H := H) hl c1 c3.down hbd hi jb K hK
            replace hl1 := PLift.up @hl1
            replace hbd := PLift.up hbd
            replace jb := PLift.up jb
            replace j1 := PLift.up j1
            replace jq := PLift.up jq
            replace hq1 := PLift.up hq1
            clear hl0 hbj hJ hin
            unfold c12l0
            repeat' (first
              | ((with_reducible refine T_calm ?_ ?_); rfl)
              | with_reducible first
                | refine T_seq ?_
                | refine T_reg ?_
                | refine T_draw ?_
                | refine T_skip ?_
                | refine T_exit ?_
                | refine T_block ?_
                | refine T_cond_t rfl ?_
                | refine T_cond_f rfl ?_
                | refine wdW_cons rfl ?_
                | ((first | refine T_cond rfl (fun hc => ?_) (fun hc => ?_) | refine wguard_split (fun hc => ?_) (fun hc => ?_) | refine wguardX_split (fun hc => ?_) (fun hc => ?_)) <;> have hd := hc <;> (try simp (disch := omega) only [wrapI] at hd) <;> have hs := hd <;> (try simp only [decide_eq_true_eq, decide_eq_false_iff_not, Int.not_lt] at hd) <;> (try simp at hs))
                | refine T_ret ?_
                | refine leave_of (.inr rfl) _ rfl ?_
                | refine leave_of (.inl rfl) _ rfl ?_
                | refine leaveA_of (.inr rfl) _ rfl ?_
                | refine leaveA_of (.inl rfl) _ rfl ?_
                | refine wif_intro ?_ (fun hc => ?_)
                | refine And.intro ?_ ?_
                | intro hc
              | simp (maxSteps := 4000000) only [wops_nil, wops_cons, wstep_none, wrun_mv, wrun_bin, wop, aop, ev, look, put_some, writes, ores_some, binV, thenK, blockK, List.append_nil, List.replicate_zero, Option.map_some, if_true, if_false, Nat.reduceEqDiff, Nat.sub_self, reduceCtorEq, eq_self, false_and, Int.reduceNeg, Nat.not_lt_zero, *]
              | simp (disch := omega) only [getD_ints, wrapI]
              | omega)
            refine T_loop_only [1, 3, 4, 6] (fun m s => ∃ i, i ≤ zs.length ∧ m = zs.length - i ∧ (∀ j, j < i → okR w zs j ∧ okD w zs j) ∧ s = ⟨SLb12 zs.length i, H⟩) zs.length ⟨0, Nat.zero_le _, rfl, fun j hj => by omega, ?_⟩ ?_
            · simp [St.only, get_mk, look]
            rintro m s ⟨i, hi, rfl, hok, rfl⟩
            by_cases hin : i < zs.length
            · refine T_thenR (hl1.down hin _ fun τ h => hT.down τ h) fun s' h' => ?_
              refine ⟨zs.length - (i + 1), by omega, i + 1, by omega, rfl, fun j hj => ?_, h'.2⟩
              rcases Nat.lt_succ_iff_lt_or_eq.1 hj with h | rfl
              · exact hok j h
              · exact h'.1
            have hie : i = zs.length := by omega
            subst hie
            have hcalm : Calm w zs := ⟨fun i hi hm => (hok i (by omega)).1 hm, fun i j hij hj => by
              have := (hok i (by omega)).2 (by omega)
              rwa [← hij, Int.toNat_natCast] at this⟩
            have hpz := calm_pot (msk := msk) hcalm
            have hpl := phL_len zs msk zs.length
            have hokp := phL_ok zs msk zs.length
            have h42 := k42 w false (phL zs msk zs.length) (by omega) hfr.down hokp (by omega)
            have h60 := k60 w false (phL zs msk zs.length) (by omega) hfr.down hokp (by omega)
            rw [rsd_nil c1.1 hpz] at h60
            have h60' : Fn Try.prog 60 [fmap w false (phL zs msk zs.length)] (.tup [.sl true 0 [], i64 0]) [] := h60
            have r1 := PLift.up (rds_fml (d := 1) (w := w) jq.down hpl)
            replace h42 := PLift.up h42
            replace h60 := PLift.up h60'
            replace hpz := PLift.up hpz
            replace hokp := PLift.up hokp
            replace hok := PLift.up hok
            replace hcalm := PLift.up hcalm
            have j1' := j1.down
            clear hl1 hin h60'
            unfold c12l1
            repeat' (first
              | ((with_reducible refine T_calm ?_ ?_); rfl)
              | with_reducible first
                | refine T_seq ?_
                | refine T_reg ?_
                | refine T_draw ?_
                | refine T_skip ?_
                | refine T_exit ?_
                | refine T_block ?_
                | refine T_cond_t rfl ?_
                | refine T_cond_f rfl ?_
                | refine wdW_cons rfl ?_
                | ((first | refine T_cond rfl (fun hc => ?_) (fun hc => ?_) | refine wguard_split (fun hc => ?_) (fun hc => ?_) | refine wguardX_split (fun hc => ?_) (fun hc => ?_)) <;> have hd := hc <;> (try simp (disch := omega) only [wrapI] at hd) <;> have hs := hd <;> (try simp only [Bool.not_eq_true', Bool.not_eq_false', Bool.and_eq_true, Bool.and_eq_false_iff, Bool.or_eq_true, Bool.or_eq_false_iff, decide_eq_true_eq, decide_eq_false_iff_not, beq_iff_eq, bne_iff_ne, beq_eq_false_iff_ne, bne_eq_false_iff_eq, Bool.not_true, Bool.not_false, gt_iff_lt, ge_iff_le, Int.not_lt, Int.not_le, ne_eq, Decidable.not_not] at hd) <;> (try simp at hs))
                | refine T_ret ?_
                | refine leave_of (.inr rfl) _ rfl ?_
                | refine leave_of (.inl rfl) _ rfl ?_
                | refine leaveA_of (.inr rfl) _ rfl ?_
                | refine leaveA_of (.inl rfl) _ rfl ?_
                | refine wif_intro ?_ (fun hc => ?_)
                | refine And.intro ?_ ?_
                | intro hc
              | simp (maxSteps := 4000000) only [wops_nil, wops_cons, wstep_none, wrun_call, wrun_mv, wrun_bin, wrun_load, wop, aop, ev, look, put_some, writes, ores_some, binV, thenK, blockK, value, cut, hget, toLits, mkAgg, List.map_cons, List.map_nil, List.length_cons, List.length_nil, List.take_succ_cons, List.take_nil, List.drop_zero, List.append_nil, List.replicate_zero, List.getD_cons_zero, Option.getD_some, Option.map_some, Option.map_none, if_true, if_false, Nat.reduceEqDiff, Nat.reduceAdd, Nat.zero_add, Nat.sub_self, reduceCtorEq, eq_self, false_and, Nat.not_lt_zero, *]
              | simp (disch := omega) only [getD_ints, wrapI]
              | omega)
            refine wcall_42 h42.down (rl1 r1.down (by omega)) (by simp [plainL, plain]) (fun o f id H1 hx1 hpc hpot hid => ?_) (fun o f id L H1 hx1 hpc hno hid hL hch => ?_)
            · rw [hpl] at hid
              obtain ⟨o0, b0⟩ := hx1.cell jb.down
              obtain ⟨o1, b1⟩ := hx1.cell j1.down
              obtain ⟨o2, b2⟩ := hx1.cell jq.down
              have r2 := PLift.up (r1.down.ext hx1)
              replace hpc := PLift.up hpc
              replace hpot := PLift.up hpot
              clear hx1 j1' r1 h42
              repeat' (first
                | ((with_reducible refine T_calm ?_ ?_); rfl)
                | with_reducible first
                  | refine T_seq ?_
                  | refine T_reg ?_
                  | refine T_draw ?_
                  | refine T_skip ?_
                  | refine T_exit ?_
                  | refine T_block ?_
                  | refine T_cond_t rfl ?_
                  | refine T_cond_f rfl ?_
                  | refine wdW_cons rfl ?_
                  | ((first | refine T_cond rfl (fun hc => ?_) (fun hc => ?_) | refine wguard_split (fun hc => ?_) (fun hc => ?_) | refine wguardX_split (fun hc => ?_) (fun hc => ?_)) <;> have hd := hc <;> (try simp (disch := omega) only [wrapI] at hd) <;> have hs := hd <;> (try simp only [Bool.not_eq_true', Bool.not_eq_false', Bool.and_eq_true, Bool.and_eq_false_iff, Bool.or_eq_true, Bool.or_eq_false_iff, decide_eq_true_eq, decide_eq_false_iff_not, beq_iff_eq, bne_iff_ne, beq_eq_false_iff_ne, bne_eq_false_iff_eq, Bool.not_true, Bool.not_false, gt_iff_lt, ge_iff_le, Int.not_lt, Int.not_le, ne_eq, Decidable.not_not] at hd) <;> (try simp at hs))
                  | refine T_ret ?_
                  | refine leave_of (.inr rfl) _ rfl ?_
                  | refine leave_of (.inl rfl) _ rfl ?_
                  | refine leaveA_of (.inr rfl) _ rfl ?_
                  | refine leaveA_of (.inl rfl) _ rfl ?_
                  | refine wif_intro ?_ (fun hc => ?_)
                  | refine And.intro ?_ ?_
                  | intro hc
                | simp (maxSteps := 4000000) only [wops_nil, wops_cons, wstep_none, wrun_call, wrun_mv, wrun_ext, wrun_load, wop, aop, ev, look, put_some, writes, ores_some, thenK, value, cut, hget, toLits, mkAgg, List.map_cons, List.map_nil, List.length_cons, List.length_nil, List.getElem?_cons_zero, List.getElem?_cons_succ, List.take_succ_cons, List.take_nil, List.drop_zero, List.append_nil, List.replicate_zero, List.getD_cons_zero, Option.getD_some, Option.map_some, Option.map_none, if_true, if_false, Nat.reduceEqDiff, Nat.reduceAdd, Nat.zero_add, eq_self, *]
                | simp (disch := omega) only [getD_ints, wrapI]
                | omega)
              refine wcall_E0 h60.down rfl (rl1 r2.down (by omega)) (by simp [plainL, plain]) fun H2 hx2 => ?_
              have hE : E12 w n1 n2 zs msk f q id H2 := ⟨⟨_, (hx2.cell b0).choose_spec⟩, ⟨_, (hx2.cell b1).choose_spec⟩, ⟨_, (hx2.cell b2).choose_spec⟩, ⟨_, (hx2.cell hid).choose_spec⟩⟩
              obtain ⟨o3, m3⟩ := hE.h
              have hnn : (zs.length != zs.length) = false := by simp
              have hl3 := fun {i} hi K => k12l3 (i := i) hl c1 hbd.down (pc_bd hpc.down (by omega)) hE hi (fun a b he => by rw [hpot.down a b he, ← hpz.down a b he]) (fun hp0 => by
                have h1 := pc_mod hpc.down ((pc_in hpc.down).2 (there_ph hi hp0))
                rw [phL_get hi] at h1
                have h2 := phs_there (msk := msk) hi (there_ph hi hp0)
                rw [h2] at h1
                omega) K
              replace hl3 := PLift.up @hl3
              clear hx2 b0 b1 b2 hid r2 h60 hE
              repeat' (first
                | ((with_reducible refine T_calm ?_ ?_); rfl)
                | with_reducible first
                  | refine T_seq ?_
                  | refine T_reg ?_
                  | refine T_draw ?_
                  | refine T_skip ?_
                  | refine T_exit ?_
                  | refine T_block ?_
                  | refine T_cond_t rfl ?_
                  | refine T_cond_f rfl ?_
                  | refine wdW_cons rfl ?_
                  | ((first | refine T_cond rfl (fun hc => ?_) (fun hc => ?_) | refine wguard_split (fun hc => ?_) (fun hc => ?_) | refine wguardX_split (fun hc => ?_) (fun hc => ?_)) <;> have hd := hc <;> (try simp (disch := omega) only [wrapI] at hd) <;> have hs := hd <;> (try simp only [bne_iff_ne, bne_eq_false_iff_eq, Bool.not_false, ne_eq] at hd) <;> (try simp at hs))
                  | refine T_ret ?_
                  | refine leave_of (.inr rfl) _ rfl ?_
                  | refine leave_of (.inl rfl) _ rfl ?_
                  | refine leaveA_of (.inr rfl) _ rfl ?_
                  | refine leaveA_of (.inl rfl) _ rfl ?_
                  | refine wif_intro ?_ (fun hc => ?_)
                  | refine And.intro ?_ ?_
                  | intro hc
                | simp (maxSteps := 4000000) only [wops_nil, wops_cons, wstep_none, wstep_some, wguard_ff, wrun_mv, wrun_pick, wrun_bin, wrun_ext, wrun_len, wop, aop, ev, look, put_some, writes, ores_some, ores_map, ores_bind, binV, thenK, intV, lenOf, hget, List.length_nil, List.getElem?_cons_zero, List.getElem?_cons_succ, List.append_nil, List.replicate_zero, Option.pure_def, Option.bind_eq_bind, Option.getD_some, Option.map_some, if_true, if_false, Nat.reduceEqDiff, reduceCtorEq, Bool.false_eq_true, eq_self, *]
                | simp (disch := omega) only [getD_ints, wrapI]
                | omega)
              refine T_loop_only [1, 3, 4, 7, 12] (fun m s => ∃ i, i ≤ zs.length ∧ m = zs.length - i ∧ s = ⟨SLi12 zs.length i id, H2⟩) zs.length ⟨0, Nat.zero_le _, rfl, ?_⟩ ?_
              · simp [St.only, get_mk, look]
              rintro m s ⟨i, hi, rfl, rfl⟩
              by_cases hin : i < zs.length
              · refine T_thenR (hl3.down hin _) fun s' h' => ?_
                exact ⟨zs.length - (i + 1), by omega, i + 1, by omega, rfl, h'⟩
              have hie : i = zs.length := by omega
              subst hie
              clear hl3 hpc hpot m3
              unfold c12l3
              repeat' (first
                | ((with_reducible refine T_calm ?_ ?_); rfl)
                | with_reducible first
                  | refine T_seq ?_
                  | refine T_reg ?_
                  | refine T_draw ?_
                  | refine T_skip ?_
                  | refine T_exit ?_
                  | refine T_block ?_
                  | refine T_cond_t rfl ?_
                  | refine T_cond_f rfl ?_
                  | refine wdW_cons rfl ?_
                  | ((first | refine T_cond rfl (fun hc => ?_) (fun hc => ?_) | refine wguard_split (fun hc => ?_) (fun hc => ?_) | refine wguardX_split (fun hc => ?_) (fun hc => ?_)) <;> have hd := hc <;> (try simp (disch := omega) only [wrapI] at hd) <;> have hs := hd <;> (try simp only [Bool.not_eq_true', Bool.not_eq_false', Bool.and_eq_true, Bool.and_eq_false_iff, Bool.or_eq_true, Bool.or_eq_false_iff, decide_eq_true_eq, decide_eq_false_iff_not, beq_iff_eq, bne_iff_ne, beq_eq_false_iff_ne, bne_eq_false_iff_eq, Bool.not_true, Bool.not_false, gt_iff_lt, ge_iff_le, Int.not_lt, Int.not_le, ne_eq, Decidable.not_not] at hd) <;> (try simp at hs))
                  | refine T_ret ?_
                  | refine leave_of (.inr rfl) _ rfl ?_
                  | refine leave_of (.inl rfl) _ rfl ?_
                  | refine leaveA_of (.inr rfl) _ rfl ?_
                  | refine leaveA_of (.inl rfl) _ rfl ?_
                  | refine wif_intro ?_ (fun hc => ?_)
                  | refine And.intro ?_ ?_
                  | intro hc
                | simp (maxSteps := 4000000) only [wops_nil, wops_cons, wstep_none, wrun_mv, wrun_bin, get_mk, wop, aop, ev, look, put_some, writes, ores_some, binV, thenK, blockK, tupOf, List.append_nil, List.replicate_zero, Option.map_some, if_true, if_false, Nat.reduceEqDiff, Nat.sub_self, reduceCtorEq, eq_self, false_and, Int.reduceNeg, ren, Nat.not_lt_zero, *]
                | simp (disch := omega) only [getD_ints, wrapI]
                | omega)
              all_goals first | rfl
            · obtain ⟨fr, fo⟩ := hpc.fo
              exact (hno (fo.pot (grid_gr _ _) (fun c _ ht => (pc_in hpc).2 ht) hpz.down)).elim
      · have d3 : ((zs.length : Int).tmod w != 0) = true := by simp only [bne_iff_ne]; exact c3
        clear c3 hT
        unfold c12
        repeat' (first
          | ((with_reducible refine T_calm ?_ ?_); rfl)
          | with_reducible first
            | refine T_seq ?_
            | refine T_reg ?_
            | refine T_draw ?_
            | refine T_skip ?_
            | refine T_exit ?_
            | refine T_block ?_
            | refine T_cond_t rfl ?_
            | refine T_cond_f rfl ?_
            | refine wdW_cons rfl ?_
            | (show wcall _ false (.lit (.func (.func 57) _ _)) _ _ _ _; refine wcall_fn (h57) rfl (by simp [plainL]) ?_)
            | (show wcallX _ false (.lit (.func (.func 57) _ _)) _ _ _ _; refine wcallX_fn (h57) rfl (by simp [plainL, plain, plainR, hw0]) ?_)
            | (show wcall _ false (.lit (.func (.func 32) _ _)) _ _ _ _; refine wcall_fn (h32w) rfl (by simp [plainL, plain]) ?_)
            | (show wcallX _ false (.lit (.func (.func 32) _ _)) _ _ _ _; refine wcallX_fn (h32w) rfl (by simp [plainL, plain, plainR, hw0]) ?_)
            | (show wcall _ false (.lit (.func (.func 32) _ _)) _ _ _ _; refine wcall_fn (h32n) rfl (by simp [plainL, plain]) ?_)
            | (show wcallX _ false (.lit (.func (.func 32) _ _)) _ _ _ _; refine wcallX_fn (h32n) rfl (by simp [plainL, plain, plainR, hw0]) ?_)
            | ((first | refine T_cond rfl (fun hc => ?_) (fun hc => ?_) | refine wguard_split (fun hc => ?_) (fun hc => ?_) | refine wguardX_split (fun hc => ?_) (fun hc => ?_)) <;> have hd := hc <;> (try simp (disch := omega) only [wrapI] at hd) <;> have hs := hd <;> (try simp only [Bool.not_eq_true', Bool.not_eq_false', Bool.and_eq_true, Bool.and_eq_false_iff, Bool.or_eq_true, Bool.or_eq_false_iff, decide_eq_true_eq, decide_eq_false_iff_not, beq_iff_eq, bne_iff_ne, beq_eq_false_iff_ne, bne_eq_false_iff_eq, Bool.not_true, Bool.not_false, gt_iff_lt, ge_iff_le, Int.not_lt, Int.not_le, ne_eq, Decidable.not_not] at hd) <;> (try simp at hs))
            | refine T_ret ?_
            | refine leave_of (.inr rfl) _ rfl ?_
            | refine leave_of (.inl rfl) _ rfl ?_
            | refine leaveA_of (.inr rfl) _ rfl ?_
            | refine leaveA_of (.inl rfl) _ rfl ?_
            | refine wif_intro ?_ (fun hc => ?_)
            | refine And.intro ?_ ?_
            | intro hc
          | simp (maxSteps := 4000000) only [wops_nil, wops_cons, wstep_none, wstep_some, wguard_ff, wguard_tf, wrun_call, wrun_mv, wrun_pick, wrun_bin, wrun_not, wrun_load, wrun_faddr, wrun_len, wrun_box, get_mk, wop, aop, ev, look, put_some, writes, ores_some, ores_map, ores_bind, binV, thenK, boolV, intV, lenOf, value, cut, hget, AV.parts, isOne, mkAgg, tupOf, List.map_cons, List.map_nil, List.length_cons, List.length_nil, List.getElem?_cons_zero, List.set_cons_zero, List.take_succ_cons, List.take_zero, List.drop_succ_cons, List.drop_zero, List.nil_append, List.append_nil, List.replicate_zero, List.replicate_succ, List.getD_cons_zero, List.zipIdx_cons, List.zipIdx_nil, List.all_cons, List.all_nil, Option.pure_def, Option.bind_eq_bind, Option.getD_some, Option.map_some, if_true, if_false, Nat.reduceEqDiff, Nat.reduceAdd, Nat.add_zero, Nat.zero_add, Nat.zero_ne_one, reduceCtorEq, Bool.not_true, Bool.and_true, Bool.false_eq_true, eq_self, true_and, and_self, freeze, lidsL, lids, List.flatMap_cons, List.flatMap_nil, List.all_cons, ren, *]
          | simp (disch := omega) only [getD_ints, wrapI]
          | (with_reducible show wcall _ false (.lit (.func (.func 57) _ _)) _ _ _ _; refine wcall_fn (h57) ?_ ?_ ?_; (next => simp [rfyL, rfy, hget, ints, take_rfy, hw0]); (next => simp [plainL, plain, plainR, hw0]))
          | (with_reducible show wcallX _ false (.lit (.func (.func 57) _ _)) _ _ _ _; refine wcallX_fn (h57) ?_ ?_ ?_; (next => simp [rfyL, rfy, hget, ints, take_rfy, hw0]); (next => simp [plainL, plain, plainR, hw0]))
          | (with_reducible show wcall _ false (.lit (.func (.func 32) _ _)) _ _ _ _; refine wcall_fn (h32w) ?_ ?_ ?_; (next => simp [rfyL, rfy, hget, ints, take_rfy, hw0]); (next => simp [plainL, plain, plainR, hw0]))
          | (with_reducible show wcallX _ false (.lit (.func (.func 32) _ _)) _ _ _ _; refine wcallX_fn (h32w) ?_ ?_ ?_; (next => simp [rfyL, rfy, hget, ints, take_rfy, hw0]); (next => simp [plainL, plain, plainR, hw0]))
          | (with_reducible show wcall _ false (.lit (.func (.func 32) _ _)) _ _ _ _; refine wcall_fn (h32n) ?_ ?_ ?_; (next => simp [rfyL, rfy, hget, ints, take_rfy, hw0]); (next => simp [plainL, plain, plainR, hw0]))
          | (with_reducible show wcallX _ false (.lit (.func (.func 32) _ _)) _ _ _ _; refine wcallX_fn (h32n) ?_ ?_ ?_; (next => simp [rfyL, rfy, hget, ints, take_rfy, hw0]); (next => simp [plainL, plain, plainR, hw0]))
          | omega)
        all_goals first | rfl
    · rw [show (decide ((1 : Int) ≤ zs.length) && decide ((zs.length : Int) ≤ 36)) = false by rw [← Bool.decide_and]; exact decide_eq_false c2] at h32n
      clear c2 hT
      unfold c12
      repeat' (first
        | ((with_reducible refine T_calm ?_ ?_); rfl)
        | with_reducible first
          | refine T_seq ?_
          | refine T_reg ?_
          | refine T_draw ?_
          | refine T_skip ?_
          | refine T_exit ?_
          | refine T_block ?_
          | refine T_cond_t rfl ?_
          | refine T_cond_f rfl ?_
          | refine wdW_cons rfl ?_
          | (show wcall _ false (.lit (.func (.func 57) _ _)) _ _ _ _; refine wcall_fn (h57) rfl (by simp [plainL]) ?_)
          | (show wcallX _ false (.lit (.func (.func 57) _ _)) _ _ _ _; refine wcallX_fn (h57) rfl (by simp [plainL, plain, plainR]) ?_)
          | (show wcall _ false (.lit (.func (.func 32) _ _)) _ _ _ _; refine wcall_fn (h32w) rfl (by simp [plainL, plain]) ?_)
          | (show wcallX _ false (.lit (.func (.func 32) _ _)) _ _ _ _; refine wcallX_fn (h32w) rfl (by simp [plainL, plain, plainR]) ?_)
          | (show wcall _ false (.lit (.func (.func 32) _ _)) _ _ _ _; refine wcall_fn (h32n) rfl (by simp [plainL, plain]) ?_)
          | (show wcallX _ false (.lit (.func (.func 32) _ _)) _ _ _ _; refine wcallX_fn (h32n) rfl (by simp [plainL, plain, plainR]) ?_)
          | ((first | refine T_cond rfl (fun hc => ?_) (fun hc => ?_) | refine wguard_split (fun hc => ?_) (fun hc => ?_) | refine wguardX_split (fun hc => ?_) (fun hc => ?_)) <;> have hd := hc <;> (try simp (disch := omega) only [wrapI] at hd) <;> have hs := hd <;> (try simp only [Bool.not_eq_true', Bool.not_eq_false', Bool.and_eq_true, Bool.and_eq_false_iff, Bool.or_eq_true, Bool.or_eq_false_iff, decide_eq_true_eq, decide_eq_false_iff_not, beq_iff_eq, bne_iff_ne, beq_eq_false_iff_ne, bne_eq_false_iff_eq, Bool.not_true, Bool.not_false, gt_iff_lt, ge_iff_le, Int.not_lt, Int.not_le, ne_eq, Decidable.not_not] at hd) <;> (try simp at hs))
          | refine T_ret ?_
          | refine leave_of (.inr rfl) _ rfl ?_
          | refine leave_of (.inl rfl) _ rfl ?_
          | refine leaveA_of (.inr rfl) _ rfl ?_
          | refine leaveA_of (.inl rfl) _ rfl ?_
          | refine wif_intro ?_ (fun hc => ?_)
          | refine And.intro ?_ ?_
          | intro hc
        | simp (maxSteps := 4000000) only [wops_nil, wops_cons, wstep_none, wstep_some, wguard_ff, wguard_tf, wrun_call, wrun_mv, wrun_pick, wrun_not, wrun_load, wrun_faddr, wrun_len, wrun_box, get_mk, wop, aop, ev, look, put_some, writes, ores_some, ores_map, ores_bind, thenK, boolV, intV, lenOf, value, cut, hget, AV.parts, isOne, mkAgg, tupOf, List.map_cons, List.map_nil, List.length_cons, List.length_nil, List.getElem?_cons_zero, List.set_cons_zero, List.take_succ_cons, List.take_zero, List.drop_succ_cons, List.drop_zero, List.nil_append, List.append_nil, List.replicate_zero, List.replicate_succ, List.getD_cons_zero, List.zipIdx_cons, List.zipIdx_nil, List.all_cons, List.all_nil, Option.pure_def, Option.bind_eq_bind, Option.getD_some, Option.map_some, if_true, if_false, Nat.reduceEqDiff, Nat.reduceAdd, Nat.add_zero, Nat.zero_add, Nat.zero_ne_one, reduceCtorEq, Bool.not_true, Bool.not_false, Bool.and_true, Bool.false_eq_true, eq_self, true_and, and_self, freeze, lidsL, lids, List.flatMap_cons, List.flatMap_nil, List.all_cons, ren, *]
        | simp (disch := omega) only [getD_ints, wrapI]
        | (with_reducible show wcall _ false (.lit (.func (.func 57) _ _)) _ _ _ _; refine wcall_fn (h57) ?_ ?_ ?_; (next => simp [rfyL, rfy, hget, ints, take_rfy]); (next => simp [plainL, plain, plainR]))
        | (with_reducible show wcallX _ false (.lit (.func (.func 57) _ _)) _ _ _ _; refine wcallX_fn (h57) ?_ ?_ ?_; (next => simp [rfyL, rfy, hget, ints, take_rfy]); (next => simp [plainL, plain, plainR]))
        | (with_reducible show wcall _ false (.lit (.func (.func 32) _ _)) _ _ _ _; refine wcall_fn (h32w) ?_ ?_ ?_; (next => simp [rfyL, rfy, hget, ints, take_rfy]); (next => simp [plainL, plain, plainR]))
        | (with_reducible show wcallX _ false (.lit (.func (.func 32) _ _)) _ _ _ _; refine wcallX_fn (h32w) ?_ ?_ ?_; (next => simp [rfyL, rfy, hget, ints, take_rfy]); (next => simp [plainL, plain, plainR]))
        | (with_reducible show wcall _ false (.lit (.func (.func 32) _ _)) _ _ _ _; refine wcall_fn (h32n) ?_ ?_ ?_; (next => simp [rfyL, rfy, hget, ints, take_rfy]); (next => simp [plainL, plain, plainR]))
        | (with_reducible show wcallX _ false (.lit (.func (.func 32) _ _)) _ _ _ _; refine wcallX_fn (h32n) ?_ ?_ ?_; (next => simp [rfyL, rfy, hget, ints, take_rfy]); (next => simp [plainL, plain, plainR]))
        | omega)
      all_goals first | rfl
  · rw [show (decide ((1 : Int) ≤ w) && decide (w ≤ 6)) = false by rw [← Bool.decide_and]; exact decide_eq_false c1] at h32w
    clear c1 hT
    unfold c12
    repeat' (first
      | ((with_reducible refine T_calm ?_ ?_); rfl)
      | with_reducible first
        | refine T_seq ?_
        | refine T_reg ?_
        | refine T_draw ?_
        | refine T_skip ?_
        | refine T_exit ?_
        | refine T_block ?_
        | refine T_cond_t rfl ?_
        | refine T_cond_f rfl ?_
        | refine wdW_cons rfl ?_
        | (show wcall _ false (.lit (.func (.func 57) _ _)) _ _ _ _; refine wcall_fn (h57) rfl (by simp [plainL]) ?_)
        | (show wcallX _ false (.lit (.func (.func 57) _ _)) _ _ _ _; refine wcallX_fn (h57) rfl (by simp [plainL, plain, plainR]) ?_)
        | (show wcall _ false (.lit (.func (.func 32) _ _)) _ _ _ _; refine wcall_fn (h32w) rfl (by simp [plainL, plain]) ?_)
        | (show wcallX _ false (.lit (.func (.func 32) _ _)) _ _ _ _; refine wcallX_fn (h32w) rfl (by simp [plainL, plain, plainR]) ?_)
        | (show wcall _ false (.lit (.func (.func 32) _ _)) _ _ _ _; refine wcall_fn (h32n) rfl (by simp [plainL, plain, plainR]) ?_)
        | (show wcallX _ false (.lit (.func (.func 32) _ _)) _ _ _ _; refine wcallX_fn (h32n) rfl (by simp [plainL, plain, plainR]) ?_)
        | ((first | refine T_cond rfl (fun hc => ?_) (fun hc => ?_) | refine wguard_split (fun hc => ?_) (fun hc => ?_) | refine wguardX_split (fun hc => ?_) (fun hc => ?_)) <;> have hd := hc <;> (try simp (disch := omega) only [wrapI] at hd) <;> have hs := hd <;> (try simp only [Bool.not_eq_true', Bool.not_eq_false', Bool.and_eq_true, Bool.and_eq_false_iff, Bool.or_eq_true, Bool.or_eq_false_iff, decide_eq_true_eq, decide_eq_false_iff_not, beq_iff_eq, bne_iff_ne, beq_eq_false_iff_ne, bne_eq_false_iff_eq, Bool.not_true, Bool.not_false, gt_iff_lt, ge_iff_le, Int.not_lt, Int.not_le, ne_eq, Decidable.not_not] at hd) <;> (try simp at hs))
        | refine T_ret ?_
        | refine leave_of (.inr rfl) _ rfl ?_
        | refine leave_of (.inl rfl) _ rfl ?_
        | refine leaveA_of (.inr rfl) _ rfl ?_
        | refine leaveA_of (.inl rfl) _ rfl ?_
        | refine wif_intro ?_ (fun hc => ?_)
        | refine And.intro ?_ ?_
        | intro hc
      | simp (maxSteps := 4000000) only [wops_nil, wops_cons, wstep_none, wstep_some, wguard_tf, wrun_call, wrun_mv, wrun_pick, wrun_not, wrun_load, wrun_faddr, wrun_len, wrun_box, get_mk, wop, aop, ev, look, put_some, writes, ores_some, ores_map, ores_bind, thenK, boolV, intV, lenOf, value, cut, hget, AV.parts, isOne, mkAgg, tupOf, List.map_cons, List.map_nil, List.length_cons, List.length_nil, List.getElem?_cons_zero, List.set_cons_zero, List.take_succ_cons, List.take_zero, List.drop_succ_cons, List.drop_zero, List.nil_append, List.append_nil, List.replicate_zero, List.replicate_succ, List.getD_cons_zero, List.zipIdx_cons, List.zipIdx_nil, List.all_cons, List.all_nil, Option.pure_def, Option.bind_eq_bind, Option.getD_some, Option.map_some, if_true, if_false, Nat.reduceEqDiff, Nat.reduceAdd, Nat.add_zero, Nat.zero_add, Nat.zero_ne_one, reduceCtorEq, Bool.not_true, Bool.not_false, Bool.and_true, Bool.false_eq_true, eq_self, true_and, and_self, freeze, lidsL, lids, List.flatMap_cons, List.flatMap_nil, List.all_cons, ren, *]
      | simp (disch := omega) only [getD_ints, wrapI]
      | (with_reducible show wcall _ false (.lit (.func (.func 57) _ _)) _ _ _ _; refine wcall_fn (h57) ?_ ?_ ?_; (next => simp [rfyL, rfy, hget, ints, take_rfy]); (next => simp [plainL, plain, plainR]))
      | (with_reducible show wcallX _ false (.lit (.func (.func 57) _ _)) _ _ _ _; refine wcallX_fn (h57) ?_ ?_ ?_; (next => simp [rfyL, rfy, hget, ints, take_rfy]); (next => simp [plainL, plain, plainR]))
      | (with_reducible show wcall _ false (.lit (.func (.func 32) _ _)) _ _ _ _; refine wcall_fn (h32w) ?_ ?_ ?_; (next => simp [rfyL, rfy, hget, ints, take_rfy]); (next => simp [plainL, plain, plainR]))
      | (with_reducible show wcallX _ false (.lit (.func (.func 32) _ _)) _ _ _ _; refine wcallX_fn (h32w) ?_ ?_ ?_; (next => simp [rfyL, rfy, hget, ints, take_rfy]); (next => simp [plainL, plain, plainR]))
      | (with_reducible show wcall _ false (.lit (.func (.func 32) _ _)) _ _ _ _; refine wcall_fn (h32n) ?_ ?_ ?_; (next => simp [rfyL, rfy, hget, ints, take_rfy]); (next => simp [plainL, plain, plainR]))
      | (with_reducible show wcallX _ false (.lit (.func (.func 32) _ _)) _ _ _ _; refine wcallX_fn (h32n) ?_ ?_ ?_; (next => simp [rfyL, rfy, hget, ints, take_rfy]); (next => simp [plainL, plain, plainR]))
      | omega)
    all_goals first | rfl
end Go.Abs
