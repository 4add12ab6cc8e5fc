import Derived.Test.YtodheeifecoebaaK245x
set_option linter.all false
set_option linter.unusedVariables false
set_option linter.unusedSimpArgs false
set_option linter.unusedSectionVars false
namespace Go.Abs
open Go.Proofs
/-! Maps: the whole function -/
section
variable {b1 b2 : Bool} {ml il : List Int} {k s n : Nat}
set_option maxHeartbeats 8000000 in
theorem k20a (m : MdOk ml il k s n) : ACall Try.prog 20 [.agg [ints b1 ml, ints b2 il, i64 k]] [] (Q20 n k (fZ ml il s n) (okM ml il k)) := by
  refine envOf_all e20 ?_
  have ho := fun t ht hall H hH => k20o (b1 := b1) (b2 := b2) m t ht hall H hH
  obtain ⟨hn, h1, h2, hk, hks⟩ := m
  have h32a := k32 (n : Int) 1 24
  rw [show (decide (1 ≤ (n : Int)) && decide ((n : Int) ≤ 24)) = true by rw [decide_eq_true (by omega), decide_eq_true (by omega)]; rfl] at h32a
  have h32b := k32 (k : Int) 1 12
  rw [show (decide (1 ≤ (k : Int)) && decide ((k : Int) ≤ 12)) = true by rw [decide_eq_true (by omega), decide_eq_true (by omega)]; rfl] at h32b
  have hrem : (n : Int).tmod (k : Int) = 0 := by
    rw [← Int.ofNat_tmod, ← hks, Nat.mul_mod_right]; rfl
  have hok : (∀ j, j < n → RG ml il j) → okM ml il k := fun h => ⟨by omega, by omega, hk, by rw [h1, ← hks, Nat.mul_mod_right], by rw [h1]; exact h⟩
  have e1 : (ml.map fun x => [i64 x]).length = n := by simp [h1]
  have e2 : (il.map fun x => [i64 x]).length = n := by simp [h2]
  replace ho := And.intro ho trivial
  replace hks := And.intro hks trivial
  replace hok := And.intro hok trivial
  unfold c20
  repeat' (first
    | ((with_reducible refine T_calm ?_ ?_); rfl)
    | with_reducible first
      | refine T_seq ?_
      | refine T_reg ?_
      | refine T_draw ?_
      | refine T_skip ?_
      | refine T_exit ?_
      | refine T_block ?_
      | refine T_cond_t rfl ?_
      | refine T_cond_f rfl ?_
      | refine wdW_cons rfl ?_
      | (show wcall _ false (.lit (.func (.func 32) _ _)) _ _ _ _; refine wcall_fn (h32a) rfl (by simp [plainL, plain]) ?_)
      | (show wcallX _ false (.lit (.func (.func 32) _ _)) _ _ _ _; refine wcallX_fn (h32a) rfl (by simp [plainL, plain, plainR, Int.toNat_natCast, e1, e2]) ?_)
      | (show wcall _ false (.lit (.func (.func 32) _ _)) _ _ _ _; refine wcall_fn (h32b) rfl (by simp [plainL, plain]) ?_)
      | (show wcallX _ false (.lit (.func (.func 32) _ _)) _ _ _ _; refine wcallX_fn (h32b) rfl (by simp [plainL, plain, plainR, Int.toNat_natCast, e1, e2]) ?_)
      | ((first | refine T_cond rfl (fun hc => ?_) (fun hc => ?_) | refine wguard_split (fun hc => ?_) (fun hc => ?_) | refine wguardX_split (fun hc => ?_) (fun hc => ?_)) <;> have hd := hc <;> (try simp (disch := omega) only [wrapI] at hd) <;> have hs := hd <;> (try simp only [bne_iff_ne, bne_eq_false_iff_eq, Bool.not_false, ne_eq] at hd) <;> (try simp at hs))
      | refine T_ret ?_
      | refine wif_intro ?_ (fun hc => ?_)
      | refine And.intro ?_ ?_
      | intro hc
    | simp (maxSteps := 4000000) only [wops_nil, wops_cons, wstep_none, wstep_some, wguard_ff, wrun_call, wrun_mv, wrun_pick, wrun_bin, wrun_not, wrun_build, wrun_load, wrun_store, wrun_faddr, wrun_len, wrun_alloc, wrun_box, wop, aop, ev, look, put_some, put_none, writes, ores_some, ores_ite_none, ores_none_ite, ores_map, ores_bind, wif_true, binV, thenK, boolV, intV, lenOf, value, cut, hget, fillA, putCells, AV.parts, isOne, toLits, mkAgg, List.map_cons, List.map_nil, List.length_cons, List.length_nil, List.getElem?_cons_zero, List.getElem?_cons_succ, List.set_cons_zero, List.set_cons_succ, List.take_succ_cons, List.take_zero, List.take_nil, List.drop_succ_cons, List.drop_zero, List.drop_nil, List.cons_append, List.nil_append, List.append_nil, List.append_assoc, List.replicate_zero, List.replicate_succ, List.getD_cons_zero, List.zipIdx_cons, List.zipIdx_nil, List.all_cons, List.all_nil, Option.pure_def, Option.bind_eq_bind, Option.getD_some, Option.map_some, Option.map_none, if_true, if_false, Nat.reduceEqDiff, Nat.reduceAdd, Nat.reduceLeDiff, Nat.reduceLT, Nat.add_zero, Nat.zero_add, Nat.le_refl, Nat.zero_ne_one, reduceCtorEq, Bool.not_true, Bool.and_true, Bool.false_eq_true, eq_self, true_and, and_self, freeze, lidsL, lids, List.flatMap_cons, List.flatMap_nil, List.all_cons, ren, *]
    | simp (disch := omega) only [getD_ints, wrapI]
    | (with_reducible show wcall _ false (.lit (.func (.func 32) _ _)) _ _ _ _; refine wcall_fn (h32a) ?_ ?_ ?_; (next => simp [rfyL, rfy, hget, ints, take_rfy, Int.toNat_natCast, e1, e2]); (next => simp [plainL, plain, plainR, Int.toNat_natCast, e1, e2]))
    | (with_reducible show wcallX _ false (.lit (.func (.func 32) _ _)) _ _ _ _; refine wcallX_fn (h32a) ?_ ?_ ?_; (next => simp [rfyL, rfy, hget, ints, take_rfy, Int.toNat_natCast, e1, e2]); (next => simp [plainL, plain, plainR, Int.toNat_natCast, e1, e2]))
    | (with_reducible show wcall _ false (.lit (.func (.func 32) _ _)) _ _ _ _; refine wcall_fn (h32b) ?_ ?_ ?_; (next => simp [rfyL, rfy, hget, ints, take_rfy, Int.toNat_natCast, e1, e2]); (next => simp [plainL, plain, plainR, Int.toNat_natCast, e1, e2]))
    | (with_reducible show wcallX _ false (.lit (.func (.func 32) _ _)) _ _ _ _; refine wcallX_fn (h32b) ?_ ?_ ?_; (next => simp [rfyL, rfy, hget, ints, take_rfy, Int.toNat_natCast, e1, e2]); (next => simp [plainL, plain, plainR, Int.toNat_natCast, e1, e2]))
    | omega)
  refine T_forP [1, 2, 4, 5, 6] (SLo n) k (fun t H => J20o n (fZ ml il s n) (bM b1 b2 ml il k) t H ∧ (t = 0 ∨ ∀ j, j < n → RG ml il j)) 0 ?_ ?_ (Nat.zero_le _) ?_
  · simp [St.only, get_mk, look]
  · exact ⟨⟨Nat.le_refl _, rfl, rfl, fun _ => rfl, fun h => (h rfl).elim⟩, .inl rfl⟩
  intro t H ht hJ
  by_cases htk : t < k
  · refine T_mono (ho.1 t htk hJ.2 H hJ.1) fun e s' hs => ?_
    cases e with
    | normal => exact ⟨hs.1, ⟨hs.2.1.1, .inr hs.2.1.2⟩, hs.2.2⟩
    | ret => exact hs
    | _ => exact False.elim hs
  · have hte : t = k := by omega
    subst hte
    obtain ⟨⟨l, b0, bb, _, b3⟩, hall⟩ := hJ
    have hg : ∀ j, j < n → RG ml il j := by
      rcases hall with h | h
      · omega
      · exact h
    replace hok := hok.1 hg
    obtain ⟨id, els, g1, g2, g3, g4⟩ := b3 (by omega)
    have fin : Q20 n t (fZ ml il s n) (okM ml il t) (.tup [.agg [i64 n, .lsl id 0 t], bl true]) (H.set 1 (.cells true false 2 [[i64 n, .lsl id 0 t]])) := by
      refine .inr ⟨hok, _, rfl, ⟨id, true, els, rfl, ?_, g4.1, fun j hj => ?_⟩⟩
      · rw [List.getElem?_set_ne (by omega)]; exact g3
      · obtain ⟨rid, r1, r2, o, r3⟩ := g4.2 j hj
        refine ⟨rid, r1, o, ?_⟩
        have hr2 : rid ≠ 1 := fun e => by subst e; rw [bb] at r3; simp at r3
        rw [List.getElem?_set_ne (by omega)]; exact r3
    have hs1 : (H.set 1 (.cells true false 2 [[i64 n, .lsl id 0 t]]))[1]? = some (.cells true false 2 [[i64 n, .lsl id 0 t]]) := List.getElem?_set_self (by omega)
    clear ho hg hall b3 g3 g4 hok
    replace fin := And.intro fin trivial
    unfold c20l1
    repeat' (first
      | ((with_reducible refine T_calm ?_ ?_); rfl)
      | with_reducible first
        | refine T_seq ?_
        | refine T_reg ?_
        | refine T_draw ?_
        | refine T_skip ?_
        | refine T_exit ?_
        | refine T_block ?_
        | refine T_cond_t rfl ?_
        | refine T_cond_f rfl ?_
        | refine wdW_cons rfl ?_
        | ((first | refine T_cond rfl (fun hc => ?_) (fun hc => ?_) | refine wguard_split (fun hc => ?_) (fun hc => ?_) | refine wguardX_split (fun hc => ?_) (fun hc => ?_)) <;> have hd := hc <;> (try simp (disch := omega) only [wrapI] at hd) <;> have hs := hd <;> (try simp only [decide_eq_true_eq, decide_eq_false_iff_not, Int.not_lt] at hd) <;> (try simp at hs))
        | refine T_ret ?_
        | refine wif_intro ?_ (fun hc => ?_)
        | refine And.intro ?_ ?_
        | intro hc
      | simp (maxSteps := 4000000) only [wops_nil, wops_cons, wstep_none, wrun_mv, wrun_bin, wrun_load, wrun_store, wrun_faddr, wop, aop, ev, look, put_some, put_none, writes, ores_some, binV, thenK, blockK, value, cut, hget, putCells, AV.parts, isOne, toLits, mkAgg, List.length_cons, List.length_nil, List.set_cons_zero, List.take_succ_cons, List.take_zero, List.take_nil, List.drop_succ_cons, List.drop_zero, List.drop_nil, List.nil_append, List.append_nil, List.replicate_zero, List.getD_cons_zero, List.all_cons, List.all_nil, Option.getD_some, Option.map_some, Option.map_none, if_true, if_false, Nat.reduceEqDiff, Nat.reduceAdd, Nat.reduceLT, Nat.zero_add, Nat.le_refl, reduceCtorEq, Bool.and_true, Bool.false_eq_true, eq_self, and_self, false_and, List.all_cons, *]
      | simp (disch := omega) only [getD_ints, wrapI]
      | omega)
    all_goals first | (refine ⟨[.agg [i64 n, .lsl id 0 t], bl true], ?_, fin.1⟩; simp [resL, resAV, get_mk, look, aop, ev, hget, hs1]; rfl)
set_option maxHeartbeats 8000000 in
theorem k20b {T : Int} (h : ¬((1 ≤ ml.length ∧ ml.length ≤ 24) ∧ il.length = ml.length ∧ (1 ≤ T ∧ T ≤ 12) ∧ (ml.length : Int).tmod T = 0)) : Fn Try.prog 20 [.agg [ints b1 ml, ints b2 il, i64 T]] (.tup [.agg [i64 0, .sl true 0 []], bl false]) [] := by
  refine fn_of e20 ?_
  have e1 : (ml.map fun x => [i64 x]).length = ml.length := by simp
  have e2 : (il.map fun x => [i64 x]).length = il.length := by simp
  have h32a := k32 (ml.length : Int) 1 24
  by_cases c1 : 1 ≤ ml.length ∧ ml.length ≤ 24
  · rw [show (decide (1 ≤ (ml.length : Int)) && decide ((ml.length : Int) ≤ 24)) = true by rw [decide_eq_true (by omega), decide_eq_true (by omega)]; rfl] at h32a
    by_cases c2 : il.length = ml.length
    · have h32b := k32 T 1 12
      by_cases c3 : 1 ≤ T ∧ T ≤ 12
      · rw [show (decide (1 ≤ T) && decide (T ≤ 12)) = true by rw [decide_eq_true (by omega), decide_eq_true (by omega)]; rfl] at h32b
        have c4 : (ml.length : Int).tmod T ≠ 0 := fun e => h ⟨c1, c2, c3, e⟩
        have c5 : ((ml.length : Int).tmod T != 0) = true := by simp only [bne_iff_ne]; exact c4
        have ew : IntKind.i64.wrap ((ml.length : Int).tmod T) = (ml.length : Int).tmod T := by
          have := tmod_lt (ml.length : Int) (b := T) (by omega)
          exact wrapI (by omega) (by omega)
        have c6 : (il.length != ml.length) = false := by simp [c2]
        clear h c4
        unfold c20
        repeat' (first
          | ((with_reducible refine T_calm ?_ ?_); rfl)
          | with_reducible first
            | refine T_seq ?_
            | refine T_reg ?_
            | refine T_draw ?_
            | refine T_skip ?_
            | refine T_exit ?_
            | refine T_block ?_
            | refine T_cond_t rfl ?_
            | refine T_cond_f rfl ?_
            | refine wdW_cons rfl ?_
            | (show wcall _ false (.lit (.func (.func 32) _ _)) _ _ _ _; refine wcall_fn (h32a) rfl (by simp [plainL, plain]) ?_)
            | (show wcallX _ false (.lit (.func (.func 32) _ _)) _ _ _ _; refine wcallX_fn (h32a) rfl (by simp [plainL, plain, plainR, Int.toNat_natCast, e1, e2]) ?_)
            | (show wcall _ false (.lit (.func (.func 32) _ _)) _ _ _ _; refine wcall_fn (h32b) rfl (by simp [plainL, plain]) ?_)
            | (show wcallX _ false (.lit (.func (.func 32) _ _)) _ _ _ _; refine wcallX_fn (h32b) rfl (by simp [plainL, plain, plainR, Int.toNat_natCast, e1, e2]) ?_)
            | ((first | refine T_cond rfl (fun hc => ?_) (fun hc => ?_) | refine wguard_split (fun hc => ?_) (fun hc => ?_) | refine wguardX_split (fun hc => ?_) (fun hc => ?_)) <;> have hd := hc <;> (try simp (disch := omega) only [wrapI] at hd) <;> have hs := hd <;> (try simp only [bne_iff_ne, bne_eq_false_iff_eq, Bool.not_false, ne_eq] at hd) <;> (try simp at hs))
            | refine T_ret ?_
            | refine leave_of (.inr rfl) _ rfl ?_
            | refine leave_of (.inl rfl) _ rfl ?_
            | refine leaveA_of (.inr rfl) _ rfl ?_
            | refine leaveA_of (.inl rfl) _ rfl ?_
            | refine wif_intro ?_ (fun hc => ?_)
            | refine And.intro ?_ ?_
            | intro hc
          | simp (maxSteps := 4000000) only [wops_nil, wops_cons, wstep_none, wstep_some, wguard_ff, wrun_call, wrun_mv, wrun_pick, wrun_bin, wrun_not, wrun_build, wrun_load, wrun_store, wrun_faddr, wrun_len, wrun_alloc, wrun_box, get_mk, wop, aop, ev, look, put_some, put_none, writes, ores_some, ores_none_ite, ores_map, ores_bind, binV, thenK, boolV, intV, lenOf, value, cut, hget, fillA, putCells, AV.parts, isOne, toLits, mkAgg, tupOf, List.map_cons, List.map_nil, List.length_cons, List.length_nil, List.getElem?_cons_zero, List.getElem?_cons_succ, List.set_cons_zero, List.set_cons_succ, List.take_succ_cons, List.take_zero, List.take_nil, List.drop_succ_cons, List.drop_zero, List.drop_nil, List.nil_append, List.append_nil, List.replicate_zero, List.replicate_succ, List.getD_cons_zero, List.zipIdx_cons, List.zipIdx_nil, List.all_cons, List.all_nil, Option.pure_def, Option.bind_eq_bind, Option.getD_some, Option.map_some, Option.map_none, if_true, if_false, Nat.reduceEqDiff, Nat.reduceAdd, Nat.reduceLT, Nat.add_zero, Nat.zero_add, Nat.le_refl, Nat.zero_ne_one, reduceCtorEq, Bool.not_true, Bool.and_true, Bool.false_eq_true, eq_self, true_and, and_self, freeze, lidsL, lids, List.flatMap_cons, List.flatMap_nil, List.all_cons, ren, renL, renR, *]
          | simp (disch := omega) only [getD_ints, wrapI]
          | (with_reducible show wcall _ false (.lit (.func (.func 32) _ _)) _ _ _ _; refine wcall_fn (h32a) ?_ ?_ ?_; (next => simp [rfyL, rfy, hget, ints, take_rfy, Int.toNat_natCast, e1, e2]); (next => simp [plainL, plain, plainR, Int.toNat_natCast, e1, e2]))
          | (with_reducible show wcallX _ false (.lit (.func (.func 32) _ _)) _ _ _ _; refine wcallX_fn (h32a) ?_ ?_ ?_; (next => simp [rfyL, rfy, hget, ints, take_rfy, Int.toNat_natCast, e1, e2]); (next => simp [plainL, plain, plainR, Int.toNat_natCast, e1, e2]))
          | (with_reducible show wcall _ false (.lit (.func (.func 32) _ _)) _ _ _ _; refine wcall_fn (h32b) ?_ ?_ ?_; (next => simp [rfyL, rfy, hget, ints, take_rfy, Int.toNat_natCast, e1, e2]); (next => simp [plainL, plain, plainR, Int.toNat_natCast, e1, e2]))
          | (with_reducible show wcallX _ false (.lit (.func (.func 32) _ _)) _ _ _ _; refine wcallX_fn (h32b) ?_ ?_ ?_; (next => simp [rfyL, rfy, hget, ints, take_rfy, Int.toNat_natCast, e1, e2]); (next => simp [plainL, plain, plainR, Int.toNat_natCast, e1, e2]))
          | omega)
        all_goals first | rfl
      · rw [show (decide (1 ≤ T) && decide (T ≤ 12)) = false by rw [← Bool.decide_and]; exact decide_eq_false c3] at h32b
        clear h
        unfold c20
        repeat' (first
          | ((with_reducible refine T_calm ?_ ?_); rfl)
          | with_reducible first
            | refine T_seq ?_
            | refine T_reg ?_
            | refine T_draw ?_
            | refine T_skip ?_
            | refine T_exit ?_
            | refine T_block ?_
            | refine T_cond_t rfl ?_
            | refine T_cond_f rfl ?_
            | refine wdW_cons rfl ?_
            | (show wcall _ false (.lit (.func (.func 32) _ _)) _ _ _ _; refine wcall_fn (h32a) rfl (by simp [plainL, plain]) ?_)
            | (show wcallX _ false (.lit (.func (.func 32) _ _)) _ _ _ _; refine wcallX_fn (h32a) rfl (by simp [plainL, plain, plainR, Int.toNat_natCast, e1, e2]) ?_)
            | (show wcall _ false (.lit (.func (.func 32) _ _)) _ _ _ _; refine wcall_fn (h32b) rfl (by simp [plainL, plain]) ?_)
            | (show wcallX _ false (.lit (.func (.func 32) _ _)) _ _ _ _; refine wcallX_fn (h32b) rfl (by simp [plainL, plain, plainR, Int.toNat_natCast, e1, e2]) ?_)
            | ((first | refine T_cond rfl (fun hc => ?_) (fun hc => ?_) | refine wguard_split (fun hc => ?_) (fun hc => ?_) | refine wguardX_split (fun hc => ?_) (fun hc => ?_)) <;> have hd := hc <;> (try simp (disch := omega) only [wrapI] at hd) <;> have hs := hd <;> (try simp only [bne_iff_ne, bne_eq_false_iff_eq, Bool.not_false, ne_eq] at hd) <;> (try simp at hs))
            | refine T_ret ?_
            | refine leave_of (.inr rfl) _ rfl ?_
            | refine leave_of (.inl rfl) _ rfl ?_
            | refine leaveA_of (.inr rfl) _ rfl ?_
            | refine leaveA_of (.inl rfl) _ rfl ?_
            | refine wif_intro ?_ (fun hc => ?_)
            | refine And.intro ?_ ?_
            | intro hc
          | simp (maxSteps := 4000000) only [wops_nil, wops_cons, wstep_none, wstep_some, wguard_ff, wguard_tf, wrun_call, wrun_mv, wrun_pick, wrun_bin, wrun_not, wrun_build, wrun_load, wrun_store, wrun_faddr, wrun_len, wrun_alloc, wrun_box, get_mk, wop, aop, ev, look, put_some, put_none, writes, ores_some, ores_map, ores_bind, binV, thenK, boolV, intV, lenOf, value, cut, hget, fillA, putCells, AV.parts, isOne, toLits, mkAgg, tupOf, List.map_cons, List.map_nil, List.length_cons, List.length_nil, List.getElem?_cons_zero, List.getElem?_cons_succ, List.set_cons_zero, List.set_cons_succ, List.take_succ_cons, List.take_zero, List.take_nil, List.drop_succ_cons, List.drop_zero, List.drop_nil, List.nil_append, List.append_nil, List.replicate_zero, List.replicate_succ, List.getD_cons_zero, List.zipIdx_cons, List.zipIdx_nil, List.all_cons, List.all_nil, Option.pure_def, Option.bind_eq_bind, Option.getD_some, Option.map_some, Option.map_none, if_true, if_false, Nat.reduceEqDiff, Nat.reduceAdd, Nat.reduceLT, Nat.add_zero, Nat.zero_add, Nat.le_refl, Nat.zero_ne_one, reduceCtorEq, Bool.not_true, Bool.not_false, Bool.and_true, Bool.false_eq_true, eq_self, true_and, and_self, freeze, lidsL, lids, List.flatMap_cons, List.flatMap_nil, List.all_cons, ren, renL, renR, *]
          | simp (disch := omega) only [getD_ints, wrapI]
          | (with_reducible show wcall _ false (.lit (.func (.func 32) _ _)) _ _ _ _; refine wcall_fn (h32a) ?_ ?_ ?_; (next => simp [rfyL, rfy, hget, ints, take_rfy, Int.toNat_natCast, e1, e2]); (next => simp [plainL, plain, plainR, Int.toNat_natCast, e1, e2]))
          | (with_reducible show wcallX _ false (.lit (.func (.func 32) _ _)) _ _ _ _; refine wcallX_fn (h32a) ?_ ?_ ?_; (next => simp [rfyL, rfy, hget, ints, take_rfy, Int.toNat_natCast, e1, e2]); (next => simp [plainL, plain, plainR, Int.toNat_natCast, e1, e2]))
          | (with_reducible show wcall _ false (.lit (.func (.func 32) _ _)) _ _ _ _; refine wcall_fn (h32b) ?_ ?_ ?_; (next => simp [rfyL, rfy, hget, ints, take_rfy, Int.toNat_natCast, e1, e2]); (next => simp [plainL, plain, plainR, Int.toNat_natCast, e1, e2]))
          | (with_reducible show wcallX _ false (.lit (.func (.func 32) _ _)) _ _ _ _; refine wcallX_fn (h32b) ?_ ?_ ?_; (next => simp [rfyL, rfy, hget, ints, take_rfy, Int.toNat_natCast, e1, e2]); (next => simp [plainL, plain, plainR, Int.toNat_natCast, e1, e2]))
          | omega)
        all_goals first | rfl
    · have c6 : ((il.length : Int) != (ml.length : Int)) = true := by simp only [bne_iff_ne]; omega
      clear h
      unfold c20
      repeat' (first
        | ((with_reducible refine T_calm ?_ ?_); rfl)
        | with_reducible first
          | refine T_seq ?_
          | refine T_reg ?_
          | refine T_draw ?_
          | refine T_skip ?_
          | refine T_exit ?_
          | refine T_block ?_
          | refine T_cond_t rfl ?_
          | refine T_cond_f rfl ?_
          | refine wdW_cons rfl ?_
          | (show wcall _ false (.lit (.func (.func 32) _ _)) _ _ _ _; refine wcall_fn (h32a) rfl (by simp [plainL, plain]) ?_)
          | (show wcallX _ false (.lit (.func (.func 32) _ _)) _ _ _ _; refine wcallX_fn (h32a) rfl (by simp [plainL, plain, plainR, Int.toNat_natCast, e1, e2]) ?_)
          | ((first | refine T_cond rfl (fun hc => ?_) (fun hc => ?_) | refine wguard_split (fun hc => ?_) (fun hc => ?_) | refine wguardX_split (fun hc => ?_) (fun hc => ?_)) <;> have hd := hc <;> (try simp (disch := omega) only [wrapI] at hd) <;> have hs := hd <;> (try simp only [Bool.not_eq_true', Bool.not_eq_false', Bool.and_eq_true, Bool.and_eq_false_iff, Bool.or_eq_true, Bool.or_eq_false_iff, decide_eq_true_eq, decide_eq_false_iff_not, beq_iff_eq, bne_iff_ne, beq_eq_false_iff_ne, bne_eq_false_iff_eq, Bool.not_true, Bool.not_false, gt_iff_lt, ge_iff_le, Int.not_lt, Int.not_le, ne_eq, Decidable.not_not] at hd) <;> (try simp at hs))
          | refine T_ret ?_
          | refine leave_of (.inr rfl) _ rfl ?_
          | refine leave_of (.inl rfl) _ rfl ?_
          | refine leaveA_of (.inr rfl) _ rfl ?_
          | refine leaveA_of (.inl rfl) _ rfl ?_
          | refine wif_intro ?_ (fun hc => ?_)
          | refine And.intro ?_ ?_
          | intro hc
        | simp (maxSteps := 4000000) only [wops_nil, wops_cons, wstep_none, wstep_some, wguard_ff, wguard_tf, wrun_call, wrun_mv, wrun_pick, wrun_bin, wrun_not, wrun_build, wrun_load, wrun_store, wrun_faddr, wrun_len, wrun_alloc, wrun_box, get_mk, wop, aop, ev, look, put_some, put_none, writes, ores_some, ores_map, ores_bind, binV, thenK, boolV, intV, lenOf, value, cut, hget, fillA, putCells, AV.parts, isOne, toLits, mkAgg, tupOf, List.map_cons, List.map_nil, List.length_cons, List.length_nil, List.getElem?_cons_zero, List.getElem?_cons_succ, List.set_cons_zero, List.set_cons_succ, List.take_succ_cons, List.take_zero, List.take_nil, List.drop_succ_cons, List.drop_zero, List.drop_nil, List.nil_append, List.append_nil, List.replicate_zero, List.replicate_succ, List.getD_cons_zero, List.zipIdx_cons, List.zipIdx_nil, List.all_cons, List.all_nil, Option.pure_def, Option.bind_eq_bind, Option.getD_some, Option.map_some, Option.map_none, if_true, if_false, Nat.reduceEqDiff, Nat.reduceAdd, Nat.reduceLT, Nat.add_zero, Nat.zero_add, Nat.le_refl, Nat.zero_ne_one, reduceCtorEq, Bool.not_true, Bool.and_true, Bool.false_eq_true, eq_self, true_and, and_self, freeze, lidsL, lids, List.flatMap_cons, List.flatMap_nil, List.all_cons, ren, renL, renR, *]
        | simp (disch := omega) only [getD_ints, wrapI]
        | (with_reducible show wcall _ false (.lit (.func (.func 32) _ _)) _ _ _ _; refine wcall_fn (h32a) ?_ ?_ ?_; (next => simp [rfyL, rfy, hget, ints, take_rfy, Int.toNat_natCast, e1, e2]); (next => simp [plainL, plain, plainR, Int.toNat_natCast, e1, e2]))
        | (with_reducible show wcallX _ false (.lit (.func (.func 32) _ _)) _ _ _ _; refine wcallX_fn (h32a) ?_ ?_ ?_; (next => simp [rfyL, rfy, hget, ints, take_rfy, Int.toNat_natCast, e1, e2]); (next => simp [plainL, plain, plainR, Int.toNat_natCast, e1, e2]))
        | omega)
      all_goals first | rfl
  · rw [show (decide (1 ≤ (ml.length : Int)) && decide ((ml.length : Int) ≤ 24)) = false by rw [← Bool.decide_and]; exact decide_eq_false (by omega)] at h32a
    clear h
    unfold c20
    repeat' (first
      | ((with_reducible refine T_calm ?_ ?_); rfl)
      | with_reducible first
        | refine T_seq ?_
        | refine T_reg ?_
        | refine T_draw ?_
        | refine T_skip ?_
        | refine T_exit ?_
        | refine T_block ?_
        | refine T_cond_t rfl ?_
        | refine T_cond_f rfl ?_
        | refine wdW_cons rfl ?_
        | (show wcall _ false (.lit (.func (.func 32) _ _)) _ _ _ _; refine wcall_fn (h32a) rfl (by simp [plainL, plain]) ?_)
        | (show wcallX _ false (.lit (.func (.func 32) _ _)) _ _ _ _; refine wcallX_fn (h32a) rfl (by simp [plainL, plain, plainR, Int.toNat_natCast, e1, e2]) ?_)
        | ((first | refine T_cond rfl (fun hc => ?_) (fun hc => ?_) | refine wguard_split (fun hc => ?_) (fun hc => ?_) | refine wguardX_split (fun hc => ?_) (fun hc => ?_)) <;> have hd := hc <;> (try simp (disch := omega) only [wrapI] at hd) <;> have hs := hd <;> (try simp only [Bool.not_eq_true', Bool.not_eq_false', Bool.and_eq_true, Bool.and_eq_false_iff, Bool.or_eq_true, Bool.or_eq_false_iff, decide_eq_true_eq, decide_eq_false_iff_not, beq_iff_eq, bne_iff_ne, beq_eq_false_iff_ne, bne_eq_false_iff_eq, Bool.not_true, Bool.not_false, gt_iff_lt, ge_iff_le, Int.not_lt, Int.not_le, ne_eq, Decidable.not_not] at hd) <;> (try simp at hs))
        | refine T_ret ?_
        | refine leave_of (.inr rfl) _ rfl ?_
        | refine leave_of (.inl rfl) _ rfl ?_
        | refine leaveA_of (.inr rfl) _ rfl ?_
        | refine leaveA_of (.inl rfl) _ rfl ?_
        | refine wif_intro ?_ (fun hc => ?_)
        | refine And.intro ?_ ?_
        | intro hc
      | simp (maxSteps := 4000000) only [wops_nil, wops_cons, wstep_none, wstep_some, wguard_tf, wrun_call, wrun_mv, wrun_pick, wrun_not, wrun_build, wrun_load, wrun_store, wrun_faddr, wrun_len, wrun_alloc, wrun_box, get_mk, wop, aop, ev, look, put_some, put_none, writes, ores_some, ores_map, ores_bind, thenK, boolV, intV, lenOf, value, cut, hget, fillA, putCells, AV.parts, isOne, toLits, mkAgg, tupOf, List.map_cons, List.map_nil, List.length_cons, List.length_nil, List.getElem?_cons_zero, List.getElem?_cons_succ, List.set_cons_zero, List.set_cons_succ, List.take_succ_cons, List.take_zero, List.take_nil, List.drop_succ_cons, List.drop_zero, List.drop_nil, List.nil_append, List.append_nil, List.replicate_zero, List.replicate_succ, List.getD_cons_zero, List.zipIdx_cons, List.zipIdx_nil, List.all_cons, List.all_nil, Option.pure_def, Option.bind_eq_bind, Option.getD_some, Option.map_some, Option.map_none, if_true, if_false, Nat.reduceEqDiff, Nat.reduceAdd, Nat.reduceLT, Nat.add_zero, Nat.zero_add, Nat.le_refl, Nat.zero_ne_one, reduceCtorEq, Bool.not_false, Bool.and_true, Bool.false_eq_true, eq_self, true_and, and_self, freeze, lidsL, lids, List.flatMap_cons, List.flatMap_nil, List.all_cons, ren, renL, renR, *]
      | simp (disch := omega) only [getD_ints, wrapI]
      | (with_reducible show wcall _ false (.lit (.func (.func 32) _ _)) _ _ _ _; refine wcall_fn (h32a) ?_ ?_ ?_; (next => simp [rfyL, rfy, hget, ints, take_rfy, Int.toNat_natCast, e1, e2]); (next => simp [plainL, plain, plainR, Int.toNat_natCast, e1, e2]))
      | (with_reducible show wcallX _ false (.lit (.func (.func 32) _ _)) _ _ _ _; refine wcallX_fn (h32a) ?_ ?_ ?_; (next => simp [rfyL, rfy, hget, ints, take_rfy, Int.toNat_natCast, e1, e2]); (next => simp [plainL, plain, plainR, Int.toNat_natCast, e1, e2]))
      | omega)
    all_goals first | rfl
end
end Go.Abs
