import Derived.Test.YtodheeifecoebaaK250x
set_option linter.all false
set_option linter.unusedVariables false
set_option linter.unusedSimpArgs false
set_option linter.unusedSectionVars false
namespace Go.Abs
open Go.Proofs
/-! law 3 -/
section
variable {b1 b2 b3 : Bool} {ml il ol : List Int} {k s n : Nat}
set_option maxHeartbeats 8000000 in
theorem k3a {T : Int} (h : ¬((1 ≤ ml.length ∧ ml.length ≤ 24) ∧ il.length = ml.length ∧ (1 ≤ T ∧ T ≤ 12) ∧ (ml.length : Int).tmod T = 0)) : Fn Try.prog 3 [.agg [ints b1 ml, ints b2 il, i64 T], ints b3 ol] (bl true) [] := by
  refine fn_of e3 ?_
  have h19 := k19
  have h20 := k20b (b1 := b1) (b2 := b2) h
  clear h
  unfold c3
  repeat' (first
    | ((with_reducible refine T_calm ?_ ?_); rfl)
    | with_reducible first
      | refine T_seq ?_
      | refine T_reg ?_
      | refine T_draw ?_
      | refine T_skip ?_
      | refine T_exit ?_
      | refine T_block ?_
      | refine T_cond_t rfl ?_
      | refine T_cond_f rfl ?_
      | refine wdW_cons rfl ?_
      | (show wcall _ false (.lit (.func (.func 19) _ _)) _ _ _ _; refine wcall_fn (h19) rfl (by simp [plainL]) ?_)
      | (show wcallX _ false (.lit (.func (.func 19) _ _)) _ _ _ _; refine wcallX_fn (h19) rfl (by simp [plainL, plain, plainR, Int.toNat_natCast]) ?_)
      | (show wcall _ false (.lit (.func (.func 20) _ _)) _ _ _ _; refine wcall_fn (h20) rfl (by simp [plainL, plain]) ?_)
      | (show wcallX _ false (.lit (.func (.func 20) _ _)) _ _ _ _; refine wcallX_fn (h20) rfl (by simp [plainL, plain, plainR, Int.toNat_natCast]) ?_)
      | ((first | refine T_cond rfl (fun hc => ?_) (fun hc => ?_) | refine wguard_split (fun hc => ?_) (fun hc => ?_) | refine wguardX_split (fun hc => ?_) (fun hc => ?_)) <;> have hd := hc <;> (try simp (disch := omega) only [wrapI] at hd) <;> have hs := hd <;> (try simp only [Bool.not_eq_true', Bool.not_eq_false', Bool.and_eq_true, Bool.and_eq_false_iff, Bool.or_eq_true, Bool.or_eq_false_iff, decide_eq_true_eq, decide_eq_false_iff_not, beq_iff_eq, bne_iff_ne, beq_eq_false_iff_ne, bne_eq_false_iff_eq, Bool.not_true, Bool.not_false, gt_iff_lt, ge_iff_le, Int.not_lt, Int.not_le, ne_eq, Decidable.not_not] at hd) <;> (try simp at hs))
      | refine T_ret ?_
      | refine leave_of (.inr rfl) _ rfl ?_
      | refine leave_of (.inl rfl) _ rfl ?_
      | refine leaveA_of (.inr rfl) _ rfl ?_
      | refine leaveA_of (.inl rfl) _ rfl ?_
      | refine wif_intro ?_ (fun hc => ?_)
      | refine And.intro ?_ ?_
      | intro hc
    | simp (maxSteps := 4000000) only [wops_nil, wops_cons, wstep_none, wstep_some, wguard_tf, wrun_call, wrun_mv, wrun_pick, wrun_not, wrun_ext, wrun_load, wrun_store, wrun_alloc, wrun_box, get_mk, wop, aop, ev, look, put_some, put_none, writes, ores_some, thenK, boolV, value, cut, hget, putCells, AV.parts, isOne, toLits, mkAgg, tupOf, List.map_cons, List.map_nil, List.length_cons, List.length_nil, List.getElem?_cons_zero, List.getElem?_cons_succ, List.set_cons_zero, List.set_cons_succ, List.take_succ_cons, List.take_zero, List.take_nil, List.drop_succ_cons, List.drop_zero, List.drop_nil, List.cons_append, List.nil_append, List.append_nil, List.append_assoc, List.replicate_zero, List.replicate_succ, List.getD_cons_zero, List.zipIdx_cons, List.zipIdx_nil, List.all_cons, List.all_nil, Option.getD_some, Option.map_some, if_true, if_false, Nat.reduceEqDiff, Nat.reduceAdd, Nat.reduceLT, Nat.add_zero, Nat.zero_add, Nat.le_refl, reduceCtorEq, Bool.not_true, Bool.not_false, Bool.and_true, eq_self, true_and, and_self, freeze, lidsL, lids, List.flatMap_cons, List.flatMap_nil, List.all_cons, ren, renL, renR, *]
    | simp (disch := omega) only [getD_ints, wrapI]
    | (with_reducible show wcall _ false (.lit (.func (.func 19) _ _)) _ _ _ _; refine wcall_fn (h19) ?_ ?_ ?_; (next => simp [rfyL, rfy, hget, ints, take_rfy, Int.toNat_natCast]); (next => simp [plainL, plain, plainR, Int.toNat_natCast]))
    | (with_reducible show wcallX _ false (.lit (.func (.func 19) _ _)) _ _ _ _; refine wcallX_fn (h19) ?_ ?_ ?_; (next => simp [rfyL, rfy, hget, ints, take_rfy, Int.toNat_natCast]); (next => simp [plainL, plain, plainR, Int.toNat_natCast]))
    | (with_reducible show wcall _ false (.lit (.func (.func 20) _ _)) _ _ _ _; refine wcall_fn (h20) ?_ ?_ ?_; (next => simp [rfyL, rfy, hget, ints, take_rfy, Int.toNat_natCast]); (next => simp [plainL, plain, plainR, Int.toNat_natCast]))
    | (with_reducible show wcallX _ false (.lit (.func (.func 20) _ _)) _ _ _ _; refine wcallX_fn (h20) ?_ ?_ ?_; (next => simp [rfyL, rfy, hget, ints, take_rfy, Int.toNat_natCast]); (next => simp [plainL, plain, plainR, Int.toNat_natCast]))
    | omega)
  all_goals first | rfl
set_option maxHeartbeats 8000000 in
theorem k3b (m : MdOk ml il k s n) : Fn Try.prog 3 [.agg [ints b1 ml, ints b2 il, i64 k], ints b3 ol] (bl true) [] := by
  refine fn_of e3 ?_
  have h19 := k19
  have h20 := k20a (b1 := b1) (b2 := b2) m
  have h1 := m.h1
  have e1 : (ml.map fun x => [i64 x]).length = n := by simp [h1]
  have e2 : (ol.map fun x => [i64 x]).length = ol.length := by simp
  replace h20 := And.intro h20 trivial
  replace h1 := And.intro h1 trivial
  rw [c3_cut]
  repeat' (first
    | ((with_reducible refine T_calm ?_ ?_); rfl)
    | with_reducible first
      | refine T_seq ?_
      | refine T_reg ?_
      | refine T_draw ?_
      | refine T_skip ?_
      | refine T_exit ?_
      | refine T_block ?_
      | refine T_cond_t rfl ?_
      | refine T_cond_f rfl ?_
      | refine wdW_cons rfl ?_
      | (show wcall _ false (.lit (.func (.func 19) _ _)) _ _ _ _; refine wcall_fn (h19) rfl (by simp [plainL]) ?_)
      | (show wcallX _ false (.lit (.func (.func 19) _ _)) _ _ _ _; refine wcallX_fn (h19) rfl (by simp [plainL, plain, plainR, Int.toNat_natCast, e1, e2]) ?_)
      | ((first | refine T_cond rfl (fun hc => ?_) (fun hc => ?_) | refine wguard_split (fun hc => ?_) (fun hc => ?_) | refine wguardX_split (fun hc => ?_) (fun hc => ?_)) <;> have hd := hc <;> (try simp (disch := omega) only [wrapI] at hd) <;> have hs := hd <;> (try simp only [Bool.not_eq_true', Bool.not_eq_false', Bool.and_eq_true, Bool.and_eq_false_iff, Bool.or_eq_true, Bool.or_eq_false_iff, decide_eq_true_eq, decide_eq_false_iff_not, beq_iff_eq, bne_iff_ne, beq_eq_false_iff_ne, bne_eq_false_iff_eq, Bool.not_true, Bool.not_false, gt_iff_lt, ge_iff_le, Int.not_lt, Int.not_le, ne_eq, Decidable.not_not] at hd) <;> (try simp at hs))
      | refine T_ret ?_
      | refine leave_of (.inr rfl) _ rfl ?_
      | refine leave_of (.inl rfl) _ rfl ?_
      | refine leaveA_of (.inr rfl) _ rfl ?_
      | refine leaveA_of (.inl rfl) _ rfl ?_
      | refine wif_intro ?_ (fun hc => ?_)
      | refine And.intro ?_ ?_
      | intro hc
    | simp (maxSteps := 4000000) only [wops_nil, wops_cons, wstep_none, wrun_call, wrun_mv, wrun_not, wrun_load, wrun_box, wop, aop, ev, look, put_some, writes, ores_some, thenK, boolV, value, cut, hget, AV.parts, isOne, toLits, mkAgg, List.map_cons, List.map_nil, List.length_cons, List.length_nil, List.getElem?_cons_zero, List.set_cons_zero, List.take_succ_cons, List.take_nil, List.drop_zero, List.cons_append, List.nil_append, List.append_nil, List.replicate_zero, List.replicate_succ, List.getD_cons_zero, List.zipIdx_cons, List.zipIdx_nil, List.all_cons, List.all_nil, Option.getD_some, Option.map_some, if_true, if_false, Nat.reduceEqDiff, Nat.reduceAdd, Nat.add_zero, Nat.zero_add, reduceCtorEq, Bool.not_true, Bool.and_true, eq_self, true_and, and_self, freeze, lidsL, List.flatMap_nil, List.all_cons, ren, *]
    | simp (disch := omega) only [getD_ints, wrapI]
    | (with_reducible show wcall _ false (.lit (.func (.func 19) _ _)) _ _ _ _; refine wcall_fn (h19) ?_ ?_ ?_; (next => simp [rfyL, rfy, hget, ints, take_rfy, Int.toNat_natCast, e1, e2]); (next => simp [plainL, plain, plainR, Int.toNat_natCast, e1, e2]))
    | (with_reducible show wcallX _ false (.lit (.func (.func 19) _ _)) _ _ _ _; refine wcallX_fn (h19) ?_ ?_ ?_; (next => simp [rfyL, rfy, hget, ints, take_rfy, Int.toNat_natCast, e1, e2]); (next => simp [plainL, plain, plainR, Int.toNat_natCast, e1, e2]))
    | omega)
  refine wcall_M h20.1 rfl (by simp [plainL, plain]) (fun hno H1 hx hR => ?_) (fun hok id H1 hx hR hv => ?_)
  · obtain ⟨o0, hH0⟩ := hx.cell (id := 0) rfl
    have hN1 := hR 1 rfl
    have hNlt := (List.getElem?_eq_some_iff.1 hN1).1
    have hs1 : ∀ B : Blk, (H1.set 1 B)[1]? = some B := fun B => List.getElem?_set_self hNlt
    have hss : ∀ B B' : Blk, (H1.set 1 B).set 1 B' = H1.set 1 B' := fun B B' => List.set_set ..
    clear hx hR h20 hno
    repeat' (first
      | ((with_reducible refine T_calm ?_ ?_); rfl)
      | with_reducible first
        | refine T_seq ?_
        | refine T_reg ?_
        | refine T_draw ?_
        | refine T_skip ?_
        | refine T_exit ?_
        | refine T_block ?_
        | refine T_cond_t rfl ?_
        | refine T_cond_f rfl ?_
        | refine wdW_cons rfl ?_
        | ((first | refine T_cond rfl (fun hc => ?_) (fun hc => ?_) | refine wguard_split (fun hc => ?_) (fun hc => ?_) | refine wguardX_split (fun hc => ?_) (fun hc => ?_)) <;> have hd := hc <;> (try simp (disch := omega) only [wrapI] at hd) <;> have hs := hd <;> (try simp only [Bool.not_eq_true', Bool.not_eq_false', Bool.and_eq_true, Bool.and_eq_false_iff, Bool.or_eq_true, Bool.or_eq_false_iff, decide_eq_true_eq, decide_eq_false_iff_not, beq_iff_eq, bne_iff_ne, beq_eq_false_iff_ne, bne_eq_false_iff_eq, Bool.not_true, Bool.not_false, gt_iff_lt, ge_iff_le, Int.not_lt, Int.not_le, ne_eq, Decidable.not_not] at hd) <;> (try simp at hs))
        | refine T_ret ?_
        | refine leave_of (.inr rfl) _ rfl ?_
        | refine leave_of (.inl rfl) _ rfl ?_
        | refine leaveA_of (.inr rfl) _ rfl ?_
        | refine leaveA_of (.inl rfl) _ rfl ?_
        | refine wif_intro ?_ (fun hc => ?_)
        | refine And.intro ?_ ?_
        | intro hc
      | simp (maxSteps := 4000000) only [wops_nil, wops_cons, wstep_none, wstep_some, wguard_tf, wrun_mv, wrun_pick, wrun_not, wrun_ext, wrun_store, wrun_alloc, get_mk, wop, aop, ev, look, put_some, put_none, writes, ores_some, thenK, boolV, hget, putCells, AV.parts, isOne, tupOf, List.length_cons, List.length_nil, List.getElem?_cons_zero, List.getElem?_cons_succ, List.set_cons_zero, List.take_zero, List.drop_succ_cons, List.drop_nil, List.nil_append, List.append_nil, List.append_assoc, List.replicate_zero, List.getD_cons_zero, List.all_cons, List.all_nil, Option.getD_some, Option.map_some, if_true, if_false, Nat.reduceEqDiff, Nat.reduceAdd, Nat.reduceLT, Nat.add_zero, Nat.zero_add, Nat.le_refl, reduceCtorEq, Bool.not_false, Bool.and_true, eq_self, true_and, and_self, List.all_cons, ren, *]
      | simp (disch := omega) only [getD_ints, wrapI]
      | omega)
    all_goals first | rfl
  · obtain ⟨o0, hH0⟩ := hx.cell (id := 0) rfl
    have hN1 := hR 1 rfl
    have hNlt := (List.getElem?_eq_some_iff.1 hN1).1
    have hs1 : ∀ B : Blk, (H1.set 1 B)[1]? = some B := fun B => List.getElem?_set_self hNlt
    have hs0 : ∀ B : Blk, (H1.set 1 B)[0]? = some (.cells o0 false 3 [[ints b1 ml, ints b2 il, i64 k]]) := fun B => by rw [List.getElem?_set_ne (by omega)]; exact hH0
    have hss : ∀ B B' : Blk, (H1.set 1 B).set 1 B' = H1.set 1 B' := fun B B' => List.set_set ..
    have hse : ∀ B : Blk, Ext H1 (H1.set 1 B) := fun B => Ext.set_resv hN1 B
    replace hv := fun B => hv.ext (hse B)
    clear hx hR h20 hse
    by_cases ho : ol.length = n
    · have hl0 : ((ol.length : Int) != (n : Int)) = false := by simp [ho]
      have m2 : MdOk ml ol k s n := ⟨m.hn, m.h1, ho, m.hk, m.hks⟩
      have h20 := k20a (b1 := b1) (b2 := b3) m2
      replace h20 := And.intro h20 trivial
      have hsl : ∀ B : Blk, (H1.set 1 B).length = H1.length := fun B => by simp
      have hs0a : ∀ (B : Blk) X, (H1.set 1 B ++ X)[0]? = some (.cells o0 false 3 [[ints b1 ml, ints b2 il, i64 k]]) := fun B X => at_ap (hs0 B) X
      have hs1a : ∀ (B : Blk) X, (H1.set 1 B ++ X)[1]? = some B := fun B X => at_ap (hs1 B) X
      have u1 : ∀ (B : Blk) Y, (H1.set 1 B ++ Y)[H1.length]? = Y[0]? := fun B => (cells_sub (X := []) (hsl B)).1
      have u2 : ∀ (B : Blk) Y j, (H1.set 1 B ++ Y)[H1.length + j]? = Y[j]? := fun B => (cells_sub (X := []) (hsl B)).2.1
      have u3 : ∀ (B : Blk) Y v, (H1.set 1 B ++ Y).set H1.length v = H1.set 1 B ++ Y.set 0 v := fun B => (cells_sub (X := []) (hsl B)).2.2.1
      have u4 : ∀ (B : Blk) Y j v, (H1.set 1 B ++ Y).set (H1.length + j) v = H1.set 1 B ++ Y.set j v := fun B => (cells_sub (X := []) (hsl B)).2.2.2
      repeat' (first
        | ((with_reducible refine T_calm ?_ ?_); rfl)
        | with_reducible first
          | refine T_seq ?_
          | refine T_reg ?_
          | refine T_draw ?_
          | refine T_skip ?_
          | refine T_exit ?_
          | refine T_block ?_
          | refine T_cond_t rfl ?_
          | refine T_cond_f rfl ?_
          | refine wdW_cons rfl ?_
          | ((first | refine T_cond rfl (fun hc => ?_) (fun hc => ?_) | refine wguard_split (fun hc => ?_) (fun hc => ?_) | refine wguardX_split (fun hc => ?_) (fun hc => ?_)) <;> have hd := hc <;> (try simp (disch := omega) only [wrapI] at hd) <;> have hs := hd <;> (try simp only [bne_iff_ne, bne_eq_false_iff_eq, ne_eq] at hd) <;> (try simp at hs))
          | refine T_ret ?_
          | refine leave_of (.inr rfl) _ rfl ?_
          | refine leave_of (.inl rfl) _ rfl ?_
          | refine leaveA_of (.inr rfl) _ rfl ?_
          | refine leaveA_of (.inl rfl) _ rfl ?_
          | refine wif_intro ?_ (fun hc => ?_)
          | refine And.intro ?_ ?_
          | intro hc
        | simp (maxSteps := 4000000) only [wops_nil, wops_cons, wstep_none, wstep_some, wguard_ff, wrun_call, wrun_mv, wrun_pick, wrun_bin, wrun_not, wrun_ext, wrun_build, wrun_load, wrun_store, wrun_faddr, wrun_len, wrun_alloc, wop, aop, ev, look, put_some, put_none, writes, ores_some, ores_ite_none, ores_map, ores_bind, wif_true, binV, thenK, boolV, intV, lenOf, value, cut, hget, fillA, putCells, AV.parts, isOne, toLits, mkAgg, List.map_cons, List.map_nil, List.length_cons, List.length_nil, List.getElem?_cons_zero, List.getElem?_cons_succ, List.set_cons_zero, List.take_succ_cons, List.take_zero, List.take_nil, List.drop_succ_cons, List.drop_zero, List.drop_nil, List.cons_append, List.nil_append, List.append_nil, List.append_assoc, List.replicate_zero, List.replicate_succ, List.getD_cons_zero, List.all_cons, List.all_nil, List.length_append, Option.pure_def, Option.bind_eq_bind, Option.getD_some, Option.map_some, if_true, if_false, Nat.reduceEqDiff, Nat.reduceAdd, Nat.reduceLeDiff, Nat.reduceLT, Nat.add_zero, Nat.zero_add, Nat.le_refl, Nat.zero_ne_one, reduceCtorEq, Bool.not_true, Bool.and_true, Bool.false_eq_true, eq_self, true_and, and_true, and_self, List.all_cons, *]
        | simp (disch := omega) only [getD_ints, wrapI]
        | omega)
      refine wcall_M h20.1 rfl (by simp [plainL, plain]) (fun hno H2 hx hR => ?_) (fun hok2 id2 H2 hx hR hv2 => ?_)
      · have hN2 := hR (H1.length + 1) (by rw [u2]; rfl)
        obtain ⟨o1, hH1⟩ := hx.cell (hs0a _ _)
        generalize H1.length + 1 = N at *
        have hNl2 := (List.getElem?_eq_some_iff.1 hN2).1
        have hr1 : ∀ B : Blk, (H2.set N B)[N]? = some B := fun B => List.getElem?_set_self hNl2
        have hrs : ∀ B B' : Blk, (H2.set N B).set N B' = H2.set N B' := fun B B' => List.set_set ..
        clear hx hR h20 hno hv hok hs0 hs1 hss hs0a hs1a u1 u2 u3 u4 hsl
        repeat' (first
          | ((with_reducible refine T_calm ?_ ?_); rfl)
          | with_reducible first
            | refine T_seq ?_
            | refine T_reg ?_
            | refine T_draw ?_
            | refine T_skip ?_
            | refine T_exit ?_
            | refine T_block ?_
            | refine T_cond_t rfl ?_
            | refine T_cond_f rfl ?_
            | refine wdW_cons rfl ?_
            | ((first | refine T_cond rfl (fun hc => ?_) (fun hc => ?_) | refine wguard_split (fun hc => ?_) (fun hc => ?_) | refine wguardX_split (fun hc => ?_) (fun hc => ?_)) <;> have hd := hc <;> (try simp (disch := omega) only [wrapI] at hd) <;> have hs := hd <;> (try simp only [Bool.not_eq_true', Bool.not_eq_false', Bool.and_eq_true, Bool.and_eq_false_iff, Bool.or_eq_true, Bool.or_eq_false_iff, decide_eq_true_eq, decide_eq_false_iff_not, beq_iff_eq, bne_iff_ne, beq_eq_false_iff_ne, bne_eq_false_iff_eq, Bool.not_true, Bool.not_false, gt_iff_lt, ge_iff_le, Int.not_lt, Int.not_le, ne_eq, Decidable.not_not] at hd) <;> (try simp at hs))
            | refine T_ret ?_
            | refine leave_of (.inr rfl) _ rfl ?_
            | refine leave_of (.inl rfl) _ rfl ?_
            | refine leaveA_of (.inr rfl) _ rfl ?_
            | refine leaveA_of (.inl rfl) _ rfl ?_
            | refine wif_intro ?_ (fun hc => ?_)
            | refine And.intro ?_ ?_
            | intro hc
          | simp (maxSteps := 4000000) only [wops_nil, wops_cons, wstep_none, wrun_mv, wrun_not, wrun_ext, wrun_store, wrun_alloc, get_mk, wop, aop, ev, look, put_some, put_none, writes, ores_some, thenK, boolV, hget, putCells, AV.parts, isOne, tupOf, List.length_cons, List.length_nil, List.getElem?_cons_zero, List.getElem?_cons_succ, List.set_cons_zero, List.take_zero, List.drop_succ_cons, List.drop_nil, List.nil_append, List.append_nil, List.append_assoc, List.replicate_zero, List.getD_cons_zero, List.all_cons, List.all_nil, Option.getD_some, Option.map_some, if_true, if_false, Nat.reduceEqDiff, Nat.reduceAdd, Nat.reduceLT, Nat.add_zero, Nat.zero_add, Nat.le_refl, reduceCtorEq, Bool.not_false, Bool.and_true, eq_self, true_and, and_self, List.all_cons, ren, *]
          | simp (disch := omega) only [getD_ints, wrapI]
          | omega)
        all_goals first | rfl
      · have hN2 := hR (H1.length + 1) (by rw [u2]; rfl)
        obtain ⟨o1, hH1⟩ := hx.cell (hs0a _ _)
        obtain ⟨o2, hH2⟩ := hx.cell (hs1a _ _)
        have hva := ((hv _).ext (Ext.app _ _)).ext hx
        have hNn : 1 < H1.length + 1 := by omega
        generalize H1.length + 1 = N at *
        have hNl2 := (List.getElem?_eq_some_iff.1 hN2).1
        have hr1 : ∀ B : Blk, (H2.set N B)[N]? = some B := fun B => List.getElem?_set_self hNl2
        have hrs : ∀ B B' : Blk, (H2.set N B).set N B' = H2.set N B' := fun B B' => List.set_set ..
        have hr0 : ∀ B : Blk, (H2.set N B)[0]? = some (.cells o1 false 3 [[ints b1 ml, ints b2 il, i64 k]]) := fun B => by rw [List.getElem?_set_ne (by omega)]; exact hH1
        have hrm : ∀ B : Blk, (H2.set N B)[1]? = some (.cells o2 false 2 [[i64 n, .lsl id 0 k]]) := fun B => by rw [List.getElem?_set_ne (by omega)]; exact hH2
        have hre : ∀ B : Blk, Ext H2 (H2.set N B) := fun B => Ext.set_resv hN2 B
        replace hva := fun B => hva.ext (hre B)
        replace hv2 := fun B => hv2.ext (hre B)
        have hRG := hok.2.2.2.2
        have hRG2 := hok2.2.2.2.2
        rw [h1.1] at hRG hRG2
        have h21a := z21a m hRG
        have h21b := z21a m2 hRG2
        have h21c := z21c m hRG
        have h22 := z22 m hRG
        have hp : ∀ (b : Bool) rows, plainL [tmV (n : Int) b rows] = true := fun b rows => plain_tm ..
        replace hva := And.intro hva trivial
        replace hv2 := And.intro hv2 trivial
        replace h21a := And.intro h21a trivial
        replace h21b := And.intro h21b trivial
        replace h21c := And.intro h21c trivial
        replace h22 := And.intro h22 trivial
        replace hp := And.intro hp trivial
        clear hx hR h20 hv hok hok2 hs0 hs1 hss hs0a hs1a u1 u2 u3 u4 hsl hre hRG2 hN1 hNlt hH0 hH1 hH2 hNl2
        repeat' (first
          | ((with_reducible refine T_calm ?_ ?_); rfl)
          | with_reducible first
            | refine T_seq ?_
            | refine T_reg ?_
            | refine T_draw ?_
            | refine T_skip ?_
            | refine T_exit ?_
            | refine T_block ?_
            | refine T_cond_t rfl ?_
            | refine T_cond_f rfl ?_
            | refine wdW_cons rfl ?_
            | ((first | refine T_cond rfl (fun hc => ?_) (fun hc => ?_) | refine wguard_split (fun hc => ?_) (fun hc => ?_) | refine wguardX_split (fun hc => ?_) (fun hc => ?_)) <;> have hd := hc <;> (try simp (disch := omega) only [wrapI] at hd) <;> have hs := hd <;> (try simp only [Bool.not_eq_true', Bool.not_eq_false', Bool.and_eq_true, Bool.and_eq_false_iff, Bool.or_eq_true, Bool.or_eq_false_iff, decide_eq_true_eq, decide_eq_false_iff_not, beq_iff_eq, bne_iff_ne, beq_eq_false_iff_ne, bne_eq_false_iff_eq, Bool.not_true, Bool.not_false, gt_iff_lt, ge_iff_le, Int.not_lt, Int.not_le, ne_eq, Decidable.not_not] at hd) <;> (try simp at hs))
            | refine T_ret ?_
            | refine leave_of (.inr rfl) _ rfl ?_
            | refine leave_of (.inl rfl) _ rfl ?_
            | refine leaveA_of (.inr rfl) _ rfl ?_
            | refine leaveA_of (.inl rfl) _ rfl ?_
            | refine wif_intro ?_ (fun hc => ?_)
            | refine And.intro ?_ ?_
            | intro hc
          | simp (maxSteps := 4000000) only [wops_nil, wops_cons, wstep_none, wrun_call, wrun_mv, wrun_not, wrun_ext, wrun_load, wrun_store, wrun_alloc, wop, aop, ev, look, put_some, put_none, writes, ores_some, thenK, boolV, value, cut, hget, putCells, AV.parts, isOne, toLits, mkAgg, List.map_cons, List.map_nil, List.length_cons, List.length_nil, List.getElem?_cons_zero, List.getElem?_cons_succ, List.set_cons_zero, List.take_succ_cons, List.take_zero, List.take_nil, List.drop_succ_cons, List.drop_zero, List.drop_nil, List.nil_append, List.append_nil, List.append_assoc, List.replicate_zero, List.getD_cons_zero, List.all_cons, List.all_nil, Option.getD_some, Option.map_some, Option.map_none, if_true, if_false, Nat.reduceEqDiff, Nat.reduceAdd, Nat.reduceLT, Nat.add_zero, Nat.zero_add, Nat.le_refl, reduceCtorEq, Bool.not_true, Bool.and_true, eq_self, true_and, and_self, List.all_cons, *]
          | simp (disch := omega) only [getD_ints, wrapI]
          | omega)
        refine wcall_P h21a.1 (rL_M (hva.1 _)) (hp.1 _ _) ?_
        intro ia oa H3 hx hA
        obtain ⟨o3, hH3⟩ := hx.cell (hr0 _)
        obtain ⟨o4, hM3⟩ := hx.cell (hrm _)
        obtain ⟨o5, hN3⟩ := hx.cell (hr1 _)
        replace hva := And.intro ((hva.1 _).ext hx) trivial
        replace hv2 := And.intro ((hv2.1 _).ext hx) trivial
        clear hx hr0 hr1 hrm hrs hN2
        repeat' (first
          | ((with_reducible refine T_calm ?_ ?_); rfl)
          | with_reducible first
            | refine T_seq ?_
            | refine T_reg ?_
            | refine T_draw ?_
            | refine T_skip ?_
            | refine T_exit ?_
            | refine T_block ?_
            | refine T_cond_t rfl ?_
            | refine T_cond_f rfl ?_
            | refine wdW_cons rfl ?_
            | ((first | refine T_cond rfl (fun hc => ?_) (fun hc => ?_) | refine wguard_split (fun hc => ?_) (fun hc => ?_) | refine wguardX_split (fun hc => ?_) (fun hc => ?_)) <;> have hd := hc <;> (try simp (disch := omega) only [wrapI] at hd) <;> have hs := hd <;> (try simp only [Bool.not_eq_true', Bool.not_eq_false', Bool.and_eq_true, Bool.and_eq_false_iff, Bool.or_eq_true, Bool.or_eq_false_iff, decide_eq_true_eq, decide_eq_false_iff_not, beq_iff_eq, bne_iff_ne, beq_eq_false_iff_ne, bne_eq_false_iff_eq, Bool.not_true, Bool.not_false, gt_iff_lt, ge_iff_le, Int.not_lt, Int.not_le, ne_eq, Decidable.not_not] at hd) <;> (try simp at hs))
            | refine T_ret ?_
            | refine leave_of (.inr rfl) _ rfl ?_
            | refine leave_of (.inl rfl) _ rfl ?_
            | refine leaveA_of (.inr rfl) _ rfl ?_
            | refine leaveA_of (.inl rfl) _ rfl ?_
            | refine wif_intro ?_ (fun hc => ?_)
            | refine And.intro ?_ ?_
            | intro hc
          | simp (maxSteps := 4000000) only [wops_nil, wops_cons, wstep_none, wrun_call, wrun_mv, wrun_ext, wrun_load, wop, aop, ev, look, put_some, writes, ores_some, thenK, value, cut, hget, toLits, mkAgg, List.map_cons, List.map_nil, List.length_cons, List.length_nil, List.getElem?_cons_zero, List.getElem?_cons_succ, List.take_succ_cons, List.take_nil, List.drop_zero, List.append_nil, List.replicate_zero, List.getD_cons_zero, Option.getD_some, Option.map_some, Option.map_none, if_true, if_false, Nat.reduceEqDiff, Nat.reduceAdd, Nat.zero_add, reduceCtorEq, eq_self, *]
          | simp (disch := omega) only [getD_ints, wrapI]
          | omega)
        refine wcall_P h21b.1 (rL_M hv2.1) (hp.1 _ _) ?_
        intro ib ob H4 hx hB
        obtain ⟨o6, hH4⟩ := hx.cell hH3
        obtain ⟨o7, hM4⟩ := hx.cell hM3
        obtain ⟨o8, hA4⟩ := hx.cell hA
        replace hva := And.intro (hva.1.ext hx) trivial
        clear hx hH3 hM3 hN3 hA hv2
        have hMa := at_ap hM4
        repeat' (first
          | ((with_reducible refine T_calm ?_ ?_); rfl)
          | with_reducible first
            | refine T_seq ?_
            | refine T_reg ?_
            | refine T_draw ?_
            | refine T_skip ?_
            | refine T_exit ?_
            | refine T_block ?_
            | refine T_cond_t rfl ?_
            | refine T_cond_f rfl ?_
            | refine wdW_cons rfl ?_
            | ((first | refine T_cond rfl (fun hc => ?_) (fun hc => ?_) | refine wguard_split (fun hc => ?_) (fun hc => ?_) | refine wguardX_split (fun hc => ?_) (fun hc => ?_)) <;> have hd := hc <;> (try simp (disch := omega) only [wrapI] at hd) <;> have hs := hd <;> (try simp only [Bool.not_eq_true', Bool.not_eq_false', Bool.and_eq_true, Bool.and_eq_false_iff, Bool.or_eq_true, Bool.or_eq_false_iff, decide_eq_true_eq, decide_eq_false_iff_not, beq_iff_eq, bne_iff_ne, beq_eq_false_iff_ne, bne_eq_false_iff_eq, Bool.not_true, Bool.not_false, gt_iff_lt, ge_iff_le, Int.not_lt, Int.not_le, ne_eq, Decidable.not_not] at hd) <;> (try simp at hs))
            | refine T_ret ?_
            | refine leave_of (.inr rfl) _ rfl ?_
            | refine leave_of (.inl rfl) _ rfl ?_
            | refine leaveA_of (.inr rfl) _ rfl ?_
            | refine leaveA_of (.inl rfl) _ rfl ?_
            | refine wif_intro ?_ (fun hc => ?_)
            | refine And.intro ?_ ?_
            | intro hc
          | simp (maxSteps := 4000000) only [wops_nil, wops_cons, wstep_none, wrun_call, wrun_mv, wrun_ext, wrun_load, wop, aop, ev, look, put_some, writes, ores_some, thenK, value, cut, hget, toLits, mkAgg, List.map_cons, List.map_nil, List.length_cons, List.length_nil, List.getElem?_cons_zero, List.getElem?_cons_succ, List.take_succ_cons, List.take_nil, List.drop_zero, List.replicate_zero, List.replicate_succ, List.getD_cons_zero, Option.getD_some, Option.map_some, Option.map_none, if_true, if_false, Nat.reduceEqDiff, Nat.reduceAdd, Nat.zero_add, reduceCtorEq, eq_self, *]
          | simp (disch := omega) only [getD_ints, wrapI]
          | omega)
        refine wcall_F0 h22.1 rfl (rL_M (hva.1.ext (Ext.app _ _))) (hp.1 _ _) ?_
        intro H5 hx hR
        have hN5 := hR H4.length (by rw [List.getElem?_append_right (Nat.le_refl _), Nat.sub_self]; rfl)
        obtain ⟨o9, hH5⟩ := hx.cell (at_ap hH4 _)
        obtain ⟨o10, hM5⟩ := hx.cell (hMa _)
        obtain ⟨o11, hA5⟩ := hx.cell (at_ap hA4 _)
        obtain ⟨o12, hB5⟩ := hx.cell (at_ap hB _)
        have l1 := (List.getElem?_eq_some_iff.1 hM4).1
        have l2 := (List.getElem?_eq_some_iff.1 hA4).1
        have l3 := (List.getElem?_eq_some_iff.1 hB).1
        replace hva := And.intro ((hva.1.ext (Ext.app _ _)).ext hx) trivial
        clear hx hR hMa hH4 hM4 hA4 hB h21a h21b h22
        generalize H4.length = Q at *
        have hNlt := (List.getElem?_eq_some_iff.1 hN5).1
        have hsQ : ∀ B : Blk, (H5.set Q B)[Q]? = some B := fun B => List.getElem?_set_self hNlt
        have hs0 : ∀ B : Blk, (H5.set Q B)[0]? = some (.cells o9 false 3 [[ints b1 ml, ints b2 il, i64 k]]) := fun B => by rw [List.getElem?_set_ne (by omega)]; exact hH5
        have hs1 : ∀ B : Blk, (H5.set Q B)[1]? = some (.cells o10 false 2 [[i64 n, .lsl id 0 k]]) := fun B => by rw [List.getElem?_set_ne (by omega)]; exact hM5
        have hsA : ∀ B : Blk, (H5.set Q B)[ia]? = some (.cells o11 false 2 (prR (pl (gZ ml k s n) n))) := fun B => by rw [List.getElem?_set_ne (by omega)]; exact hA5
        have hsB : ∀ B : Blk, (H5.set Q B)[ib]? = some (.cells o12 false 2 (prR (pl (gZ ml k s n) n))) := fun B => by rw [List.getElem?_set_ne (by omega)]; exact hB5
        have hss : ∀ B B' : Blk, (H5.set Q B).set Q B' = H5.set Q B' := fun B B' => List.set_set ..
        have hse : ∀ B : Blk, Ext H5 (H5.set Q B) := fun B => Ext.set_resv hN5 B
        replace hva := And.intro (fun B => hva.1.ext (hse B)) trivial
        have h23 := k23 false false (pl (gZ ml k s n) n) (by rw [pl_len]; have := m.hn; omega)
        have hA := pl_len (gZ ml k s n) n
        have hpA : plainL [.sl false 2 (prR (pl (gZ ml k s n) n)), .sl false 2 (prR (pl (gZ ml k s n) n))] = true := by simp only [plainL, plain, plain_prR]; rfl
        have hrA : ∀ B : Blk, rfyL (hget (H5.set Q B)) [.lsl ia 0 n, .lsl ib 0 n] = [.sl false 2 (prR (pl (gZ ml k s n) n)), .sl false 2 (prR (pl (gZ ml k s n) n))] := fun B => by
          simp only [rfyL, List.map_cons, List.map_nil]
          rw [rfy_prB (d := 5) (hsA B) hA, rfy_prB (d := 5) (hsB B) hA]
        generalize hAe : pl (gZ ml k s n) n = A at *
        replace hAe := And.intro hAe.symm trivial
        replace h23 := And.intro h23 trivial
        replace hrA := And.intro hrA trivial
        clear hH5 hM5 hA5 hB5 hse
        have hbnn : (((n : Nat) : Int) != ((n : Nat) : Int)) = false := by simp
        repeat' (first
          | ((with_reducible refine T_calm ?_ ?_); rfl)
          | with_reducible first
            | refine T_seq ?_
            | refine T_reg ?_
            | refine T_draw ?_
            | refine T_skip ?_
            | refine T_exit ?_
            | refine T_block ?_
            | refine T_cond_t rfl ?_
            | refine T_cond_f rfl ?_
            | refine wdW_cons rfl ?_
            | ((first | refine T_cond rfl (fun hc => ?_) (fun hc => ?_) | refine wguard_split (fun hc => ?_) (fun hc => ?_) | refine wguardX_split (fun hc => ?_) (fun hc => ?_)) <;> have hd := hc <;> (try simp (disch := omega) only [wrapI] at hd) <;> have hs := hd <;> (try simp only [bne_iff_ne, bne_eq_false_iff_eq, Bool.not_false, ne_eq] at hd) <;> (try simp at hs))
            | refine T_ret ?_
            | refine leave_of (.inr rfl) _ rfl ?_
            | refine leave_of (.inl rfl) _ rfl ?_
            | refine leaveA_of (.inr rfl) _ rfl ?_
            | refine leaveA_of (.inl rfl) _ rfl ?_
            | refine wif_intro ?_ (fun hc => ?_)
            | refine And.intro ?_ ?_
            | intro hc
          | simp (maxSteps := 4000000) only [wops_nil, wops_cons, wstep_none, wstep_some, wguard_ff, wrun_call, wrun_mv, wrun_pick, wrun_bin, wrun_ext, wrun_load, wrun_store, wrun_faddr, wrun_len, wrun_alloc, wop, aop, ev, look, put_some, put_none, writes, ores_some, ores_map, ores_bind, binV, thenK, intV, lenOf, value, cut, hget, putCells, AV.parts, isOne, mkAgg, ofValue_int, List.map_cons, List.map_nil, List.length_cons, List.length_nil, List.getElem?_cons_zero, List.getElem?_cons_succ, List.set_cons_zero, List.take_succ_cons, List.take_zero, List.drop_succ_cons, List.drop_zero, List.drop_nil, List.nil_append, List.append_nil, List.append_assoc, List.replicate_zero, List.getD_cons_zero, List.all_cons, List.all_nil, Option.pure_def, Option.bind_eq_bind, Option.getD_some, Option.map_some, if_true, if_false, Nat.reduceEqDiff, Nat.reduceAdd, Nat.reduceLT, Nat.add_zero, Nat.zero_add, Nat.le_refl, reduceCtorEq, Bool.and_true, Bool.false_eq_true, eq_self, true_and, and_self, List.all_cons, *]
          | simp (disch := omega) only [getD_ints, wrapI]
          | omega)
        refine wcall_E0 h23.1 rfl (hrA.1 _) hpA ?_
        intro H6 hx
        obtain ⟨q0, hH6⟩ := hx.cell (hs0 _)
        obtain ⟨q1, hM6⟩ := hx.cell (hs1 _)
        obtain ⟨q2, hQ6⟩ := hx.cell (hsQ _)
        obtain ⟨q3, hA6⟩ := hx.cell (hsA _)
        have hv6 := (hva.1 _).ext hx
        have ht := k3t m hH6 hM6 (by rw [← hAe.1]; exact hA6) hv6 hRG
        replace ht := And.intro ht trivial
        clear hx hva hs0 hs1 hsA hsB hsQ hss h23 hrA hpA hv6 hA6 h21c
        repeat' (first
          | ((with_reducible refine T_calm ?_ ?_); rfl)
          | with_reducible first
            | refine T_seq ?_
            | refine T_reg ?_
            | refine T_draw ?_
            | refine T_skip ?_
            | refine T_exit ?_
            | refine T_block ?_
            | refine T_cond_t rfl ?_
            | refine T_cond_f rfl ?_
            | refine wdW_cons rfl ?_
            | ((first | refine T_cond rfl (fun hc => ?_) (fun hc => ?_) | refine wguard_split (fun hc => ?_) (fun hc => ?_) | refine wguardX_split (fun hc => ?_) (fun hc => ?_)) <;> have hd := hc <;> (try simp (disch := omega) only [wrapI] at hd) <;> have hs := hd <;> (try simp only [Bool.not_eq_true', Bool.not_eq_false', Bool.and_eq_true, Bool.and_eq_false_iff, Bool.or_eq_true, Bool.or_eq_false_iff, decide_eq_true_eq, decide_eq_false_iff_not, beq_iff_eq, bne_iff_ne, beq_eq_false_iff_ne, bne_eq_false_iff_eq, Bool.not_true, Bool.not_false, gt_iff_lt, ge_iff_le, Int.not_lt, Int.not_le, ne_eq, Decidable.not_not] at hd) <;> (try simp at hs))
            | refine T_ret ?_
            | refine leave_of (.inr rfl) _ rfl ?_
            | refine leave_of (.inl rfl) _ rfl ?_
            | refine leaveA_of (.inr rfl) _ rfl ?_
            | refine leaveA_of (.inl rfl) _ rfl ?_
            | refine wif_intro ?_ (fun hc => ?_)
            | refine And.intro ?_ ?_
            | intro hc
          | simp (maxSteps := 4000000) only [wops_nil, wops_cons, wstep_none, wstep_some, wguard_ff, wrun_mv, wrun_pick, wrun_eqAgg, wrun_not, wrun_build, wrun_load, wop, aop, ev, look, put_some, writes, ores_some, thenK, boolV, value, cut, hget, fillA, putCells, AV.parts, isOne, toLits, mkAgg, cellsEq, cellEq, List.map_cons, List.map_nil, List.length_cons, List.length_nil, List.take_succ_cons, List.take_zero, List.take_nil, List.drop_succ_cons, List.drop_zero, List.drop_nil, List.cons_append, List.nil_append, List.append_nil, List.getD_cons_zero, List.all_cons, List.all_nil, Option.getD_some, Option.map_some, if_true, if_false, Nat.reduceEqDiff, Nat.reduceAdd, Nat.zero_add, Nat.le_refl, reduceCtorEq, Bool.not_true, Bool.and_true, Bool.false_eq_true, eq_self, and_self, beq_self_eq_true, List.all_cons, *]
          | simp (disch := omega) only [getD_ints, wrapI]
          | omega)
        refine T_onlyZ [2, 4, 5, 9] ?_ ht.1
        simp [St.only, get_mk, look]
    · have hl0 : ((ol.length : Int) != (n : Int)) = true := by simp only [bne_iff_ne]; omega
      clear hv hok m
      repeat' (first
        | ((with_reducible refine T_calm ?_ ?_); rfl)
        | with_reducible first
          | refine T_seq ?_
          | refine T_reg ?_
          | refine T_draw ?_
          | refine T_skip ?_
          | refine T_exit ?_
          | refine T_block ?_
          | refine T_cond_t rfl ?_
          | refine T_cond_f rfl ?_
          | refine wdW_cons rfl ?_
          | ((first | refine T_cond rfl (fun hc => ?_) (fun hc => ?_) | refine wguard_split (fun hc => ?_) (fun hc => ?_) | refine wguardX_split (fun hc => ?_) (fun hc => ?_)) <;> have hd := hc <;> (try simp (disch := omega) only [wrapI] at hd) <;> have hs := hd <;> (try simp only [Bool.not_eq_true', Bool.not_eq_false', Bool.and_eq_true, Bool.and_eq_false_iff, Bool.or_eq_true, Bool.or_eq_false_iff, decide_eq_true_eq, decide_eq_false_iff_not, beq_iff_eq, bne_iff_ne, beq_eq_false_iff_ne, bne_eq_false_iff_eq, Bool.not_true, Bool.not_false, gt_iff_lt, ge_iff_le, Int.not_lt, Int.not_le, ne_eq, Decidable.not_not] at hd) <;> (try simp at hs))
          | refine T_ret ?_
          | refine leave_of (.inr rfl) _ rfl ?_
          | refine leave_of (.inl rfl) _ rfl ?_
          | refine leaveA_of (.inr rfl) _ rfl ?_
          | refine leaveA_of (.inl rfl) _ rfl ?_
          | refine wif_intro ?_ (fun hc => ?_)
          | refine And.intro ?_ ?_
          | intro hc
        | simp (maxSteps := 4000000) only [wops_nil, wops_cons, wstep_none, wstep_some, wguard_ff, wrun_mv, wrun_pick, wrun_bin, wrun_not, wrun_ext, wrun_load, wrun_store, wrun_faddr, wrun_len, wrun_alloc, get_mk, wop, aop, ev, look, put_some, put_none, writes, ores_some, ores_map, ores_bind, binV, thenK, boolV, intV, lenOf, value, cut, hget, putCells, AV.parts, isOne, mkAgg, tupOf, List.length_cons, List.length_nil, List.getElem?_cons_zero, List.getElem?_cons_succ, List.set_cons_zero, List.take_succ_cons, List.take_zero, List.drop_succ_cons, List.drop_zero, List.drop_nil, List.nil_append, List.append_nil, List.append_assoc, List.replicate_zero, List.getD_cons_zero, List.all_cons, List.all_nil, Option.pure_def, Option.bind_eq_bind, Option.getD_some, Option.map_some, if_true, if_false, Nat.reduceEqDiff, Nat.reduceAdd, Nat.reduceLT, Nat.add_zero, Nat.zero_add, Nat.le_refl, Nat.zero_ne_one, reduceCtorEq, Bool.not_true, Bool.and_true, Bool.false_eq_true, eq_self, true_and, and_self, List.all_cons, ren, *]
        | simp (disch := omega) only [getD_ints, wrapI]
        | omega)
      all_goals first | rfl
set_option maxHeartbeats 8000000 in
theorem k3 (T : Int) : Fn Try.prog 3 [.agg [ints b1 ml, ints b2 il, i64 T], ints b3 ol] (bl true) [] := by
  by_cases h : (1 ≤ ml.length ∧ ml.length ≤ 24) ∧ il.length = ml.length ∧ (1 ≤ T ∧ T ≤ 12) ∧ (ml.length : Int).tmod T = 0
  · obtain ⟨k, rfl⟩ : ∃ k : Nat, T = k := ⟨T.toNat, by omega⟩
    have hm : ml.length % k = 0 := by
      have h6 : ((ml.length : Nat) : Int).tmod ((k : Nat) : Int) = ((ml.length % k : Nat) : Int) := (Int.ofNat_tmod _ _).symm
      omega
    exact k3b (s := ml.length / k) ⟨h.1, rfl, h.2.1, by omega, by have := Nat.div_add_mod ml.length k; omega⟩
  · exact k3a h
end
end Go.Abs
