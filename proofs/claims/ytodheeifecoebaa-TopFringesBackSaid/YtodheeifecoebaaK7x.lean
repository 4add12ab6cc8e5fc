import Derived.Test.YtodheeifecoebaaK6x
set_option linter.all false
set_option linter.unusedVariables false
set_option linter.unusedSimpArgs false
set_option linter.unusedSectionVars false
namespace Go.Abs
open Go.Proofs
theorem wcall_yield {P : Program} {s : List (Nat × AV)} {h : List Blk} {K : St → Prop} {hl : Nat} {args : List AV} {d : Option Nat} {r : Loop} {sl : List (Nat × AV)} {raw : Bool} {Q : AV → List Blk → Prop}
    (hh : h[hl]? = some (.obj (.lp r sl))) (hy : AYield P hl args h Q) (hk : ∀ v H', Q v H' → K (St.put ⟨s, H'⟩ d v)) : wcall P raw (.mp hl) args d ⟨s, h⟩ K := by
  unfold wcall
  have : hget h hl = .obj (.lp r sl) := by unfold hget; rw [hh]; rfl
  simp only [target]
  rw [this]
  exact hy.mono hk
theorem tail_cons {w c : Int} {ph : List Int} {k : Nat} {x : Int} (h : (cands w c)[k]? = some x) : tail146 w c ph k = if nextB w ph c x then x :: tail146 w c ph (k + 1) else tail146 w c ph (k + 1) := by
  unfold tail146
  obtain ⟨hk, rfl⟩ := List.getElem?_eq_some_iff.1 h
  rw [List.drop_eq_getElem_cons hk, List.filter_cons]
/-- one candidate -/
theorem step146 {w c : Int} {ph : List Int} {n : Nat} {hl : Nat} {J : Nat → List Blk → Prop} {Jx : List Blk → Prop} (hn : n = (tail146 w c ph 0).length)
    (hY : ∀ (k : Nat) (H' : List Blk) (args : List AV), k < n → J k H' → (∃ x, (tail146 w c ph 0)[k]? = some x ∧ args = [i64 x]) → AYield Try.prog hl args H' fun r H'' => r = boolV true ∧ J (k + 1) H'' ∨ r = boolV false ∧ Jx H'')
    {k : Nat} {pre : List Int} {x : Int} {H' : List Blk} (hx : (cands w c)[k]? = some x) (hp : tail146 w c ph 0 = pre ++ tail146 w c ph k) (hJ : J pre.length H') (hb : nextB w ph c x = true) :
    tail146 w c ph 0 = (pre ++ [x]) ++ tail146 w c ph (k + 1) ∧ AYield Try.prog hl [i64 x] H' fun r H'' => r = boolV true ∧ J (pre ++ [x]).length H'' ∨ r = boolV false ∧ Jx H'' := by
  have h1 := tail_cons (ph := ph) hx
  rw [hb, if_pos rfl] at h1
  rw [h1] at hp
  refine ⟨by rw [hp]; simp, ?_⟩
  have := hY pre.length H' [i64 x] (by rw [hn, hp]; simp) hJ ⟨x, by rw [hp]; simp, rfl⟩
  rwa [show (pre ++ [x]).length = pre.length + 1 from by simp]
set_option maxHeartbeats 8000000 in
theorem i146 (ic ig : Nat) (w c : Int) (nil : Bool) (ph : List Int) (hw : 1 ≤ w ∧ w ≤ 1000000) (hc0 : 0 ≤ c ∧ c ≤ 100000000) (hl : ph.length < 4611686018427387904) (n : Nat) (hn : n = (tail146 w c ph 0).length) :
    IterOk Try.prog 146 [] [.loc ic 0 0, .loc ig 0 0] n (fun k _ args => ∃ x, (tail146 w c ph 0)[k]? = some x ∧ args = [i64 x]) (Grid ic ig w c nil ph) := by
  intro hl J Jx H hB hY hJ
  refine envOf_all e146 ?_
  obtain ⟨⟨o1, n1, hc1⟩, o2, n2, hg1⟩ := (hB 0 H hJ).2
  unfold c146
  repeat' (first
    | with_reducible first
      | refine T_seq ?_
      | refine T_reg ?_
      | refine T_skip ?_
      | refine T_exit ?_
      | refine T_block ?_
      | refine T_cond_t rfl ?_
      | refine T_cond_f rfl ?_
      | ((first | refine T_cond rfl (fun hc => ?_) (fun hc => ?_) | refine wguard_split (fun hc => ?_) (fun hc => ?_)) <;> have hd := hc <;> (try simp (disch := omega) only [wrapI] at hd) <;> have hs := hd <;> (try simp only [Bool.not_eq_true', Bool.not_eq_false', Bool.and_eq_true, Bool.and_eq_false_iff, Bool.or_eq_true, Bool.or_eq_false_iff, decide_eq_true_eq, decide_eq_false_iff_not, beq_iff_eq, bne_iff_ne, beq_eq_false_iff_ne, bne_eq_false_iff_eq, Bool.not_true, Bool.not_false, gt_iff_lt, ge_iff_le, Int.not_lt, Int.not_le, ne_eq, Decidable.not_not] at hd) <;> (try simp at hs))
      | refine T_ret ?_
      | refine leave_of (.inr rfl) _ rfl ?_
      | refine leave_of (.inl rfl) _ rfl ?_
      | refine leaveA_of (.inr rfl) _ rfl ?_
      | refine leaveA_of (.inl rfl) _ rfl ?_
      | refine wif_intro ?_ (fun hc => ?_)
      | refine And.intro ?_ ?_
      | intro hc
    | simp (maxSteps := 4000000) only [wops_nil, wops_cons, wstep_none, wrun_mv, wrun_bin, wrun_build, wrun_load, wrun_faddr, wop, aop, ev, look, put_some, writes, ores_some, ores_ite_none, ores_map, wif_true, binV, thenK, value, cut, hget, fillA, putCells, AV.parts, isOne, toLits, mkAgg, List.map_cons, List.map_nil, List.length_cons, List.length_nil, List.take_succ_cons, List.take_zero, List.take_nil, List.drop_succ_cons, List.drop_zero, List.drop_nil, List.cons_append, List.nil_append, List.append_nil, List.append_assoc, List.replicate_zero, List.getD_cons_zero, List.zipIdx_cons, List.zipIdx_nil, List.all_cons, List.all_nil, List.length_append, Option.getD_some, Option.map_some, if_true, if_false, Nat.reduceEqDiff, Nat.reduceAdd, Nat.reduceLeDiff, Nat.add_zero, Nat.zero_add, Nat.le_refl, Nat.zero_ne_one, reduceCtorEq, Bool.and_true, Bool.false_eq_true, eq_self, true_and, and_self, List.all_cons, *]
    | simp (disch := omega) only [wrapI]
    | omega)
  refine T_loop_only [19, 18, 0, 1, 2] (fun m s => ∃ k pre H', k ≤ 4 ∧ m = 4 - k ∧ tail146 w c ph 0 = pre ++ tail146 w c ph k ∧ J pre.length H' ∧ s = ⟨s146 w c hl ic ig k, H'⟩) 4 ⟨0, [], H, by omega, rfl, rfl, hJ, rfl⟩ ?_
  clear hJ hc1 hg1
  rintro m s ⟨k, pre, H', hk, rfl, hp, hJ, rfl⟩
  obtain ⟨⟨r0, s0, hl0⟩, ⟨o1, n1, hc1⟩, o2, n2, hg1⟩ := hB _ _ hJ
  have hcs : k = 0 ∨ k = 1 ∨ k = 2 ∨ k = 3 ∨ k = 4 := by omega
  unfold c146l0 s146
  rcases hcs with rfl | rfl | rfl | rfl | rfl
  · have hst := step146 (x := c - w) hn hY rfl hp hJ
    have hsk : nextB w ph c (c - w) = false → tail146 w c ph 0 = pre ++ tail146 w c ph 1 := fun hb => by rw [hp, tail_cons (x := c - w) rfl, hb]; rfl
    clear hY hB hp hn
    repeat' (first
      | with_reducible first
        | refine T_seq ?_
        | refine T_reg ?_
        | refine T_skip ?_
        | refine T_exit ?_
        | refine T_block ?_
        | refine T_cond_t rfl ?_
        | refine T_cond_f rfl ?_
        | (show wcall _ false (.lit (.func (.func 105) _ _)) _ _ _ _; refine wcall_fn (k105 _ _ _ _ (by omega)) rfl (by simp [plainL, plain]) ?_)
        | (show wcall _ false (.lit (.func (.func 112) _ _)) _ _ _ _; refine wcall_fn (k112 _ _ _ _ _ (by omega) (by omega) (by omega)) rfl (by simp [plainL, plain]) ?_)
        | ((first | refine T_cond rfl (fun hc => ?_) (fun hc => ?_) | refine wguard_split (fun hc => ?_) (fun hc => ?_)) <;> have hd := hc <;> (try simp (disch := omega) only [wrapI] at hd) <;> have hs := hd <;> (try simp only [Bool.not_true] at hd) <;> (try simp at hs))
        | refine T_ret ?_
        | refine leave_of (.inr rfl) _ rfl ?_
        | refine leave_of (.inl rfl) _ rfl ?_
        | refine leaveA_of (.inr rfl) _ rfl ?_
        | refine leaveA_of (.inl rfl) _ rfl ?_
        | refine wif_intro ?_ (fun hc => ?_)
        | refine And.intro ?_ ?_
        | intro hc
      | simp (maxSteps := 4000000) only [wops_nil, wops_cons, wstep_none, wstep_some, wguard_true, wguard_ft, wrun_call, wrun_mv, wrun_pick, wrun_bin, wrun_load, wrun_idxA, wop, aop, ev, look, put_some, writes, ores_some, binV, thenK, blockK, value, cut, hget, toLits, mkAgg, ofValue_int, List.map_cons, List.map_nil, List.length_cons, List.length_nil, List.take_succ_cons, List.take_zero, List.take_nil, List.drop_zero, List.append_nil, List.replicate_zero, List.getD_cons_zero, Option.getD_some, Option.map_some, Option.map_none, if_true, if_false, Nat.reduceEqDiff, Nat.reduceAdd, Nat.zero_add, Nat.sub_zero, Nat.mul_one, Nat.zero_ne_one, reduceCtorEq, Bool.not_true, Bool.false_eq_true, eq_self, and_self, decide_true, freeze, lidsL, lids, List.flatMap_cons, List.flatMap_nil, ren, Int.reduceLT, Int.reduceLE, Int.reduceAdd, Int.toNat_zero, Int.reduceToNat, Int.cast_ofNat_Int, *]
      | simp (disch := omega) only [wrapI]
      | (with_reducible show wcall _ false (.lit (.func (.func 105) _ _)) _ _ _ _; refine wcall_fn (k105 _ _ _ _ (by omega)) ?_ ?_ ?_; (next => simp [rfyL, rfy, hget, ints, take_rfy, Int.natCast_zero, Int.reduceLT, Int.reduceLE, Int.reduceAdd, Int.toNat_zero, Int.reduceToNat, Int.cast_ofNat_Int, boolV]); (next => simp [plainL, plain, plainR, Int.natCast_zero, Int.reduceLT, Int.reduceLE, Int.reduceAdd, Int.toNat_zero, Int.reduceToNat, Int.cast_ofNat_Int, boolV]))
      | (with_reducible show wcall _ false (.lit (.func (.func 112) _ _)) _ _ _ _; refine wcall_fn (k112 _ _ _ _ _ (by omega) (by omega) (by omega)) ?_ ?_ ?_; (next => simp [rfyL, rfy, hget, ints, take_rfy, Int.natCast_zero, Int.reduceLT, Int.reduceLE, Int.reduceAdd, Int.toNat_zero, Int.reduceToNat, Int.cast_ofNat_Int, boolV]); (next => simp [plainL, plain, plainR, Int.natCast_zero, Int.reduceLT, Int.reduceLE, Int.reduceAdd, Int.toNat_zero, Int.reduceToNat, Int.cast_ofNat_Int, boolV]))
      | omega)
    · have hb : nextB w ph c (c - w) = true := by simp only [nextB, *, Bool.and_self]
      obtain ⟨h1, hy⟩ := hst hb
      replace h1 : id (tail146 w c ph 0 = pre ++ [c - w] ++ tail146 w c ph (0 + 1)) := h1
      refine wcall_yield hl0 hy ?_
      clear hst hsk hy
      rintro v H2 (⟨rfl, hJ2⟩ | ⟨rfl, hX⟩)
      · clear hb hJ hc1 hg1 hl0
        repeat' (first
          | with_reducible first
            | refine T_seq ?_
            | refine T_reg ?_
            | refine T_skip ?_
            | refine T_exit ?_
            | refine T_block ?_
            | refine T_cond_t rfl ?_
            | refine T_cond_f rfl ?_
            | ((first | refine T_cond rfl (fun hc => ?_) (fun hc => ?_) | refine wguard_split (fun hc => ?_) (fun hc => ?_)) <;> have hd := hc <;> (try simp (disch := omega) only [wrapI] at hd) <;> have hs := hd <;> (try simp only [Bool.not_eq_true', Bool.not_eq_false', Bool.and_eq_true, Bool.and_eq_false_iff, Bool.or_eq_true, Bool.or_eq_false_iff, decide_eq_true_eq, decide_eq_false_iff_not, beq_iff_eq, bne_iff_ne, beq_eq_false_iff_ne, bne_eq_false_iff_eq, Bool.not_true, Bool.not_false, gt_iff_lt, ge_iff_le, Int.not_lt, Int.not_le, ne_eq, Decidable.not_not] at hd) <;> (try simp at hs))
            | refine T_ret ?_
            | refine leave_of (.inr rfl) _ rfl ?_
            | refine leave_of (.inl rfl) _ rfl ?_
            | refine leaveA_of (.inr rfl) _ rfl ?_
            | refine leaveA_of (.inl rfl) _ rfl ?_
            | refine wif_intro ?_ (fun hc => ?_)
            | refine And.intro ?_ ?_
            | intro hc
          | simp (maxSteps := 4000000) only [wops_nil, wops_cons, wstep_none, wstep_some, wguard_true, wrun_mv, wrun_pick, wrun_bin, wrun_not, wop, aop, ev, look, put_some, writes, ores_some, binV, thenK, blockK, boolV, List.append_nil, List.replicate_zero, Option.map_some, if_true, if_false, Nat.reduceEqDiff, reduceCtorEq, Bool.not_true, eq_self, Int.reduceLT, Int.reduceAdd, Int.reduceToNat, boolV, *]
          | simp (disch := omega) only [wrapI]
          | omega)
        exact ⟨3, by omega, 1, pre ++ [c - w], H2, by omega, rfl, by simpa using h1, by assumption, rfl⟩
      · skip
        repeat' (first
          | with_reducible first
            | refine T_seq ?_
            | refine T_reg ?_
            | refine T_skip ?_
            | refine T_exit ?_
            | refine T_block ?_
            | refine T_cond_t rfl ?_
            | refine T_cond_f rfl ?_
            | ((first | refine T_cond rfl (fun hc => ?_) (fun hc => ?_) | refine wguard_split (fun hc => ?_) (fun hc => ?_)) <;> have hd := hc <;> (try simp (disch := omega) only [wrapI] at hd) <;> have hs := hd <;> (try simp only [Bool.not_eq_true', Bool.not_eq_false', Bool.and_eq_true, Bool.and_eq_false_iff, Bool.or_eq_true, Bool.or_eq_false_iff, decide_eq_true_eq, decide_eq_false_iff_not, beq_iff_eq, bne_iff_ne, beq_eq_false_iff_ne, bne_eq_false_iff_eq, Bool.not_true, Bool.not_false, gt_iff_lt, ge_iff_le, Int.not_lt, Int.not_le, ne_eq, Decidable.not_not] at hd) <;> (try simp at hs))
            | refine T_ret ?_
            | refine leave_of (.inr rfl) _ rfl ?_
            | refine leave_of (.inl rfl) _ rfl ?_
            | refine leaveA_of (.inr rfl) _ rfl ?_
            | refine leaveA_of (.inl rfl) _ rfl ?_
            | refine wif_intro ?_ (fun hc => ?_)
            | refine And.intro ?_ ?_
            | intro hc
          | simp (maxSteps := 4000000) only [wops_nil, wops_cons, wstep_none, wstep_some, wguard_true, wrun_pick, wrun_not, wop, aop, ev, look, put_some, writes, ores_some, thenK, blockK, boolV, if_true, if_false, Nat.reduceEqDiff, reduceCtorEq, Bool.not_false, eq_self, boolV, *]
          | simp (disch := omega) only [getD_ints, wrapI]
          | omega)
        all_goals exact .inr trivial
    all_goals
      refine ⟨3, by omega, 1, pre, H', by omega, rfl, hsk (by simp only [nextB, *, Bool.and_false, Bool.false_and, Bool.not_true]), hJ, rfl⟩
  · have ek : ((1 : Nat) : Int) = 1 := rfl
    have hst := step146 (x := c - 1) hn hY rfl hp hJ
    have hsk : nextB w ph c (c - 1) = false → tail146 w c ph 0 = pre ++ tail146 w c ph 2 := fun hb => by rw [hp, tail_cons (x := c - 1) rfl, hb]; rfl
    clear hY hB hp hn
    repeat' (first
      | with_reducible first
        | refine T_seq ?_
        | refine T_reg ?_
        | refine T_skip ?_
        | refine T_exit ?_
        | refine T_block ?_
        | refine T_cond_t rfl ?_
        | refine T_cond_f rfl ?_
        | (show wcall _ false (.lit (.func (.func 105) _ _)) _ _ _ _; refine wcall_fn (k105 _ _ _ _ (by omega)) rfl (by simp [plainL, plain]) ?_)
        | (show wcall _ false (.lit (.func (.func 112) _ _)) _ _ _ _; refine wcall_fn (k112 _ _ _ _ _ (by omega) (by omega) (by omega)) rfl (by simp [plainL, plain]) ?_)
        | ((first | refine T_cond rfl (fun hc => ?_) (fun hc => ?_) | refine wguard_split (fun hc => ?_) (fun hc => ?_)) <;> have hd := hc <;> (try simp (disch := omega) only [wrapI] at hd) <;> have hs := hd <;> (try simp only [Bool.not_true] at hd) <;> (try simp at hs))
        | refine T_ret ?_
        | refine leave_of (.inr rfl) _ rfl ?_
        | refine leave_of (.inl rfl) _ rfl ?_
        | refine leaveA_of (.inr rfl) _ rfl ?_
        | refine leaveA_of (.inl rfl) _ rfl ?_
        | refine wif_intro ?_ (fun hc => ?_)
        | refine And.intro ?_ ?_
        | intro hc
      | simp (maxSteps := 4000000) only [wops_nil, wops_cons, wstep_none, wstep_some, wguard_true, wguard_ft, wrun_call, wrun_mv, wrun_pick, wrun_bin, wrun_load, wrun_idxA, wop, aop, ev, look, put_some, writes, ores_some, binV, thenK, blockK, value, cut, hget, toLits, mkAgg, ofValue_int, List.map_cons, List.map_nil, List.length_cons, List.length_nil, List.take_succ_cons, List.take_zero, List.take_nil, List.drop_succ_cons, List.drop_zero, List.append_nil, List.replicate_zero, List.getD_cons_zero, Option.getD_some, Option.map_some, Option.map_none, if_true, if_false, Nat.reduceEqDiff, Nat.reduceAdd, Nat.reduceSub, Nat.zero_add, Nat.mul_one, Nat.zero_ne_one, reduceCtorEq, Bool.not_true, Bool.false_eq_true, eq_self, and_self, decide_true, freeze, lidsL, lids, List.flatMap_cons, List.flatMap_nil, ren, Int.reduceLT, Int.reduceLE, Int.reduceAdd, Int.reduceToNat, Int.cast_ofNat_Int, *]
      | simp (disch := omega) only [wrapI]
      | (with_reducible show wcall _ false (.lit (.func (.func 105) _ _)) _ _ _ _; refine wcall_fn (k105 _ _ _ _ (by omega)) ?_ ?_ ?_; (next => simp [rfyL, rfy, hget, ints, take_rfy, Int.natCast_zero, Int.reduceLT, Int.reduceLE, Int.reduceAdd, Int.toNat_zero, Int.reduceToNat, Int.cast_ofNat_Int, boolV]); (next => simp [plainL, plain, plainR, Int.natCast_zero, Int.reduceLT, Int.reduceLE, Int.reduceAdd, Int.toNat_zero, Int.reduceToNat, Int.cast_ofNat_Int, boolV]))
      | (with_reducible show wcall _ false (.lit (.func (.func 112) _ _)) _ _ _ _; refine wcall_fn (k112 _ _ _ _ _ (by omega) (by omega) (by omega)) ?_ ?_ ?_; (next => simp [rfyL, rfy, hget, ints, take_rfy, Int.natCast_zero, Int.reduceLT, Int.reduceLE, Int.reduceAdd, Int.toNat_zero, Int.reduceToNat, Int.cast_ofNat_Int, boolV]); (next => simp [plainL, plain, plainR, Int.natCast_zero, Int.reduceLT, Int.reduceLE, Int.reduceAdd, Int.toNat_zero, Int.reduceToNat, Int.cast_ofNat_Int, boolV]))
      | omega)
    · have hb : nextB w ph c (c - 1) = true := by simp only [nextB, *, Bool.and_self]
      obtain ⟨h1, hy⟩ := hst hb
      replace h1 : id (tail146 w c ph 0 = pre ++ [c - 1] ++ tail146 w c ph (1 + 1)) := h1
      refine wcall_yield hl0 hy ?_
      clear hst hsk hy
      rintro v H2 (⟨rfl, hJ2⟩ | ⟨rfl, hX⟩)
      · clear hb hJ hc1 hg1 hl0
        repeat' (first
          | with_reducible first
            | refine T_seq ?_
            | refine T_reg ?_
            | refine T_skip ?_
            | refine T_exit ?_
            | refine T_block ?_
            | refine T_cond_t rfl ?_
            | refine T_cond_f rfl ?_
            | ((first | refine T_cond rfl (fun hc => ?_) (fun hc => ?_) | refine wguard_split (fun hc => ?_) (fun hc => ?_)) <;> have hd := hc <;> (try simp (disch := omega) only [wrapI] at hd) <;> have hs := hd <;> (try simp only [Bool.not_eq_true', Bool.not_eq_false', Bool.and_eq_true, Bool.and_eq_false_iff, Bool.or_eq_true, Bool.or_eq_false_iff, decide_eq_true_eq, decide_eq_false_iff_not, beq_iff_eq, bne_iff_ne, beq_eq_false_iff_ne, bne_eq_false_iff_eq, Bool.not_true, Bool.not_false, gt_iff_lt, ge_iff_le, Int.not_lt, Int.not_le, ne_eq, Decidable.not_not] at hd) <;> (try simp at hs))
            | refine T_ret ?_
            | refine leave_of (.inr rfl) _ rfl ?_
            | refine leave_of (.inl rfl) _ rfl ?_
            | refine leaveA_of (.inr rfl) _ rfl ?_
            | refine leaveA_of (.inl rfl) _ rfl ?_
            | refine wif_intro ?_ (fun hc => ?_)
            | refine And.intro ?_ ?_
            | intro hc
          | simp (maxSteps := 4000000) only [wops_nil, wops_cons, wstep_none, wstep_some, wguard_true, wrun_mv, wrun_pick, wrun_bin, wrun_not, wop, aop, ev, look, put_some, writes, ores_some, binV, thenK, blockK, boolV, List.append_nil, List.replicate_zero, Option.map_some, if_true, if_false, Nat.reduceEqDiff, reduceCtorEq, Bool.not_true, eq_self, Int.reduceLT, Int.reduceAdd, Int.reduceToNat, boolV, *]
          | simp (disch := omega) only [wrapI]
          | omega)
        exact ⟨2, by omega, 2, pre ++ [c - 1], H2, by omega, rfl, by simpa using h1, by assumption, rfl⟩
      · skip
        repeat' (first
          | with_reducible first
            | refine T_seq ?_
            | refine T_reg ?_
            | refine T_skip ?_
            | refine T_exit ?_
            | refine T_block ?_
            | refine T_cond_t rfl ?_
            | refine T_cond_f rfl ?_
            | ((first | refine T_cond rfl (fun hc => ?_) (fun hc => ?_) | refine wguard_split (fun hc => ?_) (fun hc => ?_)) <;> have hd := hc <;> (try simp (disch := omega) only [wrapI] at hd) <;> have hs := hd <;> (try simp only [Bool.not_eq_true', Bool.not_eq_false', Bool.and_eq_true, Bool.and_eq_false_iff, Bool.or_eq_true, Bool.or_eq_false_iff, decide_eq_true_eq, decide_eq_false_iff_not, beq_iff_eq, bne_iff_ne, beq_eq_false_iff_ne, bne_eq_false_iff_eq, Bool.not_true, Bool.not_false, gt_iff_lt, ge_iff_le, Int.not_lt, Int.not_le, ne_eq, Decidable.not_not] at hd) <;> (try simp at hs))
            | refine T_ret ?_
            | refine leave_of (.inr rfl) _ rfl ?_
            | refine leave_of (.inl rfl) _ rfl ?_
            | refine leaveA_of (.inr rfl) _ rfl ?_
            | refine leaveA_of (.inl rfl) _ rfl ?_
            | refine wif_intro ?_ (fun hc => ?_)
            | refine And.intro ?_ ?_
            | intro hc
          | simp (maxSteps := 4000000) only [wops_nil, wops_cons, wstep_none, wstep_some, wguard_true, wrun_pick, wrun_not, wop, aop, ev, look, put_some, writes, ores_some, thenK, blockK, boolV, if_true, if_false, Nat.reduceEqDiff, reduceCtorEq, Bool.not_false, eq_self, boolV, *]
          | simp (disch := omega) only [getD_ints, wrapI]
          | omega)
        all_goals exact .inr trivial
    all_goals
      refine ⟨2, by omega, 2, pre, H', by omega, rfl, hsk (by simp only [nextB, *, Bool.and_false, Bool.false_and, Bool.not_true]), hJ, rfl⟩
  · have ek : ((2 : Nat) : Int) = 2 := rfl
    have hst := step146 (x := c + 1) hn hY rfl hp hJ
    have hsk : nextB w ph c (c + 1) = false → tail146 w c ph 0 = pre ++ tail146 w c ph 3 := fun hb => by rw [hp, tail_cons (x := c + 1) rfl, hb]; rfl
    clear hY hB hp hn
    repeat' (first
      | with_reducible first
        | refine T_seq ?_
        | refine T_reg ?_
        | refine T_skip ?_
        | refine T_exit ?_
        | refine T_block ?_
        | refine T_cond_t rfl ?_
        | refine T_cond_f rfl ?_
        | (show wcall _ false (.lit (.func (.func 105) _ _)) _ _ _ _; refine wcall_fn (k105 _ _ _ _ (by omega)) rfl (by simp [plainL, plain]) ?_)
        | (show wcall _ false (.lit (.func (.func 112) _ _)) _ _ _ _; refine wcall_fn (k112 _ _ _ _ _ (by omega) (by omega) (by omega)) rfl (by simp [plainL, plain]) ?_)
        | ((first | refine T_cond rfl (fun hc => ?_) (fun hc => ?_) | refine wguard_split (fun hc => ?_) (fun hc => ?_)) <;> have hd := hc <;> (try simp (disch := omega) only [wrapI] at hd) <;> have hs := hd <;> (try simp only [Bool.not_true] at hd) <;> (try simp at hs))
        | refine T_ret ?_
        | refine leave_of (.inr rfl) _ rfl ?_
        | refine leave_of (.inl rfl) _ rfl ?_
        | refine leaveA_of (.inr rfl) _ rfl ?_
        | refine leaveA_of (.inl rfl) _ rfl ?_
        | refine wif_intro ?_ (fun hc => ?_)
        | refine And.intro ?_ ?_
        | intro hc
      | simp (maxSteps := 4000000) only [wops_nil, wops_cons, wstep_none, wstep_some, wguard_true, wguard_ft, wrun_call, wrun_mv, wrun_pick, wrun_bin, wrun_load, wrun_idxA, wop, aop, ev, look, put_some, writes, ores_some, binV, thenK, blockK, value, cut, hget, toLits, mkAgg, ofValue_int, List.map_cons, List.map_nil, List.length_cons, List.length_nil, List.take_succ_cons, List.take_zero, List.take_nil, List.drop_succ_cons, List.drop_zero, List.append_nil, List.replicate_zero, List.getD_cons_zero, Option.getD_some, Option.map_some, Option.map_none, if_true, if_false, Nat.reduceEqDiff, Nat.reduceAdd, Nat.reduceSub, Nat.zero_add, Nat.mul_one, Nat.zero_ne_one, reduceCtorEq, Bool.not_true, Bool.false_eq_true, eq_self, and_self, decide_true, freeze, lidsL, lids, List.flatMap_cons, List.flatMap_nil, ren, Int.reduceLT, Int.reduceLE, Int.reduceAdd, Int.reduceToNat, Int.cast_ofNat_Int, *]
      | simp (disch := omega) only [wrapI]
      | (with_reducible show wcall _ false (.lit (.func (.func 105) _ _)) _ _ _ _; refine wcall_fn (k105 _ _ _ _ (by omega)) ?_ ?_ ?_; (next => simp [rfyL, rfy, hget, ints, take_rfy, Int.natCast_zero, Int.reduceLT, Int.reduceLE, Int.reduceAdd, Int.toNat_zero, Int.reduceToNat, Int.cast_ofNat_Int, boolV]); (next => simp [plainL, plain, plainR, Int.natCast_zero, Int.reduceLT, Int.reduceLE, Int.reduceAdd, Int.toNat_zero, Int.reduceToNat, Int.cast_ofNat_Int, boolV]))
      | (with_reducible show wcall _ false (.lit (.func (.func 112) _ _)) _ _ _ _; refine wcall_fn (k112 _ _ _ _ _ (by omega) (by omega) (by omega)) ?_ ?_ ?_; (next => simp [rfyL, rfy, hget, ints, take_rfy, Int.natCast_zero, Int.reduceLT, Int.reduceLE, Int.reduceAdd, Int.toNat_zero, Int.reduceToNat, Int.cast_ofNat_Int, boolV]); (next => simp [plainL, plain, plainR, Int.natCast_zero, Int.reduceLT, Int.reduceLE, Int.reduceAdd, Int.toNat_zero, Int.reduceToNat, Int.cast_ofNat_Int, boolV]))
      | omega)
    · have hb : nextB w ph c (c + 1) = true := by simp only [nextB, *, Bool.and_self]
      obtain ⟨h1, hy⟩ := hst hb
      replace h1 : id (tail146 w c ph 0 = pre ++ [c + 1] ++ tail146 w c ph (2 + 1)) := h1
      refine wcall_yield hl0 hy ?_
      clear hst hsk hy
      rintro v H2 (⟨rfl, hJ2⟩ | ⟨rfl, hX⟩)
      · clear hb hJ hc1 hg1 hl0
        repeat' (first
          | with_reducible first
            | refine T_seq ?_
            | refine T_reg ?_
            | refine T_skip ?_
            | refine T_exit ?_
            | refine T_block ?_
            | refine T_cond_t rfl ?_
            | refine T_cond_f rfl ?_
            | ((first | refine T_cond rfl (fun hc => ?_) (fun hc => ?_) | refine wguard_split (fun hc => ?_) (fun hc => ?_)) <;> have hd := hc <;> (try simp (disch := omega) only [wrapI] at hd) <;> have hs := hd <;> (try simp only [Bool.not_eq_true', Bool.not_eq_false', Bool.and_eq_true, Bool.and_eq_false_iff, Bool.or_eq_true, Bool.or_eq_false_iff, decide_eq_true_eq, decide_eq_false_iff_not, beq_iff_eq, bne_iff_ne, beq_eq_false_iff_ne, bne_eq_false_iff_eq, Bool.not_true, Bool.not_false, gt_iff_lt, ge_iff_le, Int.not_lt, Int.not_le, ne_eq, Decidable.not_not] at hd) <;> (try simp at hs))
            | refine T_ret ?_
            | refine leave_of (.inr rfl) _ rfl ?_
            | refine leave_of (.inl rfl) _ rfl ?_
            | refine leaveA_of (.inr rfl) _ rfl ?_
            | refine leaveA_of (.inl rfl) _ rfl ?_
            | refine wif_intro ?_ (fun hc => ?_)
            | refine And.intro ?_ ?_
            | intro hc
          | simp (maxSteps := 4000000) only [wops_nil, wops_cons, wstep_none, wstep_some, wguard_true, wrun_mv, wrun_pick, wrun_bin, wrun_not, wop, aop, ev, look, put_some, writes, ores_some, binV, thenK, blockK, boolV, List.append_nil, List.replicate_zero, Option.map_some, if_true, if_false, Nat.reduceEqDiff, reduceCtorEq, Bool.not_true, eq_self, Int.reduceLT, Int.reduceAdd, Int.reduceToNat, boolV, *]
          | simp (disch := omega) only [wrapI]
          | omega)
        exact ⟨1, by omega, 3, pre ++ [c + 1], H2, by omega, rfl, by simpa using h1, by assumption, rfl⟩
      · skip
        repeat' (first
          | with_reducible first
            | refine T_seq ?_
            | refine T_reg ?_
            | refine T_skip ?_
            | refine T_exit ?_
            | refine T_block ?_
            | refine T_cond_t rfl ?_
            | refine T_cond_f rfl ?_
            | ((first | refine T_cond rfl (fun hc => ?_) (fun hc => ?_) | refine wguard_split (fun hc => ?_) (fun hc => ?_)) <;> have hd := hc <;> (try simp (disch := omega) only [wrapI] at hd) <;> have hs := hd <;> (try simp only [Bool.not_eq_true', Bool.not_eq_false', Bool.and_eq_true, Bool.and_eq_false_iff, Bool.or_eq_true, Bool.or_eq_false_iff, decide_eq_true_eq, decide_eq_false_iff_not, beq_iff_eq, bne_iff_ne, beq_eq_false_iff_ne, bne_eq_false_iff_eq, Bool.not_true, Bool.not_false, gt_iff_lt, ge_iff_le, Int.not_lt, Int.not_le, ne_eq, Decidable.not_not] at hd) <;> (try simp at hs))
            | refine T_ret ?_
            | refine leave_of (.inr rfl) _ rfl ?_
            | refine leave_of (.inl rfl) _ rfl ?_
            | refine leaveA_of (.inr rfl) _ rfl ?_
            | refine leaveA_of (.inl rfl) _ rfl ?_
            | refine wif_intro ?_ (fun hc => ?_)
            | refine And.intro ?_ ?_
            | intro hc
          | simp (maxSteps := 4000000) only [wops_nil, wops_cons, wstep_none, wstep_some, wguard_true, wrun_pick, wrun_not, wop, aop, ev, look, put_some, writes, ores_some, thenK, blockK, boolV, if_true, if_false, Nat.reduceEqDiff, reduceCtorEq, Bool.not_false, eq_self, boolV, *]
          | simp (disch := omega) only [getD_ints, wrapI]
          | omega)
        all_goals exact .inr trivial
    all_goals
      refine ⟨1, by omega, 3, pre, H', by omega, rfl, hsk (by simp only [nextB, *, Bool.and_false, Bool.false_and, Bool.not_true]), hJ, rfl⟩
  · have ek : ((3 : Nat) : Int) = 3 := rfl
    have hst := step146 (x := c + w) hn hY rfl hp hJ
    have hsk : nextB w ph c (c + w) = false → tail146 w c ph 0 = pre ++ tail146 w c ph 4 := fun hb => by rw [hp, tail_cons (x := c + w) rfl, hb]; rfl
    clear hY hB hp hn
    repeat' (first
      | with_reducible first
        | refine T_seq ?_
        | refine T_reg ?_
        | refine T_skip ?_
        | refine T_exit ?_
        | refine T_block ?_
        | refine T_cond_t rfl ?_
        | refine T_cond_f rfl ?_
        | (show wcall _ false (.lit (.func (.func 105) _ _)) _ _ _ _; refine wcall_fn (k105 _ _ _ _ (by omega)) rfl (by simp [plainL, plain]) ?_)
        | (show wcall _ false (.lit (.func (.func 112) _ _)) _ _ _ _; refine wcall_fn (k112 _ _ _ _ _ (by omega) (by omega) (by omega)) rfl (by simp [plainL, plain]) ?_)
        | ((first | refine T_cond rfl (fun hc => ?_) (fun hc => ?_) | refine wguard_split (fun hc => ?_) (fun hc => ?_)) <;> have hd := hc <;> (try simp (disch := omega) only [wrapI] at hd) <;> have hs := hd <;> (try simp only [Bool.not_true] at hd) <;> (try simp at hs))
        | refine T_ret ?_
        | refine leave_of (.inr rfl) _ rfl ?_
        | refine leave_of (.inl rfl) _ rfl ?_
        | refine leaveA_of (.inr rfl) _ rfl ?_
        | refine leaveA_of (.inl rfl) _ rfl ?_
        | refine wif_intro ?_ (fun hc => ?_)
        | refine And.intro ?_ ?_
        | intro hc
      | simp (maxSteps := 4000000) only [wops_nil, wops_cons, wstep_none, wstep_some, wguard_true, wguard_ft, wrun_call, wrun_mv, wrun_pick, wrun_bin, wrun_load, wrun_idxA, wop, aop, ev, look, put_some, writes, ores_some, binV, thenK, blockK, value, cut, hget, toLits, mkAgg, ofValue_int, List.map_cons, List.map_nil, List.length_cons, List.length_nil, List.take_succ_cons, List.take_nil, List.drop_succ_cons, List.drop_zero, List.append_nil, List.replicate_zero, List.getD_cons_zero, Option.getD_some, Option.map_some, Option.map_none, if_true, if_false, Nat.reduceEqDiff, Nat.reduceAdd, Nat.reduceSub, Nat.zero_add, Nat.mul_one, Nat.zero_ne_one, reduceCtorEq, Bool.not_true, Bool.false_eq_true, eq_self, and_self, decide_true, freeze, lidsL, lids, List.flatMap_cons, List.flatMap_nil, ren, Int.reduceLT, Int.reduceLE, Int.reduceAdd, Int.reduceToNat, Int.cast_ofNat_Int, *]
      | simp (disch := omega) only [wrapI]
      | (with_reducible show wcall _ false (.lit (.func (.func 105) _ _)) _ _ _ _; refine wcall_fn (k105 _ _ _ _ (by omega)) ?_ ?_ ?_; (next => simp [rfyL, rfy, hget, ints, take_rfy, Int.natCast_zero, Int.reduceLT, Int.reduceLE, Int.reduceAdd, Int.toNat_zero, Int.reduceToNat, Int.cast_ofNat_Int, boolV]); (next => simp [plainL, plain, plainR, Int.natCast_zero, Int.reduceLT, Int.reduceLE, Int.reduceAdd, Int.toNat_zero, Int.reduceToNat, Int.cast_ofNat_Int, boolV]))
      | (with_reducible show wcall _ false (.lit (.func (.func 112) _ _)) _ _ _ _; refine wcall_fn (k112 _ _ _ _ _ (by omega) (by omega) (by omega)) ?_ ?_ ?_; (next => simp [rfyL, rfy, hget, ints, take_rfy, Int.natCast_zero, Int.reduceLT, Int.reduceLE, Int.reduceAdd, Int.toNat_zero, Int.reduceToNat, Int.cast_ofNat_Int, boolV]); (next => simp [plainL, plain, plainR, Int.natCast_zero, Int.reduceLT, Int.reduceLE, Int.reduceAdd, Int.toNat_zero, Int.reduceToNat, Int.cast_ofNat_Int, boolV]))
      | omega)
    · have hb : nextB w ph c (c + w) = true := by simp only [nextB, *, Bool.and_self]
      obtain ⟨h1, hy⟩ := hst hb
      replace h1 : id (tail146 w c ph 0 = pre ++ [c + w] ++ tail146 w c ph (3 + 1)) := h1
      refine wcall_yield hl0 hy ?_
      clear hst hsk hy
      rintro v H2 (⟨rfl, hJ2⟩ | ⟨rfl, hX⟩)
      · clear hb hJ hc1 hg1 hl0
        repeat' (first
          | with_reducible first
            | refine T_seq ?_
            | refine T_reg ?_
            | refine T_skip ?_
            | refine T_exit ?_
            | refine T_block ?_
            | refine T_cond_t rfl ?_
            | refine T_cond_f rfl ?_
            | ((first | refine T_cond rfl (fun hc => ?_) (fun hc => ?_) | refine wguard_split (fun hc => ?_) (fun hc => ?_)) <;> have hd := hc <;> (try simp (disch := omega) only [wrapI] at hd) <;> have hs := hd <;> (try simp only [Bool.not_eq_true', Bool.not_eq_false', Bool.and_eq_true, Bool.and_eq_false_iff, Bool.or_eq_true, Bool.or_eq_false_iff, decide_eq_true_eq, decide_eq_false_iff_not, beq_iff_eq, bne_iff_ne, beq_eq_false_iff_ne, bne_eq_false_iff_eq, Bool.not_true, Bool.not_false, gt_iff_lt, ge_iff_le, Int.not_lt, Int.not_le, ne_eq, Decidable.not_not] at hd) <;> (try simp at hs))
            | refine T_ret ?_
            | refine leave_of (.inr rfl) _ rfl ?_
            | refine leave_of (.inl rfl) _ rfl ?_
            | refine leaveA_of (.inr rfl) _ rfl ?_
            | refine leaveA_of (.inl rfl) _ rfl ?_
            | refine wif_intro ?_ (fun hc => ?_)
            | refine And.intro ?_ ?_
            | intro hc
          | simp (maxSteps := 4000000) only [wops_nil, wops_cons, wstep_none, wstep_some, wguard_true, wrun_mv, wrun_pick, wrun_bin, wrun_not, wop, aop, ev, look, put_some, writes, ores_some, binV, thenK, blockK, boolV, List.append_nil, List.replicate_zero, Option.map_some, if_true, if_false, Nat.reduceEqDiff, reduceCtorEq, Bool.not_true, eq_self, Int.reduceLT, Int.reduceAdd, Int.reduceToNat, boolV, *]
          | simp (disch := omega) only [wrapI]
          | omega)
        exact ⟨0, by omega, 4, pre ++ [c + w], H2, by omega, rfl, by simpa using h1, by assumption, rfl⟩
      · skip
        repeat' (first
          | with_reducible first
            | refine T_seq ?_
            | refine T_reg ?_
            | refine T_skip ?_
            | refine T_exit ?_
            | refine T_block ?_
            | refine T_cond_t rfl ?_
            | refine T_cond_f rfl ?_
            | ((first | refine T_cond rfl (fun hc => ?_) (fun hc => ?_) | refine wguard_split (fun hc => ?_) (fun hc => ?_)) <;> have hd := hc <;> (try simp (disch := omega) only [wrapI] at hd) <;> have hs := hd <;> (try simp only [Bool.not_eq_true', Bool.not_eq_false', Bool.and_eq_true, Bool.and_eq_false_iff, Bool.or_eq_true, Bool.or_eq_false_iff, decide_eq_true_eq, decide_eq_false_iff_not, beq_iff_eq, bne_iff_ne, beq_eq_false_iff_ne, bne_eq_false_iff_eq, Bool.not_true, Bool.not_false, gt_iff_lt, ge_iff_le, Int.not_lt, Int.not_le, ne_eq, Decidable.not_not] at hd) <;> (try simp at hs))
            | refine T_ret ?_
            | refine leave_of (.inr rfl) _ rfl ?_
            | refine leave_of (.inl rfl) _ rfl ?_
            | refine leaveA_of (.inr rfl) _ rfl ?_
            | refine leaveA_of (.inl rfl) _ rfl ?_
            | refine wif_intro ?_ (fun hc => ?_)
            | refine And.intro ?_ ?_
            | intro hc
          | simp (maxSteps := 4000000) only [wops_nil, wops_cons, wstep_none, wstep_some, wguard_true, wrun_pick, wrun_not, wop, aop, ev, look, put_some, writes, ores_some, thenK, blockK, boolV, if_true, if_false, Nat.reduceEqDiff, reduceCtorEq, Bool.not_false, eq_self, boolV, *]
          | simp (disch := omega) only [getD_ints, wrapI]
          | omega)
        all_goals exact .inr trivial
    all_goals
      refine ⟨0, by omega, 4, pre, H', by omega, rfl, hsk (by simp only [nextB, *, Bool.and_false, Bool.false_and, Bool.not_true]), hJ, rfl⟩
  · have ek : ((4 : Nat) : Int) = 4 := rfl
    have h9 : tail146 w c ph 4 = [] := rfl
    rw [h9, List.append_nil] at hp
    have hJ9 : J (tail146 w c ph 0).length H' := by rw [hp]; exact hJ
    clear hY hB hp hJ
    repeat' (first
      | with_reducible first
        | refine T_seq ?_
        | refine T_reg ?_
        | refine T_skip ?_
        | refine T_exit ?_
        | refine T_block ?_
        | refine T_cond_t rfl ?_
        | refine T_cond_f rfl ?_
        | ((first | refine T_cond rfl (fun hc => ?_) (fun hc => ?_) | refine wguard_split (fun hc => ?_) (fun hc => ?_)) <;> have hd := hc <;> (try simp (disch := omega) only [wrapI] at hd) <;> have hs := hd <;> (try simp only [Bool.not_eq_true', Bool.not_eq_false', Bool.and_eq_true, Bool.and_eq_false_iff, Bool.or_eq_true, Bool.or_eq_false_iff, decide_eq_true_eq, decide_eq_false_iff_not, beq_iff_eq, bne_iff_ne, beq_eq_false_iff_ne, bne_eq_false_iff_eq, Bool.not_true, Bool.not_false, gt_iff_lt, ge_iff_le, Int.not_lt, Int.not_le, ne_eq, Decidable.not_not] at hd) <;> (try simp at hs))
        | refine T_ret ?_
        | refine leave_of (.inr rfl) _ rfl ?_
        | refine leave_of (.inl rfl) _ rfl ?_
        | refine leaveA_of (.inr rfl) _ rfl ?_
        | refine leaveA_of (.inl rfl) _ rfl ?_
        | refine wif_intro ?_ (fun hc => ?_)
        | refine And.intro ?_ ?_
        | intro hc
      | simp (maxSteps := 4000000) only [wops_nil, wops_cons, wstep_none, wrun_bin, wop, aop, ev, look, put_some, writes, ores_some, binV, thenK, blockK, List.append_nil, List.replicate_zero, Option.map_some, if_true, if_false, Nat.reduceEqDiff, Nat.sub_self, reduceCtorEq, eq_self, false_and, decide_false, Nat.not_lt_zero, Int.reduceLT, Int.reduceToNat, *]
      | simp (disch := omega) only [getD_ints, wrapI]
      | omega)
    all_goals exact .inl trivial
end Go.Abs
