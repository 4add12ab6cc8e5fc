import Derived.Test.YtodheeifecoebaaK244x
set_option linter.all false
set_option linter.unusedVariables false
set_option linter.unusedSimpArgs false
set_option linter.unusedSectionVars false
namespace Go.Abs
open Go.Proofs
/-! Maps: a round, and all -/
theorem J20s {n t : Nat} {f : Nat → Nat → Int} {box : Blk} {H H' Hd : List Blk} {els : List (List AV)} (hH : J20o n f box t H) (hn : 1 ≤ n) (hN : H'.length = H.length + 2 * n)
    (hR : H'[H.length + 2 * n - 1]? = some (.cells true false 1 ((mk n (f t)).map fun x => [i64 x]))) (hO : ∀ id, id < H.length → H'[id]? = H[id]?)
    (hd : (t = 0 ∧ els = [] ∧ Hd = H') ∨ (t ≠ 0 ∧ ∃ id, 2 < id ∧ H[2]? = some (.cells true false 2 [[i64 n, .lsl id 0 t]]) ∧ H[id]? = some (.cells true false 1 els) ∧ Rw n f H id t els ∧ Hd = H'.set id .dead)) (a : Blk) :
    J20o n f box (t + 1) (Hd.set 2 (.cells true false 2 [[i64 n, .lsl (H.length + 2 * n + 1) 0 (t + 1)]]) ++ [a, .cells true false 1 (els ++ [[.lsl (H.length + 2 * n - 1) 0 n]])]) := by
  obtain ⟨l, b0, b1, b2, b3⟩ := hH
  have hdl : Hd.length = H.length + 2 * n := by
    rcases hd with ⟨_, _, rfl⟩ | ⟨_, id, _, _, _, _, rfl⟩
    · exact hN
    · simp [hN]
  have hg' : ∀ i, i < H.length → i ≠ 2 → (∀ id, (2 < id ∧ t ≠ 0 ∧ Hd = H'.set id .dead) → id ≠ i) → (Hd.set 2 (.cells true false 2 [[i64 n, .lsl (H.length + 2 * n + 1) 0 (t + 1)]]))[i]? = H[i]? := fun i hi h2 he => by
    rw [List.getElem?_set_ne (by omega)]
    rcases hd with ⟨_, _, rfl⟩ | ⟨h0, id, h3, _, _, _, rfl⟩
    · exact hO i hi
    · rw [List.getElem?_set_ne (he id ⟨h3, h0, rfl⟩)]; exact hO i hi
  have hap : ∀ i X, i < H.length + 2 * n → (Hd.set 2 (.cells true false 2 [[i64 n, .lsl (H.length + 2 * n + 1) 0 (t + 1)]]) ++ X)[i]? = (Hd.set 2 (.cells true false 2 [[i64 n, .lsl (H.length + 2 * n + 1) 0 (t + 1)]]))[i]? := fun i X hi => List.getElem?_append_left (by simp [hdl, hi])
  refine ⟨by simp; omega, ?_, ?_, fun h => by omega, fun _ => ⟨H.length + 2 * n + 1, els ++ [[.lsl (H.length + 2 * n - 1) 0 n]], by omega, ?_, ?_, ?_⟩⟩
  · rw [hap _ _ (by omega), hg' 0 (by omega) (by omega) (fun id h => by omega)]; exact b0
  · rw [hap _ _ (by omega), hg' 1 (by omega) (by omega) (fun id h => by omega)]; exact b1
  · rw [hap _ _ (by omega), List.getElem?_set_self (by omega)]
  · rw [List.getElem?_append_right (by simp [hdl]), List.length_set, hdl, show H.length + 2 * n + 1 - (H.length + 2 * n) = 1 by omega]; rfl
  · have hel : els.length = t := by
      rcases hd with ⟨rfl, rfl, _⟩ | ⟨_, _, _, _, _, h, _⟩
      · rfl
      · exact h.1
    refine ⟨by simp [hel], fun j hj => ?_⟩
    by_cases hjt : j < t
    · rcases hd with ⟨rfl, _, _⟩ | ⟨h0, id, h3, h4, h5, h6, rfl⟩
      · omega
      obtain ⟨rid, r1, r2, o, r3⟩ := h6.2 j hjt
      have hrl := (List.getElem?_eq_some_iff.1 r3).1
      have hr2 : rid ≠ 2 := fun e => by subst e; rw [h4] at r3; simp at r3
      refine ⟨rid, ?_, by omega, o, ?_⟩
      · rw [← r1, List.getD_eq_getElem?_getD, List.getD_eq_getElem?_getD, List.getElem?_append_left (by omega)]
      · rw [hap _ _ (by omega), List.getElem?_set_ne (by omega), List.getElem?_set_ne (by omega), hO _ hrl]; exact r3
    · have hje : j = t := by omega
      subst hje
      refine ⟨H.length + 2 * n - 1, ?_, by omega, true, ?_⟩
      · rw [List.getD_eq_getElem?_getD, List.getElem?_append_right (by omega), hel, Nat.sub_self]; rfl
      · rw [hap _ _ (by omega), List.getElem?_set_ne (by omega)]
        rcases hd with ⟨_, _, rfl⟩ | ⟨h0, id, h3, h4, h5, h6, rfl⟩
        · exact hR
        · have := (List.getElem?_eq_some_iff.1 h5).1
          rw [List.getElem?_set_ne (by omega)]; exact hR
section
variable {b1 b2 : Bool} {ml il : List Int} {k s n : Nat}
set_option maxHeartbeats 8000000 in
theorem k20o (m : MdOk ml il k s n) (t : Nat) (ht : t < k) (hall : t = 0 ∨ ∀ j, j < n → RG ml il j) (H : List Blk) (hH : J20o n (fZ ml il s n) (bM b1 b2 ml il k) t H) :
    T none Try.prog muts 96 0 c20l1 ⟨SLo n t, H⟩ (thenK (fun s' => t < k ∧ (J20o n (fZ ml il s n) (bM b1 b2 ml il k) (t + 1) s'.heap ∧ ∀ j, j < n → RG ml il j) ∧ (s'.only [1, 2, 4, 5, 6]).slots = SLo n (t + 1)) (leaveA [.cell 2 true 2, .tmp 3] (Q20 n k (fZ ml il s n) (okM ml il k)))) := by
  have hl0 := fun hN0 hbox ht i hi a b c H' hH' K => k20l0 (b1 := b1) (b2 := b2) m (t := t) (N0 := H.length) (H0 := H) hN0 hbox ht K i hi a b c H' hH'
  have hlx := fun i hi hr H' hJ hN0 hbox hb1 R => k20x (b1 := b1) (b2 := b2) m (t := t) (N0 := H.length) (i := i) hi hr (H0 := H) (H := H') (f := fZ ml il s n) hJ hN0 hbox hb1 R
  have hJ0 := hH
  obtain ⟨hn, h1, h2, hk, hks⟩ := m
  obtain ⟨hl, hb, hb1, hb2, hb3⟩ := hH
  have hn0 : n ≠ 0 := by omega
  replace hl0 := And.intro hl0 trivial
  replace hlx := And.intro hlx trivial
  replace hall := And.intro hall trivial
  replace hb2 := And.intro hb2 trivial
  replace hb3 := And.intro hb3 trivial
  replace hks := And.intro hks trivial
  unfold c20l1
  repeat' (first
    | ((with_reducible refine T_calm ?_ ?_); rfl)
    | with_reducible first
      | refine T_seq ?_
      | refine T_reg ?_
      | refine T_draw ?_
      | refine T_skip ?_
      | refine T_exit ?_
      | refine T_block ?_
      | refine T_cond_t rfl ?_
      | refine T_cond_f rfl ?_
      | refine wdW_cons rfl ?_
      | ((first | refine T_cond rfl (fun hc => ?_) (fun hc => ?_) | refine wguard_split (fun hc => ?_) (fun hc => ?_) | refine wguardX_split (fun hc => ?_) (fun hc => ?_)) <;> have hd := hc <;> (try simp (disch := omega) only [wrapI] at hd) <;> have hs := hd <;> (try simp only [decide_eq_true_eq, decide_eq_false_iff_not, Int.not_lt] at hd) <;> (try simp at hs))
      | refine T_ret ?_
      | refine wif_intro ?_ (fun hc => ?_)
      | refine And.intro ?_ ?_
      | intro hc
    | simp (maxSteps := 4000000) only [wops_nil, wops_cons, wstep_none, wrun_mv, wrun_bin, wrun_load, wrun_faddr, wop, aop, ev, look, put_some, writes, ores_some, binV, thenK, value, cut, hget, mkAgg, List.length_cons, List.length_nil, List.take_succ_cons, List.take_nil, List.drop_succ_cons, List.drop_zero, List.append_nil, List.replicate_zero, List.getD_cons_zero, Option.getD_some, Option.map_some, if_true, if_false, Nat.reduceEqDiff, Nat.zero_add, reduceCtorEq, Bool.false_eq_true, eq_self, true_and, decide_true, *]
    | simp (disch := omega) only [getD_ints, wrapI]
    | omega)
  refine T_forP [1, 2, 4, 5, 6, 7, 8] (fun i => SLi n t i H.length) n (fun i H' => J20 H.length H (fZ ml il s n t) i H' ∧ (t = 0 → ∀ j, j < i → RG ml il j)) 0 ?_ ?_ (Nat.zero_le _) ?_
  · simp [St.only, get_mk, look]
  · exact ⟨⟨rfl, fun h => (h rfl).elim, fun _ _ => rfl⟩, fun _ j hj => by omega⟩
  intro i H' hi hJ
  by_cases hin : i < n
  · by_cases hr : RG ml il i
    · have hmt : RG ml il ((i + n - t * s) % n) := by
        rcases hall.1 with h | h
        · subst h
          rw [Nat.zero_mul, Nat.sub_zero, Nat.add_mod_right, Nat.mod_eq_of_lt hin]; exact hr
        · exact h _ (Nat.mod_lt _ (by omega))
      refine T_mono (hl0.1 hl hb ht i hin hr.1 hmt.1 hr.2 H' hJ.1 (leaveA [.cell 2 true 2, .tmp 3] (Q20 n k (fZ ml il s n) (okM ml il k)))) fun e s' hs => ?_
      cases e with
      | normal => exact ⟨hs.1, ⟨hs.2.1, fun h0 j hj => by
          by_cases hji : j < i
          · exact hJ.2 h0 j hji
          · rw [show j = i by omega]; exact hr⟩, hs.2.2⟩
      | ret => exact hs
      | _ => exact False.elim hs
    · refine T_mono (hlx.1 i hin hr H' hJ.1 hl hb hb1 (fun _ => False)) fun e s' hs => ?_
      cases e with
      | normal => exact False.elim hs
      | ret => exact hs
      | _ => exact False.elim hs
  · have hie : i = n := by omega
    subst hie
    have hall' : ∀ j, j < i → RG ml il j := by
      rcases hall.1 with h | h
      · exact hJ.2 h
      · exact h
    obtain ⟨⟨hN, hR, hO⟩, _⟩ := hJ
    replace hR := hR hn0
    have c2 := hO 2 (by omega)
    have h2l : 2 < H'.length := by omega
    have hMl : H.length + 2 * i - 1 < H.length + 2 * i := by omega
    have hM2 : 2 < H.length + 2 * i - 1 := by omega
    have q2 : ∀ Y v, (H' ++ Y).set 2 v = H'.set 2 v ++ Y := fun Y v => List.set_append_left _ _ h2l
    obtain ⟨u1, u2, u3, u4⟩ := cells_sub (X := []) hN
    clear hl0 hlx hall
    by_cases ht0 : t = 0
    · subst ht0
      have c2' := c2.trans (hb2.1 rfl)
      have c2a := at_ap c2'
      have f0 := fun a => J20s (els := []) hJ0 hn.1 hN hR hO (.inl ⟨rfl, rfl, rfl⟩) a
      clear c2 hb2 hb3 hO
      unfold c20l0
      simp only [SLi, hn0, if_false]
      generalize hMe : H.length + 2 * i - 1 = M at *
      generalize hNe : H.length + 2 * i = N at *
      replace hMe := And.intro hMe trivial
      replace hNe := And.intro hNe trivial
      replace f0 := And.intro f0 trivial
      repeat' (first
        | ((with_reducible refine T_calm ?_ ?_); rfl)
        | with_reducible first
          | refine T_seq ?_
          | refine T_reg ?_
          | refine T_draw ?_
          | refine T_skip ?_
          | refine T_exit ?_
          | refine T_block ?_
          | refine T_cond_t rfl ?_
          | refine T_cond_f rfl ?_
          | refine wdW_cons rfl ?_
          | ((first | refine T_cond rfl (fun hc => ?_) (fun hc => ?_) | refine wguard_split (fun hc => ?_) (fun hc => ?_) | refine wguardX_split (fun hc => ?_) (fun hc => ?_)) <;> have hd := hc <;> (try simp (disch := omega) only [wrapI] at hd) <;> have hs := hd <;> (try simp only [decide_eq_true_eq, decide_eq_false_iff_not, Int.not_lt] at hd) <;> (try simp at hs))
          | refine T_ret ?_
          | refine wif_intro ?_ (fun hc => ?_)
          | refine And.intro ?_ ?_
          | intro hc
        | simp (maxSteps := 4000000) only [wops_nil, wops_cons, wstep_none, wrun_mv, wrun_bin, wrun_load, wrun_store, wrun_faddr, wrun_bslice, wrun_app, wop, aop, ev, look, put_some, put_none, writes, ores_some, binV, thenK, blockK, elsOf, szOk, value, cut, hget, fillA, putCells, AV.parts, isOne, mkAgg, List.flatten_cons, List.flatten_nil, rowsOf, List.map_cons, List.map_nil, List.length_cons, List.length_nil, List.getElem?_cons_zero, List.getElem?_cons_succ, List.set_cons_zero, List.set_cons_succ, List.take_succ_cons, List.take_zero, List.take_nil, List.drop_succ_cons, List.drop_zero, List.drop_nil, List.cons_append, List.nil_append, List.append_nil, List.append_assoc, List.replicate_zero, List.replicate_succ, List.getD_cons_zero, List.all_cons, List.all_nil, List.isEmpty_cons, List.length_append, Option.getD_some, Option.map_some, if_true, if_false, Nat.reduceEqDiff, Nat.reduceAdd, Nat.reduceMul, Nat.reduceLeDiff, Nat.reduceLT, Nat.add_zero, Nat.zero_add, Nat.sub_zero, Nat.mul_one, Nat.le_refl, reduceCtorEq, Bool.and_true, Bool.or_true, Bool.false_eq_true, eq_self, true_and, and_self, true_implies, false_and, beq_self_eq_true, Int.reduceNeg, List.all_cons, *]
        | simp (disch := omega) only [wrapI]
        | (with_reducible refine wdW_cons ?_ ?_; (next => simp [chk, foot, compatB, argsOf, St.get, target, ev, look, lidsL, hget, kind, wids, wtops, tops, opds, topId, Int.toNat_natCast, h2l]; done))
        | omega)
      all_goals first | exact f0.1 _ | (simp [St.only, get_mk, look]; done)
    · obtain ⟨id, els, g1, g2, g3, g4⟩ := hb3.1 ht0
      have c2' := c2.trans g2
      have c2a := at_ap c2'
      have hidl := (List.getElem?_eq_some_iff.1 g3).1
      have g5 := (hO id hidl).trans g3
      have g6 := at_ap g5
      have f0 := fun a => J20s (els := els) hJ0 hn.1 hN hR hO (.inr ⟨ht0, id, g1, g2, g3, g4, rfl⟩) a
      have hel := g4.1
      have hidN : id < H.length + 2 * i := by omega
      have hidl' : id < H'.length := by omega
      have g7 : ∀ Y v, (H' ++ Y).set id v = H'.set id v ++ Y := fun Y v => List.set_append_left _ _ hidl'
      have g8 : ∀ Y, (H'.set id .dead ++ Y)[2]? = some (.cells true false 2 [[i64 i, .lsl id 0 t]]) := fun Y => at_ap (by rw [List.getElem?_set_ne (by omega)]; exact c2') Y
      have g9 : ∀ Y v, (H'.set id .dead ++ Y).set 2 v = (H'.set id .dead).set 2 v ++ Y := fun Y v => List.set_append_left _ _ (by simp; omega)
      obtain ⟨v1, v2, v3, v4⟩ := cells_sub (X := []) (H := H'.set id .dead) (N := H.length + 2 * i) (by simp [hN])
      have t1 : List.take t els = els := List.take_of_length_le (by omega)
      clear c2 hb2 hb3 hO g4
      unfold c20l0
      simp only [SLi, hn0, if_false]
      generalize hMe : H.length + 2 * i - 1 = M at *
      generalize hNe : H.length + 2 * i = N at *
      replace hMe := And.intro hMe trivial
      replace hNe := And.intro hNe trivial
      replace f0 := And.intro f0 trivial
      replace hel := And.intro hel trivial
      have hel' : els.length = t := hel.1
      repeat' (first
        | ((with_reducible refine T_calm ?_ ?_); rfl)
        | with_reducible first
          | refine T_seq ?_
          | refine T_reg ?_
          | refine T_draw ?_
          | refine T_skip ?_
          | refine T_exit ?_
          | refine T_block ?_
          | refine T_cond_t rfl ?_
          | refine T_cond_f rfl ?_
          | refine wdW_cons rfl ?_
          | ((first | refine T_cond rfl (fun hc => ?_) (fun hc => ?_) | refine wguard_split (fun hc => ?_) (fun hc => ?_) | refine wguardX_split (fun hc => ?_) (fun hc => ?_)) <;> have hd := hc <;> (try simp (disch := omega) only [wrapI] at hd) <;> have hs := hd <;> (try simp only [decide_eq_true_eq, decide_eq_false_iff_not, Int.not_lt] at hd) <;> (try simp at hs))
          | refine T_ret ?_
          | refine wif_intro ?_ (fun hc => ?_)
          | refine And.intro ?_ ?_
          | intro hc
        | simp (maxSteps := 4000000) only [wops_nil, wops_cons, wstep_none, wrun_mv, wrun_bin, wrun_load, wrun_store, wrun_faddr, wrun_bslice, wrun_app, wop, aop, ev, look, put_some, put_none, writes, ores_some, ores_ite_none, binV, thenK, blockK, elsOf, szOk, value, cut, hget, fillA, putCells, AV.parts, isOne, mkAgg, List.flatten_cons, List.flatten_nil, rowsOf, List.map_cons, List.map_nil, List.length_cons, List.length_nil, List.getElem?_cons_zero, List.getElem?_cons_succ, List.set_cons_zero, List.set_cons_succ, List.take_succ_cons, List.take_zero, List.take_nil, List.drop_succ_cons, List.drop_zero, List.drop_nil, List.cons_append, List.nil_append, List.append_nil, List.append_assoc, List.replicate_zero, List.replicate_succ, List.getD_cons_zero, List.all_cons, List.all_nil, List.isEmpty_cons, List.length_append, Option.getD_some, Option.map_some, if_true, if_false, Nat.reduceEqDiff, Nat.reduceAdd, Nat.reduceLT, Nat.add_zero, Nat.zero_add, Nat.sub_zero, Nat.mul_one, Nat.le_refl, reduceCtorEq, Bool.and_true, Bool.and_false, Bool.or_true, Bool.false_eq_true, eq_self, true_and, and_true, and_self, false_implies, false_and, beq_self_eq_true, Int.reduceNeg, List.all_cons, *]
        | simp (disch := omega) only [wrapI]
        | (with_reducible refine wdW_cons ?_ ?_; (next => simp [chk, foot, compatB, argsOf, St.get, target, ev, look, lidsL, hget, kind, wids, wtops, tops, opds, topId, Int.toNat_natCast, h2l]; done))
        | omega)
      all_goals first | exact f0.1 _ | (simp [St.only, get_mk, look]; done)
end
end Go.Abs
