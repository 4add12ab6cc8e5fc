import Derived.Test.YtodheeifecoebaaK210
set_option linter.all false
set_option linter.unusedVariables false
set_option linter.unusedSimpArgs false
set_option linter.unusedSectionVars false
namespace Go.Abs
open Go.Proofs
/-! slices.Reverse, in place -/
def rvf (f : Nat → Int) (m i j : Nat) : Int := if j < m ∧ (j < i ∨ m ≤ j + i) then f (m - 1 - j) else f j
theorem set_intsR (xs : List Int) (i : Nat) (v : Int) : (xs.map fun x => [i64 x]).set i [i64 v] = (xs.set i v).map fun x => [i64 x] := by rw [List.map_set]
theorem rvf_set {f : Nat → Int} {N m i : Nat} (hm : m ≤ N) (hi : 2 * i + 1 < m) : ((mk N (rvf f m i)).set i (f (m - 1 - i))).set (m - 1 - i) (f i) = mk N (rvf f m (i + 1)) := by
  rw [mk_set, mk_set]
  refine mk_congr fun j hj => ?_
  unfold rvf
  by_cases h1 : j = m - 1 - i
  · rw [if_pos h1, if_pos (by omega), show m - 1 - j = i by omega]
  · rw [if_neg h1]
    by_cases h2 : j = i
    · rw [if_pos h2, if_pos (by omega), h2]
    · rw [if_neg h2]
      by_cases h3 : j < m ∧ (j < i ∨ m ≤ j + i)
      · rw [if_pos h3, if_pos (by omega)]
      · rw [if_neg h3, if_neg (by omega)]
theorem rvf_done {f : Nat → Int} {N m : Nat} : mk N (rvf f m (m / 2)) = mk N fun j => if j < m then f (m - 1 - j) else f j := mk_congr fun j hj => by
  unfold rvf
  by_cases h1 : j < m
  · rw [if_pos h1]
    by_cases h2 : j < m / 2 ∨ m ≤ j + m / 2
    · rw [if_pos ⟨h1, h2⟩]
    · rw [if_neg (fun h => h2 h.2), show m - 1 - j = j by omega]
  · rw [if_neg h1, if_neg (fun h => h1 h.1)]
abbrev SL131 (id m i : Nat) : List (Nat × AV) := [(0, .lsl id 0 m), (2, i64 i), (3, i64 ((m : Int) - 1 - i))]
set_option maxHeartbeats 8000000 in
theorem k131 {N m id : Nat} {f : Nat → Int} {H : List Blk} (hm : m ≤ N) (hN : N ≤ 1000000) (hid : H[id]? = some (.cells true false 1 ((mk N f).map fun x => [i64 x]))) :
    ACall Try.prog 131 [.lsl id 0 m] H fun _ H' => H' = H.set id (.cells true false 1 ((mk N fun j => if j < m then f (m - 1 - j) else f j).map fun x => [i64 x])) := by
  refine envOf_all e131 ?_
  have hl := (List.getElem?_eq_some_iff.1 hid).1
  have e0 : mk N (rvf f m 0) = mk N f := mk_congr fun j hj => by unfold rvf; rw [if_neg (by omega)]
  have hH0 : H = H.set id (.cells true false 1 ((mk N (rvf f m 0)).map fun x => [i64 x])) := by
    rw [e0]
    refine List.ext_getElem? fun i => ?_
    by_cases h : id = i
    · subst h; rw [hid, List.getElem?_set_self hl]
    · rw [List.getElem?_set_ne h]
  have hsl : ∀ B : Blk, (H.set id B)[id]? = some B := fun B => List.getElem?_set_self hl
  have hss : ∀ B B' : Blk, (H.set id B).set id B' = H.set id B' := fun B B' => List.set_set ..
  have ed := rvf_done (f := f) (N := N) (m := m)
  have eset := fun i hi => rvf_set (f := f) (N := N) (m := m) (i := i) hm hi
  have gt1 : ∀ i j, j < N → ((mk N (rvf f m i)).map fun x => [i64 x]).getD j [] = [i64 (rvf f m i j)] := fun i j hj => by rw [getD_ints (by rw [mk_len]; exact hj), mk_get hj]
  have hlen : ∀ i, (mk N (rvf f m i)).length = N := fun i => mk_len ..
  replace hH0 := PLift.up hH0
  replace ed := PLift.up ed
  replace eset := PLift.up eset
  replace gt1 := PLift.up gt1
  have hm0 : ((m : Nat) : Int) - 1 - ((0 : Nat) : Int) = (m : Int) - 1 := by omega
  have ew0 : IntKind.i64.wrap ((m : Int) - 1) = (m : Int) - 1 := wrapI (by omega) (by omega)
  unfold c131
  repeat' (first
    | ((with_reducible refine T_calm ?_ ?_); rfl)
    | with_reducible first
      | refine T_seq ?_
      | refine T_reg ?_
      | refine T_draw ?_
      | refine T_skip ?_
      | refine T_exit ?_
      | refine T_block ?_
      | refine T_cond_t rfl ?_
      | refine T_cond_f rfl ?_
      | refine wdW_cons rfl ?_
      | ((first | refine T_cond rfl (fun hc => ?_) (fun hc => ?_) | refine wguard_split (fun hc => ?_) (fun hc => ?_) | refine wguardX_split (fun hc => ?_) (fun hc => ?_)) <;> have hd := hc <;> (try simp (disch := omega) only [wrapI] at hd) <;> have hs := hd <;> (try simp only [Bool.not_eq_true', Bool.not_eq_false', Bool.and_eq_true, Bool.and_eq_false_iff, Bool.or_eq_true, Bool.or_eq_false_iff, decide_eq_true_eq, decide_eq_false_iff_not, beq_iff_eq, bne_iff_ne, beq_eq_false_iff_ne, bne_eq_false_iff_eq, Bool.not_true, Bool.not_false, gt_iff_lt, ge_iff_le, Int.not_lt, Int.not_le, ne_eq, Decidable.not_not] at hd) <;> (try simp at hs))
      | refine T_ret ?_
      | refine wif_intro ?_ (fun hc => ?_)
      | refine And.intro ?_ ?_
      | intro hc
    | simp (maxSteps := 4000000) only [wops_nil, wops_cons, wstep_none, wrun_mv, wrun_bin, wrun_len, wop, aop, ev, look, put_some, writes, ores_some, ores_map, ores_bind, binV, thenK, intV, lenOf, hget, List.map_cons, List.map_nil, List.append_nil, List.replicate_zero, List.zipIdx_cons, List.zipIdx_nil, Option.pure_def, Option.bind_eq_bind, Option.getD_some, Option.map_some, if_true, if_false, Nat.reduceEqDiff, Nat.zero_add, reduceCtorEq, eq_self, *]
    | simp (disch := omega) only [getD_ints, wrapI]
    | omega)
  refine T_forP [0, 2, 3] (SL131 id m) (m / 2) (fun i H' => H' = H.set id (.cells true false 1 ((mk N (rvf f m i)).map fun x => [i64 x]))) 0 ?_ ?_ (Nat.zero_le _) ?_
  · unfold SL131; rw [hm0]; simp [St.only, get_mk, look]
  · exact hH0.down
  intro i H' hi hH'
  subst hH'
  clear e0 hm0 hid
  by_cases hz : i < m / 2
  · have g1 := gt1.down i i (by omega)
    have g2 := gt1.down i (m - 1 - i) (by omega)
    have r1 : rvf f m i i = f i := by unfold rvf; rw [if_neg (by omega)]
    have r2 : rvf f m i (m - 1 - i) = f (m - 1 - i) := by unfold rvf; rw [if_neg (by omega)]
    rw [r1] at g1
    rw [r2] at g2
    have es := eset.down i (by omega)
    have hlen' := hlen i
    have ej : (m : Int) - 1 - (i : Int) = ((m - 1 - i : Nat) : Int) := by omega
    have ej2 : (m : Int) - 1 - ((i + 1 : Nat) : Int) = ((m - 1 - i : Nat) : Int) - 1 := by omega
    have hji : m - 1 - i < N := by omega
    have hii : i < N := by omega
    have hjm : m - 1 - i < m := by omega
    have him : i < m := by omega
    have hlt : i < m - 1 - i := by omega
    have ei2 := set_intsR
    clear hH0 ed eset gt1 hlen r1 r2
    unfold SL131
    rw [ej, ej2, ← es]
    generalize mk N (rvf f m i) = L at *
    generalize f i = x at *
    generalize f (m - 1 - i) = y at *
    generalize m - 1 - i = j at *
    clear es
    have ewj : IntKind.i64.wrap ((j : Int) - 1) = (j : Int) - 1 := wrapI (by omega) (by omega)
    have g3 : ((L.set i y).map fun x => [i64 x]).getD j [] = [i64 ((L.set i y).getD j 0)] := getD_ints (by simp; omega)
    unfold c131l0
    repeat' (first
      | ((with_reducible refine T_calm ?_ ?_); rfl)
      | with_reducible first
        | refine T_seq ?_
        | refine T_reg ?_
        | refine T_draw ?_
        | refine T_skip ?_
        | refine T_exit ?_
        | refine T_block ?_
        | refine T_cond_t rfl ?_
        | refine T_cond_f rfl ?_
        | refine wdW_cons rfl ?_
        | ((first | refine T_cond rfl (fun hc => ?_) (fun hc => ?_) | refine wguard_split (fun hc => ?_) (fun hc => ?_) | refine wguardX_split (fun hc => ?_) (fun hc => ?_)) <;> have hd := hc <;> (try simp (disch := omega) only [wrapI] at hd) <;> have hs := hd <;> (try simp only [decide_eq_true_eq, decide_eq_false_iff_not, Int.not_lt] at hd) <;> (try simp at hs))
        | refine T_ret ?_
        | refine leave_of (.inr rfl) _ rfl ?_
        | refine leave_of (.inl rfl) _ rfl ?_
        | refine leaveA_of (.inr rfl) _ rfl ?_
        | refine leaveA_of (.inl rfl) _ rfl ?_
        | refine wif_intro ?_ (fun hc => ?_)
        | refine And.intro ?_ ?_
        | intro hc
      | simp (maxSteps := 4000000) only [wops_nil, wops_cons, wstep_none, wrun_mv, wrun_bin, wrun_load, wrun_store, wrun_iaddrS, wrunX_mv, wrunX_load, wrunX_store, wrunX_iaddrS, wdW_nil, wstepX_none, wop, aop, ev, look, put_some, put_none, writes, ores_some, ores_ite_none, binV, thenK, blockK, value, cut, hget, putCells, AV.parts, isOne, toLits, mkAgg, List.length_cons, List.length_nil, List.take_succ_cons, List.take_zero, List.take_nil, List.drop_succ_cons, List.drop_zero, List.drop_nil, List.nil_append, List.append_nil, List.replicate_zero, List.all_cons, List.all_nil, List.length_map, Option.getD_some, Option.map_some, if_true, if_false, Nat.reduceEqDiff, Nat.zero_add, Nat.le_refl, reduceCtorEq, Bool.and_true, Bool.false_eq_true, eq_self, true_and, and_true, and_self, decide_true, List.all_cons, Int.toNat_natCast, List.length_map, List.length_set, *]
      | simp (disch := omega) only [wrapI]
      | omega)
    all_goals first | rfl | (rw [g3]; simp; done) | (simp [St.only, get_mk, look]; done) | (simp [St.only, get_mk, look]; omega)
  · have hie : i = m / 2 := by omega
    subst hie
    have ed' := ed.down
    clear hH0 ed eset gt1 hlen
    rw [ed']
    unfold c131l0
    repeat' (first
      | ((with_reducible refine T_calm ?_ ?_); rfl)
      | with_reducible first
        | refine T_seq ?_
        | refine T_reg ?_
        | refine T_draw ?_
        | refine T_skip ?_
        | refine T_exit ?_
        | refine T_block ?_
        | refine T_cond_t rfl ?_
        | refine T_cond_f rfl ?_
        | refine wdW_cons rfl ?_
        | ((first | refine T_cond rfl (fun hc => ?_) (fun hc => ?_) | refine wguard_split (fun hc => ?_) (fun hc => ?_) | refine wguardX_split (fun hc => ?_) (fun hc => ?_)) <;> have hd := hc <;> (try simp (disch := omega) only [wrapI] at hd) <;> have hs := hd <;> (try simp only [decide_eq_true_eq, decide_eq_false_iff_not, Int.not_lt] at hd) <;> (try simp at hs))
        | refine T_ret ?_
        | refine wif_intro ?_ (fun hc => ?_)
        | refine And.intro ?_ ?_
        | intro hc
      | simp (maxSteps := 4000000) only [wops_nil, wops_cons, wstep_none, wrun_mv, wrun_bin, wrun_load, wrun_iaddrS, wrunX_mv, wrunX_load, wrunX_iaddrS, wstepX_none, wop, aop, ev, look, put_some, writes, ores_some, ores_none, ores_ite_none, ores_map, binV, thenK, blockK, value, cut, hget, mkAgg, List.length_cons, List.length_nil, List.take_succ_cons, List.take_nil, List.drop_zero, List.append_nil, List.replicate_zero, Option.getD_some, Option.map_some, if_true, if_false, Nat.reduceEqDiff, Nat.zero_add, reduceCtorEq, Bool.false_eq_true, eq_self, and_true, false_and, decide_true, *]
      | simp (disch := omega) only [getD_ints]
      | omega)
    all_goals first | exact ⟨[], rfl, rfl⟩
end Go.Abs
