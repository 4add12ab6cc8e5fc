import Derived.Test.YtodheeifecoebaaK54x
set_option linter.all false
set_option linter.unusedVariables false
set_option linter.unusedSimpArgs false
set_option linter.unusedSectionVars false
namespace Go.Abs
open Go.Proofs
/-! circles of readings -/
theorem drop_gd {xs : List Int} {k : Nat} (hk : k < xs.length) : xs.drop k = xs.getD k 0 :: xs.drop (k + 1) := by
  rw [List.drop_eq_getElem_cons hk]; simp [List.getD, hk]
def arcOf (l : List Rd) (s : Int) : Ar := if 0 < s then ⟨(l.getD (s - 1).toNat rd0).a, (l.getD (s - 1).toNat rd0).b, (l.getD (s - 1).toNat rd0).hi, s⟩ else ⟨(l.getD (-s - 1).toNat rd0).b, (l.getD (-s - 1).toNat rd0).a, -(l.getD (-s - 1).toNat rd0).lo, s⟩
def badC (n : Nat) (s : Int) : Bool := (s == 0) || !(decide (-(n : Int) ≤ s) && decide (s ≤ n))
def prv (l : List Rd) (ys : List Int) : Nat → Ar
  | 0 => arcOf l (ys.getD (ys.length - 1) 0)
  | k + 1 => arcOf l (ys.getD k 0)
def sumC (l : List Rd) (ys : List Int) : Nat → Int
  | 0 => 0
  | k + 1 => sumC l ys k + (arcOf l (ys.getD k 0)).len
def chainC (l : List Rd) (ys : List Int) : Prop := ∀ k, k < ys.length → (arcOf l (ys.getD k 0)).f = (prv l ys k).t
open Classical in
noncomputable def checkCl (l : List Rd) (ys : List Int) : Int × Int :=
  if ¬ (1 ≤ ys.length ∧ ys.length ≤ 40) then (0, 10) else if ys.any (badC l.length) = true then (0, 6) else
  if ¬ chainC l ys then (0, 25) else if 0 ≤ sumC l ys ys.length then (0, 22) else (sumC l ys ys.length, 0)
theorem badC_ok {n : Nat} {s : Int} (h : badC n s = false) : s ≠ 0 ∧ -(n : Int) ≤ s ∧ s ≤ n := by
  unfold badC at h
  simp at h
  exact ⟨h.1, h.2.1, h.2.2⟩
theorem any_bad_get {n : Nat} {ys : List Int} (h : ys.any (badC n) = false) {k : Nat} (hk : k < ys.length) : badC n (ys.getD k 0) = false := by
  rw [List.any_eq_false] at h
  have := h (ys.getD k 0) (by simp [List.getD, hk])
  simpa using this
set_option maxHeartbeats 8000000 in
theorem k114 (nil : Bool) (l : List Rd) (s : Int) (hl : l.length ≤ 100) (hok : okRd l) (hs : s ≠ 0 ∧ -(l.length : Int) ≤ s ∧ s ≤ l.length) : Fn Try.prog 114 [rdgs nil l, i64 s] (.tup [i64 (arcOf l s).f, i64 (arcOf l s).t, i64 (arcOf l s).len]) [] := by
  refine fn_of e114 ?_
  have hrl := rows4_len l
  have e0 : ∀ x : Int, 0 - x = -x := fun x => by omega
  by_cases hp : 0 < s
  · have ea : arcOf l s = ⟨(l.getD (s - 1).toNat rd0).a, (l.getD (s - 1).toNat rd0).b, (l.getD (s - 1).toNat rd0).hi, s⟩ := if_pos hp
    have hg : (rows4 l).getD (s - 1).toNat [] = rrow (l.getD (s - 1).toNat rd0) := rows4_get (by omega)
    rw [ea]
    unfold c114
    repeat' (first
      | ((with_reducible refine T_calm ?_ ?_); rfl)
      | with_reducible first
        | refine T_seq ?_
        | refine T_reg ?_
        | refine T_draw ?_
        | refine T_skip ?_
        | refine T_exit ?_
        | refine T_block ?_
        | refine T_cond_t rfl ?_
        | refine T_cond_f rfl ?_
        | refine wdW_cons rfl ?_
        | ((first | refine T_cond rfl (fun hc => ?_) (fun hc => ?_) | refine wguard_split (fun hc => ?_) (fun hc => ?_) | refine wguardX_split (fun hc => ?_) (fun hc => ?_)) <;> have hd := hc <;> (try simp (disch := omega) only [wrapI] at hd) <;> have hs := hd <;> (try simp only [decide_eq_true_eq, decide_eq_false_iff_not, Int.not_lt] at hd) <;> (try simp at hs))
        | refine T_ret ?_
        | refine leave_of (.inr rfl) _ rfl ?_
        | refine leave_of (.inl rfl) _ rfl ?_
        | refine leaveA_of (.inr rfl) _ rfl ?_
        | refine leaveA_of (.inl rfl) _ rfl ?_
        | refine wif_intro ?_ (fun hc => ?_)
        | refine And.intro ?_ ?_
        | intro hc
      | simp (maxSteps := 4000000) only [wops_nil, wops_cons, wstep_none, wrun_mv, wrun_bin, wrun_neg, wrun_load, wrun_store, wrun_faddr, wrun_iaddrS, wrun_alloc, get_mk, wop, aop, ev, look, put_some, put_none, writes, ores_some, ores_none, ores_ite_none, ores_map, wif_true, binV, thenK, value, cut, hget, putCells, AV.parts, isOne, toLits, mkAgg, tupOf, ofValue_int, List.map_cons, List.map_nil, List.length_cons, List.length_nil, List.getElem?_cons_zero, List.set_cons_zero, List.take_succ_cons, List.take_zero, List.take_nil, List.drop_succ_cons, List.drop_zero, List.drop_nil, List.nil_append, List.append_nil, List.append_assoc, List.replicate_zero, List.replicate_succ, List.getD_cons_zero, List.zipIdx_cons, List.zipIdx_nil, List.all_cons, List.all_nil, Option.getD_some, Option.map_some, if_true, if_false, Nat.reduceEqDiff, Nat.reduceAdd, Nat.reduceLT, Nat.add_zero, Nat.zero_add, Nat.le_refl, Nat.zero_ne_one, reduceCtorEq, Bool.and_true, Bool.false_eq_true, eq_self, true_and, and_true, and_self, decide_true, List.all_cons, ren, renL, *]
      | simp (disch := omega) only [wrapI]
      | omega)
  · have ea : arcOf l s = ⟨(l.getD (-s - 1).toNat rd0).b, (l.getD (-s - 1).toNat rd0).a, -(l.getD (-s - 1).toNat rd0).lo, s⟩ := if_neg hp
    have hg : (rows4 l).getD (-s - 1).toNat [] = rrow (l.getD (-s - 1).toNat rd0) := rows4_get (by omega)
    have hb := hok (-s - 1).toNat (by omega)
    rw [ea]
    unfold c114
    repeat' (first
      | ((with_reducible refine T_calm ?_ ?_); rfl)
      | with_reducible first
        | refine T_seq ?_
        | refine T_reg ?_
        | refine T_draw ?_
        | refine T_skip ?_
        | refine T_exit ?_
        | refine T_block ?_
        | refine T_cond_t rfl ?_
        | refine T_cond_f rfl ?_
        | refine wdW_cons rfl ?_
        | ((first | refine T_cond rfl (fun hc => ?_) (fun hc => ?_) | refine wguard_split (fun hc => ?_) (fun hc => ?_) | refine wguardX_split (fun hc => ?_) (fun hc => ?_)) <;> have hd := hc <;> (try simp (disch := omega) only [wrapI] at hd) <;> have hs := hd <;> (try simp only [decide_eq_true_eq, decide_eq_false_iff_not, Int.not_lt] at hd) <;> (try simp at hs))
        | refine T_ret ?_
        | refine leave_of (.inr rfl) _ rfl ?_
        | refine leave_of (.inl rfl) _ rfl ?_
        | refine leaveA_of (.inr rfl) _ rfl ?_
        | refine leaveA_of (.inl rfl) _ rfl ?_
        | refine wif_intro ?_ (fun hc => ?_)
        | refine And.intro ?_ ?_
        | intro hc
      | simp (maxSteps := 4000000) only [wops_nil, wops_cons, wstep_none, wrun_mv, wrun_bin, wrun_neg, wrun_load, wrun_store, wrun_faddr, wrun_iaddrS, wrun_alloc, get_mk, wop, aop, ev, look, put_some, put_none, writes, ores_some, ores_none, ores_ite_none, ores_map, wif_true, binV, thenK, value, cut, hget, putCells, AV.parts, isOne, toLits, mkAgg, tupOf, ofValue_int, List.map_cons, List.map_nil, List.length_cons, List.length_nil, List.getElem?_cons_zero, List.set_cons_zero, List.take_succ_cons, List.take_zero, List.take_nil, List.drop_succ_cons, List.drop_zero, List.drop_nil, List.nil_append, List.append_nil, List.append_assoc, List.replicate_zero, List.replicate_succ, List.getD_cons_zero, List.zipIdx_cons, List.zipIdx_nil, List.all_cons, List.all_nil, Option.getD_some, Option.map_some, if_true, if_false, Nat.reduceEqDiff, Nat.reduceAdd, Nat.reduceLT, Nat.add_zero, Nat.zero_add, Nat.le_refl, Nat.zero_ne_one, reduceCtorEq, Bool.and_true, Bool.false_eq_true, eq_self, true_and, and_true, and_self, decide_true, List.all_cons, ren, renL, *]
      | simp (disch := omega) only [wrapI]
      | omega)
set_option maxHeartbeats 8000000 in
theorem k115 {H : List Blk} {ib : Nat} {o n nil : Bool} {l : List Rd} (x : Int) (hl : l.length ≤ 100) (hg : H[ib]? = some (.cells o n 1 [[rdgs nil l]])) :
    ACall Try.prog 115 [i64 x, .loc ib 0 0] H fun r H' => r = bl (badC l.length x) ∧ H' = H := by
  refine envOf_all e115 ?_
  have hrl := rows4_len l
  have e0 : ∀ x : Int, 0 - x = -x := fun x => by omega
  unfold c115 badC
  repeat' (first
    | with_reducible first
      | refine T_seq ?_
      | refine T_reg ?_
      | refine T_skip ?_
      | refine T_exit ?_
      | refine T_block ?_
      | refine T_cond_t rfl ?_
      | refine T_cond_f rfl ?_
      | (show wcall _ false (.lit (.func (.func 92) _ _)) _ _ _ _; refine wcall_fn (k92 _ _ _) rfl (by simp [plainL, plain]) ?_)
      | ((first | refine T_cond rfl (fun hc => ?_) (fun hc => ?_) | refine wguard_split (fun hc => ?_) (fun hc => ?_)) <;> have hd := hc <;> (try simp (disch := omega) only [wrapI] at hd) <;> have hs := hd <;> (try simp only [beq_iff_eq, beq_eq_false_iff_ne, Bool.not_false, ne_eq] at hd) <;> (try simp at hs))
      | refine T_ret ?_
      | refine leave_of (.inr rfl) _ rfl ?_
      | refine leave_of (.inl rfl) _ rfl ?_
      | refine leaveA_of (.inr rfl) _ rfl ?_
      | refine leaveA_of (.inl rfl) _ rfl ?_
      | refine wif_intro ?_ (fun hc => ?_)
      | refine And.intro ?_ ?_
      | intro hc
    | simp (maxSteps := 4000000) only [wops_nil, wops_cons, wstep_none, wstep_some, wguard_ff, wguard_tf, wrun_call, wrun_mv, wrun_pick, wrun_bin, wrun_neg, wrun_not, wrun_load, wrun_len, get_mk, wop, aop, ev, look, put_some, writes, ores_some, ores_map, ores_bind, binV, thenK, boolV, intV, lenOf, value, cut, hget, mkAgg, tupOf, List.map_cons, List.map_nil, List.length_cons, List.length_nil, List.take_succ_cons, List.take_nil, List.drop_zero, List.append_nil, List.replicate_zero, List.getD_cons_zero, List.zipIdx_cons, List.zipIdx_nil, Option.pure_def, Option.bind_eq_bind, Option.getD_some, Option.map_some, if_true, if_false, Nat.reduceEqDiff, Nat.reduceAdd, Nat.zero_add, Nat.zero_ne_one, reduceCtorEq, Bool.true_or, Bool.false_or, Bool.false_eq_true, eq_self, beq_self_eq_true, freeze, lidsL, lids, List.flatMap_cons, List.flatMap_nil, ren, *]
    | simp (disch := omega) only [wrapI]
    | (with_reducible show wcall _ false (.lit (.func (.func 92) _ _)) _ _ _ _; refine wcall_fn (k92 _ _ _) ?_ ?_ ?_; (next => simp [rfyL, rfy, hget, ints, take_rfy, hg, e0]); (next => simp [plainL, plain, plainR, hg, e0]))
    | omega)
  all_goals (simp_all; done)
theorem arcs_idx (l : List Rd) : ∀ n, n ≤ l.length → ∀ i, i < n → (arcsL l n).getD (2 * i) ar0 = ⟨(l.getD i rd0).a, (l.getD i rd0).b, (l.getD i rd0).hi, (i : Int) + 1⟩ ∧ (arcsL l n).getD (2 * i + 1) ar0 = ⟨(l.getD i rd0).b, (l.getD i rd0).a, -(l.getD i rd0).lo, -(i : Int) - 1⟩
  | 0, _, i, hi => by omega
  | n + 1, hn, i, hi => by
    have hl := arcsL_len l n
    have e : arcsL l (n + 1) = arcsL l n ++ [⟨(l.getD n rd0).a, (l.getD n rd0).b, (l.getD n rd0).hi, (n : Int) + 1⟩, ⟨(l.getD n rd0).b, (l.getD n rd0).a, -(l.getD n rd0).lo, -(n : Int) - 1⟩] := rfl
    by_cases hin : i < n
    · obtain ⟨h1, h2⟩ := arcs_idx l n (by omega) i hin
      constructor
      · rw [e, List.getD_eq_getElem?_getD, List.getElem?_append_left (by omega), ← List.getD_eq_getElem?_getD, h1]
      · rw [e, List.getD_eq_getElem?_getD, List.getElem?_append_left (by omega), ← List.getD_eq_getElem?_getD, h2]
    · have : i = n := by omega
      subst this
      constructor
      · rw [e, List.getD_eq_getElem?_getD, List.getElem?_append_right (by omega), hl, show 2 * i - 2 * i = 0 by omega]; rfl
      · rw [e, List.getD_eq_getElem?_getD, List.getElem?_append_right (by omega), hl, show 2 * i + 1 - 2 * i = 1 by omega]; rfl
theorem arcOf_pos {l : List Rd} {s : Int} (h : 0 < s) (h2 : s ≤ l.length) : (arcsL l l.length).getD (2 * s - 2).toNat ar0 = arcOf l s := by
  have := (arcs_idx l l.length (Nat.le_refl _) (s - 1).toNat (by omega)).1
  rw [show (2 * s - 2).toNat = 2 * (s - 1).toNat by omega, this, arcOf, if_pos h]
  congr 1; omega
theorem arcOf_neg {l : List Rd} {s : Int} (h : s < 0) (h2 : -(l.length : Int) ≤ s) : (arcsL l l.length).getD (-2 * s - 1).toNat ar0 = arcOf l s := by
  have := (arcs_idx l l.length (Nat.le_refl _) (-s - 1).toNat (by omega)).2
  rw [show (-2 * s - 1).toNat = 2 * (-s - 1).toNat + 1 by omega, this, arcOf, if_neg (by omega)]
  congr 1; omega
abbrev arA (a : Ar) : AV := .lit (.agg #[.int .i64 a.f, .int .i64 a.t, .int .i64 a.len, .int .i64 a.sg])
theorem res117 {s : List (Nat × AV)} {H : List Blk} {a : Ar} (hs : look s 3 = .loc H.length 0 0) : resL ⟨s, H ++ [.cells true false 4 [arow a]]⟩ [ARes.cell 4 true 3] = some [arA a] := by
  have hh : hget (H ++ [Blk.cells true false 4 [arow a]]) H.length = .cells true false 4 [arow a] := by unfold hget; rw [end_at]; rfl
  simp [resL, resAV, aop, ev, St.get, hs, hh, value, cut, mkAgg, toLits]
set_option maxHeartbeats 8000000 in
theorem k117 {H : List Blk} {ia ir : Nat} {o n o2 n2 : Bool} {l : List Rd} (s : Int) (hl : l.length ≤ 100) (hs : s ≠ 0 ∧ -(l.length : Int) ≤ s ∧ s ≤ l.length) (hg : H[ia]? = some (.cells o n 1 [[.lsl ir 0 (2 * l.length)]])) (hr : H[ir]? = some (.cells o2 n2 4 (arows (arcsL l l.length)))) :
    ACall Try.prog 117 [i64 s, .loc ia 0 0] H fun r H' => r = arA (arcOf l s) ∧ H' = H ++ [.cells true false 4 [arow (arcOf l s)]] := by
  refine envOf_all e117 ?_
  have hal := arcsL_len l l.length
  have hal2 := arows_len (arcsL l l.length)
  have hg1 := at_app hg
  have hr1 := at_app hr
  have he1 := end_at H
  have he2 := end_set H
  by_cases hp : 0 < s
  · have ha := arows_get (l := arcsL l l.length) (k := (2 * s - 2).toNat) (by omega)
    rw [arcOf_pos hp hs.2.2] at ha
    unfold c117
    repeat' (first
      | with_reducible first
        | refine T_seq ?_
        | refine T_reg ?_
        | refine T_skip ?_
        | refine T_exit ?_
        | refine T_block ?_
        | refine T_cond_t rfl ?_
        | refine T_cond_f rfl ?_
        | ((first | refine T_cond rfl (fun hc => ?_) (fun hc => ?_) | refine wguard_split (fun hc => ?_) (fun hc => ?_)) <;> have hd := hc <;> (try simp (disch := omega) only [wrapI] at hd) <;> have hs := hd <;> (try simp only [Bool.not_eq_true', Bool.not_eq_false', Bool.and_eq_true, Bool.and_eq_false_iff, Bool.or_eq_true, Bool.or_eq_false_iff, decide_eq_true_eq, decide_eq_false_iff_not, beq_iff_eq, bne_iff_ne, beq_eq_false_iff_ne, bne_eq_false_iff_eq, Bool.not_true, Bool.not_false, gt_iff_lt, ge_iff_le, Int.not_lt, Int.not_le, ne_eq, Decidable.not_not] at hd) <;> (try simp at hs))
        | refine T_ret ?_
        | refine leave_of (.inr rfl) _ rfl ?_
        | refine leave_of (.inl rfl) _ rfl ?_
        | refine leaveA_of (.inr rfl) _ rfl ?_
        | refine leaveA_of (.inl rfl) _ rfl ?_
        | refine wif_intro ?_ (fun hc => ?_)
        | refine And.intro ?_ ?_
        | intro hc
      | simp (maxSteps := 4000000) only [wops_nil, wops_cons, wstep_none, wrun_mv, wrun_bin, wrun_load, wrun_store, wrun_iaddrS, wrun_alloc, wop, aop, ev, look, put_some, put_none, writes, ores_some, ores_ite_none, ores_map, binV, thenK, value, cut, hget, putCells, AV.parts, isOne, toLits, mkAgg, ofValue_int, List.map_cons, List.map_nil, List.length_cons, List.length_nil, List.set_cons_zero, List.take_succ_cons, List.take_zero, List.take_nil, List.drop_succ_cons, List.drop_zero, List.drop_nil, List.nil_append, List.append_nil, List.replicate_zero, List.replicate_succ, List.getD_cons_zero, List.zipIdx_cons, List.zipIdx_nil, List.all_cons, List.all_nil, List.length_append, Option.getD_some, Option.map_some, if_true, if_false, Nat.reduceEqDiff, Nat.reduceAdd, Nat.reduceLT, Nat.add_zero, Nat.zero_add, Nat.le_refl, Nat.zero_ne_one, reduceCtorEq, Bool.and_true, Bool.false_eq_true, eq_self, true_and, and_true, and_self, decide_true, Int.reduceNeg, List.all_cons, *]
      | simp (disch := omega) only [wrapI]
      | omega)
    exact leaveA_of (.inr rfl) [arA (arcOf l s)] (res117 rfl) ⟨rfl, rfl⟩
  · have ha := arows_get (l := arcsL l l.length) (k := (-2 * s - 1).toNat) (by omega)
    rw [arcOf_neg (by omega) hs.2.1] at ha
    unfold c117
    repeat' (first
      | with_reducible first
        | refine T_seq ?_
        | refine T_reg ?_
        | refine T_skip ?_
        | refine T_exit ?_
        | refine T_block ?_
        | refine T_cond_t rfl ?_
        | refine T_cond_f rfl ?_
        | ((first | refine T_cond rfl (fun hc => ?_) (fun hc => ?_) | refine wguard_split (fun hc => ?_) (fun hc => ?_)) <;> have hd := hc <;> (try simp (disch := omega) only [wrapI] at hd) <;> have hs := hd <;> (try simp only [Bool.not_eq_true', Bool.not_eq_false', Bool.and_eq_true, Bool.and_eq_false_iff, Bool.or_eq_true, Bool.or_eq_false_iff, decide_eq_true_eq, decide_eq_false_iff_not, beq_iff_eq, bne_iff_ne, beq_eq_false_iff_ne, bne_eq_false_iff_eq, Bool.not_true, Bool.not_false, gt_iff_lt, ge_iff_le, Int.not_lt, Int.not_le, ne_eq, Decidable.not_not] at hd) <;> (try simp at hs))
        | refine T_ret ?_
        | refine leave_of (.inr rfl) _ rfl ?_
        | refine leave_of (.inl rfl) _ rfl ?_
        | refine leaveA_of (.inr rfl) _ rfl ?_
        | refine leaveA_of (.inl rfl) _ rfl ?_
        | refine wif_intro ?_ (fun hc => ?_)
        | refine And.intro ?_ ?_
        | intro hc
      | simp (maxSteps := 4000000) only [wops_nil, wops_cons, wstep_none, wrun_mv, wrun_bin, wrun_load, wrun_store, wrun_iaddrS, wrun_alloc, wop, aop, ev, look, put_some, put_none, writes, ores_some, ores_ite_none, ores_map, binV, thenK, value, cut, hget, putCells, AV.parts, isOne, toLits, mkAgg, ofValue_int, List.map_cons, List.map_nil, List.length_cons, List.length_nil, List.set_cons_zero, List.take_succ_cons, List.take_zero, List.take_nil, List.drop_succ_cons, List.drop_zero, List.drop_nil, List.nil_append, List.append_nil, List.replicate_zero, List.replicate_succ, List.getD_cons_zero, List.zipIdx_cons, List.zipIdx_nil, List.all_cons, List.all_nil, List.length_append, Option.getD_some, Option.map_some, if_true, if_false, Nat.reduceEqDiff, Nat.reduceAdd, Nat.reduceLT, Nat.add_zero, Nat.zero_add, Nat.le_refl, Nat.zero_ne_one, reduceCtorEq, Bool.and_true, Bool.false_eq_true, eq_self, true_and, and_true, and_self, decide_false, Int.reduceNeg, List.all_cons, *]
      | simp (disch := omega) only [wrapI]
      | omega)
    exact leaveA_of (.inr rfl) [arA (arcOf l s)] (res117 rfl) ⟨rfl, rfl⟩
end Go.Abs
