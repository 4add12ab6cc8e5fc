import Derived.Test.YtodheeifecoebaaKSd
import Derived.Test.YtodheeifecoebaaK98x
set_option linter.all false
set_option linter.unusedVariables false
set_option linter.unusedSimpArgs false
set_option linter.unusedSectionVars false
namespace Go.Abs
open Go.Proofs
set_option maxHeartbeats 8000000 in
theorem k119c {z : Nat} {nil : Bool} {l : List Rd} (h : checkR z l = 0) (hcyc : ∀ r, r ≤ z → 0 ≤ (rnds (arcsL l l.length) z (r + 1)).at_) : Fn Try.prog 119 [i64 z, rdgs nil l] (.tup [.sl true 0 [], i64 13]) [] := by
  obtain ⟨hz, hl, hrd⟩ := checkR_ok h
  obtain ⟨hA, hN, hok⟩ := arcs_ok hrd
  have hn : (arcsL l l.length).length ≤ 200 := by have := arcsL_len l l.length; omega
  have hne : arcsL l l.length ≠ [] := fun e => by
    have := hcyc 0 (by omega)
    rw [e] at this
    exact absurd this (by show ¬ (0 : Int) ≤ -1; omega)
  obtain ⟨p, hp1, hp2, hp3, hp4, _⟩ := circle hA hN hn (by omega) (hcyc z (Nat.le_refl _))
  have h95 := k95 (nil := nil) (l := l) (A := arcsL l l.length) (z := z) hl hok (by omega) rfl hA hne (fun r hr hneg => by have := hcyc r hr; omega) (fun _ => ⟨p, hp1, hp2, hp3, hp4, rfl, rfl⟩)
  generalize (sgs (rnds (arcsL l l.length) z (z + 1)).by_ (bk (rnds (arcsL l l.length) z (z + 1)).by_ (rnds (arcsL l l.length) z (z + 1)).at_ z) p).reverse = xs at *
  have h89 := k89 z nil l (by omega)
  rw [h] at h89
  refine fn_of e119 ?_
  unfold c119
  clear hcyc hp3 hp4 hA hN hok hrd hne
  repeat' (first
    | with_reducible first
      | refine T_seq ?_
      | refine T_reg ?_
      | refine T_skip ?_
      | refine T_exit ?_
      | refine T_block ?_
      | refine T_cond_t rfl ?_
      | refine T_cond_f rfl ?_
      | (show wcall _ false (.lit (.func (.func 89) _ _)) _ _ _ _; refine wcall_fn (h89) rfl (by simp [plainL, plain]) ?_)
      | (show wcall _ false (.lit (.func (.func 95) _ _)) _ _ _ _; refine wcall_fn (h95) rfl (by simp [plainL, plain]) ?_)
      | ((first | refine T_cond rfl (fun hc => ?_) (fun hc => ?_) | refine wguard_split (fun hc => ?_) (fun hc => ?_)) <;> have hd := hc <;> (try simp (disch := omega) only [wrapI] at hd) <;> have hs := hd <;> (try simp only [Bool.not_eq_true', Bool.not_eq_false', Bool.and_eq_true, Bool.and_eq_false_iff, Bool.or_eq_true, Bool.or_eq_false_iff, decide_eq_true_eq, decide_eq_false_iff_not, beq_iff_eq, bne_iff_ne, beq_eq_false_iff_ne, bne_eq_false_iff_eq, Bool.not_true, Bool.not_false, gt_iff_lt, ge_iff_le, Int.not_lt, Int.not_le, ne_eq, Decidable.not_not] at hd) <;> (try simp at hs))
      | refine T_ret ?_
      | refine leave_of (.inr rfl) _ rfl ?_
      | refine leave_of (.inl rfl) _ rfl ?_
      | refine leaveA_of (.inr rfl) _ rfl ?_
      | refine leaveA_of (.inl rfl) _ rfl ?_
      | refine wif_intro ?_ (fun hc => ?_)
      | refine And.intro ?_ ?_
      | intro hc
    | simp (maxSteps := 4000000) only [wops_nil, wops_cons, wstep_none, wrun_call, wrun_mv, wrun_bin, wrun_eqNil, get_mk, wop, aop, ev, look, put_some, writes, ores_some, binV, thenK, boolV, hget, tupOf, List.map_cons, List.map_nil, List.length_cons, List.length_nil, List.getElem?_cons_zero, List.nil_append, List.append_nil, List.replicate_zero, List.zipIdx_cons, List.zipIdx_nil, Option.getD_some, Option.map_some, if_true, if_false, Nat.reduceEqDiff, Nat.reduceAdd, Nat.add_zero, Nat.zero_add, Nat.zero_ne_one, reduceCtorEq, Bool.not_false, eq_self, freeze, lidsL, lids, List.flatMap_cons, List.flatMap_nil, ren, renL, renR, renB, shiftρ, renR_ints, renR_ints, *]
    | simp (disch := omega) only [getD_ints, wrapI]
    | (with_reducible show wcall _ false (.lit (.func (.func 89) _ _)) _ _ _ _; refine wcall_fn (h89) ?_ ?_ ?_; (next => simp [rfyL, rfy, hget, ints, take_rfy, renR_ints]); (next => simp [plainL, plain, plainR, renR_ints]))
    | (with_reducible show wcall _ false (.lit (.func (.func 95) _ _)) _ _ _ _; refine wcall_fn (h95) ?_ ?_ ?_; (next => simp [rfyL, rfy, hget, ints, take_rfy, renR_ints]); (next => simp [plainL, plain, plainR, renR_ints]))
    | omega)
set_option maxHeartbeats 8000000 in
theorem k54e {zi : Int} {nil : Bool} {l : List Rd} (a b : Int) (hl : l.length < 1000000) (h : (if checkR zi l ≠ 0 then checkR zi l else zErr zi a b) ≠ 0) : Fn Try.prog 54 [i64 zi, rdgs nil l, rgA a b] (.tup [rgA 0 0, i64 (if checkR zi l ≠ 0 then checkR zi l else zErr zi a b)]) [] := by
  refine fn_of e54 ?_
  have h118 := k118 zi nil l a b hl
  generalize (if checkR zi l ≠ 0 then checkR zi l else zErr zi a b) = d at *
  have hd0 : (d != 0) = true := by simp only [bne_iff_ne]; exact h
  unfold c54
  repeat' (first
    | with_reducible first
      | refine T_seq ?_
      | refine T_reg ?_
      | refine T_skip ?_
      | refine T_exit ?_
      | refine T_block ?_
      | refine T_cond_t rfl ?_
      | refine T_cond_f rfl ?_
      | (show wcall _ false (.lit (.func (.func 118) _ _)) _ _ _ _; refine wcall_fn (h118) rfl (by simp [plainL, plain]) ?_)
      | ((first | refine T_cond rfl (fun hc => ?_) (fun hc => ?_) | refine wguard_split (fun hc => ?_) (fun hc => ?_)) <;> have hd := hc <;> (try simp (disch := omega) only [wrapI] at hd) <;> have hs := hd <;> (try simp only [Bool.not_eq_true', Bool.not_eq_false', Bool.and_eq_true, Bool.and_eq_false_iff, Bool.or_eq_true, Bool.or_eq_false_iff, decide_eq_true_eq, decide_eq_false_iff_not, beq_iff_eq, bne_iff_ne, beq_eq_false_iff_ne, bne_eq_false_iff_eq, Bool.not_true, Bool.not_false, gt_iff_lt, ge_iff_le, Int.not_lt, Int.not_le, ne_eq, Decidable.not_not] at hd) <;> (try simp at hs))
      | refine T_ret ?_
      | refine leave_of (.inr rfl) _ rfl ?_
      | refine leave_of (.inl rfl) _ rfl ?_
      | refine leaveA_of (.inr rfl) _ rfl ?_
      | refine leaveA_of (.inl rfl) _ rfl ?_
      | refine wif_intro ?_ (fun hc => ?_)
      | refine And.intro ?_ ?_
      | intro hc
    | simp (maxSteps := 4000000) only [wops_nil, wops_cons, wstep_none, wrun_call, wrun_mv, wrun_bin, wrun_build, wrun_load, wrun_store, wrun_alloc, wrun_box, get_mk, wop, aop, ev, look, put_some, put_none, writes, ores_some, binV, thenK, value, cut, hget, fillA, putCells, AV.parts, isOne, toLits, mkAgg, tupOf, ofValue_int, List.map_cons, List.map_nil, List.length_cons, List.length_nil, List.getElem?_cons_zero, List.getElem?_cons_succ, List.set_cons_zero, List.set_cons_succ, List.take_succ_cons, List.take_zero, List.take_nil, List.drop_succ_cons, List.drop_zero, List.drop_nil, List.nil_append, List.append_nil, List.replicate_zero, List.replicate_succ, List.getD_cons_zero, List.zipIdx_cons, List.zipIdx_nil, List.all_cons, List.all_nil, Option.getD_some, Option.map_some, if_true, if_false, Nat.reduceEqDiff, Nat.reduceAdd, Nat.reduceLT, Nat.add_zero, Nat.zero_add, Nat.le_refl, Nat.zero_ne_one, reduceCtorEq, Bool.and_true, eq_self, true_and, and_self, freeze, lidsL, lids, List.flatMap_cons, List.flatMap_nil, List.all_cons, ren, renL, *]
    | simp (disch := omega) only [getD_ints, wrapI]
    | (with_reducible show wcall _ false (.lit (.func (.func 118) _ _)) _ _ _ _; refine wcall_fn (h118) ?_ ?_ ?_; (next => simp [rfyL, rfy, hget, ints, take_rfy]); (next => simp [plainL, plain, plainR]))
    | omega)
set_option maxHeartbeats 8000000 in
theorem k54c {z : Nat} {nil : Bool} {l : List Rd} (a b : Int) (h : checkR z l = 0) (hz : zErr z a b = 0) (hcyc : ∀ r, r ≤ z → 0 ≤ (rnds (arcsL l l.length) z (r + 1)).at_) : Fn Try.prog 54 [i64 z, rdgs nil l, rgA a b] (.tup [rgA 0 0, i64 13]) [] := by
  refine fn_of e54 ?_
  obtain ⟨hz2, hl, hrd⟩ := checkR_ok h
  have h118 := k118 z nil l a b (by omega)
  rw [if_neg (fun h2 => h2 h), hz] at h118
  have h119 := k119c (nil := nil) h hcyc
  clear hcyc hrd
  unfold c54
  repeat' (first
    | with_reducible first
      | refine T_seq ?_
      | refine T_reg ?_
      | refine T_skip ?_
      | refine T_exit ?_
      | refine T_block ?_
      | refine T_cond_t rfl ?_
      | refine T_cond_f rfl ?_
      | (show wcall _ false (.lit (.func (.func 118) _ _)) _ _ _ _; refine wcall_fn (h118) rfl (by simp [plainL, plain]) ?_)
      | (show wcall _ false (.lit (.func (.func 119) _ _)) _ _ _ _; refine wcall_fn (h119) rfl (by simp [plainL, plain]) ?_)
      | ((first | refine T_cond rfl (fun hc => ?_) (fun hc => ?_) | refine wguard_split (fun hc => ?_) (fun hc => ?_)) <;> have hd := hc <;> (try simp (disch := omega) only [wrapI] at hd) <;> have hs := hd <;> (try simp only [Bool.not_eq_true', Bool.not_eq_false', Bool.and_eq_true, Bool.and_eq_false_iff, Bool.or_eq_true, Bool.or_eq_false_iff, decide_eq_true_eq, decide_eq_false_iff_not, beq_iff_eq, bne_iff_ne, beq_eq_false_iff_ne, bne_eq_false_iff_eq, Bool.not_true, Bool.not_false, gt_iff_lt, ge_iff_le, Int.not_lt, Int.not_le, ne_eq, Decidable.not_not] at hd) <;> (try simp at hs))
      | refine T_ret ?_
      | refine leave_of (.inr rfl) _ rfl ?_
      | refine leave_of (.inl rfl) _ rfl ?_
      | refine leaveA_of (.inr rfl) _ rfl ?_
      | refine leaveA_of (.inl rfl) _ rfl ?_
      | refine wif_intro ?_ (fun hc => ?_)
      | refine And.intro ?_ ?_
      | intro hc
    | simp (maxSteps := 4000000) only [wops_nil, wops_cons, wstep_none, wrun_call, wrun_mv, wrun_bin, wrun_ext, wrun_build, wrun_load, wrun_store, wrun_alloc, wrun_box, get_mk, wop, aop, ev, look, put_some, put_none, writes, ores_some, binV, thenK, blockK, value, cut, hget, fillA, putCells, AV.parts, isOne, toLits, mkAgg, tupOf, ofValue_int, List.map_cons, List.map_nil, List.length_cons, List.length_nil, List.getElem?_cons_zero, List.getElem?_cons_succ, List.set_cons_zero, List.set_cons_succ, List.take_succ_cons, List.take_zero, List.take_nil, List.drop_succ_cons, List.drop_zero, List.drop_nil, List.nil_append, List.append_nil, List.replicate_zero, List.replicate_succ, List.getD_cons_zero, List.zipIdx_cons, List.zipIdx_nil, List.all_cons, List.all_nil, Option.getD_some, Option.map_some, if_true, if_false, Nat.reduceEqDiff, Nat.reduceAdd, Nat.reduceLT, Nat.add_zero, Nat.zero_add, Nat.le_refl, Nat.zero_ne_one, reduceCtorEq, Bool.and_true, eq_self, true_and, and_self, freeze, lidsL, lids, List.flatMap_cons, List.flatMap_nil, List.all_cons, ren, renL, renR, *]
    | simp (disch := omega) only [getD_ints, wrapI]
    | (with_reducible show wcall _ false (.lit (.func (.func 118) _ _)) _ _ _ _; refine wcall_fn (h118) ?_ ?_ ?_; (next => simp [rfyL, rfy, hget, ints, take_rfy]); (next => simp [plainL, plain, plainR]))
    | (with_reducible show wcall _ false (.lit (.func (.func 119) _ _)) _ _ _ _; refine wcall_fn (h119) ?_ ?_ ?_; (next => simp [rfyL, rfy, hget, ints, take_rfy]); (next => simp [plainL, plain, plainR]))
    | omega)
theorem to_frz {o z : Nat} {M : List (List Int)} {H : List Blk} (h : IsTo o z M H) (x y : Int) : IsTo o z M (freeze H (lidsL (hget H) [.lsl o 0 z, i64 x, i64 y])) ∧ ∀ j, (j < o ∨ o + z < j) → (freeze H (lidsL (hget H) [.lsl o 0 z, i64 x, i64 y]))[j]? = H[j]? := by
  refine ⟨h.freeze _, fun j hj => freeze_ne _ _ fun hm => ?_⟩
  simp only [lidsL, List.flatMap_cons, List.flatMap_nil, List.append_nil, List.mem_append] at hm
  rcases hm with hm | hm | hm
  · have := to_lids h j hm; omega
  · simp [lids] at hm
  · simp [lids] at hm
theorem to_re {o z : Nat} {M : List (List Int)} {H : List Blk} (h : IsTo o z M H) (hM : Sq z M) (x y : Int) : rfyL (hget H) [.lsl o 0 z, i64 x, i64 y] = [tblV M, i64 x, i64 y] := by
  simp only [rfyL, List.map_cons, List.map_nil, to_rfy h hM]; rfl
theorem res54 {s : List (Nat × AV)} {H : List Blk} {o n : Bool} {x y c : Int} (h6 : look s 6 = .loc 1 0 0) (h7 : look s 7 = i64 c) (h1 : H[1]? = some (.cells o n 2 [[i64 x, i64 y]])) : resL ⟨s, H⟩ [ARes.cell 2 true 6, ARes.tmp 7] = some [rgA x y, i64 c] := by
  have hh : hget H 1 = .cells o n 2 [[i64 x, i64 y]] := by unfold hget; rw [h1]; rfl
  simp [resL, resAV, aop, ev, St.get, h6, h7, hh, value, cut, mkAgg, toLits]
set_option maxHeartbeats 8000000 in
theorem k54n {z a b : Nat} {nil : Bool} {l : List Rd} (h : checkR z l = 0) (ha : a < z) (hb : b < z) (hnil : ∃ r, r ≤ z ∧ (rnds (arcsL l l.length) z (r + 1)).at_ < 0) : Fn Try.prog 54 [i64 z, rdgs nil l, rgA a b] (if mget (tabM (arcsL l l.length) z) a b < far then .tup [rgA (-(mget (tabM (arcsL l l.length) z) b a)) (mget (tabM (arcsL l l.length) z) a b), i64 0] else .tup [rgA 0 0, i64 25]) [] := by
  refine fn_of e54 ?_
  obtain ⟨hz2, hl, hrd⟩ := checkR_ok h
  obtain ⟨hA, hN, hok⟩ := arcs_ok hrd
  have hn : (arcsL l l.length).length ≤ 200 := by have := arcsL_len l l.length; omega
  have h118 := k118 z nil l a b (by omega)
  rw [if_neg (fun h2 => h2 h), show zErr z a b = 0 from if_pos (by omega)] at h118
  have h119 := k119n (nil := nil) h hnil
  obtain ⟨P, hP1, hP2⟩ := rest_bound hA hn hnil (by omega)
  have hS := tab_stt hA hN (by omega) hP1 hP2
  have hbd := hS.bd hA (Nat.le_refl _) (by omega) hb ha
  have hM := hS.sq
  generalize tabM (arcsL l l.length) z = M at *
  have hfar : far = 1099511627776 := rfl
  have h120 := k120 (z := z) (i := a) (j := b) (by omega) hM ha hb
  have h98 := k98 (z := z) (i := a) (j := b) (by omega) hM ha hb (by omega)
  have hpl : plainL [tblV M, i64 a, i64 b] = true := by simp only [plainL, plain_tbl]; rfl
  have htab := tab_at hM.hl [.cells true false 2 [[i64 a, i64 b]], .cells true false 2 [[i64 0, i64 0]]]
  have e00 : Int.toNat 0 = 0 := rfl
  have e01 : Int.toNat 1 = 1 := rfl
  replace htab := And.intro htab trivial
  replace hM := And.intro hM trivial
  clear hnil hP1 hP2 hS hA hN hok hrd
  unfold c54
  by_cases hc : mget M a b < far
  · rw [if_pos hc]
    have hdc : decide (mget M a b < far) = true := by simp only [decide_eq_true_eq]; exact hc
    rw [hdc] at h120
    repeat' (first
      | with_reducible first
        | refine T_seq ?_
        | refine T_reg ?_
        | refine T_skip ?_
        | refine T_exit ?_
        | refine T_block ?_
        | refine T_cond_t rfl ?_
        | refine T_cond_f rfl ?_
        | (show wcall _ false (.lit (.func (.func 118) _ _)) _ _ _ _; refine wcall_fn (h118) rfl (by simp [plainL, plain]) ?_)
        | (show wcall _ false (.lit (.func (.func 119) _ _)) _ _ _ _; refine wcall_fn (h119) rfl (by simp [plainL, plain]) ?_)
        | ((first | refine T_cond rfl (fun hc => ?_) (fun hc => ?_) | refine wguard_split (fun hc => ?_) (fun hc => ?_)) <;> have hd := hc <;> (try simp (disch := omega) only [wrapI] at hd) <;> have hs := hd <;> (try simp only [Bool.not_eq_true', Bool.not_eq_false', Bool.and_eq_true, Bool.and_eq_false_iff, Bool.or_eq_true, Bool.or_eq_false_iff, decide_eq_true_eq, decide_eq_false_iff_not, beq_iff_eq, bne_iff_ne, beq_eq_false_iff_ne, bne_eq_false_iff_eq, Bool.not_true, Bool.not_false, gt_iff_lt, ge_iff_le, Int.not_lt, Int.not_le, ne_eq, Decidable.not_not] at hd) <;> (try simp at hs))
        | refine T_ret ?_
        | refine leave_of (.inr rfl) _ rfl ?_
        | refine leave_of (.inl rfl) _ rfl ?_
        | refine leaveA_of (.inr rfl) _ rfl ?_
        | refine leaveA_of (.inl rfl) _ rfl ?_
        | refine wif_intro ?_ (fun hc => ?_)
        | refine And.intro ?_ ?_
        | intro hc
      | simp (maxSteps := 4000000) only [wops_nil, wops_cons, wstep_none, wrun_call, wrun_mv, wrun_bin, wrun_ext, wrun_load, wrun_iaddrA, wrun_alloc, wrun_box, wop, aop, ev, look, put_some, writes, ores_some, ores_ite_none, binV, thenK, value, cut, hget, AV.parts, isOne, toLits, mkAgg, ofValue_int, List.map_cons, List.map_nil, List.length_cons, List.length_nil, List.getElem?_cons_zero, List.getElem?_cons_succ, List.set_cons_zero, List.set_cons_succ, List.take_succ_cons, List.take_zero, List.take_nil, List.drop_succ_cons, List.drop_zero, List.cons_append, List.nil_append, List.append_nil, List.replicate_zero, List.replicate_succ, List.getD_cons_zero, List.zipIdx_cons, List.zipIdx_nil, List.all_cons, List.all_nil, List.length_map, Option.getD_some, Option.map_some, if_true, if_false, Nat.reduceEqDiff, Nat.reduceAdd, Nat.add_zero, Nat.zero_add, Nat.mul_one, Nat.zero_ne_one, reduceCtorEq, Bool.and_true, Bool.false_eq_true, eq_self, true_and, and_self, freeze, lidsL, lids, List.flatMap_cons, List.flatMap_nil, List.all_cons, ren, renL, shiftρ, *]
      | simp (disch := omega) only [getD_ints, wrapI]
      | (with_reducible show wcall _ false (.lit (.func (.func 118) _ _)) _ _ _ _; refine wcall_fn (h118) ?_ ?_ ?_; (next => simp [rfyL, rfy, hget, ints, take_rfy]); (next => simp [plainL, plain, plainR]))
      | (with_reducible show wcall _ false (.lit (.func (.func 119) _ _)) _ _ _ _; refine wcall_fn (h119) ?_ ?_ ?_; (next => simp [rfyL, rfy, hget, ints, take_rfy]); (next => simp [plainL, plain, plainR]))
      | omega)
    have hT : IsTo 2 z M (.cells true false 2 [[i64 a, i64 b]] :: .cells true false 2 [[i64 0, i64 0]] :: List.map (renB (shiftρ 2)) (tabB M z)) := htab.1
    have hp0 : (Blk.cells true false 2 [[i64 a, i64 b]] :: Blk.cells true false 2 [[i64 0, i64 0]] :: List.map (renB (shiftρ 2)) (tabB M z))[0]? = some (Blk.cells true false 2 [[i64 a, i64 b]]) := rfl
    have hp1 : (Blk.cells true false 2 [[i64 a, i64 b]] :: Blk.cells true false 2 [[i64 0, i64 0]] :: List.map (renB (shiftρ 2)) (tabB M z))[1]? = some (Blk.cells true false 2 [[i64 0, i64 0]]) := rfl
    generalize (Blk.cells true false 2 [[i64 a, i64 b]] :: Blk.cells true false 2 [[i64 0, i64 0]] :: List.map (renB (shiftρ 2)) (tabB M z)) = H at hT hp0 hp1 ⊢
    refine wcall_fn h120 (to_re hT hM.1 a b) hpl ?_
    obtain ⟨hF, hFj⟩ := to_frz hT a b
    have hf0 := (hFj 0 (by omega)).trans hp0
    have hf1 := (hFj 1 (by omega)).trans hp1
    generalize freeze H (lidsL (hget H) [.lsl 2 0 z, i64 a, i64 b]) = F at *
    clear hT hp0 hp1 hFj htab
    replace hF := And.intro hF trivial
    repeat' (first
      | with_reducible first
        | refine T_seq ?_
        | refine T_reg ?_
        | refine T_skip ?_
        | refine T_exit ?_
        | refine T_block ?_
        | refine T_cond_t rfl ?_
        | refine T_cond_f rfl ?_
        | ((first | refine T_cond rfl (fun hc => ?_) (fun hc => ?_) | refine wguard_split (fun hc => ?_) (fun hc => ?_)) <;> have hd := hc <;> (try simp (disch := omega) only [wrapI] at hd) <;> have hs := hd <;> (try simp only [Bool.not_eq_true', Bool.not_eq_false', Bool.and_eq_true, Bool.and_eq_false_iff, Bool.or_eq_true, Bool.or_eq_false_iff, decide_eq_true_eq, decide_eq_false_iff_not, beq_iff_eq, bne_iff_ne, beq_eq_false_iff_ne, bne_eq_false_iff_eq, Bool.not_true, Bool.not_false, gt_iff_lt, ge_iff_le, Int.not_lt, Int.not_le, ne_eq, Decidable.not_not] at hd) <;> (try simp at hs))
        | refine T_ret ?_
        | refine leave_of (.inr rfl) _ rfl ?_
        | refine leave_of (.inl rfl) _ rfl ?_
        | refine leaveA_of (.inr rfl) _ rfl ?_
        | refine leaveA_of (.inl rfl) _ rfl ?_
        | refine wif_intro ?_ (fun hc => ?_)
        | refine And.intro ?_ ?_
        | intro hc
      | simp (maxSteps := 4000000) only [wops_nil, wops_cons, wstep_none, wrun_call, wrun_mv, wrun_not, wrun_load, wrun_iaddrA, wop, aop, ev, look, put_some, writes, ores_some, thenK, blockK, boolV, value, cut, hget, mkAgg, List.map_cons, List.map_nil, List.length_cons, List.length_nil, List.take_succ_cons, List.take_zero, List.take_nil, List.drop_succ_cons, List.drop_zero, List.append_nil, List.replicate_zero, List.getD_cons_zero, Option.getD_some, Option.map_some, if_true, if_false, Nat.reduceEqDiff, Nat.add_zero, Nat.zero_add, Nat.mul_one, reduceCtorEq, Bool.not_true, Bool.false_eq_true, eq_self, and_self, ren, *]
      | simp (disch := omega) only [getD_ints, wrapI]
      | omega)
    refine wcall_fn h98 (to_re hF.1 hM.1 a b) hpl ?_
    obtain ⟨hG, hGj⟩ := to_frz hF.1 a b
    have hg0 := (hGj 0 (by omega)).trans hf0
    have hg1 := (hGj 1 (by omega)).trans hf1
    have hlen : 1 < (freeze F (lidsL (hget F) [.lsl 2 0 z, i64 a, i64 b])).length := (List.getElem?_eq_some_iff.1 hg1).1
    generalize freeze F (lidsL (hget F) [.lsl 2 0 z, i64 a, i64 b]) = G at *
    clear hG hGj hF hf0 hf1
    have hset : ∀ c : Blk, (G.set 1 c)[1]? = some c := fun c => List.getElem?_set_self hlen
    repeat' (first
      | with_reducible first
        | refine T_seq ?_
        | refine T_reg ?_
        | refine T_skip ?_
        | refine T_exit ?_
        | refine T_block ?_
        | refine T_cond_t rfl ?_
        | refine T_cond_f rfl ?_
        | ((first | refine T_cond rfl (fun hc => ?_) (fun hc => ?_) | refine wguard_split (fun hc => ?_) (fun hc => ?_)) <;> have hd := hc <;> (try simp (disch := omega) only [wrapI] at hd) <;> have hs := hd <;> (try simp only [Bool.not_eq_true', Bool.not_eq_false', Bool.and_eq_true, Bool.and_eq_false_iff, Bool.or_eq_true, Bool.or_eq_false_iff, decide_eq_true_eq, decide_eq_false_iff_not, beq_iff_eq, bne_iff_ne, beq_eq_false_iff_ne, bne_eq_false_iff_eq, Bool.not_true, Bool.not_false, gt_iff_lt, ge_iff_le, Int.not_lt, Int.not_le, ne_eq, Decidable.not_not] at hd) <;> (try simp at hs))
        | refine T_ret ?_
        | refine wif_intro ?_ (fun hc => ?_)
        | refine And.intro ?_ ?_
        | intro hc
      | simp (maxSteps := 4000000) only [wops_nil, wops_cons, wstep_none, wrun_mv, wrun_store, wop, aop, ev, look, put_some, put_none, writes, ores_some, thenK, hget, putCells, AV.parts, isOne, ofValue_int, List.map_cons, List.map_nil, List.length_cons, List.length_nil, List.set_cons_zero, List.take_zero, List.drop_succ_cons, List.drop_nil, List.nil_append, List.append_nil, List.getD_cons_zero, List.all_cons, List.all_nil, Option.getD_some, if_true, if_false, Nat.reduceEqDiff, Nat.reduceAdd, Nat.reduceLT, Nat.zero_add, Nat.le_refl, reduceCtorEq, Bool.and_true, eq_self, and_self, List.all_cons, ren, *]
      | simp (disch := omega) only [getD_ints, wrapI]
      | omega)
    exact leave_of (.inr rfl) [rgA (-(mget M b a)) (mget M a b), i64 0] (res54 rfl rfl (hset _)) ⟨rfl, rfl⟩
  · rw [if_neg hc]
    have hdc : decide (mget M a b < far) = false := by simp only [decide_eq_false_iff_not]; exact hc
    rw [hdc] at h120
    repeat' (first
      | with_reducible first
        | refine T_seq ?_
        | refine T_reg ?_
        | refine T_skip ?_
        | refine T_exit ?_
        | refine T_block ?_
        | refine T_cond_t rfl ?_
        | refine T_cond_f rfl ?_
        | (show wcall _ false (.lit (.func (.func 118) _ _)) _ _ _ _; refine wcall_fn (h118) rfl (by simp [plainL, plain]) ?_)
        | (show wcall _ false (.lit (.func (.func 119) _ _)) _ _ _ _; refine wcall_fn (h119) rfl (by simp [plainL, plain]) ?_)
        | ((first | refine T_cond rfl (fun hc => ?_) (fun hc => ?_) | refine wguard_split (fun hc => ?_) (fun hc => ?_)) <;> have hd := hc <;> (try simp (disch := omega) only [wrapI] at hd) <;> have hs := hd <;> (try simp only [Bool.not_eq_true', Bool.not_eq_false', Bool.and_eq_true, Bool.and_eq_false_iff, Bool.or_eq_true, Bool.or_eq_false_iff, decide_eq_true_eq, decide_eq_false_iff_not, beq_iff_eq, bne_iff_ne, beq_eq_false_iff_ne, bne_eq_false_iff_eq, Bool.not_true, Bool.not_false, gt_iff_lt, ge_iff_le, Int.not_lt, Int.not_le, ne_eq, Decidable.not_not] at hd) <;> (try simp at hs))
        | refine T_ret ?_
        | refine leave_of (.inr rfl) _ rfl ?_
        | refine leave_of (.inl rfl) _ rfl ?_
        | refine leaveA_of (.inr rfl) _ rfl ?_
        | refine leaveA_of (.inl rfl) _ rfl ?_
        | refine wif_intro ?_ (fun hc => ?_)
        | refine And.intro ?_ ?_
        | intro hc
      | simp (maxSteps := 4000000) only [wops_nil, wops_cons, wstep_none, wrun_call, wrun_mv, wrun_bin, wrun_ext, wrun_load, wrun_iaddrA, wrun_alloc, wrun_box, wop, aop, ev, look, put_some, writes, ores_some, ores_ite_none, binV, thenK, value, cut, hget, AV.parts, isOne, toLits, mkAgg, ofValue_int, List.map_cons, List.map_nil, List.length_cons, List.length_nil, List.getElem?_cons_zero, List.getElem?_cons_succ, List.set_cons_zero, List.set_cons_succ, List.take_succ_cons, List.take_zero, List.take_nil, List.drop_succ_cons, List.drop_zero, List.cons_append, List.nil_append, List.append_nil, List.replicate_zero, List.replicate_succ, List.getD_cons_zero, List.zipIdx_cons, List.zipIdx_nil, List.all_cons, List.all_nil, List.length_map, Option.getD_some, Option.map_some, if_true, if_false, Nat.reduceEqDiff, Nat.reduceAdd, Nat.add_zero, Nat.zero_add, Nat.mul_one, Nat.zero_ne_one, reduceCtorEq, Bool.and_true, Bool.false_eq_true, eq_self, true_and, and_self, freeze, lidsL, lids, List.flatMap_cons, List.flatMap_nil, List.all_cons, ren, renL, shiftρ, *]
      | simp (disch := omega) only [getD_ints, wrapI]
      | (with_reducible show wcall _ false (.lit (.func (.func 118) _ _)) _ _ _ _; refine wcall_fn (h118) ?_ ?_ ?_; (next => simp [rfyL, rfy, hget, ints, take_rfy]); (next => simp [plainL, plain, plainR]))
      | (with_reducible show wcall _ false (.lit (.func (.func 119) _ _)) _ _ _ _; refine wcall_fn (h119) ?_ ?_ ?_; (next => simp [rfyL, rfy, hget, ints, take_rfy]); (next => simp [plainL, plain, plainR]))
      | omega)
    have hT : IsTo 2 z M (.cells true false 2 [[i64 a, i64 b]] :: .cells true false 2 [[i64 0, i64 0]] :: List.map (renB (shiftρ 2)) (tabB M z)) := htab.1
    have hp0 : (Blk.cells true false 2 [[i64 a, i64 b]] :: Blk.cells true false 2 [[i64 0, i64 0]] :: List.map (renB (shiftρ 2)) (tabB M z))[0]? = some (Blk.cells true false 2 [[i64 a, i64 b]]) := rfl
    have hp1 : (Blk.cells true false 2 [[i64 a, i64 b]] :: Blk.cells true false 2 [[i64 0, i64 0]] :: List.map (renB (shiftρ 2)) (tabB M z))[1]? = some (Blk.cells true false 2 [[i64 0, i64 0]]) := rfl
    generalize (Blk.cells true false 2 [[i64 a, i64 b]] :: Blk.cells true false 2 [[i64 0, i64 0]] :: List.map (renB (shiftρ 2)) (tabB M z)) = H at hT hp0 hp1 ⊢
    refine wcall_fn h120 (to_re hT hM.1 a b) hpl ?_
    obtain ⟨hF, hFj⟩ := to_frz hT a b
    have hf0 := (hFj 0 (by omega)).trans hp0
    have hf1 := (hFj 1 (by omega)).trans hp1
    generalize freeze H (lidsL (hget H) [.lsl 2 0 z, i64 a, i64 b]) = F at *
    clear hT hp0 hp1 hFj htab
    clear hF
    have hlen : 1 < F.length := (List.getElem?_eq_some_iff.1 hf1).1
    have hset : ∀ c : Blk, (F.set 1 c)[1]? = some c := fun c => List.getElem?_set_self hlen
    repeat' (first
      | with_reducible first
        | refine T_seq ?_
        | refine T_reg ?_
        | refine T_skip ?_
        | refine T_exit ?_
        | refine T_block ?_
        | refine T_cond_t rfl ?_
        | refine T_cond_f rfl ?_
        | ((first | refine T_cond rfl (fun hc => ?_) (fun hc => ?_) | refine wguard_split (fun hc => ?_) (fun hc => ?_)) <;> have hd := hc <;> (try simp (disch := omega) only [wrapI] at hd) <;> have hs := hd <;> (try simp only [Bool.not_eq_true', Bool.not_eq_false', Bool.and_eq_true, Bool.and_eq_false_iff, Bool.or_eq_true, Bool.or_eq_false_iff, decide_eq_true_eq, decide_eq_false_iff_not, beq_iff_eq, bne_iff_ne, beq_eq_false_iff_ne, bne_eq_false_iff_eq, Bool.not_true, Bool.not_false, gt_iff_lt, ge_iff_le, Int.not_lt, Int.not_le, ne_eq, Decidable.not_not] at hd) <;> (try simp at hs))
        | refine T_ret ?_
        | refine wif_intro ?_ (fun hc => ?_)
        | refine And.intro ?_ ?_
        | intro hc
      | simp (maxSteps := 4000000) only [wops_nil, wops_cons, wstep_none, wrun_mv, wrun_not, wrun_build, wrun_store, wop, aop, ev, look, put_some, put_none, writes, ores_some, thenK, blockK, boolV, hget, fillA, putCells, AV.parts, isOne, toLits, mkAgg, ofValue_int, List.map_cons, List.map_nil, List.length_cons, List.length_nil, List.set_cons_zero, List.take_zero, List.drop_succ_cons, List.drop_nil, List.nil_append, List.append_nil, List.replicate_zero, List.getD_cons_zero, List.all_cons, List.all_nil, Option.getD_some, Option.map_some, if_true, if_false, Nat.reduceEqDiff, Nat.reduceAdd, Nat.reduceLT, Nat.zero_add, Nat.le_refl, reduceCtorEq, Bool.not_false, Bool.and_true, eq_self, and_self, List.all_cons, ren, *]
      | simp (disch := omega) only [getD_ints, wrapI]
      | omega)
    exact leave_of (.inr rfl) [rgA 0 0, i64 25] (res54 rfl rfl (hset _)) ⟨rfl, rfl⟩
end Go.Abs
