import Derived.Test.YtodheeifecoebaaK118x
set_option linter.all false
set_option linter.unusedVariables false
set_option linter.unusedSimpArgs false
set_option linter.unusedSectionVars false
namespace Go.Abs
open Go.Proofs
theorem res72 {s : List (Nat × AV)} {H : List Blk} {o n : Bool} {x y c : Int} (h4 : look s 4 = .loc 0 0 0) (h5 : look s 5 = i64 c) (h0 : H[0]? = some (.cells o n 2 [[i64 x, i64 y]])) : resL ⟨s, H⟩ [ARes.cell 2 true 4, ARes.tmp 5] = some [rgA x y, i64 c] := by
  have hh : hget H 0 = .cells o n 2 [[i64 x, i64 y]] := by unfold hget; rw [h0]; rfl
  simp [resL, resAV, aop, ev, St.get, h4, h5, hh, value, cut, mkAgg, toLits]
set_option maxHeartbeats 8000000 in
theorem k72e {zi : Int} {nil : Bool} {l : List Rd} (hl : l.length < 1000000) (h : checkR zi l ≠ 0) : Fn Try.prog 72 [i64 zi, rdgs nil l] (.tup [rgA 0 0, i64 (checkR zi l)]) [] := by
  refine fn_of e72 ?_
  have h132 := k132e (nil := nil) hl h
  generalize checkR zi l = d at *
  have hd1 : (d != 0) = true := by simp only [bne_iff_ne]; exact h
  unfold c72
  repeat' (first
    | ((with_reducible refine T_calm ?_ ?_); rfl)
    | with_reducible first
      | refine T_seq ?_
      | refine T_reg ?_
      | refine T_draw ?_
      | refine T_skip ?_
      | refine T_exit ?_
      | refine T_block ?_
      | refine T_cond_t rfl ?_
      | refine T_cond_f rfl ?_
      | refine wdW_cons rfl ?_
      | (show wcall _ false (.lit (.func (.func 132) _ _)) _ _ _ _; refine wcall_fn (h132) rfl (by simp [plainL, plain]) ?_)
      | (show wcallX _ false (.lit (.func (.func 132) _ _)) _ _ _ _; refine wcallX_fn (h132) rfl (by simp [plainL, plain, plainR]) ?_)
      | ((first | refine T_cond rfl (fun hc => ?_) (fun hc => ?_) | refine wguard_split (fun hc => ?_) (fun hc => ?_) | refine wguardX_split (fun hc => ?_) (fun hc => ?_)) <;> have hd := hc <;> (try simp (disch := omega) only [wrapI] at hd) <;> have hs := hd <;> (try simp only [Bool.not_eq_true', Bool.not_eq_false', Bool.and_eq_true, Bool.and_eq_false_iff, Bool.or_eq_true, Bool.or_eq_false_iff, decide_eq_true_eq, decide_eq_false_iff_not, beq_iff_eq, bne_iff_ne, beq_eq_false_iff_ne, bne_eq_false_iff_eq, Bool.not_true, Bool.not_false, gt_iff_lt, ge_iff_le, Int.not_lt, Int.not_le, ne_eq, Decidable.not_not] at hd) <;> (try simp at hs))
      | refine T_ret ?_
      | refine leave_of (.inr rfl) _ rfl ?_
      | refine leave_of (.inl rfl) _ rfl ?_
      | refine leaveA_of (.inr rfl) _ rfl ?_
      | refine leaveA_of (.inl rfl) _ rfl ?_
      | refine wif_intro ?_ (fun hc => ?_)
      | refine And.intro ?_ ?_
      | intro hc
    | simp (maxSteps := 4000000) only [wops_nil, wops_cons, wstep_none, wrun_call, wrun_mv, wrun_bin, wrun_ext, wrun_build, wrun_store, wrun_alloc, get_mk, wop, aop, ev, look, put_some, put_none, writes, ores_some, binV, thenK, cut, hget, fillA, putCells, AV.parts, isOne, toLits, mkAgg, tupOf, ofValue_int, List.map_cons, List.map_nil, List.length_cons, List.length_nil, List.getElem?_cons_zero, List.getElem?_cons_succ, List.set_cons_zero, List.take_succ_cons, List.take_zero, List.take_nil, List.drop_succ_cons, List.drop_zero, List.drop_nil, List.nil_append, List.append_nil, List.replicate_zero, List.replicate_succ, List.getD_cons_zero, List.zipIdx_cons, List.zipIdx_nil, List.all_cons, List.all_nil, Option.getD_some, Option.map_some, if_true, if_false, Nat.reduceEqDiff, Nat.reduceAdd, Nat.reduceLT, Nat.add_zero, Nat.zero_add, Nat.le_refl, Nat.zero_ne_one, reduceCtorEq, Bool.and_true, eq_self, true_and, and_self, freeze, lidsL, lids, List.flatMap_cons, List.flatMap_nil, List.all_cons, ren, renL, renR, *]
    | simp (disch := omega) only [getD_ints, wrapI]
    | (with_reducible show wcall _ false (.lit (.func (.func 132) _ _)) _ _ _ _; refine wcall_fn (h132) ?_ ?_ ?_; (next => simp [rfyL, rfy, hget, ints, take_rfy]); (next => simp [plainL, plain, plainR]))
    | (with_reducible show wcallX _ false (.lit (.func (.func 132) _ _)) _ _ _ _; refine wcallX_fn (h132) ?_ ?_ ?_; (next => simp [rfyL, rfy, hget, ints, take_rfy]); (next => simp [plainL, plain, plainR]))
    | omega)
set_option maxHeartbeats 8000000 in
theorem k72c {z : Nat} {nil : Bool} {l : List Rd} (h : checkR z l = 0) (hcyc : ∀ r, r ≤ z → 0 ≤ (rnds (arcsL l l.length) z (r + 1)).at_) : Fn Try.prog 72 [i64 z, rdgs nil l] (.tup [rgA 0 0, i64 13]) [] := by
  refine fn_of e72 ?_
  have h132 := k132c (nil := nil) h hcyc
  clear hcyc
  unfold c72
  repeat' (first
    | ((with_reducible refine T_calm ?_ ?_); rfl)
    | with_reducible first
      | refine T_seq ?_
      | refine T_reg ?_
      | refine T_draw ?_
      | refine T_skip ?_
      | refine T_exit ?_
      | refine T_block ?_
      | refine T_cond_t rfl ?_
      | refine T_cond_f rfl ?_
      | refine wdW_cons rfl ?_
      | (show wcall _ false (.lit (.func (.func 132) _ _)) _ _ _ _; refine wcall_fn (h132) rfl (by simp [plainL, plain]) ?_)
      | (show wcallX _ false (.lit (.func (.func 132) _ _)) _ _ _ _; refine wcallX_fn (h132) rfl (by simp [plainL, plain, plainR]) ?_)
      | ((first | refine T_cond rfl (fun hc => ?_) (fun hc => ?_) | refine wguard_split (fun hc => ?_) (fun hc => ?_) | refine wguardX_split (fun hc => ?_) (fun hc => ?_)) <;> have hd := hc <;> (try simp (disch := omega) only [wrapI] at hd) <;> have hs := hd <;> (try simp only [Bool.not_eq_true', Bool.not_eq_false', Bool.and_eq_true, Bool.and_eq_false_iff, Bool.or_eq_true, Bool.or_eq_false_iff, decide_eq_true_eq, decide_eq_false_iff_not, beq_iff_eq, bne_iff_ne, beq_eq_false_iff_ne, bne_eq_false_iff_eq, Bool.not_true, Bool.not_false, gt_iff_lt, ge_iff_le, Int.not_lt, Int.not_le, ne_eq, Decidable.not_not] at hd) <;> (try simp at hs))
      | refine T_ret ?_
      | refine leave_of (.inr rfl) _ rfl ?_
      | refine leave_of (.inl rfl) _ rfl ?_
      | refine leaveA_of (.inr rfl) _ rfl ?_
      | refine leaveA_of (.inl rfl) _ rfl ?_
      | refine wif_intro ?_ (fun hc => ?_)
      | refine And.intro ?_ ?_
      | intro hc
    | simp (maxSteps := 4000000) only [wops_nil, wops_cons, wstep_none, wrun_call, wrun_mv, wrun_bin, wrun_ext, wrun_build, wrun_store, wrun_alloc, get_mk, wop, aop, ev, look, put_some, put_none, writes, ores_some, binV, thenK, cut, hget, fillA, putCells, AV.parts, isOne, toLits, mkAgg, tupOf, ofValue_int, List.map_cons, List.map_nil, List.length_cons, List.length_nil, List.getElem?_cons_zero, List.getElem?_cons_succ, List.set_cons_zero, List.take_succ_cons, List.take_zero, List.take_nil, List.drop_succ_cons, List.drop_zero, List.drop_nil, List.nil_append, List.append_nil, List.replicate_zero, List.replicate_succ, List.getD_cons_zero, List.zipIdx_cons, List.zipIdx_nil, List.all_cons, List.all_nil, Option.getD_some, Option.map_some, if_true, if_false, Nat.reduceEqDiff, Nat.reduceAdd, Nat.reduceLT, Nat.add_zero, Nat.zero_add, Nat.le_refl, Nat.zero_ne_one, reduceCtorEq, Bool.and_true, eq_self, true_and, and_self, freeze, lidsL, lids, List.flatMap_cons, List.flatMap_nil, List.all_cons, ren, renL, renR, *]
    | simp (disch := omega) only [getD_ints, wrapI]
    | (with_reducible show wcall _ false (.lit (.func (.func 132) _ _)) _ _ _ _; refine wcall_fn (h132) ?_ ?_ ?_; (next => simp [rfyL, rfy, hget, ints, take_rfy]); (next => simp [plainL, plain, plainR]))
    | (with_reducible show wcallX _ false (.lit (.func (.func 132) _ _)) _ _ _ _; refine wcallX_fn (h132) ?_ ?_ ?_; (next => simp [rfyL, rfy, hget, ints, take_rfy]); (next => simp [plainL, plain, plainR]))
    | omega)
set_option maxHeartbeats 8000000 in
theorem k72f {z : Nat} {nil : Bool} {l : List Rd} (h : checkR z l = 0) (hnil : ∃ r, r ≤ z ∧ (rnds (arcsL l l.length) z (r + 1)).at_ < 0) (hw : ((tabM (arcsL l l.length) z).getD 0 []).any isFar = true) : Fn Try.prog 72 [i64 z, rdgs nil l] (.tup [rgA 0 0, i64 25]) [] := by
  refine fn_of e72 ?_
  have h132 := (k132n (nil := nil) h hnil).1 hw
  clear hnil hw
  unfold c72
  repeat' (first
    | ((with_reducible refine T_calm ?_ ?_); rfl)
    | with_reducible first
      | refine T_seq ?_
      | refine T_reg ?_
      | refine T_draw ?_
      | refine T_skip ?_
      | refine T_exit ?_
      | refine T_block ?_
      | refine T_cond_t rfl ?_
      | refine T_cond_f rfl ?_
      | refine wdW_cons rfl ?_
      | (show wcall _ false (.lit (.func (.func 132) _ _)) _ _ _ _; refine wcall_fn (h132) rfl (by simp [plainL, plain]) ?_)
      | (show wcallX _ false (.lit (.func (.func 132) _ _)) _ _ _ _; refine wcallX_fn (h132) rfl (by simp [plainL, plain, plainR]) ?_)
      | ((first | refine T_cond rfl (fun hc => ?_) (fun hc => ?_) | refine wguard_split (fun hc => ?_) (fun hc => ?_) | refine wguardX_split (fun hc => ?_) (fun hc => ?_)) <;> have hd := hc <;> (try simp (disch := omega) only [wrapI] at hd) <;> have hs := hd <;> (try simp only [Bool.not_eq_true', Bool.not_eq_false', Bool.and_eq_true, Bool.and_eq_false_iff, Bool.or_eq_true, Bool.or_eq_false_iff, decide_eq_true_eq, decide_eq_false_iff_not, beq_iff_eq, bne_iff_ne, beq_eq_false_iff_ne, bne_eq_false_iff_eq, Bool.not_true, Bool.not_false, gt_iff_lt, ge_iff_le, Int.not_lt, Int.not_le, ne_eq, Decidable.not_not] at hd) <;> (try simp at hs))
      | refine T_ret ?_
      | refine leave_of (.inr rfl) _ rfl ?_
      | refine leave_of (.inl rfl) _ rfl ?_
      | refine leaveA_of (.inr rfl) _ rfl ?_
      | refine leaveA_of (.inl rfl) _ rfl ?_
      | refine wif_intro ?_ (fun hc => ?_)
      | refine And.intro ?_ ?_
      | intro hc
    | simp (maxSteps := 4000000) only [wops_nil, wops_cons, wstep_none, wrun_call, wrun_mv, wrun_bin, wrun_ext, wrun_build, wrun_store, wrun_alloc, get_mk, wop, aop, ev, look, put_some, put_none, writes, ores_some, binV, thenK, cut, hget, fillA, putCells, AV.parts, isOne, toLits, mkAgg, tupOf, ofValue_int, List.map_cons, List.map_nil, List.length_cons, List.length_nil, List.getElem?_cons_zero, List.getElem?_cons_succ, List.set_cons_zero, List.take_succ_cons, List.take_zero, List.take_nil, List.drop_succ_cons, List.drop_zero, List.drop_nil, List.nil_append, List.append_nil, List.replicate_zero, List.replicate_succ, List.getD_cons_zero, List.zipIdx_cons, List.zipIdx_nil, List.all_cons, List.all_nil, Option.getD_some, Option.map_some, if_true, if_false, Nat.reduceEqDiff, Nat.reduceAdd, Nat.reduceLT, Nat.add_zero, Nat.zero_add, Nat.le_refl, Nat.zero_ne_one, reduceCtorEq, Bool.and_true, eq_self, true_and, and_self, freeze, lidsL, lids, List.flatMap_cons, List.flatMap_nil, List.all_cons, ren, renL, renR, *]
    | simp (disch := omega) only [getD_ints, wrapI]
    | (with_reducible show wcall _ false (.lit (.func (.func 132) _ _)) _ _ _ _; refine wcall_fn (h132) ?_ ?_ ?_; (next => simp [rfyL, rfy, hget, ints, take_rfy]); (next => simp [plainL, plain, plainR]))
    | (with_reducible show wcallX _ false (.lit (.func (.func 132) _ _)) _ _ _ _; refine wcallX_fn (h132) ?_ ?_ ?_; (next => simp [rfyL, rfy, hget, ints, take_rfy]); (next => simp [plainL, plain, plainR]))
    | omega)
set_option maxHeartbeats 8000000 in
theorem k72o {nil : Bool} {l : List Rd} (h : checkR (1 : Nat) l = 0) (hnil : ∃ r, r ≤ 1 ∧ (rnds (arcsL l l.length) 1 (r + 1)).at_ < 0) (hw : ((tabM (arcsL l l.length) 1).getD 0 []).any isFar = false) : Fn Try.prog 72 [i64 (1 : Nat), rdgs nil l] (.tup [rgA 0 0, i64 12]) [] := by
  refine fn_of e72 ?_
  have h132 := (k132n (nil := nil) h hnil).2 hw
  generalize tabM (arcsL l l.length) 1 = M at *
  clear hnil hw
  unfold c72
  repeat' (first
    | ((with_reducible refine T_calm ?_ ?_); rfl)
    | with_reducible first
      | refine T_seq ?_
      | refine T_reg ?_
      | refine T_draw ?_
      | refine T_skip ?_
      | refine T_exit ?_
      | refine T_block ?_
      | refine T_cond_t rfl ?_
      | refine T_cond_f rfl ?_
      | refine wdW_cons rfl ?_
      | (show wcall _ false (.lit (.func (.func 132) _ _)) _ _ _ _; refine wcall_fn (h132) rfl (by simp [plainL, plain]) ?_)
      | (show wcallX _ false (.lit (.func (.func 132) _ _)) _ _ _ _; refine wcallX_fn (h132) rfl (by simp [plainL, plain, plainR]) ?_)
      | ((first | refine T_cond rfl (fun hc => ?_) (fun hc => ?_) | refine wguard_split (fun hc => ?_) (fun hc => ?_) | refine wguardX_split (fun hc => ?_) (fun hc => ?_)) <;> have hd := hc <;> (try simp (disch := omega) only [wrapI] at hd) <;> have hs := hd <;> (try simp only [Bool.not_eq_true', Bool.not_eq_false', Bool.and_eq_true, Bool.and_eq_false_iff, Bool.or_eq_true, Bool.or_eq_false_iff, decide_eq_true_eq, decide_eq_false_iff_not, beq_iff_eq, bne_iff_ne, beq_eq_false_iff_ne, bne_eq_false_iff_eq, Bool.not_true, Bool.not_false, gt_iff_lt, ge_iff_le, Int.not_lt, Int.not_le, ne_eq, Decidable.not_not] at hd) <;> (try simp at hs))
      | refine T_ret ?_
      | refine wif_intro ?_ (fun hc => ?_)
      | refine And.intro ?_ ?_
      | intro hc
    | simp (maxSteps := 4000000) only [wops_nil, wops_cons, wstep_none, wrun_call, wrun_mv, wrun_bin, wrun_ext, wrun_build, wrun_store, wrun_alloc, wop, aop, ev, look, put_some, put_none, writes, ores_some, binV, thenK, hget, fillA, putCells, AV.parts, isOne, toLits, mkAgg, ofValue_int, List.map_cons, List.map_nil, List.length_cons, List.length_nil, List.getElem?_cons_zero, List.getElem?_cons_succ, List.set_cons_zero, List.take_zero, List.drop_succ_cons, List.drop_nil, List.cons_append, List.nil_append, List.append_nil, List.replicate_zero, List.replicate_succ, List.getD_cons_zero, List.zipIdx_cons, List.zipIdx_nil, List.all_cons, List.all_nil, List.length_map, Option.getD_some, Option.map_some, if_true, if_false, Nat.reduceEqDiff, Nat.reduceAdd, Nat.reduceLT, Nat.add_zero, Nat.zero_add, Nat.le_refl, Nat.zero_ne_one, reduceCtorEq, Bool.and_true, eq_self, true_and, and_self, freeze, lidsL, lids, List.flatMap_cons, List.flatMap_nil, List.all_cons, ren, renL, shiftρ, *]
    | simp (disch := omega) only [getD_ints, wrapI]
    | (with_reducible show wcall _ false (.lit (.func (.func 132) _ _)) _ _ _ _; refine wcall_fn (h132) ?_ ?_ ?_; (next => simp [rfyL, rfy, hget, ints, take_rfy]); (next => simp [plainL, plain, plainR]))
    | (with_reducible show wcallX _ false (.lit (.func (.func 132) _ _)) _ _ _ _; refine wcallX_fn (h132) ?_ ?_ ?_; (next => simp [rfyL, rfy, hget, ints, take_rfy]); (next => simp [plainL, plain, plainR]))
    | omega)
  all_goals exact leave_of (.inr rfl) [rgA 0 0, i64 12] (res72 rfl rfl rfl) ⟨rfl, rfl⟩
set_option maxHeartbeats 8000000 in
theorem k72n {z : Nat} {nil : Bool} {l : List Rd} (hz2 : 2 ≤ z) (h : checkR z l = 0) (hnil : ∃ r, r ≤ z ∧ (rnds (arcsL l l.length) z (r + 1)).at_ < 0) (hw : ((tabM (arcsL l l.length) z).getD 0 []).any isFar = false) :
    Fn Try.prog 72 [i64 z, rdgs nil l] (.tup [rgA (wOut (tabM (arcsL l l.length) z) z z).1 (wOut (tabM (arcsL l l.length) z) z z).2, i64 0]) [] := by
  refine fn_of e72 ?_
  obtain ⟨hz3, hl, hrd⟩ := checkR_ok h
  obtain ⟨hA, hN, hok⟩ := arcs_ok hrd
  have hn : (arcsL l l.length).length ≤ 200 := by have := arcsL_len l l.length; omega
  have h132 := (k132n (nil := nil) h hnil).2 hw
  have hfin := all_fin h hnil hw
  obtain ⟨P, hP1, hP2⟩ := rest_bound hA hn hnil (by omega)
  have hM := (tab_stt hA hN (by omega) hP1 hP2).sq
  generalize tabM (arcsL l l.length) z = M at *
  have htab := tabF_at hM.hl [.cells true false 2 [[i64 0, i64 0]]]
  have hz1 : ((z : Int) == 1) = false := by simp only [beq_eq_false_iff_ne]; omega
  have hT : IsTo 1 z M (Blk.cells true false 2 [[i64 0, i64 0]] :: List.map (renB (shiftρ 1)) (tabF M z)) := htab
  have hp0 : (Blk.cells true false 2 [[i64 0, i64 0]] :: List.map (renB (shiftρ 1)) (tabF M z))[0]? = some (Blk.cells true false 2 [[i64 0, i64 0]]) := rfl
  generalize hgen : (Blk.cells true false 2 [[i64 0, i64 0]] :: List.map (renB (shiftρ 1)) (tabF M z)) = G at *
  replace hgen : Blk.cells true false 2 [[i64 0, i64 0]] :: List.map (renB (shiftρ 1)) (tabF M z) = G := hgen
  have hGl := hT.lt (by omega)
  have hI0 : I72 z G.length M (wOut M z 0) (G ++ [.cells true false 2 [[i64 0, i64 1]]]) := by
    refine ⟨hT.app _, at_app hp0 _, ?_⟩
    rw [List.getElem?_append_right (Nat.le_refl _), Nat.sub_self]; rfl
  have hx0 : ∀ b : Blk, (G ++ [b])[G.length]? = some b := fun b => by simp
  have hx1 : ∀ b c : Blk, (G ++ [b]).set G.length c = G ++ [c] := fun b c => by simp
  have hl0 := fun K a n s H hs hn hH => k72l (N := G.length) (a := a) (n := n) (s := s) (z := z) (M := M) (by omega) (by omega) hM hfin hs hn K H hH
  have hwl := fun a (ha : a ≤ z) => wOut_lt (M := M) (z := z) (by omega) a ha
  obtain ⟨⟨w, ht⟩, hr⟩ := hT
  replace hl0 := And.intro hl0 trivial
  replace hwl := And.intro hwl trivial
  replace hI0 : id (I72 z G.length M (wOut M z 0) (G ++ [.cells true false 2 [[i64 0, i64 1]]])) := hI0
  have hgt : (G ++ [.cells true false 2 [[i64 0, i64 1]]])[1]? = some (.cells w false 1 ((List.range z).map fun i => [AV.lsl (1 + 1 + i) 0 z])) := at_app ht _
  have hzz : 0 < z := by omega
  clear hnil hP1 hP2 hA hN hok hrd hw htab hr hM hfin hGl ht hp0
  unfold c72
  repeat' (first
    | ((with_reducible refine T_calm ?_ ?_); rfl)
    | with_reducible first
      | refine T_seq ?_
      | refine T_reg ?_
      | refine T_draw ?_
      | refine T_skip ?_
      | refine T_exit ?_
      | refine T_block ?_
      | refine T_cond_t rfl ?_
      | refine T_cond_f rfl ?_
      | refine wdW_cons rfl ?_
      | (show wcall _ false (.lit (.func (.func 132) _ _)) _ _ _ _; refine wcall_fn (h132) rfl (by simp [plainL, plain]) ?_)
      | (show wcallX _ false (.lit (.func (.func 132) _ _)) _ _ _ _; refine wcallX_fn (h132) rfl (by simp [plainL, plain, plainR]) ?_)
      | ((first | refine T_cond rfl (fun hc => ?_) (fun hc => ?_) | refine wguard_split (fun hc => ?_) (fun hc => ?_) | refine wguardX_split (fun hc => ?_) (fun hc => ?_)) <;> have hd := hc <;> (try simp (disch := omega) only [wrapI] at hd) <;> have hs := hd <;> (try simp only [Bool.not_eq_true', Bool.not_eq_false', Bool.and_eq_true, Bool.and_eq_false_iff, Bool.or_eq_true, Bool.or_eq_false_iff, decide_eq_true_eq, decide_eq_false_iff_not, beq_iff_eq, bne_iff_ne, beq_eq_false_iff_ne, bne_eq_false_iff_eq, Bool.not_true, Bool.not_false, gt_iff_lt, ge_iff_le, Int.not_lt, Int.not_le, ne_eq, Decidable.not_not] at hd) <;> (try simp at hs))
      | refine T_ret ?_
      | refine leave_of (.inr rfl) _ rfl ?_
      | refine leave_of (.inl rfl) _ rfl ?_
      | refine leaveA_of (.inr rfl) _ rfl ?_
      | refine leaveA_of (.inl rfl) _ rfl ?_
      | refine wif_intro ?_ (fun hc => ?_)
      | refine And.intro ?_ ?_
      | intro hc
    | simp (maxSteps := 4000000) only [wops_nil, wops_cons, wstep_none, wrun_call, wrun_mv, wrun_bin, wrun_ext, wrun_build, wrun_store, wrun_len, wrun_alloc, wop, aop, ev, look, put_some, put_none, writes, ores_some, ores_map, ores_bind, binV, thenK, intV, lenOf, hget, fillA, putCells, AV.parts, isOne, toLits, mkAgg, ofValue_int, List.map_cons, List.map_nil, List.length_cons, List.length_nil, List.getElem?_cons_zero, List.getElem?_cons_succ, List.set_cons_zero, List.take_succ_cons, List.take_zero, List.drop_succ_cons, List.drop_zero, List.drop_nil, List.cons_append, List.nil_append, List.append_nil, List.append_assoc, List.replicate_zero, List.replicate_succ, List.getD_cons_zero, List.zipIdx_cons, List.zipIdx_nil, List.all_cons, List.all_nil, List.length_append, Option.pure_def, Option.bind_eq_bind, Option.getD_some, Option.map_some, if_true, if_false, Nat.reduceEqDiff, Nat.reduceAdd, Nat.reduceLeDiff, Nat.reduceLT, Nat.add_zero, Nat.zero_add, Nat.le_refl, Nat.zero_ne_one, reduceCtorEq, Bool.and_true, eq_self, true_and, and_self, freeze, lidsL, lids, List.flatMap_cons, List.flatMap_nil, List.all_cons, ren, renL, shiftρ, *]
    | simp (disch := omega) only [getD_ints, wrapI]
    | (with_reducible show wcall _ false (.lit (.func (.func 132) _ _)) _ _ _ _; refine wcall_fn (h132) ?_ ?_ ?_; (next => simp [rfyL, rfy, hget, ints, take_rfy]); (next => simp [plainL, plain, plainR]))
    | (with_reducible show wcallX _ false (.lit (.func (.func 132) _ _)) _ _ _ _; refine wcallX_fn (h132) ?_ ?_ ?_; (next => simp [rfyL, rfy, hget, ints, take_rfy]); (next => simp [plainL, plain, plainR]))
    | omega)
  refine T_forH [0, 4, 6, 8, 26, 27] (fun a => [(0, i64 z), (4, .loc 0 0 0), (6, .lsl 1 0 z), (8, .loc G.length 0 0), (26, i64 z), (27, i64 a)]) z (fun a H => I72 z G.length M (wOut M z a) H) 0 ?_ ?_ (Nat.zero_le _) ?_
  · simp [St.only, get_mk, look]
  · exact hI0
  clear hI0 hx0 hx1 hgt
  intro a H ha hH
  unfold c72l1
  by_cases haz : a < z
  · have hH0 : id (I72 z G.length M (wOut M z a) H) := hH
    clear hH
    repeat' (first
      | ((with_reducible refine T_calm ?_ ?_); rfl)
      | with_reducible first
        | refine T_seq ?_
        | refine T_reg ?_
        | refine T_draw ?_
        | refine T_skip ?_
        | refine T_exit ?_
        | refine T_block ?_
        | refine T_cond_t rfl ?_
        | refine T_cond_f rfl ?_
        | refine wdW_cons rfl ?_
        | ((first | refine T_cond rfl (fun hc => ?_) (fun hc => ?_) | refine wguard_split (fun hc => ?_) (fun hc => ?_) | refine wguardX_split (fun hc => ?_) (fun hc => ?_)) <;> have hd := hc <;> (try simp (disch := omega) only [wrapI] at hd) <;> have hs := hd <;> (try simp only [decide_eq_true_eq, decide_eq_false_iff_not, Int.not_lt] at hd) <;> (try simp at hs))
        | refine T_ret ?_
        | refine leave_of (.inr rfl) _ rfl ?_
        | refine leave_of (.inl rfl) _ rfl ?_
        | refine leaveA_of (.inr rfl) _ rfl ?_
        | refine leaveA_of (.inl rfl) _ rfl ?_
        | refine wif_intro ?_ (fun hc => ?_)
        | refine And.intro ?_ ?_
        | intro hc
      | simp (maxSteps := 4000000) only [wops_nil, wops_cons, wstep_none, wrun_mv, wrun_bin, wrun_load, wrun_store, wop, aop, ev, look, put_some, put_none, writes, ores_some, ores_none, binV, thenK, blockK, value, cut, hget, putCells, AV.parts, mkAgg, List.take_zero, List.drop_zero, List.nil_append, List.append_nil, List.replicate_zero, Option.map_some, if_true, if_false, Nat.reduceEqDiff, Nat.zero_add, reduceCtorEq, eq_self, true_and, decide_true, *]
      | simp (disch := omega) only [wrapI]
      | omega)
    refine T_forH [0, 4, 6, 8, 9, 10, 26, 27] (fun n => SL72 z G.length a (a + 1 + n)) (z - (a + 1)) (fun n H => I72 z G.length M (wIn M a (wOut M z a) n) H) 0 ?_ ?_ (Nat.zero_le _) ?_
    · simp [St.only, get_mk, look]
    · exact hH0
    clear hH0
    intro n H2 hn hH2
    by_cases hnz : n < z - (a + 1)
    · exact hl0.1 _ a n (wOut M z a) H2 (hwl.1 a (by omega)) (by omega) hH2
    · have hne : n = z - (a + 1) := by omega
      subst hne
      have hlt : ¬ (((a + 1 + (z - (a + 1)) : Nat) : Int) < z) := by omega
      have hH3 : id (I72 z G.length M (wOut M z (a + 1)) H2) := hH2
      clear hH2 hl0 hwl
      unfold c72l0
      repeat' (first
        | ((with_reducible refine T_calm ?_ ?_); rfl)
        | with_reducible first
          | refine T_seq ?_
          | refine T_reg ?_
          | refine T_draw ?_
          | refine T_skip ?_
          | refine T_exit ?_
          | refine T_block ?_
          | refine T_cond_t rfl ?_
          | refine T_cond_f rfl ?_
          | refine wdW_cons rfl ?_
          | ((first | refine T_cond rfl (fun hc => ?_) (fun hc => ?_) | refine wguard_split (fun hc => ?_) (fun hc => ?_) | refine wguardX_split (fun hc => ?_) (fun hc => ?_)) <;> have hd := hc <;> (try simp (disch := omega) only [wrapI] at hd) <;> have hs := hd <;> (try simp only [Bool.not_eq_true', Bool.not_eq_false', Bool.and_eq_true, Bool.and_eq_false_iff, Bool.or_eq_true, Bool.or_eq_false_iff, decide_eq_true_eq, decide_eq_false_iff_not, beq_iff_eq, bne_iff_ne, beq_eq_false_iff_ne, bne_eq_false_iff_eq, Bool.not_true, Bool.not_false, gt_iff_lt, ge_iff_le, Int.not_lt, Int.not_le, ne_eq, Decidable.not_not] at hd) <;> (try simp at hs))
          | refine T_ret ?_
          | refine leave_of (.inr rfl) _ rfl ?_
          | refine leave_of (.inl rfl) _ rfl ?_
          | refine leaveA_of (.inr rfl) _ rfl ?_
          | refine leaveA_of (.inl rfl) _ rfl ?_
          | refine wif_intro ?_ (fun hc => ?_)
          | refine And.intro ?_ ?_
          | intro hc
        | simp (maxSteps := 4000000) only [wops_nil, wops_cons, wstep_none, wrun_mv, wrun_bin, wop, aop, ev, look, put_some, writes, ores_some, binV, thenK, blockK, List.append_nil, List.replicate_zero, Option.map_some, if_true, if_false, Nat.reduceEqDiff, reduceCtorEq, eq_self, false_and, decide_false, *]
        | simp (disch := omega) only [wrapI]
        | omega)
      all_goals first | exact hH3 | (simp [St.only, get_mk, look]; done)
  · have hae : a = z := by omega
    subst hae
    obtain ⟨_, hr0, hrN⟩ := hH
    have hNl := (List.getElem?_eq_some_iff.1 hrN).1
    have h0l := (List.getElem?_eq_some_iff.1 hr0).1
    have hs0 : ∀ b : Blk, (H.set 0 b)[0]? = some b := fun b => List.getElem?_set_self h0l
    clear hl0 hwl
    repeat' (first
      | ((with_reducible refine T_calm ?_ ?_); rfl)
      | with_reducible first
        | refine T_seq ?_
        | refine T_reg ?_
        | refine T_draw ?_
        | refine T_skip ?_
        | refine T_exit ?_
        | refine T_block ?_
        | refine T_cond_t rfl ?_
        | refine T_cond_f rfl ?_
        | refine wdW_cons rfl ?_
        | ((first | refine T_cond rfl (fun hc => ?_) (fun hc => ?_) | refine wguard_split (fun hc => ?_) (fun hc => ?_) | refine wguardX_split (fun hc => ?_) (fun hc => ?_)) <;> have hd := hc <;> (try simp (disch := omega) only [wrapI] at hd) <;> have hs := hd <;> (try simp only [decide_eq_true_eq, decide_eq_false_iff_not, Int.not_lt] at hd) <;> (try simp at hs))
        | refine T_ret ?_
        | refine wif_intro ?_ (fun hc => ?_)
        | refine And.intro ?_ ?_
        | intro hc
      | simp (maxSteps := 4000000) only [wops_nil, wops_cons, wstep_none, wrun_mv, wrun_bin, wrun_load, wrun_store, wop, aop, ev, look, put_some, put_none, writes, ores_some, binV, thenK, blockK, value, cut, hget, putCells, AV.parts, isOne, toLits, mkAgg, ofValue_int, List.map_cons, List.map_nil, List.length_cons, List.length_nil, List.set_cons_zero, List.take_succ_cons, List.take_zero, List.take_nil, List.drop_succ_cons, List.drop_zero, List.drop_nil, List.nil_append, List.append_nil, List.replicate_zero, List.getD_cons_zero, List.all_cons, List.all_nil, Option.getD_some, Option.map_some, if_true, if_false, Nat.reduceEqDiff, Nat.reduceAdd, Nat.reduceLT, Nat.zero_add, Nat.le_refl, reduceCtorEq, Bool.and_true, eq_self, and_self, false_and, List.all_cons, *]
      | simp (disch := omega) only [getD_ints, wrapI]
      | omega)
    all_goals first | exact leave_of (.inr rfl) [rgA (wOut M a a).1 (wOut M a a).2, i64 0] (res72 rfl rfl (hs0 _)) ⟨rfl, rfl⟩
end Go.Abs
