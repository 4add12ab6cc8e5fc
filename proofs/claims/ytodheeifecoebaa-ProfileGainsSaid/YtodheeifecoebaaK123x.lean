import Derived.Test.YtodheeifecoebaaK122x
set_option linter.all false
set_option linter.unusedVariables false
set_option linter.unusedSimpArgs false
set_option linter.unusedSectionVars false
namespace Go.Abs
open Go.Proofs
theorem cons2 {a b : AV} {l m : List AV} (h1 : a = b) (h2 : l = m) : a :: l = b :: m := by rw [h1, h2]
set_option maxHeartbeats 8000000 in
theorem k73g {z : Nat} {l m : List Rd} {M M' : List (List Int)} (r : Rd) (hz : 1 ≤ z ∧ z ≤ 40) (hl : l.length < 900000) (hml : m.length = l.length + 1) (hM : Sq z M) (hM' : Sq z M') (hb : ∀ i j, i < z → j < z → -41000000 ≤ mget M i j ∧ mget M i j ≤ 41000000) (hb' : ∀ i j, i < z → j < z → mget M' i j ≤ mget M i j ∧ -41000000 ≤ mget M' i j ∧ mget M' i j ≤ 41000000)
    (h132 : Fn Try.prog 132 [i64 z, rdgs false l] (.tup [.lsl 0 0 z, i64 0]) (tabF M z)) (h134 : Fn Try.prog 134 [i64 z, rdgs false l, rdV r] (.tup [.lsl 0 0 (l.length + 1), i64 0]) [.cells false false 4 (rows4 m)]) (h96 : Fn Try.prog 96 [i64 z, rdgs false m] (.lsl 0 0 z) (tabB M' z)) :
    Fn Try.prog 73 [i64 z, rdgs false l, rdV r] (.tup [i64 (gsum M M' z), i64 0]) [] := by
  refine fn_of e73 ?_
  have htab := tabF_at hM.hl [.cells true false 4 [rrow r]]
  have hT : IsTo 1 z M (Blk.cells true false 4 [rrow r] :: List.map (renB (shiftρ 1)) (tabF M z)) := htab
  have hp0 : (Blk.cells true false 4 [rrow r] :: List.map (renB (shiftρ 1)) (tabF M z))[0]? = some (Blk.cells true false 4 [rrow r]) := rfl
  generalize hgen : (Blk.cells true false 4 [rrow r] :: List.map (renB (shiftρ 1)) (tabF M z)) = G at *
  replace hgen : Blk.cells true false 4 [rrow r] :: List.map (renB (shiftρ 1)) (tabF M z) = G := hgen
  have hx0 : (G ++ [.cells false false 4 (rows4 m)])[G.length]? = some (.cells false false 4 (rows4 m)) := by simp
  have hlm := rows4_len m
  have hre : rfyL (hget (G ++ [.cells false false 4 (rows4 m)])) [i64 z, .lsl G.length 0 (l.length + 1)] = [i64 z, rdgs false m] := by
    have e : hget (G ++ [.cells false false 4 (rows4 m)]) G.length = .cells false false 4 (rows4 m) := by unfold hget; rw [hx0]; rfl
    simp only [rfyL, List.map_cons, List.map_nil]
    refine cons2 ?_ ?_
    · rfl
    · unfold rfy
      rw [e]
      dsimp only
      rw [if_pos (by omega), List.drop_zero]
      refine congrArg (fun x => [AV.sl false 4 x]) ?_
      have := take_rows4' (hget (G ++ [.cells false false 4 (rows4 m)])) m
      rw [hml] at this
      rw [List.map_take]; exact this
  have hpl : plainL [i64 z, rdgs false m] = true := by simp [plainL, plain]
  have hTG := (hT.app [.cells false false 4 (rows4 m)]).freeze (lidsL (hget (G ++ [.cells false false 4 (rows4 m)])) [i64 z, .lsl G.length 0 (l.length + 1)])
  have hFl := freeze_len (lidsL (hget (G ++ [.cells false false 4 (rows4 m)])) [i64 z, .lsl G.length 0 (l.length + 1)]) (G ++ [.cells false false 4 (rows4 m)])
  rw [List.length_append, List.length_singleton] at hFl
  generalize hFe : freeze (G ++ [.cells false false 4 (rows4 m)]) (lidsL (hget (G ++ [.cells false false 4 (rows4 m)])) [i64 z, .lsl G.length 0 (l.length + 1)]) = F at *
  have hT2 := to_at2 hM'.hl F hFl.symm
  have hI0 : IsTo 1 z M (F ++ (tabB M' z).map (renB (shiftρ (G.length + 1)))) ∧ IsTo (G.length + 1) z M' (F ++ (tabB M' z).map (renB (shiftρ (G.length + 1)))) := ⟨hTG.app _, hT2⟩
  generalize hJe : F ++ (tabB M' z).map (renB (shiftρ (G.length + 1))) = J at *
  have hl0 := fun K k hk H hH => k73l (o := G.length + 1) hz hM hM' hb hb' K k hk H hH
  replace hl0 := And.intro hl0 trivial
  replace hI0 := And.intro hI0 trivial
  replace hre := And.intro hre trivial
  replace hFe := And.intro hFe trivial
  replace hJe := And.intro hJe trivial
  clear htab hT hTG hT2 hFl hM hM' hb hb' hx0 hml hlm
  unfold c73
  repeat' (first
    | with_reducible first
      | refine T_seq ?_
      | refine T_reg ?_
      | refine T_skip ?_
      | refine T_exit ?_
      | refine T_block ?_
      | refine T_cond_t rfl ?_
      | refine T_cond_f rfl ?_
      | (show wcall _ false (.lit (.func (.func 132) _ _)) _ _ _ _; refine wcall_fn (h132) rfl (by simp [plainL, plain]) ?_)
      | (show wcall _ false (.lit (.func (.func 134) _ _)) _ _ _ _; refine wcall_fn (h134) rfl (by simp [plainL, plain]) ?_)
      | ((first | refine T_cond rfl (fun hc => ?_) (fun hc => ?_) | refine wguard_split (fun hc => ?_) (fun hc => ?_)) <;> have hd := hc <;> (try simp (disch := omega) only [wrapI] at hd) <;> have hs := hd <;> (try simp only [Bool.not_eq_true', Bool.not_eq_false', Bool.and_eq_true, Bool.and_eq_false_iff, Bool.or_eq_true, Bool.or_eq_false_iff, decide_eq_true_eq, decide_eq_false_iff_not, beq_iff_eq, bne_iff_ne, beq_eq_false_iff_ne, bne_eq_false_iff_eq, Bool.not_true, Bool.not_false, gt_iff_lt, ge_iff_le, Int.not_lt, Int.not_le, ne_eq, Decidable.not_not] at hd) <;> (try simp at hs))
      | refine T_ret ?_
      | refine leave_of (.inr rfl) _ rfl ?_
      | refine leave_of (.inl rfl) _ rfl ?_
      | refine leaveA_of (.inr rfl) _ rfl ?_
      | refine leaveA_of (.inl rfl) _ rfl ?_
      | refine wif_intro ?_ (fun hc => ?_)
      | refine And.intro ?_ ?_
      | intro hc
    | simp (maxSteps := 4000000) only [wops_nil, wops_cons, wstep_none, wrun_call, wrun_mv, wrun_bin, wrun_ext, wrun_load, wrun_box, wop, aop, ev, look, put_some, writes, ores_some, binV, thenK, value, cut, hget, AV.parts, isOne, toLits, mkAgg, ofValue_int, List.map_cons, List.map_nil, List.length_cons, List.length_nil, List.getElem?_cons_zero, List.getElem?_cons_succ, List.set_cons_zero, List.take_succ_cons, List.take_nil, List.drop_zero, List.cons_append, List.nil_append, List.append_nil, List.replicate_zero, List.replicate_succ, List.getD_cons_zero, List.zipIdx_cons, List.zipIdx_nil, List.all_cons, List.all_nil, List.length_append, Option.getD_some, Option.map_some, if_true, if_false, Nat.reduceEqDiff, Nat.reduceAdd, Nat.add_zero, Nat.zero_add, Nat.zero_ne_one, reduceCtorEq, Bool.and_true, eq_self, true_and, and_self, freeze, lidsL, lids, List.flatMap_cons, List.flatMap_nil, List.all_cons, ren, renL, renB, shiftρ, renR_rows4, *]
    | simp (disch := omega) only [getD_ints, wrapI]
    | (with_reducible show wcall _ false (.lit (.func (.func 132) _ _)) _ _ _ _; refine wcall_fn (h132) ?_ ?_ ?_; (next => simp [rfyL, rfy, hget, ints, take_rfy, renR_rows4]); (next => simp [plainL, plain, plainR, renR_rows4]))
    | (with_reducible show wcall _ false (.lit (.func (.func 134) _ _)) _ _ _ _; refine wcall_fn (h134) ?_ ?_ ?_; (next => simp [rfyL, rfy, hget, ints, take_rfy, renR_rows4]); (next => simp [plainL, plain, plainR, renR_rows4]))
    | omega)
  refine wcall_fn h96 hre.1 hpl ?_
  rw [hFe.1]
  simp only [List.length_append, List.length_singleton, hJe.1]
  clear hJe hFe hre
  repeat' (first
    | with_reducible first
      | refine T_seq ?_
      | refine T_reg ?_
      | refine T_skip ?_
      | refine T_exit ?_
      | refine T_block ?_
      | refine T_cond_t rfl ?_
      | refine T_cond_f rfl ?_
      | ((first | refine T_cond rfl (fun hc => ?_) (fun hc => ?_) | refine wguard_split (fun hc => ?_) (fun hc => ?_)) <;> have hd := hc <;> (try simp (disch := omega) only [wrapI] at hd) <;> have hs := hd <;> (try simp only [Bool.not_eq_true', Bool.not_eq_false', Bool.and_eq_true, Bool.and_eq_false_iff, Bool.or_eq_true, Bool.or_eq_false_iff, decide_eq_true_eq, decide_eq_false_iff_not, beq_iff_eq, bne_iff_ne, beq_eq_false_iff_ne, bne_eq_false_iff_eq, Bool.not_true, Bool.not_false, gt_iff_lt, ge_iff_le, Int.not_lt, Int.not_le, ne_eq, Decidable.not_not] at hd) <;> (try simp at hs))
      | refine T_ret ?_
      | refine leave_of (.inr rfl) _ rfl ?_
      | refine leave_of (.inl rfl) _ rfl ?_
      | refine leaveA_of (.inr rfl) _ rfl ?_
      | refine leaveA_of (.inl rfl) _ rfl ?_
      | refine wif_intro ?_ (fun hc => ?_)
      | refine And.intro ?_ ?_
      | intro hc
    | simp (maxSteps := 4000000) only [wops_nil, wops_cons, wstep_none, wrun_mv, wop, aop, ev, look, put_some, writes, ores_some, thenK, List.append_nil, List.replicate_zero, if_true, if_false, Nat.reduceEqDiff, Nat.zero_add, reduceCtorEq, eq_self, ren, shiftρ, *]
    | simp (disch := omega) only [getD_ints, wrapI]
    | omega)
  refine T_forH [8, 11, 12, 36, 37] (fun k => SL73 z (G.length + 1) (gsum M M' k) k) z (fun _ H => IsTo 1 z M H ∧ IsTo (G.length + 1) z M' H) 0 ?_ hI0.1 (Nat.zero_le _) ?_
  · simp [St.only, get_mk, look, gsum]
  intro k H hk hH
  by_cases hkz : k < z
  · exact hl0.1 _ k hkz H hH
  · have hke : k = z := by omega
    subst hke
    clear hH hl0 hI0
    unfold c73l0
    repeat' (first
      | with_reducible first
        | refine T_seq ?_
        | refine T_reg ?_
        | refine T_skip ?_
        | refine T_exit ?_
        | refine T_block ?_
        | refine T_cond_t rfl ?_
        | refine T_cond_f rfl ?_
        | ((first | refine T_cond rfl (fun hc => ?_) (fun hc => ?_) | refine wguard_split (fun hc => ?_) (fun hc => ?_)) <;> have hd := hc <;> (try simp (disch := omega) only [wrapI] at hd) <;> have hs := hd <;> (try simp only [decide_eq_true_eq, decide_eq_false_iff_not, Int.not_lt] at hd) <;> (try simp at hs))
        | refine T_ret ?_
        | refine leave_of (.inr rfl) _ rfl ?_
        | refine leave_of (.inl rfl) _ rfl ?_
        | refine leaveA_of (.inr rfl) _ rfl ?_
        | refine leaveA_of (.inl rfl) _ rfl ?_
        | refine wif_intro ?_ (fun hc => ?_)
        | refine And.intro ?_ ?_
        | intro hc
      | simp (maxSteps := 4000000) only [wops_nil, wops_cons, wstep_none, wrun_mv, wrun_bin, get_mk, wop, aop, ev, look, put_some, writes, ores_some, binV, thenK, blockK, tupOf, List.append_nil, List.replicate_zero, Option.map_some, if_true, if_false, Nat.reduceEqDiff, reduceCtorEq, eq_self, false_and, ren, renL, *]
      | simp (disch := omega) only [getD_ints, wrapI]
      | omega)
end Go.Abs
