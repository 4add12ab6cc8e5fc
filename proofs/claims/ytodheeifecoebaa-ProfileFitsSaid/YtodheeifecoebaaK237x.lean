import Derived.Test.YtodheeifecoebaaK236
set_option linter.all false
set_option linter.unusedVariables false
set_option linter.unusedSimpArgs false
set_option linter.unusedSectionVars false
namespace Go.Abs
open Go.Proofs
/-! law 17 -/
def c17r2 : ACode :=
 (.seq (.seq (.reg 0 [⟨(some 61), (.mv (.tmp 0)), none, 0⟩, ⟨(some 62), (.mv (.tmp 1)), none, 0⟩, ⟨(some 63), (.call false (.val (.lit (.func (.func 80) #[] #[]))) [(.tmp 61), (.tmp 62)]), none, 0⟩, ⟨(some 11), (.mv (.tmp 63)), none, 0⟩])
 (.seq (.reg 0 [⟨(some 64), (.mv (.tmp 11)), none, 0⟩, ⟨(some 65), (.bin .neq (.tmp 64) (.val (.lit (.int .i64 0)))), none, 0⟩])
 (.cond (.tmp 65) (.seq (.reg 0 [⟨(some 66), (.mv (.tmp 9)), none, 0⟩, ⟨(some 67), (.mv (.tmp 11)), none, 0⟩, ⟨(some 68), (.bin .eql (.tmp 66) (.tmp 67)), none, 0⟩, ⟨(some 69), (.mv (.tmp 68)), none, 0⟩, ⟨(some 70), (.mv (.tmp 10)), (some (69, true)), 0⟩, ⟨(some 71), (.mv (.tmp 11)), (some (69, true)), 0⟩, ⟨(some 72), (.bin .eql (.tmp 70) (.tmp 71)), (some (69, true)), 0⟩, ⟨(some 73), (.pick (.tmp 69) (.tmp 72) (.val (.lit (.bool false)))), none, 0⟩, ⟨(some 74), (.mv (.tmp 73)), none, 0⟩, ⟨(some 75), (.faddr 0 (.tmp 8)), (some (74, true)), 0⟩, ⟨(some 76), (.load 1 false (.tmp 75)), (some (74, true)), 0⟩, ⟨(some 77), (.len (.tmp 76)), (some (74, true)), 0⟩, ⟨(some 78), (.bin .eql (.tmp 77) (.val (.lit (.int .i64 0)))), (some (74, true)), 0⟩, ⟨(some 79), (.pick (.tmp 74) (.tmp 78) (.val (.lit (.bool false)))), none, 0⟩, ⟨(some 80), (.mv (.tmp 79)), none, 0⟩, ⟨(some 81), (.faddr 1 (.tmp 8)), (some (80, true)), 0⟩, ⟨(some 82), (.load 1 false (.tmp 81)), (some (80, true)), 0⟩, ⟨(some 83), (.bin .eql (.tmp 82) (.val (.lit (.int .i64 0)))), (some (80, true)), 0⟩, ⟨(some 84), (.pick (.tmp 80) (.tmp 83) (.val (.lit (.bool false)))), none, 0⟩, ⟨(some 6), (.mv (.tmp 84)), none, 0⟩])
 .ret) .skip)))
 (.seq (.seq (.reg 0 [⟨(some 85), (.mv (.tmp 10)), none, 0⟩, ⟨(some 86), (.mv (.tmp 0)), none, 0⟩, ⟨(some 87), (.mv (.tmp 1)), none, 0⟩, ⟨(some 88), (.load 2 true (.tmp 5)), none, 0⟩, ⟨(some 89), (.call false (.val (.lit (.func (.func 81) #[] #[]))) [(.tmp 86), (.tmp 87), (.tmp 88)]), none, 0⟩, ⟨(some 90), (.bin .neq (.tmp 85) (.tmp 89)), none, 0⟩])
 (.cond (.tmp 90) (.seq (.reg 0 [⟨(some 6), (.mv (.val (.lit (.bool false)))), none, 0⟩])
 .ret) .skip))
 (.seq (.reg 1 [⟨(some 92), (.mv (.tmp 0)), none, 0⟩, ⟨(some 93), (.mv (.tmp 1)), none, 0⟩, ⟨(some 94), (.call false (.val (.lit (.func (.func 82) #[] #[]))) [(.tmp 92), (.tmp 93)]), none, 0⟩, ⟨(some 91), (.mv (.tmp 94)), none, 0⟩, ⟨(some 95), (.ext (.tmp 91) 0), none, 0⟩, ⟨(some 96), (.ext (.tmp 91) 1), none, 0⟩, ⟨(some 12), (.alloc [(.sl true 0 []), (.lit (.int .i64 0))]), none, 0⟩, ⟨none, (.store 2 (.tmp 12) (.tmp 95)), none, 1⟩, ⟨(some 13), (.mv (.tmp 96)), none, 1⟩])
 (.seq (.seq (.reg 0 [⟨(some 97), (.mv (.tmp 13)), none, 0⟩, ⟨(some 98), (.not (.tmp 97)), none, 0⟩])
 (.cond (.tmp 98) (.seq (.reg 0 [⟨(some 99), (.mv (.tmp 9)), none, 0⟩, ⟨(some 100), (.bin .eql (.tmp 99) (.val (.lit (.int .i64 11)))), none, 0⟩, ⟨(some 101), (.mv (.tmp 100)), none, 0⟩, ⟨(some 102), (.faddr 0 (.tmp 8)), (some (101, true)), 0⟩, ⟨(some 103), (.load 1 false (.tmp 102)), (some (101, true)), 0⟩, ⟨(some 104), (.len (.tmp 103)), (some (101, true)), 0⟩, ⟨(some 105), (.bin .eql (.tmp 104) (.val (.lit (.int .i64 0)))), (some (101, true)), 0⟩, ⟨(some 106), (.pick (.tmp 101) (.tmp 105) (.val (.lit (.bool false)))), none, 0⟩, ⟨(some 107), (.mv (.tmp 106)), none, 0⟩, ⟨(some 108), (.faddr 1 (.tmp 8)), (some (107, true)), 0⟩, ⟨(some 109), (.load 1 false (.tmp 108)), (some (107, true)), 0⟩, ⟨(some 110), (.bin .eql (.tmp 109) (.val (.lit (.int .i64 0)))), (some (107, true)), 0⟩, ⟨(some 111), (.pick (.tmp 107) (.tmp 110) (.val (.lit (.bool false)))), none, 0⟩, ⟨(some 6), (.mv (.tmp 111)), none, 0⟩])
 .ret) .skip))
 (.seq (.reg 0 [⟨(some 112), (.mv (.tmp 9)), none, 0⟩, ⟨(some 113), (.bin .eql (.tmp 112) (.val (.lit (.int .i64 0)))), none, 0⟩, ⟨(some 114), (.mv (.tmp 113)), none, 0⟩, ⟨(some 115), (.faddr 1 (.tmp 8)), (some (114, true)), 0⟩, ⟨(some 116), (.load 1 false (.tmp 115)), (some (114, true)), 0⟩, ⟨(some 117), (.faddr 1 (.tmp 12)), (some (114, true)), 0⟩, ⟨(some 118), (.load 1 false (.tmp 117)), (some (114, true)), 0⟩, ⟨(some 119), (.bin .eql (.tmp 116) (.tmp 118)), (some (114, true)), 0⟩, ⟨(some 120), (.pick (.tmp 114) (.tmp 119) (.val (.lit (.bool false)))), none, 0⟩, ⟨(some 121), (.mv (.tmp 120)), none, 0⟩, ⟨(some 122), (.faddr 0 (.tmp 8)), (some (121, true)), 0⟩, ⟨(some 123), (.load 1 false (.tmp 122)), (some (121, true)), 0⟩, ⟨(some 124), (.faddr 0 (.tmp 12)), (some (121, true)), 0⟩, ⟨(some 125), (.load 1 false (.tmp 124)), (some (121, true)), 0⟩, ⟨(some 126), (.call false (.val (.lit (.func (.func 48) #[] #[]))) [(.tmp 123), (.tmp 125)]), (some (121, true)), 0⟩, ⟨(some 127), (.pick (.tmp 121) (.tmp 126) (.val (.lit (.bool false)))), none, 0⟩, ⟨(some 128), (.mv (.tmp 127)), none, 0⟩, ⟨(some 129), (.mv (.tmp 0)), (some (128, true)), 0⟩, ⟨(some 130), (.mv (.tmp 1)), (some (128, true)), 0⟩, ⟨(some 131), (.load 2 true (.tmp 8)), (some (128, true)), 0⟩, ⟨(some 132), (.call false (.val (.lit (.func (.func 79) #[] #[]))) [(.tmp 129), (.tmp 130), (.tmp 131)]), (some (128, true)), 0⟩, ⟨(some 133), (.bin .eql (.tmp 132) (.val (.lit (.int .i64 0)))), (some (128, true)), 0⟩, ⟨(some 134), (.pick (.tmp 128) (.tmp 133) (.val (.lit (.bool false)))), none, 0⟩, ⟨(some 6), (.mv (.tmp 134)), none, 0⟩])
 .ret)))))
def c17r1 : ACode :=
 (.seq (.reg 1 [⟨(some 43), (.mv (.tmp 0)), none, 0⟩, ⟨(some 44), (.call false (.val (.lit (.func (.func 78) #[] #[]))) [(.tmp 43)]), none, 0⟩, ⟨(some 45), (.mv (.tmp 1)), none, 0⟩, ⟨(some 46), (.call false (.val (.lit (.func (.func 28) #[] #[]))) [(.tmp 45)]), none, 0⟩, ⟨(some 47), (.call false (.val (.lit (.func (.func 77) #[] #[]))) [(.tmp 44), (.tmp 46)]), none, 0⟩, ⟨(some 42), (.mv (.tmp 47)), none, 0⟩, ⟨(some 48), (.ext (.tmp 42) 0), none, 0⟩, ⟨(some 49), (.ext (.tmp 42) 1), none, 0⟩, ⟨(some 8), (.alloc [(.sl true 0 []), (.lit (.int .i64 0))]), none, 0⟩, ⟨none, (.store 2 (.tmp 8) (.tmp 48)), none, 1⟩, ⟨(some 9), (.mv (.tmp 49)), none, 1⟩])
 (.seq (.dreg 0 [(0, ⟨(some 50), (.mv (.tmp 0)), none, 0⟩), (1, ⟨(some 51), (.call false (.val (.lit (.func (.func 78) #[] #[]))) [(.tmp 50)]), none, 0⟩), (2, ⟨(some 52), (.mv (.tmp 1)), none, 0⟩), (3, ⟨(some 53), (.call false (.val (.lit (.func (.func 28) #[] #[]))) [(.tmp 52)]), none, 0⟩), (4, ⟨(some 54), (.faddr 0 (.tmp 5)), none, 0⟩), (5, ⟨(some 55), (.load 1 false (.tmp 54)), none, 0⟩), (6, ⟨(some 56), (.call false (.val (.lit (.func (.func 28) #[] #[]))) [(.tmp 55)]), none, 0⟩), (7, ⟨(some 57), (.faddr 1 (.tmp 5)), none, 0⟩), (8, ⟨(some 58), (.load 1 false (.tmp 57)), none, 0⟩), (9, ⟨(some 59), (.build [(.sl true 0 []), (.lit (.int .i64 0))] [(0, (1, (.tmp 56))), (1, (1, (.tmp 58)))]), none, 0⟩), (10, ⟨(some 60), (.call false (.val (.lit (.func (.func 79) #[] #[]))) [(.tmp 51), (.tmp 53), (.tmp 59)]), none, 0⟩), (11, ⟨(some 10), (.mv (.tmp 60)), none, 0⟩)] [[], [0], [], [2, 1, 0], [], [4], [5, 3, 4, 2, 1, 0], [], [7], [6, 8, 5, 3, 4, 2, 1, 0, 7], [1, 3, 9, 6, 0, 2, 8, 5, 4, 7], [10, 0, 1, 2, 3, 4, 5, 6, 7, 8, 9]])
 c17r2))
theorem c17_cut : c17 = (.seq (.reg 1 [⟨(some 5), (.box 2 (.tmp 2)), none, 0⟩, ⟨(some 6), (.mv (.val (.lit (.bool false)))), none, 1⟩])
 (.seq (.seq (.reg 0 [⟨(some 14), (.call false (.val (.lit (.func (.func 19) #[] #[]))) []), none, 0⟩, ⟨(some 15), (.not (.tmp 14)), none, 0⟩])
 (.cond (.tmp 15) (.seq (.reg 0 [⟨(some 6), (.mv (.val (.lit (.bool false)))), none, 0⟩])
 .ret) .skip))
 (.seq (.seq (.reg 0 [⟨(some 16), (.mv (.tmp 0)), none, 0⟩, ⟨(some 17), (.len (.tmp 16)), none, 0⟩, ⟨(some 18), (.bin .gtr (.tmp 17) (.val (.lit (.int .i64 3)))), none, 0⟩, ⟨(some 19), (.mv (.tmp 18)), none, 0⟩, ⟨(some 20), (.mv (.tmp 1)), (some (19, false)), 0⟩, ⟨(some 21), (.len (.tmp 20)), (some (19, false)), 0⟩, ⟨(some 22), (.bin .gtr (.tmp 21) (.val (.lit (.int .i64 25)))), (some (19, false)), 0⟩, ⟨(some 23), (.pick (.tmp 19) (.val (.lit (.bool true))) (.tmp 22)), none, 0⟩, ⟨(some 24), (.mv (.tmp 23)), none, 0⟩, ⟨(some 25), (.faddr 0 (.tmp 5)), (some (24, false)), 0⟩, ⟨(some 26), (.load 1 false (.tmp 25)), (some (24, false)), 0⟩, ⟨(some 27), (.len (.tmp 26)), (some (24, false)), 0⟩, ⟨(some 28), (.bin .gtr (.tmp 27) (.val (.lit (.int .i64 4)))), (some (24, false)), 0⟩, ⟨(some 29), (.pick (.tmp 24) (.val (.lit (.bool true))) (.tmp 28)), none, 0⟩])
 (.cond (.tmp 29) (.seq (.reg 0 [⟨(some 6), (.mv (.val (.lit (.bool true)))), none, 0⟩])
 .ret) .skip))
 (.seq (.seq (.reg 0 [⟨(some 7), (.mv (.val (.lit (.int .i64 0)))), none, 0⟩])
 (.block 0 (.loop c17l0)))
 c17r1)))) := rfl
set_option maxHeartbeats 8000000 in
theorem k48i (n1 n2 : Bool) (xs : List Int) (hl : xs.length < 1000000) : Fn Try.prog 48 [ints n1 xs, ints n2 xs] (bl true) [] := by
  refine fn_of e48 ?_
  unfold c48
  repeat' (first
    | ((with_reducible refine T_calm ?_ ?_); rfl)
    | with_reducible first
      | refine T_seq ?_
      | refine T_reg ?_
      | refine T_draw ?_
      | refine T_skip ?_
      | refine T_exit ?_
      | refine T_block ?_
      | refine T_cond_t rfl ?_
      | refine T_cond_f rfl ?_
      | refine wdW_cons rfl ?_
      | ((first | refine T_cond rfl (fun hc => ?_) (fun hc => ?_) | refine wguard_split (fun hc => ?_) (fun hc => ?_) | refine wguardX_split (fun hc => ?_) (fun hc => ?_)) <;> have hd := hc <;> (try simp (disch := omega) only [wrapI] at hd) <;> have hs := hd <;> (try simp only [bne_iff_ne, bne_eq_false_iff_eq, ne_eq] at hd) <;> (try simp at hs))
      | refine T_ret ?_
      | refine leave_of (.inr rfl) _ rfl ?_
      | refine leave_of (.inl rfl) _ rfl ?_
      | refine leaveA_of (.inr rfl) _ rfl ?_
      | refine leaveA_of (.inl rfl) _ rfl ?_
      | refine wif_intro ?_ (fun hc => ?_)
      | refine And.intro ?_ ?_
      | intro hc
    | simp (maxSteps := 4000000) only [wops_nil, wops_cons, wstep_none, wrun_mv, wrun_bin, wrun_len, wop, aop, ev, look, put_some, writes, ores_some, ores_map, ores_bind, binV, thenK, intV, lenOf, hget, List.map_cons, List.map_nil, List.length_nil, List.append_nil, List.replicate_zero, List.zipIdx_cons, List.zipIdx_nil, List.length_map, Option.pure_def, Option.bind_eq_bind, Option.map_some, if_true, if_false, Nat.reduceEqDiff, Nat.reduceAdd, Nat.zero_add, Nat.zero_ne_one, reduceCtorEq, eq_self, *]
    | simp (disch := omega) only [getD_ints, wrapI]
    | omega)
  refine T_for [0, 1, 5] (fun k => ⟨[(0, ints n1 xs), (1, ints n2 xs), (5, i64 k)], []⟩) xs.length (fun _ => True) 0 rfl trivial (Nat.zero_le _) ?_
  intro k hk _
  unfold c48l0
  by_cases hkz : k < xs.length
  · have g1 : (xs.map fun x => [i64 x]).getD k [] = [i64 (xs.getD k 0)] := getD_ints hkz
    have e : (xs.getD k 0 != xs.getD k 0) = false := by simp
    repeat' (first
      | ((with_reducible refine T_calm ?_ ?_); rfl)
      | with_reducible first
        | refine T_seq ?_
        | refine T_reg ?_
        | refine T_draw ?_
        | refine T_skip ?_
        | refine T_exit ?_
        | refine T_block ?_
        | refine T_cond_t rfl ?_
        | refine T_cond_f rfl ?_
        | refine wdW_cons rfl ?_
        | ((first | refine T_cond rfl (fun hc => ?_) (fun hc => ?_) | refine wguard_split (fun hc => ?_) (fun hc => ?_) | refine wguardX_split (fun hc => ?_) (fun hc => ?_)) <;> have hd := hc <;> (try simp (disch := omega) only [wrapI] at hd) <;> have hs := hd <;> (try simp only [decide_eq_true_eq, decide_eq_false_iff_not, Int.not_lt] at hd) <;> (try simp at hs))
        | refine T_ret ?_
        | refine leave_of (.inr rfl) _ rfl ?_
        | refine leave_of (.inl rfl) _ rfl ?_
        | refine leaveA_of (.inr rfl) _ rfl ?_
        | refine leaveA_of (.inl rfl) _ rfl ?_
        | refine wif_intro ?_ (fun hc => ?_)
        | refine And.intro ?_ ?_
        | intro hc
      | simp (maxSteps := 4000000) only [wops_nil, wops_cons, wstep_none, wrun_mv, wrun_bin, wrun_load, wrun_iaddrS, wrun_len, get_mk, wop, aop, ev, look, put_some, writes, ores_some, ores_ite_none, ores_map, ores_bind, binV, thenK, blockK, intV, lenOf, value, cut, hget, mkAgg, tupOf, List.map_cons, List.map_nil, List.length_cons, List.length_nil, List.take_succ_cons, List.take_nil, List.drop_zero, List.append_nil, List.replicate_zero, List.length_map, Option.pure_def, Option.bind_eq_bind, Option.map_some, if_true, if_false, Nat.reduceEqDiff, Nat.zero_add, Nat.zero_ne_one, reduceCtorEq, Bool.false_eq_true, eq_self, true_and, and_true, and_self, decide_true, ren, Int.toNat_natCast, *]
      | simp (disch := omega) only [wrapI]
      | omega)
    all_goals exact rfl
  · skip
    repeat' (first
      | ((with_reducible refine T_calm ?_ ?_); rfl)
      | with_reducible first
        | refine T_seq ?_
        | refine T_reg ?_
        | refine T_draw ?_
        | refine T_skip ?_
        | refine T_exit ?_
        | refine T_block ?_
        | refine T_cond_t rfl ?_
        | refine T_cond_f rfl ?_
        | refine wdW_cons rfl ?_
        | ((first | refine T_cond rfl (fun hc => ?_) (fun hc => ?_) | refine wguard_split (fun hc => ?_) (fun hc => ?_) | refine wguardX_split (fun hc => ?_) (fun hc => ?_)) <;> have hd := hc <;> (try simp (disch := omega) only [wrapI] at hd) <;> have hs := hd <;> (try simp only [decide_eq_true_eq, decide_eq_false_iff_not, Int.not_lt] at hd) <;> (try simp at hs))
        | refine T_ret ?_
        | refine leave_of (.inr rfl) _ rfl ?_
        | refine leave_of (.inl rfl) _ rfl ?_
        | refine leaveA_of (.inr rfl) _ rfl ?_
        | refine leaveA_of (.inl rfl) _ rfl ?_
        | refine wif_intro ?_ (fun hc => ?_)
        | refine And.intro ?_ ?_
        | intro hc
      | simp (maxSteps := 4000000) only [wops_nil, wops_cons, wstep_none, wrun_mv, wrun_bin, wrun_load, wrun_iaddrS, wrun_len, get_mk, wop, aop, ev, look, put_some, writes, ores_some, ores_none, ores_ite_none, ores_map, ores_bind, wif_true, binV, thenK, blockK, intV, lenOf, value, cut, hget, mkAgg, tupOf, List.map_cons, List.map_nil, List.length_cons, List.length_nil, List.take_succ_cons, List.take_nil, List.drop_zero, List.append_nil, List.replicate_zero, List.length_map, Option.pure_def, Option.bind_eq_bind, Option.map_some, if_true, if_false, Nat.reduceEqDiff, Nat.zero_add, Nat.zero_ne_one, reduceCtorEq, Bool.false_eq_true, eq_self, and_true, and_self, false_and, decide_true, ren, *]
      | simp (disch := omega) only [getD_ints]
      | omega)
section
variable {nil hn fn : Bool} {rows : List (Bool × List Int)} {h nums : List Int} {den : Int}
abbrev bX (o : Bool) (fn : Bool) (nums : List Int) (den : Int) : Blk := .cells o false 2 [[ints fn nums, i64 den]]
set_option maxHeartbeats 8000000 in
theorem k17b (hf : fewF rows h nums = true) (hT : T none Try.prog muts 135 0 c17r1 ⟨[(0, .sl nil 1 (rows.map fun r => [ints r.1 r.2])), (1, ints hn h), (5, .loc 0 0 0)], [bX true fn nums den]⟩ (leave 0 [ARes.tmp 6] fun r' H' => r' = bl true ∧ H' = [])) :
    Fn Try.prog 17 [.sl nil 1 (rows.map fun r => [ints r.1 r.2]), ints hn h, .agg [ints fn nums, i64 den]] (bl true) [] := by
  refine fn_of e17 ?_
  have h19 := k19
  have hl2 : (rows.map fun r => [ints r.1 r.2]).length = rows.length := by simp
  unfold fewF at hf
  simp only [Bool.and_eq_true, decide_eq_true_eq, Bool.not_eq_true'] at hf
  obtain ⟨⟨⟨f1, f2⟩, f3⟩, f4⟩ := hf
  replace f4 := And.intro f4 trivial
  replace hT := And.intro hT trivial
  rw [c17_cut]
  repeat' (first
    | ((with_reducible refine T_calm ?_ ?_); rfl)
    | with_reducible first
      | refine T_seq ?_
      | refine T_reg ?_
      | refine T_draw ?_
      | refine T_skip ?_
      | refine T_exit ?_
      | refine T_block ?_
      | refine T_cond_t rfl ?_
      | refine T_cond_f rfl ?_
      | refine wdW_cons rfl ?_
      | (show wcall _ false (.lit (.func (.func 19) _ _)) _ _ _ _; refine wcall_fn (h19) rfl (by simp [plainL]) ?_)
      | (show wcallX _ false (.lit (.func (.func 19) _ _)) _ _ _ _; refine wcallX_fn (h19) rfl (by simp [plainL, plain, plainR, renR_rws]) ?_)
      | ((first | refine T_cond rfl (fun hc => ?_) (fun hc => ?_) | refine wguard_split (fun hc => ?_) (fun hc => ?_) | refine wguardX_split (fun hc => ?_) (fun hc => ?_)) <;> have hd := hc <;> (try simp (disch := omega) only [wrapI] at hd) <;> have hs := hd <;> (try simp only [decide_eq_true_eq, decide_eq_false_iff_not, Bool.not_false, gt_iff_lt, Int.not_lt] at hd) <;> (try simp at hs))
      | refine T_ret ?_
      | refine leave_of (.inr rfl) _ rfl ?_
      | refine leave_of (.inl rfl) _ rfl ?_
      | refine leaveA_of (.inr rfl) _ rfl ?_
      | refine leaveA_of (.inl rfl) _ rfl ?_
      | refine wif_intro ?_ (fun hc => ?_)
      | refine And.intro ?_ ?_
      | intro hc
    | simp (maxSteps := 4000000) only [wops_nil, wops_cons, wstep_none, wstep_some, wguard_ff, wguard_tf, wrun_call, wrun_mv, wrun_pick, wrun_bin, wrun_not, wrun_load, wrun_faddr, wrun_len, wrun_box, get_mk, wop, aop, ev, look, put_some, writes, ores_some, ores_map, ores_bind, binV, thenK, boolV, intV, lenOf, value, cut, hget, AV.parts, isOne, mkAgg, tupOf, List.map_cons, List.map_nil, List.length_cons, List.length_nil, List.getElem?_cons_zero, List.set_cons_zero, List.take_succ_cons, List.take_zero, List.drop_zero, List.nil_append, List.append_nil, List.replicate_zero, List.replicate_succ, List.getD_cons_zero, List.zipIdx_cons, List.zipIdx_nil, List.all_cons, List.all_nil, List.length_map, Option.pure_def, Option.bind_eq_bind, Option.getD_some, Option.map_some, if_true, if_false, Nat.reduceEqDiff, Nat.reduceAdd, Nat.add_zero, Nat.zero_add, Nat.zero_ne_one, reduceCtorEq, Bool.not_true, Bool.and_true, Bool.false_eq_true, eq_self, true_and, and_self, decide_true, freeze, lidsL, List.flatMap_nil, List.all_cons, ren, *]
    | simp (disch := omega) only [getD_ints, wrapI]
    | (with_reducible show wcall _ false (.lit (.func (.func 19) _ _)) _ _ _ _; refine wcall_fn (h19) ?_ ?_ ?_; (next => simp [rfyL, rfy, hget, ints, take_rfy, renR_rws]); (next => simp [plainL, plain, plainR, renR_rws]))
    | (with_reducible show wcallX _ false (.lit (.func (.func 19) _ _)) _ _ _ _; refine wcallX_fn (h19) ?_ ?_ ?_; (next => simp [rfyL, rfy, hget, ints, take_rfy, renR_rws]); (next => simp [plainL, plain, plainR, renR_rws]))
    | omega)
  refine T_for [0, 1, 5, 7] (fun t => ⟨[(0, .sl nil 1 (rows.map fun r => [ints r.1 r.2])), (1, ints hn h), (5, .loc 0 0 0), (7, i64 t)], [bX true fn nums den]⟩) rows.length (fun _ => True) 0 ?_ trivial (Nat.zero_le _) ?_
  · simp [St.only, get_mk, look]
  intro t ht _
  by_cases htn : t < rows.length
  · have h1 := rws_get htn
    have h2 : ¬ 25 < (rowN rows t).2.length := by have := any_rowN f4.1 htn; simpa using this
    clear f4
    unfold c17l0
    repeat' (first
      | ((with_reducible refine T_calm ?_ ?_); rfl)
      | with_reducible first
        | refine T_seq ?_
        | refine T_reg ?_
        | refine T_draw ?_
        | refine T_skip ?_
        | refine T_exit ?_
        | refine T_block ?_
        | refine T_cond_t rfl ?_
        | refine T_cond_f rfl ?_
        | refine wdW_cons rfl ?_
        | ((first | refine T_cond rfl (fun hc => ?_) (fun hc => ?_) | refine wguard_split (fun hc => ?_) (fun hc => ?_) | refine wguardX_split (fun hc => ?_) (fun hc => ?_)) <;> have hd := hc <;> (try simp (disch := omega) only [wrapI] at hd) <;> have hs := hd <;> (try simp only [decide_eq_true_eq, decide_eq_false_iff_not, gt_iff_lt, Int.not_lt] at hd) <;> (try simp at hs))
        | refine T_ret ?_
        | refine leave_of (.inr rfl) _ rfl ?_
        | refine leave_of (.inl rfl) _ rfl ?_
        | refine leaveA_of (.inr rfl) _ rfl ?_
        | refine leaveA_of (.inl rfl) _ rfl ?_
        | refine wif_intro ?_ (fun hc => ?_)
        | refine And.intro ?_ ?_
        | intro hc
      | simp (maxSteps := 4000000) only [wops_nil, wops_cons, wstep_none, wrun_mv, wrun_bin, wrun_load, wrun_iaddrS, wrun_len, get_mk, wop, aop, ev, look, put_some, writes, ores_some, ores_ite_none, ores_map, ores_bind, binV, thenK, blockK, intV, lenOf, value, cut, hget, mkAgg, tupOf, List.length_cons, List.length_nil, List.take_succ_cons, List.take_nil, List.drop_zero, List.append_nil, List.replicate_zero, List.length_map, Option.pure_def, Option.bind_eq_bind, Option.map_some, if_true, if_false, Nat.reduceEqDiff, Nat.zero_add, reduceCtorEq, Bool.false_eq_true, eq_self, true_and, and_true, and_self, decide_true, ren, Int.toNat_natCast, *]
      | simp (disch := omega) only [wrapI]
      | omega)
    all_goals first | (simp [St.only, get_mk, look]; done)
  · clear f4
    unfold c17l0
    repeat' (first
      | ((with_reducible refine T_calm ?_ ?_); rfl)
      | with_reducible first
        | refine T_seq ?_
        | refine T_reg ?_
        | refine T_draw ?_
        | refine T_skip ?_
        | refine T_exit ?_
        | refine T_block ?_
        | refine T_cond_t rfl ?_
        | refine T_cond_f rfl ?_
        | refine wdW_cons rfl ?_
        | ((first | refine T_cond rfl (fun hc => ?_) (fun hc => ?_) | refine wguard_split (fun hc => ?_) (fun hc => ?_) | refine wguardX_split (fun hc => ?_) (fun hc => ?_)) <;> have hd := hc <;> (try simp (disch := omega) only [wrapI] at hd) <;> have hs := hd <;> (try simp only [decide_eq_true_eq, decide_eq_false_iff_not, Int.not_lt] at hd) <;> (try simp at hs))
        | refine T_ret ?_
        | refine leave_of (.inr rfl) _ rfl ?_
        | refine leave_of (.inl rfl) _ rfl ?_
        | refine leaveA_of (.inr rfl) _ rfl ?_
        | refine leaveA_of (.inl rfl) _ rfl ?_
        | refine wif_intro ?_ (fun hc => ?_)
        | refine And.intro ?_ ?_
        | intro hc
      | simp (maxSteps := 4000000) only [wops_nil, wops_cons, wstep_none, wrun_mv, wrun_bin, wrun_load, wrun_iaddrS, wrun_len, wop, aop, ev, look, put_some, writes, ores_some, ores_none, ores_ite_none, ores_map, ores_bind, binV, thenK, blockK, intV, lenOf, value, cut, hget, mkAgg, List.length_cons, List.length_nil, List.drop_zero, List.append_nil, List.replicate_zero, Option.pure_def, Option.bind_eq_bind, Option.map_some, if_true, if_false, Nat.reduceEqDiff, Nat.zero_add, reduceCtorEq, Bool.false_eq_true, eq_self, and_true, and_self, false_and, decide_true, Int.toNat_natCast, *]
      | simp (disch := omega) only [getD_ints]
      | omega)
    refine T_onlyF [0, 1, 5] ?_ hT.1
    simp [St.only, get_mk, look]
set_option maxHeartbeats 8000000 in
theorem k17f (hf : fewF rows h nums = false) : Fn Try.prog 17 [.sl nil 1 (rows.map fun r => [ints r.1 r.2]), ints hn h, .agg [ints fn nums, i64 den]] (bl true) [] := by
  refine fn_of e17 ?_
  have h19 := k19
  have hl2 : (rows.map fun r => [ints r.1 r.2]).length = rows.length := by simp
  by_cases hs3 : rows.length ≤ 3 ∧ h.length ≤ 25 ∧ nums.length ≤ 4
  · have f4 : rows.any (fun r => decide (25 < r.2.length)) = true := by
      unfold fewF at hf
      simp only [hs3.1, hs3.2.1, hs3.2.2, decide_true, Bool.true_and, Bool.not_eq_false'] at hf
      exact hf
    rw [c17_cut]
    generalize c17r1 = q
    repeat' (first
      | ((with_reducible refine T_calm ?_ ?_); rfl)
      | with_reducible first
        | refine T_seq ?_
        | refine T_reg ?_
        | refine T_draw ?_
        | refine T_skip ?_
        | refine T_exit ?_
        | refine T_block ?_
        | refine T_cond_t rfl ?_
        | refine T_cond_f rfl ?_
        | refine wdW_cons rfl ?_
        | (show wcall _ false (.lit (.func (.func 19) _ _)) _ _ _ _; refine wcall_fn (h19) rfl (by simp [plainL]) ?_)
        | (show wcallX _ false (.lit (.func (.func 19) _ _)) _ _ _ _; refine wcallX_fn (h19) rfl (by simp [plainL, plain, plainR, renR_rws]) ?_)
        | ((first | refine T_cond rfl (fun hc => ?_) (fun hc => ?_) | refine wguard_split (fun hc => ?_) (fun hc => ?_) | refine wguardX_split (fun hc => ?_) (fun hc => ?_)) <;> have hd := hc <;> (try simp (disch := omega) only [wrapI] at hd) <;> have hs := hd <;> (try simp only [decide_eq_true_eq, decide_eq_false_iff_not, Bool.not_false, gt_iff_lt, Int.not_lt] at hd) <;> (try simp at hs))
        | refine T_ret ?_
        | refine leave_of (.inr rfl) _ rfl ?_
        | refine leave_of (.inl rfl) _ rfl ?_
        | refine leaveA_of (.inr rfl) _ rfl ?_
        | refine leaveA_of (.inl rfl) _ rfl ?_
        | refine wif_intro ?_ (fun hc => ?_)
        | refine And.intro ?_ ?_
        | intro hc
      | simp (maxSteps := 4000000) only [wops_nil, wops_cons, wstep_none, wstep_some, wguard_ff, wguard_tf, wrun_call, wrun_mv, wrun_pick, wrun_bin, wrun_not, wrun_load, wrun_faddr, wrun_len, wrun_box, get_mk, wop, aop, ev, look, put_some, writes, ores_some, ores_map, ores_bind, binV, thenK, boolV, intV, lenOf, value, cut, hget, AV.parts, isOne, mkAgg, tupOf, List.map_cons, List.map_nil, List.length_cons, List.length_nil, List.getElem?_cons_zero, List.set_cons_zero, List.take_succ_cons, List.take_zero, List.drop_zero, List.nil_append, List.append_nil, List.replicate_zero, List.replicate_succ, List.getD_cons_zero, List.zipIdx_cons, List.zipIdx_nil, List.all_cons, List.all_nil, List.length_map, Option.pure_def, Option.bind_eq_bind, Option.getD_some, Option.map_some, if_true, if_false, Nat.reduceEqDiff, Nat.reduceAdd, Nat.add_zero, Nat.zero_add, Nat.zero_ne_one, reduceCtorEq, Bool.not_true, Bool.and_true, Bool.false_eq_true, eq_self, true_and, and_self, decide_true, freeze, lidsL, List.flatMap_nil, List.all_cons, ren, *]
      | simp (disch := omega) only [getD_ints, wrapI]
      | (with_reducible show wcall _ false (.lit (.func (.func 19) _ _)) _ _ _ _; refine wcall_fn (h19) ?_ ?_ ?_; (next => simp [rfyL, rfy, hget, ints, take_rfy, renR_rws]); (next => simp [plainL, plain, plainR, renR_rws]))
      | (with_reducible show wcallX _ false (.lit (.func (.func 19) _ _)) _ _ _ _; refine wcallX_fn (h19) ?_ ?_ ?_; (next => simp [rfyL, rfy, hget, ints, take_rfy, renR_rws]); (next => simp [plainL, plain, plainR, renR_rws]))
      | omega)
    refine T_for [0, 1, 5, 7] (fun t => ⟨[(0, .sl nil 1 (rows.map fun r => [ints r.1 r.2])), (1, ints hn h), (5, .loc 0 0 0), (7, i64 t)], [bX true fn nums den]⟩) rows.length (fun t => (rows.drop t).any (fun r => decide (25 < r.2.length)) = true) 0 ?_ (by simpa using f4) (Nat.zero_le _) ?_
    · simp [St.only, get_mk, look]
    intro t ht hI
    clear f4 hf
    by_cases htn : t < rows.length
    · rw [drop_rowN htn, List.any_cons] at hI
      have h1 := rws_get htn
      by_cases hb : 25 < (rowN rows t).2.length
      · clear hI
        unfold c17l0
        repeat' (first
          | ((with_reducible refine T_calm ?_ ?_); rfl)
          | with_reducible first
            | refine T_seq ?_
            | refine T_reg ?_
            | refine T_draw ?_
            | refine T_skip ?_
            | refine T_exit ?_
            | refine T_block ?_
            | refine T_cond_t rfl ?_
            | refine T_cond_f rfl ?_
            | refine wdW_cons rfl ?_
            | ((first | refine T_cond rfl (fun hc => ?_) (fun hc => ?_) | refine wguard_split (fun hc => ?_) (fun hc => ?_) | refine wguardX_split (fun hc => ?_) (fun hc => ?_)) <;> have hd := hc <;> (try simp (disch := omega) only [wrapI] at hd) <;> have hs := hd <;> (try simp only [decide_eq_true_eq, decide_eq_false_iff_not, gt_iff_lt, Int.not_lt] at hd) <;> (try simp at hs))
            | refine T_ret ?_
            | refine leave_of (.inr rfl) _ rfl ?_
            | refine leave_of (.inl rfl) _ rfl ?_
            | refine leaveA_of (.inr rfl) _ rfl ?_
            | refine leaveA_of (.inl rfl) _ rfl ?_
            | refine wif_intro ?_ (fun hc => ?_)
            | refine And.intro ?_ ?_
            | intro hc
          | simp (maxSteps := 4000000) only [wops_nil, wops_cons, wstep_none, wrun_mv, wrun_bin, wrun_load, wrun_iaddrS, wrun_len, get_mk, wop, aop, ev, look, put_some, writes, ores_some, ores_ite_none, ores_map, ores_bind, binV, thenK, blockK, intV, lenOf, value, cut, hget, mkAgg, tupOf, List.length_cons, List.length_nil, List.take_succ_cons, List.take_nil, List.drop_zero, List.append_nil, List.replicate_zero, List.length_map, Option.pure_def, Option.bind_eq_bind, Option.map_some, if_true, if_false, Nat.reduceEqDiff, Nat.zero_add, reduceCtorEq, Bool.false_eq_true, eq_self, true_and, and_true, and_self, decide_true, ren, Int.toNat_natCast, *]
          | simp (disch := omega) only [wrapI]
          | omega)
        all_goals first | rfl
      · simp only [hb, decide_false, Bool.false_or] at hI
        replace hI := And.intro hI trivial
        unfold c17l0
        repeat' (first
          | ((with_reducible refine T_calm ?_ ?_); rfl)
          | with_reducible first
            | refine T_seq ?_
            | refine T_reg ?_
            | refine T_draw ?_
            | refine T_skip ?_
            | refine T_exit ?_
            | refine T_block ?_
            | refine T_cond_t rfl ?_
            | refine T_cond_f rfl ?_
            | refine wdW_cons rfl ?_
            | ((first | refine T_cond rfl (fun hc => ?_) (fun hc => ?_) | refine wguard_split (fun hc => ?_) (fun hc => ?_) | refine wguardX_split (fun hc => ?_) (fun hc => ?_)) <;> have hd := hc <;> (try simp (disch := omega) only [wrapI] at hd) <;> have hs := hd <;> (try simp only [decide_eq_true_eq, decide_eq_false_iff_not, gt_iff_lt, Int.not_lt] at hd) <;> (try simp at hs))
            | refine T_ret ?_
            | refine leave_of (.inr rfl) _ rfl ?_
            | refine leave_of (.inl rfl) _ rfl ?_
            | refine leaveA_of (.inr rfl) _ rfl ?_
            | refine leaveA_of (.inl rfl) _ rfl ?_
            | refine wif_intro ?_ (fun hc => ?_)
            | refine And.intro ?_ ?_
            | intro hc
          | simp (maxSteps := 4000000) only [wops_nil, wops_cons, wstep_none, wrun_mv, wrun_bin, wrun_load, wrun_iaddrS, wrun_len, get_mk, wop, aop, ev, look, put_some, writes, ores_some, ores_ite_none, ores_map, ores_bind, binV, thenK, blockK, intV, lenOf, value, cut, hget, mkAgg, tupOf, List.length_cons, List.length_nil, List.take_succ_cons, List.take_nil, List.drop_zero, List.append_nil, List.replicate_zero, List.length_map, Option.pure_def, Option.bind_eq_bind, Option.map_some, if_true, if_false, Nat.reduceEqDiff, Nat.zero_add, reduceCtorEq, Bool.false_eq_true, eq_self, true_and, and_true, and_self, decide_true, ren, Int.toNat_natCast, *]
          | simp (disch := omega) only [wrapI]
          | omega)
        all_goals first | exact hI.1 | (simp [St.only, get_mk, look]; done)
    · rw [List.drop_of_length_le (by omega)] at hI
      simp at hI
  · clear hf
    rw [c17_cut]
    generalize c17r1 = q
    repeat' (first
      | ((with_reducible refine T_calm ?_ ?_); rfl)
      | with_reducible first
        | refine T_seq ?_
        | refine T_reg ?_
        | refine T_draw ?_
        | refine T_skip ?_
        | refine T_exit ?_
        | refine T_block ?_
        | refine T_cond_t rfl ?_
        | refine T_cond_f rfl ?_
        | refine wdW_cons rfl ?_
        | (show wcall _ false (.lit (.func (.func 19) _ _)) _ _ _ _; refine wcall_fn (h19) rfl (by simp [plainL]) ?_)
        | (show wcallX _ false (.lit (.func (.func 19) _ _)) _ _ _ _; refine wcallX_fn (h19) rfl (by simp [plainL, plain, plainR, renR_rws]) ?_)
        | ((first | refine T_cond rfl (fun hc => ?_) (fun hc => ?_) | refine wguard_split (fun hc => ?_) (fun hc => ?_) | refine wguardX_split (fun hc => ?_) (fun hc => ?_)) <;> have hd := hc <;> (try simp (disch := omega) only [wrapI] at hd) <;> have hs := hd <;> (try simp only [decide_eq_true_eq, decide_eq_false_iff_not, Bool.not_false, gt_iff_lt, Int.not_lt] at hd) <;> (try simp at hs))
        | refine T_ret ?_
        | refine leave_of (.inr rfl) _ rfl ?_
        | refine leave_of (.inl rfl) _ rfl ?_
        | refine leaveA_of (.inr rfl) _ rfl ?_
        | refine leaveA_of (.inl rfl) _ rfl ?_
        | refine wif_intro ?_ (fun hc => ?_)
        | refine And.intro ?_ ?_
        | intro hc
      | simp (maxSteps := 4000000) only [wops_nil, wops_cons, wstep_none, wstep_some, wguard_ff, wguard_tf, wrun_call, wrun_mv, wrun_pick, wrun_bin, wrun_not, wrun_load, wrun_faddr, wrun_len, wrun_box, get_mk, wop, aop, ev, look, put_some, writes, ores_some, ores_map, ores_bind, binV, thenK, boolV, intV, lenOf, value, cut, hget, AV.parts, isOne, mkAgg, tupOf, List.map_cons, List.map_nil, List.length_cons, List.length_nil, List.getElem?_cons_zero, List.set_cons_zero, List.take_succ_cons, List.take_zero, List.drop_zero, List.nil_append, List.append_nil, List.replicate_zero, List.replicate_succ, List.getD_cons_zero, List.zipIdx_cons, List.zipIdx_nil, List.all_cons, List.all_nil, List.length_map, Option.pure_def, Option.bind_eq_bind, Option.getD_some, Option.map_some, if_true, if_false, Nat.reduceEqDiff, Nat.reduceAdd, Nat.add_zero, Nat.zero_add, Nat.zero_ne_one, reduceCtorEq, Bool.not_true, Bool.and_true, Bool.false_eq_true, eq_self, true_and, and_self, decide_true, freeze, lidsL, List.flatMap_nil, List.all_cons, ren, *]
      | simp (disch := omega) only [getD_ints, wrapI]
      | (with_reducible show wcall _ false (.lit (.func (.func 19) _ _)) _ _ _ _; refine wcall_fn (h19) ?_ ?_ ?_; (next => simp [rfyL, rfy, hget, ints, take_rfy, renR_rws]); (next => simp [plainL, plain, plainR, renR_rws]))
      | (with_reducible show wcallX _ false (.lit (.func (.func 19) _ _)) _ _ _ _; refine wcallX_fn (h19) ?_ ?_ ?_; (next => simp [rfyL, rfy, hget, ints, take_rfy, renR_rws]); (next => simp [plainL, plain, plainR, renR_rws]))
      | omega)
    all_goals first | rfl
end
end Go.Abs
