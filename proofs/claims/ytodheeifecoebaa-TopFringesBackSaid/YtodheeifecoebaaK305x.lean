import Derived.Test.YtodheeifecoebaaK304x
set_option linter.all false
set_option linter.unusedVariables false
set_option linter.unusedSimpArgs false
set_option linter.unusedSectionVars false
namespace Go.Abs
open Go.Proofs
/-! law 12: a neighbour -/
def c12r3 : ACode :=
 (.seq (.seq (.reg 0 [⟨(some 210), (.mv (.tmp 14)), none, 0⟩, ⟨(some 211), (.mv (.tmp 3)), none, 0⟩, ⟨(some 212), (.bin .geq (.tmp 210) (.tmp 211)), none, 0⟩, ⟨(some 213), (.mv (.tmp 212)), none, 0⟩, ⟨(some 214), (.faddr 1 (.tmp 4)), (some (213, false)), 0⟩, ⟨(some 215), (.load 1 false (.tmp 214)), (some (213, false)), 0⟩, ⟨(some 216), (.mv (.tmp 14)), (some (213, false)), 0⟩, ⟨(some 217), (.iaddrS 1 (.tmp 215) (.tmp 216)), (some (213, false)), 0⟩, ⟨(some 218), (.load 1 false (.tmp 217)), (some (213, false)), 0⟩, ⟨(some 219), (.bin .lss (.tmp 218) (.val (.lit (.int .i64 0)))), (some (213, false)), 0⟩, ⟨(some 220), (.pick (.tmp 213) (.val (.lit (.bool true))) (.tmp 219)), none, 0⟩, ⟨(some 221), (.mv (.tmp 220)), none, 0⟩, ⟨(some 222), (.mv (.tmp 14)), (some (221, false)), 0⟩, ⟨(some 223), (.mv (.tmp 12)), (some (221, false)), 0⟩, ⟨(some 224), (.bin .add (.tmp 223) (.val (.lit (.int .i64 1)))), (some (221, false)), 0⟩, ⟨(some 225), (.bin .eql (.tmp 222) (.tmp 224)), (some (221, false)), 0⟩, ⟨(some 226), (.mv (.tmp 225)), (some (221, false)), 0⟩, ⟨(some 227), (.mv (.tmp 14)), (some (226, true)), 0⟩, ⟨(some 228), (.faddr 0 (.tmp 1)), (some (226, true)), 0⟩, ⟨(some 229), (.load 1 false (.tmp 228)), (some (226, true)), 0⟩, ⟨(some 230), (.bin .rem (.tmp 227) (.tmp 229)), (some (226, true)), 0⟩, ⟨(some 231), (.bin .eql (.tmp 230) (.val (.lit (.int .i64 0)))), (some (226, true)), 0⟩, ⟨(some 232), (.pick (.tmp 226) (.tmp 231) (.val (.lit (.bool false)))), (some (221, false)), 0⟩, ⟨(some 233), (.pick (.tmp 221) (.val (.lit (.bool true))) (.tmp 232)), none, 0⟩])
 (.cond (.tmp 233) (.exit 7) .skip))
 (.seq (.dreg 0 [(0, ⟨(some 234), (.mv (.tmp 7)), none, 0⟩), (1, ⟨(some 235), (.mv (.tmp 14)), none, 0⟩), (2, ⟨(some 236), (.iaddrS 1 (.tmp 234) (.tmp 235)), none, 0⟩), (3, ⟨(some 237), (.load 1 false (.tmp 236)), none, 0⟩), (4, ⟨(some 238), (.call false (.val (.lit (.func (.func 32) #[] #[]))) [(.tmp 237), (.val (.lit (.int .i64 (-100000000)))), (.val (.lit (.int .i64 100000000)))]), none, 0⟩), (5, ⟨(some 239), (.not (.tmp 238)), none, 0⟩), (6, ⟨(some 240), (.mv (.tmp 239)), none, 0⟩), (7, ⟨(some 241), (.mv (.tmp 7)), (some (240, false)), 0⟩), (8, ⟨(some 242), (.mv (.tmp 14)), (some (240, false)), 0⟩), (9, ⟨(some 243), (.iaddrS 1 (.tmp 241) (.tmp 242)), (some (240, false)), 0⟩), (10, ⟨(some 244), (.load 1 false (.tmp 243)), (some (240, false)), 0⟩), (11, ⟨(some 245), (.mv (.tmp 7)), (some (240, false)), 0⟩), (12, ⟨(some 246), (.mv (.tmp 12)), (some (240, false)), 0⟩), (13, ⟨(some 247), (.iaddrS 1 (.tmp 245) (.tmp 246)), (some (240, false)), 0⟩), (14, ⟨(some 248), (.load 1 false (.tmp 247)), (some (240, false)), 0⟩), (15, ⟨(some 249), (.bin .sub (.tmp 244) (.tmp 248)), (some (240, false)), 0⟩), (16, ⟨(some 250), (.faddr 1 (.tmp 1)), (some (240, false)), 0⟩), (17, ⟨(some 251), (.load 1 false (.tmp 250)), (some (240, false)), 0⟩), (18, ⟨(some 252), (.mv (.tmp 14)), (some (240, false)), 0⟩), (19, ⟨(some 253), (.iaddrS 1 (.tmp 251) (.tmp 252)), (some (240, false)), 0⟩), (20, ⟨(some 254), (.load 1 false (.tmp 253)), (some (240, false)), 0⟩), (21, ⟨(some 255), (.faddr 1 (.tmp 1)), (some (240, false)), 0⟩), (22, ⟨(some 256), (.load 1 false (.tmp 255)), (some (240, false)), 0⟩), (23, ⟨(some 257), (.mv (.tmp 12)), (some (240, false)), 0⟩), (24, ⟨(some 258), (.iaddrS 1 (.tmp 256) (.tmp 257)), (some (240, false)), 0⟩), (25, ⟨(some 259), (.load 1 false (.tmp 258)), (some (240, false)), 0⟩), (26, ⟨(some 260), (.bin .sub (.tmp 254) (.tmp 259)), (some (240, false)), 0⟩), (27, ⟨(some 261), (.bin .neq (.tmp 249) (.tmp 260)), (some (240, false)), 0⟩), (28, ⟨(some 262), (.pick (.tmp 240) (.val (.lit (.bool true))) (.tmp 261)), none, 0⟩)] [[], [], [0, 1], [2, 0, 1], [3, 2, 0, 1], [4, 3, 2, 0, 1], [5, 4, 3, 2, 0, 1], [6, 5, 4, 3, 2, 0, 1], [6, 5, 4, 3, 2, 0, 1], [7, 8, 6, 5, 4, 3, 2, 0, 1], [9, 6, 7, 8, 5, 4, 3, 2, 0, 1], [6, 5, 4, 3, 2, 0, 1], [6, 5, 4, 3, 2, 0, 1], [11, 12, 6, 5, 4, 3, 2, 0, 1], [13, 6, 11, 12, 5, 4, 3, 2, 0, 1], [10, 14, 6, 9, 7, 8, 5, 4, 3, 2, 0, 1, 13, 11, 12], [6, 5, 4, 3, 2, 0, 1], [16, 6, 5, 4, 3, 2, 0, 1], [6, 5, 4, 3, 2, 0, 1], [17, 18, 6, 16, 5, 4, 3, 2, 0, 1], [19, 6, 17, 18, 16, 5, 4, 3, 2, 0, 1], [6, 5, 4, 3, 2, 0, 1], [21, 6, 5, 4, 3, 2, 0, 1], [6, 5, 4, 3, 2, 0, 1], [22, 23, 6, 21, 5, 4, 3, 2, 0, 1], [24, 6, 22, 23, 21, 5, 4, 3, 2, 0, 1], [20, 25, 6, 19, 17, 18, 16, 5, 4, 3, 2, 0, 1, 24, 22, 23, 21], [15, 26, 6, 10, 14, 9, 7, 8, 5, 4, 3, 2, 0, 1, 13, 11, 12, 20, 25, 19, 17, 18, 16, 24, 22, 23, 21], [6, 27, 5, 4, 3, 2, 0, 1, 15, 26, 10, 14, 9, 7, 8, 13, 11, 12, 20, 25, 19, 17, 18, 16, 24, 22, 23, 21]])
 (.cond (.tmp 262) (.seq (.reg 0 [⟨(some 2), (.mv (.val (.lit (.bool false)))), none, 0⟩])
 .ret) .skip)))
theorem c12l2_cut : c12l2 =  (.seq (.reg 0 [⟨(some 208), (.bin .lss (.tmp 207) (.val (.lit (.int .i64 2)))), none, 0⟩])
 (.seq (.cond (.tmp 208) .skip (.exit 6))
 (.seq (.block 7 (.seq (.reg 0 [⟨(some 209), (.idxA 2 1 false (.tmp 206) (.tmp 207)), none, 0⟩, ⟨(some 14), (.mv (.tmp 209)), none, 0⟩])
 c12r3))
 (.reg 0 [⟨(some 263), (.bin .add (.tmp 207) (.val (.lit (.int .i64 1)))), none, 0⟩, ⟨(some 207), (.mv (.tmp 263)), none, 0⟩])))) := rfl
/-- what is in memory at the end -/
structure E12 (w : Int) (n1 n2 : Bool) (zs msk : List Int) (h : Nat → Int) (q id : Nat) (H : List Blk) : Prop where
  b : ∃ o, H[0]? = some (.cells o false 3 [[i64 w, ints n1 zs, ints n2 msk]])
  f : ∃ o, H[1]? = some (.cells o false 2 [[i64 w, .lsl q 0 zs.length]])
  q : ∃ o, H[q]? = some (.cells o false 1 ((phL zs msk zs.length).map fun x => [i64 x]))
  h : ∃ o, H[id]? = some (.cells o false 1 ((mk zs.length h).map fun x => [i64 x]))
abbrev SLk12 (w : Int) (n i id j : Nat) : List (Nat × AV) := [(1, .loc 0 0 0), (3, i64 n), (4, .loc 1 0 0), (7, .lsl id 0 n), (12, i64 i), (206, .lit (.agg #[.int .i64 ((i : Int) + 1), .int .i64 ((i : Int) + w)])), (207, i64 j)]
section
variable {w : Int} {n1 n2 : Bool} {zs msk : List Int} {h : Nat → Int} {q id : Nat} {H : List Blk}
set_option maxHeartbeats 8000000 in
theorem k12k (hl : zs.length ≤ 1000) (hw : 1 ≤ w ∧ w ≤ 6) (hbd : ∀ j, -1000000 ≤ zs.getD j 0 ∧ zs.getD j 0 ≤ 1000000) (hh : ∀ j, -100000 ≤ h j ∧ h j ≤ 100000) (hE : E12 w n1 n2 zs msk h q id H) {i j : Nat} (hi : i < zs.length) {x : Int} (hx : 0 ≤ x ∧ x ≤ 10000)
    (hst : ∀ b : Nat, x = b → b < zs.length → 0 ≤ phs zs msk b → ¬(x = (i : Int) + 1 ∧ x.tmod w = 0) → h b - h i = zs.getD b 0 - zs.getD i 0) (K : Exit → St → Prop)
    (hK : ∀ e : Exit, (e = .normal ∨ e = .exit 7) → ∀ τ : St, τ.only [1, 3, 4, 7, 12, 206, 207] = ⟨SLk12 w zs.length i id j, H⟩ → K e τ) :
    T none Try.prog muts 264 0 c12r3 ⟨(14, i64 x) :: SLk12 w zs.length i id j, H⟩ K := by
  obtain ⟨⟨o0, jb⟩, ⟨o1, jf⟩, ⟨o2, jq⟩, ⟨o3, jh⟩⟩ := hE
  have l0 := (List.getElem?_eq_some_iff.1 jb).1
  have l1 := (List.getElem?_eq_some_iff.1 jf).1
  have lq := (List.getElem?_eq_some_iff.1 jq).1
  have lh := (List.getElem?_eq_some_iff.1 jh).1
  have hpl := phL_len zs msk zs.length
  have hml := mk_len zs.length h
  have hw0 : (w = 0) = False := by simp; omega
  have ew1 : IntKind.i64.wrap ((i : Int) + 1) = (i : Int) + 1 := wrapI (by omega) (by omega)
  have hN := PLift.up (hK .normal (.inl rfl))
  have hX := PLift.up (hK (.exit 7) (.inr rfl))
  clear hK
  by_cases c1 : x ≥ (zs.length : Int)
  · have d1 : decide (x ≥ (zs.length : Int)) = true := decide_eq_true c1
    clear c1 hst hbd hh hN
    unfold c12r3
    repeat' (first
      | ((with_reducible refine T_calm ?_ ?_); rfl)
      | with_reducible first
        | refine T_seq ?_
        | refine T_reg ?_
        | refine T_draw ?_
        | refine T_skip ?_
        | refine T_exit ?_
        | refine T_block ?_
        | refine T_cond_t rfl ?_
        | refine T_cond_f rfl ?_
        | refine wdW_cons rfl ?_
        | ((first | refine T_cond rfl (fun hc => ?_) (fun hc => ?_) | refine wguard_split (fun hc => ?_) (fun hc => ?_) | refine wguardX_split (fun hc => ?_) (fun hc => ?_)) <;> have hd := hc <;> (try simp (disch := omega) only [wrapI] at hd) <;> have hs := hd <;> (try simp only [Bool.not_eq_true', Bool.not_eq_false', Bool.and_eq_true, Bool.and_eq_false_iff, Bool.or_eq_true, Bool.or_eq_false_iff, decide_eq_true_eq, decide_eq_false_iff_not, beq_iff_eq, bne_iff_ne, beq_eq_false_iff_ne, bne_eq_false_iff_eq, Bool.not_true, Bool.not_false, gt_iff_lt, ge_iff_le, Int.not_lt, Int.not_le, ne_eq, Decidable.not_not] at hd) <;> (try simp at hs))
        | refine T_ret ?_
        | refine wif_intro ?_ (fun hc => ?_)
        | refine And.intro ?_ ?_
        | intro hc
      | simp (maxSteps := 4000000) only [wops_nil, wops_cons, wstep_none, wstep_some, wguard_tf, wguard_undef, wrun_mv, wrun_pick, wrun_bin, wop, aop, ev, look, put_some, writes, ores_some, binV, thenK, List.append_nil, List.replicate_zero, Option.map_some, if_true, if_false, Nat.reduceEqDiff, reduceCtorEq, eq_self, Int.reduceNeg, *]
      | simp (disch := omega) only [getD_ints, wrapI]
      | omega)
    all_goals first | exact hX.down _ (by simp [St.only, get_mk, look])
  · have d1 : decide (x ≥ (zs.length : Int)) = false := decide_eq_false c1
    obtain ⟨b, rfl⟩ : ∃ b : Nat, x = b := ⟨x.toNat, by omega⟩
    have hb : b < zs.length := by omega
    have gp : ((phL zs msk zs.length).map fun x => [i64 x]).getD b [] = [i64 (phs zs msk b)] := by rw [getD_ints (by rw [hpl]; exact hb), phL_get hb]
    by_cases c2 : phs zs msk b < 0
    · have d2 : decide (phs zs msk b < 0) = true := decide_eq_true c2
      clear c1 c2 hst hbd hh hN
      generalize phL zs msk zs.length = L at *
      unfold c12r3
      repeat' (first
        | ((with_reducible refine T_calm ?_ ?_); rfl)
        | with_reducible first
          | refine T_seq ?_
          | refine T_reg ?_
          | refine T_draw ?_
          | refine T_skip ?_
          | refine T_exit ?_
          | refine T_block ?_
          | refine T_cond_t rfl ?_
          | refine T_cond_f rfl ?_
          | refine wdW_cons rfl ?_
          | ((first | refine T_cond rfl (fun hc => ?_) (fun hc => ?_) | refine wguard_split (fun hc => ?_) (fun hc => ?_) | refine wguardX_split (fun hc => ?_) (fun hc => ?_)) <;> have hd := hc <;> (try simp (disch := omega) only [wrapI] at hd) <;> have hs := hd <;> (try simp only [Bool.not_eq_true', Bool.not_eq_false', Bool.and_eq_true, Bool.and_eq_false_iff, Bool.or_eq_true, Bool.or_eq_false_iff, decide_eq_true_eq, decide_eq_false_iff_not, beq_iff_eq, bne_iff_ne, beq_eq_false_iff_ne, bne_eq_false_iff_eq, Bool.not_true, Bool.not_false, gt_iff_lt, ge_iff_le, Int.not_lt, Int.not_le, ne_eq, Decidable.not_not] at hd) <;> (try simp at hs))
          | refine T_ret ?_
          | refine wif_intro ?_ (fun hc => ?_)
          | refine And.intro ?_ ?_
          | intro hc
        | simp (maxSteps := 4000000) only [wops_nil, wops_cons, wstep_none, wstep_some, wguard_ff, wguard_tf, wguard_undef, wrun_mv, wrun_pick, wrun_bin, wrun_load, wrun_faddr, wrun_iaddrS, wop, aop, ev, look, put_some, writes, ores_some, ores_ite_none, binV, thenK, value, cut, hget, mkAgg, List.length_cons, List.length_nil, List.take_succ_cons, List.take_nil, List.drop_succ_cons, List.drop_zero, List.append_nil, List.replicate_zero, List.getD_cons_zero, Option.getD_some, Option.map_some, if_true, if_false, Nat.reduceEqDiff, Nat.zero_add, reduceCtorEq, Bool.false_eq_true, eq_self, true_and, and_true, Int.reduceNeg, Int.toNat_natCast, *]
        | simp (disch := omega) only [getD_ints, wrapI]
        | omega)
      all_goals first | exact hX.down _ (by simp [St.only, get_mk, look])
    · have d2 : decide (phs zs msk b < 0) = false := decide_eq_false c2
      by_cases c3 : (b : Int) = (i : Int) + 1 ∧ ((b : Nat) : Int).tmod w = 0
      · have d3 : ((b : Int) == (i : Int) + 1) = true := by simp only [beq_iff_eq]; exact c3.1
        have d4 : (((b : Nat) : Int).tmod w == 0) = true := by simp only [beq_iff_eq]; exact c3.2
        clear c1 c2 c3 hst hbd hh hN
        generalize phL zs msk zs.length = L at *
        generalize phs zs msk b = pb at *
        unfold c12r3
        repeat' (first
          | ((with_reducible refine T_calm ?_ ?_); rfl)
          | with_reducible first
            | refine T_seq ?_
            | refine T_reg ?_
            | refine T_draw ?_
            | refine T_skip ?_
            | refine T_exit ?_
            | refine T_block ?_
            | refine T_cond_t rfl ?_
            | refine T_cond_f rfl ?_
            | refine wdW_cons rfl ?_
            | ((first | refine T_cond rfl (fun hc => ?_) (fun hc => ?_) | refine wguard_split (fun hc => ?_) (fun hc => ?_) | refine wguardX_split (fun hc => ?_) (fun hc => ?_)) <;> have hd := hc <;> (try simp (disch := omega) only [wrapI] at hd) <;> have hs := hd <;> (try simp only [Bool.not_eq_true', Bool.not_eq_false', Bool.and_eq_true, Bool.and_eq_false_iff, Bool.or_eq_true, Bool.or_eq_false_iff, decide_eq_true_eq, decide_eq_false_iff_not, beq_iff_eq, bne_iff_ne, beq_eq_false_iff_ne, bne_eq_false_iff_eq, Bool.not_true, Bool.not_false, gt_iff_lt, ge_iff_le, Int.not_lt, Int.not_le, ne_eq, Decidable.not_not] at hd) <;> (try simp at hs))
            | refine T_ret ?_
            | refine wif_intro ?_ (fun hc => ?_)
            | refine And.intro ?_ ?_
            | intro hc
          | simp (maxSteps := 4000000) only [wops_nil, wops_cons, wstep_none, wstep_some, wguard_true, wguard_ff, wrun_mv, wrun_pick, wrun_bin, wrun_load, wrun_faddr, wrun_iaddrS, wop, aop, ev, look, put_some, writes, ores_some, ores_ite_none, binV, thenK, value, cut, hget, mkAgg, List.length_cons, List.length_nil, List.take_succ_cons, List.take_zero, List.take_nil, List.drop_succ_cons, List.drop_zero, List.append_nil, List.replicate_zero, List.getD_cons_zero, Option.getD_some, Option.map_some, if_true, if_false, Nat.reduceEqDiff, Nat.add_zero, Nat.zero_add, reduceCtorEq, Bool.false_eq_true, eq_self, true_and, and_true, Int.reduceNeg, Int.toNat_natCast, *]
          | simp (disch := omega) only [getD_ints, wrapI]
          | omega)
        all_goals first | exact hX.down _ (by simp [St.only, get_mk, look])
      · have hst' := hst b rfl hb (by omega) c3
        have m1 : ((mk zs.length h).map fun x => [i64 x]).getD b [] = [i64 (h b)] := by rw [getD_ints (by rw [mk_len]; exact hb), mk_get hb]
        have m2 : ((mk zs.length h).map fun x => [i64 x]).getD i [] = [i64 (h i)] := by rw [getD_ints (by rw [mk_len]; exact hi), mk_get hi]
        have z1 : (zs.map fun x => [i64 x]).getD b [] = [i64 (zs.getD b 0)] := getD_ints hb
        have z2 : (zs.map fun x => [i64 x]).getD i [] = [i64 (zs.getD i 0)] := getD_ints hi
        have b1 := hh b
        have b2 := hh i
        have b3 := hbd b
        have b4 := hbd i
        have h32 := k32 (h b) (-100000000) 100000000
        rw [show (decide ((-100000000 : Int) ≤ h b) && decide (h b ≤ 100000000)) = true by rw [decide_eq_true (by omega), decide_eq_true (by omega)]; rfl] at h32
        have e1 : IntKind.i64.wrap (h b - h i) = zs.getD b 0 - zs.getD i 0 := by rw [wrapI (by omega) (by omega)]; exact hst'
        have e2 : IntKind.i64.wrap (zs.getD b 0 - zs.getD i 0) = zs.getD b 0 - zs.getD i 0 := wrapI (by omega) (by omega)
        have d5 : (zs.getD b 0 - zs.getD i 0 != zs.getD b 0 - zs.getD i 0) = false := by simp
        have hcase : (((b : Int) == (i : Int) + 1) = false) ∨ (((b : Int) == (i : Int) + 1) = true ∧ (((b : Nat) : Int).tmod w == 0) = false) := by
          by_cases hq : (b : Int) = (i : Int) + 1
          · exact .inr ⟨by simp only [beq_iff_eq]; exact hq, by simp only [beq_eq_false_iff_ne]; exact fun h => c3 ⟨hq, h⟩⟩
          · exact .inl (by simp only [beq_eq_false_iff_ne]; exact hq)
        clear c1 c2 c3 hst hbd hh hX hst'
        generalize phL zs msk zs.length = L at *
        generalize phs zs msk b = pb at *
        generalize mk zs.length h = HL at *
        generalize h b = hb1 at *
        generalize h i = hi1 at *
        generalize zs.getD b 0 = zb at *
        generalize zs.getD i 0 = zi at *
        rcases hcase with d3 | ⟨d3, d4⟩
        · unfold c12r3
          repeat' (first
            | ((with_reducible refine T_calm ?_ ?_); rfl)
            | with_reducible first
              | refine T_seq ?_
              | refine T_reg ?_
              | refine T_draw ?_
              | refine T_skip ?_
              | refine T_exit ?_
              | refine T_block ?_
              | refine T_cond_t rfl ?_
              | refine T_cond_f rfl ?_
              | refine wdW_cons rfl ?_
              | (show wcall _ false (.lit (.func (.func 32) _ _)) _ _ _ _; refine wcall_fn (h32) rfl (by simp [plainL, plain, plainR, Int.toNat_natCast, hw0, l0, l1, lq, lh]) ?_)
              | (show wcallX _ false (.lit (.func (.func 32) _ _)) _ _ _ _; refine wcallX_fn (h32) rfl (by simp [plainL, plain]) ?_)
              | ((first | refine T_cond rfl (fun hc => ?_) (fun hc => ?_) | refine wguard_split (fun hc => ?_) (fun hc => ?_) | refine wguardX_split (fun hc => ?_) (fun hc => ?_)) <;> have hd := hc <;> (try simp (disch := omega) only [wrapI] at hd) <;> have hs := hd <;> (try simp only [Bool.not_eq_true', Bool.not_eq_false', Bool.and_eq_true, Bool.and_eq_false_iff, Bool.or_eq_true, Bool.or_eq_false_iff, decide_eq_true_eq, decide_eq_false_iff_not, beq_iff_eq, bne_iff_ne, beq_eq_false_iff_ne, bne_eq_false_iff_eq, Bool.not_true, Bool.not_false, gt_iff_lt, ge_iff_le, Int.not_lt, Int.not_le, ne_eq, Decidable.not_not] at hd) <;> (try simp at hs))
              | refine T_ret ?_
              | refine wif_intro ?_ (fun hc => ?_)
              | refine And.intro ?_ ?_
              | intro hc
            | simp (maxSteps := 4000000) only [wops_nil, wops_cons, wstep_none, wstep_some, wguard_ff, wguard_ft, wrun_mv, wrun_pick, wrun_bin, wrun_not, wrun_load, wrun_faddr, wrun_iaddrS, wrunX_mv, wrunX_pick, wrunX_bin, wrunX_not, wrunX_load, wrunX_faddr, wrunX_iaddrS, wdW_nil, wstepX_none, wstepX_some, wguardX_ff, wrunX_call, wop, aop, ev, look, put_some, writes, ores_some, ores_ite_none, binV, thenK, boolV, value, cut, hget, toLits, mkAgg, List.map_cons, List.map_nil, List.length_cons, List.length_nil, List.take_succ_cons, List.take_zero, List.take_nil, List.drop_succ_cons, List.drop_zero, List.append_nil, List.replicate_zero, List.getD_cons_zero, List.length_map, Option.getD_some, Option.map_some, if_true, if_false, Nat.reduceEqDiff, Nat.zero_add, reduceCtorEq, Bool.not_true, Bool.false_eq_true, eq_self, true_and, and_true, and_self, Int.reduceNeg, freeze, lidsL, lids, List.flatMap_cons, List.flatMap_nil, ren, Int.toNat_natCast, *]
            | simp (disch := omega) only [getD_ints, wrapI]
            | (with_reducible show wcall _ false (.lit (.func (.func 32) _ _)) _ _ _ _; refine wcall_fn (h32) ?_ ?_ ?_; (next => simp [rfyL, rfy, hget, ints, take_rfy, Int.toNat_natCast, hw0, l0, l1, lq, lh]); (next => simp [plainL, plain, plainR, Int.toNat_natCast, hw0, l0, l1, lq, lh]))
            | (with_reducible show wcallX _ false (.lit (.func (.func 32) _ _)) _ _ _ _; refine wcallX_fn (h32) ?_ ?_ ?_; (next => simp [rfyL, rfy, hget, ints, take_rfy, Int.toNat_natCast, hw0, l0, l1, lq, lh]); (next => simp [plainL, plain, plainR, Int.toNat_natCast, hw0, l0, l1, lq, lh]))
            | (with_reducible refine wdW_cons ?_ ?_; (next => simp [chk, foot, compatB, argsOf, St.get, target, ev, look, lidsL, hget, kind, wids, wtops, tops, opds, topId, Int.toNat_natCast, hw0, l0, l1, lq, lh]; done))
            | omega)
          all_goals first | exact hN.down _ (by simp [St.only, get_mk, look])
        · unfold c12r3
          repeat' (first
            | ((with_reducible refine T_calm ?_ ?_); rfl)
            | with_reducible first
              | refine T_seq ?_
              | refine T_reg ?_
              | refine T_draw ?_
              | refine T_skip ?_
              | refine T_exit ?_
              | refine T_block ?_
              | refine T_cond_t rfl ?_
              | refine T_cond_f rfl ?_
              | refine wdW_cons rfl ?_
              | (show wcall _ false (.lit (.func (.func 32) _ _)) _ _ _ _; refine wcall_fn (h32) rfl (by simp [plainL, plain, plainR, Int.toNat_natCast, hw0, l0, l1, lq, lh]) ?_)
              | (show wcallX _ false (.lit (.func (.func 32) _ _)) _ _ _ _; refine wcallX_fn (h32) rfl (by simp [plainL, plain]) ?_)
              | ((first | refine T_cond rfl (fun hc => ?_) (fun hc => ?_) | refine wguard_split (fun hc => ?_) (fun hc => ?_) | refine wguardX_split (fun hc => ?_) (fun hc => ?_)) <;> have hd := hc <;> (try simp (disch := omega) only [wrapI] at hd) <;> have hs := hd <;> (try simp only [Bool.not_eq_true', Bool.not_eq_false', Bool.and_eq_true, Bool.and_eq_false_iff, Bool.or_eq_true, Bool.or_eq_false_iff, decide_eq_true_eq, decide_eq_false_iff_not, beq_iff_eq, bne_iff_ne, beq_eq_false_iff_ne, bne_eq_false_iff_eq, Bool.not_true, Bool.not_false, gt_iff_lt, ge_iff_le, Int.not_lt, Int.not_le, ne_eq, Decidable.not_not] at hd) <;> (try simp at hs))
              | refine T_ret ?_
              | refine wif_intro ?_ (fun hc => ?_)
              | refine And.intro ?_ ?_
              | intro hc
            | simp (maxSteps := 4000000) only [wops_nil, wops_cons, wstep_none, wstep_some, wguard_true, wguard_ff, wrun_mv, wrun_pick, wrun_bin, wrun_not, wrun_load, wrun_faddr, wrun_iaddrS, wrunX_mv, wrunX_pick, wrunX_bin, wrunX_not, wrunX_load, wrunX_faddr, wrunX_iaddrS, wdW_nil, wstepX_none, wstepX_some, wguardX_ff, wrunX_call, wop, aop, ev, look, put_some, writes, ores_some, ores_ite_none, binV, thenK, boolV, value, cut, hget, toLits, mkAgg, List.map_cons, List.map_nil, List.length_cons, List.length_nil, List.take_succ_cons, List.take_zero, List.take_nil, List.drop_succ_cons, List.drop_zero, List.append_nil, List.replicate_zero, List.getD_cons_zero, List.length_map, Option.getD_some, Option.map_some, if_true, if_false, Nat.reduceEqDiff, Nat.add_zero, Nat.zero_add, reduceCtorEq, Bool.not_true, Bool.false_eq_true, eq_self, true_and, and_true, and_self, Int.reduceNeg, freeze, lidsL, lids, List.flatMap_cons, List.flatMap_nil, ren, Int.toNat_natCast, *]
            | simp (disch := omega) only [getD_ints, wrapI]
            | (with_reducible show wcall _ false (.lit (.func (.func 32) _ _)) _ _ _ _; refine wcall_fn (h32) ?_ ?_ ?_; (next => simp [rfyL, rfy, hget, ints, take_rfy, Int.toNat_natCast, hw0, l0, l1, lq, lh]); (next => simp [plainL, plain, plainR, Int.toNat_natCast, hw0, l0, l1, lq, lh]))
            | (with_reducible show wcallX _ false (.lit (.func (.func 32) _ _)) _ _ _ _; refine wcallX_fn (h32) ?_ ?_ ?_; (next => simp [rfyL, rfy, hget, ints, take_rfy, Int.toNat_natCast, hw0, l0, l1, lq, lh]); (next => simp [plainL, plain, plainR, Int.toNat_natCast, hw0, l0, l1, lq, lh]))
            | (with_reducible refine wdW_cons ?_ ?_; (next => simp [chk, foot, compatB, argsOf, St.get, target, ev, look, lidsL, hget, kind, wids, wtops, tops, opds, topId, Int.toNat_natCast, hw0, l0, l1, lq, lh]; done))
            | omega)
          all_goals first | exact hN.down _ (by simp [St.only, get_mk, look])
end
end Go.Abs
