import Derived.Test.YtodheeifecoebaaK115x
import Derived.Test.YtodheeifecoebaaK106x
import Derived.Test.YtodheeifecoebaaK70
import Derived.Test.YtodheeifecoebaaK9
set_option linter.all false
set_option linter.unusedVariables false
set_option linter.unusedSimpArgs false
set_option linter.unusedSectionVars false
namespace Go.Abs
open Go.Proofs
def c18r2 : ACode :=
 (.seq (.reg 0 [⟨(some 68), (.mv (.tmp 0)), none, 0⟩, ⟨(some 69), (.mv (.tmp 1)), none, 0⟩, ⟨(some 70), (.call false (.val (.lit (.func (.func 27) #[] #[]))) [(.tmp 69)]), none, 0⟩, ⟨(some 71), (.mv (.tmp 7)), none, 0⟩, ⟨(some 72), (.call false (.val (.lit (.func (.func 28) #[] #[]))) [(.tmp 71)]), none, 0⟩, ⟨(some 73), (.call false (.val (.lit (.func (.func 26) #[] #[]))) [(.tmp 68), (.tmp 70), (.tmp 72)]), none, 0⟩, ⟨(some 67), (.mv (.tmp 73)), none, 0⟩, ⟨(some 74), (.ext (.tmp 67) 0), none, 0⟩, ⟨(some 75), (.ext (.tmp 67) 1), none, 0⟩, ⟨(some 12), (.mv (.tmp 74)), none, 0⟩, ⟨(some 13), (.mv (.tmp 75)), none, 0⟩])
 (.seq (.dreg 1 [(0, ⟨(some 77), (.mv (.tmp 0)), none, 0⟩), (1, ⟨(some 78), (.mv (.tmp 1)), none, 0⟩), (2, ⟨(some 79), (.call false (.val (.lit (.func (.func 27) #[] #[]))) [(.tmp 78)]), none, 0⟩), (3, ⟨(some 80), (.load 2 true (.tmp 5)), none, 0⟩), (4, ⟨(some 81), (.call false (.val (.lit (.func (.func 54) #[] #[]))) [(.tmp 77), (.tmp 79), (.tmp 80)]), none, 0⟩), (5, ⟨(some 76), (.mv (.tmp 81)), none, 0⟩), (6, ⟨(some 82), (.ext (.tmp 76) 0), none, 0⟩), (7, ⟨(some 83), (.ext (.tmp 76) 1), none, 0⟩), (8, ⟨(some 14), (.alloc [(.lit (.int .i64 0)), (.lit (.int .i64 0))]), none, 0⟩), (9, ⟨none, (.store 2 (.tmp 14) (.tmp 82)), none, 1⟩), (10, ⟨(some 15), (.mv (.tmp 83)), none, 1⟩)] [[], [], [1], [], [0, 2, 3, 1], [4, 0, 2, 3, 1], [5, 4, 0, 2, 3, 1], [5, 4, 0, 2, 3, 1], [], [8, 6, 4, 0, 1, 2, 3, 5], [7, 9, 0, 1, 2, 3, 4, 5, 6, 8]])
 (.seq (.dreg 0 [(0, ⟨(some 84), (.mv (.tmp 13)), none, 0⟩), (1, ⟨(some 85), (.bin .eql (.tmp 84) (.val (.lit (.int .i64 0)))), none, 0⟩), (2, ⟨(some 86), (.mv (.tmp 85)), none, 0⟩), (3, ⟨(some 87), (.mv (.tmp 15)), (some (86, true)), 0⟩), (4, ⟨(some 88), (.bin .eql (.tmp 87) (.val (.lit (.int .i64 0)))), (some (86, true)), 0⟩), (5, ⟨(some 89), (.pick (.tmp 86) (.tmp 88) (.val (.lit (.bool false)))), none, 0⟩), (6, ⟨(some 90), (.mv (.tmp 89)), none, 0⟩), (7, ⟨(some 91), (.mv (.tmp 7)), (some (90, true)), 0⟩), (8, ⟨(some 92), (.iaddrA 2 1 (.tmp 5) (.val (.lit (.int .i64 1)))), (some (90, true)), 0⟩), (9, ⟨(some 93), (.load 1 false (.tmp 92)), (some (90, true)), 0⟩), (10, ⟨(some 94), (.iaddrS 1 (.tmp 91) (.tmp 93)), (some (90, true)), 0⟩), (11, ⟨(some 95), (.load 1 false (.tmp 94)), (some (90, true)), 0⟩), (12, ⟨(some 96), (.mv (.tmp 7)), (some (90, true)), 0⟩), (13, ⟨(some 97), (.iaddrA 2 1 (.tmp 5) (.val (.lit (.int .i64 0)))), (some (90, true)), 0⟩), (14, ⟨(some 98), (.load 1 false (.tmp 97)), (some (90, true)), 0⟩), (15, ⟨(some 99), (.iaddrS 1 (.tmp 96) (.tmp 98)), (some (90, true)), 0⟩), (16, ⟨(some 100), (.load 1 false (.tmp 99)), (some (90, true)), 0⟩), (17, ⟨(some 101), (.bin .sub (.tmp 95) (.tmp 100)), (some (90, true)), 0⟩), (18, ⟨(some 102), (.faddr 1 (.tmp 14)), (some (90, true)), 0⟩), (19, ⟨(some 103), (.load 1 false (.tmp 102)), (some (90, true)), 0⟩), (20, ⟨(some 104), (.bin .eql (.tmp 101) (.tmp 103)), (some (90, true)), 0⟩), (21, ⟨(some 105), (.pick (.tmp 90) (.tmp 104) (.val (.lit (.bool false)))), none, 0⟩), (22, ⟨(some 6), (.mv (.tmp 105)), none, 0⟩)] [[], [0], [1, 0], [2, 1, 0], [3, 2, 1, 0], [2, 4, 1, 0, 3], [5, 2, 4, 1, 0, 3], [6, 5, 2, 4, 1, 0, 3], [6, 5, 2, 4, 1, 0, 3], [8, 6, 5, 2, 4, 1, 0, 3], [7, 9, 6, 5, 2, 4, 1, 0, 3, 8], [10, 6, 7, 9, 5, 2, 4, 1, 0, 3, 8], [6, 5, 2, 4, 1, 0, 3], [6, 5, 2, 4, 1, 0, 3], [13, 6, 5, 2, 4, 1, 0, 3], [12, 14, 6, 5, 2, 4, 1, 0, 3, 13], [15, 6, 12, 14, 5, 2, 4, 1, 0, 3, 13], [11, 16, 6, 10, 7, 9, 5, 2, 4, 1, 0, 3, 8, 15, 12, 14, 13], [6, 5, 2, 4, 1, 0, 3], [18, 6, 5, 2, 4, 1, 0, 3], [17, 19, 6, 11, 16, 10, 7, 9, 5, 2, 4, 1, 0, 3, 8, 15, 12, 14, 13, 18], [6, 20, 5, 2, 4, 1, 0, 3, 17, 19, 11, 16, 10, 7, 9, 8, 15, 12, 14, 13, 18], [21, 6, 0, 1, 2, 3, 4, 5, 7, 8, 9, 10, 11, 12, 13, 14, 15, 16, 17, 18, 19, 20]])
 .ret)))
def c18r1 : ACode :=
 (.seq (.seq (.reg 0 [⟨(some 41), (.mv (.tmp 9)), none, 0⟩, ⟨(some 42), (.bin .neq (.tmp 41) (.val (.lit (.int .i64 0)))), none, 0⟩])
 (.cond (.tmp 42) (.seq (.reg 0 [⟨(some 43), (.mv (.tmp 8)), none, 0⟩, ⟨(some 44), (.mv (.tmp 9)), none, 0⟩, ⟨(some 45), (.bin .eql (.tmp 43) (.tmp 44)), none, 0⟩, ⟨(some 46), (.mv (.tmp 45)), none, 0⟩, ⟨(some 47), (.mv (.tmp 7)), (some (46, true)), 0⟩, ⟨(some 48), (.len (.tmp 47)), (some (46, true)), 0⟩, ⟨(some 49), (.bin .eql (.tmp 48) (.val (.lit (.int .i64 0)))), (some (46, true)), 0⟩, ⟨(some 50), (.pick (.tmp 46) (.tmp 49) (.val (.lit (.bool false)))), none, 0⟩, ⟨(some 6), (.mv (.tmp 50)), none, 0⟩])
 .ret) .skip))
 (.seq (.reg 0 [⟨(some 52), (.mv (.tmp 0)), none, 0⟩, ⟨(some 53), (.mv (.tmp 1)), none, 0⟩, ⟨(some 54), (.call false (.val (.lit (.func (.func 70) #[] #[]))) [(.tmp 52), (.tmp 53)]), none, 0⟩, ⟨(some 51), (.mv (.tmp 54)), none, 0⟩, ⟨(some 55), (.ext (.tmp 51) 0), none, 0⟩, ⟨(some 56), (.ext (.tmp 51) 1), none, 0⟩, ⟨(some 10), (.mv (.tmp 55)), none, 0⟩, ⟨(some 11), (.mv (.tmp 56)), none, 0⟩])
 (.seq (.seq (.reg 0 [⟨(some 57), (.mv (.tmp 8)), none, 0⟩, ⟨(some 58), (.bin .neq (.tmp 57) (.val (.lit (.int .i64 0)))), none, 0⟩, ⟨(some 59), (.mv (.tmp 58)), none, 0⟩, ⟨(some 60), (.mv (.tmp 7)), (some (59, false)), 0⟩, ⟨(some 61), (.mv (.tmp 10)), (some (59, false)), 0⟩, ⟨(some 62), (.load 2 true (.tmp 5)), (some (59, false)), 0⟩, ⟨(some 63), (.call false (.val (.lit (.func (.func 84) #[] #[]))) [(.tmp 61), (.tmp 62)]), (some (59, false)), 0⟩, ⟨(some 64), (.call false (.val (.lit (.func (.func 48) #[] #[]))) [(.tmp 60), (.tmp 63)]), (some (59, false)), 0⟩, ⟨(some 65), (.not (.tmp 64)), (some (59, false)), 0⟩, ⟨(some 66), (.pick (.tmp 59) (.val (.lit (.bool true))) (.tmp 65)), none, 0⟩])
 (.cond (.tmp 66) (.seq (.reg 0 [⟨(some 6), (.mv (.val (.lit (.bool false)))), none, 0⟩])
 .ret) .skip))
 c18r2)))
theorem c18_cut : c18 = (.seq (.reg 1 [⟨(some 5), (.box 2 (.tmp 2)), none, 0⟩, ⟨(some 6), (.mv (.val (.lit (.bool false)))), none, 1⟩])
 (.seq (.seq (.reg 0 [⟨(some 16), (.call false (.val (.lit (.func (.func 19) #[] #[]))) []), none, 0⟩, ⟨(some 17), (.not (.tmp 16)), none, 0⟩])
 (.cond (.tmp 17) (.seq (.reg 0 [⟨(some 6), (.mv (.val (.lit (.bool false)))), none, 0⟩])
 .ret) .skip))
 (.seq (.seq (.reg 0 [⟨(some 18), (.mv (.tmp 1)), none, 0⟩, ⟨(some 19), (.call false (.val (.lit (.func (.func 25) #[] #[]))) [(.tmp 18), (.val (.lit (.int .i64 12)))]), none, 0⟩, ⟨(some 20), (.not (.tmp 19)), none, 0⟩])
 (.cond (.tmp 20) (.seq (.reg 0 [⟨(some 6), (.mv (.val (.lit (.bool true)))), none, 0⟩])
 .ret) .skip))
 (.seq (.dreg 0 [(0, ⟨(some 22), (.mv (.tmp 0)), none, 0⟩), (1, ⟨(some 23), (.mv (.tmp 1)), none, 0⟩), (2, ⟨(some 24), (.call false (.val (.lit (.func (.func 27) #[] #[]))) [(.tmp 23)]), none, 0⟩), (3, ⟨(some 25), (.load 2 true (.tmp 5)), none, 0⟩), (4, ⟨(some 26), (.call false (.val (.lit (.func (.func 83) #[] #[]))) [(.tmp 22), (.tmp 24), (.tmp 25)]), none, 0⟩), (5, ⟨(some 21), (.mv (.tmp 26)), none, 0⟩), (6, ⟨(some 27), (.ext (.tmp 21) 0), none, 0⟩), (7, ⟨(some 28), (.ext (.tmp 21) 1), none, 0⟩), (8, ⟨(some 7), (.mv (.tmp 27)), none, 0⟩), (9, ⟨(some 8), (.mv (.tmp 28)), none, 0⟩)] [[], [], [1], [], [0, 2, 3, 1], [4, 0, 2, 3, 1], [5, 4, 0, 2, 3, 1], [5, 4, 0, 2, 3, 1], [6, 4, 0, 1, 2, 3, 5], [7, 8, 0, 1, 2, 3, 4, 5, 6]])
 (.seq (.reg 0 [⟨(some 29), (.mv (.tmp 0)), none, 0⟩, ⟨(some 30), (.mv (.tmp 1)), none, 0⟩, ⟨(some 31), (.load 2 true (.tmp 5)), none, 0⟩, ⟨(some 32), (.call false (.val (.lit (.func (.func 55) #[] #[]))) [(.tmp 29), (.tmp 30), (.tmp 31)]), none, 0⟩, ⟨(some 9), (.mv (.tmp 32)), none, 0⟩])
 (.seq (.seq (.reg 0 [⟨(some 33), (.mv (.tmp 9)), none, 0⟩, ⟨(some 34), (.bin .eql (.tmp 33) (.val (.lit (.int .i64 0)))), none, 0⟩])
 (.cond (.tmp 34) (.reg 0 [⟨(some 36), (.mv (.tmp 0)), none, 0⟩, ⟨(some 37), (.mv (.tmp 1)), none, 0⟩, ⟨(some 38), (.call false (.val (.lit (.func (.func 49) #[] #[]))) [(.tmp 36), (.tmp 37)]), none, 0⟩, ⟨(some 35), (.mv (.tmp 38)), none, 0⟩, ⟨(some 39), (.ext (.tmp 35) 0), none, 0⟩, ⟨(some 40), (.ext (.tmp 35) 1), none, 0⟩, ⟨(some 9), (.mv (.tmp 40)), none, 0⟩]) .skip))
 c18r1)))))) := rfl
/-! law 18 -/
theorem rch_sub {z a : Nat} {M : List (List Int)} (hM : Sq z M) (ha : a < z) (hf : ∀ i j, i < z → j < z → -41000000 ≤ mget M i j ∧ mget M i j ≤ 41000000) : rchD (toR M) a z = subR (M.getD a []) (mget M a 0) z := by
  have hfar : far = 1099511627776 := rfl
  have hl := hM.hr a ha
  refine getD_ext (by rw [rchD_len, subR_len, hl]) fun i hi => ?_
  rw [rchD_len] at hi
  have h1 := hf a i ha hi
  have h2 := hf a 0 ha (by omega)
  rw [rchD_get _ _ _ _ hi, subR_get (by omega), if_pos hi, toR_get hM ha hi, toR_get hM ha (by omega)]
  unfold rv
  rw [if_pos (by omega), if_pos (by omega)]; rfl
theorem reach_ok {z a : Nat} {l : List Rd} (h : checkR z l = 0) (ha : a < z) (hr : ∃ r, r ≤ z ∧ (rnds (arcsL l l.length) z (r + 1)).at_ < 0) (hw : ((tabM (arcsL l l.length) z).getD 0 []).any isFar = false) :
    checkHt z l (subR ((tabM (arcsL l l.length) z).getD a []) (mget (tabM (arcsL l l.length) z) a 0) z) = (0, 0) ∧ mget (tabM (arcsL l l.length) z) a a = 0 := by
  have hfin := all_fin h hr hw
  obtain ⟨hz, hl, hrd⟩ := checkR_ok h
  obtain ⟨hA, hN, hok⟩ := arcs_ok hrd
  have hn : (arcsL l l.length).length ≤ 200 := by have := arcsL_len l l.length; omega
  obtain ⟨P, hP1, hP2⟩ := rest_bound hA hn hr (by omega)
  have hS := tab_stt hA hN (by omega) hP1 hP2
  have hag := arcs_get l l.length (Nat.le_refl _)
  have hro := rdErr_ok hrd
  have hfar : far = 1099511627776 := rfl
  generalize tabM (arcsL l l.length) z = M at *
  have hla := hS.sq.hr a ha
  have hget : ∀ k, k < z → (subR (M.getD a []) (mget M a 0) z).getD k 0 = mget M a k - mget M a 0 := fun k hk => by
    rw [subR_get (by omega), if_pos hk]; rfl
  have harc : ∀ k, k < (arcsL l l.length).length → mget M a ((arcsL l l.length).getD k ar0).t.toNat ≤ mget M a ((arcsL l l.length).getD k ar0).f.toNat + ((arcsL l l.length).getD k ar0).len := fun k hk => by
    have hAk := hA k hk
    have hf : ((arcsL l l.length).getD k ar0).f.toNat < z := by omega
    have ht : ((arcsL l l.length).getD k ar0).t.toNat < z := by omega
    have h3 := hS.opt [] _ _ _ hf ht List.nodup_nil (fun v hv => by simp at hv) (Wk.arc hk)
    have h4 := hS.cl _ a _ hf ha ht (by have := hfin a _ ha hf; omega) (by omega)
    omega
  refine ⟨ht_zero (by rw [subR_len, hla]) (fun k hk => by rw [hget k hk]; have h1 := hfin a k ha hk; have h2 := hfin a 0 ha (by omega); omega) fun i hi => ?_, hS.dg a ha⟩
  obtain ⟨k, m, hk, hm, e1, e2⟩ := hag i hi
  have a1 := harc k hk
  have a2 := harc m hm
  rw [e1] at a1
  rw [e2] at a2
  dsimp only at a1 a2
  have hi2 := hro i hi
  unfold keepsB
  rw [hget _ (by omega), hget _ (by omega)]
  simp only [Bool.and_eq_true, decide_eq_true_eq]
  omega
theorem to_reP {o z : Nat} {M : List (List Int)} {H : List Blk} (h : IsTo o z M H) (hM : Sq z M) (x y : Int) : rfyL (hget H) [.lsl o 0 z, rgA x y] = [tblV M, rgA x y] := by
  simp only [rfyL, List.map_cons, List.map_nil, to_rfy h hM]; rfl
theorem to_frzP {o z : Nat} {M : List (List Int)} {H : List Blk} (h : IsTo o z M H) (x y : Int) : IsTo o z M (freeze H (lidsL (hget H) [.lsl o 0 z, rgA x y])) ∧ ∀ j, (j < o ∨ o + z < j) → (freeze H (lidsL (hget H) [.lsl o 0 z, rgA x y]))[j]? = H[j]? := by
  refine ⟨h.freeze _, fun j hj => freeze_ne _ _ fun hm => ?_⟩
  simp only [lidsL, List.flatMap_cons, List.flatMap_nil, List.append_nil, List.mem_append] at hm
  rcases hm with hm | hm
  · have := to_lids h j hm; omega
  · simp [lids] at hm
theorem two_re {H : List Blk} {i j n : Nat} {o1 o2 : Bool} {xs : List Int} (h1 : H[i]? = some (.cells o1 false 1 (xs.map fun x => [i64 x]))) (h2 : H[j]? = some (.cells o2 false 1 (xs.map fun x => [i64 x]))) (hn : xs.length = n) : rfyL (hget H) [.lsl i 0 n, .lsl j 0 n] = [ints false xs, ints false xs] := by
  simp only [rfyL, List.map_cons, List.map_nil, rfy_row (d := 4) h1 hn, rfy_row (d := 4) h2 hn]
theorem flat_ints7 (h : Nat → Blk) (n : Nat) (xs : List Int) : (List.take n (List.map (fun x => [i64 x]) xs)).flatMap (fun r => r.flatMap (lids h 5)) = [] := by
  rw [List.flatMap_eq_nil_iff]
  intro r hr
  obtain ⟨x, _, rfl⟩ := List.mem_map.1 (List.mem_of_mem_take hr)
  rfl
set_option maxHeartbeats 8000000 in
theorem k18 (zi : Int) (nil : Bool) (l : List Rd) (a b : Int) : Fn Try.prog 18 [i64 zi, rdgs nil l, rgA a b] (bl true) [] := by
  refine fn_of e18 ?_
  have h19 := k19
  have h25 := k25 nil l 12
  cases hf : fewB l.length 12 with
  | false =>
    rw [hf] at h25
    clear hf
    unfold c18
    repeat' (first
      | ((with_reducible refine T_calm ?_ ?_); rfl)
      | with_reducible first
        | refine T_seq ?_
        | refine T_reg ?_
        | refine T_draw ?_
        | refine T_skip ?_
        | refine T_exit ?_
        | refine T_block ?_
        | refine T_cond_t rfl ?_
        | refine T_cond_f rfl ?_
        | refine wdW_cons rfl ?_
        | (show wcall _ false (.lit (.func (.func 19) _ _)) _ _ _ _; refine wcall_fn (h19) rfl (by simp [plainL]) ?_)
        | (show wcallX _ false (.lit (.func (.func 19) _ _)) _ _ _ _; refine wcallX_fn (h19) rfl (by simp [plainL, plain, plainR]) ?_)
        | (show wcall _ false (.lit (.func (.func 25) _ _)) _ _ _ _; refine wcall_fn (h25) rfl (by simp [plainL, plain]) ?_)
        | (show wcallX _ false (.lit (.func (.func 25) _ _)) _ _ _ _; refine wcallX_fn (h25) rfl (by simp [plainL, plain, plainR]) ?_)
        | ((first | refine T_cond rfl (fun hc => ?_) (fun hc => ?_) | refine wguard_split (fun hc => ?_) (fun hc => ?_) | refine wguardX_split (fun hc => ?_) (fun hc => ?_)) <;> have hd := hc <;> (try simp (disch := omega) only [wrapI] at hd) <;> have hs := hd <;> (try simp only [Bool.not_eq_true', Bool.not_eq_false', Bool.and_eq_true, Bool.and_eq_false_iff, Bool.or_eq_true, Bool.or_eq_false_iff, decide_eq_true_eq, decide_eq_false_iff_not, beq_iff_eq, bne_iff_ne, beq_eq_false_iff_ne, bne_eq_false_iff_eq, Bool.not_true, Bool.not_false, gt_iff_lt, ge_iff_le, Int.not_lt, Int.not_le, ne_eq, Decidable.not_not] at hd) <;> (try simp at hs))
        | refine T_ret ?_
        | refine leave_of (.inr rfl) _ rfl ?_
        | refine leave_of (.inl rfl) _ rfl ?_
        | refine leaveA_of (.inr rfl) _ rfl ?_
        | refine leaveA_of (.inl rfl) _ rfl ?_
        | refine wif_intro ?_ (fun hc => ?_)
        | refine And.intro ?_ ?_
        | intro hc
      | simp (maxSteps := 4000000) only [wops_nil, wops_cons, wstep_none, wrun_call, wrun_mv, wrun_not, wrun_box, get_mk, wop, aop, ev, look, put_some, writes, ores_some, thenK, boolV, AV.parts, isOne, tupOf, ofValue_int, List.map_cons, List.map_nil, List.length_cons, List.length_nil, List.getElem?_cons_zero, List.set_cons_zero, List.nil_append, List.append_nil, List.replicate_zero, List.replicate_succ, List.zipIdx_cons, List.zipIdx_nil, List.all_cons, List.all_nil, if_true, if_false, Nat.reduceEqDiff, Nat.reduceAdd, Nat.add_zero, Nat.zero_add, Nat.zero_ne_one, reduceCtorEq, Bool.not_true, Bool.not_false, Bool.and_true, eq_self, true_and, and_self, freeze, lidsL, lids, List.flatMap_cons, List.flatMap_nil, List.all_cons, ren, *]
      | simp (disch := omega) only [getD_ints, wrapI]
      | (with_reducible show wcall _ false (.lit (.func (.func 19) _ _)) _ _ _ _; refine wcall_fn (h19) ?_ ?_ ?_; (next => simp [rfyL, rfy, hget, ints, take_rfy]); (next => simp [plainL, plain, plainR]))
      | (with_reducible show wcallX _ false (.lit (.func (.func 19) _ _)) _ _ _ _; refine wcallX_fn (h19) ?_ ?_ ?_; (next => simp [rfyL, rfy, hget, ints, take_rfy]); (next => simp [plainL, plain, plainR]))
      | (with_reducible show wcall _ false (.lit (.func (.func 25) _ _)) _ _ _ _; refine wcall_fn (h25) ?_ ?_ ?_; (next => simp [rfyL, rfy, hget, ints, take_rfy]); (next => simp [plainL, plain, plainR]))
      | (with_reducible show wcallX _ false (.lit (.func (.func 25) _ _)) _ _ _ _; refine wcallX_fn (h25) ?_ ?_ ?_; (next => simp [rfyL, rfy, hget, ints, take_rfy]); (next => simp [plainL, plain, plainR]))
      | omega)
  | true =>
    rw [hf] at h25
    have hl : l.length < 1000000 := by unfold fewB at hf; simp at hf; omega
    clear hf
    have h27 := k27 nil l hl
    have hrl := rows4_len l
    have h55 := k55 zi nil l a b hl
    by_cases hd : (if checkR zi l ≠ 0 then checkR zi l else zErr zi a b) = 0
    · have hc : checkR zi l = 0 := by
        by_cases h : checkR zi l = 0
        · exact h
        · rw [if_pos h] at hd; exact hd
      rw [hd] at h55
      rw [if_neg (fun h => h hc)] at hd
      obtain ⟨hz, hl2, hrd⟩ := checkR_ok hc
      have hab : (0 ≤ a ∧ a ≤ zi - 1) ∧ (0 ≤ b ∧ b ≤ zi - 1) := by
        unfold zErr at hd
        split at hd
        · assumption
        · simp at hd
      obtain ⟨z, rfl⟩ : ∃ z : Nat, zi = z := ⟨zi.toNat, by omega⟩
      obtain ⟨x, rfl⟩ : ∃ x : Nat, a = x := ⟨a.toNat, by omega⟩
      obtain ⟨y, rfl⟩ : ∃ y : Nat, b = y := ⟨b.toNat, by omega⟩
      by_cases hcy : ∀ r, r ≤ z → 0 ≤ (rnds (arcsL l l.length) z (r + 1)).at_
      · have h83 := k83c (nil := false) (l := l) x y hc hd hcy
        have h49 := k49c (nil := nil) hc hcy
        clear hcy hrd
        unfold c18
        repeat' (first
          | ((with_reducible refine T_calm ?_ ?_); rfl)
          | with_reducible first
            | refine T_seq ?_
            | refine T_reg ?_
            | refine T_draw ?_
            | refine T_skip ?_
            | refine T_exit ?_
            | refine T_block ?_
            | refine T_cond_t rfl ?_
            | refine T_cond_f rfl ?_
            | refine wdW_cons rfl ?_
            | (show wcall _ false (.lit (.func (.func 19) _ _)) _ _ _ _; refine wcall_fn (h19) rfl (by simp [plainL]) ?_)
            | (show wcallX _ false (.lit (.func (.func 19) _ _)) _ _ _ _; refine wcallX_fn (h19) rfl (by simp [plainL, plain, plainR, take_rows4', flat_rows4', freeze1, renR_rows4, rows4_len]) ?_)
            | (show wcall _ false (.lit (.func (.func 25) _ _)) _ _ _ _; refine wcall_fn (h25) rfl (by simp [plainL, plain]) ?_)
            | (show wcallX _ false (.lit (.func (.func 25) _ _)) _ _ _ _; refine wcallX_fn (h25) rfl (by simp [plainL, plain, plainR, take_rows4', flat_rows4', freeze1, renR_rows4, rows4_len]) ?_)
            | (show wcall _ false (.lit (.func (.func 27) _ _)) _ _ _ _; refine wcall_fn (h27) rfl (by simp [plainL, plain, plainR, take_rows4', flat_rows4', freeze1, renR_rows4, rows4_len]) ?_)
            | (show wcallX _ false (.lit (.func (.func 27) _ _)) _ _ _ _; refine wcallX_fn (h27) rfl (by simp [plainL, plain]) ?_)
            | (show wcall _ false (.lit (.func (.func 83) _ _)) _ _ _ _; refine wcall_fn (h83) rfl (by simp [plainL, plain, plainR, take_rows4', flat_rows4', freeze1, renR_rows4, rows4_len]) ?_)
            | (show wcallX _ false (.lit (.func (.func 83) _ _)) _ _ _ _; refine wcallX_fn (h83) rfl (by simp [plainL, plain]) ?_)
            | (show wcall _ false (.lit (.func (.func 55) _ _)) _ _ _ _; refine wcall_fn (h55) rfl (by simp [plainL, plain]) ?_)
            | (show wcallX _ false (.lit (.func (.func 55) _ _)) _ _ _ _; refine wcallX_fn (h55) rfl (by simp [plainL, plain, plainR, take_rows4', flat_rows4', freeze1, renR_rows4, rows4_len]) ?_)
            | (show wcall _ false (.lit (.func (.func 49) _ _)) _ _ _ _; refine wcall_fn (h49) rfl (by simp [plainL, plain]) ?_)
            | (show wcallX _ false (.lit (.func (.func 49) _ _)) _ _ _ _; refine wcallX_fn (h49) rfl (by simp [plainL, plain, plainR, take_rows4', flat_rows4', freeze1, renR_rows4, rows4_len]) ?_)
            | ((first | refine T_cond rfl (fun hc => ?_) (fun hc => ?_) | refine wguard_split (fun hc => ?_) (fun hc => ?_) | refine wguardX_split (fun hc => ?_) (fun hc => ?_)) <;> have hd := hc <;> (try simp (disch := omega) only [wrapI] at hd) <;> have hs := hd <;> (try simp only [Bool.not_eq_true', Bool.not_eq_false', Bool.and_eq_true, Bool.and_eq_false_iff, Bool.or_eq_true, Bool.or_eq_false_iff, decide_eq_true_eq, decide_eq_false_iff_not, beq_iff_eq, bne_iff_ne, beq_eq_false_iff_ne, bne_eq_false_iff_eq, Bool.not_true, Bool.not_false, gt_iff_lt, ge_iff_le, Int.not_lt, Int.not_le, ne_eq, Decidable.not_not] at hd) <;> (try simp at hs))
            | refine T_ret ?_
            | refine leave_of (.inr rfl) _ rfl ?_
            | refine leave_of (.inl rfl) _ rfl ?_
            | refine leaveA_of (.inr rfl) _ rfl ?_
            | refine leaveA_of (.inl rfl) _ rfl ?_
            | refine wif_intro ?_ (fun hc => ?_)
            | refine And.intro ?_ ?_
            | intro hc
          | simp (maxSteps := 4000000) only [wops_nil, wops_cons, wstep_none, wstep_some, wguard_true, wrun_call, wrun_mv, wrun_pick, wrun_bin, wrun_not, wrun_ext, wrun_load, wrun_len, wrun_box, wrunX_mv, wrunX_ext, wrunX_load, wdW_nil, wstepX_none, wrunX_call, get_mk, wop, aop, ev, look, put_some, writes, ores_some, ores_map, ores_bind, binV, thenK, boolV, intV, lenOf, value, cut, hget, AV.parts, isOne, toLits, mkAgg, tupOf, ofValue_int, List.map_cons, List.map_nil, List.length_cons, List.length_nil, List.getElem?_cons_zero, List.getElem?_cons_succ, List.set_cons_zero, List.set_cons_succ, List.take_succ_cons, List.take_nil, List.drop_zero, List.cons_append, List.nil_append, List.append_nil, List.replicate_zero, List.replicate_succ, List.getD_cons_zero, List.zipIdx_cons, List.zipIdx_nil, List.all_cons, List.all_nil, Option.pure_def, Option.bind_eq_bind, Option.getD_some, Option.map_some, if_true, if_false, Nat.reduceEqDiff, Nat.reduceAdd, Nat.add_zero, Nat.zero_add, Nat.zero_ne_one, reduceCtorEq, Bool.not_true, Bool.and_true, eq_self, true_and, and_self, beq_self_eq_true, freeze, lidsL, lids, List.flatMap_cons, List.flatMap_nil, List.all_cons, ren, renL, renR, renB, shiftρ, flat_rows4', freeze1, renR_rows4, *]
          | simp (disch := omega) only [getD_ints, wrapI]
          | (with_reducible show wcall _ false (.lit (.func (.func 19) _ _)) _ _ _ _; refine wcall_fn (h19) ?_ ?_ ?_; (next => simp [rfyL, rfy, hget, ints, take_rfy, take_rows4', flat_rows4', freeze1, renR_rows4, rows4_len]); (next => simp [plainL, plain, plainR, take_rows4', flat_rows4', freeze1, renR_rows4, rows4_len]))
          | (with_reducible show wcallX _ false (.lit (.func (.func 19) _ _)) _ _ _ _; refine wcallX_fn (h19) ?_ ?_ ?_; (next => simp [rfyL, rfy, hget, ints, take_rfy, take_rows4', flat_rows4', freeze1, renR_rows4, rows4_len]); (next => simp [plainL, plain, plainR, take_rows4', flat_rows4', freeze1, renR_rows4, rows4_len]))
          | (with_reducible show wcall _ false (.lit (.func (.func 25) _ _)) _ _ _ _; refine wcall_fn (h25) ?_ ?_ ?_; (next => simp [rfyL, rfy, hget, ints, take_rfy, take_rows4', flat_rows4', freeze1, renR_rows4, rows4_len]); (next => simp [plainL, plain, plainR, take_rows4', flat_rows4', freeze1, renR_rows4, rows4_len]))
          | (with_reducible show wcallX _ false (.lit (.func (.func 25) _ _)) _ _ _ _; refine wcallX_fn (h25) ?_ ?_ ?_; (next => simp [rfyL, rfy, hget, ints, take_rfy, take_rows4', flat_rows4', freeze1, renR_rows4, rows4_len]); (next => simp [plainL, plain, plainR, take_rows4', flat_rows4', freeze1, renR_rows4, rows4_len]))
          | (with_reducible show wcall _ false (.lit (.func (.func 27) _ _)) _ _ _ _; refine wcall_fn (h27) ?_ ?_ ?_; (next => simp [rfyL, rfy, hget, ints, take_rfy, take_rows4', flat_rows4', freeze1, renR_rows4, rows4_len]); (next => simp [plainL, plain, plainR, take_rows4', flat_rows4', freeze1, renR_rows4, rows4_len]))
          | (with_reducible show wcallX _ false (.lit (.func (.func 27) _ _)) _ _ _ _; refine wcallX_fn (h27) ?_ ?_ ?_; (next => simp [rfyL, rfy, hget, ints, take_rfy, take_rows4', flat_rows4', freeze1, renR_rows4, rows4_len]); (next => simp [plainL, plain, plainR, take_rows4', flat_rows4', freeze1, renR_rows4, rows4_len]))
          | (with_reducible show wcall _ false (.lit (.func (.func 83) _ _)) _ _ _ _; refine wcall_fn (h83) ?_ ?_ ?_; (next => simp [rfyL, rfy, hget, ints, take_rfy, take_rows4', flat_rows4', freeze1, renR_rows4, rows4_len]); (next => simp [plainL, plain, plainR, take_rows4', flat_rows4', freeze1, renR_rows4, rows4_len]))
          | (with_reducible show wcallX _ false (.lit (.func (.func 83) _ _)) _ _ _ _; refine wcallX_fn (h83) ?_ ?_ ?_; (next => simp [rfyL, rfy, hget, take_rows4', rows4_len]); (next => simp [plainL, plain]))
          | (with_reducible show wcall _ false (.lit (.func (.func 55) _ _)) _ _ _ _; refine wcall_fn (h55) ?_ ?_ ?_; (next => simp [rfyL, rfy, hget, ints, take_rfy, take_rows4', flat_rows4', freeze1, renR_rows4, rows4_len]); (next => simp [plainL, plain, plainR, take_rows4', flat_rows4', freeze1, renR_rows4, rows4_len]))
          | (with_reducible show wcallX _ false (.lit (.func (.func 55) _ _)) _ _ _ _; refine wcallX_fn (h55) ?_ ?_ ?_; (next => simp [rfyL, rfy, hget, ints, take_rfy, take_rows4', flat_rows4', freeze1, renR_rows4, rows4_len]); (next => simp [plainL, plain, plainR, take_rows4', flat_rows4', freeze1, renR_rows4, rows4_len]))
          | (with_reducible show wcall _ false (.lit (.func (.func 49) _ _)) _ _ _ _; refine wcall_fn (h49) ?_ ?_ ?_; (next => simp [rfyL, rfy, hget, ints, take_rfy, take_rows4', flat_rows4', freeze1, renR_rows4, rows4_len]); (next => simp [plainL, plain, plainR, take_rows4', flat_rows4', freeze1, renR_rows4, rows4_len]))
          | (with_reducible show wcallX _ false (.lit (.func (.func 49) _ _)) _ _ _ _; refine wcallX_fn (h49) ?_ ?_ ?_; (next => simp [rfyL, rfy, hget, ints, take_rfy, take_rows4', flat_rows4', freeze1, renR_rows4, rows4_len]); (next => simp [plainL, plain, plainR, take_rows4', flat_rows4', freeze1, renR_rows4, rows4_len]))
          | (with_reducible refine wdW_cons ?_ ?_; (next => simp [chk, foot, compatB, argsOf, St.get, target, ev, look, lidsL, lids, hget, kind, wids, tops, opds, topId, take_rows4', flat_rows4', freeze1, renR_rows4, rows4_len]))
          | omega)
        all_goals first | rfl | trace_state
      · have hr : ∃ r, r ≤ z ∧ (rnds (arcsL l l.length) z (r + 1)).at_ < 0 := by
          rcases Classical.em (∃ r, r ≤ z ∧ (rnds (arcsL l l.length) z (r + 1)).at_ < 0) with h | h
          · exact h
          · exact (hcy fun r hr => by
              rcases Int.lt_or_le (rnds (arcsL l l.length) z (r + 1)).at_ 0 with h2 | h2
              · exact (h ⟨r, hr, h2⟩).elim
              · exact h2).elim
        obtain ⟨k49a, k49b⟩ := k49n (nil := nil) hc hr
        cases hw : ((tabM (arcsL l l.length) z).getD 0 []).any isFar with
        | true =>
          have h83 := k83f (nil := false) (l := l) x y hc hd hr hw
          have h49 := k49a hw
          clear k49a k49b hw hr hcy hrd
          unfold c18
          repeat' (first
            | ((with_reducible refine T_calm ?_ ?_); rfl)
            | with_reducible first
              | refine T_seq ?_
              | refine T_reg ?_
              | refine T_draw ?_
              | refine T_skip ?_
              | refine T_exit ?_
              | refine T_block ?_
              | refine T_cond_t rfl ?_
              | refine T_cond_f rfl ?_
              | refine wdW_cons rfl ?_
              | (show wcall _ false (.lit (.func (.func 19) _ _)) _ _ _ _; refine wcall_fn (h19) rfl (by simp [plainL]) ?_)
              | (show wcallX _ false (.lit (.func (.func 19) _ _)) _ _ _ _; refine wcallX_fn (h19) rfl (by simp [plainL, plain, plainR, take_rows4', flat_rows4', freeze1, renR_rows4, rows4_len]) ?_)
              | (show wcall _ false (.lit (.func (.func 25) _ _)) _ _ _ _; refine wcall_fn (h25) rfl (by simp [plainL, plain]) ?_)
              | (show wcallX _ false (.lit (.func (.func 25) _ _)) _ _ _ _; refine wcallX_fn (h25) rfl (by simp [plainL, plain, plainR, take_rows4', flat_rows4', freeze1, renR_rows4, rows4_len]) ?_)
              | (show wcall _ false (.lit (.func (.func 27) _ _)) _ _ _ _; refine wcall_fn (h27) rfl (by simp [plainL, plain, plainR, take_rows4', flat_rows4', freeze1, renR_rows4, rows4_len]) ?_)
              | (show wcallX _ false (.lit (.func (.func 27) _ _)) _ _ _ _; refine wcallX_fn (h27) rfl (by simp [plainL, plain]) ?_)
              | (show wcall _ false (.lit (.func (.func 83) _ _)) _ _ _ _; refine wcall_fn (h83) rfl (by simp [plainL, plain, plainR, take_rows4', flat_rows4', freeze1, renR_rows4, rows4_len]) ?_)
              | (show wcallX _ false (.lit (.func (.func 83) _ _)) _ _ _ _; refine wcallX_fn (h83) rfl (by simp [plainL, plain]) ?_)
              | (show wcall _ false (.lit (.func (.func 55) _ _)) _ _ _ _; refine wcall_fn (h55) rfl (by simp [plainL, plain]) ?_)
              | (show wcallX _ false (.lit (.func (.func 55) _ _)) _ _ _ _; refine wcallX_fn (h55) rfl (by simp [plainL, plain, plainR, take_rows4', flat_rows4', freeze1, renR_rows4, rows4_len]) ?_)
              | (show wcall _ false (.lit (.func (.func 49) _ _)) _ _ _ _; refine wcall_fn (h49) rfl (by simp [plainL, plain]) ?_)
              | (show wcallX _ false (.lit (.func (.func 49) _ _)) _ _ _ _; refine wcallX_fn (h49) rfl (by simp [plainL, plain, plainR, take_rows4', flat_rows4', freeze1, renR_rows4, rows4_len]) ?_)
              | ((first | refine T_cond rfl (fun hc => ?_) (fun hc => ?_) | refine wguard_split (fun hc => ?_) (fun hc => ?_) | refine wguardX_split (fun hc => ?_) (fun hc => ?_)) <;> have hd := hc <;> (try simp (disch := omega) only [wrapI] at hd) <;> have hs := hd <;> (try simp only [Bool.not_eq_true', Bool.not_eq_false', Bool.and_eq_true, Bool.and_eq_false_iff, Bool.or_eq_true, Bool.or_eq_false_iff, decide_eq_true_eq, decide_eq_false_iff_not, beq_iff_eq, bne_iff_ne, beq_eq_false_iff_ne, bne_eq_false_iff_eq, Bool.not_true, Bool.not_false, gt_iff_lt, ge_iff_le, Int.not_lt, Int.not_le, ne_eq, Decidable.not_not] at hd) <;> (try simp at hs))
              | refine T_ret ?_
              | refine leave_of (.inr rfl) _ rfl ?_
              | refine leave_of (.inl rfl) _ rfl ?_
              | refine leaveA_of (.inr rfl) _ rfl ?_
              | refine leaveA_of (.inl rfl) _ rfl ?_
              | refine wif_intro ?_ (fun hc => ?_)
              | refine And.intro ?_ ?_
              | intro hc
            | simp (maxSteps := 4000000) only [wops_nil, wops_cons, wstep_none, wstep_some, wguard_true, wrun_call, wrun_mv, wrun_pick, wrun_bin, wrun_not, wrun_ext, wrun_load, wrun_len, wrun_box, wrunX_mv, wrunX_ext, wrunX_load, wdW_nil, wstepX_none, wrunX_call, get_mk, wop, aop, ev, look, put_some, writes, ores_some, ores_map, ores_bind, binV, thenK, boolV, intV, lenOf, value, cut, hget, AV.parts, isOne, toLits, mkAgg, tupOf, ofValue_int, List.map_cons, List.map_nil, List.length_cons, List.length_nil, List.getElem?_cons_zero, List.getElem?_cons_succ, List.set_cons_zero, List.set_cons_succ, List.take_succ_cons, List.take_nil, List.drop_zero, List.cons_append, List.nil_append, List.append_nil, List.replicate_zero, List.replicate_succ, List.getD_cons_zero, List.zipIdx_cons, List.zipIdx_nil, List.all_cons, List.all_nil, Option.pure_def, Option.bind_eq_bind, Option.getD_some, Option.map_some, if_true, if_false, Nat.reduceEqDiff, Nat.reduceAdd, Nat.add_zero, Nat.zero_add, Nat.zero_ne_one, reduceCtorEq, Bool.not_true, Bool.and_true, eq_self, true_and, and_self, beq_self_eq_true, freeze, lidsL, lids, List.flatMap_cons, List.flatMap_nil, List.all_cons, ren, renL, renR, renB, shiftρ, flat_rows4', freeze1, renR_rows4, *]
            | simp (disch := omega) only [getD_ints, wrapI]
            | (with_reducible show wcall _ false (.lit (.func (.func 19) _ _)) _ _ _ _; refine wcall_fn (h19) ?_ ?_ ?_; (next => simp [rfyL, rfy, hget, ints, take_rfy, take_rows4', flat_rows4', freeze1, renR_rows4, rows4_len]); (next => simp [plainL, plain, plainR, take_rows4', flat_rows4', freeze1, renR_rows4, rows4_len]))
            | (with_reducible show wcallX _ false (.lit (.func (.func 19) _ _)) _ _ _ _; refine wcallX_fn (h19) ?_ ?_ ?_; (next => simp [rfyL, rfy, hget, ints, take_rfy, take_rows4', flat_rows4', freeze1, renR_rows4, rows4_len]); (next => simp [plainL, plain, plainR, take_rows4', flat_rows4', freeze1, renR_rows4, rows4_len]))
            | (with_reducible show wcall _ false (.lit (.func (.func 25) _ _)) _ _ _ _; refine wcall_fn (h25) ?_ ?_ ?_; (next => simp [rfyL, rfy, hget, ints, take_rfy, take_rows4', flat_rows4', freeze1, renR_rows4, rows4_len]); (next => simp [plainL, plain, plainR, take_rows4', flat_rows4', freeze1, renR_rows4, rows4_len]))
            | (with_reducible show wcallX _ false (.lit (.func (.func 25) _ _)) _ _ _ _; refine wcallX_fn (h25) ?_ ?_ ?_; (next => simp [rfyL, rfy, hget, ints, take_rfy, take_rows4', flat_rows4', freeze1, renR_rows4, rows4_len]); (next => simp [plainL, plain, plainR, take_rows4', flat_rows4', freeze1, renR_rows4, rows4_len]))
            | (with_reducible show wcall _ false (.lit (.func (.func 27) _ _)) _ _ _ _; refine wcall_fn (h27) ?_ ?_ ?_; (next => simp [rfyL, rfy, hget, ints, take_rfy, take_rows4', flat_rows4', freeze1, renR_rows4, rows4_len]); (next => simp [plainL, plain, plainR, take_rows4', flat_rows4', freeze1, renR_rows4, rows4_len]))
            | (with_reducible show wcallX _ false (.lit (.func (.func 27) _ _)) _ _ _ _; refine wcallX_fn (h27) ?_ ?_ ?_; (next => simp [rfyL, rfy, hget, ints, take_rfy, take_rows4', flat_rows4', freeze1, renR_rows4, rows4_len]); (next => simp [plainL, plain, plainR, take_rows4', flat_rows4', freeze1, renR_rows4, rows4_len]))
            | (with_reducible show wcall _ false (.lit (.func (.func 83) _ _)) _ _ _ _; refine wcall_fn (h83) ?_ ?_ ?_; (next => simp [rfyL, rfy, hget, ints, take_rfy, take_rows4', flat_rows4', freeze1, renR_rows4, rows4_len]); (next => simp [plainL, plain, plainR, take_rows4', flat_rows4', freeze1, renR_rows4, rows4_len]))
            | (with_reducible show wcallX _ false (.lit (.func (.func 83) _ _)) _ _ _ _; refine wcallX_fn (h83) ?_ ?_ ?_; (next => simp [rfyL, rfy, hget, take_rows4', rows4_len]); (next => simp [plainL, plain]))
            | (with_reducible show wcall _ false (.lit (.func (.func 55) _ _)) _ _ _ _; refine wcall_fn (h55) ?_ ?_ ?_; (next => simp [rfyL, rfy, hget, ints, take_rfy, take_rows4', flat_rows4', freeze1, renR_rows4, rows4_len]); (next => simp [plainL, plain, plainR, take_rows4', flat_rows4', freeze1, renR_rows4, rows4_len]))
            | (with_reducible show wcallX _ false (.lit (.func (.func 55) _ _)) _ _ _ _; refine wcallX_fn (h55) ?_ ?_ ?_; (next => simp [rfyL, rfy, hget, ints, take_rfy, take_rows4', flat_rows4', freeze1, renR_rows4, rows4_len]); (next => simp [plainL, plain, plainR, take_rows4', flat_rows4', freeze1, renR_rows4, rows4_len]))
            | (with_reducible show wcall _ false (.lit (.func (.func 49) _ _)) _ _ _ _; refine wcall_fn (h49) ?_ ?_ ?_; (next => simp [rfyL, rfy, hget, ints, take_rfy, take_rows4', flat_rows4', freeze1, renR_rows4, rows4_len]); (next => simp [plainL, plain, plainR, take_rows4', flat_rows4', freeze1, renR_rows4, rows4_len]))
            | (with_reducible show wcallX _ false (.lit (.func (.func 49) _ _)) _ _ _ _; refine wcallX_fn (h49) ?_ ?_ ?_; (next => simp [rfyL, rfy, hget, ints, take_rfy, take_rows4', flat_rows4', freeze1, renR_rows4, rows4_len]); (next => simp [plainL, plain, plainR, take_rows4', flat_rows4', freeze1, renR_rows4, rows4_len]))
            | (with_reducible refine wdW_cons ?_ ?_; (next => simp [chk, foot, compatB, argsOf, St.get, target, ev, look, lidsL, lids, hget, kind, wids, tops, opds, topId, take_rows4', flat_rows4', freeze1, renR_rows4, rows4_len]))
            | omega)
          all_goals first | rfl | trace_state
        | false =>
          have h83 := k83n (nil := false) (l := l) (a := x) (b := y) hc (by omega) (by omega) hr hw
          have h49 := k49b hw
          have h70 := (k70 (nil := nil) hc).1 hr
          have h54 := k54n (nil := false) (a := x) (b := y) hc (by omega) (by omega) hr
          obtain ⟨hok1, hdg⟩ := reach_ok hc (a := x) (by omega) hr hw
          have hfin := all_fin hc hr hw
          have hM : Sq z (tabM (arcsL l l.length) z) := by
            obtain ⟨hA, hN, hok⟩ := arcs_ok hrd
            have hn : (arcsL l l.length).length ≤ 200 := by have := arcsL_len l l.length; omega
            obtain ⟨P, hP1, hP2⟩ := rest_bound hA hn hr (by omega)
            exact (tab_stt hA hN (by omega) hP1 hP2).sq
          have h26 := fun ys (hy : ys.length < 1000000) => k26 (nil := false) (nh := false) (l := l) (ys := ys) (z := z) hy hc
          generalize tabM (arcsL l l.length) z = M at *
          have hfar : far = 1099511627776 := rfl
          have hxy := hfin x y (by omega) (by omega)
          rw [if_pos (by omega)] at h54
          have hD := toR_sq hM
          have hDb : ∀ i j, i < z → j < z → -10000000000000 ≤ mget (toR M) i j ∧ mget (toR M) i j ≤ 10000000000000 := fun i j hi hj => by
            rw [toR_get hM hi hj]
            have := hfin i j hi hj
            unfold rv
            split <;> omega
          have h84 := k84 (b := y) (z := z) (a := x) (by omega) hD (by omega) hDb
          rw [rch_sub hM (by omega) hfin] at h84
          have hla := hM.hr x (by omega)
          have hxl := subR_len (M.getD x []) (mget M x 0) z
          have hxb : (subR (M.getD x []) (mget M x 0) z).getD y 0 = mget M x y - mget M x 0 := by rw [subR_get (by omega), if_pos (by omega)]; rfl
          have hxa : (subR (M.getD x []) (mget M x 0) z).getD x 0 = mget M x x - mget M x 0 := by rw [subR_get (by omega), if_pos (by omega)]; rfl
          rw [hdg] at hxa
          have hx0 := hfin x 0 (by omega) (by omega)
          generalize subR (M.getD x []) (mget M x 0) z = xs at *
          have h26 := h26 xs (by omega)
          rw [hok1] at h26
          have h48 := k48 false false xs (by omega)
          have h28 := k28 false xs (by omega)
          have hxz : xs.length = z := by omega
          rw [hxz] at h28
          have e00 : Int.toNat 0 = 0 := rfl
          have e01 : Int.toNat 1 = 1 := rfl
          have g1 : (xs.map fun x => [i64 x]).getD x [] = [i64 (-(mget M x 0))] := by rw [getD_ints (by omega), hxa, Int.zero_sub]
          have g2 : (xs.map fun x => [i64 x]).getD y [] = [i64 (mget M x y - mget M x 0)] := by rw [getD_ints (by omega), hxb]
          have ew : IntKind.i64.wrap (mget M x y - mget M x 0 - -(mget M x 0)) = mget M x y := by rw [show mget M x y - mget M x 0 - -(mget M x 0) = mget M x y by omega]; exact wrapI (by omega) (by omega)
          have hpl1 : plainL [tblV (toR M), rgA x y] = true := by simp only [plainL, plain_tbl]; rfl
          have hpl2 : plainL [ints false xs, ints false xs] = true := by simp [plainL]
          have htab := tab_at (M := toR M) hD.hl [.cells true false 2 [[i64 x, i64 y]], .cells true false 1 (xs.map fun x => [i64 x])]
          clear k49a k49b hw hr hcy hrd hok1 hfin hDb hxb hxa hdg hla hxl hM hd
          replace hD := And.intro hD trivial
          replace htab := And.intro htab trivial
          rw [c18_cut]
          generalize toR M = D at *
          repeat' (first
            | ((with_reducible refine T_calm ?_ ?_); rfl)
            | with_reducible first
              | refine T_seq ?_
              | refine T_reg ?_
              | refine T_draw ?_
              | refine T_skip ?_
              | refine T_exit ?_
              | refine T_block ?_
              | refine T_cond_t rfl ?_
              | refine T_cond_f rfl ?_
              | refine wdW_cons rfl ?_
              | (show wcall _ false (.lit (.func (.func 19) _ _)) _ _ _ _; refine wcall_fn (h19) rfl (by simp [plainL]) ?_)
              | (show wcallX _ false (.lit (.func (.func 19) _ _)) _ _ _ _; refine wcallX_fn (h19) rfl (by simp [plainL, plain, plainR, take_rows4', flat_rows4', freeze1, renR_rows4, rows4_len]) ?_)
              | (show wcall _ false (.lit (.func (.func 25) _ _)) _ _ _ _; refine wcall_fn (h25) rfl (by simp [plainL, plain]) ?_)
              | (show wcallX _ false (.lit (.func (.func 25) _ _)) _ _ _ _; refine wcallX_fn (h25) rfl (by simp [plainL, plain, plainR, take_rows4', flat_rows4', freeze1, renR_rows4, rows4_len]) ?_)
              | (show wcall _ false (.lit (.func (.func 27) _ _)) _ _ _ _; refine wcall_fn (h27) rfl (by simp [plainL, plain, plainR, take_rows4', flat_rows4', freeze1, renR_rows4, rows4_len]) ?_)
              | (show wcallX _ false (.lit (.func (.func 27) _ _)) _ _ _ _; refine wcallX_fn (h27) rfl (by simp [plainL, plain]) ?_)
              | (show wcall _ false (.lit (.func (.func 83) _ _)) _ _ _ _; refine wcall_fn (h83) rfl (by simp [plainL, plain, plainR, take_rows4', flat_rows4', freeze1, renR_rows4, rows4_len]) ?_)
              | (show wcallX _ false (.lit (.func (.func 83) _ _)) _ _ _ _; refine wcallX_fn (h83) rfl (by simp [plainL, plain]) ?_)
              | (show wcall _ false (.lit (.func (.func 55) _ _)) _ _ _ _; refine wcall_fn (h55) rfl (by simp [plainL, plain]) ?_)
              | (show wcallX _ false (.lit (.func (.func 55) _ _)) _ _ _ _; refine wcallX_fn (h55) rfl (by simp [plainL, plain, plainR, take_rows4', flat_rows4', freeze1, renR_rows4, rows4_len]) ?_)
              | (show wcall _ false (.lit (.func (.func 49) _ _)) _ _ _ _; refine wcall_fn (h49) rfl (by simp [plainL, plain]) ?_)
              | (show wcallX _ false (.lit (.func (.func 49) _ _)) _ _ _ _; refine wcallX_fn (h49) rfl (by simp [plainL, plain, plainR, take_rows4', flat_rows4', freeze1, renR_rows4, rows4_len]) ?_)
              | ((first | refine T_cond rfl (fun hc => ?_) (fun hc => ?_) | refine wguard_split (fun hc => ?_) (fun hc => ?_) | refine wguardX_split (fun hc => ?_) (fun hc => ?_)) <;> have hd := hc <;> (try simp (disch := omega) only [wrapI] at hd) <;> have hs := hd <;> (try simp only [Bool.not_eq_true', Bool.not_eq_false', Bool.and_eq_true, Bool.and_eq_false_iff, Bool.or_eq_true, Bool.or_eq_false_iff, decide_eq_true_eq, decide_eq_false_iff_not, beq_iff_eq, bne_iff_ne, beq_eq_false_iff_ne, bne_eq_false_iff_eq, Bool.not_true, Bool.not_false, gt_iff_lt, ge_iff_le, Int.not_lt, Int.not_le, ne_eq, Decidable.not_not] at hd) <;> (try simp at hs))
              | refine T_ret ?_
              | refine leave_of (.inr rfl) _ rfl ?_
              | refine leave_of (.inl rfl) _ rfl ?_
              | refine leaveA_of (.inr rfl) _ rfl ?_
              | refine leaveA_of (.inl rfl) _ rfl ?_
              | refine wif_intro ?_ (fun hc => ?_)
              | refine And.intro ?_ ?_
              | intro hc
            | simp (maxSteps := 4000000) only [wops_nil, wops_cons, wstep_none, wrun_call, wrun_mv, wrun_bin, wrun_not, wrun_ext, wrun_load, wrun_box, wrunX_mv, wrunX_ext, wrunX_load, wdW_nil, wstepX_none, wrunX_call, wop, aop, ev, look, put_some, writes, ores_some, binV, thenK, boolV, value, cut, hget, AV.parts, isOne, toLits, mkAgg, ofValue_int, List.map_cons, List.map_nil, List.length_cons, List.length_nil, List.getElem?_cons_zero, List.getElem?_cons_succ, List.set_cons_zero, List.set_cons_succ, List.take_succ_cons, List.take_nil, List.drop_zero, List.cons_append, List.nil_append, List.append_nil, List.replicate_zero, List.replicate_succ, List.getD_cons_zero, List.zipIdx_cons, List.zipIdx_nil, List.all_cons, List.all_nil, Option.getD_some, Option.map_some, if_true, if_false, Nat.reduceEqDiff, Nat.reduceAdd, Nat.add_zero, Nat.zero_add, Nat.zero_ne_one, reduceCtorEq, Bool.not_true, Bool.and_true, eq_self, true_and, and_self, beq_self_eq_true, freeze, lidsL, lids, List.flatMap_cons, List.flatMap_nil, List.all_cons, ren, renL, renB, shiftρ, renR_ints, flat_rows4', freeze1, renR_rows4, *]
            | simp (disch := omega) only [getD_ints, wrapI]
            | (with_reducible show wcall _ false (.lit (.func (.func 19) _ _)) _ _ _ _; refine wcall_fn (h19) ?_ ?_ ?_; (next => simp [rfyL, rfy, hget, ints, take_rfy, take_rows4', flat_rows4', freeze1, renR_rows4, rows4_len]); (next => simp [plainL, plain, plainR, take_rows4', flat_rows4', freeze1, renR_rows4, rows4_len]))
            | (with_reducible show wcallX _ false (.lit (.func (.func 19) _ _)) _ _ _ _; refine wcallX_fn (h19) ?_ ?_ ?_; (next => simp [rfyL, rfy, hget, ints, take_rfy, take_rows4', flat_rows4', freeze1, renR_rows4, rows4_len]); (next => simp [plainL, plain, plainR, take_rows4', flat_rows4', freeze1, renR_rows4, rows4_len]))
            | (with_reducible show wcall _ false (.lit (.func (.func 25) _ _)) _ _ _ _; refine wcall_fn (h25) ?_ ?_ ?_; (next => simp [rfyL, rfy, hget, ints, take_rfy, take_rows4', flat_rows4', freeze1, renR_rows4, rows4_len]); (next => simp [plainL, plain, plainR, take_rows4', flat_rows4', freeze1, renR_rows4, rows4_len]))
            | (with_reducible show wcallX _ false (.lit (.func (.func 25) _ _)) _ _ _ _; refine wcallX_fn (h25) ?_ ?_ ?_; (next => simp [rfyL, rfy, hget, ints, take_rfy, take_rows4', flat_rows4', freeze1, renR_rows4, rows4_len]); (next => simp [plainL, plain, plainR, take_rows4', flat_rows4', freeze1, renR_rows4, rows4_len]))
            | (with_reducible show wcall _ false (.lit (.func (.func 27) _ _)) _ _ _ _; refine wcall_fn (h27) ?_ ?_ ?_; (next => simp [rfyL, rfy, hget, ints, take_rfy, take_rows4', flat_rows4', freeze1, renR_rows4, rows4_len]); (next => simp [plainL, plain, plainR, take_rows4', flat_rows4', freeze1, renR_rows4, rows4_len]))
            | (with_reducible show wcallX _ false (.lit (.func (.func 27) _ _)) _ _ _ _; refine wcallX_fn (h27) ?_ ?_ ?_; (next => simp [rfyL, rfy, hget, ints, take_rfy, take_rows4', flat_rows4', freeze1, renR_rows4, rows4_len]); (next => simp [plainL, plain, plainR, take_rows4', flat_rows4', freeze1, renR_rows4, rows4_len]))
            | (with_reducible show wcall _ false (.lit (.func (.func 83) _ _)) _ _ _ _; refine wcall_fn (h83) ?_ ?_ ?_; (next => simp [rfyL, rfy, hget, ints, take_rfy, take_rows4', flat_rows4', freeze1, renR_rows4, rows4_len]); (next => simp [plainL, plain, plainR, take_rows4', flat_rows4', freeze1, renR_rows4, rows4_len]))
            | (with_reducible show wcallX _ false (.lit (.func (.func 83) _ _)) _ _ _ _; refine wcallX_fn (h83) ?_ ?_ ?_; (next => simp [rfyL, rfy, hget, take_rows4', rows4_len]); (next => simp [plainL, plain]))
            | (with_reducible show wcall _ false (.lit (.func (.func 55) _ _)) _ _ _ _; refine wcall_fn (h55) ?_ ?_ ?_; (next => simp [rfyL, rfy, hget, ints, take_rfy, take_rows4', flat_rows4', freeze1, renR_rows4, rows4_len]); (next => simp [plainL, plain, plainR, take_rows4', flat_rows4', freeze1, renR_rows4, rows4_len]))
            | (with_reducible show wcallX _ false (.lit (.func (.func 55) _ _)) _ _ _ _; refine wcallX_fn (h55) ?_ ?_ ?_; (next => simp [rfyL, rfy, hget, ints, take_rfy, take_rows4', flat_rows4', freeze1, renR_rows4, rows4_len]); (next => simp [plainL, plain, plainR, take_rows4', flat_rows4', freeze1, renR_rows4, rows4_len]))
            | (with_reducible show wcall _ false (.lit (.func (.func 49) _ _)) _ _ _ _; refine wcall_fn (h49) ?_ ?_ ?_; (next => simp [rfyL, rfy, hget, ints, take_rfy, take_rows4', flat_rows4', freeze1, renR_rows4, rows4_len]); (next => simp [plainL, plain, plainR, take_rows4', flat_rows4', freeze1, renR_rows4, rows4_len]))
            | (with_reducible show wcallX _ false (.lit (.func (.func 49) _ _)) _ _ _ _; refine wcallX_fn (h49) ?_ ?_ ?_; (next => simp [rfyL, rfy, hget, ints, take_rfy, take_rows4', flat_rows4', freeze1, renR_rows4, rows4_len]); (next => simp [plainL, plain, plainR, take_rows4', flat_rows4', freeze1, renR_rows4, rows4_len]))
            | (with_reducible refine wdW_cons ?_ ?_; (next => simp [chk, foot, compatB, argsOf, St.get, target, ev, look, lidsL, lids, hget, kind, wids, tops, opds, topId, take_rows4', flat_rows4', freeze1, renR_rows4, rows4_len]))
            | omega)
          refine T_keep [0, 1, 5, 7, 8, 9] [0, 2] (S := ⟨[(0, i64 z), (1, rdgs nil l), (5, .loc 0 0 0), (7, .lsl 1 0 z), (8, i64 0), (9, i64 0)], [.cells true false 2 [[i64 x, i64 y]], .cells true false 1 (xs.map fun x => [i64 x])]⟩) (by simp) (by simp) ?_ ?_
          · simp [St.keep, get_mk, look, ren, renL, renR, renB, renO, keepρ, pos, hget, renR_ints, renR_rows4]
          clear h83 h55 h49
          unfold c18r1
          repeat' (first
            | ((with_reducible refine T_calm ?_ ?_); rfl)
            | with_reducible first
              | refine T_seq ?_
              | refine T_reg ?_
              | refine T_draw ?_
              | refine T_skip ?_
              | refine T_exit ?_
              | refine T_block ?_
              | refine T_cond_t rfl ?_
              | refine T_cond_f rfl ?_
              | refine wdW_cons rfl ?_
              | (show wcall _ false (.lit (.func (.func 70) _ _)) _ _ _ _; refine wcall_fn (h70) rfl (by simp [plainL, plain]) ?_)
              | (show wcallX _ false (.lit (.func (.func 70) _ _)) _ _ _ _; refine wcallX_fn (h70) rfl (by simp [plainL, plain, plainR]) ?_)
              | ((first | refine T_cond rfl (fun hc => ?_) (fun hc => ?_) | refine wguard_split (fun hc => ?_) (fun hc => ?_) | refine wguardX_split (fun hc => ?_) (fun hc => ?_)) <;> have hd := hc <;> (try simp (disch := omega) only [wrapI] at hd) <;> have hs := hd <;> (try simp only [bne_iff_ne, bne_eq_false_iff_eq, Bool.not_false, ne_eq] at hd) <;> (try simp at hs))
              | refine T_ret ?_
              | refine leave_of (.inr rfl) _ rfl ?_
              | refine leave_of (.inl rfl) _ rfl ?_
              | refine leaveA_of (.inr rfl) _ rfl ?_
              | refine leaveA_of (.inl rfl) _ rfl ?_
              | refine wif_intro ?_ (fun hc => ?_)
              | refine And.intro ?_ ?_
              | intro hc
            | simp (maxSteps := 4000000) only [wops_nil, wops_cons, wstep_none, wstep_some, wguard_ff, wrun_call, wrun_mv, wrun_bin, wrun_ext, wrun_load, wop, aop, ev, look, put_some, writes, ores_some, binV, thenK, value, cut, hget, toLits, mkAgg, List.map_cons, List.map_nil, List.length_cons, List.length_nil, List.getElem?_cons_zero, List.getElem?_cons_succ, List.take_succ_cons, List.take_nil, List.drop_zero, List.cons_append, List.nil_append, List.append_nil, List.replicate_zero, List.getD_cons_zero, List.length_map, Option.getD_some, Option.map_some, if_true, if_false, Nat.reduceEqDiff, Nat.reduceAdd, Nat.zero_add, Nat.zero_ne_one, reduceCtorEq, eq_self, freeze, lidsL, lids, List.flatMap_cons, List.flatMap_nil, ren, renL, shiftρ, *]
            | simp (disch := omega) only [getD_ints, wrapI]
            | (with_reducible show wcall _ false (.lit (.func (.func 70) _ _)) _ _ _ _; refine wcall_fn (h70) ?_ ?_ ?_; (next => simp [rfyL, rfy, hget, ints, take_rfy]); (next => simp [plainL, plain, plainR]))
            | (with_reducible show wcallX _ false (.lit (.func (.func 70) _ _)) _ _ _ _; refine wcallX_fn (h70) ?_ ?_ ?_; (next => simp [rfyL, rfy, hget, ints, take_rfy]); (next => simp [plainL, plain, plainR]))
            | omega)
          have hT : IsTo 2 z D (Blk.cells true false 2 [[i64 x, i64 y]] :: Blk.cells true false 1 (xs.map fun x => [i64 x]) :: List.map (renB (shiftρ 2)) (tabB D z)) := htab.1
          have hp0 : (Blk.cells true false 2 [[i64 x, i64 y]] :: Blk.cells true false 1 (xs.map fun x => [i64 x]) :: List.map (renB (shiftρ 2)) (tabB D z))[0]? = some (Blk.cells true false 2 [[i64 x, i64 y]]) := rfl
          have hp1 : (Blk.cells true false 2 [[i64 x, i64 y]] :: Blk.cells true false 1 (xs.map fun x => [i64 x]) :: List.map (renB (shiftρ 2)) (tabB D z))[1]? = some (Blk.cells true false 1 (xs.map fun x => [i64 x])) := rfl
          generalize (Blk.cells true false 2 [[i64 x, i64 y]] :: Blk.cells true false 1 (xs.map fun x => [i64 x]) :: List.map (renB (shiftρ 2)) (tabB D z)) = H at hT hp0 hp1 ⊢
          refine wcall_fn h84 (to_reP hT hD.1 x y) hpl1 ?_
          have hHl : 1 < H.length := (List.getElem?_eq_some_iff.1 hp1).1
          obtain ⟨hF, hFj⟩ := to_frzP hT x y
          have hf0 := (hFj 0 (by omega)).trans hp0
          have hf1 := (hFj 1 (by omega)).trans hp1
          have hlen := freeze_len (lidsL (hget H) [.lsl 2 0 z, rgA x y]) H
          generalize freeze H (lidsL (hget H) [.lsl 2 0 z, rgA x y]) = F at *
          have hq0 : (F ++ [.cells true false 1 (xs.map fun x => [i64 x])])[0]? = some (.cells true false 2 [[i64 x, i64 y]]) := at_app hf0 _
          have hq1 : (F ++ [.cells true false 1 (xs.map fun x => [i64 x])])[1]? = some (.cells true false 1 (xs.map fun x => [i64 x])) := at_app hf1 _
          have hq2 : (F ++ [.cells true false 1 (xs.map fun x => [i64 x])])[H.length]? = some (.cells true false 1 (xs.map fun x => [i64 x])) := by rw [← hlen, List.getElem?_append_right (Nat.le_refl _), Nat.sub_self]; rfl
          have hre2 := two_re hq1 hq2 hxz
          have hlid : lidsL (hget (F ++ [.cells true false 1 (xs.map fun x => [i64 x])])) [.lsl 1 0 z, .lsl H.length 0 z] = [1, H.length] := by
            simp only [lidsL, List.flatMap_cons, List.flatMap_nil, lids_row (d := 4) hq1, lids_row (d := 4) hq2, List.append_nil, List.cons_append, List.nil_append]
          have hg0 : (freeze (F ++ [.cells true false 1 (xs.map fun x => [i64 x])]) [1, H.length])[0]? = some (.cells true false 2 [[i64 x, i64 y]]) := by
            rw [freeze_ne _ _ (by simp; omega)]; exact hq0
          have hg1 : (freeze (F ++ [.cells true false 1 (xs.map fun x => [i64 x])]) [1, H.length])[1]? = some (.cells false false 1 (xs.map fun x => [i64 x])) := frz_in hq1 (by simp)
          replace hre2 := And.intro hre2 trivial
          replace hlid := And.intro hlid trivial
          clear hT hp0 hp1 hF hFj hf0 hf1 hlen hq0 hq1 hq2 hHl
          repeat' (first
            | ((with_reducible refine T_calm ?_ ?_); rfl)
            | with_reducible first
              | refine T_seq ?_
              | refine T_reg ?_
              | refine T_draw ?_
              | refine T_skip ?_
              | refine T_exit ?_
              | refine T_block ?_
              | refine T_cond_t rfl ?_
              | refine T_cond_f rfl ?_
              | refine wdW_cons rfl ?_
              | ((first | refine T_cond rfl (fun hc => ?_) (fun hc => ?_) | refine wguard_split (fun hc => ?_) (fun hc => ?_) | refine wguardX_split (fun hc => ?_) (fun hc => ?_)) <;> have hd := hc <;> (try simp (disch := omega) only [wrapI] at hd) <;> have hs := hd <;> (try simp only [Bool.not_eq_true', Bool.not_eq_false', Bool.and_eq_true, Bool.and_eq_false_iff, Bool.or_eq_true, Bool.or_eq_false_iff, decide_eq_true_eq, decide_eq_false_iff_not, beq_iff_eq, bne_iff_ne, beq_eq_false_iff_ne, bne_eq_false_iff_eq, Bool.not_true, Bool.not_false, gt_iff_lt, ge_iff_le, Int.not_lt, Int.not_le, ne_eq, Decidable.not_not] at hd) <;> (try simp at hs))
              | refine T_ret ?_
              | refine leave_of (.inr rfl) _ rfl ?_
              | refine leave_of (.inl rfl) _ rfl ?_
              | refine leaveA_of (.inr rfl) _ rfl ?_
              | refine leaveA_of (.inl rfl) _ rfl ?_
              | refine wif_intro ?_ (fun hc => ?_)
              | refine And.intro ?_ ?_
              | intro hc
            | simp (maxSteps := 4000000) only [wops_cons, wstep_some, wguard_ff, wrun_call, ev, look, put_some, List.map_cons, List.map_nil, if_true, if_false, Nat.reduceEqDiff, Nat.zero_add, reduceCtorEq, eq_self, ren, renB, shiftρ, renR_ints, renR_ints, *]
            | simp (disch := omega) only [getD_ints, wrapI]
            | omega)
          refine wcall_fn h48 hre2.1 hpl2 ?_
          rw [hlid.1]
          generalize freeze (F ++ [.cells true false 1 (xs.map fun x => [i64 x])]) [1, H.length] = G at *
          have hGl : 1 < G.length := (List.getElem?_eq_some_iff.1 hg1).1
          clear hre2 hlid h48
          repeat' (first
            | ((with_reducible refine T_calm ?_ ?_); rfl)
            | with_reducible first
              | refine T_seq ?_
              | refine T_reg ?_
              | refine T_draw ?_
              | refine T_skip ?_
              | refine T_exit ?_
              | refine T_block ?_
              | refine T_cond_t rfl ?_
              | refine T_cond_f rfl ?_
              | refine wdW_cons rfl ?_
              | ((first | refine T_cond rfl (fun hc => ?_) (fun hc => ?_) | refine wguard_split (fun hc => ?_) (fun hc => ?_) | refine wguardX_split (fun hc => ?_) (fun hc => ?_)) <;> have hd := hc <;> (try simp (disch := omega) only [wrapI] at hd) <;> have hs := hd <;> (try simp only [Bool.not_eq_true', Bool.not_eq_false', Bool.and_eq_true, Bool.and_eq_false_iff, Bool.or_eq_true, Bool.or_eq_false_iff, decide_eq_true_eq, decide_eq_false_iff_not, beq_iff_eq, bne_iff_ne, beq_eq_false_iff_ne, bne_eq_false_iff_eq, Bool.not_true, Bool.not_false, gt_iff_lt, ge_iff_le, Int.not_lt, Int.not_le, ne_eq, Decidable.not_not] at hd) <;> (try simp at hs))
              | refine T_ret ?_
              | refine leave_of (.inr rfl) _ rfl ?_
              | refine leave_of (.inl rfl) _ rfl ?_
              | refine leaveA_of (.inr rfl) _ rfl ?_
              | refine leaveA_of (.inl rfl) _ rfl ?_
              | refine wif_intro ?_ (fun hc => ?_)
              | refine And.intro ?_ ?_
              | intro hc
            | simp (maxSteps := 4000000) only [wops_nil, wops_cons, wstep_none, wstep_some, wguard_ff, wrun_pick, wrun_not, wop, aop, ev, look, put_some, writes, ores_some, thenK, boolV, List.map_nil, List.length_cons, List.length_nil, List.append_nil, List.length_append, if_true, if_false, Nat.reduceEqDiff, Nat.zero_add, reduceCtorEq, Bool.not_true, Bool.false_eq_true, eq_self, ren, *]
            | simp (disch := omega) only [getD_ints, wrapI]
            | omega)
          refine T_keep [0, 1, 5, 7, 8] [0, 1] (S := ⟨[(0, i64 z), (1, rdgs nil l), (5, .loc 0 0 0), (7, .lsl 1 0 z), (8, i64 0)], [.cells true false 2 [[i64 x, i64 y]], .cells false false 1 (xs.map fun x => [i64 x])]⟩) (by simp; omega) (by simp) ?_ ?_
          · simp [St.keep, get_mk, look, ren, renL, renR, renB, renO, keepρ, pos, hget, hg0, hg1, renR_ints, renR_rows4]
          clear hg0 hg1 hGl h84 h70 hD htab
          unfold c18r2
          have tkz : ∀ h : Nat → Blk, List.take z (List.map ((fun r => List.map (rfy h 5) r) ∘ fun x => [i64 x]) xs) = List.map (fun x => [i64 x]) xs := fun h => by
            rw [List.take_of_length_le (by simp; omega)]; exact List.map_congr_left fun x _ => rfl
          repeat' (first
            | ((with_reducible refine T_calm ?_ ?_); rfl)
            | with_reducible first
              | refine T_seq ?_
              | refine T_reg ?_
              | refine T_draw ?_
              | refine T_skip ?_
              | refine T_exit ?_
              | refine T_block ?_
              | refine T_cond_t rfl ?_
              | refine T_cond_f rfl ?_
              | refine wdW_cons rfl ?_
              | (show wcall _ false (.lit (.func (.func 27) _ _)) _ _ _ _; refine wcall_fn (h27) rfl (by simp [plainL, plain]) ?_)
              | (show wcallX _ false (.lit (.func (.func 27) _ _)) _ _ _ _; refine wcallX_fn (h27) rfl (by simp [plainL, plain]) ?_)
              | (show wcall _ false (.lit (.func (.func 28) _ _)) _ _ _ _; refine wcall_fn (h28) rfl (by simp [plainL, plain]) ?_)
              | (show wcallX _ false (.lit (.func (.func 28) _ _)) _ _ _ _; refine wcallX_fn (h28) rfl (by simp [plainL, plain, plainR, take_rows4', flat_rows4', freeze1, take_rfy, tkz, hxz, flat_ints7, renR_rows4, rows4_len, Int.toNat_natCast, renR_ints]) ?_)
              | (show wcall _ false (.lit (.func (.func 26) _ _)) _ _ _ _; refine wcall_fn (h26) rfl (by simp [plainL, plain]) ?_)
              | (show wcallX _ false (.lit (.func (.func 26) _ _)) _ _ _ _; refine wcallX_fn (h26) rfl (by simp [plainL, plain, plainR, take_rows4', flat_rows4', freeze1, take_rfy, tkz, hxz, flat_ints7, renR_rows4, rows4_len, Int.toNat_natCast, renR_ints]) ?_)
              | (show wcall _ false (.lit (.func (.func 54) _ _)) _ _ _ _; refine wcall_fn (h54) rfl (by simp [plainL, plain, plainR, take_rows4', flat_rows4', freeze1, take_rfy, tkz, hxz, flat_ints7, renR_rows4, rows4_len, Int.toNat_natCast, renR_ints]) ?_)
              | (show wcallX _ false (.lit (.func (.func 54) _ _)) _ _ _ _; refine wcallX_fn (h54) rfl (by simp [plainL, plain]) ?_)
              | ((first | refine T_cond rfl (fun hc => ?_) (fun hc => ?_) | refine wguard_split (fun hc => ?_) (fun hc => ?_) | refine wguardX_split (fun hc => ?_) (fun hc => ?_)) <;> have hd := hc <;> (try simp (disch := omega) only [wrapI] at hd) <;> have hs := hd <;> (try simp only [Bool.not_eq_true', Bool.not_eq_false', Bool.and_eq_true, Bool.and_eq_false_iff, Bool.or_eq_true, Bool.or_eq_false_iff, decide_eq_true_eq, decide_eq_false_iff_not, beq_iff_eq, bne_iff_ne, beq_eq_false_iff_ne, bne_eq_false_iff_eq, Bool.not_true, Bool.not_false, gt_iff_lt, ge_iff_le, Int.not_lt, Int.not_le, ne_eq, Decidable.not_not] at hd) <;> (try simp at hs))
              | refine T_ret ?_
              | refine leave_of (.inr rfl) _ rfl ?_
              | refine leave_of (.inl rfl) _ rfl ?_
              | refine leaveA_of (.inr rfl) _ rfl ?_
              | refine leaveA_of (.inl rfl) _ rfl ?_
              | refine wif_intro ?_ (fun hc => ?_)
              | refine And.intro ?_ ?_
              | intro hc
            | simp (maxSteps := 4000000) only [wops_nil, wops_cons, wstep_none, wstep_some, wguard_true, wrun_call, wrun_mv, wrun_pick, wrun_bin, wrun_ext, wrun_load, wrun_store, wrun_faddr, wrun_iaddrS, wrun_iaddrA, wrun_alloc, wrunX_mv, wrunX_ext, wrunX_load, wrunX_store, wrunX_alloc, wdW_nil, wstepX_none, wrunX_call, get_mk, wop, aop, ev, look, put_some, put_none, writes, ores_some, ores_ite_none, binV, thenK, value, cut, hget, putCells, AV.parts, isOne, toLits, mkAgg, tupOf, ofValue_int, List.map_cons, List.map_nil, List.length_cons, List.length_nil, List.getElem?_cons_zero, List.getElem?_cons_succ, List.set_cons_zero, List.set_cons_succ, List.take_succ_cons, List.take_zero, List.take_nil, List.drop_succ_cons, List.drop_zero, List.drop_nil, List.cons_append, List.nil_append, List.append_nil, List.replicate_zero, List.replicate_succ, List.getD_cons_zero, List.all_cons, List.all_nil, Option.getD_some, Option.map_some, if_true, if_false, Nat.reduceEqDiff, Nat.reduceAdd, Nat.reduceLT, Nat.add_zero, Nat.zero_add, Nat.mul_one, Nat.le_refl, Nat.zero_ne_one, reduceCtorEq, Bool.and_true, Bool.false_eq_true, eq_self, true_and, and_true, and_self, beq_self_eq_true, freeze, lidsL, lids, List.flatMap_cons, List.flatMap_nil, List.all_cons, ren, renL, renB, shiftρ, renR_ints, flat_rows4', freeze1, flat_ints7, renR_rows4, Int.toNat_natCast, renR_ints, *]
            | simp (disch := omega) only [getD_ints, wrapI]
            | (with_reducible show wcall _ false (.lit (.func (.func 27) _ _)) _ _ _ _; refine wcall_fn (h27) ?_ ?_ ?_; (next => simp [rfyL, rfy, hget, ints, take_rfy, take_rows4', flat_rows4', freeze1, take_rfy, tkz, hxz, flat_ints7, renR_rows4, rows4_len, Int.toNat_natCast, renR_ints]); (next => simp [plainL, plain, plainR, take_rows4', flat_rows4', freeze1, take_rfy, tkz, hxz, flat_ints7, renR_rows4, rows4_len, Int.toNat_natCast, renR_ints]))
            | (with_reducible show wcallX _ false (.lit (.func (.func 27) _ _)) _ _ _ _; refine wcallX_fn (h27) ?_ ?_ ?_; (next => simp [rfyL, rfy, hget, ints, take_rfy, take_rows4', flat_rows4', freeze1, take_rfy, tkz, hxz, flat_ints7, renR_rows4, rows4_len, Int.toNat_natCast, renR_ints]); (next => simp [plainL, plain, plainR, take_rows4', flat_rows4', freeze1, take_rfy, tkz, hxz, flat_ints7, renR_rows4, rows4_len, Int.toNat_natCast, renR_ints]))
            | (with_reducible show wcall _ false (.lit (.func (.func 28) _ _)) _ _ _ _; refine wcall_fn (h28) ?_ ?_ ?_; (next => simp [rfyL, rfy, hget, ints, tkz, hxz]); (next => simp [plainL, plain]))
            | (with_reducible show wcallX _ false (.lit (.func (.func 28) _ _)) _ _ _ _; refine wcallX_fn (h28) ?_ ?_ ?_; (next => simp [rfyL, rfy, hget, ints, take_rfy, take_rows4', flat_rows4', freeze1, take_rfy, tkz, hxz, flat_ints7, renR_rows4, rows4_len, Int.toNat_natCast, renR_ints]); (next => simp [plainL, plain, plainR, take_rows4', flat_rows4', freeze1, take_rfy, tkz, hxz, flat_ints7, renR_rows4, rows4_len, Int.toNat_natCast, renR_ints]))
            | (with_reducible show wcall _ false (.lit (.func (.func 26) _ _)) _ _ _ _; refine wcall_fn (h26) ?_ ?_ ?_; (next => simp [rfyL, rfy, hget, ints, take_rows4', tkz, hxz, rows4_len]); (next => simp [plainL, plain]))
            | (with_reducible show wcallX _ false (.lit (.func (.func 26) _ _)) _ _ _ _; refine wcallX_fn (h26) ?_ ?_ ?_; (next => simp [rfyL, rfy, hget, ints, take_rfy, take_rows4', flat_rows4', freeze1, take_rfy, tkz, hxz, flat_ints7, renR_rows4, rows4_len, Int.toNat_natCast, renR_ints]); (next => simp [plainL, plain, plainR, take_rows4', flat_rows4', freeze1, take_rfy, tkz, hxz, flat_ints7, renR_rows4, rows4_len, Int.toNat_natCast, renR_ints]))
            | (with_reducible show wcall _ false (.lit (.func (.func 54) _ _)) _ _ _ _; refine wcall_fn (h54) ?_ ?_ ?_; (next => simp [rfyL, rfy, hget, ints, take_rfy, take_rows4', flat_rows4', freeze1, take_rfy, tkz, hxz, flat_ints7, renR_rows4, rows4_len, Int.toNat_natCast, renR_ints]); (next => simp [plainL, plain, plainR, take_rows4', flat_rows4', freeze1, take_rfy, tkz, hxz, flat_ints7, renR_rows4, rows4_len, Int.toNat_natCast, renR_ints]))
            | (with_reducible show wcallX _ false (.lit (.func (.func 54) _ _)) _ _ _ _; refine wcallX_fn (h54) ?_ ?_ ?_; (next => simp [rfyL, rfy, hget, take_rows4', rows4_len]); (next => simp [plainL, plain]))
            | (with_reducible refine wdW_cons ?_ ?_; (next => simp [chk, foot, compatB, argsOf, St.get, target, ev, look, lidsL, lids, hget, kind, wids, tops, opds, topId, flat_rows4']))
            | omega)
          all_goals first | rfl | trace_state
    · have h83 := k83e (nil := false) a b hl hd
      generalize (if checkR zi l ≠ 0 then checkR zi l else zErr zi a b) = d at *
      have hd0 : (d == 0) = false := by simp only [beq_eq_false_iff_ne]; exact hd
      have hd1 : (d != 0) = true := by simp only [bne_iff_ne]; exact hd
      unfold c18
      repeat' (first
        | ((with_reducible refine T_calm ?_ ?_); rfl)
        | with_reducible first
          | refine T_seq ?_
          | refine T_reg ?_
          | refine T_draw ?_
          | refine T_skip ?_
          | refine T_exit ?_
          | refine T_block ?_
          | refine T_cond_t rfl ?_
          | refine T_cond_f rfl ?_
          | refine wdW_cons rfl ?_
          | (show wcall _ false (.lit (.func (.func 19) _ _)) _ _ _ _; refine wcall_fn (h19) rfl (by simp [plainL]) ?_)
          | (show wcallX _ false (.lit (.func (.func 19) _ _)) _ _ _ _; refine wcallX_fn (h19) rfl (by simp [plainL, plain, plainR, take_rows4', flat_rows4', freeze1, renR_rows4, rows4_len]) ?_)
          | (show wcall _ false (.lit (.func (.func 25) _ _)) _ _ _ _; refine wcall_fn (h25) rfl (by simp [plainL, plain]) ?_)
          | (show wcallX _ false (.lit (.func (.func 25) _ _)) _ _ _ _; refine wcallX_fn (h25) rfl (by simp [plainL, plain, plainR, take_rows4', flat_rows4', freeze1, renR_rows4, rows4_len]) ?_)
          | (show wcall _ false (.lit (.func (.func 27) _ _)) _ _ _ _; refine wcall_fn (h27) rfl (by simp [plainL, plain, plainR, take_rows4', flat_rows4', freeze1, renR_rows4, rows4_len]) ?_)
          | (show wcallX _ false (.lit (.func (.func 27) _ _)) _ _ _ _; refine wcallX_fn (h27) rfl (by simp [plainL, plain]) ?_)
          | (show wcall _ false (.lit (.func (.func 83) _ _)) _ _ _ _; refine wcall_fn (h83) rfl (by simp [plainL, plain, plainR, take_rows4', flat_rows4', freeze1, renR_rows4, rows4_len]) ?_)
          | (show wcallX _ false (.lit (.func (.func 83) _ _)) _ _ _ _; refine wcallX_fn (h83) rfl (by simp [plainL, plain]) ?_)
          | (show wcall _ false (.lit (.func (.func 55) _ _)) _ _ _ _; refine wcall_fn (h55) rfl (by simp [plainL, plain]) ?_)
          | (show wcallX _ false (.lit (.func (.func 55) _ _)) _ _ _ _; refine wcallX_fn (h55) rfl (by simp [plainL, plain, plainR, take_rows4', flat_rows4', freeze1, renR_rows4, rows4_len]) ?_)
          | ((first | refine T_cond rfl (fun hc => ?_) (fun hc => ?_) | refine wguard_split (fun hc => ?_) (fun hc => ?_) | refine wguardX_split (fun hc => ?_) (fun hc => ?_)) <;> have hd := hc <;> (try simp (disch := omega) only [wrapI] at hd) <;> have hs := hd <;> (try simp only [Bool.not_eq_true', Bool.not_eq_false', Bool.and_eq_true, Bool.and_eq_false_iff, Bool.or_eq_true, Bool.or_eq_false_iff, decide_eq_true_eq, decide_eq_false_iff_not, beq_iff_eq, bne_iff_ne, beq_eq_false_iff_ne, bne_eq_false_iff_eq, Bool.not_true, Bool.not_false, gt_iff_lt, ge_iff_le, Int.not_lt, Int.not_le, ne_eq, Decidable.not_not] at hd) <;> (try simp at hs))
          | refine T_ret ?_
          | refine leave_of (.inr rfl) _ rfl ?_
          | refine leave_of (.inl rfl) _ rfl ?_
          | refine leaveA_of (.inr rfl) _ rfl ?_
          | refine leaveA_of (.inl rfl) _ rfl ?_
          | refine wif_intro ?_ (fun hc => ?_)
          | refine And.intro ?_ ?_
          | intro hc
        | simp (maxSteps := 4000000) only [wops_nil, wops_cons, wstep_none, wstep_some, wguard_true, wrun_call, wrun_mv, wrun_pick, wrun_bin, wrun_not, wrun_ext, wrun_load, wrun_len, wrun_box, wrunX_mv, wrunX_ext, wrunX_load, wdW_nil, wstepX_none, wrunX_call, get_mk, wop, aop, ev, look, put_some, writes, ores_some, ores_map, ores_bind, binV, thenK, boolV, intV, lenOf, value, cut, hget, AV.parts, isOne, toLits, mkAgg, tupOf, ofValue_int, List.map_cons, List.map_nil, List.length_cons, List.length_nil, List.getElem?_cons_zero, List.getElem?_cons_succ, List.set_cons_zero, List.set_cons_succ, List.take_succ_cons, List.take_nil, List.drop_zero, List.cons_append, List.nil_append, List.append_nil, List.replicate_zero, List.replicate_succ, List.getD_cons_zero, List.zipIdx_cons, List.zipIdx_nil, List.all_cons, List.all_nil, Option.pure_def, Option.bind_eq_bind, Option.getD_some, Option.map_some, if_true, if_false, Nat.reduceEqDiff, Nat.reduceAdd, Nat.add_zero, Nat.zero_add, Nat.zero_ne_one, reduceCtorEq, Bool.not_true, Bool.and_true, eq_self, true_and, and_self, beq_self_eq_true, freeze, lidsL, lids, List.flatMap_cons, List.flatMap_nil, List.all_cons, ren, renL, renR, renB, shiftρ, flat_rows4', freeze1, renR_rows4, *]
        | simp (disch := omega) only [getD_ints, wrapI]
        | (with_reducible show wcall _ false (.lit (.func (.func 19) _ _)) _ _ _ _; refine wcall_fn (h19) ?_ ?_ ?_; (next => simp [rfyL, rfy, hget, ints, take_rfy, take_rows4', flat_rows4', freeze1, renR_rows4, rows4_len]); (next => simp [plainL, plain, plainR, take_rows4', flat_rows4', freeze1, renR_rows4, rows4_len]))
        | (with_reducible show wcallX _ false (.lit (.func (.func 19) _ _)) _ _ _ _; refine wcallX_fn (h19) ?_ ?_ ?_; (next => simp [rfyL, rfy, hget, ints, take_rfy, take_rows4', flat_rows4', freeze1, renR_rows4, rows4_len]); (next => simp [plainL, plain, plainR, take_rows4', flat_rows4', freeze1, renR_rows4, rows4_len]))
        | (with_reducible show wcall _ false (.lit (.func (.func 25) _ _)) _ _ _ _; refine wcall_fn (h25) ?_ ?_ ?_; (next => simp [rfyL, rfy, hget, ints, take_rfy, take_rows4', flat_rows4', freeze1, renR_rows4, rows4_len]); (next => simp [plainL, plain, plainR, take_rows4', flat_rows4', freeze1, renR_rows4, rows4_len]))
        | (with_reducible show wcallX _ false (.lit (.func (.func 25) _ _)) _ _ _ _; refine wcallX_fn (h25) ?_ ?_ ?_; (next => simp [rfyL, rfy, hget, ints, take_rfy, take_rows4', flat_rows4', freeze1, renR_rows4, rows4_len]); (next => simp [plainL, plain, plainR, take_rows4', flat_rows4', freeze1, renR_rows4, rows4_len]))
        | (with_reducible show wcall _ false (.lit (.func (.func 27) _ _)) _ _ _ _; refine wcall_fn (h27) ?_ ?_ ?_; (next => simp [rfyL, rfy, hget, ints, take_rfy, take_rows4', flat_rows4', freeze1, renR_rows4, rows4_len]); (next => simp [plainL, plain, plainR, take_rows4', flat_rows4', freeze1, renR_rows4, rows4_len]))
        | (with_reducible show wcallX _ false (.lit (.func (.func 27) _ _)) _ _ _ _; refine wcallX_fn (h27) ?_ ?_ ?_; (next => simp [rfyL, rfy, hget, ints, take_rfy, take_rows4', flat_rows4', freeze1, renR_rows4, rows4_len]); (next => simp [plainL, plain, plainR, take_rows4', flat_rows4', freeze1, renR_rows4, rows4_len]))
        | (with_reducible show wcall _ false (.lit (.func (.func 83) _ _)) _ _ _ _; refine wcall_fn (h83) ?_ ?_ ?_; (next => simp [rfyL, rfy, hget, ints, take_rfy, take_rows4', flat_rows4', freeze1, renR_rows4, rows4_len]); (next => simp [plainL, plain, plainR, take_rows4', flat_rows4', freeze1, renR_rows4, rows4_len]))
        | (with_reducible show wcallX _ false (.lit (.func (.func 83) _ _)) _ _ _ _; refine wcallX_fn (h83) ?_ ?_ ?_; (next => simp [rfyL, rfy, hget, take_rows4', rows4_len]); (next => simp [plainL, plain]))
        | (with_reducible show wcall _ false (.lit (.func (.func 55) _ _)) _ _ _ _; refine wcall_fn (h55) ?_ ?_ ?_; (next => simp [rfyL, rfy, hget, ints, take_rfy, take_rows4', flat_rows4', freeze1, renR_rows4, rows4_len]); (next => simp [plainL, plain, plainR, take_rows4', flat_rows4', freeze1, renR_rows4, rows4_len]))
        | (with_reducible show wcallX _ false (.lit (.func (.func 55) _ _)) _ _ _ _; refine wcallX_fn (h55) ?_ ?_ ?_; (next => simp [rfyL, rfy, hget, ints, take_rfy, take_rows4', flat_rows4', freeze1, renR_rows4, rows4_len]); (next => simp [plainL, plain, plainR, take_rows4', flat_rows4', freeze1, renR_rows4, rows4_len]))
        | (with_reducible refine wdW_cons ?_ ?_; (next => simp [chk, foot, compatB, argsOf, St.get, target, ev, look, lidsL, lids, hget, kind, wids, tops, opds, topId, take_rows4', flat_rows4', freeze1, renR_rows4, rows4_len]))
        | omega)
      all_goals first | rfl | trace_state
end Go.Abs
