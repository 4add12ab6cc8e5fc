import Derived.Test.YtodheeifecoebaaK9
import Derived.Test.YtodheeifecoebaaK249x
set_option linter.all false
set_option linter.unusedVariables false
set_option linter.unusedSimpArgs false
set_option linter.unusedSectionVars false
namespace Go.Abs
open Go.Proofs
/-! law 3: the maps begun one turn later -/
def c3r1 : ACode :=
 (.seq (.dreg 5 [(0, ⟨(some 93), (.faddr 0 (.tmp 5)), none, 0⟩), (1, ⟨(some 94), (.load 1 false (.tmp 93)), none, 0⟩), (2, ⟨(some 95), (.bslice 1 0 [(.sl true 0 [])] []), none, 0⟩), (3, ⟨(some 96), (.faddr 1 (.tmp 5)), none, 1⟩), (4, ⟨(some 97), (.load 1 false (.tmp 96)), none, 1⟩), (5, ⟨(some 98), (.slc 1 (.tmp 97) (some (.val (.lit (.int .i64 1)))) none), none, 1⟩), (6, ⟨(some 99), (.app 1 24 (.tmp 95) (.tmp 98)), none, 1⟩), (7, ⟨(some 100), (.faddr 1 (.tmp 5)), none, 2⟩), (8, ⟨(some 101), (.load 1 false (.tmp 100)), none, 2⟩), (9, ⟨(some 102), (.iaddrS 1 (.tmp 101) (.val (.lit (.int .i64 0)))), none, 2⟩), (10, ⟨(some 103), (.load 1 false (.tmp 102)), none, 2⟩), (11, ⟨(some 104), (.bslice 1 1 [(.sl true 0 [])] [(0, (.tmp 103))]), none, 2⟩), (12, ⟨(some 105), (.app 1 24 (.tmp 99) (.tmp 104)), none, 3⟩), (13, ⟨(some 106), (.build [(.lit (.int .i64 0)), (.sl true 0 [])] [(0, (1, (.tmp 94))), (1, (1, (.tmp 105)))]), none, 4⟩), (14, ⟨(some 15), (.alloc [(.lit (.int .i64 0)), (.sl true 0 [])]), none, 4⟩), (15, ⟨none, (.store 2 (.tmp 15) (.tmp 106)), none, 5⟩)] [[], [0], [], [], [3], [4, 3], [2, 5, 4, 3], [], [7], [8, 7], [9, 8, 7], [10, 9, 8, 7], [6, 11, 2, 5, 4, 3, 10, 9, 8, 7], [1, 12, 0, 6, 11, 2, 5, 4, 3, 10, 9, 8, 7], [], [14, 13, 12, 0, 1, 2, 3, 4, 5, 6, 7, 8, 9, 10, 11]])
 (.seq (.reg 0 [⟨(some 108), (.load 2 true (.tmp 15)), none, 0⟩, ⟨(some 109), (.call false (.val (.lit (.func (.func 21) #[] #[]))) [(.tmp 108)]), none, 0⟩, ⟨(some 107), (.mv (.tmp 109)), none, 0⟩, ⟨(some 110), (.ext (.tmp 107) 0), none, 0⟩, ⟨(some 111), (.ext (.tmp 107) 1), none, 0⟩, ⟨(some 16), (.mv (.tmp 110)), none, 0⟩, ⟨(some 17), (.mv (.tmp 111)), none, 0⟩])
 (.seq (.seq (.reg 0 [⟨(some 112), (.mv (.tmp 17)), none, 0⟩, ⟨(some 113), (.bin .neq (.tmp 112) (.val (.lit (.int .i64 0)))), none, 0⟩, ⟨(some 114), (.mv (.tmp 113)), none, 0⟩, ⟨(some 115), (.mv (.tmp 16)), (some (114, false)), 0⟩, ⟨(some 116), (.len (.tmp 115)), (some (114, false)), 0⟩, ⟨(some 117), (.faddr 0 (.tmp 5)), (some (114, false)), 0⟩, ⟨(some 118), (.load 1 false (.tmp 117)), (some (114, false)), 0⟩, ⟨(some 119), (.bin .neq (.tmp 116) (.tmp 118)), (some (114, false)), 0⟩, ⟨(some 120), (.pick (.tmp 114) (.val (.lit (.bool true))) (.tmp 119)), none, 0⟩])
 (.cond (.tmp 120) (.seq (.reg 0 [⟨(some 4), (.mv (.val (.lit (.bool false)))), none, 0⟩])
 .ret) .skip))
 (.seq (.reg 0 [⟨(some 121), (.faddr 0 (.tmp 5)), none, 0⟩, ⟨(some 122), (.load 1 false (.tmp 121)), none, 0⟩, ⟨(some 123), (.faddr 2 (.tmp 2)), none, 0⟩, ⟨(some 124), (.load 1 false (.tmp 123)), none, 0⟩, ⟨(some 125), (.bin .quo (.tmp 122) (.tmp 124)), none, 0⟩, ⟨(some 18), (.mv (.tmp 125)), none, 0⟩])
 (.seq (.seq (.reg 0 [⟨(some 19), (.mv (.val (.lit (.int .i64 0)))), none, 0⟩])
 (.block 0 (.loop c3l0)))
 (.seq (.reg 0 [⟨(some 4), (.mv (.val (.lit (.bool true)))), none, 0⟩])
 .ret))))))
theorem c3_cut : c3 = (.seq (.reg 1 [⟨(some 2), (.box 3 (.tmp 0)), none, 0⟩, ⟨(some 4), (.mv (.val (.lit (.bool false)))), none, 1⟩])
 (.seq (.seq (.reg 0 [⟨(some 20), (.call false (.val (.lit (.func (.func 19) #[] #[]))) []), none, 0⟩, ⟨(some 21), (.not (.tmp 20)), none, 0⟩])
 (.cond (.tmp 21) (.seq (.reg 0 [⟨(some 4), (.mv (.val (.lit (.bool false)))), none, 0⟩])
 .ret) .skip))
 (.seq (.reg 1 [⟨(some 23), (.load 3 true (.tmp 2)), none, 0⟩, ⟨(some 24), (.call false (.val (.lit (.func (.func 20) #[] #[]))) [(.tmp 23)]), none, 0⟩, ⟨(some 22), (.mv (.tmp 24)), none, 0⟩, ⟨(some 25), (.ext (.tmp 22) 0), none, 0⟩, ⟨(some 26), (.ext (.tmp 22) 1), none, 0⟩, ⟨(some 5), (.alloc [(.lit (.int .i64 0)), (.sl true 0 [])]), none, 0⟩, ⟨none, (.store 2 (.tmp 5) (.tmp 25)), none, 1⟩, ⟨(some 6), (.mv (.tmp 26)), none, 1⟩])
 (.seq (.seq (.reg 0 [⟨(some 27), (.mv (.tmp 6)), none, 0⟩, ⟨(some 28), (.not (.tmp 27)), none, 0⟩, ⟨(some 29), (.mv (.tmp 28)), none, 0⟩, ⟨(some 30), (.mv (.tmp 1)), (some (29, false)), 0⟩, ⟨(some 31), (.len (.tmp 30)), (some (29, false)), 0⟩, ⟨(some 32), (.faddr 0 (.tmp 2)), (some (29, false)), 0⟩, ⟨(some 33), (.load 1 false (.tmp 32)), (some (29, false)), 0⟩, ⟨(some 34), (.len (.tmp 33)), (some (29, false)), 0⟩, ⟨(some 35), (.bin .neq (.tmp 31) (.tmp 34)), (some (29, false)), 0⟩, ⟨(some 36), (.pick (.tmp 29) (.val (.lit (.bool true))) (.tmp 35)), none, 0⟩])
 (.cond (.tmp 36) (.seq (.reg 0 [⟨(some 4), (.mv (.val (.lit (.bool true)))), none, 0⟩])
 .ret) .skip))
 (.seq (.reg 1 [⟨(some 37), (.faddr 0 (.tmp 2)), none, 0⟩, ⟨(some 38), (.load 1 false (.tmp 37)), none, 0⟩, ⟨(some 39), (.mv (.tmp 1)), none, 0⟩, ⟨(some 40), (.faddr 2 (.tmp 2)), none, 0⟩, ⟨(some 41), (.load 1 false (.tmp 40)), none, 0⟩, ⟨(some 42), (.build [(.sl true 0 []), (.sl true 0 []), (.lit (.int .i64 0))] [(0, (1, (.tmp 38))), (1, (1, (.tmp 39))), (2, (1, (.tmp 41)))]), none, 0⟩, ⟨(some 7), (.alloc [(.sl true 0 []), (.sl true 0 []), (.lit (.int .i64 0))]), none, 0⟩, ⟨none, (.store 3 (.tmp 7) (.tmp 42)), none, 1⟩])
 (.seq (.reg 1 [⟨(some 44), (.load 3 true (.tmp 7)), none, 0⟩, ⟨(some 45), (.call false (.val (.lit (.func (.func 20) #[] #[]))) [(.tmp 44)]), none, 0⟩, ⟨(some 43), (.mv (.tmp 45)), none, 0⟩, ⟨(some 46), (.ext (.tmp 43) 0), none, 0⟩, ⟨(some 47), (.ext (.tmp 43) 1), none, 0⟩, ⟨(some 8), (.alloc [(.lit (.int .i64 0)), (.sl true 0 [])]), none, 0⟩, ⟨none, (.store 2 (.tmp 8) (.tmp 46)), none, 1⟩, ⟨(some 6), (.mv (.tmp 47)), none, 1⟩])
 (.seq (.seq (.reg 0 [⟨(some 48), (.mv (.tmp 6)), none, 0⟩, ⟨(some 49), (.not (.tmp 48)), none, 0⟩])
 (.cond (.tmp 49) (.seq (.reg 0 [⟨(some 4), (.mv (.val (.lit (.bool true)))), none, 0⟩])
 .ret) .skip))
 (.seq (.reg 0 [⟨(some 51), (.load 2 true (.tmp 5)), none, 0⟩, ⟨(some 52), (.call false (.val (.lit (.func (.func 21) #[] #[]))) [(.tmp 51)]), none, 0⟩, ⟨(some 50), (.mv (.tmp 52)), none, 0⟩, ⟨(some 53), (.ext (.tmp 50) 0), none, 0⟩, ⟨(some 54), (.ext (.tmp 50) 1), none, 0⟩, ⟨(some 9), (.mv (.tmp 53)), none, 0⟩, ⟨(some 10), (.mv (.tmp 54)), none, 0⟩])
 (.seq (.reg 0 [⟨(some 56), (.load 2 true (.tmp 8)), none, 0⟩, ⟨(some 57), (.call false (.val (.lit (.func (.func 21) #[] #[]))) [(.tmp 56)]), none, 0⟩, ⟨(some 55), (.mv (.tmp 57)), none, 0⟩, ⟨(some 58), (.ext (.tmp 55) 0), none, 0⟩, ⟨(some 59), (.ext (.tmp 55) 1), none, 0⟩, ⟨(some 11), (.mv (.tmp 58)), none, 0⟩, ⟨(some 12), (.mv (.tmp 59)), none, 0⟩])
 (.seq (.reg 1 [⟨(some 61), (.load 2 true (.tmp 5)), none, 0⟩, ⟨(some 62), (.call false (.val (.lit (.func (.func 22) #[] #[]))) [(.tmp 61)]), none, 0⟩, ⟨(some 60), (.mv (.tmp 62)), none, 0⟩, ⟨(some 63), (.ext (.tmp 60) 0), none, 0⟩, ⟨(some 64), (.ext (.tmp 60) 1), none, 0⟩, ⟨(some 13), (.alloc [(.lit (.int .i64 0)), (.lit (.int .i64 0))]), none, 0⟩, ⟨none, (.store 2 (.tmp 13) (.tmp 63)), none, 1⟩, ⟨(some 14), (.mv (.tmp 64)), none, 1⟩])
 (.seq (.seq (.reg 0 [⟨(some 65), (.mv (.tmp 10)), none, 0⟩, ⟨(some 66), (.bin .neq (.tmp 65) (.val (.lit (.int .i64 0)))), none, 0⟩, ⟨(some 67), (.mv (.tmp 66)), none, 0⟩, ⟨(some 68), (.mv (.tmp 12)), (some (67, false)), 0⟩, ⟨(some 69), (.bin .neq (.tmp 68) (.val (.lit (.int .i64 0)))), (some (67, false)), 0⟩, ⟨(some 70), (.pick (.tmp 67) (.val (.lit (.bool true))) (.tmp 69)), none, 0⟩, ⟨(some 71), (.mv (.tmp 70)), none, 0⟩, ⟨(some 72), (.mv (.tmp 14)), (some (71, false)), 0⟩, ⟨(some 73), (.bin .neq (.tmp 72) (.val (.lit (.int .i64 0)))), (some (71, false)), 0⟩, ⟨(some 74), (.pick (.tmp 71) (.val (.lit (.bool true))) (.tmp 73)), none, 0⟩, ⟨(some 75), (.mv (.tmp 74)), none, 0⟩, ⟨(some 76), (.mv (.tmp 9)), (some (75, false)), 0⟩, ⟨(some 77), (.len (.tmp 76)), (some (75, false)), 0⟩, ⟨(some 78), (.faddr 0 (.tmp 5)), (some (75, false)), 0⟩, ⟨(some 79), (.load 1 false (.tmp 78)), (some (75, false)), 0⟩, ⟨(some 80), (.bin .neq (.tmp 77) (.tmp 79)), (some (75, false)), 0⟩, ⟨(some 81), (.pick (.tmp 75) (.val (.lit (.bool true))) (.tmp 80)), none, 0⟩, ⟨(some 82), (.mv (.tmp 81)), none, 0⟩, ⟨(some 83), (.mv (.tmp 9)), (some (82, false)), 0⟩, ⟨(some 84), (.mv (.tmp 11)), (some (82, false)), 0⟩, ⟨(some 85), (.call false (.val (.lit (.func (.func 23) #[] #[]))) [(.tmp 83), (.tmp 84)]), (some (82, false)), 0⟩, ⟨(some 86), (.not (.tmp 85)), (some (82, false)), 0⟩, ⟨(some 87), (.pick (.tmp 82) (.val (.lit (.bool true))) (.tmp 86)), none, 0⟩, ⟨(some 88), (.mv (.tmp 87)), none, 0⟩, ⟨(some 89), (.load 2 true (.tmp 13)), (some (88, false)), 0⟩, ⟨(some 90), (.build [(.lit (.int .i64 0)), (.lit (.int .i64 0))] [(1, (1, (.val (.lit (.int .i64 1)))))]), (some (88, false)), 0⟩, ⟨(some 91), (.eqAgg true [.ci, .ci] (.tmp 89) (.tmp 90)), (some (88, false)), 0⟩, ⟨(some 92), (.pick (.tmp 88) (.val (.lit (.bool true))) (.tmp 91)), none, 0⟩])
 (.cond (.tmp 92) (.seq (.reg 0 [⟨(some 4), (.mv (.val (.lit (.bool false)))), none, 0⟩])
 .ret) .skip))
 c3r1))))))))))) := rfl

section
variable {b1 b2 : Bool} {ml il : List Int} {k s n : Nat}
set_option maxHeartbeats 8000000 in
theorem k3t (m : MdOk ml il k s n) {id ia : Nat} {oa o0 o1 : Bool} {H : List Blk} (h0 : H[0]? = some (.cells o0 false 3 [[ints b1 ml, ints b2 il, i64 k]])) (h1 : H[1]? = some (.cells o1 false 2 [[i64 n, .lsl id 0 k]]))
    (hA : H[ia]? = some (.cells oa false 2 (prR (pl (gZ ml k s n) n)))) (hv : MvR n k (fZ ml il s n) (.agg [i64 n, .lsl id 0 k]) H) (hRG : ∀ j, j < n → RG ml il j) :
    T none Try.prog muts 146 0 c3r1 ⟨[(2, .loc 0 0 0), (4, bl false), (5, .loc 1 0 0), (9, .lsl ia 0 n)], H⟩ (leave 0 [.tmp 4] fun r' H' => r' = bl true ∧ H' = []) := by
  have h21c := z21c m hRG
  obtain ⟨hn, _, _, hk, hks⟩ := m
  obtain ⟨id', o2, els, he, hid, hel, hev⟩ := hv.h
  simp only [AV.agg.injEq, List.cons.injEq, AV.lsl.injEq, and_true, true_and] at he
  subst he
  obtain ⟨r0, hr0, _⟩ := hev 0 (by omega)
  have hlat := fun (N : Nat) (H' : List Blk) hx o2 hN => MvR.later (n := n) (f := fZ ml il s n) (N := N) (H := H) (H' := H') hk.1 hid hel hev hx o2 hN
  have eE : (List.take (k - 1) (List.drop 1 els)).length = k - 1 := by simp [hel]
  rw [hr0] at hlat
  have h0a := at_ap h0
  have h1a := at_ap h1
  have hida := at_ap hid
  obtain ⟨N, hN⟩ : ∃ N, H.length = N := ⟨_, rfl⟩
  obtain ⟨u1, u2, u3, u4⟩ := cells_sub (X := []) (H := H) hN
  have hl := (List.getElem?_eq_some_iff.1 hid).1
  have hl1 := (List.getElem?_eq_some_iff.1 h1).1
  have n0 : N ≠ 0 := by omega
  have n1 : N ≠ 1 := by omega
  have n2 : N ≠ id := by omega
  have n3 : id ≠ N := by omega
  have n4 : ∀ j, N + j ≠ id := fun j => by omega
  have n5 : ∀ j, id ≠ N + j := fun j => by omega
  have n6 : 1 ≠ N := by omega
  have n7 : 0 ≠ N := by omega
  have n8 : id ≠ 1 := fun e => by subst e; rw [h1] at hid; simp at hid
  have n9 : 1 ≠ id := fun e => n8 e.symm
  clear hl hl1
  replace hlat := And.intro hlat trivial
  replace h21c := And.intro h21c trivial
  replace hks := And.intro hks trivial
  replace hr0 : els.getD 0 [] = [.lsl r0 0 n] := hr0
  have hk1 : 1 ≤ k := hk.1
  have hk0 : 0 < k := hk.1
  have e11 : Int.toNat 1 = 1 := rfl
  have e00 : Int.toNat 0 = 0 := rfl
  clear hev hv hRG
  generalize hE : List.take (k - 1) (List.drop 1 els) = E at *
  have eT : List.take (k - 1) E = E := List.take_of_length_le (by omega)
  have ek : k - 1 + 1 = k := by omega
  unfold c3r1
  repeat' (first
    | ((with_reducible refine T_calm ?_ ?_); rfl)
    | with_reducible first
      | refine T_seq ?_
      | refine T_reg ?_
      | refine T_draw ?_
      | refine T_skip ?_
      | refine T_exit ?_
      | refine T_block ?_
      | refine T_cond_t rfl ?_
      | refine T_cond_f rfl ?_
      | refine wdW_cons rfl ?_
      | ((first | refine T_cond rfl (fun hc => ?_) (fun hc => ?_) | refine wguard_split (fun hc => ?_) (fun hc => ?_) | refine wguardX_split (fun hc => ?_) (fun hc => ?_)) <;> have hd := hc <;> (try simp (disch := omega) only [wrapI] at hd) <;> have hs := hd <;> (try simp only [Bool.not_eq_true', Bool.not_eq_false', Bool.and_eq_true, Bool.and_eq_false_iff, Bool.or_eq_true, Bool.or_eq_false_iff, decide_eq_true_eq, decide_eq_false_iff_not, beq_iff_eq, bne_iff_ne, beq_eq_false_iff_ne, bne_eq_false_iff_eq, Bool.not_true, Bool.not_false, gt_iff_lt, ge_iff_le, Int.not_lt, Int.not_le, ne_eq, Decidable.not_not] at hd) <;> (try simp at hs))
      | refine T_ret ?_
      | refine leave_of (.inr rfl) _ rfl ?_
      | refine leave_of (.inl rfl) _ rfl ?_
      | refine leaveA_of (.inr rfl) _ rfl ?_
      | refine leaveA_of (.inl rfl) _ rfl ?_
      | refine wif_intro ?_ (fun hc => ?_)
      | refine And.intro ?_ ?_
      | intro hc
    | simp (maxSteps := 4000000) only [wops_cons, wstep_none, wrun_call, wrun_build, wrun_load, wrun_store, wrun_faddr, wrun_iaddrS, wrun_slc, wrun_alloc, wrun_bslice, wrun_app, wrunX_build, wrunX_load, wrunX_store, wrunX_faddr, wrunX_iaddrS, wrunX_slc, wrunX_alloc, wrunX_bslice, wrunX_app, wdW_nil, wstepX_none, wop, aop, ev, look, put_some, put_none, writes, ores_some, ores_ite_none, ores_bind, thenK, elsOf, szOk, value, cut, hget, fillA, putCells, AV.parts, isOne, toLits, mkAgg, boundOf, List.flatten_cons, List.flatten_nil, rowsOf, List.map_cons, List.map_nil, List.length_cons, List.length_nil, List.getElem?_cons_zero, List.getElem?_cons_succ, List.set_cons_zero, List.set_cons_succ, List.take_succ_cons, List.take_zero, List.take_nil, List.drop_succ_cons, List.drop_zero, List.drop_nil, List.cons_append, List.nil_append, List.append_nil, List.replicate_zero, List.replicate_succ, List.getD_cons_zero, List.all_cons, List.all_nil, List.isEmpty_cons, List.length_append, Option.getD_some, Option.map_some, Option.map_none, if_true, if_false, Nat.reduceEqDiff, Nat.reduceAdd, Nat.reduceLeDiff, Nat.reduceLT, Nat.add_zero, Nat.zero_add, Nat.sub_zero, Nat.sub_self, Nat.mul_one, Nat.le_refl, Bool.and_true, Bool.and_false, Bool.false_and, Bool.or_true, Bool.false_eq_true, eq_self, true_and, and_true, and_self, beq_self_eq_true, List.all_cons, *]
    | simp (disch := omega) only [getD_ints, wrapI]
    | (with_reducible refine wdW_cons ?_ ?_; (next => simp [chk, foot, compatB, St.get, ev, look, kind, wids, wtops, tops, opds, topId, n0, n1, n2, n4]; done))
    | omega)
  refine wcall_P h21c.1 (rL_M (hlat.1 (N + 3) _ (Ext.app _ _) true (by rw [u2]; rfl))) (plain_tm ..) ?_
  intro ic oc H2 hx hC
  obtain ⟨o3, g0⟩ := hx.cell (h0a _)
  obtain ⟨o4, g1⟩ := hx.cell (h1a _)
  obtain ⟨o5, gA⟩ := hx.cell (at_ap hA _)
  have hq : ((n : Nat) : Int).tdiv ((k : Nat) : Int) = (s : Nat) := by
    rw [← hks.1, Int.natCast_mul]; exact Int.mul_tdiv_cancel_left _ (by omega)
  have hs1 : s ≤ n := by have := Nat.mul_le_mul_right s hk1; have := hks.1; omega
  have ew : IntKind.i64.wrap ((s : Nat) : Int) = (s : Nat) := wrapI (by omega) (by omega)
  have hbnn : (((n : Nat) : Int) != ((n : Nat) : Int)) = false := by simp
  have lA := pl_len (gZ ml k s n) n
  have lC := pl_len (fun i => gZ ml k s n ((i + n - s) % n)) n
  have gtA : ∀ j, j < n → (prR (pl (gZ ml k s n) n)).getD j [] = [i64 (gZ ml k s n j).1, i64 (gZ ml k s n j).2] := fun j hj => by rw [prR_get (by omega), pl_get hj]
  have gtC : ∀ j, j < n → (prR (pl (fun i => gZ ml k s n ((i + n - s) % n)) n)).getD j [] = [i64 (gZ ml k s n ((j + n - s) % n)).1, i64 (gZ ml k s n ((j + n - s) % n)).2] := fun j hj => by rw [prR_get (by omega), pl_get hj]
  have lA2 := prR_len (pl (gZ ml k s n) n)
  have lC2 := prR_len (pl (fun i => gZ ml k s n ((i + n - s) % n)) n)
  rw [lA] at lA2
  rw [lC] at lC2
  have l1 := (List.getElem?_eq_some_iff.1 g1).1
  have lia := (List.getElem?_eq_some_iff.1 gA).1
  have lic := (List.getElem?_eq_some_iff.1 hC).1
  clear hx hlat h21c h0a h1a hida u1 u2 u3 u4 hN n0 n1 n2 n3 n4 n5 n6 n7 n8 n9 hr0 hE eE eT ek h0 h1 hA hid hel
  generalize prR (pl (gZ ml k s n) n) = A at *
  generalize prR (pl (fun i => gZ ml k s n ((i + n - s) % n)) n) = C at *
  replace gtA := And.intro gtA trivial
  replace gtC := And.intro gtC trivial
  repeat' (first
    | ((with_reducible refine T_calm ?_ ?_); rfl)
    | with_reducible first
      | refine T_seq ?_
      | refine T_reg ?_
      | refine T_draw ?_
      | refine T_skip ?_
      | refine T_exit ?_
      | refine T_block ?_
      | refine T_cond_t rfl ?_
      | refine T_cond_f rfl ?_
      | refine wdW_cons rfl ?_
      | ((first | refine T_cond rfl (fun hc => ?_) (fun hc => ?_) | refine wguard_split (fun hc => ?_) (fun hc => ?_) | refine wguardX_split (fun hc => ?_) (fun hc => ?_)) <;> have hd := hc <;> (try simp (disch := omega) only [wrapI] at hd) <;> have hs := hd <;> (try simp only [bne_iff_ne, bne_eq_false_iff_eq, Bool.not_false, ne_eq] at hd) <;> (try simp at hs))
      | refine T_ret ?_
      | refine leave_of (.inr rfl) _ rfl ?_
      | refine leave_of (.inl rfl) _ rfl ?_
      | refine leaveA_of (.inr rfl) _ rfl ?_
      | refine leaveA_of (.inl rfl) _ rfl ?_
      | refine wif_intro ?_ (fun hc => ?_)
      | refine And.intro ?_ ?_
      | intro hc
    | simp (maxSteps := 4000000) only [wops_nil, wops_cons, wstep_none, wstep_some, wguard_ff, wrun_mv, wrun_pick, wrun_bin, wrun_ext, wrun_load, wrun_faddr, wrun_len, wop, aop, ev, look, put_some, writes, ores_some, ores_none_ite, ores_map, ores_bind, binV, thenK, intV, lenOf, value, cut, hget, mkAgg, List.length_cons, List.length_nil, List.getElem?_cons_zero, List.getElem?_cons_succ, List.take_succ_cons, List.take_zero, List.take_nil, List.drop_succ_cons, List.drop_zero, List.append_nil, List.replicate_zero, List.getD_cons_zero, Option.pure_def, Option.bind_eq_bind, Option.getD_some, Option.map_some, if_true, if_false, Nat.reduceEqDiff, Nat.add_zero, Nat.zero_add, reduceCtorEq, Bool.false_eq_true, eq_self, *]
    | simp (disch := omega) only [getD_ints, wrapI]
    | omega)
  refine T_for [5, 9, 16, 18, 19] (fun i => ⟨[(5, .loc 1 0 0), (9, .lsl ia 0 n), (16, .lsl ic 0 n), (18, i64 s), (19, i64 i)], H2⟩) n (fun _ => True) 0 rfl trivial (Nat.zero_le _) ?_
  intro i hi _
  unfold c3l0
  by_cases hin : i < n
  · have emod : ((i : Int) - (s : Int)) % (n : Int) = (((i + n - s) % n : Nat) : Int) := by
      rw [← Int.add_emod_right, show (i : Int) - (s : Int) + (n : Int) = ((i + n - s : Nat) : Int) by omega]; rfl
    have h24 := k24 ((i : Int) - (s : Int)) n (by omega) (by omega)
    rw [emod] at h24
    have hjn : (i + n - s) % n < n := Nat.mod_lt _ (by omega)
    have c1 := gtA.1 _ hjn
    have c2 := gtC.1 _ hin
    clear gtA gtC
    generalize gZ ml k s n ((i + n - s) % n) = q at *
    generalize (i + n - s) % n = j at *
    have ew2 : IntKind.i64.wrap ((i : Int) - (s : Int)) = (i : Int) - (s : Int) := wrapI (by omega) (by omega)
    repeat' (first
      | ((with_reducible refine T_calm ?_ ?_); rfl)
      | with_reducible first
        | refine T_seq ?_
        | refine T_reg ?_
        | refine T_draw ?_
        | refine T_skip ?_
        | refine T_exit ?_
        | refine T_block ?_
        | refine T_cond_t rfl ?_
        | refine T_cond_f rfl ?_
        | refine wdW_cons rfl ?_
        | (show wcall _ false (.lit (.func (.func 24) _ _)) _ _ _ _; refine wcall_fn (h24) rfl (by simp [plainL, plain, plainR, Int.toNat_natCast, l1, lia, lic]) ?_)
        | (show wcallX _ false (.lit (.func (.func 24) _ _)) _ _ _ _; refine wcallX_fn (h24) rfl (by simp [plainL, plain]) ?_)
        | ((first | refine T_cond rfl (fun hc => ?_) (fun hc => ?_) | refine wguard_split (fun hc => ?_) (fun hc => ?_) | refine wguardX_split (fun hc => ?_) (fun hc => ?_)) <;> have hd := hc <;> (try simp (disch := omega) only [wrapI] at hd) <;> have hs := hd <;> (try simp only [decide_eq_true_eq, decide_eq_false_iff_not, Int.not_lt] at hd) <;> (try simp at hs))
        | refine T_ret ?_
        | refine leave_of (.inr rfl) _ rfl ?_
        | refine leave_of (.inl rfl) _ rfl ?_
        | refine leaveA_of (.inr rfl) _ rfl ?_
        | refine leaveA_of (.inl rfl) _ rfl ?_
        | refine wif_intro ?_ (fun hc => ?_)
        | refine And.intro ?_ ?_
        | intro hc
      | simp (maxSteps := 4000000) only [wops_nil, wops_cons, wstep_none, wrun_mv, wrun_bin, wrun_eqAgg, wrun_load, wrun_faddr, wrun_iaddrS, wrunX_mv, wrunX_bin, wrunX_eqAgg, wrunX_load, wrunX_faddr, wrunX_iaddrS, wdW_nil, wstepX_none, wrunX_call, get_mk, wop, aop, ev, look, put_some, writes, ores_some, ores_ite_none, binV, thenK, blockK, boolV, value, cut, hget, toLits, mkAgg, tupOf, cellsEq, cellEq, List.map_cons, List.map_nil, List.length_cons, List.length_nil, List.take_succ_cons, List.take_zero, List.take_nil, List.drop_zero, List.append_nil, List.replicate_zero, List.getD_cons_zero, Option.getD_some, Option.map_some, if_true, if_false, Nat.reduceEqDiff, Nat.reduceAdd, Nat.add_zero, Nat.zero_add, reduceCtorEq, Bool.not_true, Bool.false_eq_true, eq_self, true_and, and_true, and_self, decide_true, beq_self_eq_true, freeze, lidsL, lids, List.flatMap_cons, List.flatMap_nil, ren, Int.toNat_natCast, *]
      | simp (disch := omega) only [wrapI]
      | (with_reducible show wcall _ false (.lit (.func (.func 24) _ _)) _ _ _ _; refine wcall_fn (h24) ?_ ?_ ?_; (next => simp [rfyL, rfy, hget, ints, take_rfy, Int.toNat_natCast, l1, lia, lic]); (next => simp [plainL, plain, plainR, Int.toNat_natCast, l1, lia, lic]))
      | (with_reducible show wcallX _ false (.lit (.func (.func 24) _ _)) _ _ _ _; refine wcallX_fn (h24) ?_ ?_ ?_; (next => simp [rfyL, rfy, hget, ints, take_rfy, Int.toNat_natCast, l1, lia, lic]); (next => simp [plainL, plain, plainR, Int.toNat_natCast, l1, lia, lic]))
      | (with_reducible refine wdW_cons ?_ ?_; (next => simp [chk, foot, compatB, argsOf, St.get, target, ev, look, lidsL, kind, wids, tops, opds, topId, l1, lic]; done))
      | omega)
    all_goals first | rfl | (simp [St.only, get_mk, look]; done)
  · have hie : i = n := by omega
    subst hie
    repeat' (first
      | ((with_reducible refine T_calm ?_ ?_); rfl)
      | with_reducible first
        | refine T_seq ?_
        | refine T_reg ?_
        | refine T_draw ?_
        | refine T_skip ?_
        | refine T_exit ?_
        | refine T_block ?_
        | refine T_cond_t rfl ?_
        | refine T_cond_f rfl ?_
        | refine wdW_cons rfl ?_
        | ((first | refine T_cond rfl (fun hc => ?_) (fun hc => ?_) | refine wguard_split (fun hc => ?_) (fun hc => ?_) | refine wguardX_split (fun hc => ?_) (fun hc => ?_)) <;> have hd := hc <;> (try simp (disch := omega) only [wrapI] at hd) <;> have hs := hd <;> (try simp only [decide_eq_true_eq, decide_eq_false_iff_not, Int.not_lt] at hd) <;> (try simp at hs))
        | refine T_ret ?_
        | refine leave_of (.inr rfl) _ rfl ?_
        | refine leave_of (.inl rfl) _ rfl ?_
        | refine leaveA_of (.inr rfl) _ rfl ?_
        | refine leaveA_of (.inl rfl) _ rfl ?_
        | refine wif_intro ?_ (fun hc => ?_)
        | refine And.intro ?_ ?_
        | intro hc
      | simp (maxSteps := 4000000) only [wops_nil, wops_cons, wstep_none, wrun_mv, wrun_bin, wrun_load, wrun_faddr, get_mk, wop, aop, ev, look, put_some, writes, ores_some, binV, thenK, blockK, value, cut, hget, mkAgg, tupOf, List.length_cons, List.length_nil, List.take_succ_cons, List.take_zero, List.drop_zero, List.append_nil, List.replicate_zero, List.getD_cons_zero, Option.getD_some, Option.map_some, if_true, if_false, Nat.reduceEqDiff, Nat.add_zero, Nat.zero_add, reduceCtorEq, Bool.false_eq_true, eq_self, and_true, false_and, ren, *]
      | simp (disch := omega) only [getD_ints, wrapI]
      | omega)
    all_goals first | rfl
end
end Go.Abs
