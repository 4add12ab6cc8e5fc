import Derived.Test.YtpfmamngjefohaaK331x
import Derived.Test.YtpfmamngjefohaaK379x
set_option linter.all false
set_option linter.unusedVariables false
set_option linter.unusedSimpArgs false
set_option linter.unusedSectionVars false
namespace Go.Abs
open Go.Proofs
/-! GrindAdds: AddSession of both sides -/
abbrev dyR (n1 : Bool) (lo : List Int) (n2 : Bool) (hi : List Int) (n3 : Bool) (s : List Ss) (x : Ss) : List AV := [ints n1 lo, ints n2 hi, sss n3 s, tx x.mi, tx x.st, i64 x.mn]
abbrev dyV (n1 : Bool) (lo : List Int) (n2 : Bool) (hi : List Int) (n3 : Bool) (s : List Ss) (x : Ss) : AV := .agg (dyR n1 lo n2 hi n3 s x)
def c11r0 (t : ACode) : ACode :=
 (.seq (.reg 1 [⟨(some 3), (.box 6 (.tmp 1)), none, 0⟩, ⟨(some 4), (.mv (.val (.lit (.bool false)))), none, 1⟩])
 (.seq (.seq (.reg 0 [⟨(some 15), (.call false (.val (.lit (.func (.func 13) #[] #[]))) []), none, 0⟩, ⟨(some 16), (.not (.tmp 15)), none, 0⟩])
 (.cond (.tmp 16) (.seq (.reg 0 [⟨(some 4), (.mv (.val (.lit (.bool false)))), none, 0⟩])
 .ret) .skip))
 (.seq (.seq (.reg 1 [⟨(some 17), (.mv (.tmp 0)), none, 0⟩, ⟨(some 18), (.call false (.val (.lit (.func (.func 18) #[] #[]))) [(.tmp 17)]), none, 0⟩, ⟨(some 19), (.not (.tmp 18)), none, 0⟩, ⟨(some 20), (.mv (.tmp 19)), none, 0⟩, ⟨(some 21), (.faddr 0 (.tmp 3)), (some (20, false)), 0⟩, ⟨(some 22), (.load 2 true (.tmp 21)), (some (20, false)), 0⟩, ⟨(some 23), (.call false (.val (.lit (.func (.func 19) #[] #[]))) [(.tmp 22)]), (some (20, false)), 0⟩, ⟨(some 24), (.not (.tmp 23)), (some (20, false)), 0⟩, ⟨(some 25), (.pick (.tmp 20) (.val (.lit (.bool true))) (.tmp 24)), none, 0⟩, ⟨(some 26), (.mv (.tmp 25)), none, 0⟩, ⟨(some 27), (.faddr 2 (.tmp 3)), (some (26, false)), 0⟩, ⟨(some 28), (.load 1 false (.tmp 27)), (some (26, false)), 0⟩, ⟨(some 29), (.call false (.val (.lit (.func (.func 28) #[] #[]))) [(.tmp 28)]), (some (26, false)), 0⟩, ⟨(some 30), (.not (.tmp 29)), (some (26, false)), 0⟩, ⟨(some 31), (.pick (.tmp 26) (.val (.lit (.bool true))) (.tmp 30)), none, 0⟩, ⟨(some 32), (.mv (.tmp 31)), none, 0⟩, ⟨(some 33), (.faddr 3 (.tmp 3)), (some (32, false)), 0⟩, ⟨(some 34), (.load 3 true (.tmp 33)), (some (32, false)), 0⟩, ⟨(some 35), (.bslice 3 1 [(.lit (.string ⟨#[]⟩)), (.lit (.string ⟨#[]⟩)), (.lit (.int .i64 0))] [(0, (.tmp 34))]), (some (32, false)), 0⟩, ⟨(some 36), (.call false (.val (.lit (.func (.func 28) #[] #[]))) [(.tmp 35)]), (some (32, false)), 1⟩, ⟨(some 37), (.not (.tmp 36)), (some (32, false)), 1⟩, ⟨(some 38), (.pick (.tmp 32) (.val (.lit (.bool true))) (.tmp 37)), none, 1⟩])
 (.cond (.tmp 38) (.seq (.reg 0 [⟨(some 4), (.mv (.val (.lit (.bool true)))), none, 0⟩])
 .ret) .skip))
 t)))
def c11r1 (t : ACode) : ACode :=
 (.seq (.dreg 0 [(0, ⟨(some 40), (.mv (.tmp 0)), none, 0⟩), (1, ⟨(some 41), (.call false (.val (.lit (.func (.func 22) #[] #[]))) [(.tmp 40)]), none, 0⟩), (2, ⟨(some 42), (.faddr 0 (.tmp 3)), none, 0⟩), (3, ⟨(some 43), (.load 2 true (.tmp 42)), none, 0⟩), (4, ⟨(some 44), (.call false (.val (.lit (.func (.func 23) #[] #[]))) [(.tmp 43)]), none, 0⟩), (5, ⟨(some 45), (.faddr 2 (.tmp 3)), none, 0⟩), (6, ⟨(some 46), (.load 1 false (.tmp 45)), none, 0⟩), (7, ⟨(some 47), (.call false (.val (.lit (.func (.func 30) #[] #[]))) [(.tmp 46)]), none, 0⟩), (8, ⟨(some 48), (.faddr 3 (.tmp 3)), none, 0⟩), (9, ⟨(some 49), (.load 3 true (.tmp 48)), none, 0⟩), (10, ⟨(some 50), (.call false (.val (.lit (.func (.func 56) #[] #[]))) [(.tmp 41), (.tmp 44), (.tmp 47), (.tmp 49)]), none, 0⟩), (11, ⟨(some 39), (.mv (.tmp 50)), none, 0⟩), (12, ⟨(some 51), (.ext (.tmp 39) 0), none, 0⟩), (13, ⟨(some 52), (.ext (.tmp 39) 1), none, 0⟩), (14, ⟨(some 5), (.mv (.tmp 51)), none, 0⟩), (15, ⟨(some 6), (.mv (.tmp 52)), none, 0⟩)] [[], [0], [], [2], [3, 1, 2, 0], [], [5], [6, 4, 5, 3, 1, 2, 0], [], [8], [1, 4, 7, 9, 0, 3, 2, 6, 5, 8], [10, 1, 4, 7, 9, 0, 3, 2, 6, 5, 8], [11, 10, 1, 4, 7, 9, 0, 3, 2, 6, 5, 8], [11, 10, 1, 4, 7, 9, 0, 3, 2, 6, 5, 8], [12, 10, 0, 1, 2, 3, 4, 5, 6, 7, 8, 9, 11], [13, 14, 0, 1, 2, 3, 4, 5, 6, 7, 8, 9, 10, 11, 12]])
 (.seq (.reg 0 [⟨(some 54), (.mv (.tmp 0)), none, 0⟩, ⟨(some 55), (.faddr 0 (.tmp 3)), none, 0⟩, ⟨(some 56), (.load 2 true (.tmp 55)), none, 0⟩, ⟨(some 57), (.faddr 2 (.tmp 3)), none, 0⟩, ⟨(some 58), (.load 1 false (.tmp 57)), none, 0⟩, ⟨(some 59), (.faddr 3 (.tmp 3)), none, 0⟩, ⟨(some 60), (.load 3 true (.tmp 59)), none, 0⟩, ⟨(some 61), (.call false (.val (.lit (.func (.func 57) #[] #[]))) [(.tmp 54), (.tmp 56), (.tmp 58), (.tmp 60)]), none, 0⟩, ⟨(some 53), (.mv (.tmp 61)), none, 0⟩, ⟨(some 62), (.ext (.tmp 53) 0), none, 0⟩, ⟨(some 63), (.ext (.tmp 53) 1), none, 0⟩, ⟨(some 7), (.mv (.tmp 62)), none, 0⟩, ⟨(some 8), (.mv (.tmp 63)), none, 0⟩])
 (.seq (.seq (.reg 0 [⟨(some 64), (.mv (.tmp 6)), none, 0⟩, ⟨(some 65), (.mv (.tmp 8)), none, 0⟩, ⟨(some 66), (.bin .neq (.tmp 64) (.tmp 65)), none, 0⟩, ⟨(some 67), (.mv (.tmp 66)), none, 0⟩, ⟨(some 68), (.mv (.tmp 5)), (some (67, false)), 0⟩, ⟨(some 69), (.len (.tmp 68)), (some (67, false)), 0⟩, ⟨(some 70), (.mv (.tmp 7)), (some (67, false)), 0⟩, ⟨(some 71), (.len (.tmp 70)), (some (67, false)), 0⟩, ⟨(some 72), (.bin .neq (.tmp 69) (.tmp 71)), (some (67, false)), 0⟩, ⟨(some 73), (.pick (.tmp 67) (.val (.lit (.bool true))) (.tmp 72)), none, 0⟩])
 (.cond (.tmp 73) (.seq (.reg 0 [⟨(some 4), (.mv (.val (.lit (.bool false)))), none, 0⟩])
 .ret) .skip))
 (.seq (.seq (.reg 0 [⟨(some 9), (.mv (.val (.lit (.int .i64 0)))), none, 0⟩])
 (.block 0 (.loop c11l0)))
 t))))
def c11r2 : ACode :=
 (.seq (.dreg 1 [(0, ⟨(some 90), (.mv (.tmp 0)), none, 0⟩), (1, ⟨(some 91), (.call false (.val (.lit (.func (.func 22) #[] #[]))) [(.tmp 90)]), none, 0⟩), (2, ⟨(some 92), (.faddr 0 (.tmp 3)), none, 0⟩), (3, ⟨(some 93), (.load 2 true (.tmp 92)), none, 0⟩), (4, ⟨(some 94), (.call false (.val (.lit (.func (.func 23) #[] #[]))) [(.tmp 93)]), none, 0⟩), (5, ⟨(some 95), (.faddr 2 (.tmp 3)), none, 0⟩), (6, ⟨(some 96), (.load 1 false (.tmp 95)), none, 0⟩), (7, ⟨(some 97), (.call false (.val (.lit (.func (.func 30) #[] #[]))) [(.tmp 96)]), none, 0⟩), (8, ⟨(some 98), (.faddr 3 (.tmp 3)), none, 0⟩), (9, ⟨(some 99), (.faddr 0 (.tmp 98)), none, 0⟩), (10, ⟨(some 100), (.load 1 false (.tmp 99)), none, 0⟩), (11, ⟨(some 101), (.call false (.val (.lit (.func (.func 58) #[] #[]))) [(.tmp 91), (.tmp 94), (.tmp 97), (.tmp 100)]), none, 0⟩), (12, ⟨(some 89), (.mv (.tmp 101)), none, 0⟩), (13, ⟨(some 102), (.ext (.tmp 89) 0), none, 0⟩), (14, ⟨(some 103), (.ext (.tmp 89) 1), none, 0⟩), (15, ⟨(some 10), (.alloc [(.sl true 0 []), (.sl true 0 [])]), none, 0⟩), (16, ⟨none, (.store 2 (.tmp 10) (.tmp 102)), none, 1⟩), (17, ⟨(some 11), (.mv (.tmp 103)), none, 1⟩)] [[], [0], [], [2], [3, 1, 2, 0], [], [5], [6, 4, 5, 3, 1, 2, 0], [], [8], [9, 8], [1, 4, 7, 10, 0, 3, 2, 6, 5, 9, 8], [11, 1, 4, 7, 10, 0, 3, 2, 6, 5, 9, 8], [12, 11, 1, 4, 7, 10, 0, 3, 2, 6, 5, 9, 8], [12, 11, 1, 4, 7, 10, 0, 3, 2, 6, 5, 9, 8], [], [15, 13, 11, 0, 1, 2, 3, 4, 5, 6, 7, 8, 9, 10, 12], [14, 16, 0, 1, 2, 3, 4, 5, 6, 7, 8, 9, 10, 11, 12, 13, 15]])
 (.seq (.reg 0 [⟨(some 104), (.mv (.tmp 0)), none, 0⟩, ⟨(some 105), (.faddr 0 (.tmp 3)), none, 0⟩, ⟨(some 106), (.load 2 true (.tmp 105)), none, 0⟩, ⟨(some 107), (.call false (.val (.lit (.func (.func 26) #[] #[]))) [(.tmp 104), (.tmp 106)]), none, 0⟩, ⟨(some 8), (.mv (.tmp 107)), none, 0⟩])
 (.seq (.seq (.reg 0 [⟨(some 108), (.mv (.tmp 8)), none, 0⟩, ⟨(some 109), (.bin .eql (.tmp 108) (.val (.lit (.int .i64 0)))), none, 0⟩])
 (.cond (.tmp 109) (.reg 0 [⟨(some 110), (.mv (.tmp 0)), none, 0⟩, ⟨(some 111), (.faddr 2 (.tmp 3)), none, 0⟩, ⟨(some 112), (.load 1 false (.tmp 111)), none, 0⟩, ⟨(some 113), (.call false (.val (.lit (.func (.func 59) #[] #[]))) [(.tmp 110), (.tmp 112)]), none, 0⟩, ⟨(some 8), (.mv (.tmp 113)), none, 0⟩]) .skip))
 (.seq (.seq (.reg 0 [⟨(some 114), (.mv (.tmp 8)), none, 0⟩, ⟨(some 115), (.bin .eql (.tmp 114) (.val (.lit (.int .i64 0)))), none, 0⟩, ⟨(some 116), (.mv (.tmp 115)), none, 0⟩, ⟨(some 117), (.faddr 3 (.tmp 3)), (some (116, true)), 0⟩, ⟨(some 118), (.faddr 0 (.tmp 117)), (some (116, true)), 0⟩, ⟨(some 119), (.load 1 false (.tmp 118)), (some (116, true)), 0⟩, ⟨(some 120), (.call false (.val (.lit (.func (.func 33) #[] #[]))) [(.tmp 119)]), (some (116, true)), 0⟩, ⟨(some 121), (.not (.tmp 120)), (some (116, true)), 0⟩, ⟨(some 122), (.pick (.tmp 116) (.tmp 121) (.val (.lit (.bool false)))), none, 0⟩])
 (.cond (.tmp 122) (.reg 0 [⟨(some 8), (.mv (.val (.lit (.int .i64 4)))), none, 0⟩]) .skip))
 (.seq (.reg 1 [⟨(some 12), (.alloc [(.sl true 0 []), (.sl true 0 [])]), none, 0⟩])
 (.seq (.seq (.reg 0 [⟨(some 123), (.mv (.tmp 8)), none, 0⟩, ⟨(some 124), (.bin .eql (.tmp 123) (.val (.lit (.int .i64 0)))), none, 0⟩])
 (.cond (.tmp 124) (.seq (.reg 1 [⟨(some 126), (.mv (.tmp 0)), none, 0⟩, ⟨(some 127), (.faddr 0 (.tmp 3)), none, 0⟩, ⟨(some 128), (.load 2 true (.tmp 127)), none, 0⟩, ⟨(some 129), (.faddr 2 (.tmp 3)), none, 0⟩, ⟨(some 130), (.load 1 false (.tmp 129)), none, 0⟩, ⟨(some 131), (.faddr 3 (.tmp 3)), none, 0⟩, ⟨(some 132), (.faddr 0 (.tmp 131)), none, 0⟩, ⟨(some 133), (.load 1 false (.tmp 132)), none, 0⟩, ⟨(some 134), (.call false (.val (.lit (.func (.func 60) #[] #[]))) [(.tmp 126), (.tmp 128), (.tmp 130), (.tmp 133)]), none, 0⟩, ⟨(some 125), (.mv (.tmp 134)), none, 0⟩, ⟨(some 135), (.ext (.tmp 125) 0), none, 0⟩, ⟨(some 136), (.ext (.tmp 125) 1), none, 0⟩, ⟨(some 13), (.alloc [(.sl true 0 []), (.sl true 0 [])]), none, 0⟩, ⟨none, (.store 2 (.tmp 13) (.tmp 135)), none, 1⟩, ⟨(some 14), (.mv (.tmp 136)), none, 1⟩])
 (.seq (.reg 0 [⟨(some 137), (.load 2 true (.tmp 13)), none, 0⟩, ⟨none, (.store 2 (.tmp 12) (.tmp 137)), none, 0⟩])
 (.seq (.reg 0 [⟨(some 138), (.mv (.tmp 14)), none, 0⟩, ⟨(some 139), (.not (.tmp 138)), none, 0⟩])
 (.cond (.tmp 139) (.reg 0 [⟨(some 8), (.mv (.val (.lit (.int .i64 26)))), none, 0⟩]) .skip)))) .skip))
 (.seq (.reg 0 [⟨(some 140), (.mv (.tmp 11)), none, 0⟩, ⟨(some 141), (.mv (.tmp 8)), none, 0⟩, ⟨(some 142), (.bin .eql (.tmp 140) (.tmp 141)), none, 0⟩, ⟨(some 143), (.mv (.tmp 142)), none, 0⟩, ⟨(some 144), (.load 2 true (.tmp 10)), (some (143, true)), 0⟩, ⟨(some 145), (.load 2 true (.tmp 12)), (some (143, true)), 0⟩, ⟨(some 146), (.call false (.val (.lit (.func (.func 61) #[] #[]))) [(.tmp 144), (.tmp 145)]), (some (143, true)), 0⟩, ⟨(some 147), (.pick (.tmp 143) (.tmp 146) (.val (.lit (.bool false)))), none, 0⟩, ⟨(some 4), (.mv (.tmp 147)), none, 0⟩])
 .ret)))))))
theorem c11_cut : c11 = c11r0 (c11r1 c11r2) := rfl
theorem wcallX_S {s : List (Nat × AV)} {h : List Blk} {K : St → Prop} {g : FuncId} {args args' : List AV} {e : Option Nat} {q : List Ss} {n : Nat} {c : Int} (hf : Fn Try.prog g args' (.tup [.lsl 0 0 n, i64 c]) [.cells false false 3 (ssR q)]) (he : rfyL (hget h) args = args') (hp : plainL args' = true)
    (hk : ∀ id H', Ext h H' → H'[id]? = some (.cells false false 3 (ssR q)) → K (St.put ⟨s, H'⟩ e (.tup [.lsl id 0 n, i64 c]))) : wcallX Try.prog false (.lit (.func (.func g) #[] #[])) args e ⟨s, h⟩ K := by
  refine wcallX_fn hf he hp ?_
  refine hk (0 + h.length) _ (Ext.call _ _ _) ?_
  rw [Nat.zero_add, List.getElem?_append_right (by rw [frzLen]; exact Nat.le_refl _), frzLen, Nat.sub_self]
  show some (renB _ (.cells false false 3 (ssR q))) = _
  simp only [renB, renR_ss]
theorem wcall_S {s : List (Nat × AV)} {h : List Blk} {K : St → Prop} {g : FuncId} {args args' : List AV} {e : Option Nat} {q : List Ss} {n : Nat} {c : Int} (hf : Fn Try.prog g args' (.tup [.lsl 0 0 n, i64 c]) [.cells false false 3 (ssR q)]) (he : rfyL (hget h) args = args') (hp : plainL args' = true)
    (hk : ∀ id H', Ext h H' → H'[id]? = some (.cells false false 3 (ssR q)) → K (St.put ⟨s, H'⟩ e (.tup [.lsl id 0 n, i64 c]))) : wcall Try.prog false (.lit (.func (.func g) #[] #[])) args e ⟨s, h⟩ K := by
  refine wcall_fn hf he hp ?_
  refine hk (0 + h.length) _ (Ext.call _ _ _) ?_
  rw [Nat.zero_add, List.getElem?_append_right (by rw [frzLen]; exact Nat.le_refl _), frzLen, Nat.sub_self]
  show some (renB _ (.cells false false 3 (ssR q))) = _
  simp only [renB, renR_ss]
theorem rL4 {d1 d2 d3 d4 : Nat} {H : List Blk} {v1 v2 v3 v4 w1 w2 w3 w4 : AV} (h1 : Rds d1 H v1 w1) (h2 : Rds d2 H v2 w2) (h3 : Rds d3 H v3 w3) (h4 : Rds d4 H v4 w4) (e1 : d1 ≤ 6) (e2 : d2 ≤ 6) (e3 : d3 ≤ 6) (e4 : d4 ≤ 6) : rfyL (hget H) [v1, v2, v3, v4] = [w1, w2, w3, w4] := by
  have a := rL3 h1 h2 h3 e1 e2 e3
  have b := rL1 h4 e4
  unfold rfyL at a b ⊢
  simp only [List.map_cons, List.map_nil, List.cons.injEq, and_true] at a b ⊢
  exact ⟨a.1, a.2.1, a.2.2, b⟩
set_option maxHeartbeats 8000000 in
theorem k11b {nil n1 n2 n3 o nl : Bool} {l : List Sk} {lo hi : List Int} {s q : List Ss} {x : Ss} {t : ACode} {K : Exit → St → Prop} {H : List Blk} (hq : q.length < 1000000) (hH : H[0]? = some (.cells o nl 6 [dyR n1 lo n2 hi n3 s x])) (h22 : Gv 2 Try.prog 22 [sts nil l] [cpS l]) (h23 : Gv 2 Try.prog 23 [dmV n1 lo n2 hi] [dmV false lo false hi]) (h30 : Gv 1 Try.prog 30 [sss n3 s] [sss false s])
    (h56 : Fn Try.prog 56 [cpS l, dmV false lo false hi, sss false s, ssV x] (.tup [.lsl 0 0 q.length, i64 0]) [.cells false false 3 (ssR q)]) (h57 : Fn Try.prog 57 [sts nil l, dmV n1 lo n2 hi, sss n3 s, ssV x] (.tup [.lsl 0 0 q.length, i64 0]) [.cells false false 3 (ssR q)])
    (hnext : ∀ H' o', H'[0]? = some (.cells o' nl 6 [dyR n1 lo n2 hi n3 s x]) → T none Try.prog muts 148 0 t ⟨[(0, sts nil l), (3, .loc 0 0 0)], H'⟩ K) : T none Try.prog muts 148 0 (c11r1 t) ⟨[(0, sts nil l), (3, .loc 0 0 0)], H⟩ K := by
  have hp : plain (cpS l) = true := plain_cpS l
  have y0 := (List.getElem?_eq_some_iff.1 hH).1
  replace h22 := And.intro h22 trivial
  replace h23 := And.intro h23 trivial
  replace h30 := And.intro h30 trivial
  replace h56 := And.intro h56 trivial
  replace h57 := And.intro h57 trivial
  replace hnext := PLift.up hnext
  unfold c11r1
  repeat' (first | ((with_reducible refine T_calm ?_ ?_); rfl) | (with_reducible first | refine T_seq ?_ | refine T_reg ?_ | refine T_draw ?_ | refine T_skip ?_ | refine T_exit ?_ | refine T_block ?_ | refine T_cond_t rfl ?_ | refine T_cond_f rfl ?_ | refine wdW_cons rfl ?_ | refine T_ret ?_ | refine wif_intro ?_ (fun hc => ?_) | refine And.intro ?_ ?_ | intro hc) | simp (maxSteps := 4000000) only [wrun_mv, wrunX_mv, wstepX_none, wrunX_call, wop, aop, ev, look, put_some, writes, ores_some, List.map_cons, List.map_nil, List.append_nil, List.replicate_zero, if_true, if_false, Nat.reduceEqDiff, reduceCtorEq, eq_self, *] | simp (disch := omega) only [getD_ints, wrapI] | (with_reducible refine wdW_cons ?_ ?_; (next => simp [chk, foot, compatB, argsOf, St.get, target, ev, look, lidsL, hget, kind, AOp.isRaw, wids, wtops, tops, opds, topId, plainR_sk, plainR_ss, y0]; done)) | omega)
  refine wcallX_E1 h22.1 rfl (by simp [plainL, plain, plainR_sk]) hp (rfy_plain _ hp 2) ?_
  intro v1 H1 hx1 hv1
  obtain ⟨q1, g1⟩ := hx1.cell hH
  have y1 := (List.getElem?_eq_some_iff.1 g1).1
  clear hx1
  repeat' (first | ((with_reducible refine T_calm ?_ ?_); rfl) | (with_reducible first | refine T_seq ?_ | refine T_reg ?_ | refine T_draw ?_ | refine T_skip ?_ | refine T_exit ?_ | refine T_block ?_ | refine T_cond_t rfl ?_ | refine T_cond_f rfl ?_ | refine wdW_cons rfl ?_ | refine T_ret ?_ | refine wif_intro ?_ (fun hc => ?_) | refine And.intro ?_ ?_ | intro hc) | simp (maxSteps := 4000000) only [wrun_load, wrun_faddr, wrunX_load, wrunX_faddr, wstepX_none, wrunX_call, wop, aop, ev, look, put_some, writes, ores_some, value, cut, hget, toLits, mkAgg, List.map_cons, List.map_nil, List.length_cons, List.length_nil, List.take_succ_cons, List.take_zero, List.drop_zero, List.getD_cons_zero, Option.getD_some, Option.map_some, if_true, if_false, Nat.reduceEqDiff, Nat.reduceAdd, Nat.add_zero, Nat.zero_add, reduceCtorEq, eq_self, *] | simp (disch := omega) only [getD_ints, wrapI] | (with_reducible refine wdW_cons ?_ ?_; (next => simp [chk, foot, compatB, argsOf, St.get, target, ev, look, lidsL, kind, AOp.isRaw, wids, tops, opds, topId, y0]; done)) | omega)
  refine wcallX_E1 h23.1 rfl (by simp [plainL, plain]) (by simp [plain, plainL]) (rfy_plain _ (by simp [plain, plainL]) 2) ?_
  intro v2 H2 hx2 hv2
  obtain ⟨q2, g2⟩ := hx2.cell g1
  have y2 := (List.getElem?_eq_some_iff.1 g2).1
  replace hv1 := hv1.ext hx2
  clear hx2
  repeat' (first | ((with_reducible refine T_calm ?_ ?_); rfl) | (with_reducible first | refine T_seq ?_ | refine T_reg ?_ | refine T_draw ?_ | refine T_skip ?_ | refine T_exit ?_ | refine T_block ?_ | refine T_cond_t rfl ?_ | refine T_cond_f rfl ?_ | refine wdW_cons rfl ?_ | refine T_ret ?_ | refine wif_intro ?_ (fun hc => ?_) | refine And.intro ?_ ?_ | intro hc) | simp (maxSteps := 4000000) only [wrun_load, wrun_faddr, wrunX_load, wrunX_faddr, wstepX_none, wrunX_call, wop, aop, ev, look, put_some, writes, ores_some, value, cut, hget, toLits, mkAgg, List.map_cons, List.map_nil, List.length_cons, List.length_nil, List.take_succ_cons, List.take_zero, List.drop_succ_cons, List.drop_zero, List.getD_cons_zero, Option.getD_some, Option.map_some, if_true, if_false, Nat.reduceEqDiff, Nat.zero_add, reduceCtorEq, Bool.false_eq_true, eq_self, *] | simp (disch := omega) only [getD_ints, wrapI] | (with_reducible refine wdW_cons ?_ ?_; (next => simp [chk, foot, compatB, argsOf, St.get, target, ev, look, lidsL, kind, AOp.isRaw, wids, tops, opds, topId, y0, y1]; done)) | omega)
  refine wcallX_E1 h30.1 rfl (by simp [plainL, plain, plainR_ss]) (by simp [plain, plainR_ss]) (rfy_plain _ (by simp [plain, plainR_ss]) 1) ?_
  intro v3 H3 hx3 hv3
  obtain ⟨q3, g3⟩ := hx3.cell g2
  have y3 := (List.getElem?_eq_some_iff.1 g3).1
  replace hv1 := hv1.ext hx3
  replace hv2 := hv2.ext hx3
  clear hx3
  repeat' (first | ((with_reducible refine T_calm ?_ ?_); rfl) | (with_reducible first | refine T_seq ?_ | refine T_reg ?_ | refine T_draw ?_ | refine T_skip ?_ | refine T_exit ?_ | refine T_block ?_ | refine T_cond_t rfl ?_ | refine T_cond_f rfl ?_ | refine wdW_cons rfl ?_ | refine T_ret ?_ | refine wif_intro ?_ (fun hc => ?_) | refine And.intro ?_ ?_ | intro hc) | simp (maxSteps := 4000000) only [wrun_load, wrun_faddr, wrunX_load, wrunX_faddr, wstepX_none, wrunX_call, wop, aop, ev, look, put_some, writes, ores_some, value, cut, hget, toLits, mkAgg, List.map_cons, List.map_nil, List.length_cons, List.length_nil, List.take_succ_cons, List.take_nil, List.drop_succ_cons, List.drop_zero, List.getD_cons_zero, Option.getD_some, Option.map_some, if_true, if_false, Nat.reduceEqDiff, Nat.reduceAdd, Nat.zero_add, reduceCtorEq, eq_self, *] | simp (disch := omega) only [getD_ints, wrapI] | (with_reducible refine wdW_cons ?_ ?_; (next => simp [chk, foot, compatB, argsOf, St.get, target, ev, look, lidsL, kind, AOp.isRaw, wids, tops, opds, topId, y0, y1, y2]; done)) | omega)
  refine wcallX_S h56.1 (rL4 hv1 hv2 hv3 (rds_plain (d := 0) (v := ssV x) rfl) (by omega) (by omega) (by omega) (by omega)) (by simp [plainL, plain, hp, plainR_ss]) ?_
  intro i5 H4 hx4 hb5
  obtain ⟨q4, g4⟩ := hx4.cell g3
  have y4 := (List.getElem?_eq_some_iff.1 g4).1
  clear hx4 hv1 hv2 hv3 hH g1 g2 g3 h22 h23 h30 h56 y0 y1 y2 y3
  repeat' (first | ((with_reducible refine T_calm ?_ ?_); rfl) | (with_reducible first | refine T_seq ?_ | refine T_reg ?_ | refine T_draw ?_ | refine T_skip ?_ | refine T_exit ?_ | refine T_block ?_ | refine T_cond_t rfl ?_ | refine T_cond_f rfl ?_ | refine wdW_cons rfl ?_ | refine T_ret ?_ | refine wif_intro ?_ (fun hc => ?_) | refine And.intro ?_ ?_ | intro hc) | simp (maxSteps := 4000000) only [wops_cons, wstep_none, wrun_call, wrun_mv, wrun_ext, wrun_load, wrun_faddr, wrunX_mv, wrunX_ext, wdW_nil, wstepX_none, wop, aop, ev, look, put_some, writes, ores_some, thenK, value, cut, hget, toLits, mkAgg, List.map_cons, List.map_nil, List.length_cons, List.length_nil, List.getElem?_cons_zero, List.getElem?_cons_succ, List.take_succ_cons, List.take_zero, List.take_nil, List.drop_succ_cons, List.drop_zero, List.append_nil, List.replicate_zero, List.getD_cons_zero, Option.getD_some, Option.map_some, if_true, if_false, Nat.reduceEqDiff, Nat.reduceAdd, Nat.add_zero, Nat.zero_add, reduceCtorEq, Bool.false_eq_true, eq_self, *] | simp (disch := omega) only [getD_ints, wrapI] | (with_reducible refine wdW_cons ?_ ?_; (next => simp [chk, foot, compatB, argsOf, St.get, target, ev, look, lidsL, hget, kind, AOp.isRaw, wids, wtops, tops, opds, topId, plainR_sk, y4]; done)) | omega)
  refine wcall_S h57.1 (rL4 (rds_plain (d := 0) (v := sts nil l) (plainR_sk l)) (rds_plain (d := 0) (v := dmV n1 lo n2 hi) (by simp [plain, plainL])) (rds_plain (d := 0) (v := sss n3 s) (plainR_ss s)) (rds_plain (d := 0) (v := ssV x) rfl) (by omega) (by omega) (by omega) (by omega)) (by simp [plainL, plain, plainR_sk, plainR_ss]) ?_
  intro i7 H5 hx5 hb7
  obtain ⟨q5, g5⟩ := hx5.cell g4
  obtain ⟨o5, hb5'⟩ := hx5.cell hb5
  clear hx5 hb5 g4 h57 y4
  have hll := ssR_len q
  have hqq : ((q.length : Int) != (q.length : Int)) = false := by simp
  repeat' (first | ((with_reducible refine T_calm ?_ ?_); rfl) | (with_reducible first | refine T_seq ?_ | refine T_reg ?_ | refine T_draw ?_ | refine T_skip ?_ | refine T_exit ?_ | refine T_block ?_ | refine T_cond_t rfl ?_ | refine T_cond_f rfl ?_ | refine wdW_cons rfl ?_ | ((first | refine T_cond rfl (fun hc => ?_) (fun hc => ?_) | refine wguard_split (fun hc => ?_) (fun hc => ?_) | refine wguardX_split (fun hc => ?_) (fun hc => ?_)) <;> have hd := hc <;> (try simp (disch := omega) only [wrapI] at hd) <;> have hs := hd <;> (try simp only [bne_iff_ne, bne_eq_false_iff_eq, Bool.not_false, ne_eq] at hd) <;> (try simp at hs)) | refine T_ret ?_ | refine wif_intro ?_ (fun hc => ?_) | refine And.intro ?_ ?_ | intro hc) | simp (maxSteps := 4000000) only [wops_nil, wops_cons, wstep_none, wstep_some, wguard_ff, wrun_mv, wrun_pick, wrun_bin, wrun_ext, wrun_len, wop, aop, ev, look, put_some, writes, ores_some, ores_map, ores_bind, binV, thenK, intV, lenOf, hget, List.getElem?_cons_zero, List.getElem?_cons_succ, List.append_nil, List.replicate_zero, Option.pure_def, Option.bind_eq_bind, Option.getD_some, Option.map_some, if_true, if_false, Nat.reduceEqDiff, reduceCtorEq, Bool.false_eq_true, eq_self, *] | simp (disch := omega) only [getD_ints, wrapI] | omega)
  refine T_for [0, 3, 5, 7, 9] (fun k => ⟨[(0, sts nil l), (3, .loc 0 0 0), (5, .lsl i5 0 q.length), (7, .lsl i7 0 q.length), (9, i64 k)], H5⟩) q.length (fun _ => True) 0 ?_ trivial (Nat.zero_le _) ?_
  · simp [St.only, get_mk, look]
  intro k hk _
  have z5 := (List.getElem?_eq_some_iff.1 hb5').1
  have z7 := (List.getElem?_eq_some_iff.1 hb7).1
  by_cases hkn : k < q.length
  · have gg := ssR_get hkn
    clear hnext hqq
    unfold c11l0
    repeat' (first | ((with_reducible refine T_calm ?_ ?_); rfl) | (with_reducible first | refine T_seq ?_ | refine T_reg ?_ | refine T_draw ?_ | refine T_skip ?_ | refine T_exit ?_ | refine T_block ?_ | refine T_cond_t rfl ?_ | refine T_cond_f rfl ?_ | refine wdW_cons rfl ?_ | ((first | refine T_cond rfl (fun hc => ?_) (fun hc => ?_) | refine wguard_split (fun hc => ?_) (fun hc => ?_) | refine wguardX_split (fun hc => ?_) (fun hc => ?_)) <;> have hd := hc <;> (try simp (disch := omega) only [wrapI] at hd) <;> have hs := hd <;> (try simp only [decide_eq_true_eq, decide_eq_false_iff_not, Int.not_lt] at hd) <;> (try simp at hs)) | refine T_ret ?_ | refine wif_intro ?_ (fun hc => ?_) | refine And.intro ?_ ?_ | intro hc) | simp (maxSteps := 4000000) only [wops_nil, wops_cons, wstep_none, wrun_mv, wrun_bin, wrun_eqAgg, wrun_load, wrun_iaddrS, wrun_len, wop, aop, ev, look, put_some, writes, ores_some, ores_ite_none, ores_map, ores_bind, binV, thenK, blockK, boolV, intV, lenOf, value, cut, hget, toLits, mkAgg, cellsEq, cellEq, List.map_cons, List.map_nil, List.length_cons, List.length_nil, List.take_succ_cons, List.take_nil, List.drop_zero, List.append_nil, List.replicate_zero, Option.pure_def, Option.bind_eq_bind, Option.getD_some, Option.map_some, if_true, if_false, Nat.reduceEqDiff, Nat.reduceAdd, Nat.zero_add, reduceCtorEq, Bool.not_true, eq_self, true_and, and_true, and_self, decide_true, beq_self_eq_true, Int.toNat_natCast, *] | simp (disch := omega) only [wrapI] | (with_reducible refine wdW_cons ?_ ?_; (next => simp [chk, foot, compatB, argsOf, St.get, target, ev, look, lidsL, hget, kind, AOp.isRaw, wids, wtops, tops, opds, topId, Int.toNat_natCast, plainR_ss, z5, z7]; done)) | omega)
    all_goals first | rfl | (simp [St.only, get_mk, look]; done)
  · have hke : k = q.length := by omega
    subst hke
    have hkk : decide ((q.length : Int) < (q.length : Int)) = false := by simp
    clear hqq
    unfold c11l0
    repeat' (first | ((with_reducible refine T_calm ?_ ?_); rfl) | (with_reducible first | refine T_seq ?_ | refine T_reg ?_ | refine T_draw ?_ | refine T_skip ?_ | refine T_exit ?_ | refine T_block ?_ | refine T_cond_t rfl ?_ | refine T_cond_f rfl ?_ | refine wdW_cons rfl ?_ | refine T_ret ?_ | refine wif_intro ?_ (fun hc => ?_) | refine And.intro ?_ ?_ | intro hc) | simp (maxSteps := 4000000) only [wops_nil, wops_cons, wstep_none, wrun_mv, wrun_bin, wrun_len, wop, aop, ev, look, put_some, writes, ores_some, ores_map, ores_bind, binV, thenK, blockK, intV, lenOf, hget, List.append_nil, List.replicate_zero, Option.pure_def, Option.bind_eq_bind, Option.getD_some, Option.map_some, if_true, if_false, Nat.reduceEqDiff, reduceCtorEq, eq_self, and_true, false_and, *] | simp (disch := omega) only [getD_ints, wrapI] | omega)
    refine T_onlyU [0, 3] rfl (hnext.down _ q5 ?_)
    exact g5
set_option maxHeartbeats 8000000 in
theorem k11be {nil n1 n2 n3 o nl : Bool} {l : List Sk} {lo hi : List Int} {s : List Ss} {x : Ss} {E : Int} {t : ACode} {K : Exit → St → Prop} {H : List Blk} (hH : H[0]? = some (.cells o nl 6 [dyR n1 lo n2 hi n3 s x])) (h22 : Gv 2 Try.prog 22 [sts nil l] [cpS l]) (h23 : Gv 2 Try.prog 23 [dmV n1 lo n2 hi] [dmV false lo false hi]) (h30 : Gv 1 Try.prog 30 [sss n3 s] [sss false s])
    (h56 : Fn Try.prog 56 [cpS l, dmV false lo false hi, sss false s, ssV x] (.tup [.sl true 0 [], i64 E]) []) (h57 : Fn Try.prog 57 [sts nil l, dmV n1 lo n2 hi, sss n3 s, ssV x] (.tup [.sl true 0 [], i64 E]) [])
    (hnext : ∀ H' o', H'[0]? = some (.cells o' nl 6 [dyR n1 lo n2 hi n3 s x]) → T none Try.prog muts 148 0 t ⟨[(0, sts nil l), (3, .loc 0 0 0)], H'⟩ K) : T none Try.prog muts 148 0 (c11r1 t) ⟨[(0, sts nil l), (3, .loc 0 0 0)], H⟩ K := by
  have hp : plain (cpS l) = true := plain_cpS l
  have y0 := (List.getElem?_eq_some_iff.1 hH).1
  replace h22 := And.intro h22 trivial
  replace h23 := And.intro h23 trivial
  replace h30 := And.intro h30 trivial
  replace h56 := And.intro h56 trivial
  replace h57 := And.intro h57 trivial
  replace hnext := PLift.up hnext
  have hEE : (E != E) = false := by simp
  unfold c11r1
  repeat' (first | ((with_reducible refine T_calm ?_ ?_); rfl) | (with_reducible first | refine T_seq ?_ | refine T_reg ?_ | refine T_draw ?_ | refine T_skip ?_ | refine T_exit ?_ | refine T_block ?_ | refine T_cond_t rfl ?_ | refine T_cond_f rfl ?_ | refine wdW_cons rfl ?_ | refine T_ret ?_ | refine wif_intro ?_ (fun hc => ?_) | refine And.intro ?_ ?_ | intro hc) | simp (maxSteps := 4000000) only [wrun_mv, wrunX_mv, wstepX_none, wrunX_call, wop, aop, ev, look, put_some, writes, ores_some, List.map_cons, List.map_nil, List.append_nil, List.replicate_zero, if_true, if_false, Nat.reduceEqDiff, reduceCtorEq, eq_self, *] | simp (disch := omega) only [getD_ints, wrapI] | (with_reducible refine wdW_cons ?_ ?_; (next => simp [chk, foot, compatB, argsOf, St.get, target, ev, look, lidsL, hget, kind, AOp.isRaw, wids, wtops, tops, opds, topId, plainR_sk, plainR_ss, y0]; done)) | omega)
  refine wcallX_E1 h22.1 rfl (by simp [plainL, plain, plainR_sk]) hp (rfy_plain _ hp 2) ?_
  intro v1 H1 hx1 hv1
  obtain ⟨q1, g1⟩ := hx1.cell hH
  have y1 := (List.getElem?_eq_some_iff.1 g1).1
  clear hx1
  repeat' (first | ((with_reducible refine T_calm ?_ ?_); rfl) | (with_reducible first | refine T_seq ?_ | refine T_reg ?_ | refine T_draw ?_ | refine T_skip ?_ | refine T_exit ?_ | refine T_block ?_ | refine T_cond_t rfl ?_ | refine T_cond_f rfl ?_ | refine wdW_cons rfl ?_ | refine T_ret ?_ | refine wif_intro ?_ (fun hc => ?_) | refine And.intro ?_ ?_ | intro hc) | simp (maxSteps := 4000000) only [wrun_load, wrun_faddr, wrunX_load, wrunX_faddr, wstepX_none, wrunX_call, wop, aop, ev, look, put_some, writes, ores_some, value, cut, hget, toLits, mkAgg, List.map_cons, List.map_nil, List.length_cons, List.length_nil, List.take_succ_cons, List.take_zero, List.drop_zero, List.getD_cons_zero, Option.getD_some, Option.map_some, if_true, if_false, Nat.reduceEqDiff, Nat.reduceAdd, Nat.add_zero, Nat.zero_add, reduceCtorEq, eq_self, *] | simp (disch := omega) only [getD_ints, wrapI] | (with_reducible refine wdW_cons ?_ ?_; (next => simp [chk, foot, compatB, argsOf, St.get, target, ev, look, lidsL, kind, AOp.isRaw, wids, tops, opds, topId, y0]; done)) | omega)
  refine wcallX_E1 h23.1 rfl (by simp [plainL, plain]) (by simp [plain, plainL]) (rfy_plain _ (by simp [plain, plainL]) 2) ?_
  intro v2 H2 hx2 hv2
  obtain ⟨q2, g2⟩ := hx2.cell g1
  have y2 := (List.getElem?_eq_some_iff.1 g2).1
  replace hv1 := hv1.ext hx2
  clear hx2
  repeat' (first | ((with_reducible refine T_calm ?_ ?_); rfl) | (with_reducible first | refine T_seq ?_ | refine T_reg ?_ | refine T_draw ?_ | refine T_skip ?_ | refine T_exit ?_ | refine T_block ?_ | refine T_cond_t rfl ?_ | refine T_cond_f rfl ?_ | refine wdW_cons rfl ?_ | refine T_ret ?_ | refine wif_intro ?_ (fun hc => ?_) | refine And.intro ?_ ?_ | intro hc) | simp (maxSteps := 4000000) only [wrun_load, wrun_faddr, wrunX_load, wrunX_faddr, wstepX_none, wrunX_call, wop, aop, ev, look, put_some, writes, ores_some, value, cut, hget, toLits, mkAgg, List.map_cons, List.map_nil, List.length_cons, List.length_nil, List.take_succ_cons, List.take_zero, List.drop_succ_cons, List.drop_zero, List.getD_cons_zero, Option.getD_some, Option.map_some, if_true, if_false, Nat.reduceEqDiff, Nat.zero_add, reduceCtorEq, Bool.false_eq_true, eq_self, *] | simp (disch := omega) only [getD_ints, wrapI] | (with_reducible refine wdW_cons ?_ ?_; (next => simp [chk, foot, compatB, argsOf, St.get, target, ev, look, lidsL, kind, AOp.isRaw, wids, tops, opds, topId, y0, y1]; done)) | omega)
  refine wcallX_E1 h30.1 rfl (by simp [plainL, plain, plainR_ss]) (by simp [plain, plainR_ss]) (rfy_plain _ (by simp [plain, plainR_ss]) 1) ?_
  intro v3 H3 hx3 hv3
  obtain ⟨q3, g3⟩ := hx3.cell g2
  have y3 := (List.getElem?_eq_some_iff.1 g3).1
  replace hv1 := hv1.ext hx3
  replace hv2 := hv2.ext hx3
  clear hx3
  repeat' (first | ((with_reducible refine T_calm ?_ ?_); rfl) | (with_reducible first | refine T_seq ?_ | refine T_reg ?_ | refine T_draw ?_ | refine T_skip ?_ | refine T_exit ?_ | refine T_block ?_ | refine T_cond_t rfl ?_ | refine T_cond_f rfl ?_ | refine wdW_cons rfl ?_ | refine T_ret ?_ | refine wif_intro ?_ (fun hc => ?_) | refine And.intro ?_ ?_ | intro hc) | simp (maxSteps := 4000000) only [wrun_load, wrun_faddr, wrunX_load, wrunX_faddr, wstepX_none, wrunX_call, wop, aop, ev, look, put_some, writes, ores_some, value, cut, hget, toLits, mkAgg, List.map_cons, List.map_nil, List.length_cons, List.length_nil, List.take_succ_cons, List.take_nil, List.drop_succ_cons, List.drop_zero, List.getD_cons_zero, Option.getD_some, Option.map_some, if_true, if_false, Nat.reduceEqDiff, Nat.reduceAdd, Nat.zero_add, reduceCtorEq, eq_self, *] | simp (disch := omega) only [getD_ints, wrapI] | (with_reducible refine wdW_cons ?_ ?_; (next => simp [chk, foot, compatB, argsOf, St.get, target, ev, look, lidsL, kind, AOp.isRaw, wids, tops, opds, topId, y0, y1, y2]; done)) | omega)
  refine wcallX_E0 h56.1 (by simp [plain, plainL, plainR]) (rL4 hv1 hv2 hv3 (rds_plain (d := 0) (v := ssV x) rfl) (by omega) (by omega) (by omega) (by omega)) (by simp [plainL, plain, hp, plainR_ss]) ?_
  intro H4 hx4
  obtain ⟨q4, g4⟩ := hx4.cell g3
  have y4 := (List.getElem?_eq_some_iff.1 g4).1
  clear hx4 hv1 hv2 hv3 hH g1 g2 g3 h22 h23 h30 h56 y0 y1 y2 y3
  repeat' (first | ((with_reducible refine T_calm ?_ ?_); rfl) | (with_reducible first | refine T_seq ?_ | refine T_reg ?_ | refine T_draw ?_ | refine T_skip ?_ | refine T_exit ?_ | refine T_block ?_ | refine T_cond_t rfl ?_ | refine T_cond_f rfl ?_ | refine wdW_cons rfl ?_ | refine T_ret ?_ | refine wif_intro ?_ (fun hc => ?_) | refine And.intro ?_ ?_ | intro hc) | simp (maxSteps := 4000000) only [wops_cons, wstep_none, wrun_call, wrun_mv, wrun_ext, wrun_load, wrun_faddr, wrunX_mv, wrunX_ext, wdW_nil, wstepX_none, wop, aop, ev, look, put_some, writes, ores_some, thenK, value, cut, hget, toLits, mkAgg, List.map_cons, List.map_nil, List.length_cons, List.length_nil, List.getElem?_cons_zero, List.getElem?_cons_succ, List.take_succ_cons, List.take_zero, List.take_nil, List.drop_succ_cons, List.drop_zero, List.append_nil, List.replicate_zero, List.getD_cons_zero, Option.getD_some, Option.map_some, if_true, if_false, Nat.reduceEqDiff, Nat.reduceAdd, Nat.add_zero, Nat.zero_add, reduceCtorEq, Bool.false_eq_true, eq_self, *] | simp (disch := omega) only [getD_ints, wrapI] | (with_reducible refine wdW_cons ?_ ?_; (next => simp [chk, foot, compatB, argsOf, St.get, target, ev, look, lidsL, hget, kind, AOp.isRaw, wids, wtops, tops, opds, topId, plainR_sk, y4]; done)) | omega)
  refine wcall_E0 h57.1 (by simp [plain, plainL, plainR]) (rL4 (rds_plain (d := 0) (v := sts nil l) (plainR_sk l)) (rds_plain (d := 0) (v := dmV n1 lo n2 hi) (by simp [plain, plainL])) (rds_plain (d := 0) (v := sss n3 s) (plainR_ss s)) (rds_plain (d := 0) (v := ssV x) rfl) (by omega) (by omega) (by omega) (by omega)) (by simp [plainL, plain, plainR_sk, plainR_ss]) ?_
  intro H5 hx5
  obtain ⟨q5, g5⟩ := hx5.cell g4
  clear hx5 g4 h57 y4
  repeat' (first | ((with_reducible refine T_calm ?_ ?_); rfl) | (with_reducible first | refine T_seq ?_ | refine T_reg ?_ | refine T_draw ?_ | refine T_skip ?_ | refine T_exit ?_ | refine T_block ?_ | refine T_cond_t rfl ?_ | refine T_cond_f rfl ?_ | refine wdW_cons rfl ?_ | refine T_ret ?_ | refine wif_intro ?_ (fun hc => ?_) | refine And.intro ?_ ?_ | intro hc) | simp (maxSteps := 4000000) only [wops_nil, wops_cons, wstep_none, wstep_some, wguard_ff, wrun_mv, wrun_pick, wrun_bin, wrun_ext, wrun_len, wop, aop, ev, look, put_some, writes, ores_some, ores_map, ores_bind, binV, thenK, intV, lenOf, hget, List.length_nil, List.getElem?_cons_zero, List.getElem?_cons_succ, List.append_nil, List.replicate_zero, Option.pure_def, Option.bind_eq_bind, Option.map_some, if_true, if_false, Nat.reduceEqDiff, reduceCtorEq, Bool.false_eq_true, eq_self, *] | simp (disch := omega) only [getD_ints, wrapI] | omega)
  refine T_for [0, 3, 5, 9] (fun k => ⟨[(0, sts nil l), (3, .loc 0 0 0), (5, .sl true 0 []), (9, i64 k)], H5⟩) 0 (fun _ => True) 0 ?_ trivial (Nat.zero_le _) ?_
  · simp [St.only, get_mk, look]
  intro k hk _
  have hke : k = 0 := by omega
  subst hke
  have hkk : decide (((0 : Nat) : Int) < ((0 : Nat) : Int)) = false := by simp
  unfold c11l0
  repeat' (first | ((with_reducible refine T_calm ?_ ?_); rfl) | (with_reducible first | refine T_seq ?_ | refine T_reg ?_ | refine T_draw ?_ | refine T_skip ?_ | refine T_exit ?_ | refine T_block ?_ | refine T_cond_t rfl ?_ | refine T_cond_f rfl ?_ | refine wdW_cons rfl ?_ | refine T_ret ?_ | refine wif_intro ?_ (fun hc => ?_) | refine And.intro ?_ ?_ | intro hc) | simp (maxSteps := 4000000) only [wops_nil, wops_cons, wstep_none, wrun_mv, wrun_bin, wrun_len, wop, aop, ev, look, put_some, writes, ores_some, ores_map, ores_bind, binV, thenK, blockK, intV, lenOf, hget, List.length_nil, List.append_nil, List.replicate_zero, Option.pure_def, Option.bind_eq_bind, Option.map_some, if_true, if_false, Nat.reduceEqDiff, Nat.zero_add, reduceCtorEq, eq_self, and_true, false_and, Nat.not_lt_zero, *] | simp (disch := omega) only [getD_ints, wrapI] | omega)
  refine T_onlyU [0, 3] rfl (hnext.down _ q5 ?_)
  exact g5
end Go.Abs
