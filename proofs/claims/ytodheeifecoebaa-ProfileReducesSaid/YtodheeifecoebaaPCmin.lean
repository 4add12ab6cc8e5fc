import Derived.Test.YtodheeifecoebaaAbs21
import Derived.KernelRfl
import Derived.Test.YtodheeifecoebaaProg
/- The code of the functions that are walked, as the machine of these texts has it. -/
namespace Go.Abs
open Go.Proofs
abbrev muts : List FuncId := [131]
def c93 : ACode :=
 (.seq (.reg 0 [⟨(some 2), (.mv (.val (.lit (.bool false)))), none, 0⟩])
 (.seq (.reg 0 [⟨(some 3), (.mv (.tmp 0)), none, 0⟩, ⟨(some 4), (.call false (.val (.lit (.func (.func 32) #[] #[]))) [(.tmp 3), (.val (.lit (.int .i64 (-1000000)))), (.val (.lit (.int .i64 1000000)))]), none, 0⟩, ⟨(some 2), (.mv (.tmp 4)), none, 0⟩])
 .ret))
theorem e93 : envOf Try.prog muts 93 = some (5, c93, [(Go.Abs.ARes.tmp 2)]) := by kernel_rfl
def c146l0 : ACode :=
 (.seq (.reg 0 [⟨(some 20), (.bin .lss (.tmp 19) (.val (.lit (.int .i64 4)))), none, 0⟩])
 (.seq (.cond (.tmp 20) .skip (.exit 0))
 (.seq (.block 1 (.seq (.reg 0 [⟨(some 21), (.idxA 4 1 false (.tmp 18) (.tmp 19)), none, 0⟩, ⟨(some 5), (.mv (.tmp 21)), none, 0⟩])
 (.seq (.reg 0 [⟨(some 22), (.load 2 true (.tmp 2)), none, 0⟩, ⟨(some 23), (.mv (.tmp 5)), none, 0⟩, ⟨(some 24), (.call false (.val (.lit (.func (.func 105) #[] #[]))) [(.tmp 22), (.tmp 23)]), none, 0⟩, ⟨(some 25), (.mv (.tmp 24)), none, 0⟩, ⟨(some 26), (.load 2 true (.tmp 2)), (some (25, true)), 0⟩, ⟨(some 27), (.load 1 false (.tmp 1)), (some (25, true)), 0⟩, ⟨(some 28), (.mv (.tmp 5)), (some (25, true)), 0⟩, ⟨(some 29), (.call false (.val (.lit (.func (.func 112) #[] #[]))) [(.tmp 26), (.tmp 27), (.tmp 28)]), (some (25, true)), 0⟩, ⟨(some 30), (.pick (.tmp 25) (.tmp 29) (.val (.lit (.bool false)))), none, 0⟩, ⟨(some 31), (.mv (.tmp 30)), none, 0⟩, ⟨(some 32), (.mv (.tmp 0)), (some (31, true)), 0⟩, ⟨(some 33), (.mv (.tmp 5)), (some (31, true)), 0⟩, ⟨(some 34), (.call true (.tmp 32) [(.tmp 33)]), (some (31, true)), 0⟩, ⟨(some 35), (.not (.tmp 34)), (some (31, true)), 0⟩, ⟨(some 36), (.pick (.tmp 31) (.tmp 35) (.val (.lit (.bool false)))), none, 0⟩])
 (.cond (.tmp 36) .ret .skip))))
 (.reg 0 [⟨(some 37), (.bin .add (.tmp 19) (.val (.lit (.int .i64 1)))), none, 0⟩, ⟨(some 19), (.mv (.tmp 37)), none, 0⟩]))))
def c146 : ACode :=
 (.seq (.reg 0 [⟨(some 6), (.load 1 false (.tmp 1)), none, 0⟩, ⟨(some 7), (.faddr 0 (.tmp 2)), none, 0⟩, ⟨(some 8), (.load 1 false (.tmp 7)), none, 0⟩, ⟨(some 9), (.bin .sub (.tmp 6) (.tmp 8)), none, 0⟩, ⟨(some 10), (.load 1 false (.tmp 1)), none, 0⟩, ⟨(some 11), (.bin .sub (.tmp 10) (.val (.lit (.int .i64 1)))), none, 0⟩, ⟨(some 12), (.load 1 false (.tmp 1)), none, 0⟩, ⟨(some 13), (.bin .add (.tmp 12) (.val (.lit (.int .i64 1)))), none, 0⟩, ⟨(some 14), (.load 1 false (.tmp 1)), none, 0⟩, ⟨(some 15), (.faddr 0 (.tmp 2)), none, 0⟩, ⟨(some 16), (.load 1 false (.tmp 15)), none, 0⟩, ⟨(some 17), (.bin .add (.tmp 14) (.tmp 16)), none, 0⟩, ⟨(some 18), (.build [(.lit (.int .i64 0)), (.lit (.int .i64 0)), (.lit (.int .i64 0)), (.lit (.int .i64 0))] [(0, (1, (.tmp 9))), (1, (1, (.tmp 11))), (2, (1, (.tmp 13))), (3, (1, (.tmp 17)))]), none, 0⟩, ⟨(some 19), (.mv (.val (.lit (.int .i64 0)))), none, 0⟩])
 (.block 0 (.loop c146l0)))
theorem e146 : envOf Try.prog muts 146 = some (38, c146, []) := by kernel_rfl
def c32 : ACode :=
 (.seq (.reg 0 [⟨(some 6), (.mv (.val (.lit (.bool false)))), none, 0⟩])
 (.seq (.reg 0 [⟨(some 7), (.mv (.tmp 0)), none, 0⟩, ⟨(some 8), (.mv (.tmp 1)), none, 0⟩, ⟨(some 9), (.bin .geq (.tmp 7) (.tmp 8)), none, 0⟩, ⟨(some 10), (.mv (.tmp 9)), none, 0⟩, ⟨(some 11), (.mv (.tmp 0)), (some (10, true)), 0⟩, ⟨(some 12), (.mv (.tmp 2)), (some (10, true)), 0⟩, ⟨(some 13), (.bin .leq (.tmp 11) (.tmp 12)), (some (10, true)), 0⟩, ⟨(some 14), (.pick (.tmp 10) (.tmp 13) (.val (.lit (.bool false)))), none, 0⟩, ⟨(some 6), (.mv (.tmp 14)), none, 0⟩])
 .ret))
theorem e32 : envOf Try.prog muts 32 = some (15, c32, [(Go.Abs.ARes.tmp 6)]) := by kernel_rfl
def c65 : ACode :=
 (.seq (.reg 2 [⟨(some 3), (.box 3 (.tmp 1)), none, 0⟩, ⟨(some 4), (.alloc [(.lit (.int .i64 0)), (.lit (.int .i64 0)), (.lit (.int .i64 0)), (.lit (.int .i64 0))]), none, 1⟩, ⟨(some 5), (.mv (.val (.lit (.int .i64 0)))), none, 2⟩])
 (.seq (.seq (.reg 0 [⟨(some 10), (.mv (.tmp 0)), none, 0⟩, ⟨(some 11), (.call false (.val (.lit (.func (.func 67) #[] #[]))) [(.tmp 10)]), none, 0⟩, ⟨(some 6), (.mv (.tmp 11)), none, 0⟩])
 (.seq (.reg 0 [⟨(some 12), (.mv (.tmp 6)), none, 0⟩, ⟨(some 13), (.bin .neq (.tmp 12) (.val (.lit (.int .i64 0)))), none, 0⟩])
 (.cond (.tmp 13) (.seq (.reg 0 [⟨(some 14), (.build [(.lit (.int .i64 0)), (.lit (.int .i64 0)), (.lit (.int .i64 0)), (.lit (.int .i64 0))] []), none, 0⟩, ⟨(some 15), (.mv (.tmp 6)), none, 0⟩, ⟨none, (.store 4 (.tmp 4) (.tmp 14)), none, 0⟩, ⟨(some 5), (.mv (.tmp 15)), none, 0⟩])
 .ret) .skip)))
 (.seq (.block 0 (.seq (.reg 0 [⟨(some 17), (.faddr 0 (.tmp 3)), none, 0⟩, ⟨(some 18), (.load 1 false (.tmp 17)), none, 0⟩, ⟨(some 19), (.mv (.tmp 0)), none, 0⟩, ⟨(some 20), (.len (.tmp 19)), none, 0⟩, ⟨(some 21), (.bin .sub (.tmp 20) (.val (.lit (.int .i64 2)))), none, 0⟩, ⟨(some 22), (.call false (.val (.lit (.func (.func 92) #[] #[]))) [(.tmp 18), (.val (.lit (.int .i64 0))), (.tmp 21)]), none, 0⟩, ⟨(some 23), (.not (.tmp 22)), none, 0⟩, ⟨(some 16), (.mv (.tmp 23)), none, 0⟩])
 (.cond (.tmp 16) (.seq (.reg 0 [⟨(some 24), (.build [(.lit (.int .i64 0)), (.lit (.int .i64 0)), (.lit (.int .i64 0)), (.lit (.int .i64 0))] []), none, 0⟩, ⟨none, (.store 4 (.tmp 4) (.tmp 24)), none, 0⟩, ⟨(some 5), (.mv (.val (.lit (.int .i64 6)))), none, 0⟩])
 .ret) (.seq (.reg 0 [⟨(some 26), (.faddr 1 (.tmp 3)), none, 0⟩, ⟨(some 27), (.faddr 0 (.tmp 26)), none, 0⟩, ⟨(some 28), (.load 1 false (.tmp 27)), none, 0⟩, ⟨(some 29), (.call false (.val (.lit (.func (.func 92) #[] #[]))) [(.tmp 28), (.val (.lit (.int .i64 (-1000000)))), (.val (.lit (.int .i64 1000000)))]), none, 0⟩, ⟨(some 30), (.not (.tmp 29)), none, 0⟩, ⟨(some 31), (.mv (.tmp 30)), none, 0⟩, ⟨(some 32), (.faddr 1 (.tmp 3)), (some (31, false)), 0⟩, ⟨(some 33), (.faddr 1 (.tmp 32)), (some (31, false)), 0⟩, ⟨(some 34), (.load 1 false (.tmp 33)), (some (31, false)), 0⟩, ⟨(some 35), (.call false (.val (.lit (.func (.func 92) #[] #[]))) [(.tmp 34), (.val (.lit (.int .i64 (-1000000)))), (.val (.lit (.int .i64 1000000)))]), (some (31, false)), 0⟩, ⟨(some 36), (.not (.tmp 35)), (some (31, false)), 0⟩, ⟨(some 37), (.pick (.tmp 31) (.val (.lit (.bool true))) (.tmp 36)), none, 0⟩, ⟨(some 25), (.mv (.tmp 37)), none, 0⟩])
 (.cond (.tmp 25) (.seq (.reg 0 [⟨(some 38), (.build [(.lit (.int .i64 0)), (.lit (.int .i64 0)), (.lit (.int .i64 0)), (.lit (.int .i64 0))] []), none, 0⟩, ⟨none, (.store 4 (.tmp 4) (.tmp 38)), none, 0⟩, ⟨(some 5), (.mv (.val (.lit (.int .i64 2)))), none, 0⟩])
 .ret) (.seq (.reg 0 [⟨(some 40), (.faddr 1 (.tmp 3)), none, 0⟩, ⟨(some 41), (.faddr 0 (.tmp 40)), none, 0⟩, ⟨(some 42), (.load 1 false (.tmp 41)), none, 0⟩, ⟨(some 43), (.faddr 1 (.tmp 3)), none, 0⟩, ⟨(some 44), (.faddr 1 (.tmp 43)), none, 0⟩, ⟨(some 45), (.load 1 false (.tmp 44)), none, 0⟩, ⟨(some 46), (.bin .gtr (.tmp 42) (.tmp 45)), none, 0⟩, ⟨(some 39), (.mv (.tmp 46)), none, 0⟩])
 (.cond (.tmp 39) (.seq (.reg 0 [⟨(some 47), (.build [(.lit (.int .i64 0)), (.lit (.int .i64 0)), (.lit (.int .i64 0)), (.lit (.int .i64 0))] []), none, 0⟩, ⟨none, (.store 4 (.tmp 4) (.tmp 47)), none, 0⟩, ⟨(some 5), (.mv (.val (.lit (.int .i64 9)))), none, 0⟩])
 .ret) .skip)))))))
 (.seq (.reg 0 [⟨(some 48), (.mv (.tmp 0)), none, 0⟩, ⟨(some 49), (.faddr 0 (.tmp 3)), none, 0⟩, ⟨(some 50), (.load 1 false (.tmp 49)), none, 0⟩, ⟨(some 51), (.bin .add (.tmp 50) (.val (.lit (.int .i64 1)))), none, 0⟩, ⟨(some 52), (.iaddrS 1 (.tmp 48) (.tmp 51)), none, 0⟩, ⟨(some 53), (.load 1 false (.tmp 52)), none, 0⟩, ⟨(some 7), (.mv (.tmp 53)), none, 0⟩])
 (.seq (.seq (.reg 0 [⟨(some 54), (.faddr 0 (.tmp 3)), none, 0⟩, ⟨(some 55), (.load 1 false (.tmp 54)), none, 0⟩, ⟨(some 56), (.bin .gtr (.tmp 55) (.val (.lit (.int .i64 0)))), none, 0⟩])
 (.cond (.tmp 56) (.reg 0 [⟨(some 57), (.mv (.tmp 7)), none, 0⟩, ⟨(some 58), (.mv (.tmp 0)), none, 0⟩, ⟨(some 59), (.faddr 0 (.tmp 3)), none, 0⟩, ⟨(some 60), (.load 1 false (.tmp 59)), none, 0⟩, ⟨(some 61), (.bin .sub (.tmp 60) (.val (.lit (.int .i64 1)))), none, 0⟩, ⟨(some 62), (.iaddrS 1 (.tmp 58) (.tmp 61)), none, 0⟩, ⟨(some 63), (.load 1 false (.tmp 62)), none, 0⟩, ⟨(some 64), (.bin .sub (.tmp 57) (.tmp 63)), none, 0⟩, ⟨(some 7), (.mv (.tmp 64)), none, 0⟩]) .skip))
 (.seq (.dreg 0 [(0, ⟨(some 65), (.faddr 1 (.tmp 3)), none, 0⟩), (1, ⟨(some 66), (.faddr 0 (.tmp 65)), none, 0⟩), (2, ⟨(some 67), (.load 1 false (.tmp 66)), none, 0⟩), (3, ⟨(some 68), (.mv (.tmp 7)), none, 0⟩), (4, ⟨(some 69), (.bin .mul (.tmp 67) (.tmp 68)), none, 0⟩), (5, ⟨(some 70), (.call false (.val (.lit (.func (.func 126) #[] #[]))) [(.tmp 69), (.val (.lit (.int .i64 2000)))]), none, 0⟩), (6, ⟨(some 71), (.faddr 1 (.tmp 3)), none, 0⟩), (7, ⟨(some 72), (.faddr 1 (.tmp 71)), none, 0⟩), (8, ⟨(some 73), (.load 1 false (.tmp 72)), none, 0⟩), (9, ⟨(some 74), (.neg (.tmp 73)), none, 0⟩), (10, ⟨(some 75), (.mv (.tmp 7)), none, 0⟩), (11, ⟨(some 76), (.bin .mul (.tmp 74) (.tmp 75)), none, 0⟩), (12, ⟨(some 77), (.call false (.val (.lit (.func (.func 126) #[] #[]))) [(.tmp 76), (.val (.lit (.int .i64 2000)))]), none, 0⟩), (13, ⟨(some 78), (.neg (.tmp 77)), none, 0⟩), (14, ⟨(some 8), (.mv (.tmp 70)), none, 0⟩), (15, ⟨(some 9), (.mv (.tmp 78)), none, 0⟩)] [[], [0], [1, 0], [], [2, 3, 1, 0], [4, 2, 3, 1, 0], [], [6], [7, 6], [8, 7, 6], [], [9, 10, 8, 7, 6], [11, 5, 9, 10, 8, 7, 6, 4, 2, 3, 1, 0], [12, 11, 5, 9, 10, 8, 7, 6, 4, 2, 3, 1, 0], [5, 12, 0, 1, 2, 3, 4, 11, 9, 10, 8, 7, 6], [13, 14, 0, 1, 2, 3, 4, 5, 6, 7, 8, 9, 10, 11, 12]])
 (.seq (.seq (.reg 0 [⟨(some 79), (.mv (.tmp 8)), none, 0⟩, ⟨(some 80), (.call false (.val (.lit (.func (.func 92) #[] #[]))) [(.tmp 79), (.val (.lit (.int .i64 (-1000000)))), (.val (.lit (.int .i64 1000000)))]), none, 0⟩, ⟨(some 81), (.not (.tmp 80)), none, 0⟩, ⟨(some 82), (.mv (.tmp 81)), none, 0⟩, ⟨(some 83), (.mv (.tmp 9)), (some (82, false)), 0⟩, ⟨(some 84), (.call false (.val (.lit (.func (.func 92) #[] #[]))) [(.tmp 83), (.val (.lit (.int .i64 (-1000000)))), (.val (.lit (.int .i64 1000000)))]), (some (82, false)), 0⟩, ⟨(some 85), (.not (.tmp 84)), (some (82, false)), 0⟩, ⟨(some 86), (.pick (.tmp 82) (.val (.lit (.bool true))) (.tmp 85)), none, 0⟩])
 (.cond (.tmp 86) (.seq (.reg 0 [⟨(some 87), (.build [(.lit (.int .i64 0)), (.lit (.int .i64 0)), (.lit (.int .i64 0)), (.lit (.int .i64 0))] []), none, 0⟩, ⟨none, (.store 4 (.tmp 4) (.tmp 87)), none, 0⟩, ⟨(some 5), (.mv (.val (.lit (.int .i64 8)))), none, 0⟩])
 .ret) .skip))
 (.seq (.reg 0 [⟨(some 88), (.faddr 0 (.tmp 3)), none, 0⟩, ⟨(some 89), (.load 1 false (.tmp 88)), none, 0⟩, ⟨(some 90), (.faddr 0 (.tmp 3)), none, 0⟩, ⟨(some 91), (.load 1 false (.tmp 90)), none, 0⟩, ⟨(some 92), (.bin .add (.tmp 91) (.val (.lit (.int .i64 1)))), none, 0⟩, ⟨(some 93), (.mv (.tmp 8)), none, 0⟩, ⟨(some 94), (.mv (.tmp 9)), none, 0⟩, ⟨(some 95), (.build [(.lit (.int .i64 0)), (.lit (.int .i64 0))] [(0, (1, (.tmp 93))), (1, (1, (.tmp 94)))]), none, 0⟩, ⟨(some 96), (.build [(.lit (.int .i64 0)), (.lit (.int .i64 0)), (.lit (.int .i64 0)), (.lit (.int .i64 0))] [(0, (1, (.tmp 89))), (1, (1, (.tmp 92))), (2, (2, (.tmp 95)))]), none, 0⟩, ⟨none, (.store 4 (.tmp 4) (.tmp 96)), none, 0⟩, ⟨(some 5), (.mv (.val (.lit (.int .i64 0)))), none, 0⟩])
 .ret))))))))
theorem e65 : envOf Try.prog muts 65 = some (97, c65, [(Go.Abs.ARes.cell 4 true 4), (Go.Abs.ARes.tmp 5)]) := by kernel_rfl
def c14 : ACode :=
 (.seq (.reg 1 [⟨(some 3), (.box 3 (.tmp 1)), none, 0⟩, ⟨(some 4), (.mv (.val (.lit (.bool false)))), none, 1⟩])
 (.seq (.seq (.reg 0 [⟨(some 9), (.call false (.val (.lit (.func (.func 19) #[] #[]))) []), none, 0⟩, ⟨(some 10), (.not (.tmp 9)), none, 0⟩])
 (.cond (.tmp 10) (.seq (.reg 0 [⟨(some 4), (.mv (.val (.lit (.bool false)))), none, 0⟩])
 .ret) .skip))
 (.seq (.seq (.reg 0 [⟨(some 11), (.mv (.tmp 0)), none, 0⟩, ⟨(some 12), (.len (.tmp 11)), none, 0⟩, ⟨(some 13), (.bin .gtr (.tmp 12) (.val (.lit (.int .i64 45)))), none, 0⟩])
 (.cond (.tmp 13) (.seq (.reg 0 [⟨(some 4), (.mv (.val (.lit (.bool true)))), none, 0⟩])
 .ret) .skip))
 (.seq (.dreg 1 [(0, ⟨(some 15), (.mv (.tmp 0)), none, 0⟩), (1, ⟨(some 16), (.call false (.val (.lit (.func (.func 28) #[] #[]))) [(.tmp 15)]), none, 0⟩), (2, ⟨(some 17), (.load 3 true (.tmp 3)), none, 0⟩), (3, ⟨(some 18), (.call false (.val (.lit (.func (.func 65) #[] #[]))) [(.tmp 16), (.tmp 17)]), none, 0⟩), (4, ⟨(some 14), (.mv (.tmp 18)), none, 0⟩), (5, ⟨(some 19), (.ext (.tmp 14) 0), none, 0⟩), (6, ⟨(some 20), (.ext (.tmp 14) 1), none, 0⟩), (7, ⟨(some 5), (.alloc [(.lit (.int .i64 0)), (.lit (.int .i64 0)), (.lit (.int .i64 0)), (.lit (.int .i64 0))]), none, 0⟩), (8, ⟨none, (.store 4 (.tmp 5) (.tmp 19)), none, 1⟩), (9, ⟨(some 6), (.mv (.tmp 20)), none, 1⟩)] [[], [0], [], [1, 2, 0], [3, 1, 2, 0], [4, 3, 1, 2, 0], [4, 3, 1, 2, 0], [], [7, 5, 3, 0, 1, 2, 4], [6, 8, 0, 1, 2, 3, 4, 5, 7]])
 (.seq (.reg 1 [⟨(some 22), (.mv (.tmp 0)), none, 0⟩, ⟨(some 23), (.load 3 true (.tmp 3)), none, 0⟩, ⟨(some 24), (.call false (.val (.lit (.func (.func 66) #[] #[]))) [(.tmp 22), (.tmp 23)]), none, 0⟩, ⟨(some 21), (.mv (.tmp 24)), none, 0⟩, ⟨(some 25), (.ext (.tmp 21) 0), none, 0⟩, ⟨(some 26), (.ext (.tmp 21) 1), none, 0⟩, ⟨(some 7), (.alloc [(.lit (.int .i64 0)), (.lit (.int .i64 0)), (.lit (.int .i64 0)), (.lit (.int .i64 0))]), none, 0⟩, ⟨none, (.store 4 (.tmp 7) (.tmp 25)), none, 1⟩, ⟨(some 8), (.mv (.tmp 26)), none, 1⟩])
 (.seq (.reg 0 [⟨(some 27), (.mv (.tmp 0)), none, 0⟩, ⟨(some 28), (.call false (.val (.lit (.func (.func 28) #[] #[]))) [(.tmp 27)]), none, 0⟩, ⟨(some 29), (.call false (.val (.lit (.func (.func 67) #[] #[]))) [(.tmp 28)]), none, 0⟩, ⟨(some 30), (.mv (.tmp 0)), none, 0⟩, ⟨(some 31), (.call false (.val (.lit (.func (.func 68) #[] #[]))) [(.tmp 30)]), none, 0⟩, ⟨(some 32), (.bin .eql (.tmp 29) (.tmp 31)), none, 0⟩, ⟨(some 33), (.mv (.tmp 32)), none, 0⟩, ⟨(some 34), (.mv (.tmp 6)), (some (33, true)), 0⟩, ⟨(some 35), (.mv (.tmp 8)), (some (33, true)), 0⟩, ⟨(some 36), (.bin .eql (.tmp 34) (.tmp 35)), (some (33, true)), 0⟩, ⟨(some 37), (.pick (.tmp 33) (.tmp 36) (.val (.lit (.bool false)))), none, 0⟩, ⟨(some 38), (.mv (.tmp 37)), none, 0⟩, ⟨(some 39), (.load 4 true (.tmp 5)), (some (38, true)), 0⟩, ⟨(some 40), (.load 4 true (.tmp 7)), (some (38, true)), 0⟩, ⟨(some 41), (.eqAgg false [.ci, .ci, .ci, .ci] (.tmp 39) (.tmp 40)), (some (38, true)), 0⟩, ⟨(some 42), (.pick (.tmp 38) (.tmp 41) (.val (.lit (.bool false)))), none, 0⟩, ⟨(some 4), (.mv (.tmp 42)), none, 0⟩])
 .ret))))))
theorem e14 : envOf Try.prog muts 14 = some (43, c14, [(Go.Abs.ARes.tmp 4)]) := by kernel_rfl
def c67l0 : ACode :=
 (.seq (.reg 0 [⟨(some 13), (.bin .lss (.tmp 12) (.tmp 11)), none, 0⟩])
 (.seq (.cond (.tmp 13) .skip (.exit 0))
 (.seq (.block 1 (.seq (.reg 0 [⟨(some 14), (.iaddrS 1 (.tmp 10) (.tmp 12)), none, 0⟩, ⟨(some 15), (.load 1 false (.tmp 14)), none, 0⟩, ⟨(some 5), (.mv (.tmp 15)), none, 0⟩])
 (.seq (.block 2 (.seq (.reg 0 [⟨(some 17), (.mv (.tmp 5)), none, 0⟩, ⟨(some 18), (.call false (.val (.lit (.func (.func 92) #[] #[]))) [(.tmp 17), (.val (.lit (.int .i64 1))), (.val (.lit (.int .i64 1000000)))]), none, 0⟩, ⟨(some 19), (.not (.tmp 18)), none, 0⟩, ⟨(some 16), (.mv (.tmp 19)), none, 0⟩])
 (.cond (.tmp 16) (.seq (.reg 0 [⟨(some 2), (.mv (.val (.lit (.int .i64 2)))), none, 0⟩])
 .ret) (.seq (.reg 0 [⟨(some 21), (.mv (.tmp 5)), none, 0⟩, ⟨(some 22), (.mv (.tmp 3)), none, 0⟩, ⟨(some 23), (.bin .leq (.tmp 21) (.tmp 22)), none, 0⟩, ⟨(some 20), (.mv (.tmp 23)), none, 0⟩])
 (.cond (.tmp 20) (.seq (.reg 0 [⟨(some 2), (.mv (.val (.lit (.int .i64 9)))), none, 0⟩])
 .ret) .skip)))))
 (.reg 0 [⟨(some 24), (.mv (.tmp 5)), none, 0⟩, ⟨(some 3), (.mv (.tmp 24)), none, 0⟩]))))
 (.reg 0 [⟨(some 25), (.bin .add (.tmp 12) (.val (.lit (.int .i64 1)))), none, 0⟩, ⟨(some 12), (.mv (.tmp 25)), none, 0⟩]))))
def c67 : ACode :=
 (.seq (.reg 0 [⟨(some 2), (.mv (.val (.lit (.int .i64 0)))), none, 0⟩])
 (.seq (.seq (.reg 0 [⟨(some 6), (.mv (.tmp 0)), none, 0⟩, ⟨(some 7), (.len (.tmp 6)), none, 0⟩, ⟨(some 8), (.call false (.val (.lit (.func (.func 92) #[] #[]))) [(.tmp 7), (.val (.lit (.int .i64 1))), (.val (.lit (.int .i64 40)))]), none, 0⟩, ⟨(some 9), (.not (.tmp 8)), none, 0⟩])
 (.cond (.tmp 9) (.seq (.reg 0 [⟨(some 2), (.mv (.val (.lit (.int .i64 10)))), none, 0⟩])
 .ret) .skip))
 (.seq (.reg 0 [⟨(some 3), (.mv (.val (.lit (.int .i64 0)))), none, 0⟩])
 (.seq (.seq (.reg 0 [⟨(some 10), (.mv (.tmp 0)), none, 0⟩, ⟨(some 11), (.len (.tmp 10)), none, 0⟩, ⟨(some 12), (.mv (.val (.lit (.int .i64 0)))), none, 0⟩])
 (.block 0 (.loop c67l0)))
 (.seq (.reg 0 [⟨(some 2), (.mv (.val (.lit (.int .i64 0)))), none, 0⟩])
 .ret)))))
theorem e67 : envOf Try.prog muts 67 = some (26, c67, [(Go.Abs.ARes.tmp 2)]) := by kernel_rfl
def c28 : ACode :=
 (.seq (.reg 0 [⟨(some 2), (.mv (.val (.sl true 0 []))), none, 0⟩])
 (.seq (.reg 2 [⟨(some 3), (.bslice 1 0 [(.lit (.int .i64 0))] []), none, 0⟩, ⟨(some 4), (.mv (.tmp 0)), none, 1⟩, ⟨(some 5), (.app 1 8 (.tmp 3) (.tmp 4)), none, 1⟩, ⟨(some 2), (.mv (.tmp 5)), none, 2⟩])
 .ret))
theorem e28 : envOf Try.prog muts 28 = some (6, c28, [(Go.Abs.ARes.tmp 2)]) := by kernel_rfl
def c66 : ACode :=
 (.seq (.reg 2 [⟨(some 3), (.box 3 (.tmp 1)), none, 0⟩, ⟨(some 4), (.alloc [(.lit (.int .i64 0)), (.lit (.int .i64 0)), (.lit (.int .i64 0)), (.lit (.int .i64 0))]), none, 1⟩, ⟨(some 5), (.mv (.val (.lit (.int .i64 0)))), none, 2⟩])
 (.seq (.seq (.reg 0 [⟨(some 9), (.mv (.tmp 0)), none, 0⟩, ⟨(some 10), (.call false (.val (.lit (.func (.func 68) #[] #[]))) [(.tmp 9)]), none, 0⟩, ⟨(some 6), (.mv (.tmp 10)), none, 0⟩])
 (.seq (.reg 0 [⟨(some 11), (.mv (.tmp 6)), none, 0⟩, ⟨(some 12), (.bin .neq (.tmp 11) (.val (.lit (.int .i64 0)))), none, 0⟩])
 (.cond (.tmp 12) (.seq (.reg 0 [⟨(some 13), (.build [(.lit (.int .i64 0)), (.lit (.int .i64 0)), (.lit (.int .i64 0)), (.lit (.int .i64 0))] []), none, 0⟩, ⟨(some 14), (.mv (.tmp 6)), none, 0⟩, ⟨none, (.store 4 (.tmp 4) (.tmp 13)), none, 0⟩, ⟨(some 5), (.mv (.tmp 14)), none, 0⟩])
 .ret) .skip)))
 (.seq (.seq (.reg 0 [⟨(some 15), (.faddr 0 (.tmp 3)), none, 0⟩, ⟨(some 16), (.load 1 false (.tmp 15)), none, 0⟩, ⟨(some 17), (.mv (.tmp 0)), none, 0⟩, ⟨(some 18), (.len (.tmp 17)), none, 0⟩, ⟨(some 19), (.bin .sub (.tmp 18) (.val (.lit (.int .i64 2)))), none, 0⟩, ⟨(some 20), (.call false (.val (.lit (.func (.func 32) #[] #[]))) [(.tmp 16), (.val (.lit (.int .i64 0))), (.tmp 19)]), none, 0⟩, ⟨(some 21), (.not (.tmp 20)), none, 0⟩])
 (.cond (.tmp 21) (.seq (.reg 0 [⟨(some 22), (.build [(.lit (.int .i64 0)), (.lit (.int .i64 0)), (.lit (.int .i64 0)), (.lit (.int .i64 0))] []), none, 0⟩, ⟨none, (.store 4 (.tmp 4) (.tmp 22)), none, 0⟩, ⟨(some 5), (.mv (.val (.lit (.int .i64 6)))), none, 0⟩])
 .ret) .skip))
 (.seq (.seq (.reg 0 [⟨(some 23), (.faddr 1 (.tmp 3)), none, 0⟩, ⟨(some 24), (.faddr 0 (.tmp 23)), none, 0⟩, ⟨(some 25), (.load 1 false (.tmp 24)), none, 0⟩, ⟨(some 26), (.call false (.val (.lit (.func (.func 32) #[] #[]))) [(.tmp 25), (.val (.lit (.int .i64 (-1000000)))), (.val (.lit (.int .i64 1000000)))]), none, 0⟩, ⟨(some 27), (.not (.tmp 26)), none, 0⟩, ⟨(some 28), (.mv (.tmp 27)), none, 0⟩, ⟨(some 29), (.faddr 1 (.tmp 3)), (some (28, false)), 0⟩, ⟨(some 30), (.faddr 1 (.tmp 29)), (some (28, false)), 0⟩, ⟨(some 31), (.load 1 false (.tmp 30)), (some (28, false)), 0⟩, ⟨(some 32), (.call false (.val (.lit (.func (.func 32) #[] #[]))) [(.tmp 31), (.val (.lit (.int .i64 (-1000000)))), (.val (.lit (.int .i64 1000000)))]), (some (28, false)), 0⟩, ⟨(some 33), (.not (.tmp 32)), (some (28, false)), 0⟩, ⟨(some 34), (.pick (.tmp 28) (.val (.lit (.bool true))) (.tmp 33)), none, 0⟩])
 (.cond (.tmp 34) (.seq (.reg 0 [⟨(some 35), (.build [(.lit (.int .i64 0)), (.lit (.int .i64 0)), (.lit (.int .i64 0)), (.lit (.int .i64 0))] []), none, 0⟩, ⟨none, (.store 4 (.tmp 4) (.tmp 35)), none, 0⟩, ⟨(some 5), (.mv (.val (.lit (.int .i64 2)))), none, 0⟩])
 .ret) .skip))
 (.seq (.seq (.reg 0 [⟨(some 36), (.faddr 1 (.tmp 3)), none, 0⟩, ⟨(some 37), (.faddr 0 (.tmp 36)), none, 0⟩, ⟨(some 38), (.load 1 false (.tmp 37)), none, 0⟩, ⟨(some 39), (.faddr 1 (.tmp 3)), none, 0⟩, ⟨(some 40), (.faddr 1 (.tmp 39)), none, 0⟩, ⟨(some 41), (.load 1 false (.tmp 40)), none, 0⟩, ⟨(some 42), (.bin .gtr (.tmp 38) (.tmp 41)), none, 0⟩])
 (.cond (.tmp 42) (.seq (.reg 0 [⟨(some 43), (.build [(.lit (.int .i64 0)), (.lit (.int .i64 0)), (.lit (.int .i64 0)), (.lit (.int .i64 0))] []), none, 0⟩, ⟨none, (.store 4 (.tmp 4) (.tmp 43)), none, 0⟩, ⟨(some 5), (.mv (.val (.lit (.int .i64 9)))), none, 0⟩])
 .ret) .skip))
 (.seq (.reg 0 [⟨(some 44), (.mv (.tmp 0)), none, 0⟩, ⟨(some 45), (.faddr 0 (.tmp 3)), none, 0⟩, ⟨(some 46), (.load 1 false (.tmp 45)), none, 0⟩, ⟨(some 47), (.bin .add (.tmp 46) (.val (.lit (.int .i64 1)))), none, 0⟩, ⟨(some 48), (.iaddrS 1 (.tmp 44) (.tmp 47)), none, 0⟩, ⟨(some 49), (.load 1 false (.tmp 48)), none, 0⟩, ⟨(some 7), (.mv (.tmp 49)), none, 0⟩])
 (.seq (.seq (.reg 0 [⟨(some 50), (.faddr 0 (.tmp 3)), none, 0⟩, ⟨(some 51), (.load 1 false (.tmp 50)), none, 0⟩, ⟨(some 52), (.bin .gtr (.tmp 51) (.val (.lit (.int .i64 0)))), none, 0⟩])
 (.cond (.tmp 52) (.reg 0 [⟨(some 53), (.mv (.tmp 7)), none, 0⟩, ⟨(some 54), (.mv (.tmp 0)), none, 0⟩, ⟨(some 55), (.faddr 0 (.tmp 3)), none, 0⟩, ⟨(some 56), (.load 1 false (.tmp 55)), none, 0⟩, ⟨(some 57), (.bin .sub (.tmp 56) (.val (.lit (.int .i64 1)))), none, 0⟩, ⟨(some 58), (.iaddrS 1 (.tmp 54) (.tmp 57)), none, 0⟩, ⟨(some 59), (.load 1 false (.tmp 58)), none, 0⟩, ⟨(some 60), (.bin .sub (.tmp 53) (.tmp 59)), none, 0⟩, ⟨(some 7), (.mv (.tmp 60)), none, 0⟩]) .skip))
 (.seq (.dreg 1 [(0, ⟨(some 61), (.faddr 1 (.tmp 3)), none, 0⟩), (1, ⟨(some 62), (.faddr 0 (.tmp 61)), none, 0⟩), (2, ⟨(some 63), (.load 1 false (.tmp 62)), none, 0⟩), (3, ⟨(some 64), (.mv (.tmp 7)), none, 0⟩), (4, ⟨(some 65), (.bin .mul (.tmp 63) (.tmp 64)), none, 0⟩), (5, ⟨(some 66), (.call false (.val (.lit (.func (.func 127) #[] #[]))) [(.tmp 65), (.val (.lit (.int .i64 2000)))]), none, 0⟩), (6, ⟨(some 67), (.faddr 1 (.tmp 3)), none, 0⟩), (7, ⟨(some 68), (.faddr 1 (.tmp 67)), none, 0⟩), (8, ⟨(some 69), (.load 1 false (.tmp 68)), none, 0⟩), (9, ⟨(some 70), (.mv (.tmp 7)), none, 0⟩), (10, ⟨(some 71), (.bin .mul (.tmp 69) (.tmp 70)), none, 0⟩), (11, ⟨(some 72), (.call false (.val (.lit (.func (.func 128) #[] #[]))) [(.tmp 71), (.val (.lit (.int .i64 2000)))]), none, 0⟩), (12, ⟨(some 73), (.build [(.lit (.int .i64 0)), (.lit (.int .i64 0))] [(0, (1, (.tmp 66))), (1, (1, (.tmp 72)))]), none, 0⟩), (13, ⟨(some 8), (.alloc [(.lit (.int .i64 0)), (.lit (.int .i64 0))]), none, 0⟩), (14, ⟨none, (.store 2 (.tmp 8) (.tmp 73)), none, 1⟩)] [[], [0], [1, 0], [], [2, 3, 1, 0], [4, 2, 3, 1, 0], [], [6], [7, 6], [], [8, 9, 7, 6], [10, 5, 8, 9, 7, 6, 4, 2, 3, 1, 0], [5, 11, 4, 2, 3, 1, 0, 10, 8, 9, 7, 6], [], [13, 12, 11, 0, 1, 2, 3, 4, 5, 6, 7, 8, 9, 10]])
 (.seq (.seq (.reg 0 [⟨(some 74), (.faddr 0 (.tmp 8)), none, 0⟩, ⟨(some 75), (.load 1 false (.tmp 74)), none, 0⟩, ⟨(some 76), (.call false (.val (.lit (.func (.func 93) #[] #[]))) [(.tmp 75)]), none, 0⟩, ⟨(some 77), (.not (.tmp 76)), none, 0⟩, ⟨(some 78), (.mv (.tmp 77)), none, 0⟩, ⟨(some 79), (.faddr 1 (.tmp 8)), (some (78, false)), 0⟩, ⟨(some 80), (.load 1 false (.tmp 79)), (some (78, false)), 0⟩, ⟨(some 81), (.call false (.val (.lit (.func (.func 93) #[] #[]))) [(.tmp 80)]), (some (78, false)), 0⟩, ⟨(some 82), (.not (.tmp 81)), (some (78, false)), 0⟩, ⟨(some 83), (.pick (.tmp 78) (.val (.lit (.bool true))) (.tmp 82)), none, 0⟩])
 (.cond (.tmp 83) (.seq (.reg 0 [⟨(some 84), (.build [(.lit (.int .i64 0)), (.lit (.int .i64 0)), (.lit (.int .i64 0)), (.lit (.int .i64 0))] []), none, 0⟩, ⟨none, (.store 4 (.tmp 4) (.tmp 84)), none, 0⟩, ⟨(some 5), (.mv (.val (.lit (.int .i64 8)))), none, 0⟩])
 .ret) .skip))
 (.seq (.reg 0 [⟨(some 85), (.faddr 0 (.tmp 3)), none, 0⟩, ⟨(some 86), (.load 1 false (.tmp 85)), none, 0⟩, ⟨(some 87), (.faddr 0 (.tmp 3)), none, 0⟩, ⟨(some 88), (.load 1 false (.tmp 87)), none, 0⟩, ⟨(some 89), (.bin .add (.tmp 88) (.val (.lit (.int .i64 1)))), none, 0⟩, ⟨(some 90), (.load 2 true (.tmp 8)), none, 0⟩, ⟨(some 91), (.build [(.lit (.int .i64 0)), (.lit (.int .i64 0)), (.lit (.int .i64 0)), (.lit (.int .i64 0))] [(0, (1, (.tmp 86))), (1, (1, (.tmp 89))), (2, (2, (.tmp 90)))]), none, 0⟩, ⟨none, (.store 4 (.tmp 4) (.tmp 91)), none, 0⟩, ⟨(some 5), (.mv (.val (.lit (.int .i64 0)))), none, 0⟩])
 .ret))))))))))
theorem e66 : envOf Try.prog muts 66 = some (92, c66, [(Go.Abs.ARes.cell 4 true 4), (Go.Abs.ARes.tmp 5)]) := by kernel_rfl
def c92 : ACode :=
 (.seq (.reg 0 [⟨(some 6), (.mv (.val (.lit (.bool false)))), none, 0⟩])
 (.seq (.reg 0 [⟨(some 7), (.mv (.tmp 1)), none, 0⟩, ⟨(some 8), (.mv (.tmp 0)), none, 0⟩, ⟨(some 9), (.bin .leq (.tmp 7) (.tmp 8)), none, 0⟩, ⟨(some 10), (.mv (.tmp 9)), none, 0⟩, ⟨(some 11), (.mv (.tmp 0)), (some (10, true)), 0⟩, ⟨(some 12), (.mv (.tmp 2)), (some (10, true)), 0⟩, ⟨(some 13), (.bin .leq (.tmp 11) (.tmp 12)), (some (10, true)), 0⟩, ⟨(some 14), (.pick (.tmp 10) (.tmp 13) (.val (.lit (.bool false)))), none, 0⟩, ⟨(some 6), (.mv (.tmp 14)), none, 0⟩])
 .ret))
theorem e92 : envOf Try.prog muts 92 = some (15, c92, [(Go.Abs.ARes.tmp 6)]) := by kernel_rfl
def c105 : ACode :=
 (.seq (.reg 1 [⟨(some 2), (.box 2 (.tmp 0)), none, 0⟩, ⟨(some 4), (.mv (.val (.lit (.bool false)))), none, 1⟩])
 (.seq (.reg 0 [⟨(some 5), (.mv (.tmp 1)), none, 0⟩, ⟨(some 6), (.faddr 1 (.tmp 2)), none, 0⟩, ⟨(some 7), (.load 1 false (.tmp 6)), none, 0⟩, ⟨(some 8), (.len (.tmp 7)), none, 0⟩, ⟨(some 9), (.bin .sub (.tmp 8) (.val (.lit (.int .i64 1)))), none, 0⟩, ⟨(some 10), (.call false (.val (.lit (.func (.func 92) #[] #[]))) [(.tmp 5), (.val (.lit (.int .i64 0))), (.tmp 9)]), none, 0⟩, ⟨(some 11), (.mv (.tmp 10)), none, 0⟩, ⟨(some 12), (.faddr 1 (.tmp 2)), (some (11, true)), 0⟩, ⟨(some 13), (.load 1 false (.tmp 12)), (some (11, true)), 0⟩, ⟨(some 14), (.mv (.tmp 1)), (some (11, true)), 0⟩, ⟨(some 15), (.iaddrS 1 (.tmp 13) (.tmp 14)), (some (11, true)), 0⟩, ⟨(some 16), (.load 1 false (.tmp 15)), (some (11, true)), 0⟩, ⟨(some 17), (.bin .neq (.tmp 16) (.val (.lit (.int .i64 (-1))))), (some (11, true)), 0⟩, ⟨(some 18), (.pick (.tmp 11) (.tmp 17) (.val (.lit (.bool false)))), none, 0⟩, ⟨(some 4), (.mv (.tmp 18)), none, 0⟩])
 .ret))
theorem e105 : envOf Try.prog muts 105 = some (19, c105, [(Go.Abs.ARes.tmp 4)]) := by kernel_rfl
def c127 : ACode :=
 (.seq (.reg 0 [⟨(some 4), (.mv (.val (.lit (.int .i64 0)))), none, 0⟩])
 (.seq (.reg 0 [⟨(some 6), (.mv (.tmp 0)), none, 0⟩, ⟨(some 7), (.mv (.tmp 1)), none, 0⟩, ⟨(some 8), (.bin .quo (.tmp 6) (.tmp 7)), none, 0⟩, ⟨(some 5), (.mv (.tmp 8)), none, 0⟩])
 (.seq (.seq (.reg 0 [⟨(some 9), (.mv (.tmp 0)), none, 0⟩, ⟨(some 10), (.mv (.tmp 1)), none, 0⟩, ⟨(some 11), (.bin .rem (.tmp 9) (.tmp 10)), none, 0⟩, ⟨(some 12), (.bin .lss (.tmp 11) (.val (.lit (.int .i64 0)))), none, 0⟩])
 (.cond (.tmp 12) (.reg 0 [⟨(some 13), (.mv (.tmp 5)), none, 0⟩, ⟨(some 14), (.bin .sub (.tmp 13) (.val (.lit (.int .i64 1)))), none, 0⟩, ⟨(some 5), (.mv (.tmp 14)), none, 0⟩]) .skip))
 (.seq (.reg 0 [⟨(some 15), (.mv (.tmp 5)), none, 0⟩, ⟨(some 4), (.mv (.tmp 15)), none, 0⟩])
 .ret))))
theorem e127 : envOf Try.prog muts 127 = some (16, c127, [(Go.Abs.ARes.tmp 4)]) := by kernel_rfl
def c128 : ACode :=
 (.seq (.reg 0 [⟨(some 4), (.mv (.val (.lit (.int .i64 0)))), none, 0⟩])
 (.seq (.reg 0 [⟨(some 5), (.mv (.tmp 0)), none, 0⟩, ⟨(some 6), (.neg (.tmp 5)), none, 0⟩, ⟨(some 7), (.mv (.tmp 1)), none, 0⟩, ⟨(some 8), (.call false (.val (.lit (.func (.func 127) #[] #[]))) [(.tmp 6), (.tmp 7)]), none, 0⟩, ⟨(some 9), (.neg (.tmp 8)), none, 0⟩, ⟨(some 4), (.mv (.tmp 9)), none, 0⟩])
 .ret))
theorem e128 : envOf Try.prog muts 128 = some (10, c128, [(Go.Abs.ARes.tmp 4)]) := by kernel_rfl
def c68l0 : ACode :=
 (.seq (.seq (.reg 0 [⟨(some 8), (.mv (.tmp 3)), none, 0⟩, ⟨(some 9), (.mv (.tmp 0)), none, 0⟩, ⟨(some 10), (.len (.tmp 9)), none, 0⟩, ⟨(some 11), (.bin .lss (.tmp 8) (.tmp 10)), none, 0⟩])
 (.cond (.tmp 11) .skip (.exit 0)))
 (.seq (.block 1 (.seq (.seq (.reg 0 [⟨(some 14), (.mv (.tmp 0)), none, 0⟩, ⟨(some 15), (.mv (.tmp 3)), none, 0⟩, ⟨(some 16), (.iaddrS 1 (.tmp 14) (.tmp 15)), none, 0⟩, ⟨(some 17), (.load 1 false (.tmp 16)), none, 0⟩, ⟨(some 18), (.call false (.val (.lit (.func (.func 32) #[] #[]))) [(.tmp 17), (.val (.lit (.int .i64 1))), (.val (.lit (.int .i64 1000000)))]), none, 0⟩, ⟨(some 19), (.not (.tmp 18)), none, 0⟩])
 (.cond (.tmp 19) (.seq (.reg 0 [⟨(some 2), (.mv (.val (.lit (.int .i64 2)))), none, 0⟩])
 .ret) .skip))
 (.seq (.dreg 0 [(0, ⟨(some 20), (.mv (.tmp 3)), none, 0⟩), (1, ⟨(some 21), (.bin .gtr (.tmp 20) (.val (.lit (.int .i64 0)))), none, 0⟩), (2, ⟨(some 22), (.mv (.tmp 21)), none, 0⟩), (3, ⟨(some 23), (.mv (.tmp 0)), (some (22, true)), 0⟩), (4, ⟨(some 24), (.mv (.tmp 3)), (some (22, true)), 0⟩), (5, ⟨(some 25), (.iaddrS 1 (.tmp 23) (.tmp 24)), (some (22, true)), 0⟩), (6, ⟨(some 26), (.load 1 false (.tmp 25)), (some (22, true)), 0⟩), (7, ⟨(some 27), (.mv (.tmp 0)), (some (22, true)), 0⟩), (8, ⟨(some 28), (.mv (.tmp 3)), (some (22, true)), 0⟩), (9, ⟨(some 29), (.bin .sub (.tmp 28) (.val (.lit (.int .i64 1)))), (some (22, true)), 0⟩), (10, ⟨(some 30), (.iaddrS 1 (.tmp 27) (.tmp 29)), (some (22, true)), 0⟩), (11, ⟨(some 31), (.load 1 false (.tmp 30)), (some (22, true)), 0⟩), (12, ⟨(some 32), (.bin .leq (.tmp 26) (.tmp 31)), (some (22, true)), 0⟩), (13, ⟨(some 33), (.pick (.tmp 22) (.tmp 32) (.val (.lit (.bool false)))), none, 0⟩)] [[], [0], [1, 0], [2, 1, 0], [2, 1, 0], [3, 4, 2, 1, 0], [5, 2, 3, 4, 1, 0], [2, 1, 0], [2, 1, 0], [8, 2, 1, 0], [7, 9, 2, 1, 0, 8], [10, 2, 7, 9, 1, 0, 8], [6, 11, 2, 5, 3, 4, 1, 0, 10, 7, 9, 8], [2, 12, 1, 0, 6, 11, 5, 3, 4, 10, 7, 9, 8]])
 (.cond (.tmp 33) (.seq (.reg 0 [⟨(some 2), (.mv (.val (.lit (.int .i64 9)))), none, 0⟩])
 .ret) .skip))))
 (.reg 0 [⟨(some 12), (.mv (.tmp 3)), none, 0⟩, ⟨(some 13), (.bin .add (.tmp 12) (.val (.lit (.int .i64 1)))), none, 0⟩, ⟨(some 3), (.mv (.tmp 13)), none, 0⟩])))
def c68 : ACode :=
 (.seq (.reg 0 [⟨(some 2), (.mv (.val (.lit (.int .i64 0)))), none, 0⟩])
 (.seq (.seq (.reg 0 [⟨(some 4), (.mv (.tmp 0)), none, 0⟩, ⟨(some 5), (.len (.tmp 4)), none, 0⟩, ⟨(some 6), (.call false (.val (.lit (.func (.func 32) #[] #[]))) [(.tmp 5), (.val (.lit (.int .i64 1))), (.val (.lit (.int .i64 40)))]), none, 0⟩, ⟨(some 7), (.not (.tmp 6)), none, 0⟩])
 (.cond (.tmp 7) (.seq (.reg 0 [⟨(some 2), (.mv (.val (.lit (.int .i64 10)))), none, 0⟩])
 .ret) .skip))
 (.seq (.seq (.reg 0 [⟨(some 3), (.mv (.val (.lit (.int .i64 0)))), none, 0⟩])
 (.block 0 (.loop c68l0)))
 (.seq (.reg 0 [⟨(some 2), (.mv (.val (.lit (.int .i64 0)))), none, 0⟩])
 .ret))))
theorem e68 : envOf Try.prog muts 68 = some (34, c68, [(Go.Abs.ARes.tmp 2)]) := by kernel_rfl
def c112 : ACode :=
 (.seq (.reg 1 [⟨(some 3), (.box 2 (.tmp 0)), none, 0⟩, ⟨(some 6), (.mv (.val (.lit (.bool false)))), none, 1⟩])
 (.seq (.reg 0 [⟨(some 7), (.mv (.tmp 1)), none, 0⟩, ⟨(some 8), (.mv (.tmp 2)), none, 0⟩, ⟨(some 9), (.minmax false [(.tmp 7), (.tmp 8)]), none, 0⟩, ⟨(some 10), (.mv (.tmp 1)), none, 0⟩, ⟨(some 11), (.mv (.tmp 2)), none, 0⟩, ⟨(some 12), (.minmax true [(.tmp 10), (.tmp 11)]), none, 0⟩, ⟨(some 1), (.mv (.tmp 9)), none, 0⟩, ⟨(some 2), (.mv (.tmp 12)), none, 0⟩])
 (.seq (.reg 0 [⟨(some 13), (.mv (.tmp 2)), none, 0⟩, ⟨(some 14), (.mv (.tmp 1)), none, 0⟩, ⟨(some 15), (.faddr 0 (.tmp 3)), none, 0⟩, ⟨(some 16), (.load 1 false (.tmp 15)), none, 0⟩, ⟨(some 17), (.bin .add (.tmp 14) (.tmp 16)), none, 0⟩, ⟨(some 18), (.bin .eql (.tmp 13) (.tmp 17)), none, 0⟩, ⟨(some 19), (.mv (.tmp 18)), none, 0⟩, ⟨(some 20), (.mv (.tmp 2)), (some (19, false)), 0⟩, ⟨(some 21), (.mv (.tmp 1)), (some (19, false)), 0⟩, ⟨(some 22), (.bin .add (.tmp 21) (.val (.lit (.int .i64 1)))), (some (19, false)), 0⟩, ⟨(some 23), (.bin .eql (.tmp 20) (.tmp 22)), (some (19, false)), 0⟩, ⟨(some 24), (.mv (.tmp 23)), (some (19, false)), 0⟩, ⟨(some 25), (.mv (.tmp 2)), (some (24, true)), 0⟩, ⟨(some 26), (.faddr 0 (.tmp 3)), (some (24, true)), 0⟩, ⟨(some 27), (.load 1 false (.tmp 26)), (some (24, true)), 0⟩, ⟨(some 28), (.bin .rem (.tmp 25) (.tmp 27)), (some (24, true)), 0⟩, ⟨(some 29), (.bin .neq (.tmp 28) (.val (.lit (.int .i64 0)))), (some (24, true)), 0⟩, ⟨(some 30), (.pick (.tmp 24) (.tmp 29) (.val (.lit (.bool false)))), (some (19, false)), 0⟩, ⟨(some 31), (.pick (.tmp 19) (.val (.lit (.bool true))) (.tmp 30)), none, 0⟩, ⟨(some 6), (.mv (.tmp 31)), none, 0⟩])
 .ret)))
theorem e112 : envOf Try.prog muts 112 = some (32, c112, [(Go.Abs.ARes.tmp 6)]) := by kernel_rfl
def c126 : ACode :=
 (.seq (.reg 0 [⟨(some 4), (.mv (.val (.lit (.int .i64 0)))), none, 0⟩])
 (.seq (.reg 0 [⟨(some 6), (.mv (.tmp 0)), none, 0⟩, ⟨(some 7), (.mv (.tmp 1)), none, 0⟩, ⟨(some 8), (.bin .quo (.tmp 6) (.tmp 7)), none, 0⟩, ⟨(some 5), (.mv (.tmp 8)), none, 0⟩])
 (.seq (.seq (.reg 0 [⟨(some 9), (.mv (.tmp 0)), none, 0⟩, ⟨(some 10), (.mv (.tmp 1)), none, 0⟩, ⟨(some 11), (.bin .rem (.tmp 9) (.tmp 10)), none, 0⟩, ⟨(some 12), (.bin .neq (.tmp 11) (.val (.lit (.int .i64 0)))), none, 0⟩, ⟨(some 13), (.mv (.tmp 12)), none, 0⟩, ⟨(some 14), (.mv (.tmp 0)), (some (13, true)), 0⟩, ⟨(some 15), (.bin .lss (.tmp 14) (.val (.lit (.int .i64 0)))), (some (13, true)), 0⟩, ⟨(some 16), (.pick (.tmp 13) (.tmp 15) (.val (.lit (.bool false)))), none, 0⟩])
 (.cond (.tmp 16) (.reg 0 [⟨(some 17), (.mv (.tmp 5)), none, 0⟩, ⟨(some 18), (.bin .sub (.tmp 17) (.val (.lit (.int .i64 1)))), none, 0⟩, ⟨(some 5), (.mv (.tmp 18)), none, 0⟩]) .skip))
 (.seq (.reg 0 [⟨(some 19), (.mv (.tmp 5)), none, 0⟩, ⟨(some 4), (.mv (.tmp 19)), none, 0⟩])
 .ret))))
theorem e126 : envOf Try.prog muts 126 = some (20, c126, [(Go.Abs.ARes.tmp 4)]) := by kernel_rfl
end Go.Abs
