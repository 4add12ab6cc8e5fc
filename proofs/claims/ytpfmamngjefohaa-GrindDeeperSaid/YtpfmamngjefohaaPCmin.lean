import Derived.Test.YtpfmamngjefohaaAbs21
import Derived.KernelRfl
import Derived.Test.YtpfmamngjefohaaProg
set_option linter.all false
set_option linter.unusedVariables false
set_option linter.unusedSimpArgs false
set_option linter.unusedSectionVars false
/- The code of the functions that are walked, as the machine of these texts has it. -/
namespace Go.Abs
open Go.Proofs
abbrev muts : List FuncId := []
def c3 : ACode :=
 (.seq (.reg 2 [⟨(some 4), (.box 2 (.tmp 1)), none, 0⟩, ⟨(some 5), (.box 2 (.tmp 2)), none, 1⟩, ⟨(some 6), (.mv (.val (.lit (.bool false)))), none, 2⟩])
 (.seq (.seq (.reg 0 [⟨(some 16), (.call false (.val (.lit (.func (.func 13) #[] #[]))) []), none, 0⟩, ⟨(some 17), (.not (.tmp 16)), none, 0⟩])
 (.cond (.tmp 17) (.seq (.reg 0 [⟨(some 6), (.mv (.val (.lit (.bool false)))), none, 0⟩])
 .ret) .skip))
 (.seq (.seq (.reg 0 [⟨(some 18), (.mv (.tmp 0)), none, 0⟩, ⟨(some 19), (.len (.tmp 18)), none, 0⟩, ⟨(some 20), (.bin .gtr (.tmp 19) (.val (.lit (.int .i64 6)))), none, 0⟩, ⟨(some 21), (.mv (.tmp 20)), none, 0⟩, ⟨(some 22), (.mv (.tmp 0)), (some (21, false)), 0⟩, ⟨(some 23), (.call false (.val (.lit (.func (.func 14) #[] #[]))) [(.tmp 22)]), (some (21, false)), 0⟩, ⟨(some 24), (.not (.tmp 23)), (some (21, false)), 0⟩, ⟨(some 25), (.pick (.tmp 21) (.val (.lit (.bool true))) (.tmp 24)), none, 0⟩, ⟨(some 26), (.mv (.tmp 25)), none, 0⟩, ⟨(some 27), (.iaddrA 2 1 (.tmp 5) (.val (.lit (.int .i64 0)))), (some (26, false)), 0⟩, ⟨(some 28), (.load 1 false (.tmp 27)), (some (26, false)), 0⟩, ⟨(some 29), (.call false (.val (.lit (.func (.func 15) #[] #[]))) [(.tmp 28), (.val (.lit (.int .i64 0))), (.val (.lit (.int .i64 1000)))]), (some (26, false)), 0⟩, ⟨(some 30), (.not (.tmp 29)), (some (26, false)), 0⟩, ⟨(some 31), (.pick (.tmp 26) (.val (.lit (.bool true))) (.tmp 30)), none, 0⟩, ⟨(some 32), (.mv (.tmp 31)), none, 0⟩, ⟨(some 33), (.iaddrA 2 1 (.tmp 5) (.val (.lit (.int .i64 1)))), (some (32, false)), 0⟩, ⟨(some 34), (.load 1 false (.tmp 33)), (some (32, false)), 0⟩, ⟨(some 35), (.call false (.val (.lit (.func (.func 15) #[] #[]))) [(.tmp 34), (.val (.lit (.int .i64 0))), (.val (.lit (.int .i64 1000)))]), (some (32, false)), 0⟩, ⟨(some 36), (.not (.tmp 35)), (some (32, false)), 0⟩, ⟨(some 37), (.pick (.tmp 32) (.val (.lit (.bool true))) (.tmp 36)), none, 0⟩, ⟨(some 38), (.mv (.tmp 37)), none, 0⟩, ⟨(some 39), (.iaddrA 2 1 (.tmp 4) (.val (.lit (.int .i64 0)))), (some (38, false)), 0⟩, ⟨(some 40), (.load 1 false (.tmp 39)), (some (38, false)), 0⟩, ⟨(some 41), (.call false (.val (.lit (.func (.func 15) #[] #[]))) [(.tmp 40), (.val (.lit (.int .i64 0))), (.val (.lit (.int .i64 1000000)))]), (some (38, false)), 0⟩, ⟨(some 42), (.not (.tmp 41)), (some (38, false)), 0⟩, ⟨(some 43), (.pick (.tmp 38) (.val (.lit (.bool true))) (.tmp 42)), none, 0⟩, ⟨(some 44), (.mv (.tmp 43)), none, 0⟩, ⟨(some 45), (.iaddrA 2 1 (.tmp 4) (.val (.lit (.int .i64 1)))), (some (44, false)), 0⟩, ⟨(some 46), (.load 1 false (.tmp 45)), (some (44, false)), 0⟩, ⟨(some 47), (.call false (.val (.lit (.func (.func 15) #[] #[]))) [(.tmp 46), (.val (.lit (.int .i64 0))), (.val (.lit (.int .i64 1000000)))]), (some (44, false)), 0⟩, ⟨(some 48), (.not (.tmp 47)), (some (44, false)), 0⟩, ⟨(some 49), (.pick (.tmp 44) (.val (.lit (.bool true))) (.tmp 48)), none, 0⟩])
 (.cond (.tmp 49) (.seq (.reg 0 [⟨(some 6), (.mv (.val (.lit (.bool true)))), none, 0⟩])
 .ret) .skip))
 (.seq (.dreg 0 [(0, ⟨(some 51), (.mv (.tmp 0)), none, 0⟩), (1, ⟨(some 52), (.call false (.val (.lit (.func (.func 17) #[] #[]))) [(.tmp 51)]), none, 0⟩), (2, ⟨(some 53), (.load 2 true (.tmp 4)), none, 0⟩), (3, ⟨(some 54), (.call false (.val (.lit (.func (.func 16) #[] #[]))) [(.tmp 52), (.tmp 53)]), none, 0⟩), (4, ⟨(some 50), (.mv (.tmp 54)), none, 0⟩), (5, ⟨(some 55), (.ext (.tmp 50) 0), none, 0⟩), (6, ⟨(some 56), (.ext (.tmp 50) 1), none, 0⟩), (7, ⟨(some 57), (.ext (.tmp 50) 2), none, 0⟩), (8, ⟨(some 7), (.mv (.tmp 55)), none, 0⟩), (9, ⟨(some 8), (.mv (.tmp 56)), none, 0⟩), (10, ⟨(some 9), (.mv (.tmp 57)), none, 0⟩)] [[], [0], [], [1, 2, 0], [3, 1, 2, 0], [4, 3, 1, 2, 0], [4, 3, 1, 2, 0], [4, 3, 1, 2, 0], [5, 3, 0, 1, 2, 4], [6, 8, 0, 1, 2, 3, 4, 5], [7, 9, 0, 1, 2, 3, 4, 5, 6, 8]])
 (.seq (.seq (.reg 0 [⟨(some 58), (.mv (.tmp 9)), none, 0⟩, ⟨(some 59), (.bin .neq (.tmp 58) (.val (.lit (.int .i64 0)))), none, 0⟩, ⟨(some 60), (.mv (.tmp 59)), none, 0⟩, ⟨(some 61), (.mv (.tmp 9)), (some (60, true)), 0⟩, ⟨(some 62), (.bin .neq (.tmp 61) (.val (.lit (.int .i64 12)))), (some (60, true)), 0⟩, ⟨(some 63), (.pick (.tmp 60) (.tmp 62) (.val (.lit (.bool false)))), none, 0⟩])
 (.cond (.tmp 63) (.seq (.reg 0 [⟨(some 6), (.mv (.val (.lit (.bool true)))), none, 0⟩])
 .ret) .skip))
 (.seq (.dreg 0 [(0, ⟨(some 65), (.mv (.tmp 0)), none, 0⟩), (1, ⟨(some 66), (.call false (.val (.lit (.func (.func 17) #[] #[]))) [(.tmp 65)]), none, 0⟩), (2, ⟨(some 67), (.iaddrA 2 1 (.tmp 4) (.val (.lit (.int .i64 0)))), none, 0⟩), (3, ⟨(some 68), (.load 1 false (.tmp 67)), none, 0⟩), (4, ⟨(some 69), (.iaddrA 2 1 (.tmp 5) (.val (.lit (.int .i64 0)))), none, 0⟩), (5, ⟨(some 70), (.load 1 false (.tmp 69)), none, 0⟩), (6, ⟨(some 71), (.bin .add (.tmp 68) (.tmp 70)), none, 0⟩), (7, ⟨(some 72), (.minmax false [(.val (.lit (.int .i64 1000000))), (.tmp 71)]), none, 0⟩), (8, ⟨(some 73), (.iaddrA 2 1 (.tmp 4) (.val (.lit (.int .i64 1)))), none, 0⟩), (9, ⟨(some 74), (.load 1 false (.tmp 73)), none, 0⟩), (10, ⟨(some 75), (.iaddrA 2 1 (.tmp 5) (.val (.lit (.int .i64 1)))), none, 0⟩), (11, ⟨(some 76), (.load 1 false (.tmp 75)), none, 0⟩), (12, ⟨(some 77), (.bin .sub (.tmp 74) (.tmp 76)), none, 0⟩), (13, ⟨(some 78), (.minmax true [(.val (.lit (.int .i64 0))), (.tmp 77)]), none, 0⟩), (14, ⟨(some 79), (.build [(.lit (.int .i64 0)), (.lit (.int .i64 0))] [(0, (1, (.tmp 72))), (1, (1, (.tmp 78)))]), none, 0⟩), (15, ⟨(some 80), (.call false (.val (.lit (.func (.func 16) #[] #[]))) [(.tmp 66), (.tmp 79)]), none, 0⟩), (16, ⟨(some 64), (.mv (.tmp 80)), none, 0⟩), (17, ⟨(some 81), (.ext (.tmp 64) 0), none, 0⟩), (18, ⟨(some 82), (.ext (.tmp 64) 1), none, 0⟩), (19, ⟨(some 83), (.ext (.tmp 64) 2), none, 0⟩), (20, ⟨(some 10), (.mv (.tmp 81)), none, 0⟩), (21, ⟨(some 11), (.mv (.tmp 82)), none, 0⟩), (22, ⟨(some 12), (.mv (.tmp 83)), none, 0⟩)] [[], [0], [], [2], [], [4], [3, 5, 2, 4], [6, 3, 5, 2, 4], [], [8], [], [10], [9, 11, 8, 10], [12, 9, 11, 8, 10], [7, 13, 6, 3, 5, 2, 4, 12, 9, 11, 8, 10], [1, 14, 0, 7, 13, 6, 3, 5, 2, 4, 12, 9, 11, 8, 10], [15, 1, 14, 0, 7, 13, 6, 3, 5, 2, 4, 12, 9, 11, 8, 10], [16, 15, 1, 14, 0, 7, 13, 6, 3, 5, 2, 4, 12, 9, 11, 8, 10], [16, 15, 1, 14, 0, 7, 13, 6, 3, 5, 2, 4, 12, 9, 11, 8, 10], [16, 15, 1, 14, 0, 7, 13, 6, 3, 5, 2, 4, 12, 9, 11, 8, 10], [17, 15, 0, 1, 2, 3, 4, 5, 6, 7, 8, 9, 10, 11, 12, 13, 14, 16], [18, 20, 0, 1, 2, 3, 4, 5, 6, 7, 8, 9, 10, 11, 12, 13, 14, 15, 16, 17], [19, 21, 0, 1, 2, 3, 4, 5, 6, 7, 8, 9, 10, 11, 12, 13, 14, 15, 16, 17, 18, 20]])
 (.seq (.seq (.reg 0 [⟨(some 84), (.mv (.tmp 12)), none, 0⟩, ⟨(some 85), (.bin .neq (.tmp 84) (.val (.lit (.int .i64 0)))), none, 0⟩, ⟨(some 86), (.mv (.tmp 85)), none, 0⟩, ⟨(some 87), (.mv (.tmp 12)), (some (86, true)), 0⟩, ⟨(some 88), (.bin .neq (.tmp 87) (.val (.lit (.int .i64 12)))), (some (86, true)), 0⟩, ⟨(some 89), (.pick (.tmp 86) (.tmp 88) (.val (.lit (.bool false)))), none, 0⟩, ⟨(some 90), (.mv (.tmp 89)), none, 0⟩, ⟨(some 91), (.mv (.tmp 12)), (some (90, false)), 0⟩, ⟨(some 92), (.bin .eql (.tmp 91) (.val (.lit (.int .i64 0)))), (some (90, false)), 0⟩, ⟨(some 93), (.mv (.tmp 92)), (some (90, false)), 0⟩, ⟨(some 94), (.mv (.tmp 9)), (some (93, true)), 0⟩, ⟨(some 95), (.bin .neq (.tmp 94) (.val (.lit (.int .i64 0)))), (some (93, true)), 0⟩, ⟨(some 96), (.mv (.tmp 95)), (some (93, true)), 0⟩, ⟨(some 97), (.mv (.tmp 11)), (some (96, false)), 0⟩, ⟨(some 98), (.mv (.tmp 8)), (some (96, false)), 0⟩, ⟨(some 99), (.bin .lss (.tmp 97) (.tmp 98)), (some (96, false)), 0⟩, ⟨(some 100), (.pick (.tmp 96) (.val (.lit (.bool true))) (.tmp 99)), (some (93, true)), 0⟩, ⟨(some 101), (.pick (.tmp 93) (.tmp 100) (.val (.lit (.bool false)))), (some (90, false)), 0⟩, ⟨(some 102), (.pick (.tmp 90) (.val (.lit (.bool true))) (.tmp 101)), none, 0⟩])
 (.cond (.tmp 102) (.seq (.reg 0 [⟨(some 6), (.mv (.val (.lit (.bool false)))), none, 0⟩])
 .ret) .skip))
 (.seq (.seq (.reg 0 [⟨(some 103), (.mv (.tmp 0)), none, 0⟩, ⟨(some 104), (.len (.tmp 103)), none, 0⟩, ⟨(some 105), (.bin .eql (.tmp 104) (.val (.lit (.int .i64 0)))), none, 0⟩])
 (.cond (.tmp 105) (.seq (.reg 0 [⟨(some 6), (.mv (.val (.lit (.bool true)))), none, 0⟩])
 .ret) .skip))
 (.seq (.dreg 0 [(0, ⟨(some 107), (.mv (.tmp 0)), none, 0⟩), (1, ⟨(some 108), (.slc 3 (.tmp 107) (some (.val (.lit (.int .i64 1)))) none), none, 0⟩), (2, ⟨(some 109), (.call false (.val (.lit (.func (.func 17) #[] #[]))) [(.tmp 108)]), none, 0⟩), (3, ⟨(some 110), (.load 2 true (.tmp 4)), none, 0⟩), (4, ⟨(some 111), (.call false (.val (.lit (.func (.func 16) #[] #[]))) [(.tmp 109), (.tmp 110)]), none, 0⟩), (5, ⟨(some 106), (.mv (.tmp 111)), none, 0⟩), (6, ⟨(some 112), (.ext (.tmp 106) 0), none, 0⟩), (7, ⟨(some 113), (.ext (.tmp 106) 1), none, 0⟩), (8, ⟨(some 114), (.ext (.tmp 106) 2), none, 0⟩), (9, ⟨(some 13), (.mv (.tmp 112)), none, 0⟩), (10, ⟨(some 14), (.mv (.tmp 113)), none, 0⟩), (11, ⟨(some 15), (.mv (.tmp 114)), none, 0⟩)] [[], [0], [1, 0], [], [2, 3, 1, 0], [4, 2, 3, 1, 0], [5, 4, 2, 3, 1, 0], [5, 4, 2, 3, 1, 0], [5, 4, 2, 3, 1, 0], [6, 4, 0, 1, 2, 3, 5], [7, 9, 0, 1, 2, 3, 4, 5, 6], [8, 10, 0, 1, 2, 3, 4, 5, 6, 7, 9]])
 (.seq (.reg 0 [⟨(some 115), (.mv (.tmp 15)), none, 0⟩, ⟨(some 116), (.bin .eql (.tmp 115) (.val (.lit (.int .i64 12)))), none, 0⟩, ⟨(some 117), (.mv (.tmp 116)), none, 0⟩, ⟨(some 118), (.mv (.tmp 15)), (some (117, false)), 0⟩, ⟨(some 119), (.bin .eql (.tmp 118) (.val (.lit (.int .i64 0)))), (some (117, false)), 0⟩, ⟨(some 120), (.mv (.tmp 119)), (some (117, false)), 0⟩, ⟨(some 121), (.mv (.tmp 9)), (some (120, true)), 0⟩, ⟨(some 122), (.bin .eql (.tmp 121) (.val (.lit (.int .i64 0)))), (some (120, true)), 0⟩, ⟨(some 123), (.pick (.tmp 120) (.tmp 122) (.val (.lit (.bool false)))), (some (117, false)), 0⟩, ⟨(some 124), (.mv (.tmp 123)), (some (117, false)), 0⟩, ⟨(some 125), (.mv (.tmp 8)), (some (124, true)), 0⟩, ⟨(some 126), (.mv (.tmp 14)), (some (124, true)), 0⟩, ⟨(some 127), (.bin .leq (.tmp 125) (.tmp 126)), (some (124, true)), 0⟩, ⟨(some 128), (.pick (.tmp 124) (.tmp 127) (.val (.lit (.bool false)))), (some (117, false)), 0⟩, ⟨(some 129), (.pick (.tmp 117) (.val (.lit (.bool true))) (.tmp 128)), none, 0⟩, ⟨(some 6), (.mv (.tmp 129)), none, 0⟩])
 .ret))))))))))
theorem e3 : envOf Try.prog muts 3 = some (130, c3, [(Go.Abs.ARes.tmp 6)]) := by kernel_rfl
def c14l0 : ACode :=
 (.seq (.seq (.reg 0 [⟨(some 4), (.mv (.tmp 3)), none, 0⟩, ⟨(some 5), (.mv (.tmp 0)), none, 0⟩, ⟨(some 6), (.len (.tmp 5)), none, 0⟩, ⟨(some 7), (.bin .lss (.tmp 4) (.tmp 6)), none, 0⟩])
 (.cond (.tmp 7) .skip (.exit 0)))
 (.seq (.block 1 (.seq (.reg 0 [⟨(some 10), (.mv (.tmp 0)), none, 0⟩, ⟨(some 11), (.mv (.tmp 3)), none, 0⟩, ⟨(some 12), (.iaddrS 3 (.tmp 10) (.tmp 11)), none, 0⟩, ⟨(some 13), (.faddr 0 (.tmp 12)), none, 0⟩, ⟨(some 14), (.load 1 false (.tmp 13)), none, 0⟩, ⟨(some 15), (.lenS (.tmp 14)), none, 0⟩, ⟨(some 16), (.bin .gtr (.tmp 15) (.val (.lit (.int .i64 30)))), none, 0⟩])
 (.cond (.tmp 16) (.seq (.reg 0 [⟨(some 2), (.mv (.val (.lit (.bool false)))), none, 0⟩])
 .ret) .skip)))
 (.reg 0 [⟨(some 8), (.mv (.tmp 3)), none, 0⟩, ⟨(some 9), (.bin .add (.tmp 8) (.val (.lit (.int .i64 1)))), none, 0⟩, ⟨(some 3), (.mv (.tmp 9)), none, 0⟩])))
def c14 : ACode :=
 (.seq (.reg 0 [⟨(some 2), (.mv (.val (.lit (.bool false)))), none, 0⟩])
 (.seq (.seq (.reg 0 [⟨(some 3), (.mv (.val (.lit (.int .i64 0)))), none, 0⟩])
 (.block 0 (.loop c14l0)))
 (.seq (.reg 0 [⟨(some 17), (.mv (.tmp 0)), none, 0⟩, ⟨(some 18), (.len (.tmp 17)), none, 0⟩, ⟨(some 19), (.bin .leq (.tmp 18) (.val (.lit (.int .i64 6)))), none, 0⟩, ⟨(some 20), (.mv (.tmp 19)), none, 0⟩, ⟨(some 21), (.mv (.tmp 0)), (some (20, false)), 0⟩, ⟨(some 22), (.len (.tmp 21)), (some (20, false)), 0⟩, ⟨(some 23), (.bin .gtr (.tmp 22) (.val (.lit (.int .i64 12)))), (some (20, false)), 0⟩, ⟨(some 24), (.mv (.tmp 23)), (some (20, false)), 0⟩, ⟨(some 25), (.mv (.tmp 0)), (some (24, true)), 0⟩, ⟨(some 26), (.len (.tmp 25)), (some (24, true)), 0⟩, ⟨(some 27), (.bin .leq (.tmp 26) (.val (.lit (.int .i64 15)))), (some (24, true)), 0⟩, ⟨(some 28), (.pick (.tmp 24) (.tmp 27) (.val (.lit (.bool false)))), (some (20, false)), 0⟩, ⟨(some 29), (.pick (.tmp 20) (.val (.lit (.bool true))) (.tmp 28)), none, 0⟩, ⟨(some 2), (.mv (.tmp 29)), none, 0⟩])
 .ret)))
theorem e14 : envOf Try.prog muts 14 = some (30, c14, [(Go.Abs.ARes.tmp 2)]) := by kernel_rfl
def c15 : ACode :=
 (.seq (.reg 0 [⟨(some 6), (.mv (.val (.lit (.bool false)))), none, 0⟩])
 (.seq (.reg 0 [⟨(some 7), (.mv (.tmp 0)), none, 0⟩, ⟨(some 8), (.mv (.tmp 1)), none, 0⟩, ⟨(some 9), (.bin .geq (.tmp 7) (.tmp 8)), none, 0⟩, ⟨(some 10), (.mv (.tmp 9)), none, 0⟩, ⟨(some 11), (.mv (.tmp 0)), (some (10, true)), 0⟩, ⟨(some 12), (.mv (.tmp 2)), (some (10, true)), 0⟩, ⟨(some 13), (.bin .leq (.tmp 11) (.tmp 12)), (some (10, true)), 0⟩, ⟨(some 14), (.pick (.tmp 10) (.tmp 13) (.val (.lit (.bool false)))), none, 0⟩, ⟨(some 6), (.mv (.tmp 14)), none, 0⟩])
 .ret))
theorem e15 : envOf Try.prog muts 15 = some (15, c15, [(Go.Abs.ARes.tmp 6)]) := by kernel_rfl
def c16 : ACode :=
 (.seq (.reg 1 [⟨(some 3), (.box 2 (.tmp 1)), none, 0⟩, ⟨(some 4), (.mv (.val (.sl true 0 []))), none, 1⟩, ⟨(some 5), (.mv (.val (.lit (.int .i64 0)))), none, 1⟩, ⟨(some 6), (.mv (.val (.lit (.int .i64 0)))), none, 1⟩])
 (.seq (.seq (.reg 0 [⟨(some 9), (.mv (.tmp 0)), none, 0⟩, ⟨(some 10), (.load 2 true (.tmp 3)), none, 0⟩, ⟨(some 11), (.call false (.val (.lit (.func (.func 65) #[] #[]))) [(.tmp 9), (.tmp 10)]), none, 0⟩, ⟨(some 7), (.mv (.tmp 11)), none, 0⟩])
 (.seq (.reg 0 [⟨(some 12), (.mv (.tmp 7)), none, 0⟩, ⟨(some 13), (.bin .neq (.tmp 12) (.val (.lit (.int .i64 0)))), none, 0⟩])
 (.cond (.tmp 13) (.seq (.reg 0 [⟨(some 14), (.mv (.tmp 7)), none, 0⟩, ⟨(some 4), (.mv (.val (.sl true 0 []))), none, 0⟩, ⟨(some 5), (.mv (.val (.lit (.int .i64 0)))), none, 0⟩, ⟨(some 6), (.mv (.tmp 14)), none, 0⟩])
 .ret) .skip)))
 (.seq (.reg 1 [⟨(some 15), (.mv (.tmp 0)), none, 0⟩, ⟨(some 16), (.iaddrA 2 1 (.tmp 3) (.val (.lit (.int .i64 0)))), none, 0⟩, ⟨(some 17), (.load 1 false (.tmp 16)), none, 0⟩, ⟨(some 18), (.iaddrA 2 1 (.tmp 3) (.val (.lit (.int .i64 1)))), none, 0⟩, ⟨(some 19), (.load 1 false (.tmp 18)), none, 0⟩, ⟨(some 20), (.call false (.val (.lit (.func (.func 66) #[] #[]))) [(.tmp 15), (.tmp 17), (.tmp 19)]), none, 0⟩, ⟨(some 8), (.alloc [(.sl true 0 []), (.lit (.int .i64 0)), (.lit (.bool false))]), none, 0⟩, ⟨none, (.store 3 (.tmp 8) (.tmp 20)), none, 1⟩])
 (.seq (.seq (.reg 0 [⟨(some 21), (.faddr 2 (.tmp 8)), none, 0⟩, ⟨(some 22), (.load 1 false (.tmp 21)), none, 0⟩, ⟨(some 23), (.not (.tmp 22)), none, 0⟩])
 (.cond (.tmp 23) (.seq (.reg 0 [⟨(some 4), (.mv (.val (.sl true 0 []))), none, 0⟩, ⟨(some 5), (.mv (.val (.lit (.int .i64 0)))), none, 0⟩, ⟨(some 6), (.mv (.val (.lit (.int .i64 12)))), none, 0⟩])
 .ret) .skip))
 (.seq (.dreg 0 [(0, ⟨(some 24), (.faddr 0 (.tmp 8)), none, 0⟩), (1, ⟨(some 25), (.load 1 false (.tmp 24)), none, 0⟩), (2, ⟨(some 26), (.faddr 1 (.tmp 8)), none, 0⟩), (3, ⟨(some 27), (.load 1 false (.tmp 26)), none, 0⟩), (4, ⟨(some 4), (.mv (.tmp 25)), none, 0⟩), (5, ⟨(some 5), (.mv (.tmp 27)), none, 0⟩), (6, ⟨(some 6), (.mv (.val (.lit (.int .i64 0)))), none, 0⟩)] [[], [0], [], [2], [1, 0], [3, 4, 0, 1, 2], [5, 0, 1, 2, 3, 4]])
 .ret)))))
theorem e16 : envOf Try.prog muts 16 = some (28, c16, [(Go.Abs.ARes.tmp 4), (Go.Abs.ARes.tmp 5), (Go.Abs.ARes.tmp 6)]) := by kernel_rfl
def c17 : ACode :=
 (.seq (.reg 0 [⟨(some 2), (.mv (.val (.sl true 0 []))), none, 0⟩])
 (.seq (.reg 2 [⟨(some 3), (.bslice 3 0 [(.lit (.string ⟨#[]⟩)), (.lit (.int .i64 0)), (.lit (.int .i64 0))] []), none, 0⟩, ⟨(some 4), (.mv (.tmp 0)), none, 1⟩, ⟨(some 5), (.app 3 32 (.tmp 3) (.tmp 4)), none, 1⟩, ⟨(some 2), (.mv (.tmp 5)), none, 2⟩])
 .ret))
theorem e17 : envOf Try.prog muts 17 = some (6, c17, [(Go.Abs.ARes.tmp 2)]) := by kernel_rfl
def c45l0 : ACode :=
 (.seq (.reg 0 [⟨(some 13), (.bin .lss (.tmp 12) (.tmp 11)), none, 0⟩])
 (.seq (.cond (.tmp 13) .skip (.exit 0))
 (.seq (.block 1 (.seq (.reg 1 [⟨(some 14), (.iaddrS 3 (.tmp 10) (.tmp 12)), none, 0⟩, ⟨(some 15), (.load 3 true (.tmp 14)), none, 0⟩, ⟨(some 5), (.alloc [(.lit (.string ⟨#[]⟩)), (.lit (.int .i64 0)), (.lit (.int .i64 0))]), none, 0⟩, ⟨none, (.store 3 (.tmp 5) (.tmp 15)), none, 1⟩])
 (.block 2 (.seq (.reg 0 [⟨(some 17), (.faddr 0 (.tmp 5)), none, 0⟩, ⟨(some 18), (.load 1 false (.tmp 17)), none, 0⟩, ⟨(some 19), (.call false (.val (.lit (.func (.func 86) #[] #[]))) [(.tmp 18)]), none, 0⟩, ⟨(some 20), (.not (.tmp 19)), none, 0⟩, ⟨(some 16), (.mv (.tmp 20)), none, 0⟩])
 (.cond (.tmp 16) (.seq (.reg 0 [⟨(some 2), (.mv (.val (.lit (.int .i64 4)))), none, 0⟩])
 .ret) (.seq (.reg 0 [⟨(some 22), (.mv (.tmp 3)), none, 0⟩, ⟨(some 23), (.faddr 0 (.tmp 5)), none, 0⟩, ⟨(some 24), (.load 1 false (.tmp 23)), none, 0⟩, ⟨(some 25), (.call true (.val (.lit (.func (.func 87) #[] #[]))) [(.tmp 22), (.tmp 24)]), none, 0⟩, ⟨(some 21), (.mv (.tmp 25)), none, 0⟩])
 (.cond (.tmp 21) (.seq (.reg 0 [⟨(some 2), (.mv (.val (.lit (.int .i64 5)))), none, 0⟩])
 .ret) (.seq (.reg 0 [⟨(some 27), (.faddr 1 (.tmp 5)), none, 0⟩, ⟨(some 28), (.load 1 false (.tmp 27)), none, 0⟩, ⟨(some 29), (.call false (.val (.lit (.func (.func 80) #[] #[]))) [(.tmp 28), (.val (.lit (.int .i64 0))), (.val (.lit (.int .i64 1000000)))]), none, 0⟩, ⟨(some 30), (.not (.tmp 29)), none, 0⟩, ⟨(some 31), (.mv (.tmp 30)), none, 0⟩, ⟨(some 32), (.faddr 2 (.tmp 5)), (some (31, false)), 0⟩, ⟨(some 33), (.load 1 false (.tmp 32)), (some (31, false)), 0⟩, ⟨(some 34), (.call false (.val (.lit (.func (.func 80) #[] #[]))) [(.tmp 33), (.val (.lit (.int .i64 1))), (.val (.lit (.int .i64 100000)))]), (some (31, false)), 0⟩, ⟨(some 35), (.not (.tmp 34)), (some (31, false)), 0⟩, ⟨(some 36), (.pick (.tmp 31) (.val (.lit (.bool true))) (.tmp 35)), none, 0⟩, ⟨(some 26), (.mv (.tmp 36)), none, 0⟩])
 (.cond (.tmp 26) (.seq (.reg 0 [⟨(some 2), (.mv (.val (.lit (.int .i64 2)))), none, 0⟩])
 .ret) .skip)))))))))
 (.reg 0 [⟨(some 37), (.bin .add (.tmp 12) (.val (.lit (.int .i64 1)))), none, 0⟩, ⟨(some 12), (.mv (.tmp 37)), none, 0⟩]))))
def c45 : ACode :=
 (.seq (.reg 0 [⟨(some 2), (.mv (.val (.lit (.int .i64 0)))), none, 0⟩])
 (.seq (.seq (.reg 0 [⟨(some 6), (.mv (.tmp 0)), none, 0⟩, ⟨(some 7), (.len (.tmp 6)), none, 0⟩, ⟨(some 8), (.bin .gtr (.tmp 7) (.val (.lit (.int .i64 12)))), none, 0⟩])
 (.cond (.tmp 8) (.seq (.reg 0 [⟨(some 2), (.mv (.val (.lit (.int .i64 8)))), none, 0⟩])
 .ret) .skip))
 (.seq (.reg 1 [⟨(some 9), (.mkmap .str), none, 0⟩, ⟨(some 3), (.mv (.tmp 9)), none, 1⟩])
 (.seq (.seq (.reg 0 [⟨(some 10), (.mv (.tmp 0)), none, 0⟩, ⟨(some 11), (.len (.tmp 10)), none, 0⟩, ⟨(some 12), (.mv (.val (.lit (.int .i64 0)))), none, 0⟩])
 (.block 0 (.loop c45l0)))
 (.seq (.reg 0 [⟨(some 2), (.mv (.val (.lit (.int .i64 0)))), none, 0⟩])
 .ret)))))
theorem e45 : envOf Try.prog muts 45 = some (38, c45, [(Go.Abs.ARes.tmp 2)]) := by kernel_rfl
def c65 : ACode :=
 (.seq (.reg 1 [⟨(some 3), (.box 2 (.tmp 1)), none, 0⟩, ⟨(some 4), (.mv (.val (.lit (.int .i64 0)))), none, 1⟩])
 (.seq (.seq (.reg 0 [⟨(some 6), (.mv (.tmp 0)), none, 0⟩, ⟨(some 7), (.call false (.val (.lit (.func (.func 45) #[] #[]))) [(.tmp 6)]), none, 0⟩, ⟨(some 5), (.mv (.tmp 7)), none, 0⟩])
 (.seq (.reg 0 [⟨(some 8), (.mv (.tmp 5)), none, 0⟩, ⟨(some 9), (.bin .neq (.tmp 8) (.val (.lit (.int .i64 0)))), none, 0⟩])
 (.cond (.tmp 9) (.seq (.reg 0 [⟨(some 10), (.mv (.tmp 5)), none, 0⟩, ⟨(some 4), (.mv (.tmp 10)), none, 0⟩])
 .ret) .skip)))
 (.seq (.seq (.reg 0 [⟨(some 11), (.iaddrA 2 1 (.tmp 3) (.val (.lit (.int .i64 0)))), none, 0⟩, ⟨(some 12), (.load 1 false (.tmp 11)), none, 0⟩, ⟨(some 13), (.call false (.val (.lit (.func (.func 80) #[] #[]))) [(.tmp 12), (.val (.lit (.int .i64 0))), (.val (.lit (.int .i64 1000000)))]), none, 0⟩, ⟨(some 14), (.not (.tmp 13)), none, 0⟩, ⟨(some 15), (.mv (.tmp 14)), none, 0⟩, ⟨(some 16), (.iaddrA 2 1 (.tmp 3) (.val (.lit (.int .i64 1)))), (some (15, false)), 0⟩, ⟨(some 17), (.load 1 false (.tmp 16)), (some (15, false)), 0⟩, ⟨(some 18), (.call false (.val (.lit (.func (.func 80) #[] #[]))) [(.tmp 17), (.val (.lit (.int .i64 0))), (.val (.lit (.int .i64 1000000)))]), (some (15, false)), 0⟩, ⟨(some 19), (.not (.tmp 18)), (some (15, false)), 0⟩, ⟨(some 20), (.pick (.tmp 15) (.val (.lit (.bool true))) (.tmp 19)), none, 0⟩])
 (.cond (.tmp 20) (.seq (.reg 0 [⟨(some 4), (.mv (.val (.lit (.int .i64 2)))), none, 0⟩])
 .ret) .skip))
 (.seq (.reg 0 [⟨(some 4), (.mv (.val (.lit (.int .i64 0)))), none, 0⟩])
 .ret))))
theorem e65 : envOf Try.prog muts 65 = some (21, c65, [(Go.Abs.ARes.tmp 4)]) := by kernel_rfl
def c66l0 : ACode :=
 (.seq (.reg 0 [⟨(some 18), (.bin .lss (.tmp 17) (.tmp 16)), none, 0⟩])
 (.seq (.cond (.tmp 18) .skip (.exit 0))
 (.seq (.block 1 (.seq (.reg 1 [⟨(some 19), (.mv (.tmp 17)), none, 0⟩, ⟨(some 20), (.iaddrS 3 (.tmp 15) (.tmp 17)), none, 0⟩, ⟨(some 21), (.load 3 true (.tmp 20)), none, 0⟩, ⟨(some 9), (.alloc [(.lit (.string ⟨#[]⟩)), (.lit (.int .i64 0)), (.lit (.int .i64 0))]), none, 0⟩, ⟨(some 8), (.mv (.tmp 19)), none, 1⟩, ⟨none, (.store 3 (.tmp 9) (.tmp 21)), none, 1⟩])
 (.seq (.seq (.reg 0 [⟨(some 22), (.faddr 1 (.tmp 9)), none, 0⟩, ⟨(some 23), (.load 1 false (.tmp 22)), none, 0⟩, ⟨(some 24), (.mv (.tmp 1)), none, 0⟩, ⟨(some 25), (.bin .geq (.tmp 23) (.tmp 24)), none, 0⟩])
 (.cond (.tmp 25) (.exit 1) .skip))
 (.seq (.reg 1 [⟨(some 26), (.mv (.tmp 0)), none, 0⟩, ⟨(some 27), (.faddr 1 (.tmp 9)), none, 0⟩, ⟨(some 28), (.load 1 false (.tmp 27)), none, 0⟩, ⟨(some 29), (.mv (.tmp 2)), none, 0⟩, ⟨(some 30), (.call false (.val (.lit (.func (.func 66) #[] #[]))) [(.tmp 26), (.tmp 28), (.tmp 29)]), none, 0⟩, ⟨(some 10), (.alloc [(.sl true 0 []), (.lit (.int .i64 0)), (.lit (.bool false))]), none, 0⟩, ⟨none, (.store 3 (.tmp 10) (.tmp 30)), none, 1⟩])
 (.seq (.reg 2 [⟨(some 31), (.mv (.tmp 8)), none, 0⟩, ⟨(some 32), (.bslice 1 1 [(.lit (.int .i64 0))] [(0, (.tmp 31))]), none, 0⟩, ⟨(some 33), (.faddr 0 (.tmp 10)), none, 1⟩, ⟨(some 34), (.load 1 false (.tmp 33)), none, 1⟩, ⟨(some 35), (.app 1 8 (.tmp 32) (.tmp 34)), none, 1⟩, ⟨(some 36), (.faddr 0 (.tmp 10)), none, 2⟩, ⟨none, (.store 1 (.tmp 36) (.tmp 35)), none, 2⟩])
 (.seq (.dreg 0 [(0, ⟨(some 37), (.faddr 1 (.tmp 10)), none, 0⟩), (1, ⟨(some 38), (.load 1 false (.tmp 37)), none, 0⟩), (2, ⟨(some 39), (.load 3 true (.tmp 9)), none, 0⟩), (3, ⟨(some 40), (.mv (.tmp 1)), none, 0⟩), (4, ⟨(some 41), (.call false (.val (.lit (.func (.func 84) #[] #[]))) [(.tmp 39), (.tmp 40)]), none, 0⟩), (5, ⟨(some 42), (.bin .add (.tmp 38) (.tmp 41)), none, 0⟩), (6, ⟨(some 43), (.faddr 1 (.tmp 10)), none, 0⟩), (7, ⟨none, (.store 1 (.tmp 43) (.tmp 42)), none, 0⟩)] [[], [0], [], [], [2, 3], [1, 4, 0, 2, 3], [0, 1, 2, 3, 4, 5], [6, 5, 4, 0, 1, 2, 3]])
 (.seq (.reg 0 [⟨(some 44), (.load 3 true (.tmp 10)), none, 0⟩, ⟨(some 45), (.load 3 true (.tmp 7)), none, 0⟩, ⟨(some 46), (.call false (.val (.lit (.func (.func 98) #[] #[]))) [(.tmp 44), (.tmp 45)]), none, 0⟩])
 (.cond (.tmp 46) (.reg 0 [⟨(some 47), (.load 3 true (.tmp 10)), none, 0⟩, ⟨none, (.store 3 (.tmp 7) (.tmp 47)), none, 0⟩]) .skip))))))))
 (.reg 0 [⟨(some 48), (.bin .add (.tmp 17) (.val (.lit (.int .i64 1)))), none, 0⟩, ⟨(some 17), (.mv (.tmp 48)), none, 0⟩]))))
def c66 : ACode :=
 (.seq (.reg 1 [⟨(some 6), (.alloc [(.sl true 0 []), (.lit (.int .i64 0)), (.lit (.bool false))]), none, 0⟩])
 (.seq (.seq (.reg 0 [⟨(some 11), (.mv (.tmp 1)), none, 0⟩, ⟨(some 12), (.mv (.tmp 2)), none, 0⟩, ⟨(some 13), (.bin .leq (.tmp 11) (.tmp 12)), none, 0⟩])
 (.cond (.tmp 13) (.seq (.reg 0 [⟨(some 14), (.build [(.sl true 0 []), (.lit (.int .i64 0)), (.lit (.bool false))] [(2, (1, (.val (.lit (.bool true)))))]), none, 0⟩, ⟨none, (.store 3 (.tmp 6) (.tmp 14)), none, 0⟩])
 .ret) .skip))
 (.seq (.reg 1 [⟨(some 7), (.alloc [(.sl true 0 []), (.lit (.int .i64 0)), (.lit (.bool false))]), none, 0⟩])
 (.seq (.seq (.reg 0 [⟨(some 15), (.mv (.tmp 0)), none, 0⟩, ⟨(some 16), (.len (.tmp 15)), none, 0⟩, ⟨(some 17), (.mv (.val (.lit (.int .i64 0)))), none, 0⟩])
 (.block 0 (.loop c66l0)))
 (.seq (.reg 0 [⟨(some 49), (.load 3 true (.tmp 7)), none, 0⟩, ⟨none, (.store 3 (.tmp 6) (.tmp 49)), none, 0⟩])
 .ret)))))
theorem e66 : envOf Try.prog muts 66 = some (50, c66, [(Go.Abs.ARes.cell 3 true 6)]) := by kernel_rfl
def c67 : ACode :=
 (.seq (.reg 0 [⟨(some 4), (.mv (.val (.lit (.int .i64 0)))), none, 0⟩])
 (.seq (.reg 0 [⟨(some 7), (.mv (.tmp 0)), none, 0⟩, ⟨(some 8), (.call false (.val (.lit (.func (.func 99) #[] #[]))) [(.tmp 7)]), none, 0⟩, ⟨(some 5), (.mv (.tmp 8)), none, 0⟩])
 (.seq (.reg 0 [⟨(some 9), (.mv (.tmp 1)), none, 0⟩, ⟨(some 10), (.call false (.val (.lit (.func (.func 99) #[] #[]))) [(.tmp 9)]), none, 0⟩, ⟨(some 6), (.mv (.tmp 10)), none, 0⟩])
 (.seq (.seq (.reg 0 [⟨(some 11), (.mv (.tmp 5)), none, 0⟩])
 (.cond (.tmp 11) (.seq (.seq (.reg 0 [⟨(some 12), (.mv (.tmp 6)), none, 0⟩])
 (.cond (.tmp 12) (.seq (.reg 0 [⟨(some 4), (.mv (.val (.lit (.int .i64 0)))), none, 0⟩])
 .ret) .skip))
 (.seq (.reg 0 [⟨(some 4), (.mv (.val (.lit (.int .i64 (-1))))), none, 0⟩])
 .ret)) .skip))
 (.seq (.seq (.reg 0 [⟨(some 13), (.mv (.tmp 6)), none, 0⟩])
 (.cond (.tmp 13) (.seq (.reg 0 [⟨(some 4), (.mv (.val (.lit (.int .i64 1)))), none, 0⟩])
 .ret) .skip))
 (.seq (.seq (.reg 0 [⟨(some 14), (.mv (.tmp 0)), none, 0⟩, ⟨(some 15), (.mv (.tmp 1)), none, 0⟩, ⟨(some 16), (.bin .lss (.tmp 14) (.tmp 15)), none, 0⟩])
 (.cond (.tmp 16) (.seq (.reg 0 [⟨(some 4), (.mv (.val (.lit (.int .i64 (-1))))), none, 0⟩])
 .ret) .skip))
 (.seq (.seq (.reg 0 [⟨(some 17), (.mv (.tmp 0)), none, 0⟩, ⟨(some 18), (.mv (.tmp 1)), none, 0⟩, ⟨(some 19), (.bin .gtr (.tmp 17) (.tmp 18)), none, 0⟩])
 (.cond (.tmp 19) (.seq (.reg 0 [⟨(some 4), (.mv (.val (.lit (.int .i64 1)))), none, 0⟩])
 .ret) .skip))
 (.seq (.reg 0 [⟨(some 4), (.mv (.val (.lit (.int .i64 0)))), none, 0⟩])
 .ret))))))))
theorem e67 : envOf Try.prog muts 67 = some (20, c67, [(Go.Abs.ARes.tmp 4)]) := by kernel_rfl
def c80 : ACode :=
 (.seq (.reg 0 [⟨(some 6), (.mv (.val (.lit (.bool false)))), none, 0⟩])
 (.seq (.reg 0 [⟨(some 7), (.mv (.tmp 0)), none, 0⟩, ⟨(some 8), (.mv (.tmp 1)), none, 0⟩, ⟨(some 9), (.bin .geq (.tmp 7) (.tmp 8)), none, 0⟩, ⟨(some 10), (.mv (.tmp 9)), none, 0⟩, ⟨(some 11), (.mv (.tmp 0)), (some (10, true)), 0⟩, ⟨(some 12), (.mv (.tmp 2)), (some (10, true)), 0⟩, ⟨(some 13), (.bin .leq (.tmp 11) (.tmp 12)), (some (10, true)), 0⟩, ⟨(some 14), (.pick (.tmp 10) (.tmp 13) (.val (.lit (.bool false)))), none, 0⟩, ⟨(some 6), (.mv (.tmp 14)), none, 0⟩])
 .ret))
theorem e80 : envOf Try.prog muts 80 = some (15, c80, [(Go.Abs.ARes.tmp 6)]) := by kernel_rfl
def c84 : ACode :=
 (.seq (.reg 1 [⟨(some 2), (.box 3 (.tmp 0)), none, 0⟩, ⟨(some 4), (.mv (.val (.lit (.int .i64 0)))), none, 1⟩])
 (.seq (.reg 0 [⟨(some 5), (.mv (.tmp 1)), none, 0⟩, ⟨(some 6), (.faddr 2 (.tmp 2)), none, 0⟩, ⟨(some 7), (.load 1 false (.tmp 6)), none, 0⟩, ⟨(some 8), (.bin .add (.tmp 5) (.tmp 7)), none, 0⟩, ⟨(some 9), (.bin .sub (.tmp 8) (.val (.lit (.int .i64 1)))), none, 0⟩, ⟨(some 10), (.faddr 2 (.tmp 2)), none, 0⟩, ⟨(some 11), (.load 1 false (.tmp 10)), none, 0⟩, ⟨(some 12), (.bin .quo (.tmp 9) (.tmp 11)), none, 0⟩, ⟨(some 4), (.mv (.tmp 12)), none, 0⟩])
 .ret))
theorem e84 : envOf Try.prog muts 84 = some (13, c84, [(Go.Abs.ARes.tmp 4)]) := by kernel_rfl
def c86l0 : ACode :=
 (.seq (.reg 0 [⟨(some 10), (.bin .lss (.tmp 9) (.tmp 8)), none, 0⟩])
 (.seq (.cond (.tmp 10) .skip (.exit 0))
 (.seq (.block 1 (.seq (.reg 0 [⟨(some 11), (.mv (.tmp 9)), none, 0⟩, ⟨(some 12), (.iaddrS 1 (.tmp 7) (.tmp 9)), none, 0⟩, ⟨(some 13), (.load 1 false (.tmp 12)), none, 0⟩, ⟨(some 3), (.mv (.tmp 11)), none, 0⟩, ⟨(some 4), (.mv (.tmp 13)), none, 0⟩])
 (.seq (.reg 0 [⟨(some 14), (.mv (.tmp 4)), none, 0⟩, ⟨(some 15), (.bin .geq (.tmp 14) (.val (.lit (.int .u8 97)))), none, 0⟩, ⟨(some 16), (.mv (.tmp 15)), none, 0⟩, ⟨(some 17), (.mv (.tmp 4)), (some (16, true)), 0⟩, ⟨(some 18), (.bin .leq (.tmp 17) (.val (.lit (.int .u8 122)))), (some (16, true)), 0⟩, ⟨(some 19), (.pick (.tmp 16) (.tmp 18) (.val (.lit (.bool false)))), none, 0⟩, ⟨(some 20), (.mv (.tmp 19)), none, 0⟩, ⟨(some 21), (.mv (.tmp 4)), (some (20, false)), 0⟩, ⟨(some 22), (.bin .geq (.tmp 21) (.val (.lit (.int .u8 65)))), (some (20, false)), 0⟩, ⟨(some 23), (.mv (.tmp 22)), (some (20, false)), 0⟩, ⟨(some 24), (.mv (.tmp 4)), (some (23, true)), 0⟩, ⟨(some 25), (.bin .leq (.tmp 24) (.val (.lit (.int .u8 90)))), (some (23, true)), 0⟩, ⟨(some 26), (.pick (.tmp 23) (.tmp 25) (.val (.lit (.bool false)))), (some (20, false)), 0⟩, ⟨(some 27), (.pick (.tmp 20) (.val (.lit (.bool true))) (.tmp 26)), none, 0⟩, ⟨(some 5), (.mv (.tmp 27)), none, 0⟩])
 (.seq (.reg 0 [⟨(some 28), (.mv (.tmp 5)), none, 0⟩, ⟨(some 29), (.not (.tmp 28)), none, 0⟩, ⟨(some 30), (.mv (.tmp 29)), none, 0⟩, ⟨(some 31), (.mv (.tmp 3)), (some (30, true)), 0⟩, ⟨(some 32), (.bin .eql (.tmp 31) (.val (.lit (.int .i64 0)))), (some (30, true)), 0⟩, ⟨(some 33), (.mv (.tmp 32)), (some (30, true)), 0⟩, ⟨(some 34), (.mv (.tmp 4)), (some (33, false)), 0⟩, ⟨(some 35), (.bin .neq (.tmp 34) (.val (.lit (.int .u8 45)))), (some (33, false)), 0⟩, ⟨(some 36), (.mv (.tmp 35)), (some (33, false)), 0⟩, ⟨(some 37), (.mv (.tmp 4)), (some (36, true)), 0⟩, ⟨(some 38), (.bin .lss (.tmp 37) (.val (.lit (.int .u8 48)))), (some (36, true)), 0⟩, ⟨(some 39), (.mv (.tmp 38)), (some (36, true)), 0⟩, ⟨(some 40), (.mv (.tmp 4)), (some (39, false)), 0⟩, ⟨(some 41), (.bin .gtr (.tmp 40) (.val (.lit (.int .u8 57)))), (some (39, false)), 0⟩, ⟨(some 42), (.pick (.tmp 39) (.val (.lit (.bool true))) (.tmp 41)), (some (36, true)), 0⟩, ⟨(some 43), (.pick (.tmp 36) (.tmp 42) (.val (.lit (.bool false)))), (some (33, false)), 0⟩, ⟨(some 44), (.pick (.tmp 33) (.val (.lit (.bool true))) (.tmp 43)), (some (30, true)), 0⟩, ⟨(some 45), (.pick (.tmp 30) (.tmp 44) (.val (.lit (.bool false)))), none, 0⟩])
 (.cond (.tmp 45) (.seq (.reg 0 [⟨(some 2), (.mv (.val (.lit (.bool false)))), none, 0⟩])
 .ret) .skip)))))
 (.reg 0 [⟨(some 46), (.bin .add (.tmp 9) (.val (.lit (.int .i64 1)))), none, 0⟩, ⟨(some 9), (.mv (.tmp 46)), none, 0⟩]))))
def c86 : ACode :=
 (.seq (.reg 0 [⟨(some 2), (.mv (.val (.lit (.bool false)))), none, 0⟩])
 (.seq (.seq (.reg 0 [⟨(some 6), (.mv (.tmp 0)), none, 0⟩, ⟨(some 7), (.cvB (.tmp 6)), none, 0⟩, ⟨(some 8), (.len (.tmp 7)), none, 0⟩, ⟨(some 9), (.mv (.val (.lit (.int .i64 0)))), none, 0⟩])
 (.block 0 (.loop c86l0)))
 (.seq (.reg 0 [⟨(some 47), (.mv (.tmp 0)), none, 0⟩, ⟨(some 48), (.bin .neq (.tmp 47) (.val (.lit (.string ⟨#[]⟩)))), none, 0⟩, ⟨(some 49), (.mv (.tmp 48)), none, 0⟩, ⟨(some 50), (.mv (.tmp 0)), (some (49, true)), 0⟩, ⟨(some 51), (.lenS (.tmp 50)), (some (49, true)), 0⟩, ⟨(some 52), (.bin .leq (.tmp 51) (.val (.lit (.int .i64 12)))), (some (49, true)), 0⟩, ⟨(some 53), (.pick (.tmp 49) (.tmp 52) (.val (.lit (.bool false)))), none, 0⟩, ⟨(some 2), (.mv (.tmp 53)), none, 0⟩])
 .ret)))
theorem e86 : envOf Try.prog muts 86 = some (54, c86, [(Go.Abs.ARes.tmp 2)]) := by kernel_rfl
def c87 : ACode :=
 (.seq (.reg 0 [⟨(some 4), (.mv (.val (.lit (.bool false)))), none, 0⟩])
 (.seq (.seq (.reg 0 [⟨(some 5), (.mv (.tmp 0)), none, 0⟩, ⟨(some 6), (.mv (.tmp 1)), none, 0⟩, ⟨(some 7), (.mlook .str false (.bool false) (.tmp 5) (.tmp 6)), none, 0⟩])
 (.cond (.tmp 7) (.seq (.reg 0 [⟨(some 4), (.mv (.val (.lit (.bool true)))), none, 0⟩])
 .ret) .skip))
 (.seq (.reg 0 [⟨(some 8), (.mv (.tmp 0)), none, 0⟩, ⟨(some 9), (.mv (.tmp 1)), none, 0⟩, ⟨none, (.mset .str (.tmp 8) (.tmp 9) (.val (.lit (.bool true)))), none, 0⟩])
 (.seq (.reg 0 [⟨(some 4), (.mv (.val (.lit (.bool false)))), none, 0⟩])
 .ret))))
theorem e87 : envOf Try.prog muts 87 = some (10, c87, [(Go.Abs.ARes.tmp 4)]) := by kernel_rfl
def c98 : ACode :=
 (.seq (.reg 2 [⟨(some 2), (.box 3 (.tmp 0)), none, 0⟩, ⟨(some 3), (.box 3 (.tmp 1)), none, 1⟩, ⟨(some 4), (.mv (.val (.lit (.bool false)))), none, 2⟩])
 (.seq (.block 0 (.seq (.reg 0 [⟨(some 6), (.faddr 2 (.tmp 2)), none, 0⟩, ⟨(some 7), (.load 1 false (.tmp 6)), none, 0⟩, ⟨(some 8), (.not (.tmp 7)), none, 0⟩, ⟨(some 9), (.mv (.tmp 8)), none, 0⟩, ⟨(some 10), (.faddr 2 (.tmp 3)), (some (9, false)), 0⟩, ⟨(some 11), (.load 1 false (.tmp 10)), (some (9, false)), 0⟩, ⟨(some 12), (.not (.tmp 11)), (some (9, false)), 0⟩, ⟨(some 13), (.pick (.tmp 9) (.val (.lit (.bool true))) (.tmp 12)), none, 0⟩, ⟨(some 5), (.mv (.tmp 13)), none, 0⟩])
 (.cond (.tmp 5) (.seq (.reg 0 [⟨(some 14), (.faddr 2 (.tmp 2)), none, 0⟩, ⟨(some 15), (.load 1 false (.tmp 14)), none, 0⟩, ⟨(some 4), (.mv (.tmp 15)), none, 0⟩])
 .ret) (.seq (.reg 0 [⟨(some 17), (.faddr 1 (.tmp 2)), none, 0⟩, ⟨(some 18), (.load 1 false (.tmp 17)), none, 0⟩, ⟨(some 19), (.faddr 1 (.tmp 3)), none, 0⟩, ⟨(some 20), (.load 1 false (.tmp 19)), none, 0⟩, ⟨(some 21), (.bin .neq (.tmp 18) (.tmp 20)), none, 0⟩, ⟨(some 16), (.mv (.tmp 21)), none, 0⟩])
 (.cond (.tmp 16) (.seq (.reg 0 [⟨(some 22), (.faddr 1 (.tmp 2)), none, 0⟩, ⟨(some 23), (.load 1 false (.tmp 22)), none, 0⟩, ⟨(some 24), (.faddr 1 (.tmp 3)), none, 0⟩, ⟨(some 25), (.load 1 false (.tmp 24)), none, 0⟩, ⟨(some 26), (.bin .lss (.tmp 23) (.tmp 25)), none, 0⟩, ⟨(some 4), (.mv (.tmp 26)), none, 0⟩])
 .ret) (.seq (.reg 0 [⟨(some 28), (.faddr 0 (.tmp 2)), none, 0⟩, ⟨(some 29), (.load 1 false (.tmp 28)), none, 0⟩, ⟨(some 30), (.len (.tmp 29)), none, 0⟩, ⟨(some 31), (.faddr 0 (.tmp 3)), none, 0⟩, ⟨(some 32), (.load 1 false (.tmp 31)), none, 0⟩, ⟨(some 33), (.len (.tmp 32)), none, 0⟩, ⟨(some 34), (.bin .neq (.tmp 30) (.tmp 33)), none, 0⟩, ⟨(some 27), (.mv (.tmp 34)), none, 0⟩])
 (.cond (.tmp 27) (.seq (.reg 0 [⟨(some 35), (.faddr 0 (.tmp 2)), none, 0⟩, ⟨(some 36), (.load 1 false (.tmp 35)), none, 0⟩, ⟨(some 37), (.len (.tmp 36)), none, 0⟩, ⟨(some 38), (.faddr 0 (.tmp 3)), none, 0⟩, ⟨(some 39), (.load 1 false (.tmp 38)), none, 0⟩, ⟨(some 40), (.len (.tmp 39)), none, 0⟩, ⟨(some 41), (.bin .lss (.tmp 37) (.tmp 40)), none, 0⟩, ⟨(some 4), (.mv (.tmp 41)), none, 0⟩])
 .ret) .skip)))))))
 (.seq (.reg 0 [⟨(some 42), (.faddr 0 (.tmp 2)), none, 0⟩, ⟨(some 43), (.load 1 false (.tmp 42)), none, 0⟩, ⟨(some 44), (.faddr 0 (.tmp 3)), none, 0⟩, ⟨(some 45), (.load 1 false (.tmp 44)), none, 0⟩, ⟨(some 46), (.call false (.val (.lit (.func (.func 112) #[] #[]))) [(.tmp 43), (.tmp 45)]), none, 0⟩, ⟨(some 47), (.bin .lss (.tmp 46) (.val (.lit (.int .i64 0)))), none, 0⟩, ⟨(some 4), (.mv (.tmp 47)), none, 0⟩])
 .ret)))
theorem e98 : envOf Try.prog muts 98 = some (48, c98, [(Go.Abs.ARes.tmp 4)]) := by kernel_rfl
def c99 : ACode :=
 (.seq (.reg 0 [⟨(some 2), (.mv (.val (.lit (.bool false)))), none, 0⟩])
 (.seq (.reg 0 [⟨(some 3), (.mv (.tmp 0)), none, 0⟩, ⟨(some 4), (.mv (.tmp 0)), none, 0⟩, ⟨(some 5), (.bin .neq (.tmp 3) (.tmp 4)), none, 0⟩, ⟨(some 2), (.mv (.tmp 5)), none, 0⟩])
 .ret))
theorem e99 : envOf Try.prog muts 99 = some (6, c99, [(Go.Abs.ARes.tmp 2)]) := by kernel_rfl
def c112l0 : ACode :=
 (.seq (.reg 0 [⟨(some 12), (.bin .lss (.tmp 11) (.tmp 10)), none, 0⟩])
 (.seq (.cond (.tmp 12) .skip (.exit 0))
 (.seq (.block 1 (.seq (.reg 0 [⟨(some 13), (.mv (.tmp 11)), none, 0⟩, ⟨(some 14), (.iaddrS 1 (.tmp 9) (.tmp 11)), none, 0⟩, ⟨(some 15), (.load 1 false (.tmp 14)), none, 0⟩, ⟨(some 5), (.mv (.tmp 13)), none, 0⟩, ⟨(some 6), (.mv (.tmp 15)), none, 0⟩])
 (.seq (.seq (.reg 0 [⟨(some 16), (.mv (.tmp 5)), none, 0⟩, ⟨(some 17), (.mv (.tmp 1)), none, 0⟩, ⟨(some 18), (.len (.tmp 17)), none, 0⟩, ⟨(some 19), (.bin .geq (.tmp 16) (.tmp 18)), none, 0⟩])
 (.cond (.tmp 19) (.seq (.reg 0 [⟨(some 4), (.mv (.val (.lit (.int .i64 1)))), none, 0⟩])
 .ret) .skip))
 (.seq (.reg 0 [⟨(some 20), (.mv (.tmp 1)), none, 0⟩, ⟨(some 21), (.mv (.tmp 5)), none, 0⟩, ⟨(some 22), (.iaddrS 1 (.tmp 20) (.tmp 21)), none, 0⟩, ⟨(some 23), (.load 1 false (.tmp 22)), none, 0⟩, ⟨(some 7), (.mv (.tmp 23)), none, 0⟩])
 (.seq (.reg 0 [⟨(some 24), (.mv (.tmp 6)), none, 0⟩, ⟨(some 25), (.mv (.tmp 7)), none, 0⟩, ⟨(some 26), (.call false (.val (.lit (.func (.func 67) #[] #[]))) [(.tmp 24), (.tmp 25)]), none, 0⟩, ⟨(some 8), (.mv (.tmp 26)), none, 0⟩])
 (.seq (.reg 0 [⟨(some 27), (.mv (.tmp 8)), none, 0⟩, ⟨(some 28), (.bin .neq (.tmp 27) (.val (.lit (.int .i64 0)))), none, 0⟩])
 (.cond (.tmp 28) (.seq (.reg 0 [⟨(some 29), (.mv (.tmp 8)), none, 0⟩, ⟨(some 4), (.mv (.tmp 29)), none, 0⟩])
 .ret) .skip)))))))
 (.reg 0 [⟨(some 30), (.bin .add (.tmp 11) (.val (.lit (.int .i64 1)))), none, 0⟩, ⟨(some 11), (.mv (.tmp 30)), none, 0⟩]))))
def c112 : ACode :=
 (.seq (.reg 0 [⟨(some 4), (.mv (.val (.lit (.int .i64 0)))), none, 0⟩])
 (.seq (.seq (.reg 0 [⟨(some 9), (.mv (.tmp 0)), none, 0⟩, ⟨(some 10), (.len (.tmp 9)), none, 0⟩, ⟨(some 11), (.mv (.val (.lit (.int .i64 0)))), none, 0⟩])
 (.block 0 (.loop c112l0)))
 (.seq (.seq (.reg 0 [⟨(some 31), (.mv (.tmp 0)), none, 0⟩, ⟨(some 32), (.len (.tmp 31)), none, 0⟩, ⟨(some 33), (.mv (.tmp 1)), none, 0⟩, ⟨(some 34), (.len (.tmp 33)), none, 0⟩, ⟨(some 35), (.bin .lss (.tmp 32) (.tmp 34)), none, 0⟩])
 (.cond (.tmp 35) (.seq (.reg 0 [⟨(some 4), (.mv (.val (.lit (.int .i64 (-1))))), none, 0⟩])
 .ret) .skip))
 (.seq (.reg 0 [⟨(some 4), (.mv (.val (.lit (.int .i64 0)))), none, 0⟩])
 .ret))))
theorem e112 : envOf Try.prog muts 112 = some (36, c112, [(Go.Abs.ARes.tmp 4)]) := by kernel_rfl
end Go.Abs
