import Derived.Test.YtpfmamngjefohaaAbs21
import Derived.KernelRfl
import Derived.Test.YtpfmamngjefohaaProg
set_option linter.all false
set_option linter.unusedVariables false
set_option linter.unusedSimpArgs false
set_option linter.unusedSectionVars false
/- The code of the functions that are walked, as the machine of these texts has it. -/
namespace Go.Abs
open Go.Proofs
abbrev muts : List FuncId := []
def c3 : ACode :=
 (.seq (.reg 2 [⟨(some 4), (.box 2 (.tmp 1)), none, 0⟩, ⟨(some 5), (.box 2 (.tmp 2)), none, 1⟩, ⟨(some 6), (.mv (.val (.lit (.bool false)))), none, 2⟩])
 (.seq (.seq (.reg 0 [⟨(some 16), (.call false (.val (.lit (.func (.func 13) #[] #[]))) []), none, 0⟩, ⟨(some 17), (.not (.tmp 16)), none, 0⟩])
 (.cond (.tmp 17) (.seq (.reg 0 [⟨(some 6), (.mv (.val (.lit (.bool false)))), none, 0⟩])
 .ret) .skip))
 (.seq (.seq (.reg 0 [⟨(some 18), (.mv (.tmp 0)), none, 0⟩, ⟨(some 19), (.len (.tmp 18)), none, 0⟩, ⟨(some 20), (.bin .gtr (.tmp 19) (.val (.lit (.int .i64 6)))), none, 0⟩, ⟨(some 21), (.mv (.tmp 20)), none, 0⟩, ⟨(some 22), (.mv (.tmp 0)), (some (21, false)), 0⟩, ⟨(some 23), (.call false (.val (.lit (.func (.func 14) #[] #[]))) [(.tmp 22)]), (some (21, false)), 0⟩, ⟨(some 24), (.not (.tmp 23)), (some (21, false)), 0⟩, ⟨(some 25), (.pick (.tmp 21) (.val (.lit (.bool true))) (.tmp 24)), none, 0⟩, ⟨(some 26), (.mv (.tmp 25)), none, 0⟩, ⟨(some 27), (.iaddrA 2 1 (.tmp 5) (.val (.lit (.int .i64 0)))), (some (26, false)), 0⟩, ⟨(some 28), (.load 1 false (.tmp 27)), (some (26, false)), 0⟩, ⟨(some 29), (.call false (.val (.lit (.func (.func 15) #[] #[]))) [(.tmp 28), (.val (.lit (.int .i64 0))), (.val (.lit (.int .i64 1000)))]), (some (26, false)), 0⟩, ⟨(some 30), (.not (.tmp 29)), (some (26, false)), 0⟩, ⟨(some 31), (.pick (.tmp 26) (.val (.lit (.bool true))) (.tmp 30)), none, 0⟩, ⟨(some 32), (.mv (.tmp 31)), none, 0⟩, ⟨(some 33), (.iaddrA 2 1 (.tmp 5) (.val (.lit (.int .i64 1)))), (some (32, false)), 0⟩, ⟨(some 34), (.load 1 false (.tmp 33)), (some (32, false)), 0⟩, ⟨(some 35), (.call false (.val (.lit (.func (.func 15) #[] #[]))) [(.tmp 34), (.val (.lit (.int .i64 0))), (.val (.lit (.int .i64 1000)))]), (some (32, false)), 0⟩, ⟨(some 36), (.not (.tmp 35)), (some (32, false)), 0⟩, ⟨(some 37), (.pick (.tmp 32) (.val (.lit (.bool true))) (.tmp 36)), none, 0⟩, ⟨(some 38), (.mv (.tmp 37)), none, 0⟩, ⟨(some 39), (.iaddrA 2 1 (.tmp 4) (.val (.lit (.int .i64 0)))), (some (38, false)), 0⟩, ⟨(some 40), (.load 1 false (.tmp 39)), (some (38, false)), 0⟩, ⟨(some 41), (.call false (.val (.lit (.func (.func 15) #[] #[]))) [(.tmp 40), (.val (.lit (.int .i64 0))), (.val (.lit (.int .i64 1000000)))]), (some (38, false)), 0⟩, ⟨(some 42), (.not (.tmp 41)), (some (38, false)), 0⟩, ⟨(some 43), (.pick (.tmp 38) (.val (.lit (.bool true))) (.tmp 42)), none, 0⟩, ⟨(some 44), (.mv (.tmp 43)), none, 0⟩, ⟨(some 45), (.iaddrA 2 1 (.tmp 4) (.val (.lit (.int .i64 1)))), (some (44, false)), 0⟩, ⟨(some 46), (.load 1 false (.tmp 45)), (some (44, false)), 0⟩, ⟨(some 47), (.call false (.val (.lit (.func (.func 15) #[] #[]))) [(.tmp 46), (.val (.lit (.int .i64 0))), (.val (.lit (.int .i64 1000000)))]), (some (44, false)), 0⟩, ⟨(some 48), (.not (.tmp 47)), (some (44, false)), 0⟩, ⟨(some 49), (.pick (.tmp 44) (.val (.lit (.bool true))) (.tmp 48)), none, 0⟩])
 (.cond (.tmp 49) (.seq (.reg 0 [⟨(some 6), (.mv (.val (.lit (.bool true)))), none, 0⟩])
 .ret) .skip))
 (.seq (.dreg 0 [(0, ⟨(some 51), (.mv (.tmp 0)), none, 0⟩), (1, ⟨(some 52), (.call false (.val (.lit (.func (.func 17) #[] #[]))) [(.tmp 51)]), none, 0⟩), (2, ⟨(some 53), (.load 2 true (.tmp 4)), none, 0⟩), (3, ⟨(some 54), (.call false (.val (.lit (.func (.func 16) #[] #[]))) [(.tmp 52), (.tmp 53)]), none, 0⟩), (4, ⟨(some 50), (.mv (.tmp 54)), none, 0⟩), (5, ⟨(some 55), (.ext (.tmp 50) 0), none, 0⟩), (6, ⟨(some 56), (.ext (.tmp 50) 1), none, 0⟩), (7, ⟨(some 57), (.ext (.tmp 50) 2), none, 0⟩), (8, ⟨(some 7), (.mv (.tmp 55)), none, 0⟩), (9, ⟨(some 8), (.mv (.tmp 56)), none, 0⟩), (10, ⟨(some 9), (.mv (.tmp 57)), none, 0⟩)] [[], [0], [], [1, 2, 0], [3, 1, 2, 0], [4, 3, 1, 2, 0], [4, 3, 1, 2, 0], [4, 3, 1, 2, 0], [5, 3, 0, 1, 2, 4], [6, 8, 0, 1, 2, 3, 4, 5], [7, 9, 0, 1, 2, 3, 4, 5, 6, 8]])
 (.seq (.seq (.reg 0 [⟨(some 58), (.mv (.tmp 9)), none, 0⟩, ⟨(some 59), (.bin .neq (.tmp 58) (.val (.lit (.int .i64 0)))), none, 0⟩, ⟨(some 60), (.mv (.tmp 59)), none, 0⟩, ⟨(some 61), (.mv (.tmp 9)), (some (60, true)), 0⟩, ⟨(some 62), (.bin .neq (.tmp 61) (.val (.lit (.int .i64 12)))), (some (60, true)), 0⟩, ⟨(some 63), (.pick (.tmp 60) (.tmp 62) (.val (.lit (.bool false)))), none, 0⟩])
 (.cond (.tmp 63) (.seq (.reg 0 [⟨(some 6), (.mv (.val (.lit (.bool true)))), none, 0⟩])
 .ret) .skip))
 (.seq (.dreg 0 [(0, ⟨(some 65), (.mv (.tmp 0)), none, 0⟩), (1, ⟨(some 66), (.call false (.val (.lit (.func (.func 17) #[] #[]))) [(.tmp 65)]), none, 0⟩), (2, ⟨(some 67), (.iaddrA 2 1 (.tmp 4) (.val (.lit (.int .i64 0)))), none, 0⟩), (3, ⟨(some 68), (.load 1 false (.tmp 67)), none, 0⟩), (4, ⟨(some 69), (.iaddrA 2 1 (.tmp 5) (.val (.lit (.int .i64 0)))), none, 0⟩), (5, ⟨(some 70), (.load 1 false (.tmp 69)), none, 0⟩), (6, ⟨(some 71), (.bin .add (.tmp 68) (.tmp 70)), none, 0⟩), (7, ⟨(some 72), (.minmax false [(.val (.lit (.int .i64 1000000))), (.tmp 71)]), none, 0⟩), (8, ⟨(some 73), (.iaddrA 2 1 (.tmp 4) (.val (.lit (.int .i64 1)))), none, 0⟩), (9, ⟨(some 74), (.load 1 false (.tmp 73)), none, 0⟩), (10, ⟨(some 75), (.iaddrA 2 1 (.tmp 5) (.val (.lit (.int .i64 1)))), none, 0⟩), (11, ⟨(some 76), (.load 1 false (.tmp 75)), none, 0⟩), (12, ⟨(some 77), (.bin .sub (.tmp 74) (.tmp 76)), none, 0⟩), (13, ⟨(some 78), (.minmax true [(.val (.lit (.int .i64 0))), (.tmp 77)]), none, 0⟩), (14, ⟨(some 79), (.build [(.lit (.int .i64 0)), (.lit (.int .i64 0))] [(0, (1, (.tmp 72))), (1, (1, (.tmp 78)))]), none, 0⟩), (15, ⟨(some 80), (.call false (.val (.lit (.func (.func 16) #[] #[]))) [(.tmp 66), (.tmp 79)]), none, 0⟩), (16, ⟨(some 64), (.mv (.tmp 80)), none, 0⟩), (17, ⟨(some 81), (.ext (.tmp 64) 0), none, 0⟩), (18, ⟨(some 82), (.ext (.tmp 64) 1), none, 0⟩), (19, ⟨(some 83), (.ext (.tmp 64) 2), none, 0⟩), (20, ⟨(some 10), (.mv (.tmp 81)), none, 0⟩), (21, ⟨(some 11), (.mv (.tmp 82)), none, 0⟩), (22, ⟨(some 12), (.mv (.tmp 83)), none, 0⟩)] [[], [0], [], [2], [], [4], [3, 5, 2, 4], [6, 3, 5, 2, 4], [], [8], [], [10], [9, 11, 8, 10], [12, 9, 11, 8, 10], [7, 13, 6, 3, 5, 2, 4, 12, 9, 11, 8, 10], [1, 14, 0, 7, 13, 6, 3, 5, 2, 4, 12, 9, 11, 8, 10], [15, 1, 14, 0, 7, 13, 6, 3, 5, 2, 4, 12, 9, 11, 8, 10], [16, 15, 1, 14, 0, 7, 13, 6, 3, 5, 2, 4, 12, 9, 11, 8, 10], [16, 15, 1, 14, 0, 7, 13, 6, 3, 5, 2, 4, 12, 9, 11, 8, 10], [16, 15, 1, 14, 0, 7, 13, 6, 3, 5, 2, 4, 12, 9, 11, 8, 10], [17, 15, 0, 1, 2, 3, 4, 5, 6, 7, 8, 9, 10, 11, 12, 13, 14, 16], [18, 20, 0, 1, 2, 3, 4, 5, 6, 7, 8, 9, 10, 11, 12, 13, 14, 15, 16, 17], [19, 21, 0, 1, 2, 3, 4, 5, 6, 7, 8, 9, 10, 11, 12, 13, 14, 15, 16, 17, 18, 20]])
 (.seq (.seq (.reg 0 [⟨(some 84), (.mv (.tmp 12)), none, 0⟩, ⟨(some 85), (.bin .neq (.tmp 84) (.val (.lit (.int .i64 0)))), none, 0⟩, ⟨(some 86), (.mv (.tmp 85)), none, 0⟩, ⟨(some 87), (.mv (.tmp 12)), (some (86, true)), 0⟩, ⟨(some 88), (.bin .neq (.tmp 87) (.val (.lit (.int .i64 12)))), (some (86, true)), 0⟩, ⟨(some 89), (.pick (.tmp 86) (.tmp 88) (.val (.lit (.bool false)))), none, 0⟩, ⟨(some 90), (.mv (.tmp 89)), none, 0⟩, ⟨(some 91), (.mv (.tmp 12)), (some (90, false)), 0⟩, ⟨(some 92), (.bin .eql (.tmp 91) (.val (.lit (.int .i64 0)))), (some (90, false)), 0⟩, ⟨(some 93), (.mv (.tmp 92)), (some (90, false)), 0⟩, ⟨(some 94), (.mv (.tmp 9)), (some (93, true)), 0⟩, ⟨(some 95), (.bin .neq (.tmp 94) (.val (.lit (.int .i64 0)))), (some (93, true)), 0⟩, ⟨(some 96), (.mv (.tmp 95)), (some (93, true)), 0⟩, ⟨(some 97), (.mv (.tmp 11)), (some (96, false)), 0⟩, ⟨(some 98), (.mv (.tmp 8)), (some (96, false)), 0⟩, ⟨(some 99), (.bin .lss (.tmp 97) (.tmp 98)), (some (96, false)), 0⟩, ⟨(some 100), (.pick (.tmp 96) (.val (.lit (.bool true))) (.tmp 99)), (some (93, true)), 0⟩, ⟨(some 101), (.pick (.tmp 93) (.tmp 100) (.val (.lit (.bool false)))), (some (90, false)), 0⟩, ⟨(some 102), (.pick (.tmp 90) (.val (.lit (.bool true))) (.tmp 101)), none, 0⟩])
 (.cond (.tmp 102) (.seq (.reg 0 [⟨(some 6), (.mv (.val (.lit (.bool false)))), none, 0⟩])
 .ret) .skip))
 (.seq (.seq (.reg 0 [⟨(some 103), (.mv (.tmp 0)), none, 0⟩, ⟨(some 104), (.len (.tmp 103)), none, 0⟩, ⟨(some 105), (.bin .eql (.tmp 104) (.val (.lit (.int .i64 0)))), none, 0⟩])
 (.cond (.tmp 105) (.seq (.reg 0 [⟨(some 6), (.mv (.val (.lit (.bool true)))), none, 0⟩])
 .ret) .skip))
 (.seq (.dreg 0 [(0, ⟨(some 107), (.mv (.tmp 0)), none, 0⟩), (1, ⟨(some 108), (.slc 3 (.tmp 107) (some (.val (.lit (.int .i64 1)))) none), none, 0⟩), (2, ⟨(some 109), (.call false (.val (.lit (.func (.func 17) #[] #[]))) [(.tmp 108)]), none, 0⟩), (3, ⟨(some 110), (.load 2 true (.tmp 4)), none, 0⟩), (4, ⟨(some 111), (.call false (.val (.lit (.func (.func 16) #[] #[]))) [(.tmp 109), (.tmp 110)]), none, 0⟩), (5, ⟨(some 106), (.mv (.tmp 111)), none, 0⟩), (6, ⟨(some 112), (.ext (.tmp 106) 0), none, 0⟩), (7, ⟨(some 113), (.ext (.tmp 106) 1), none, 0⟩), (8, ⟨(some 114), (.ext (.tmp 106) 2), none, 0⟩), (9, ⟨(some 13), (.mv (.tmp 112)), none, 0⟩), (10, ⟨(some 14), (.mv (.tmp 113)), none, 0⟩), (11, ⟨(some 15), (.mv (.tmp 114)), none, 0⟩)] [[], [0], [1, 0], [], [2, 3, 1, 0], [4, 2, 3, 1, 0], [5, 4, 2, 3, 1, 0], [5, 4, 2, 3, 1, 0], [5, 4, 2, 3, 1, 0], [6, 4, 0, 1, 2, 3, 5], [7, 9, 0, 1, 2, 3, 4, 5, 6], [8, 10, 0, 1, 2, 3, 4, 5, 6, 7, 9]])
 (.seq (.reg 0 [⟨(some 115), (.mv (.tmp 15)), none, 0⟩, ⟨(some 116), (.bin .eql (.tmp 115) (.val (.lit (.int .i64 12)))), none, 0⟩, ⟨(some 117), (.mv (.tmp 116)), none, 0⟩, ⟨(some 118), (.mv (.tmp 15)), (some (117, false)), 0⟩, ⟨(some 119), (.bin .eql (.tmp 118) (.val (.lit (.int .i64 0)))), (some (117, false)), 0⟩, ⟨(some 120), (.mv (.tmp 119)), (some (117, false)), 0⟩, ⟨(some 121), (.mv (.tmp 9)), (some (120, true)), 0⟩, ⟨(some 122), (.bin .eql (.tmp 121) (.val (.lit (.int .i64 0)))), (some (120, true)), 0⟩, ⟨(some 123), (.pick (.tmp 120) (.tmp 122) (.val (.lit (.bool false)))), (some (117, false)), 0⟩, ⟨(some 124), (.mv (.tmp 123)), (some (117, false)), 0⟩, ⟨(some 125), (.mv (.tmp 8)), (some (124, true)), 0⟩, ⟨(some 126), (.mv (.tmp 14)), (some (124, true)), 0⟩, ⟨(some 127), (.bin .leq (.tmp 125) (.tmp 126)), (some (124, true)), 0⟩, ⟨(some 128), (.pick (.tmp 124) (.tmp 127) (.val (.lit (.bool false)))), (some (117, false)), 0⟩, ⟨(some 129), (.pick (.tmp 117) (.val (.lit (.bool true))) (.tmp 128)), none, 0⟩, ⟨(some 6), (.mv (.tmp 129)), none, 0⟩])
 .ret))))))))))
theorem e3 : envOf Try.prog muts 3 = some (130, c3, [(Go.Abs.ARes.tmp 6)]) := by kernel_rfl
def c4 : ACode :=
 (.seq (.reg 2 [⟨(some 4), (.box 2 (.tmp 1)), none, 0⟩, ⟨(some 5), (.box 5 (.tmp 2)), none, 1⟩, ⟨(some 6), (.mv (.val (.lit (.bool false)))), none, 2⟩])
 (.seq (.seq (.reg 0 [⟨(some 11), (.call false (.val (.lit (.func (.func 13) #[] #[]))) []), none, 0⟩, ⟨(some 12), (.not (.tmp 11)), none, 0⟩])
 (.cond (.tmp 12) (.seq (.reg 0 [⟨(some 6), (.mv (.val (.lit (.bool false)))), none, 0⟩])
 .ret) .skip))
 (.seq (.seq (.reg 0 [⟨(some 13), (.mv (.tmp 0)), none, 0⟩, ⟨(some 14), (.call false (.val (.lit (.func (.func 18) #[] #[]))) [(.tmp 13)]), none, 0⟩, ⟨(some 15), (.not (.tmp 14)), none, 0⟩, ⟨(some 16), (.mv (.tmp 15)), none, 0⟩, ⟨(some 17), (.load 2 true (.tmp 4)), (some (16, false)), 0⟩, ⟨(some 18), (.call false (.val (.lit (.func (.func 19) #[] #[]))) [(.tmp 17)]), (some (16, false)), 0⟩, ⟨(some 19), (.not (.tmp 18)), (some (16, false)), 0⟩, ⟨(some 20), (.pick (.tmp 16) (.val (.lit (.bool true))) (.tmp 19)), none, 0⟩, ⟨(some 21), (.mv (.tmp 20)), none, 0⟩, ⟨(some 22), (.load 5 true (.tmp 5)), (some (21, false)), 0⟩, ⟨(some 23), (.call false (.val (.lit (.func (.func 20) #[] #[]))) [(.tmp 22)]), (some (21, false)), 0⟩, ⟨(some 24), (.not (.tmp 23)), (some (21, false)), 0⟩, ⟨(some 25), (.pick (.tmp 21) (.val (.lit (.bool true))) (.tmp 24)), none, 0⟩])
 (.cond (.tmp 25) (.seq (.reg 0 [⟨(some 6), (.mv (.val (.lit (.bool true)))), none, 0⟩])
 .ret) .skip))
 (.seq (.dreg 0 [(0, ⟨(some 27), (.mv (.tmp 0)), none, 0⟩), (1, ⟨(some 28), (.call false (.val (.lit (.func (.func 22) #[] #[]))) [(.tmp 27)]), none, 0⟩), (2, ⟨(some 29), (.load 2 true (.tmp 4)), none, 0⟩), (3, ⟨(some 30), (.call false (.val (.lit (.func (.func 23) #[] #[]))) [(.tmp 29)]), none, 0⟩), (4, ⟨(some 31), (.faddr 0 (.tmp 5)), none, 0⟩), (5, ⟨(some 32), (.load 2 true (.tmp 31)), none, 0⟩), (6, ⟨(some 33), (.call false (.val (.lit (.func (.func 24) #[] #[]))) [(.tmp 32)]), none, 0⟩), (7, ⟨(some 34), (.faddr 2 (.tmp 5)), none, 0⟩), (8, ⟨(some 35), (.load 3 true (.tmp 34)), none, 0⟩), (9, ⟨(some 36), (.call false (.val (.lit (.func (.func 25) #[] #[]))) [(.tmp 35)]), none, 0⟩), (10, ⟨(some 37), (.build [(.sl true 0 []), (.lit (.int .i64 0)), (.sl true 0 []), (.sl true 0 []), (.lit (.int .i64 0))] [(0, (2, (.tmp 33))), (2, (3, (.tmp 36)))]), none, 0⟩), (11, ⟨(some 38), (.call false (.val (.lit (.func (.func 21) #[] #[]))) [(.tmp 28), (.tmp 30), (.tmp 37)]), none, 0⟩), (12, ⟨(some 26), (.mv (.tmp 38)), none, 0⟩), (13, ⟨(some 39), (.ext (.tmp 26) 0), none, 0⟩), (14, ⟨(some 40), (.ext (.tmp 26) 1), none, 0⟩), (15, ⟨(some 7), (.mv (.tmp 39)), none, 0⟩), (16, ⟨(some 8), (.mv (.tmp 40)), none, 0⟩)] [[], [0], [], [2, 1, 0], [], [4], [5, 3, 4, 2, 1, 0], [], [7], [8, 6, 7, 5, 3, 4, 2, 1, 0], [6, 9, 5, 3, 4, 2, 1, 0, 8, 7], [1, 3, 10, 9, 0, 2, 6, 5, 4, 8, 7], [11, 1, 3, 10, 9, 0, 2, 6, 5, 4, 8, 7], [12, 11, 1, 3, 10, 9, 0, 2, 6, 5, 4, 8, 7], [12, 11, 1, 3, 10, 9, 0, 2, 6, 5, 4, 8, 7], [13, 11, 0, 1, 2, 3, 4, 5, 6, 7, 8, 9, 10, 12], [14, 15, 0, 1, 2, 3, 4, 5, 6, 7, 8, 9, 10, 11, 12, 13]])
 (.seq (.reg 0 [⟨(some 41), (.mv (.tmp 0)), none, 0⟩, ⟨(some 42), (.load 2 true (.tmp 4)), none, 0⟩, ⟨(some 43), (.call false (.val (.lit (.func (.func 26) #[] #[]))) [(.tmp 41), (.tmp 42)]), none, 0⟩, ⟨(some 9), (.mv (.tmp 43)), none, 0⟩, ⟨(some 10), (.mv (.val (.lit (.int .i64 0)))), none, 0⟩])
 (.seq (.seq (.reg 0 [⟨(some 44), (.mv (.tmp 9)), none, 0⟩, ⟨(some 45), (.bin .eql (.tmp 44) (.val (.lit (.int .i64 0)))), none, 0⟩])
 (.cond (.tmp 45) (.reg 0 [⟨(some 47), (.mv (.tmp 0)), none, 0⟩, ⟨(some 48), (.load 2 true (.tmp 4)), none, 0⟩, ⟨(some 49), (.load 5 true (.tmp 5)), none, 0⟩, ⟨(some 50), (.call false (.val (.lit (.func (.func 27) #[] #[]))) [(.tmp 47), (.tmp 48), (.tmp 49)]), none, 0⟩, ⟨(some 46), (.mv (.tmp 50)), none, 0⟩, ⟨(some 51), (.ext (.tmp 46) 0), none, 0⟩, ⟨(some 52), (.ext (.tmp 46) 1), none, 0⟩, ⟨(some 10), (.mv (.tmp 51)), none, 0⟩, ⟨(some 9), (.mv (.tmp 52)), none, 0⟩]) .skip))
 (.seq (.reg 0 [⟨(some 53), (.mv (.tmp 8)), none, 0⟩, ⟨(some 54), (.mv (.tmp 9)), none, 0⟩, ⟨(some 55), (.bin .eql (.tmp 53) (.tmp 54)), none, 0⟩, ⟨(some 56), (.mv (.tmp 55)), none, 0⟩, ⟨(some 57), (.mv (.tmp 7)), (some (56, true)), 0⟩, ⟨(some 58), (.mv (.tmp 10)), (some (56, true)), 0⟩, ⟨(some 59), (.bin .eql (.tmp 57) (.tmp 58)), (some (56, true)), 0⟩, ⟨(some 60), (.pick (.tmp 56) (.tmp 59) (.val (.lit (.bool false)))), none, 0⟩, ⟨(some 61), (.mv (.tmp 60)), none, 0⟩, ⟨(some 62), (.mv (.tmp 7)), (some (61, true)), 0⟩, ⟨(some 63), (.bin .geq (.tmp 62) (.val (.lit (.int .i64 0)))), (some (61, true)), 0⟩, ⟨(some 64), (.pick (.tmp 61) (.tmp 63) (.val (.lit (.bool false)))), none, 0⟩, ⟨(some 6), (.mv (.tmp 64)), none, 0⟩])
 .ret)))))))
theorem e4 : envOf Try.prog muts 4 = some (65, c4, [(Go.Abs.ARes.tmp 6)]) := by kernel_rfl
def c5 : ACode :=
 (.seq (.reg 0 [⟨(some 6), (.mv (.val (.lit (.bool false)))), none, 0⟩])
 (.seq (.seq (.reg 0 [⟨(some 10), (.call false (.val (.lit (.func (.func 13) #[] #[]))) []), none, 0⟩, ⟨(some 11), (.not (.tmp 10)), none, 0⟩])
 (.cond (.tmp 11) (.seq (.reg 0 [⟨(some 6), (.mv (.val (.lit (.bool false)))), none, 0⟩])
 .ret) .skip))
 (.seq (.seq (.reg 0 [⟨(some 12), (.mv (.tmp 0)), none, 0⟩, ⟨(some 13), (.call false (.val (.lit (.func (.func 18) #[] #[]))) [(.tmp 12)]), none, 0⟩, ⟨(some 14), (.not (.tmp 13)), none, 0⟩, ⟨(some 15), (.mv (.tmp 14)), none, 0⟩, ⟨(some 16), (.mv (.tmp 1)), (some (15, false)), 0⟩, ⟨(some 17), (.call false (.val (.lit (.func (.func 28) #[] #[]))) [(.tmp 16)]), (some (15, false)), 0⟩, ⟨(some 18), (.not (.tmp 17)), (some (15, false)), 0⟩, ⟨(some 19), (.pick (.tmp 15) (.val (.lit (.bool true))) (.tmp 18)), none, 0⟩, ⟨(some 20), (.mv (.tmp 19)), none, 0⟩, ⟨(some 21), (.mv (.tmp 2)), (some (20, false)), 0⟩, ⟨(some 22), (.lenS (.tmp 21)), (some (20, false)), 0⟩, ⟨(some 23), (.bin .gtr (.tmp 22) (.val (.lit (.int .i64 30)))), (some (20, false)), 0⟩, ⟨(some 24), (.pick (.tmp 20) (.val (.lit (.bool true))) (.tmp 23)), none, 0⟩])
 (.cond (.tmp 24) (.seq (.reg 0 [⟨(some 6), (.mv (.val (.lit (.bool true)))), none, 0⟩])
 .ret) .skip))
 (.seq (.reg 0 [⟨(some 26), (.mv (.tmp 0)), none, 0⟩, ⟨(some 27), (.call false (.val (.lit (.func (.func 22) #[] #[]))) [(.tmp 26)]), none, 0⟩, ⟨(some 28), (.mv (.tmp 1)), none, 0⟩, ⟨(some 29), (.call false (.val (.lit (.func (.func 30) #[] #[]))) [(.tmp 28)]), none, 0⟩, ⟨(some 30), (.mv (.tmp 2)), none, 0⟩, ⟨(some 31), (.call false (.val (.lit (.func (.func 29) #[] #[]))) [(.tmp 27), (.tmp 29), (.tmp 30)]), none, 0⟩, ⟨(some 25), (.mv (.tmp 31)), none, 0⟩, ⟨(some 32), (.ext (.tmp 25) 0), none, 0⟩, ⟨(some 33), (.ext (.tmp 25) 1), none, 0⟩, ⟨(some 7), (.mv (.tmp 32)), none, 0⟩, ⟨(some 8), (.mv (.tmp 33)), none, 0⟩])
 (.seq (.reg 0 [⟨(some 34), (.mv (.tmp 0)), none, 0⟩, ⟨(some 35), (.mv (.tmp 1)), none, 0⟩, ⟨(some 36), (.call false (.val (.lit (.func (.func 31) #[] #[]))) [(.tmp 34), (.tmp 35)]), none, 0⟩, ⟨(some 9), (.mv (.tmp 36)), none, 0⟩])
 (.seq (.seq (.reg 0 [⟨(some 37), (.mv (.tmp 0)), none, 0⟩, ⟨(some 38), (.call false (.val (.lit (.func (.func 22) #[] #[]))) [(.tmp 37)]), none, 0⟩, ⟨(some 39), (.mv (.tmp 1)), none, 0⟩, ⟨(some 40), (.call false (.val (.lit (.func (.func 30) #[] #[]))) [(.tmp 39)]), none, 0⟩, ⟨(some 41), (.call false (.val (.lit (.func (.func 32) #[] #[]))) [(.tmp 38), (.tmp 40)]), none, 0⟩, ⟨(some 42), (.mv (.tmp 9)), none, 0⟩, ⟨(some 43), (.bin .neq (.tmp 41) (.tmp 42)), none, 0⟩])
 (.cond (.tmp 43) (.seq (.reg 0 [⟨(some 6), (.mv (.val (.lit (.bool false)))), none, 0⟩])
 .ret) .skip))
 (.seq (.seq (.reg 0 [⟨(some 44), (.mv (.tmp 9)), none, 0⟩, ⟨(some 45), (.bin .eql (.tmp 44) (.val (.lit (.int .i64 0)))), none, 0⟩, ⟨(some 46), (.mv (.tmp 45)), none, 0⟩, ⟨(some 47), (.mv (.tmp 2)), (some (46, true)), 0⟩, ⟨(some 48), (.call false (.val (.lit (.func (.func 33) #[] #[]))) [(.tmp 47)]), (some (46, true)), 0⟩, ⟨(some 49), (.not (.tmp 48)), (some (46, true)), 0⟩, ⟨(some 50), (.pick (.tmp 46) (.tmp 49) (.val (.lit (.bool false)))), none, 0⟩])
 (.cond (.tmp 50) (.reg 0 [⟨(some 9), (.mv (.val (.lit (.int .i64 4)))), none, 0⟩]) .skip))
 (.seq (.seq (.reg 0 [⟨(some 51), (.mv (.tmp 9)), none, 0⟩, ⟨(some 52), (.bin .neq (.tmp 51) (.val (.lit (.int .i64 0)))), none, 0⟩])
 (.cond (.tmp 52) (.seq (.reg 0 [⟨(some 53), (.mv (.tmp 8)), none, 0⟩, ⟨(some 54), (.mv (.tmp 9)), none, 0⟩, ⟨(some 55), (.bin .eql (.tmp 53) (.tmp 54)), none, 0⟩, ⟨(some 56), (.mv (.tmp 55)), none, 0⟩, ⟨(some 57), (.mv (.tmp 7)), (some (56, true)), 0⟩, ⟨(some 58), (.len (.tmp 57)), (some (56, true)), 0⟩, ⟨(some 59), (.bin .eql (.tmp 58) (.val (.lit (.int .i64 0)))), (some (56, true)), 0⟩, ⟨(some 60), (.pick (.tmp 56) (.tmp 59) (.val (.lit (.bool false)))), none, 0⟩, ⟨(some 6), (.mv (.tmp 60)), none, 0⟩])
 .ret) .skip))
 (.seq (.reg 0 [⟨(some 61), (.mv (.tmp 8)), none, 0⟩, ⟨(some 62), (.bin .eql (.tmp 61) (.val (.lit (.int .i64 0)))), none, 0⟩, ⟨(some 63), (.mv (.tmp 62)), none, 0⟩, ⟨(some 64), (.mv (.tmp 7)), (some (63, true)), 0⟩, ⟨(some 65), (.mv (.tmp 0)), (some (63, true)), 0⟩, ⟨(some 66), (.mv (.tmp 1)), (some (63, true)), 0⟩, ⟨(some 67), (.mv (.tmp 2)), (some (63, true)), 0⟩, ⟨(some 68), (.call false (.val (.lit (.func (.func 35) #[] #[]))) [(.tmp 65), (.tmp 66), (.tmp 67)]), (some (63, true)), 0⟩, ⟨(some 69), (.call false (.val (.lit (.func (.func 34) #[] #[]))) [(.tmp 64), (.tmp 68)]), (some (63, true)), 0⟩, ⟨(some 70), (.pick (.tmp 63) (.tmp 69) (.val (.lit (.bool false)))), none, 0⟩, ⟨(some 6), (.mv (.tmp 70)), none, 0⟩])
 .ret)))))))))
theorem e5 : envOf Try.prog muts 5 = some (71, c5, [(Go.Abs.ARes.tmp 6)]) := by kernel_rfl
def c9 : ACode :=
 (.seq (.reg 1 [⟨(some 5), (.box 2 (.tmp 2)), none, 0⟩, ⟨(some 6), (.mv (.val (.lit (.bool false)))), none, 1⟩])
 (.seq (.seq (.reg 0 [⟨(some 11), (.call false (.val (.lit (.func (.func 13) #[] #[]))) []), none, 0⟩, ⟨(some 12), (.not (.tmp 11)), none, 0⟩])
 (.cond (.tmp 12) (.seq (.reg 0 [⟨(some 6), (.mv (.val (.lit (.bool false)))), none, 0⟩])
 .ret) .skip))
 (.seq (.seq (.reg 0 [⟨(some 13), (.mv (.tmp 0)), none, 0⟩, ⟨(some 14), (.call false (.val (.lit (.func (.func 14) #[] #[]))) [(.tmp 13)]), none, 0⟩, ⟨(some 15), (.not (.tmp 14)), none, 0⟩, ⟨(some 16), (.mv (.tmp 15)), none, 0⟩, ⟨(some 17), (.mv (.tmp 1)), (some (16, false)), 0⟩, ⟨(some 18), (.len (.tmp 17)), (some (16, false)), 0⟩, ⟨(some 19), (.bin .gtr (.tmp 18) (.val (.lit (.int .i64 15)))), (some (16, false)), 0⟩, ⟨(some 20), (.pick (.tmp 16) (.val (.lit (.bool true))) (.tmp 19)), none, 0⟩])
 (.cond (.tmp 20) (.seq (.reg 0 [⟨(some 6), (.mv (.val (.lit (.bool true)))), none, 0⟩])
 .ret) .skip))
 (.seq (.dreg 0 [(0, ⟨(some 22), (.mv (.tmp 0)), none, 0⟩), (1, ⟨(some 23), (.call false (.val (.lit (.func (.func 17) #[] #[]))) [(.tmp 22)]), none, 0⟩), (2, ⟨(some 24), (.mv (.tmp 1)), none, 0⟩), (3, ⟨(some 25), (.call false (.val (.lit (.func (.func 53) #[] #[]))) [(.tmp 24)]), none, 0⟩), (4, ⟨(some 26), (.load 2 true (.tmp 5)), none, 0⟩), (5, ⟨(some 27), (.call false (.val (.lit (.func (.func 52) #[] #[]))) [(.tmp 23), (.tmp 25), (.tmp 26)]), none, 0⟩), (6, ⟨(some 21), (.mv (.tmp 27)), none, 0⟩), (7, ⟨(some 28), (.ext (.tmp 21) 0), none, 0⟩), (8, ⟨(some 29), (.ext (.tmp 21) 1), none, 0⟩), (9, ⟨(some 7), (.mv (.tmp 28)), none, 0⟩), (10, ⟨(some 8), (.mv (.tmp 29)), none, 0⟩)] [[], [0], [], [2, 1, 0], [], [1, 3, 4, 0, 2], [5, 1, 3, 4, 0, 2], [6, 5, 1, 3, 4, 0, 2], [6, 5, 1, 3, 4, 0, 2], [7, 5, 0, 1, 2, 3, 4, 6], [8, 9, 0, 1, 2, 3, 4, 5, 6, 7]])
 (.seq (.reg 0 [⟨(some 30), (.mv (.tmp 0)), none, 0⟩, ⟨(some 31), (.call false (.val (.lit (.func (.func 44) #[] #[]))) [(.tmp 30)]), none, 0⟩, ⟨(some 9), (.mv (.tmp 31)), none, 0⟩, ⟨(some 10), (.mv (.val (.lit (.int .i64 0)))), none, 0⟩])
 (.seq (.seq (.reg 0 [⟨(some 32), (.mv (.tmp 9)), none, 0⟩, ⟨(some 33), (.bin .eql (.tmp 32) (.val (.lit (.int .i64 0)))), none, 0⟩])
 (.cond (.tmp 33) (.reg 0 [⟨(some 35), (.mv (.tmp 0)), none, 0⟩, ⟨(some 36), (.mv (.tmp 1)), none, 0⟩, ⟨(some 37), (.load 2 true (.tmp 5)), none, 0⟩, ⟨(some 38), (.call false (.val (.lit (.func (.func 54) #[] #[]))) [(.tmp 35), (.tmp 36), (.tmp 37)]), none, 0⟩, ⟨(some 34), (.mv (.tmp 38)), none, 0⟩, ⟨(some 39), (.ext (.tmp 34) 0), none, 0⟩, ⟨(some 40), (.ext (.tmp 34) 1), none, 0⟩, ⟨(some 10), (.mv (.tmp 39)), none, 0⟩, ⟨(some 9), (.mv (.tmp 40)), none, 0⟩]) .skip))
 (.seq (.reg 0 [⟨(some 41), (.mv (.tmp 8)), none, 0⟩, ⟨(some 42), (.mv (.tmp 9)), none, 0⟩, ⟨(some 43), (.bin .eql (.tmp 41) (.tmp 42)), none, 0⟩, ⟨(some 44), (.mv (.tmp 43)), none, 0⟩, ⟨(some 45), (.mv (.tmp 7)), (some (44, true)), 0⟩, ⟨(some 46), (.mv (.tmp 10)), (some (44, true)), 0⟩, ⟨(some 47), (.bin .eql (.tmp 45) (.tmp 46)), (some (44, true)), 0⟩, ⟨(some 48), (.pick (.tmp 44) (.tmp 47) (.val (.lit (.bool false)))), none, 0⟩, ⟨(some 6), (.mv (.tmp 48)), none, 0⟩])
 .ret)))))))
theorem e9 : envOf Try.prog muts 9 = some (49, c9, [(Go.Abs.ARes.tmp 6)]) := by kernel_rfl
def c11l0 : ACode :=
 (.seq (.seq (.reg 0 [⟨(some 74), (.mv (.tmp 9)), none, 0⟩, ⟨(some 75), (.mv (.tmp 5)), none, 0⟩, ⟨(some 76), (.len (.tmp 75)), none, 0⟩, ⟨(some 77), (.bin .lss (.tmp 74) (.tmp 76)), none, 0⟩])
 (.cond (.tmp 77) .skip (.exit 0)))
 (.seq (.block 1 (.seq (.dreg 0 [(0, ⟨(some 80), (.mv (.tmp 5)), none, 0⟩), (1, ⟨(some 81), (.mv (.tmp 9)), none, 0⟩), (2, ⟨(some 82), (.iaddrS 3 (.tmp 80) (.tmp 81)), none, 0⟩), (3, ⟨(some 83), (.load 3 true (.tmp 82)), none, 0⟩), (4, ⟨(some 84), (.mv (.tmp 7)), none, 0⟩), (5, ⟨(some 85), (.mv (.tmp 9)), none, 0⟩), (6, ⟨(some 86), (.iaddrS 3 (.tmp 84) (.tmp 85)), none, 0⟩), (7, ⟨(some 87), (.load 3 true (.tmp 86)), none, 0⟩), (8, ⟨(some 88), (.eqAgg true [.cs, .cs, .ci] (.tmp 83) (.tmp 87)), none, 0⟩)] [[], [], [0, 1], [2, 0, 1], [], [], [4, 5], [6, 4, 5], [3, 7, 2, 0, 1, 6, 4, 5]])
 (.cond (.tmp 88) (.seq (.reg 0 [⟨(some 4), (.mv (.val (.lit (.bool false)))), none, 0⟩])
 .ret) .skip)))
 (.reg 0 [⟨(some 78), (.mv (.tmp 9)), none, 0⟩, ⟨(some 79), (.bin .add (.tmp 78) (.val (.lit (.int .i64 1)))), none, 0⟩, ⟨(some 9), (.mv (.tmp 79)), none, 0⟩])))
def c11 : ACode :=
 (.seq (.reg 1 [⟨(some 3), (.box 6 (.tmp 1)), none, 0⟩, ⟨(some 4), (.mv (.val (.lit (.bool false)))), none, 1⟩])
 (.seq (.seq (.reg 0 [⟨(some 15), (.call false (.val (.lit (.func (.func 13) #[] #[]))) []), none, 0⟩, ⟨(some 16), (.not (.tmp 15)), none, 0⟩])
 (.cond (.tmp 16) (.seq (.reg 0 [⟨(some 4), (.mv (.val (.lit (.bool false)))), none, 0⟩])
 .ret) .skip))
 (.seq (.seq (.reg 1 [⟨(some 17), (.mv (.tmp 0)), none, 0⟩, ⟨(some 18), (.call false (.val (.lit (.func (.func 18) #[] #[]))) [(.tmp 17)]), none, 0⟩, ⟨(some 19), (.not (.tmp 18)), none, 0⟩, ⟨(some 20), (.mv (.tmp 19)), none, 0⟩, ⟨(some 21), (.faddr 0 (.tmp 3)), (some (20, false)), 0⟩, ⟨(some 22), (.load 2 true (.tmp 21)), (some (20, false)), 0⟩, ⟨(some 23), (.call false (.val (.lit (.func (.func 19) #[] #[]))) [(.tmp 22)]), (some (20, false)), 0⟩, ⟨(some 24), (.not (.tmp 23)), (some (20, false)), 0⟩, ⟨(some 25), (.pick (.tmp 20) (.val (.lit (.bool true))) (.tmp 24)), none, 0⟩, ⟨(some 26), (.mv (.tmp 25)), none, 0⟩, ⟨(some 27), (.faddr 2 (.tmp 3)), (some (26, false)), 0⟩, ⟨(some 28), (.load 1 false (.tmp 27)), (some (26, false)), 0⟩, ⟨(some 29), (.call false (.val (.lit (.func (.func 28) #[] #[]))) [(.tmp 28)]), (some (26, false)), 0⟩, ⟨(some 30), (.not (.tmp 29)), (some (26, false)), 0⟩, ⟨(some 31), (.pick (.tmp 26) (.val (.lit (.bool true))) (.tmp 30)), none, 0⟩, ⟨(some 32), (.mv (.tmp 31)), none, 0⟩, ⟨(some 33), (.faddr 3 (.tmp 3)), (some (32, false)), 0⟩, ⟨(some 34), (.load 3 true (.tmp 33)), (some (32, false)), 0⟩, ⟨(some 35), (.bslice 3 1 [(.lit (.string ⟨#[]⟩)), (.lit (.string ⟨#[]⟩)), (.lit (.int .i64 0))] [(0, (.tmp 34))]), (some (32, false)), 0⟩, ⟨(some 36), (.call false (.val (.lit (.func (.func 28) #[] #[]))) [(.tmp 35)]), (some (32, false)), 1⟩, ⟨(some 37), (.not (.tmp 36)), (some (32, false)), 1⟩, ⟨(some 38), (.pick (.tmp 32) (.val (.lit (.bool true))) (.tmp 37)), none, 1⟩])
 (.cond (.tmp 38) (.seq (.reg 0 [⟨(some 4), (.mv (.val (.lit (.bool true)))), none, 0⟩])
 .ret) .skip))
 (.seq (.dreg 0 [(0, ⟨(some 40), (.mv (.tmp 0)), none, 0⟩), (1, ⟨(some 41), (.call false (.val (.lit (.func (.func 22) #[] #[]))) [(.tmp 40)]), none, 0⟩), (2, ⟨(some 42), (.faddr 0 (.tmp 3)), none, 0⟩), (3, ⟨(some 43), (.load 2 true (.tmp 42)), none, 0⟩), (4, ⟨(some 44), (.call false (.val (.lit (.func (.func 23) #[] #[]))) [(.tmp 43)]), none, 0⟩), (5, ⟨(some 45), (.faddr 2 (.tmp 3)), none, 0⟩), (6, ⟨(some 46), (.load 1 false (.tmp 45)), none, 0⟩), (7, ⟨(some 47), (.call false (.val (.lit (.func (.func 30) #[] #[]))) [(.tmp 46)]), none, 0⟩), (8, ⟨(some 48), (.faddr 3 (.tmp 3)), none, 0⟩), (9, ⟨(some 49), (.load 3 true (.tmp 48)), none, 0⟩), (10, ⟨(some 50), (.call false (.val (.lit (.func (.func 56) #[] #[]))) [(.tmp 41), (.tmp 44), (.tmp 47), (.tmp 49)]), none, 0⟩), (11, ⟨(some 39), (.mv (.tmp 50)), none, 0⟩), (12, ⟨(some 51), (.ext (.tmp 39) 0), none, 0⟩), (13, ⟨(some 52), (.ext (.tmp 39) 1), none, 0⟩), (14, ⟨(some 5), (.mv (.tmp 51)), none, 0⟩), (15, ⟨(some 6), (.mv (.tmp 52)), none, 0⟩)] [[], [0], [], [2], [3, 1, 2, 0], [], [5], [6, 4, 5, 3, 1, 2, 0], [], [8], [1, 4, 7, 9, 0, 3, 2, 6, 5, 8], [10, 1, 4, 7, 9, 0, 3, 2, 6, 5, 8], [11, 10, 1, 4, 7, 9, 0, 3, 2, 6, 5, 8], [11, 10, 1, 4, 7, 9, 0, 3, 2, 6, 5, 8], [12, 10, 0, 1, 2, 3, 4, 5, 6, 7, 8, 9, 11], [13, 14, 0, 1, 2, 3, 4, 5, 6, 7, 8, 9, 10, 11, 12]])
 (.seq (.reg 0 [⟨(some 54), (.mv (.tmp 0)), none, 0⟩, ⟨(some 55), (.faddr 0 (.tmp 3)), none, 0⟩, ⟨(some 56), (.load 2 true (.tmp 55)), none, 0⟩, ⟨(some 57), (.faddr 2 (.tmp 3)), none, 0⟩, ⟨(some 58), (.load 1 false (.tmp 57)), none, 0⟩, ⟨(some 59), (.faddr 3 (.tmp 3)), none, 0⟩, ⟨(some 60), (.load 3 true (.tmp 59)), none, 0⟩, ⟨(some 61), (.call false (.val (.lit (.func (.func 57) #[] #[]))) [(.tmp 54), (.tmp 56), (.tmp 58), (.tmp 60)]), none, 0⟩, ⟨(some 53), (.mv (.tmp 61)), none, 0⟩, ⟨(some 62), (.ext (.tmp 53) 0), none, 0⟩, ⟨(some 63), (.ext (.tmp 53) 1), none, 0⟩, ⟨(some 7), (.mv (.tmp 62)), none, 0⟩, ⟨(some 8), (.mv (.tmp 63)), none, 0⟩])
 (.seq (.seq (.reg 0 [⟨(some 64), (.mv (.tmp 6)), none, 0⟩, ⟨(some 65), (.mv (.tmp 8)), none, 0⟩, ⟨(some 66), (.bin .neq (.tmp 64) (.tmp 65)), none, 0⟩, ⟨(some 67), (.mv (.tmp 66)), none, 0⟩, ⟨(some 68), (.mv (.tmp 5)), (some (67, false)), 0⟩, ⟨(some 69), (.len (.tmp 68)), (some (67, false)), 0⟩, ⟨(some 70), (.mv (.tmp 7)), (some (67, false)), 0⟩, ⟨(some 71), (.len (.tmp 70)), (some (67, false)), 0⟩, ⟨(some 72), (.bin .neq (.tmp 69) (.tmp 71)), (some (67, false)), 0⟩, ⟨(some 73), (.pick (.tmp 67) (.val (.lit (.bool true))) (.tmp 72)), none, 0⟩])
 (.cond (.tmp 73) (.seq (.reg 0 [⟨(some 4), (.mv (.val (.lit (.bool false)))), none, 0⟩])
 .ret) .skip))
 (.seq (.seq (.reg 0 [⟨(some 9), (.mv (.val (.lit (.int .i64 0)))), none, 0⟩])
 (.block 0 (.loop c11l0)))
 (.seq (.dreg 1 [(0, ⟨(some 90), (.mv (.tmp 0)), none, 0⟩), (1, ⟨(some 91), (.call false (.val (.lit (.func (.func 22) #[] #[]))) [(.tmp 90)]), none, 0⟩), (2, ⟨(some 92), (.faddr 0 (.tmp 3)), none, 0⟩), (3, ⟨(some 93), (.load 2 true (.tmp 92)), none, 0⟩), (4, ⟨(some 94), (.call false (.val (.lit (.func (.func 23) #[] #[]))) [(.tmp 93)]), none, 0⟩), (5, ⟨(some 95), (.faddr 2 (.tmp 3)), none, 0⟩), (6, ⟨(some 96), (.load 1 false (.tmp 95)), none, 0⟩), (7, ⟨(some 97), (.call false (.val (.lit (.func (.func 30) #[] #[]))) [(.tmp 96)]), none, 0⟩), (8, ⟨(some 98), (.faddr 3 (.tmp 3)), none, 0⟩), (9, ⟨(some 99), (.faddr 0 (.tmp 98)), none, 0⟩), (10, ⟨(some 100), (.load 1 false (.tmp 99)), none, 0⟩), (11, ⟨(some 101), (.call false (.val (.lit (.func (.func 58) #[] #[]))) [(.tmp 91), (.tmp 94), (.tmp 97), (.tmp 100)]), none, 0⟩), (12, ⟨(some 89), (.mv (.tmp 101)), none, 0⟩), (13, ⟨(some 102), (.ext (.tmp 89) 0), none, 0⟩), (14, ⟨(some 103), (.ext (.tmp 89) 1), none, 0⟩), (15, ⟨(some 10), (.alloc [(.sl true 0 []), (.sl true 0 [])]), none, 0⟩), (16, ⟨none, (.store 2 (.tmp 10) (.tmp 102)), none, 1⟩), (17, ⟨(some 11), (.mv (.tmp 103)), none, 1⟩)] [[], [0], [], [2], [3, 1, 2, 0], [], [5], [6, 4, 5, 3, 1, 2, 0], [], [8], [9, 8], [1, 4, 7, 10, 0, 3, 2, 6, 5, 9, 8], [11, 1, 4, 7, 10, 0, 3, 2, 6, 5, 9, 8], [12, 11, 1, 4, 7, 10, 0, 3, 2, 6, 5, 9, 8], [12, 11, 1, 4, 7, 10, 0, 3, 2, 6, 5, 9, 8], [], [15, 13, 11, 0, 1, 2, 3, 4, 5, 6, 7, 8, 9, 10, 12], [14, 16, 0, 1, 2, 3, 4, 5, 6, 7, 8, 9, 10, 11, 12, 13, 15]])
 (.seq (.reg 0 [⟨(some 104), (.mv (.tmp 0)), none, 0⟩, ⟨(some 105), (.faddr 0 (.tmp 3)), none, 0⟩, ⟨(some 106), (.load 2 true (.tmp 105)), none, 0⟩, ⟨(some 107), (.call false (.val (.lit (.func (.func 26) #[] #[]))) [(.tmp 104), (.tmp 106)]), none, 0⟩, ⟨(some 8), (.mv (.tmp 107)), none, 0⟩])
 (.seq (.seq (.reg 0 [⟨(some 108), (.mv (.tmp 8)), none, 0⟩, ⟨(some 109), (.bin .eql (.tmp 108) (.val (.lit (.int .i64 0)))), none, 0⟩])
 (.cond (.tmp 109) (.reg 0 [⟨(some 110), (.mv (.tmp 0)), none, 0⟩, ⟨(some 111), (.faddr 2 (.tmp 3)), none, 0⟩, ⟨(some 112), (.load 1 false (.tmp 111)), none, 0⟩, ⟨(some 113), (.call false (.val (.lit (.func (.func 59) #[] #[]))) [(.tmp 110), (.tmp 112)]), none, 0⟩, ⟨(some 8), (.mv (.tmp 113)), none, 0⟩]) .skip))
 (.seq (.seq (.reg 0 [⟨(some 114), (.mv (.tmp 8)), none, 0⟩, ⟨(some 115), (.bin .eql (.tmp 114) (.val (.lit (.int .i64 0)))), none, 0⟩, ⟨(some 116), (.mv (.tmp 115)), none, 0⟩, ⟨(some 117), (.faddr 3 (.tmp 3)), (some (116, true)), 0⟩, ⟨(some 118), (.faddr 0 (.tmp 117)), (some (116, true)), 0⟩, ⟨(some 119), (.load 1 false (.tmp 118)), (some (116, true)), 0⟩, ⟨(some 120), (.call false (.val (.lit (.func (.func 33) #[] #[]))) [(.tmp 119)]), (some (116, true)), 0⟩, ⟨(some 121), (.not (.tmp 120)), (some (116, true)), 0⟩, ⟨(some 122), (.pick (.tmp 116) (.tmp 121) (.val (.lit (.bool false)))), none, 0⟩])
 (.cond (.tmp 122) (.reg 0 [⟨(some 8), (.mv (.val (.lit (.int .i64 4)))), none, 0⟩]) .skip))
 (.seq (.reg 1 [⟨(some 12), (.alloc [(.sl true 0 []), (.sl true 0 [])]), none, 0⟩])
 (.seq (.seq (.reg 0 [⟨(some 123), (.mv (.tmp 8)), none, 0⟩, ⟨(some 124), (.bin .eql (.tmp 123) (.val (.lit (.int .i64 0)))), none, 0⟩])
 (.cond (.tmp 124) (.seq (.reg 1 [⟨(some 126), (.mv (.tmp 0)), none, 0⟩, ⟨(some 127), (.faddr 0 (.tmp 3)), none, 0⟩, ⟨(some 128), (.load 2 true (.tmp 127)), none, 0⟩, ⟨(some 129), (.faddr 2 (.tmp 3)), none, 0⟩, ⟨(some 130), (.load 1 false (.tmp 129)), none, 0⟩, ⟨(some 131), (.faddr 3 (.tmp 3)), none, 0⟩, ⟨(some 132), (.faddr 0 (.tmp 131)), none, 0⟩, ⟨(some 133), (.load 1 false (.tmp 132)), none, 0⟩, ⟨(some 134), (.call false (.val (.lit (.func (.func 60) #[] #[]))) [(.tmp 126), (.tmp 128), (.tmp 130), (.tmp 133)]), none, 0⟩, ⟨(some 125), (.mv (.tmp 134)), none, 0⟩, ⟨(some 135), (.ext (.tmp 125) 0), none, 0⟩, ⟨(some 136), (.ext (.tmp 125) 1), none, 0⟩, ⟨(some 13), (.alloc [(.sl true 0 []), (.sl true 0 [])]), none, 0⟩, ⟨none, (.store 2 (.tmp 13) (.tmp 135)), none, 1⟩, ⟨(some 14), (.mv (.tmp 136)), none, 1⟩])
 (.seq (.reg 0 [⟨(some 137), (.load 2 true (.tmp 13)), none, 0⟩, ⟨none, (.store 2 (.tmp 12) (.tmp 137)), none, 0⟩])
 (.seq (.reg 0 [⟨(some 138), (.mv (.tmp 14)), none, 0⟩, ⟨(some 139), (.not (.tmp 138)), none, 0⟩])
 (.cond (.tmp 139) (.reg 0 [⟨(some 8), (.mv (.val (.lit (.int .i64 26)))), none, 0⟩]) .skip)))) .skip))
 (.seq (.reg 0 [⟨(some 140), (.mv (.tmp 11)), none, 0⟩, ⟨(some 141), (.mv (.tmp 8)), none, 0⟩, ⟨(some 142), (.bin .eql (.tmp 140) (.tmp 141)), none, 0⟩, ⟨(some 143), (.mv (.tmp 142)), none, 0⟩, ⟨(some 144), (.load 2 true (.tmp 10)), (some (143, true)), 0⟩, ⟨(some 145), (.load 2 true (.tmp 12)), (some (143, true)), 0⟩, ⟨(some 146), (.call false (.val (.lit (.func (.func 61) #[] #[]))) [(.tmp 144), (.tmp 145)]), (some (143, true)), 0⟩, ⟨(some 147), (.pick (.tmp 143) (.tmp 146) (.val (.lit (.bool false)))), none, 0⟩, ⟨(some 4), (.mv (.tmp 147)), none, 0⟩])
 .ret))))))))))))))
theorem e11 : envOf Try.prog muts 11 = some (148, c11, [(Go.Abs.ARes.tmp 4)]) := by kernel_rfl
def c15 : ACode :=
 (.seq (.reg 0 [⟨(some 6), (.mv (.val (.lit (.bool false)))), none, 0⟩])
 (.seq (.reg 0 [⟨(some 7), (.mv (.tmp 0)), none, 0⟩, ⟨(some 8), (.mv (.tmp 1)), none, 0⟩, ⟨(some 9), (.bin .geq (.tmp 7) (.tmp 8)), none, 0⟩, ⟨(some 10), (.mv (.tmp 9)), none, 0⟩, ⟨(some 11), (.mv (.tmp 0)), (some (10, true)), 0⟩, ⟨(some 12), (.mv (.tmp 2)), (some (10, true)), 0⟩, ⟨(some 13), (.bin .leq (.tmp 11) (.tmp 12)), (some (10, true)), 0⟩, ⟨(some 14), (.pick (.tmp 10) (.tmp 13) (.val (.lit (.bool false)))), none, 0⟩, ⟨(some 6), (.mv (.tmp 14)), none, 0⟩])
 .ret))
theorem e15 : envOf Try.prog muts 15 = some (15, c15, [(Go.Abs.ARes.tmp 6)]) := by kernel_rfl
def c18l0 : ACode :=
 (.seq (.seq (.reg 0 [⟨(some 17), (.mv (.tmp 3)), none, 0⟩, ⟨(some 18), (.mv (.tmp 0)), none, 0⟩, ⟨(some 19), (.len (.tmp 18)), none, 0⟩, ⟨(some 20), (.bin .lss (.tmp 17) (.tmp 19)), none, 0⟩])
 (.cond (.tmp 20) .skip (.exit 0)))
 (.seq (.block 1 (.seq (.reg 0 [⟨(some 23), (.mv (.tmp 0)), none, 0⟩, ⟨(some 24), (.mv (.tmp 3)), none, 0⟩, ⟨(some 25), (.iaddrS 2 (.tmp 23) (.tmp 24)), none, 0⟩, ⟨(some 26), (.faddr 0 (.tmp 25)), none, 0⟩, ⟨(some 27), (.load 1 false (.tmp 26)), none, 0⟩, ⟨(some 28), (.lenS (.tmp 27)), none, 0⟩, ⟨(some 29), (.bin .gtr (.tmp 28) (.val (.lit (.int .i64 30)))), none, 0⟩, ⟨(some 30), (.mv (.tmp 29)), none, 0⟩, ⟨(some 31), (.mv (.tmp 0)), (some (30, false)), 0⟩, ⟨(some 32), (.mv (.tmp 3)), (some (30, false)), 0⟩, ⟨(some 33), (.iaddrS 2 (.tmp 31) (.tmp 32)), (some (30, false)), 0⟩, ⟨(some 34), (.faddr 1 (.tmp 33)), (some (30, false)), 0⟩, ⟨(some 35), (.load 1 false (.tmp 34)), (some (30, false)), 0⟩, ⟨(some 36), (.len (.tmp 35)), (some (30, false)), 0⟩, ⟨(some 37), (.bin .gtr (.tmp 36) (.val (.lit (.int .i64 10)))), (some (30, false)), 0⟩, ⟨(some 38), (.mv (.tmp 37)), (some (30, false)), 0⟩, ⟨(some 39), (.mv (.tmp 0)), (some (38, true)), 0⟩, ⟨(some 40), (.mv (.tmp 3)), (some (38, true)), 0⟩, ⟨(some 41), (.iaddrS 2 (.tmp 39) (.tmp 40)), (some (38, true)), 0⟩, ⟨(some 42), (.faddr 1 (.tmp 41)), (some (38, true)), 0⟩, ⟨(some 43), (.load 1 false (.tmp 42)), (some (38, true)), 0⟩, ⟨(some 44), (.len (.tmp 43)), (some (38, true)), 0⟩, ⟨(some 45), (.bin .leq (.tmp 44) (.val (.lit (.int .i64 40)))), (some (38, true)), 0⟩, ⟨(some 46), (.pick (.tmp 38) (.tmp 45) (.val (.lit (.bool false)))), (some (30, false)), 0⟩, ⟨(some 47), (.pick (.tmp 30) (.val (.lit (.bool true))) (.tmp 46)), none, 0⟩, ⟨(some 48), (.mv (.tmp 47)), none, 0⟩, ⟨(some 49), (.mv (.tmp 0)), (some (48, false)), 0⟩, ⟨(some 50), (.mv (.tmp 3)), (some (48, false)), 0⟩, ⟨(some 51), (.iaddrS 2 (.tmp 49) (.tmp 50)), (some (48, false)), 0⟩, ⟨(some 52), (.faddr 1 (.tmp 51)), (some (48, false)), 0⟩, ⟨(some 53), (.load 1 false (.tmp 52)), (some (48, false)), 0⟩, ⟨(some 54), (.len (.tmp 53)), (some (48, false)), 0⟩, ⟨(some 55), (.bin .gtr (.tmp 54) (.val (.lit (.int .i64 43)))), (some (48, false)), 0⟩, ⟨(some 56), (.pick (.tmp 48) (.val (.lit (.bool true))) (.tmp 55)), none, 0⟩])
 (.cond (.tmp 56) (.seq (.reg 0 [⟨(some 2), (.mv (.val (.lit (.bool false)))), none, 0⟩])
 .ret) .skip)))
 (.reg 0 [⟨(some 21), (.mv (.tmp 3)), none, 0⟩, ⟨(some 22), (.bin .add (.tmp 21) (.val (.lit (.int .i64 1)))), none, 0⟩, ⟨(some 3), (.mv (.tmp 22)), none, 0⟩])))
def c18 : ACode :=
 (.seq (.reg 0 [⟨(some 2), (.mv (.val (.lit (.bool false)))), none, 0⟩])
 (.seq (.seq (.reg 0 [⟨(some 4), (.mv (.tmp 0)), none, 0⟩, ⟨(some 5), (.len (.tmp 4)), none, 0⟩, ⟨(some 6), (.bin .gtr (.tmp 5) (.val (.lit (.int .i64 4)))), none, 0⟩, ⟨(some 7), (.mv (.tmp 6)), none, 0⟩, ⟨(some 8), (.mv (.tmp 0)), (some (7, true)), 0⟩, ⟨(some 9), (.len (.tmp 8)), (some (7, true)), 0⟩, ⟨(some 10), (.bin .leq (.tmp 9) (.val (.lit (.int .i64 12)))), (some (7, true)), 0⟩, ⟨(some 11), (.pick (.tmp 7) (.tmp 10) (.val (.lit (.bool false)))), none, 0⟩, ⟨(some 12), (.mv (.tmp 11)), none, 0⟩, ⟨(some 13), (.mv (.tmp 0)), (some (12, false)), 0⟩, ⟨(some 14), (.len (.tmp 13)), (some (12, false)), 0⟩, ⟨(some 15), (.bin .gtr (.tmp 14) (.val (.lit (.int .i64 15)))), (some (12, false)), 0⟩, ⟨(some 16), (.pick (.tmp 12) (.val (.lit (.bool true))) (.tmp 15)), none, 0⟩])
 (.cond (.tmp 16) (.seq (.reg 0 [⟨(some 2), (.mv (.val (.lit (.bool false)))), none, 0⟩])
 .ret) .skip))
 (.seq (.seq (.reg 0 [⟨(some 3), (.mv (.val (.lit (.int .i64 0)))), none, 0⟩])
 (.block 0 (.loop c18l0)))
 (.seq (.reg 0 [⟨(some 2), (.mv (.val (.lit (.bool true)))), none, 0⟩])
 .ret))))
theorem e18 : envOf Try.prog muts 18 = some (57, c18, [(Go.Abs.ARes.tmp 2)]) := by kernel_rfl
def c19 : ACode :=
 (.seq (.reg 1 [⟨(some 1), (.box 2 (.tmp 0)), none, 0⟩, ⟨(some 2), (.mv (.val (.lit (.bool false)))), none, 1⟩])
 (.seq (.reg 0 [⟨(some 3), (.faddr 0 (.tmp 1)), none, 0⟩, ⟨(some 4), (.load 1 false (.tmp 3)), none, 0⟩, ⟨(some 5), (.len (.tmp 4)), none, 0⟩, ⟨(some 6), (.bin .leq (.tmp 5) (.val (.lit (.int .i64 43)))), none, 0⟩, ⟨(some 7), (.mv (.tmp 6)), none, 0⟩, ⟨(some 8), (.faddr 1 (.tmp 1)), (some (7, true)), 0⟩, ⟨(some 9), (.load 1 false (.tmp 8)), (some (7, true)), 0⟩, ⟨(some 10), (.len (.tmp 9)), (some (7, true)), 0⟩, ⟨(some 11), (.bin .leq (.tmp 10) (.val (.lit (.int .i64 43)))), (some (7, true)), 0⟩, ⟨(some 12), (.pick (.tmp 7) (.tmp 11) (.val (.lit (.bool false)))), none, 0⟩, ⟨(some 2), (.mv (.tmp 12)), none, 0⟩])
 .ret))
theorem e19 : envOf Try.prog muts 19 = some (13, c19, [(Go.Abs.ARes.tmp 2)]) := by kernel_rfl
def c22l0 : ACode :=
 (.seq (.seq (.reg 0 [⟨(some 5), (.mv (.tmp 4)), none, 0⟩, ⟨(some 6), (.mv (.tmp 0)), none, 0⟩, ⟨(some 7), (.len (.tmp 6)), none, 0⟩, ⟨(some 8), (.bin .lss (.tmp 5) (.tmp 7)), none, 0⟩])
 (.cond (.tmp 8) .skip (.exit 0)))
 (.seq (.block 1 (.dreg 2 [(0, ⟨(some 11), (.mv (.tmp 3)), none, 0⟩), (1, ⟨(some 12), (.mv (.tmp 0)), none, 0⟩), (2, ⟨(some 13), (.mv (.tmp 4)), none, 0⟩), (3, ⟨(some 14), (.iaddrS 2 (.tmp 12) (.tmp 13)), none, 0⟩), (4, ⟨(some 15), (.faddr 0 (.tmp 14)), none, 0⟩), (5, ⟨(some 16), (.load 1 false (.tmp 15)), none, 0⟩), (6, ⟨(some 17), (.mv (.tmp 0)), none, 0⟩), (7, ⟨(some 18), (.mv (.tmp 4)), none, 0⟩), (8, ⟨(some 19), (.iaddrS 2 (.tmp 17) (.tmp 18)), none, 0⟩), (9, ⟨(some 20), (.faddr 1 (.tmp 19)), none, 0⟩), (10, ⟨(some 21), (.load 1 false (.tmp 20)), none, 0⟩), (11, ⟨(some 22), (.call false (.val (.lit (.func (.func 53) #[] #[]))) [(.tmp 21)]), none, 0⟩), (12, ⟨(some 23), (.build [(.lit (.string ⟨#[]⟩)), (.sl true 0 [])] [(0, (1, (.tmp 16))), (1, (1, (.tmp 22)))]), none, 0⟩), (13, ⟨(some 24), (.bslice 2 1 [(.lit (.string ⟨#[]⟩)), (.sl true 0 [])] [(0, (.tmp 23))]), none, 0⟩), (14, ⟨(some 25), (.app 2 40 (.tmp 11) (.tmp 24)), none, 1⟩), (15, ⟨(some 3), (.mv (.tmp 25)), none, 2⟩)] [[], [], [], [1, 2], [3, 1, 2], [4, 3, 1, 2], [], [], [6, 7], [8, 6, 7], [9, 8, 6, 7], [10, 9, 8, 6, 7], [5, 11, 4, 3, 1, 2, 10, 9, 8, 6, 7], [12, 5, 11, 4, 3, 1, 2, 10, 9, 8, 6, 7], [0, 13, 11, 12, 5, 4, 3, 1, 2, 10, 9, 8, 6, 7], [14, 0, 1, 2, 3, 4, 5, 6, 7, 8, 9, 10, 11, 12, 13]]))
 (.reg 0 [⟨(some 9), (.mv (.tmp 4)), none, 0⟩, ⟨(some 10), (.bin .add (.tmp 9) (.val (.lit (.int .i64 1)))), none, 0⟩, ⟨(some 4), (.mv (.tmp 10)), none, 0⟩])))
def c22 : ACode :=
 (.seq (.reg 0 [⟨(some 2), (.mv (.val (.sl true 0 []))), none, 0⟩])
 (.seq (.reg 0 [⟨(some 3), (.mv (.val (.sl true 0 []))), none, 0⟩])
 (.seq (.seq (.reg 0 [⟨(some 4), (.mv (.val (.lit (.int .i64 0)))), none, 0⟩])
 (.block 0 (.loop c22l0)))
 (.seq (.reg 0 [⟨(some 26), (.mv (.tmp 3)), none, 0⟩, ⟨(some 2), (.mv (.tmp 26)), none, 0⟩])
 .ret))))
theorem e22 : envOf Try.prog muts 22 = some (27, c22, [(Go.Abs.ARes.tmp 2)]) := by kernel_rfl
def c23 : ACode :=
 (.seq (.reg 2 [⟨(some 1), (.box 2 (.tmp 0)), none, 0⟩, ⟨(some 2), (.alloc [(.sl true 0 []), (.sl true 0 [])]), none, 1⟩])
 (.seq (.dreg 0 [(0, ⟨(some 3), (.faddr 0 (.tmp 1)), none, 0⟩), (1, ⟨(some 4), (.load 1 false (.tmp 3)), none, 0⟩), (2, ⟨(some 5), (.call false (.val (.lit (.func (.func 53) #[] #[]))) [(.tmp 4)]), none, 0⟩), (3, ⟨(some 6), (.faddr 1 (.tmp 1)), none, 0⟩), (4, ⟨(some 7), (.load 1 false (.tmp 6)), none, 0⟩), (5, ⟨(some 8), (.call false (.val (.lit (.func (.func 53) #[] #[]))) [(.tmp 7)]), none, 0⟩), (6, ⟨(some 9), (.build [(.sl true 0 []), (.sl true 0 [])] [(0, (1, (.tmp 5))), (1, (1, (.tmp 8)))]), none, 0⟩), (7, ⟨none, (.store 2 (.tmp 2) (.tmp 9)), none, 0⟩)] [[], [0], [1, 0], [], [3], [4, 2, 3, 1, 0], [2, 5, 1, 0, 4, 3], [6, 5, 0, 1, 2, 3, 4]])
 .ret))
theorem e23 : envOf Try.prog muts 23 = some (10, c23, [(Go.Abs.ARes.cell 2 true 2)]) := by kernel_rfl
def c26l0 : ACode :=
 (.seq (.seq (.reg 0 [⟨(some 28), (.mv (.tmp 7)), none, 0⟩, ⟨(some 29), (.mv (.tmp 5)), none, 0⟩, ⟨(some 30), (.bin .lss (.tmp 28) (.tmp 29)), none, 0⟩])
 (.cond (.tmp 30) .skip (.exit 0)))
 (.seq (.block 1 (.seq (.seq (.reg 0 [⟨(some 33), (.faddr 0 (.tmp 3)), none, 0⟩, ⟨(some 34), (.load 1 false (.tmp 33)), none, 0⟩, ⟨(some 35), (.mv (.tmp 7)), none, 0⟩, ⟨(some 36), (.iaddrS 1 (.tmp 34) (.tmp 35)), none, 0⟩, ⟨(some 37), (.load 1 false (.tmp 36)), none, 0⟩, ⟨(some 38), (.call false (.val (.lit (.func (.func 15) #[] #[]))) [(.tmp 37), (.val (.lit (.int .i64 0))), (.val (.lit (.int .i64 10000)))]), none, 0⟩, ⟨(some 39), (.not (.tmp 38)), none, 0⟩, ⟨(some 40), (.mv (.tmp 39)), none, 0⟩, ⟨(some 41), (.faddr 1 (.tmp 3)), (some (40, false)), 0⟩, ⟨(some 42), (.load 1 false (.tmp 41)), (some (40, false)), 0⟩, ⟨(some 43), (.mv (.tmp 7)), (some (40, false)), 0⟩, ⟨(some 44), (.iaddrS 1 (.tmp 42) (.tmp 43)), (some (40, false)), 0⟩, ⟨(some 45), (.load 1 false (.tmp 44)), (some (40, false)), 0⟩, ⟨(some 46), (.call false (.val (.lit (.func (.func 15) #[] #[]))) [(.tmp 45), (.val (.lit (.int .i64 0))), (.val (.lit (.int .i64 10000)))]), (some (40, false)), 0⟩, ⟨(some 47), (.not (.tmp 46)), (some (40, false)), 0⟩, ⟨(some 48), (.pick (.tmp 40) (.val (.lit (.bool true))) (.tmp 47)), none, 0⟩])
 (.cond (.tmp 48) (.seq (.reg 0 [⟨(some 4), (.mv (.val (.lit (.int .i64 2)))), none, 0⟩])
 .ret) .skip))
 (.seq (.dreg 0 [(0, ⟨(some 49), (.faddr 1 (.tmp 3)), none, 0⟩), (1, ⟨(some 50), (.load 1 false (.tmp 49)), none, 0⟩), (2, ⟨(some 51), (.mv (.tmp 7)), none, 0⟩), (3, ⟨(some 52), (.iaddrS 1 (.tmp 50) (.tmp 51)), none, 0⟩), (4, ⟨(some 53), (.load 1 false (.tmp 52)), none, 0⟩), (5, ⟨(some 54), (.faddr 0 (.tmp 3)), none, 0⟩), (6, ⟨(some 55), (.load 1 false (.tmp 54)), none, 0⟩), (7, ⟨(some 56), (.mv (.tmp 7)), none, 0⟩), (8, ⟨(some 57), (.iaddrS 1 (.tmp 55) (.tmp 56)), none, 0⟩), (9, ⟨(some 58), (.load 1 false (.tmp 57)), none, 0⟩), (10, ⟨(some 59), (.bin .lss (.tmp 53) (.tmp 58)), none, 0⟩)] [[], [0], [], [1, 2, 0], [3, 1, 2, 0], [], [5], [], [6, 7, 5], [8, 6, 7, 5], [4, 9, 3, 1, 2, 0, 8, 6, 7, 5]])
 (.cond (.tmp 59) (.seq (.reg 0 [⟨(some 4), (.mv (.val (.lit (.int .i64 9)))), none, 0⟩])
 .ret) .skip))))
 (.reg 0 [⟨(some 31), (.mv (.tmp 7)), none, 0⟩, ⟨(some 32), (.bin .add (.tmp 31) (.val (.lit (.int .i64 1)))), none, 0⟩, ⟨(some 7), (.mv (.tmp 32)), none, 0⟩])))
def c26 : ACode :=
 (.seq (.reg 1 [⟨(some 3), (.box 2 (.tmp 1)), none, 0⟩, ⟨(some 4), (.mv (.val (.lit (.int .i64 0)))), none, 1⟩])
 (.seq (.reg 0 [⟨(some 9), (.mv (.tmp 0)), none, 0⟩, ⟨(some 10), (.call false (.val (.lit (.func (.func 38) #[] #[]))) [(.tmp 9)]), none, 0⟩, ⟨(some 8), (.mv (.tmp 10)), none, 0⟩, ⟨(some 11), (.ext (.tmp 8) 0), none, 0⟩, ⟨(some 12), (.ext (.tmp 8) 1), none, 0⟩, ⟨(some 5), (.mv (.tmp 11)), none, 0⟩, ⟨(some 6), (.mv (.tmp 12)), none, 0⟩])
 (.seq (.seq (.reg 0 [⟨(some 13), (.mv (.tmp 6)), none, 0⟩, ⟨(some 14), (.bin .neq (.tmp 13) (.val (.lit (.int .i64 0)))), none, 0⟩])
 (.cond (.tmp 14) (.seq (.reg 0 [⟨(some 15), (.mv (.tmp 6)), none, 0⟩, ⟨(some 4), (.mv (.tmp 15)), none, 0⟩])
 .ret) .skip))
 (.seq (.seq (.reg 0 [⟨(some 16), (.faddr 0 (.tmp 3)), none, 0⟩, ⟨(some 17), (.load 1 false (.tmp 16)), none, 0⟩, ⟨(some 18), (.len (.tmp 17)), none, 0⟩, ⟨(some 19), (.mv (.tmp 5)), none, 0⟩, ⟨(some 20), (.bin .neq (.tmp 18) (.tmp 19)), none, 0⟩, ⟨(some 21), (.mv (.tmp 20)), none, 0⟩, ⟨(some 22), (.faddr 1 (.tmp 3)), (some (21, false)), 0⟩, ⟨(some 23), (.load 1 false (.tmp 22)), (some (21, false)), 0⟩, ⟨(some 24), (.len (.tmp 23)), (some (21, false)), 0⟩, ⟨(some 25), (.mv (.tmp 5)), (some (21, false)), 0⟩, ⟨(some 26), (.bin .neq (.tmp 24) (.tmp 25)), (some (21, false)), 0⟩, ⟨(some 27), (.pick (.tmp 21) (.val (.lit (.bool true))) (.tmp 26)), none, 0⟩])
 (.cond (.tmp 27) (.seq (.reg 0 [⟨(some 4), (.mv (.val (.lit (.int .i64 10)))), none, 0⟩])
 .ret) .skip))
 (.seq (.seq (.reg 0 [⟨(some 7), (.mv (.val (.lit (.int .i64 0)))), none, 0⟩])
 (.block 0 (.loop c26l0)))
 (.seq (.reg 0 [⟨(some 4), (.mv (.val (.lit (.int .i64 0)))), none, 0⟩])
 .ret))))))
theorem e26 : envOf Try.prog muts 26 = some (60, c26, [(Go.Abs.ARes.tmp 4)]) := by kernel_rfl
def c28l0 : ACode :=
 (.seq (.seq (.reg 0 [⟨(some 4), (.mv (.tmp 3)), none, 0⟩, ⟨(some 5), (.mv (.tmp 0)), none, 0⟩, ⟨(some 6), (.len (.tmp 5)), none, 0⟩, ⟨(some 7), (.bin .lss (.tmp 4) (.tmp 6)), none, 0⟩])
 (.cond (.tmp 7) .skip (.exit 0)))
 (.seq (.block 1 (.seq (.reg 0 [⟨(some 10), (.mv (.tmp 0)), none, 0⟩, ⟨(some 11), (.mv (.tmp 3)), none, 0⟩, ⟨(some 12), (.iaddrS 3 (.tmp 10) (.tmp 11)), none, 0⟩, ⟨(some 13), (.faddr 0 (.tmp 12)), none, 0⟩, ⟨(some 14), (.load 1 false (.tmp 13)), none, 0⟩, ⟨(some 15), (.lenS (.tmp 14)), none, 0⟩, ⟨(some 16), (.bin .gtr (.tmp 15) (.val (.lit (.int .i64 30)))), none, 0⟩, ⟨(some 17), (.mv (.tmp 16)), none, 0⟩, ⟨(some 18), (.mv (.tmp 0)), (some (17, false)), 0⟩, ⟨(some 19), (.mv (.tmp 3)), (some (17, false)), 0⟩, ⟨(some 20), (.iaddrS 3 (.tmp 18) (.tmp 19)), (some (17, false)), 0⟩, ⟨(some 21), (.faddr 1 (.tmp 20)), (some (17, false)), 0⟩, ⟨(some 22), (.load 1 false (.tmp 21)), (some (17, false)), 0⟩, ⟨(some 23), (.lenS (.tmp 22)), (some (17, false)), 0⟩, ⟨(some 24), (.bin .gtr (.tmp 23) (.val (.lit (.int .i64 30)))), (some (17, false)), 0⟩, ⟨(some 25), (.pick (.tmp 17) (.val (.lit (.bool true))) (.tmp 24)), none, 0⟩])
 (.cond (.tmp 25) (.seq (.reg 0 [⟨(some 2), (.mv (.val (.lit (.bool false)))), none, 0⟩])
 .ret) .skip)))
 (.reg 0 [⟨(some 8), (.mv (.tmp 3)), none, 0⟩, ⟨(some 9), (.bin .add (.tmp 8) (.val (.lit (.int .i64 1)))), none, 0⟩, ⟨(some 3), (.mv (.tmp 9)), none, 0⟩])))
def c28 : ACode :=
 (.seq (.reg 0 [⟨(some 2), (.mv (.val (.lit (.bool false)))), none, 0⟩])
 (.seq (.seq (.reg 0 [⟨(some 3), (.mv (.val (.lit (.int .i64 0)))), none, 0⟩])
 (.block 0 (.loop c28l0)))
 (.seq (.reg 0 [⟨(some 26), (.mv (.tmp 0)), none, 0⟩, ⟨(some 27), (.len (.tmp 26)), none, 0⟩, ⟨(some 28), (.bin .leq (.tmp 27) (.val (.lit (.int .i64 10)))), none, 0⟩, ⟨(some 29), (.mv (.tmp 28)), none, 0⟩, ⟨(some 30), (.mv (.tmp 0)), (some (29, false)), 0⟩, ⟨(some 31), (.len (.tmp 30)), (some (29, false)), 0⟩, ⟨(some 32), (.bin .gtr (.tmp 31) (.val (.lit (.int .i64 200)))), (some (29, false)), 0⟩, ⟨(some 33), (.mv (.tmp 32)), (some (29, false)), 0⟩, ⟨(some 34), (.mv (.tmp 0)), (some (33, true)), 0⟩, ⟨(some 35), (.len (.tmp 34)), (some (33, true)), 0⟩, ⟨(some 36), (.bin .leq (.tmp 35) (.val (.lit (.int .i64 203)))), (some (33, true)), 0⟩, ⟨(some 37), (.pick (.tmp 33) (.tmp 36) (.val (.lit (.bool false)))), (some (29, false)), 0⟩, ⟨(some 38), (.pick (.tmp 29) (.val (.lit (.bool true))) (.tmp 37)), none, 0⟩, ⟨(some 2), (.mv (.tmp 38)), none, 0⟩])
 .ret)))
theorem e28 : envOf Try.prog muts 28 = some (39, c28, [(Go.Abs.ARes.tmp 2)]) := by kernel_rfl
def c30 : ACode :=
 (.seq (.reg 0 [⟨(some 2), (.mv (.val (.sl true 0 []))), none, 0⟩])
 (.seq (.reg 2 [⟨(some 3), (.bslice 3 0 [(.lit (.string ⟨#[]⟩)), (.lit (.string ⟨#[]⟩)), (.lit (.int .i64 0))] []), none, 0⟩, ⟨(some 4), (.mv (.tmp 0)), none, 1⟩, ⟨(some 5), (.app 3 40 (.tmp 3) (.tmp 4)), none, 1⟩, ⟨(some 2), (.mv (.tmp 5)), none, 2⟩])
 .ret))
theorem e30 : envOf Try.prog muts 30 = some (6, c30, [(Go.Abs.ARes.tmp 2)]) := by kernel_rfl
def c33l0 : ACode :=
 (.seq (.seq (.reg 0 [⟨(some 18), (.mv (.tmp 3)), none, 0⟩, ⟨(some 19), (.mv (.tmp 0)), none, 0⟩, ⟨(some 20), (.lenS (.tmp 19)), none, 0⟩, ⟨(some 21), (.bin .lss (.tmp 18) (.tmp 20)), none, 0⟩])
 (.cond (.tmp 21) .skip (.exit 0)))
 (.seq (.block 1 (.seq (.reg 0 [⟨(some 24), (.mv (.tmp 0)), none, 0⟩, ⟨(some 25), (.mv (.tmp 3)), none, 0⟩, ⟨(some 26), (.idxS (.tmp 24) (.tmp 25)), none, 0⟩, ⟨(some 27), (.call false (.val (.lit (.func (.func 74) #[] #[]))) [(.tmp 26)]), none, 0⟩, ⟨(some 28), (.not (.tmp 27)), none, 0⟩, ⟨(some 29), (.mv (.tmp 28)), none, 0⟩, ⟨(some 30), (.mv (.tmp 0)), (some (29, true)), 0⟩, ⟨(some 31), (.mv (.tmp 3)), (some (29, true)), 0⟩, ⟨(some 32), (.idxS (.tmp 30) (.tmp 31)), (some (29, true)), 0⟩, ⟨(some 33), (.call false (.val (.lit (.func (.func 75) #[] #[]))) [(.tmp 32)]), (some (29, true)), 0⟩, ⟨(some 34), (.not (.tmp 33)), (some (29, true)), 0⟩, ⟨(some 35), (.pick (.tmp 29) (.tmp 34) (.val (.lit (.bool false)))), none, 0⟩, ⟨(some 36), (.mv (.tmp 35)), none, 0⟩, ⟨(some 37), (.mv (.tmp 0)), (some (36, true)), 0⟩, ⟨(some 38), (.mv (.tmp 3)), (some (36, true)), 0⟩, ⟨(some 39), (.idxS (.tmp 37) (.tmp 38)), (some (36, true)), 0⟩, ⟨(some 40), (.bin .neq (.tmp 39) (.val (.lit (.int .u8 45)))), (some (36, true)), 0⟩, ⟨(some 41), (.pick (.tmp 36) (.tmp 40) (.val (.lit (.bool false)))), none, 0⟩])
 (.cond (.tmp 41) (.seq (.reg 0 [⟨(some 2), (.mv (.val (.lit (.bool false)))), none, 0⟩])
 .ret) .skip)))
 (.reg 0 [⟨(some 22), (.mv (.tmp 3)), none, 0⟩, ⟨(some 23), (.bin .add (.tmp 22) (.val (.lit (.int .i64 1)))), none, 0⟩, ⟨(some 3), (.mv (.tmp 23)), none, 0⟩])))
def c33 : ACode :=
 (.seq (.reg 0 [⟨(some 2), (.mv (.val (.lit (.bool false)))), none, 0⟩])
 (.seq (.seq (.reg 0 [⟨(some 4), (.mv (.tmp 0)), none, 0⟩, ⟨(some 5), (.lenS (.tmp 4)), none, 0⟩, ⟨(some 6), (.bin .eql (.tmp 5) (.val (.lit (.int .i64 0)))), none, 0⟩, ⟨(some 7), (.mv (.tmp 6)), none, 0⟩, ⟨(some 8), (.mv (.tmp 0)), (some (7, false)), 0⟩, ⟨(some 9), (.lenS (.tmp 8)), (some (7, false)), 0⟩, ⟨(some 10), (.bin .gtr (.tmp 9) (.val (.lit (.int .i64 12)))), (some (7, false)), 0⟩, ⟨(some 11), (.pick (.tmp 7) (.val (.lit (.bool true))) (.tmp 10)), none, 0⟩, ⟨(some 12), (.mv (.tmp 11)), none, 0⟩, ⟨(some 13), (.mv (.tmp 0)), (some (12, false)), 0⟩, ⟨(some 14), (.idxS (.tmp 13) (.val (.lit (.int .i64 0)))), (some (12, false)), 0⟩, ⟨(some 15), (.call false (.val (.lit (.func (.func 74) #[] #[]))) [(.tmp 14)]), (some (12, false)), 0⟩, ⟨(some 16), (.not (.tmp 15)), (some (12, false)), 0⟩, ⟨(some 17), (.pick (.tmp 12) (.val (.lit (.bool true))) (.tmp 16)), none, 0⟩])
 (.cond (.tmp 17) (.seq (.reg 0 [⟨(some 2), (.mv (.val (.lit (.bool false)))), none, 0⟩])
 .ret) .skip))
 (.seq (.seq (.reg 0 [⟨(some 3), (.mv (.val (.lit (.int .i64 0)))), none, 0⟩])
 (.block 0 (.loop c33l0)))
 (.seq (.reg 0 [⟨(some 2), (.mv (.val (.lit (.bool true)))), none, 0⟩])
 .ret))))
theorem e33 : envOf Try.prog muts 33 = some (42, c33, [(Go.Abs.ARes.tmp 2)]) := by kernel_rfl
def c34l0 : ACode :=
 (.seq (.seq (.reg 0 [⟨(some 11), (.mv (.tmp 5)), none, 0⟩, ⟨(some 12), (.mv (.tmp 0)), none, 0⟩, ⟨(some 13), (.len (.tmp 12)), none, 0⟩, ⟨(some 14), (.bin .lss (.tmp 11) (.tmp 13)), none, 0⟩])
 (.cond (.tmp 14) .skip (.exit 0)))
 (.seq (.block 1 (.seq (.dreg 0 [(0, ⟨(some 17), (.mv (.tmp 0)), none, 0⟩), (1, ⟨(some 18), (.mv (.tmp 5)), none, 0⟩), (2, ⟨(some 19), (.iaddrS 1 (.tmp 17) (.tmp 18)), none, 0⟩), (3, ⟨(some 20), (.load 1 false (.tmp 19)), none, 0⟩), (4, ⟨(some 21), (.mv (.tmp 1)), none, 0⟩), (5, ⟨(some 22), (.mv (.tmp 5)), none, 0⟩), (6, ⟨(some 23), (.iaddrS 1 (.tmp 21) (.tmp 22)), none, 0⟩), (7, ⟨(some 24), (.load 1 false (.tmp 23)), none, 0⟩), (8, ⟨(some 25), (.bin .neq (.tmp 20) (.tmp 24)), none, 0⟩)] [[], [], [0, 1], [2, 0, 1], [], [], [4, 5], [6, 4, 5], [3, 7, 2, 0, 1, 6, 4, 5]])
 (.cond (.tmp 25) (.seq (.reg 0 [⟨(some 4), (.mv (.val (.lit (.bool false)))), none, 0⟩])
 .ret) .skip)))
 (.reg 0 [⟨(some 15), (.mv (.tmp 5)), none, 0⟩, ⟨(some 16), (.bin .add (.tmp 15) (.val (.lit (.int .i64 1)))), none, 0⟩, ⟨(some 5), (.mv (.tmp 16)), none, 0⟩])))
def c34 : ACode :=
 (.seq (.reg 0 [⟨(some 4), (.mv (.val (.lit (.bool false)))), none, 0⟩])
 (.seq (.seq (.reg 0 [⟨(some 6), (.mv (.tmp 0)), none, 0⟩, ⟨(some 7), (.len (.tmp 6)), none, 0⟩, ⟨(some 8), (.mv (.tmp 1)), none, 0⟩, ⟨(some 9), (.len (.tmp 8)), none, 0⟩, ⟨(some 10), (.bin .neq (.tmp 7) (.tmp 9)), none, 0⟩])
 (.cond (.tmp 10) (.seq (.reg 0 [⟨(some 4), (.mv (.val (.lit (.bool false)))), none, 0⟩])
 .ret) .skip))
 (.seq (.seq (.reg 0 [⟨(some 5), (.mv (.val (.lit (.int .i64 0)))), none, 0⟩])
 (.block 0 (.loop c34l0)))
 (.seq (.reg 0 [⟨(some 4), (.mv (.val (.lit (.bool true)))), none, 0⟩])
 .ret))))
theorem e34 : envOf Try.prog muts 34 = some (26, c34, [(Go.Abs.ARes.tmp 4)]) := by kernel_rfl
def c35l0 : ACode :=
 (.seq (.seq (.reg 0 [⟨(some 37), (.mv (.tmp 10)), none, 0⟩, ⟨(some 38), (.mv (.tmp 7)), none, 0⟩, ⟨(some 39), (.len (.tmp 38)), none, 0⟩, ⟨(some 40), (.bin .lss (.tmp 37) (.tmp 39)), none, 0⟩])
 (.cond (.tmp 40) .skip (.exit 2)))
 (.seq (.block 3 (.dreg 0 [(0, ⟨(some 43), (.mv (.tmp 7)), none, 0⟩), (1, ⟨(some 44), (.mv (.tmp 10)), none, 0⟩), (2, ⟨(some 45), (.mv (.tmp 7)), none, 0⟩), (3, ⟨(some 46), (.mv (.tmp 10)), none, 0⟩), (4, ⟨(some 47), (.iaddrS 1 (.tmp 45) (.tmp 46)), none, 0⟩), (5, ⟨(some 48), (.load 1 false (.tmp 47)), none, 0⟩), (6, ⟨(some 49), (.mv (.tmp 1)), none, 0⟩), (7, ⟨(some 50), (.mv (.tmp 8)), none, 0⟩), (8, ⟨(some 51), (.iaddrS 3 (.tmp 49) (.tmp 50)), none, 0⟩), (9, ⟨(some 52), (.faddr 2 (.tmp 51)), none, 0⟩), (10, ⟨(some 53), (.load 1 false (.tmp 52)), none, 0⟩), (11, ⟨(some 54), (.mv (.tmp 0)), none, 0⟩), (12, ⟨(some 55), (.mv (.tmp 9)), none, 0⟩), (13, ⟨(some 56), (.iaddrS 2 (.tmp 54) (.tmp 55)), none, 0⟩), (14, ⟨(some 57), (.faddr 1 (.tmp 56)), none, 0⟩), (15, ⟨(some 58), (.load 1 false (.tmp 57)), none, 0⟩), (16, ⟨(some 59), (.mv (.tmp 10)), none, 0⟩), (17, ⟨(some 60), (.iaddrS 1 (.tmp 58) (.tmp 59)), none, 0⟩), (18, ⟨(some 61), (.load 1 false (.tmp 60)), none, 0⟩), (19, ⟨(some 62), (.bin .mul (.tmp 53) (.tmp 61)), none, 0⟩), (20, ⟨(some 63), (.bin .add (.tmp 48) (.tmp 62)), none, 0⟩), (21, ⟨(some 64), (.iaddrS 1 (.tmp 43) (.tmp 44)), none, 0⟩), (22, ⟨none, (.store 1 (.tmp 64) (.tmp 63)), none, 0⟩)] [[], [], [], [], [2, 3], [4, 2, 3], [], [], [6, 7], [8, 6, 7], [9, 8, 6, 7], [], [], [11, 12], [13, 11, 12], [14, 13, 11, 12], [], [15, 16, 14, 13, 11, 12], [17, 15, 16, 14, 13, 11, 12], [10, 18, 9, 8, 6, 7, 17, 15, 16, 14, 13, 11, 12], [5, 19, 4, 2, 3, 10, 18, 9, 8, 6, 7, 17, 15, 16, 14, 13, 11, 12], [0, 1, 2, 3, 4, 5, 6, 7, 8, 9, 10, 11, 12, 13, 14, 15, 16, 17, 18, 19, 20], [21, 20, 0, 1, 2, 3, 4, 5, 6, 7, 8, 9, 10, 11, 12, 13, 14, 15, 16, 17, 18, 19]]))
 (.reg 0 [⟨(some 41), (.mv (.tmp 10)), none, 0⟩, ⟨(some 42), (.bin .add (.tmp 41) (.val (.lit (.int .i64 1)))), none, 0⟩, ⟨(some 10), (.mv (.tmp 42)), none, 0⟩])))
def c35l1 : ACode :=
 (.seq (.seq (.reg 0 [⟨(some 17), (.mv (.tmp 8)), none, 0⟩, ⟨(some 18), (.mv (.tmp 1)), none, 0⟩, ⟨(some 19), (.len (.tmp 18)), none, 0⟩, ⟨(some 20), (.bin .lss (.tmp 17) (.tmp 19)), none, 0⟩])
 (.cond (.tmp 20) .skip (.exit 0)))
 (.seq (.block 1 (.seq (.seq (.reg 0 [⟨(some 23), (.mv (.tmp 1)), none, 0⟩, ⟨(some 24), (.mv (.tmp 8)), none, 0⟩, ⟨(some 25), (.iaddrS 3 (.tmp 23) (.tmp 24)), none, 0⟩, ⟨(some 26), (.faddr 0 (.tmp 25)), none, 0⟩, ⟨(some 27), (.load 1 false (.tmp 26)), none, 0⟩, ⟨(some 28), (.mv (.tmp 2)), none, 0⟩, ⟨(some 29), (.bin .neq (.tmp 27) (.tmp 28)), none, 0⟩])
 (.cond (.tmp 29) (.exit 1) .skip))
 (.seq (.reg 0 [⟨(some 30), (.mv (.tmp 0)), none, 0⟩, ⟨(some 31), (.mv (.tmp 1)), none, 0⟩, ⟨(some 32), (.mv (.tmp 8)), none, 0⟩, ⟨(some 33), (.iaddrS 3 (.tmp 31) (.tmp 32)), none, 0⟩, ⟨(some 34), (.faddr 1 (.tmp 33)), none, 0⟩, ⟨(some 35), (.load 1 false (.tmp 34)), none, 0⟩, ⟨(some 36), (.call false (.val (.lit (.func (.func 76) #[] #[]))) [(.tmp 30), (.tmp 35)]), none, 0⟩, ⟨(some 9), (.mv (.tmp 36)), none, 0⟩])
 (.seq (.reg 0 [⟨(some 10), (.mv (.val (.lit (.int .i64 0)))), none, 0⟩])
 (.block 2 (.loop c35l0))))))
 (.reg 0 [⟨(some 21), (.mv (.tmp 8)), none, 0⟩, ⟨(some 22), (.bin .add (.tmp 21) (.val (.lit (.int .i64 1)))), none, 0⟩, ⟨(some 8), (.mv (.tmp 22)), none, 0⟩])))
def c35 : ACode :=
 (.seq (.reg 0 [⟨(some 6), (.mv (.val (.sl true 0 []))), none, 0⟩])
 (.seq (.reg 1 [⟨(some 11), (.mv (.tmp 0)), none, 0⟩, ⟨(some 12), (.iaddrS 2 (.tmp 11) (.val (.lit (.int .i64 0)))), none, 0⟩, ⟨(some 13), (.faddr 1 (.tmp 12)), none, 0⟩, ⟨(some 14), (.load 1 false (.tmp 13)), none, 0⟩, ⟨(some 15), (.len (.tmp 14)), none, 0⟩, ⟨(some 16), (.mks 1 8 [(.lit (.int .i64 0))] (.tmp 15) (.tmp 15)), none, 0⟩, ⟨(some 7), (.mv (.tmp 16)), none, 1⟩])
 (.seq (.seq (.reg 0 [⟨(some 8), (.mv (.val (.lit (.int .i64 0)))), none, 0⟩])
 (.block 0 (.loop c35l1)))
 (.seq (.reg 0 [⟨(some 65), (.mv (.tmp 7)), none, 0⟩, ⟨(some 6), (.mv (.tmp 65)), none, 0⟩])
 .ret))))
theorem e35 : envOf Try.prog muts 35 = some (66, c35, [(Go.Abs.ARes.tmp 6)]) := by kernel_rfl
def c38l0 : ACode :=
 (.seq (.seq (.reg 0 [⟨(some 56), (.mv (.tmp 5)), none, 0⟩, ⟨(some 57), (.mv (.tmp 0)), none, 0⟩, ⟨(some 58), (.mv (.tmp 4)), none, 0⟩, ⟨(some 59), (.iaddrS 2 (.tmp 57) (.tmp 58)), none, 0⟩, ⟨(some 60), (.faddr 1 (.tmp 59)), none, 0⟩, ⟨(some 61), (.load 1 false (.tmp 60)), none, 0⟩, ⟨(some 62), (.len (.tmp 61)), none, 0⟩, ⟨(some 63), (.bin .lss (.tmp 56) (.tmp 62)), none, 0⟩])
 (.cond (.tmp 63) .skip (.exit 2)))
 (.seq (.block 3 (.seq (.reg 0 [⟨(some 66), (.mv (.tmp 0)), none, 0⟩, ⟨(some 67), (.mv (.tmp 4)), none, 0⟩, ⟨(some 68), (.iaddrS 2 (.tmp 66) (.tmp 67)), none, 0⟩, ⟨(some 69), (.faddr 1 (.tmp 68)), none, 0⟩, ⟨(some 70), (.load 1 false (.tmp 69)), none, 0⟩, ⟨(some 71), (.mv (.tmp 5)), none, 0⟩, ⟨(some 72), (.iaddrS 1 (.tmp 70) (.tmp 71)), none, 0⟩, ⟨(some 73), (.load 1 false (.tmp 72)), none, 0⟩, ⟨(some 74), (.call false (.val (.lit (.func (.func 15) #[] #[]))) [(.tmp 73), (.val (.lit (.int .i64 0))), (.val (.lit (.int .i64 100)))]), none, 0⟩, ⟨(some 75), (.not (.tmp 74)), none, 0⟩])
 (.cond (.tmp 75) (.seq (.reg 0 [⟨(some 2), (.mv (.val (.lit (.int .i64 0)))), none, 0⟩, ⟨(some 3), (.mv (.val (.lit (.int .i64 2)))), none, 0⟩])
 .ret) .skip)))
 (.reg 0 [⟨(some 64), (.mv (.tmp 5)), none, 0⟩, ⟨(some 65), (.bin .add (.tmp 64) (.val (.lit (.int .i64 1)))), none, 0⟩, ⟨(some 5), (.mv (.tmp 65)), none, 0⟩])))
def c38l1 : ACode :=
 (.seq (.seq (.reg 0 [⟨(some 12), (.mv (.tmp 4)), none, 0⟩, ⟨(some 13), (.mv (.tmp 0)), none, 0⟩, ⟨(some 14), (.len (.tmp 13)), none, 0⟩, ⟨(some 15), (.bin .lss (.tmp 12) (.tmp 14)), none, 0⟩])
 (.cond (.tmp 15) .skip (.exit 0)))
 (.seq (.block 1 (.seq (.seq (.reg 0 [⟨(some 18), (.mv (.tmp 0)), none, 0⟩, ⟨(some 19), (.mv (.tmp 4)), none, 0⟩, ⟨(some 20), (.iaddrS 2 (.tmp 18) (.tmp 19)), none, 0⟩, ⟨(some 21), (.faddr 0 (.tmp 20)), none, 0⟩, ⟨(some 22), (.load 1 false (.tmp 21)), none, 0⟩, ⟨(some 23), (.call false (.val (.lit (.func (.func 33) #[] #[]))) [(.tmp 22)]), none, 0⟩, ⟨(some 24), (.not (.tmp 23)), none, 0⟩])
 (.cond (.tmp 24) (.seq (.reg 0 [⟨(some 2), (.mv (.val (.lit (.int .i64 0)))), none, 0⟩, ⟨(some 3), (.mv (.val (.lit (.int .i64 4)))), none, 0⟩])
 .ret) .skip))
 (.seq (.seq (.reg 0 [⟨(some 25), (.mv (.tmp 0)), none, 0⟩, ⟨(some 26), (.mv (.tmp 0)), none, 0⟩, ⟨(some 27), (.mv (.tmp 4)), none, 0⟩, ⟨(some 28), (.iaddrS 2 (.tmp 26) (.tmp 27)), none, 0⟩, ⟨(some 29), (.faddr 0 (.tmp 28)), none, 0⟩, ⟨(some 30), (.load 1 false (.tmp 29)), none, 0⟩, ⟨(some 31), (.call false (.val (.lit (.func (.func 76) #[] #[]))) [(.tmp 25), (.tmp 30)]), none, 0⟩, ⟨(some 32), (.mv (.tmp 4)), none, 0⟩, ⟨(some 33), (.bin .lss (.tmp 31) (.tmp 32)), none, 0⟩])
 (.cond (.tmp 33) (.seq (.reg 0 [⟨(some 2), (.mv (.val (.lit (.int .i64 0)))), none, 0⟩, ⟨(some 3), (.mv (.val (.lit (.int .i64 5)))), none, 0⟩])
 .ret) .skip))
 (.seq (.seq (.dreg 0 [(0, ⟨(some 34), (.mv (.tmp 0)), none, 0⟩), (1, ⟨(some 35), (.mv (.tmp 4)), none, 0⟩), (2, ⟨(some 36), (.iaddrS 2 (.tmp 34) (.tmp 35)), none, 0⟩), (3, ⟨(some 37), (.faddr 1 (.tmp 36)), none, 0⟩), (4, ⟨(some 38), (.load 1 false (.tmp 37)), none, 0⟩), (5, ⟨(some 39), (.len (.tmp 38)), none, 0⟩), (6, ⟨(some 40), (.mv (.tmp 0)), none, 0⟩), (7, ⟨(some 41), (.iaddrS 2 (.tmp 40) (.val (.lit (.int .i64 0)))), none, 0⟩), (8, ⟨(some 42), (.faddr 1 (.tmp 41)), none, 0⟩), (9, ⟨(some 43), (.load 1 false (.tmp 42)), none, 0⟩), (10, ⟨(some 44), (.len (.tmp 43)), none, 0⟩), (11, ⟨(some 45), (.bin .neq (.tmp 39) (.tmp 44)), none, 0⟩), (12, ⟨(some 46), (.mv (.tmp 45)), none, 0⟩), (13, ⟨(some 47), (.mv (.tmp 0)), (some (46, false)), 0⟩), (14, ⟨(some 48), (.mv (.tmp 4)), (some (46, false)), 0⟩), (15, ⟨(some 49), (.iaddrS 2 (.tmp 47) (.tmp 48)), (some (46, false)), 0⟩), (16, ⟨(some 50), (.faddr 1 (.tmp 49)), (some (46, false)), 0⟩), (17, ⟨(some 51), (.load 1 false (.tmp 50)), (some (46, false)), 0⟩), (18, ⟨(some 52), (.len (.tmp 51)), (some (46, false)), 0⟩), (19, ⟨(some 53), (.call false (.val (.lit (.func (.func 15) #[] #[]))) [(.tmp 52), (.val (.lit (.int .i64 1))), (.val (.lit (.int .i64 40)))]), (some (46, false)), 0⟩), (20, ⟨(some 54), (.not (.tmp 53)), (some (46, false)), 0⟩), (21, ⟨(some 55), (.pick (.tmp 46) (.val (.lit (.bool true))) (.tmp 54)), none, 0⟩)] [[], [], [0, 1], [2, 0, 1], [3, 2, 0, 1], [4, 3, 2, 0, 1], [], [6], [7, 6], [8, 7, 6], [9, 8, 7, 6], [5, 10, 4, 3, 2, 0, 1, 9, 8, 7, 6], [11, 5, 10, 4, 3, 2, 0, 1, 9, 8, 7, 6], [12, 11, 5, 10, 4, 3, 2, 0, 1, 9, 8, 7, 6], [12, 11, 5, 10, 4, 3, 2, 0, 1, 9, 8, 7, 6], [13, 14, 12, 11, 5, 10, 4, 3, 2, 0, 1, 9, 8, 7, 6], [15, 12, 13, 14, 11, 5, 10, 4, 3, 2, 0, 1, 9, 8, 7, 6], [16, 12, 15, 13, 14, 11, 5, 10, 4, 3, 2, 0, 1, 9, 8, 7, 6], [17, 12, 16, 15, 13, 14, 11, 5, 10, 4, 3, 2, 0, 1, 9, 8, 7, 6], [18, 12, 17, 16, 15, 13, 14, 11, 5, 10, 4, 3, 2, 0, 1, 9, 8, 7, 6], [19, 12, 18, 17, 16, 15, 13, 14, 11, 5, 10, 4, 3, 2, 0, 1, 9, 8, 7, 6], [12, 20, 11, 5, 10, 4, 3, 2, 0, 1, 9, 8, 7, 6, 19, 18, 17, 16, 15, 13, 14]])
 (.cond (.tmp 55) (.seq (.reg 0 [⟨(some 2), (.mv (.val (.lit (.int .i64 0)))), none, 0⟩, ⟨(some 3), (.mv (.val (.lit (.int .i64 10)))), none, 0⟩])
 .ret) .skip))
 (.seq (.reg 0 [⟨(some 5), (.mv (.val (.lit (.int .i64 0)))), none, 0⟩])
 (.block 2 (.loop c38l0)))))))
 (.reg 0 [⟨(some 16), (.mv (.tmp 4)), none, 0⟩, ⟨(some 17), (.bin .add (.tmp 16) (.val (.lit (.int .i64 1)))), none, 0⟩, ⟨(some 4), (.mv (.tmp 17)), none, 0⟩])))
def c38 : ACode :=
 (.seq (.reg 0 [⟨(some 2), (.mv (.val (.lit (.int .i64 0)))), none, 0⟩, ⟨(some 3), (.mv (.val (.lit (.int .i64 0)))), none, 0⟩])
 (.seq (.seq (.reg 0 [⟨(some 6), (.mv (.tmp 0)), none, 0⟩, ⟨(some 7), (.len (.tmp 6)), none, 0⟩, ⟨(some 8), (.bin .eql (.tmp 7) (.val (.lit (.int .i64 0)))), none, 0⟩])
 (.cond (.tmp 8) (.seq (.reg 0 [⟨(some 2), (.mv (.val (.lit (.int .i64 0)))), none, 0⟩, ⟨(some 3), (.mv (.val (.lit (.int .i64 10)))), none, 0⟩])
 .ret) .skip))
 (.seq (.seq (.reg 0 [⟨(some 9), (.mv (.tmp 0)), none, 0⟩, ⟨(some 10), (.len (.tmp 9)), none, 0⟩, ⟨(some 11), (.bin .gtr (.tmp 10) (.val (.lit (.int .i64 12)))), none, 0⟩])
 (.cond (.tmp 11) (.seq (.reg 0 [⟨(some 2), (.mv (.val (.lit (.int .i64 0)))), none, 0⟩, ⟨(some 3), (.mv (.val (.lit (.int .i64 8)))), none, 0⟩])
 .ret) .skip))
 (.seq (.seq (.reg 0 [⟨(some 4), (.mv (.val (.lit (.int .i64 0)))), none, 0⟩])
 (.block 0 (.loop c38l1)))
 (.seq (.reg 0 [⟨(some 76), (.mv (.tmp 0)), none, 0⟩, ⟨(some 77), (.iaddrS 2 (.tmp 76) (.val (.lit (.int .i64 0)))), none, 0⟩, ⟨(some 78), (.faddr 1 (.tmp 77)), none, 0⟩, ⟨(some 79), (.load 1 false (.tmp 78)), none, 0⟩, ⟨(some 80), (.len (.tmp 79)), none, 0⟩, ⟨(some 2), (.mv (.tmp 80)), none, 0⟩, ⟨(some 3), (.mv (.val (.lit (.int .i64 0)))), none, 0⟩])
 .ret)))))
theorem e38 : envOf Try.prog muts 38 = some (81, c38, [(Go.Abs.ARes.tmp 2), (Go.Abs.ARes.tmp 3)]) := by kernel_rfl
def c53 : ACode :=
 (.seq (.reg 0 [⟨(some 2), (.mv (.val (.sl true 0 []))), none, 0⟩])
 (.seq (.reg 2 [⟨(some 3), (.bslice 1 0 [(.lit (.int .i64 0))] []), none, 0⟩, ⟨(some 4), (.mv (.tmp 0)), none, 1⟩, ⟨(some 5), (.app 1 8 (.tmp 3) (.tmp 4)), none, 1⟩, ⟨(some 2), (.mv (.tmp 5)), none, 2⟩])
 .ret))
theorem e53 : envOf Try.prog muts 53 = some (6, c53, [(Go.Abs.ARes.tmp 2)]) := by kernel_rfl
def c56 : ACode :=
 (.seq (.reg 2 [⟨(some 5), (.box 2 (.tmp 1)), none, 0⟩, ⟨(some 7), (.box 3 (.tmp 3)), none, 1⟩, ⟨(some 8), (.mv (.val (.sl true 0 []))), none, 2⟩, ⟨(some 9), (.mv (.val (.lit (.int .i64 0)))), none, 2⟩])
 (.seq (.dreg 2 [(0, ⟨(some 14), (.mv (.tmp 2)), none, 0⟩), (1, ⟨(some 15), (.call false (.val (.lit (.func (.func 95) #[] #[]))) [(.tmp 14)]), none, 0⟩), (2, ⟨(some 16), (.load 3 true (.tmp 7)), none, 0⟩), (3, ⟨(some 17), (.bslice 3 1 [(.lit (.string ⟨#[]⟩)), (.lit (.string ⟨#[]⟩)), (.lit (.int .i64 0))] [(0, (.tmp 16))]), none, 0⟩), (4, ⟨(some 18), (.app 3 40 (.tmp 15) (.tmp 17)), none, 1⟩), (5, ⟨(some 10), (.mv (.tmp 18)), none, 2⟩)] [[], [0], [], [2], [1, 3, 0, 2], [4, 0, 1, 2, 3]])
 (.seq (.seq (.dreg 1 [(0, ⟨(some 19), (.mv (.tmp 0)), none, 0⟩), (1, ⟨(some 20), (.call false (.val (.lit (.func (.func 70) #[] #[]))) [(.tmp 19)]), none, 0⟩), (2, ⟨(some 21), (.mv (.tmp 0)), none, 0⟩), (3, ⟨(some 22), (.load 2 true (.tmp 5)), none, 0⟩), (4, ⟨(some 23), (.call false (.val (.lit (.func (.func 77) #[] #[]))) [(.tmp 21), (.tmp 22)]), none, 0⟩), (5, ⟨(some 24), (.mv (.tmp 0)), none, 0⟩), (6, ⟨(some 25), (.mv (.tmp 2)), none, 0⟩), (7, ⟨(some 26), (.call false (.val (.lit (.func (.func 71) #[] #[]))) [(.tmp 24), (.tmp 25)]), none, 0⟩), (8, ⟨(some 27), (.mv (.tmp 0)), none, 0⟩), (9, ⟨(some 28), (.mv (.tmp 10)), none, 0⟩), (10, ⟨(some 29), (.call false (.val (.lit (.func (.func 71) #[] #[]))) [(.tmp 27), (.tmp 28)]), none, 0⟩), (11, ⟨(some 30), (.bslice 1 4 [(.lit .nilFunc)] [(0, (.tmp 20)), (1, (.tmp 23)), (2, (.tmp 26)), (3, (.tmp 29))]), none, 0⟩), (12, ⟨(some 31), (.call true (.val (.lit (.func (.func 69) #[] #[]))) [(.tmp 30)]), none, 1⟩), (13, ⟨(some 11), (.mv (.tmp 31)), none, 1⟩)] [[], [0], [], [], [2, 3, 1, 0], [], [], [5, 6, 4, 2, 3, 1, 0], [], [], [8, 9, 7, 5, 6, 4, 2, 3, 1, 0], [1, 4, 7, 10, 0, 2, 3, 5, 6, 8, 9], [11, 10, 1, 4, 7, 0, 2, 3, 5, 6, 8, 9], [12, 0, 1, 2, 3, 4, 5, 6, 7, 8, 9, 10, 11]])
 (.seq (.reg 0 [⟨(some 32), (.mv (.tmp 11)), none, 0⟩, ⟨(some 33), (.bin .neq (.tmp 32) (.val (.lit (.int .i64 0)))), none, 0⟩])
 (.cond (.tmp 33) (.seq (.reg 0 [⟨(some 34), (.mv (.tmp 11)), none, 0⟩, ⟨(some 8), (.mv (.val (.sl true 0 []))), none, 0⟩, ⟨(some 9), (.mv (.tmp 34)), none, 0⟩])
 .ret) .skip)))
 (.seq (.seq (.dreg 1 [(0, ⟨(some 36), (.load 2 true (.tmp 5)), none, 0⟩), (1, ⟨(some 37), (.mv (.tmp 0)), none, 0⟩), (2, ⟨(some 38), (.mv (.tmp 10)), none, 0⟩), (3, ⟨(some 39), (.faddr 0 (.tmp 7)), none, 0⟩), (4, ⟨(some 40), (.load 1 false (.tmp 39)), none, 0⟩), (5, ⟨(some 41), (.call false (.val (.lit (.func (.func 73) #[] #[]))) [(.tmp 37), (.tmp 38), (.tmp 40)]), none, 0⟩), (6, ⟨(some 42), (.call false (.val (.lit (.func (.func 96) #[] #[]))) [(.tmp 36), (.tmp 41)]), none, 0⟩), (7, ⟨(some 35), (.mv (.tmp 42)), none, 0⟩), (8, ⟨(some 43), (.ext (.tmp 35) 0), none, 0⟩), (9, ⟨(some 44), (.ext (.tmp 35) 1), none, 0⟩), (10, ⟨(some 12), (.alloc [(.sl true 0 []), (.sl true 0 [])]), none, 0⟩), (11, ⟨none, (.store 2 (.tmp 12) (.tmp 43)), none, 1⟩), (12, ⟨(some 13), (.mv (.tmp 44)), none, 1⟩)] [[], [], [], [], [3], [1, 2, 4, 3], [0, 5, 1, 2, 4, 3], [6, 0, 5, 1, 2, 4, 3], [7, 6, 0, 5, 1, 2, 4, 3], [7, 6, 0, 5, 1, 2, 4, 3], [], [10, 8, 6, 0, 1, 2, 3, 4, 5, 7], [9, 11, 0, 1, 2, 3, 4, 5, 6, 7, 8, 10]])
 (.seq (.reg 0 [⟨(some 45), (.mv (.tmp 13)), none, 0⟩, ⟨(some 46), (.bin .neq (.tmp 45) (.val (.lit (.int .i64 0)))), none, 0⟩])
 (.cond (.tmp 46) (.seq (.reg 0 [⟨(some 47), (.mv (.tmp 13)), none, 0⟩, ⟨(some 8), (.mv (.val (.sl true 0 []))), none, 0⟩, ⟨(some 9), (.mv (.tmp 47)), none, 0⟩])
 .ret) .skip)))
 (.seq (.reg 0 [⟨(some 48), (.mv (.tmp 10)), none, 0⟩, ⟨(some 8), (.mv (.tmp 48)), none, 0⟩, ⟨(some 9), (.mv (.val (.lit (.int .i64 0)))), none, 0⟩])
 .ret)))))
theorem e56 : envOf Try.prog muts 56 = some (49, c56, [(Go.Abs.ARes.tmp 8), (Go.Abs.ARes.tmp 9)]) := by kernel_rfl
def c57 : ACode :=
 (.seq (.reg 2 [⟨(some 5), (.box 2 (.tmp 1)), none, 0⟩, ⟨(some 7), (.box 3 (.tmp 3)), none, 1⟩, ⟨(some 8), (.mv (.val (.sl true 0 []))), none, 2⟩, ⟨(some 9), (.mv (.val (.lit (.int .i64 0)))), none, 2⟩])
 (.seq (.seq (.reg 0 [⟨(some 14), (.mv (.tmp 0)), none, 0⟩, ⟨(some 15), (.load 2 true (.tmp 5)), none, 0⟩, ⟨(some 16), (.call false (.val (.lit (.func (.func 26) #[] #[]))) [(.tmp 14), (.tmp 15)]), none, 0⟩, ⟨(some 10), (.mv (.tmp 16)), none, 0⟩])
 (.seq (.reg 0 [⟨(some 17), (.mv (.tmp 10)), none, 0⟩, ⟨(some 18), (.bin .neq (.tmp 17) (.val (.lit (.int .i64 0)))), none, 0⟩])
 (.cond (.tmp 18) (.seq (.reg 0 [⟨(some 19), (.mv (.tmp 10)), none, 0⟩, ⟨(some 8), (.mv (.val (.sl true 0 []))), none, 0⟩, ⟨(some 9), (.mv (.tmp 19)), none, 0⟩])
 .ret) .skip)))
 (.seq (.seq (.reg 0 [⟨(some 20), (.mv (.tmp 0)), none, 0⟩, ⟨(some 21), (.mv (.tmp 2)), none, 0⟩, ⟨(some 22), (.call false (.val (.lit (.func (.func 59) #[] #[]))) [(.tmp 20), (.tmp 21)]), none, 0⟩, ⟨(some 11), (.mv (.tmp 22)), none, 0⟩])
 (.seq (.reg 0 [⟨(some 23), (.mv (.tmp 11)), none, 0⟩, ⟨(some 24), (.bin .neq (.tmp 23) (.val (.lit (.int .i64 0)))), none, 0⟩])
 (.cond (.tmp 24) (.seq (.reg 0 [⟨(some 25), (.mv (.tmp 11)), none, 0⟩, ⟨(some 8), (.mv (.val (.sl true 0 []))), none, 0⟩, ⟨(some 9), (.mv (.tmp 25)), none, 0⟩])
 .ret) .skip)))
 (.seq (.dreg 4 [(0, ⟨(some 26), (.bslice 3 0 [(.lit (.string ⟨#[]⟩)), (.lit (.string ⟨#[]⟩)), (.lit (.int .i64 0))] []), none, 0⟩), (1, ⟨(some 27), (.mv (.tmp 2)), none, 1⟩), (2, ⟨(some 28), (.app 3 40 (.tmp 26) (.tmp 27)), none, 1⟩), (3, ⟨(some 29), (.load 3 true (.tmp 7)), none, 2⟩), (4, ⟨(some 30), (.bslice 3 1 [(.lit (.string ⟨#[]⟩)), (.lit (.string ⟨#[]⟩)), (.lit (.int .i64 0))] [(0, (.tmp 29))]), none, 2⟩), (5, ⟨(some 31), (.app 3 40 (.tmp 28) (.tmp 30)), none, 3⟩), (6, ⟨(some 12), (.mv (.tmp 31)), none, 4⟩)] [[], [], [0, 1], [], [3], [2, 4, 0, 1, 3], [5, 0, 1, 2, 3, 4]])
 (.seq (.seq (.reg 0 [⟨(some 32), (.mv (.tmp 0)), none, 0⟩, ⟨(some 33), (.mv (.tmp 12)), none, 0⟩, ⟨(some 34), (.call false (.val (.lit (.func (.func 59) #[] #[]))) [(.tmp 32), (.tmp 33)]), none, 0⟩, ⟨(some 13), (.mv (.tmp 34)), none, 0⟩])
 (.seq (.reg 0 [⟨(some 35), (.mv (.tmp 13)), none, 0⟩, ⟨(some 36), (.bin .neq (.tmp 35) (.val (.lit (.int .i64 0)))), none, 0⟩])
 (.cond (.tmp 36) (.seq (.reg 0 [⟨(some 37), (.mv (.tmp 13)), none, 0⟩, ⟨(some 8), (.mv (.val (.sl true 0 []))), none, 0⟩, ⟨(some 9), (.mv (.tmp 37)), none, 0⟩])
 .ret) .skip)))
 (.seq (.seq (.dreg 0 [(0, ⟨(some 38), (.load 2 true (.tmp 5)), none, 0⟩), (1, ⟨(some 39), (.mv (.tmp 0)), none, 0⟩), (2, ⟨(some 40), (.mv (.tmp 12)), none, 0⟩), (3, ⟨(some 41), (.faddr 0 (.tmp 7)), none, 0⟩), (4, ⟨(some 42), (.load 1 false (.tmp 41)), none, 0⟩), (5, ⟨(some 43), (.call false (.val (.lit (.func (.func 35) #[] #[]))) [(.tmp 39), (.tmp 40), (.tmp 42)]), none, 0⟩), (6, ⟨(some 44), (.call false (.val (.lit (.func (.func 97) #[] #[]))) [(.tmp 38), (.tmp 43)]), none, 0⟩)] [[], [], [], [], [3], [1, 2, 4, 3], [0, 5, 1, 2, 4, 3]])
 (.cond (.tmp 44) (.seq (.reg 0 [⟨(some 8), (.mv (.val (.sl true 0 []))), none, 0⟩, ⟨(some 9), (.mv (.val (.lit (.int .i64 26)))), none, 0⟩])
 .ret) .skip))
 (.seq (.reg 0 [⟨(some 45), (.mv (.tmp 12)), none, 0⟩, ⟨(some 8), (.mv (.tmp 45)), none, 0⟩, ⟨(some 9), (.mv (.val (.lit (.int .i64 0)))), none, 0⟩])
 .ret)))))))
theorem e57 : envOf Try.prog muts 57 = some (46, c57, [(Go.Abs.ARes.tmp 8), (Go.Abs.ARes.tmp 9)]) := by kernel_rfl
def c58 : ACode :=
 (.seq (.reg 2 [⟨(some 5), (.box 2 (.tmp 1)), none, 0⟩, ⟨(some 8), (.alloc [(.sl true 0 []), (.sl true 0 [])]), none, 1⟩, ⟨(some 9), (.mv (.val (.lit (.int .i64 0)))), none, 2⟩])
 (.seq (.seq (.dreg 1 [(0, ⟨(some 11), (.mv (.tmp 0)), none, 0⟩), (1, ⟨(some 12), (.call false (.val (.lit (.func (.func 70) #[] #[]))) [(.tmp 11)]), none, 0⟩), (2, ⟨(some 13), (.mv (.tmp 0)), none, 0⟩), (3, ⟨(some 14), (.load 2 true (.tmp 5)), none, 0⟩), (4, ⟨(some 15), (.call false (.val (.lit (.func (.func 77) #[] #[]))) [(.tmp 13), (.tmp 14)]), none, 0⟩), (5, ⟨(some 16), (.mv (.tmp 0)), none, 0⟩), (6, ⟨(some 17), (.mv (.tmp 2)), none, 0⟩), (7, ⟨(some 18), (.call false (.val (.lit (.func (.func 71) #[] #[]))) [(.tmp 16), (.tmp 17)]), none, 0⟩), (8, ⟨(some 19), (.mv (.tmp 3)), none, 0⟩), (9, ⟨(some 20), (.call false (.val (.lit (.func (.func 72) #[] #[]))) [(.tmp 19)]), none, 0⟩), (10, ⟨(some 21), (.bslice 1 4 [(.lit .nilFunc)] [(0, (.tmp 12)), (1, (.tmp 15)), (2, (.tmp 18)), (3, (.tmp 20))]), none, 0⟩), (11, ⟨(some 22), (.call true (.val (.lit (.func (.func 69) #[] #[]))) [(.tmp 21)]), none, 1⟩), (12, ⟨(some 10), (.mv (.tmp 22)), none, 1⟩)] [[], [0], [], [], [2, 3, 1, 0], [], [], [5, 6, 4, 2, 3, 1, 0], [], [8, 7, 5, 6, 4, 2, 3, 1, 0], [1, 4, 7, 9, 0, 2, 3, 5, 6, 8], [10, 9, 1, 4, 7, 0, 2, 3, 5, 6, 8], [11, 0, 1, 2, 3, 4, 5, 6, 7, 8, 9, 10]])
 (.seq (.reg 0 [⟨(some 23), (.mv (.tmp 10)), none, 0⟩, ⟨(some 24), (.bin .neq (.tmp 23) (.val (.lit (.int .i64 0)))), none, 0⟩])
 (.cond (.tmp 24) (.seq (.reg 0 [⟨(some 25), (.build [(.sl true 0 []), (.sl true 0 [])] []), none, 0⟩, ⟨(some 26), (.mv (.tmp 10)), none, 0⟩, ⟨none, (.store 2 (.tmp 8) (.tmp 25)), none, 0⟩, ⟨(some 9), (.mv (.tmp 26)), none, 0⟩])
 .ret) .skip)))
 (.seq (.dreg 0 [(0, ⟨(some 27), (.load 2 true (.tmp 5)), none, 0⟩), (1, ⟨(some 28), (.mv (.tmp 0)), none, 0⟩), (2, ⟨(some 29), (.mv (.tmp 2)), none, 0⟩), (3, ⟨(some 30), (.mv (.tmp 3)), none, 0⟩), (4, ⟨(some 31), (.call false (.val (.lit (.func (.func 73) #[] #[]))) [(.tmp 28), (.tmp 29), (.tmp 30)]), none, 0⟩), (5, ⟨(some 32), (.call false (.val (.lit (.func (.func 96) #[] #[]))) [(.tmp 27), (.tmp 31)]), none, 0⟩), (6, ⟨(some 33), (.ext (.tmp 32) 0), none, 0⟩), (7, ⟨(some 34), (.ext (.tmp 32) 1), none, 0⟩), (8, ⟨none, (.store 2 (.tmp 8) (.tmp 33)), none, 0⟩), (9, ⟨(some 9), (.mv (.tmp 34)), none, 0⟩)] [[], [], [], [], [1, 2, 3], [0, 4, 1, 2, 3], [5, 0, 4, 1, 2, 3], [5, 0, 4, 1, 2, 3], [6, 5, 0, 1, 2, 3, 4, 7], [7, 8, 0, 1, 2, 3, 4, 5, 6]])
 .ret)))
theorem e58 : envOf Try.prog muts 58 = some (35, c58, [(Go.Abs.ARes.cell 2 true 8), (Go.Abs.ARes.tmp 9)]) := by kernel_rfl
def c59l0 : ACode :=
 (.seq (.seq (.reg 0 [⟨(some 9), (.mv (.tmp 5)), none, 0⟩, ⟨(some 10), (.mv (.tmp 1)), none, 0⟩, ⟨(some 11), (.len (.tmp 10)), none, 0⟩, ⟨(some 12), (.bin .lss (.tmp 9) (.tmp 11)), none, 0⟩])
 (.cond (.tmp 12) .skip (.exit 0)))
 (.seq (.block 1 (.seq (.seq (.reg 0 [⟨(some 15), (.mv (.tmp 1)), none, 0⟩, ⟨(some 16), (.mv (.tmp 5)), none, 0⟩, ⟨(some 17), (.iaddrS 3 (.tmp 15) (.tmp 16)), none, 0⟩, ⟨(some 18), (.faddr 0 (.tmp 17)), none, 0⟩, ⟨(some 19), (.load 1 false (.tmp 18)), none, 0⟩, ⟨(some 20), (.call false (.val (.lit (.func (.func 33) #[] #[]))) [(.tmp 19)]), none, 0⟩, ⟨(some 21), (.not (.tmp 20)), none, 0⟩])
 (.cond (.tmp 21) (.seq (.reg 0 [⟨(some 4), (.mv (.val (.lit (.int .i64 4)))), none, 0⟩])
 .ret) .skip))
 (.seq (.seq (.reg 0 [⟨(some 22), (.mv (.tmp 0)), none, 0⟩, ⟨(some 23), (.mv (.tmp 1)), none, 0⟩, ⟨(some 24), (.mv (.tmp 5)), none, 0⟩, ⟨(some 25), (.iaddrS 3 (.tmp 23) (.tmp 24)), none, 0⟩, ⟨(some 26), (.faddr 1 (.tmp 25)), none, 0⟩, ⟨(some 27), (.load 1 false (.tmp 26)), none, 0⟩, ⟨(some 28), (.call false (.val (.lit (.func (.func 76) #[] #[]))) [(.tmp 22), (.tmp 27)]), none, 0⟩, ⟨(some 29), (.bin .lss (.tmp 28) (.val (.lit (.int .i64 0)))), none, 0⟩])
 (.cond (.tmp 29) (.seq (.reg 0 [⟨(some 4), (.mv (.val (.lit (.int .i64 6)))), none, 0⟩])
 .ret) .skip))
 (.seq (.reg 0 [⟨(some 30), (.mv (.tmp 1)), none, 0⟩, ⟨(some 31), (.mv (.tmp 5)), none, 0⟩, ⟨(some 32), (.iaddrS 3 (.tmp 30) (.tmp 31)), none, 0⟩, ⟨(some 33), (.faddr 2 (.tmp 32)), none, 0⟩, ⟨(some 34), (.load 1 false (.tmp 33)), none, 0⟩, ⟨(some 35), (.call false (.val (.lit (.func (.func 15) #[] #[]))) [(.tmp 34), (.val (.lit (.int .i64 1))), (.val (.lit (.int .i64 10000)))]), none, 0⟩, ⟨(some 36), (.not (.tmp 35)), none, 0⟩])
 (.cond (.tmp 36) (.seq (.reg 0 [⟨(some 4), (.mv (.val (.lit (.int .i64 2)))), none, 0⟩])
 .ret) .skip)))))
 (.reg 0 [⟨(some 13), (.mv (.tmp 5)), none, 0⟩, ⟨(some 14), (.bin .add (.tmp 13) (.val (.lit (.int .i64 1)))), none, 0⟩, ⟨(some 5), (.mv (.tmp 14)), none, 0⟩])))
def c59 : ACode :=
 (.seq (.reg 0 [⟨(some 4), (.mv (.val (.lit (.int .i64 0)))), none, 0⟩])
 (.seq (.seq (.reg 0 [⟨(some 6), (.mv (.tmp 1)), none, 0⟩, ⟨(some 7), (.len (.tmp 6)), none, 0⟩, ⟨(some 8), (.bin .gtr (.tmp 7) (.val (.lit (.int .i64 200)))), none, 0⟩])
 (.cond (.tmp 8) (.seq (.reg 0 [⟨(some 4), (.mv (.val (.lit (.int .i64 8)))), none, 0⟩])
 .ret) .skip))
 (.seq (.seq (.reg 0 [⟨(some 5), (.mv (.val (.lit (.int .i64 0)))), none, 0⟩])
 (.block 0 (.loop c59l0)))
 (.seq (.reg 0 [⟨(some 4), (.mv (.val (.lit (.int .i64 0)))), none, 0⟩])
 .ret))))
theorem e59 : envOf Try.prog muts 59 = some (37, c59, [(Go.Abs.ARes.tmp 4)]) := by kernel_rfl
def c60l0 : ACode :=
 (.seq (.seq (.reg 0 [⟨(some 21), (.mv (.tmp 12)), none, 0⟩, ⟨(some 22), (.mv (.tmp 10)), none, 0⟩, ⟨(some 23), (.len (.tmp 22)), none, 0⟩, ⟨(some 24), (.bin .lss (.tmp 21) (.tmp 23)), none, 0⟩])
 (.cond (.tmp 24) .skip (.exit 0)))
 (.seq (.block 1 (.dreg 4 [(0, ⟨(some 27), (.faddr 0 (.tmp 11)), none, 0⟩), (1, ⟨(some 28), (.load 1 false (.tmp 27)), none, 0⟩), (2, ⟨(some 29), (.faddr 0 (.tmp 5)), none, 0⟩), (3, ⟨(some 30), (.load 1 false (.tmp 29)), none, 0⟩), (4, ⟨(some 31), (.mv (.tmp 12)), none, 0⟩), (5, ⟨(some 32), (.iaddrS 1 (.tmp 30) (.tmp 31)), none, 0⟩), (6, ⟨(some 33), (.load 1 false (.tmp 32)), none, 0⟩), (7, ⟨(some 34), (.mv (.tmp 10)), none, 0⟩), (8, ⟨(some 35), (.mv (.tmp 12)), none, 0⟩), (9, ⟨(some 36), (.iaddrS 1 (.tmp 34) (.tmp 35)), none, 0⟩), (10, ⟨(some 37), (.load 1 false (.tmp 36)), none, 0⟩), (11, ⟨(some 38), (.bin .sub (.tmp 33) (.tmp 37)), none, 0⟩), (12, ⟨(some 39), (.minmax true [(.val (.lit (.int .i64 0))), (.tmp 38)]), none, 0⟩), (13, ⟨(some 40), (.bslice 1 1 [(.lit (.int .i64 0))] [(0, (.tmp 39))]), none, 0⟩), (14, ⟨(some 41), (.app 1 8 (.tmp 28) (.tmp 40)), none, 1⟩), (15, ⟨(some 42), (.faddr 1 (.tmp 11)), none, 2⟩), (16, ⟨(some 43), (.load 1 false (.tmp 42)), none, 2⟩), (17, ⟨(some 44), (.faddr 1 (.tmp 5)), none, 2⟩), (18, ⟨(some 45), (.load 1 false (.tmp 44)), none, 2⟩), (19, ⟨(some 46), (.mv (.tmp 12)), none, 2⟩), (20, ⟨(some 47), (.iaddrS 1 (.tmp 45) (.tmp 46)), none, 2⟩), (21, ⟨(some 48), (.load 1 false (.tmp 47)), none, 2⟩), (22, ⟨(some 49), (.mv (.tmp 10)), none, 2⟩), (23, ⟨(some 50), (.mv (.tmp 12)), none, 2⟩), (24, ⟨(some 51), (.iaddrS 1 (.tmp 49) (.tmp 50)), none, 2⟩), (25, ⟨(some 52), (.load 1 false (.tmp 51)), none, 2⟩), (26, ⟨(some 53), (.bin .sub (.tmp 48) (.tmp 52)), none, 2⟩), (27, ⟨(some 54), (.bslice 1 1 [(.lit (.int .i64 0))] [(0, (.tmp 53))]), none, 2⟩), (28, ⟨(some 55), (.app 1 8 (.tmp 43) (.tmp 54)), none, 3⟩), (29, ⟨(some 56), (.faddr 0 (.tmp 11)), none, 4⟩), (30, ⟨none, (.store 1 (.tmp 56) (.tmp 41)), none, 4⟩), (31, ⟨(some 57), (.faddr 1 (.tmp 11)), none, 4⟩), (32, ⟨none, (.store 1 (.tmp 57) (.tmp 55)), none, 4⟩)] [[], [0], [], [2], [], [3, 4, 2], [5, 3, 4, 2], [], [], [7, 8], [9, 7, 8], [6, 10, 5, 3, 4, 2, 9, 7, 8], [11, 6, 10, 5, 3, 4, 2, 9, 7, 8], [12, 11, 6, 10, 5, 3, 4, 2, 9, 7, 8], [1, 13, 0, 12, 11, 6, 10, 5, 3, 4, 2, 9, 7, 8], [], [15], [], [17], [], [18, 19, 17], [20, 18, 19, 17], [], [], [22, 23], [24, 22, 23], [21, 25, 20, 18, 19, 17, 24, 22, 23], [26, 21, 25, 20, 18, 19, 17, 24, 22, 23], [16, 27, 14, 15, 26, 21, 25, 20, 18, 19, 17, 24, 22, 23, 1, 13, 0, 12, 11, 6, 10, 5, 3, 4, 2, 9, 7, 8], [0, 1, 2, 3, 4, 5, 6, 7, 8, 9, 10, 11, 12, 13, 14, 15, 16], [29, 14, 28, 0, 1, 2, 3, 4, 5, 6, 7, 8, 9, 10, 11, 12, 13, 15, 16, 27, 26, 21, 25, 20, 18, 19, 17, 24, 22, 23], [0, 1, 2, 3, 4, 5, 6, 7, 8, 9, 10, 11, 12, 13, 14, 15, 16, 17, 18, 19, 20, 21, 22, 23, 24, 25, 26, 27, 28, 29, 30], [31, 28, 30, 0, 1, 2, 3, 4, 5, 6, 7, 8, 9, 10, 11, 12, 13, 14, 15, 16, 17, 18, 19, 20, 21, 22, 23, 24, 25, 26, 27, 29]]))
 (.reg 0 [⟨(some 25), (.mv (.tmp 12)), none, 0⟩, ⟨(some 26), (.bin .add (.tmp 25) (.val (.lit (.int .i64 1)))), none, 0⟩, ⟨(some 12), (.mv (.tmp 26)), none, 0⟩])))
def c60 : ACode :=
 (.seq (.reg 2 [⟨(some 5), (.box 2 (.tmp 1)), none, 0⟩, ⟨(some 8), (.alloc [(.sl true 0 []), (.sl true 0 [])]), none, 1⟩, ⟨(some 9), (.mv (.val (.lit (.bool false)))), none, 2⟩])
 (.seq (.reg 0 [⟨(some 13), (.mv (.tmp 0)), none, 0⟩, ⟨(some 14), (.mv (.tmp 2)), none, 0⟩, ⟨(some 15), (.mv (.tmp 3)), none, 0⟩, ⟨(some 16), (.call false (.val (.lit (.func (.func 35) #[] #[]))) [(.tmp 13), (.tmp 14), (.tmp 15)]), none, 0⟩, ⟨(some 10), (.mv (.tmp 16)), none, 0⟩])
 (.seq (.seq (.reg 0 [⟨(some 17), (.load 2 true (.tmp 5)), none, 0⟩, ⟨(some 18), (.mv (.tmp 10)), none, 0⟩, ⟨(some 19), (.call false (.val (.lit (.func (.func 97) #[] #[]))) [(.tmp 17), (.tmp 18)]), none, 0⟩])
 (.cond (.tmp 19) (.seq (.reg 0 [⟨(some 20), (.build [(.sl true 0 []), (.sl true 0 [])] []), none, 0⟩, ⟨none, (.store 2 (.tmp 8) (.tmp 20)), none, 0⟩, ⟨(some 9), (.mv (.val (.lit (.bool false)))), none, 0⟩])
 .ret) .skip))
 (.seq (.reg 1 [⟨(some 11), (.alloc [(.sl true 0 []), (.sl true 0 [])]), none, 0⟩])
 (.seq (.seq (.reg 0 [⟨(some 12), (.mv (.val (.lit (.int .i64 0)))), none, 0⟩])
 (.block 0 (.loop c60l0)))
 (.seq (.reg 0 [⟨(some 58), (.load 2 true (.tmp 11)), none, 0⟩, ⟨none, (.store 2 (.tmp 8) (.tmp 58)), none, 0⟩, ⟨(some 9), (.mv (.val (.lit (.bool true)))), none, 0⟩])
 .ret))))))
theorem e60 : envOf Try.prog muts 60 = some (59, c60, [(Go.Abs.ARes.cell 2 true 8), (Go.Abs.ARes.tmp 9)]) := by kernel_rfl
def c61 : ACode :=
 (.seq (.reg 2 [⟨(some 2), (.box 2 (.tmp 0)), none, 0⟩, ⟨(some 3), (.box 2 (.tmp 1)), none, 1⟩, ⟨(some 4), (.mv (.val (.lit (.bool false)))), none, 2⟩])
 (.seq (.reg 0 [⟨(some 5), (.faddr 0 (.tmp 2)), none, 0⟩, ⟨(some 6), (.load 1 false (.tmp 5)), none, 0⟩, ⟨(some 7), (.faddr 0 (.tmp 3)), none, 0⟩, ⟨(some 8), (.load 1 false (.tmp 7)), none, 0⟩, ⟨(some 9), (.call false (.val (.lit (.func (.func 34) #[] #[]))) [(.tmp 6), (.tmp 8)]), none, 0⟩, ⟨(some 10), (.mv (.tmp 9)), none, 0⟩, ⟨(some 11), (.faddr 1 (.tmp 2)), (some (10, true)), 0⟩, ⟨(some 12), (.load 1 false (.tmp 11)), (some (10, true)), 0⟩, ⟨(some 13), (.faddr 1 (.tmp 3)), (some (10, true)), 0⟩, ⟨(some 14), (.load 1 false (.tmp 13)), (some (10, true)), 0⟩, ⟨(some 15), (.call false (.val (.lit (.func (.func 34) #[] #[]))) [(.tmp 12), (.tmp 14)]), (some (10, true)), 0⟩, ⟨(some 16), (.pick (.tmp 10) (.tmp 15) (.val (.lit (.bool false)))), none, 0⟩, ⟨(some 4), (.mv (.tmp 16)), none, 0⟩])
 .ret))
theorem e61 : envOf Try.prog muts 61 = some (17, c61, [(Go.Abs.ARes.tmp 4)]) := by kernel_rfl
def c69l0 : ACode :=
 (.seq (.reg 0 [⟨(some 9), (.bin .lss (.tmp 8) (.tmp 7)), none, 0⟩])
 (.seq (.cond (.tmp 9) .skip (.exit 0))
 (.seq (.block 1 (.seq (.reg 0 [⟨(some 10), (.iaddrS 1 (.tmp 6) (.tmp 8)), none, 0⟩, ⟨(some 11), (.load 1 false (.tmp 10)), none, 0⟩, ⟨(some 4), (.mv (.tmp 11)), none, 0⟩])
 (.seq (.reg 0 [⟨(some 12), (.mv (.tmp 4)), none, 0⟩, ⟨(some 13), (.call true (.tmp 12) []), none, 0⟩, ⟨(some 5), (.mv (.tmp 13)), none, 0⟩])
 (.seq (.reg 0 [⟨(some 14), (.mv (.tmp 5)), none, 0⟩, ⟨(some 15), (.bin .neq (.tmp 14) (.val (.lit (.int .i64 0)))), none, 0⟩])
 (.cond (.tmp 15) (.seq (.reg 0 [⟨(some 16), (.mv (.tmp 5)), none, 0⟩, ⟨(some 2), (.mv (.tmp 16)), none, 0⟩])
 .ret) .skip)))))
 (.reg 0 [⟨(some 17), (.bin .add (.tmp 8) (.val (.lit (.int .i64 1)))), none, 0⟩, ⟨(some 8), (.mv (.tmp 17)), none, 0⟩]))))
def c69 : ACode :=
 (.seq (.reg 0 [⟨(some 2), (.mv (.val (.lit (.int .i64 0)))), none, 0⟩])
 (.seq (.seq (.reg 0 [⟨(some 6), (.mv (.tmp 0)), none, 0⟩, ⟨(some 7), (.len (.tmp 6)), none, 0⟩, ⟨(some 8), (.mv (.val (.lit (.int .i64 0)))), none, 0⟩])
 (.block 0 (.loop c69l0)))
 (.seq (.reg 0 [⟨(some 2), (.mv (.val (.lit (.int .i64 0)))), none, 0⟩])
 .ret)))
theorem e69 : envOf Try.prog muts 69 = some (18, c69, [(Go.Abs.ARes.tmp 2)]) := by kernel_rfl
def c70 : ACode :=
 (.seq (.reg 1 [⟨(some 1), (.box 1 (.tmp 0)), none, 0⟩, ⟨(some 2), (.mv (.val (.lit .nilFunc))), none, 1⟩])
 (.seq (.reg 0 [⟨(some 3), (.mkf (.func 100) [] [(.tmp 1)]), none, 0⟩, ⟨(some 2), (.mv (.tmp 3)), none, 0⟩])
 .ret))
theorem e70 : envOf Try.prog muts 70 = some (4, c70, [(Go.Abs.ARes.tmp 2)]) := by kernel_rfl
def c71 : ACode :=
 (.seq (.reg 2 [⟨(some 2), (.box 1 (.tmp 0)), none, 0⟩, ⟨(some 3), (.box 1 (.tmp 1)), none, 1⟩, ⟨(some 4), (.mv (.val (.lit .nilFunc))), none, 2⟩])
 (.seq (.reg 0 [⟨(some 5), (.mkf (.func 102) [] [(.tmp 3), (.tmp 2)]), none, 0⟩, ⟨(some 4), (.mv (.tmp 5)), none, 0⟩])
 .ret))
theorem e71 : envOf Try.prog muts 71 = some (6, c71, [(Go.Abs.ARes.tmp 4)]) := by kernel_rfl
def c72 : ACode :=
 (.seq (.reg 1 [⟨(some 1), (.box 1 (.tmp 0)), none, 0⟩, ⟨(some 2), (.mv (.val (.lit .nilFunc))), none, 1⟩])
 (.seq (.reg 0 [⟨(some 3), (.mkf (.func 104) [] [(.tmp 1)]), none, 0⟩, ⟨(some 2), (.mv (.tmp 3)), none, 0⟩])
 .ret))
theorem e72 : envOf Try.prog muts 72 = some (4, c72, [(Go.Abs.ARes.tmp 2)]) := by kernel_rfl
def c73l0 : ACode :=
 (.seq (.reg 0 [⟨(some 38), (.bin .lss (.tmp 37) (.tmp 36)), none, 0⟩])
 (.seq (.cond (.tmp 38) .skip (.exit 2))
 (.seq (.block 3 (.seq (.reg 0 [⟨(some 39), (.mv (.tmp 37)), none, 0⟩, ⟨(some 40), (.iaddrS 1 (.tmp 35) (.tmp 37)), none, 0⟩, ⟨(some 41), (.load 1 false (.tmp 40)), none, 0⟩, ⟨(some 10), (.mv (.tmp 39)), none, 0⟩, ⟨(some 11), (.mv (.tmp 41)), none, 0⟩])
 (.dreg 0 [(0, ⟨(some 42), (.mv (.tmp 7)), none, 0⟩), (1, ⟨(some 43), (.mv (.tmp 10)), none, 0⟩), (2, ⟨(some 44), (.iaddrS 1 (.tmp 42) (.tmp 43)), none, 0⟩), (3, ⟨(some 45), (.load 1 false (.tmp 44)), none, 0⟩), (4, ⟨(some 46), (.faddr 2 (.tmp 9)), none, 0⟩), (5, ⟨(some 47), (.load 1 false (.tmp 46)), none, 0⟩), (6, ⟨(some 48), (.mv (.tmp 11)), none, 0⟩), (7, ⟨(some 49), (.bin .mul (.tmp 47) (.tmp 48)), none, 0⟩), (8, ⟨(some 50), (.bin .add (.tmp 45) (.tmp 49)), none, 0⟩), (9, ⟨(some 51), (.iaddrS 1 (.tmp 42) (.tmp 43)), none, 0⟩), (10, ⟨none, (.store 1 (.tmp 51) (.tmp 50)), none, 0⟩)] [[], [], [0, 1], [2, 0, 1], [], [4], [], [5, 6, 4], [3, 7, 2, 0, 1, 5, 6, 4], [0, 1, 2, 3, 4, 5, 6, 7, 8], [9, 8, 0, 1, 2, 3, 4, 5, 6, 7]])))
 (.reg 0 [⟨(some 52), (.bin .add (.tmp 37) (.val (.lit (.int .i64 1)))), none, 0⟩, ⟨(some 37), (.mv (.tmp 52)), none, 0⟩]))))
def c73l1 : ACode :=
 (.seq (.reg 0 [⟨(some 21), (.bin .lss (.tmp 20) (.tmp 19)), none, 0⟩])
 (.seq (.cond (.tmp 21) .skip (.exit 0))
 (.seq (.block 1 (.seq (.reg 1 [⟨(some 22), (.iaddrS 3 (.tmp 18) (.tmp 20)), none, 0⟩, ⟨(some 23), (.load 3 true (.tmp 22)), none, 0⟩, ⟨(some 9), (.alloc [(.lit (.string ⟨#[]⟩)), (.lit (.string ⟨#[]⟩)), (.lit (.int .i64 0))]), none, 0⟩, ⟨none, (.store 3 (.tmp 9) (.tmp 23)), none, 1⟩])
 (.seq (.seq (.reg 0 [⟨(some 24), (.faddr 0 (.tmp 9)), none, 0⟩, ⟨(some 25), (.load 1 false (.tmp 24)), none, 0⟩, ⟨(some 26), (.mv (.tmp 2)), none, 0⟩, ⟨(some 27), (.bin .neq (.tmp 25) (.tmp 26)), none, 0⟩])
 (.cond (.tmp 27) (.exit 1) .skip))
 (.seq (.reg 0 [⟨(some 28), (.mv (.tmp 0)), none, 0⟩, ⟨(some 29), (.mv (.tmp 0)), none, 0⟩, ⟨(some 30), (.faddr 1 (.tmp 9)), none, 0⟩, ⟨(some 31), (.load 1 false (.tmp 30)), none, 0⟩, ⟨(some 32), (.call false (.val (.lit (.func (.func 103) #[] #[]))) [(.tmp 29), (.tmp 31)]), none, 0⟩, ⟨(some 33), (.iaddrS 2 (.tmp 28) (.tmp 32)), none, 0⟩, ⟨(some 34), (.faddr 1 (.tmp 33)), none, 0⟩, ⟨(some 35), (.load 1 false (.tmp 34)), none, 0⟩, ⟨(some 36), (.len (.tmp 35)), none, 0⟩, ⟨(some 37), (.mv (.val (.lit (.int .i64 0)))), none, 0⟩])
 (.block 2 (.loop c73l0))))))
 (.reg 0 [⟨(some 53), (.bin .add (.tmp 20) (.val (.lit (.int .i64 1)))), none, 0⟩, ⟨(some 20), (.mv (.tmp 53)), none, 0⟩]))))
def c73 : ACode :=
 (.seq (.reg 0 [⟨(some 6), (.mv (.val (.sl true 0 []))), none, 0⟩])
 (.seq (.reg 1 [⟨(some 12), (.mv (.tmp 0)), none, 0⟩, ⟨(some 13), (.iaddrS 2 (.tmp 12) (.val (.lit (.int .i64 0)))), none, 0⟩, ⟨(some 14), (.faddr 1 (.tmp 13)), none, 0⟩, ⟨(some 15), (.load 1 false (.tmp 14)), none, 0⟩, ⟨(some 16), (.len (.tmp 15)), none, 0⟩, ⟨(some 17), (.mks 1 8 [(.lit (.int .i64 0))] (.tmp 16) (.tmp 16)), none, 0⟩, ⟨(some 7), (.mv (.tmp 17)), none, 1⟩])
 (.seq (.seq (.reg 0 [⟨(some 18), (.mv (.tmp 1)), none, 0⟩, ⟨(some 19), (.len (.tmp 18)), none, 0⟩, ⟨(some 20), (.mv (.val (.lit (.int .i64 0)))), none, 0⟩])
 (.block 0 (.loop c73l1)))
 (.seq (.reg 0 [⟨(some 54), (.mv (.tmp 7)), none, 0⟩, ⟨(some 6), (.mv (.tmp 54)), none, 0⟩])
 .ret))))
theorem e73 : envOf Try.prog muts 73 = some (55, c73, [(Go.Abs.ARes.tmp 6)]) := by kernel_rfl
def c74 : ACode :=
 (.seq (.reg 0 [⟨(some 2), (.mv (.val (.lit (.bool false)))), none, 0⟩])
 (.seq (.reg 0 [⟨(some 3), (.mv (.tmp 0)), none, 0⟩, ⟨(some 4), (.bin .geq (.tmp 3) (.val (.lit (.int .u8 97)))), none, 0⟩, ⟨(some 5), (.mv (.tmp 4)), none, 0⟩, ⟨(some 6), (.mv (.tmp 0)), (some (5, true)), 0⟩, ⟨(some 7), (.bin .leq (.tmp 6) (.val (.lit (.int .u8 122)))), (some (5, true)), 0⟩, ⟨(some 8), (.pick (.tmp 5) (.tmp 7) (.val (.lit (.bool false)))), none, 0⟩, ⟨(some 9), (.mv (.tmp 8)), none, 0⟩, ⟨(some 10), (.mv (.tmp 0)), (some (9, false)), 0⟩, ⟨(some 11), (.bin .geq (.tmp 10) (.val (.lit (.int .u8 65)))), (some (9, false)), 0⟩, ⟨(some 12), (.mv (.tmp 11)), (some (9, false)), 0⟩, ⟨(some 13), (.mv (.tmp 0)), (some (12, true)), 0⟩, ⟨(some 14), (.bin .leq (.tmp 13) (.val (.lit (.int .u8 90)))), (some (12, true)), 0⟩, ⟨(some 15), (.pick (.tmp 12) (.tmp 14) (.val (.lit (.bool false)))), (some (9, false)), 0⟩, ⟨(some 16), (.pick (.tmp 9) (.val (.lit (.bool true))) (.tmp 15)), none, 0⟩, ⟨(some 2), (.mv (.tmp 16)), none, 0⟩])
 .ret))
theorem e74 : envOf Try.prog muts 74 = some (17, c74, [(Go.Abs.ARes.tmp 2)]) := by kernel_rfl
def c75 : ACode :=
 (.seq (.reg 0 [⟨(some 2), (.mv (.val (.lit (.bool false)))), none, 0⟩])
 (.seq (.reg 0 [⟨(some 3), (.mv (.tmp 0)), none, 0⟩, ⟨(some 4), (.bin .geq (.tmp 3) (.val (.lit (.int .u8 48)))), none, 0⟩, ⟨(some 5), (.mv (.tmp 4)), none, 0⟩, ⟨(some 6), (.mv (.tmp 0)), (some (5, true)), 0⟩, ⟨(some 7), (.bin .leq (.tmp 6) (.val (.lit (.int .u8 57)))), (some (5, true)), 0⟩, ⟨(some 8), (.pick (.tmp 5) (.tmp 7) (.val (.lit (.bool false)))), none, 0⟩, ⟨(some 2), (.mv (.tmp 8)), none, 0⟩])
 .ret))
theorem e75 : envOf Try.prog muts 75 = some (9, c75, [(Go.Abs.ARes.tmp 2)]) := by kernel_rfl
def c76l0 : ACode :=
 (.seq (.seq (.reg 0 [⟨(some 6), (.mv (.tmp 5)), none, 0⟩, ⟨(some 7), (.mv (.tmp 0)), none, 0⟩, ⟨(some 8), (.len (.tmp 7)), none, 0⟩, ⟨(some 9), (.bin .lss (.tmp 6) (.tmp 8)), none, 0⟩])
 (.cond (.tmp 9) .skip (.exit 0)))
 (.seq (.block 1 (.seq (.reg 0 [⟨(some 12), (.mv (.tmp 0)), none, 0⟩, ⟨(some 13), (.mv (.tmp 5)), none, 0⟩, ⟨(some 14), (.iaddrS 2 (.tmp 12) (.tmp 13)), none, 0⟩, ⟨(some 15), (.faddr 0 (.tmp 14)), none, 0⟩, ⟨(some 16), (.load 1 false (.tmp 15)), none, 0⟩, ⟨(some 17), (.mv (.tmp 1)), none, 0⟩, ⟨(some 18), (.bin .eql (.tmp 16) (.tmp 17)), none, 0⟩])
 (.cond (.tmp 18) (.seq (.reg 0 [⟨(some 19), (.mv (.tmp 5)), none, 0⟩, ⟨(some 4), (.mv (.tmp 19)), none, 0⟩])
 .ret) .skip)))
 (.reg 0 [⟨(some 10), (.mv (.tmp 5)), none, 0⟩, ⟨(some 11), (.bin .add (.tmp 10) (.val (.lit (.int .i64 1)))), none, 0⟩, ⟨(some 5), (.mv (.tmp 11)), none, 0⟩])))
def c76 : ACode :=
 (.seq (.reg 0 [⟨(some 4), (.mv (.val (.lit (.int .i64 0)))), none, 0⟩])
 (.seq (.seq (.reg 0 [⟨(some 5), (.mv (.val (.lit (.int .i64 0)))), none, 0⟩])
 (.block 0 (.loop c76l0)))
 (.seq (.reg 0 [⟨(some 4), (.mv (.val (.lit (.int .i64 (-1))))), none, 0⟩])
 .ret)))
theorem e76 : envOf Try.prog muts 76 = some (20, c76, [(Go.Abs.ARes.tmp 4)]) := by kernel_rfl
def c77 : ACode :=
 (.seq (.reg 2 [⟨(some 2), (.box 1 (.tmp 0)), none, 0⟩, ⟨(some 3), (.box 2 (.tmp 1)), none, 1⟩, ⟨(some 4), (.mv (.val (.lit .nilFunc))), none, 2⟩])
 (.seq (.reg 0 [⟨(some 5), (.mkf (.func 105) [] [(.tmp 2), (.tmp 3)]), none, 0⟩, ⟨(some 4), (.mv (.tmp 5)), none, 0⟩])
 .ret))
theorem e77 : envOf Try.prog muts 77 = some (6, c77, [(Go.Abs.ARes.tmp 4)]) := by kernel_rfl
def c80 : ACode :=
 (.seq (.reg 0 [⟨(some 6), (.mv (.val (.lit (.bool false)))), none, 0⟩])
 (.seq (.reg 0 [⟨(some 7), (.mv (.tmp 0)), none, 0⟩, ⟨(some 8), (.mv (.tmp 1)), none, 0⟩, ⟨(some 9), (.bin .geq (.tmp 7) (.tmp 8)), none, 0⟩, ⟨(some 10), (.mv (.tmp 9)), none, 0⟩, ⟨(some 11), (.mv (.tmp 0)), (some (10, true)), 0⟩, ⟨(some 12), (.mv (.tmp 2)), (some (10, true)), 0⟩, ⟨(some 13), (.bin .leq (.tmp 11) (.tmp 12)), (some (10, true)), 0⟩, ⟨(some 14), (.pick (.tmp 10) (.tmp 13) (.val (.lit (.bool false)))), none, 0⟩, ⟨(some 6), (.mv (.tmp 14)), none, 0⟩])
 .ret))
theorem e80 : envOf Try.prog muts 80 = some (15, c80, [(Go.Abs.ARes.tmp 6)]) := by kernel_rfl
def c86l0 : ACode :=
 (.seq (.reg 0 [⟨(some 10), (.bin .lss (.tmp 9) (.tmp 8)), none, 0⟩])
 (.seq (.cond (.tmp 10) .skip (.exit 0))
 (.seq (.block 1 (.seq (.reg 0 [⟨(some 11), (.mv (.tmp 9)), none, 0⟩, ⟨(some 12), (.iaddrS 1 (.tmp 7) (.tmp 9)), none, 0⟩, ⟨(some 13), (.load 1 false (.tmp 12)), none, 0⟩, ⟨(some 3), (.mv (.tmp 11)), none, 0⟩, ⟨(some 4), (.mv (.tmp 13)), none, 0⟩])
 (.seq (.reg 0 [⟨(some 14), (.mv (.tmp 4)), none, 0⟩, ⟨(some 15), (.bin .geq (.tmp 14) (.val (.lit (.int .u8 97)))), none, 0⟩, ⟨(some 16), (.mv (.tmp 15)), none, 0⟩, ⟨(some 17), (.mv (.tmp 4)), (some (16, true)), 0⟩, ⟨(some 18), (.bin .leq (.tmp 17) (.val (.lit (.int .u8 122)))), (some (16, true)), 0⟩, ⟨(some 19), (.pick (.tmp 16) (.tmp 18) (.val (.lit (.bool false)))), none, 0⟩, ⟨(some 20), (.mv (.tmp 19)), none, 0⟩, ⟨(some 21), (.mv (.tmp 4)), (some (20, false)), 0⟩, ⟨(some 22), (.bin .geq (.tmp 21) (.val (.lit (.int .u8 65)))), (some (20, false)), 0⟩, ⟨(some 23), (.mv (.tmp 22)), (some (20, false)), 0⟩, ⟨(some 24), (.mv (.tmp 4)), (some (23, true)), 0⟩, ⟨(some 25), (.bin .leq (.tmp 24) (.val (.lit (.int .u8 90)))), (some (23, true)), 0⟩, ⟨(some 26), (.pick (.tmp 23) (.tmp 25) (.val (.lit (.bool false)))), (some (20, false)), 0⟩, ⟨(some 27), (.pick (.tmp 20) (.val (.lit (.bool true))) (.tmp 26)), none, 0⟩, ⟨(some 5), (.mv (.tmp 27)), none, 0⟩])
 (.seq (.reg 0 [⟨(some 28), (.mv (.tmp 5)), none, 0⟩, ⟨(some 29), (.not (.tmp 28)), none, 0⟩, ⟨(some 30), (.mv (.tmp 29)), none, 0⟩, ⟨(some 31), (.mv (.tmp 3)), (some (30, true)), 0⟩, ⟨(some 32), (.bin .eql (.tmp 31) (.val (.lit (.int .i64 0)))), (some (30, true)), 0⟩, ⟨(some 33), (.mv (.tmp 32)), (some (30, true)), 0⟩, ⟨(some 34), (.mv (.tmp 4)), (some (33, false)), 0⟩, ⟨(some 35), (.bin .neq (.tmp 34) (.val (.lit (.int .u8 45)))), (some (33, false)), 0⟩, ⟨(some 36), (.mv (.tmp 35)), (some (33, false)), 0⟩, ⟨(some 37), (.mv (.tmp 4)), (some (36, true)), 0⟩, ⟨(some 38), (.bin .lss (.tmp 37) (.val (.lit (.int .u8 48)))), (some (36, true)), 0⟩, ⟨(some 39), (.mv (.tmp 38)), (some (36, true)), 0⟩, ⟨(some 40), (.mv (.tmp 4)), (some (39, false)), 0⟩, ⟨(some 41), (.bin .gtr (.tmp 40) (.val (.lit (.int .u8 57)))), (some (39, false)), 0⟩, ⟨(some 42), (.pick (.tmp 39) (.val (.lit (.bool true))) (.tmp 41)), (some (36, true)), 0⟩, ⟨(some 43), (.pick (.tmp 36) (.tmp 42) (.val (.lit (.bool false)))), (some (33, false)), 0⟩, ⟨(some 44), (.pick (.tmp 33) (.val (.lit (.bool true))) (.tmp 43)), (some (30, true)), 0⟩, ⟨(some 45), (.pick (.tmp 30) (.tmp 44) (.val (.lit (.bool false)))), none, 0⟩])
 (.cond (.tmp 45) (.seq (.reg 0 [⟨(some 2), (.mv (.val (.lit (.bool false)))), none, 0⟩])
 .ret) .skip)))))
 (.reg 0 [⟨(some 46), (.bin .add (.tmp 9) (.val (.lit (.int .i64 1)))), none, 0⟩, ⟨(some 9), (.mv (.tmp 46)), none, 0⟩]))))
def c86 : ACode :=
 (.seq (.reg 0 [⟨(some 2), (.mv (.val (.lit (.bool false)))), none, 0⟩])
 (.seq (.seq (.reg 0 [⟨(some 6), (.mv (.tmp 0)), none, 0⟩, ⟨(some 7), (.cvB (.tmp 6)), none, 0⟩, ⟨(some 8), (.len (.tmp 7)), none, 0⟩, ⟨(some 9), (.mv (.val (.lit (.int .i64 0)))), none, 0⟩])
 (.block 0 (.loop c86l0)))
 (.seq (.reg 0 [⟨(some 47), (.mv (.tmp 0)), none, 0⟩, ⟨(some 48), (.bin .neq (.tmp 47) (.val (.lit (.string ⟨#[]⟩)))), none, 0⟩, ⟨(some 49), (.mv (.tmp 48)), none, 0⟩, ⟨(some 50), (.mv (.tmp 0)), (some (49, true)), 0⟩, ⟨(some 51), (.lenS (.tmp 50)), (some (49, true)), 0⟩, ⟨(some 52), (.bin .leq (.tmp 51) (.val (.lit (.int .i64 12)))), (some (49, true)), 0⟩, ⟨(some 53), (.pick (.tmp 49) (.tmp 52) (.val (.lit (.bool false)))), none, 0⟩, ⟨(some 2), (.mv (.tmp 53)), none, 0⟩])
 .ret)))
theorem e86 : envOf Try.prog muts 86 = some (54, c86, [(Go.Abs.ARes.tmp 2)]) := by kernel_rfl
def c87 : ACode :=
 (.seq (.reg 0 [⟨(some 4), (.mv (.val (.lit (.bool false)))), none, 0⟩])
 (.seq (.seq (.reg 0 [⟨(some 5), (.mv (.tmp 0)), none, 0⟩, ⟨(some 6), (.mv (.tmp 1)), none, 0⟩, ⟨(some 7), (.mlook .str false (.bool false) (.tmp 5) (.tmp 6)), none, 0⟩])
 (.cond (.tmp 7) (.seq (.reg 0 [⟨(some 4), (.mv (.val (.lit (.bool true)))), none, 0⟩])
 .ret) .skip))
 (.seq (.reg 0 [⟨(some 8), (.mv (.tmp 0)), none, 0⟩, ⟨(some 9), (.mv (.tmp 1)), none, 0⟩, ⟨none, (.mset .str (.tmp 8) (.tmp 9) (.val (.lit (.bool true)))), none, 0⟩])
 (.seq (.reg 0 [⟨(some 4), (.mv (.val (.lit (.bool false)))), none, 0⟩])
 .ret))))
theorem e87 : envOf Try.prog muts 87 = some (10, c87, [(Go.Abs.ARes.tmp 4)]) := by kernel_rfl
def c95 : ACode :=
 (.seq (.reg 0 [⟨(some 2), (.mv (.val (.sl true 0 []))), none, 0⟩])
 (.seq (.seq (.reg 0 [⟨(some 3), (.mv (.tmp 0)), none, 0⟩, ⟨(some 4), (.eqNil false (.tmp 3)), none, 0⟩])
 (.cond (.tmp 4) (.seq (.reg 0 [⟨(some 2), (.mv (.val (.sl true 0 []))), none, 0⟩])
 .ret) .skip))
 (.seq (.reg 2 [⟨(some 5), (.bslice 3 0 [(.lit (.string ⟨#[]⟩)), (.lit (.string ⟨#[]⟩)), (.lit (.int .i64 0))] []), none, 0⟩, ⟨(some 6), (.mv (.tmp 0)), none, 1⟩, ⟨(some 7), (.app 3 40 (.tmp 5) (.tmp 6)), none, 1⟩, ⟨(some 2), (.mv (.tmp 7)), none, 2⟩])
 .ret)))
theorem e95 : envOf Try.prog muts 95 = some (8, c95, [(Go.Abs.ARes.tmp 2)]) := by kernel_rfl
def c96l0 : ACode :=
 (.seq (.reg 0 [⟨(some 12), (.bin .lss (.tmp 11) (.tmp 10)), none, 0⟩])
 (.seq (.cond (.tmp 12) .skip (.exit 0))
 (.seq (.block 1 (.seq (.reg 0 [⟨(some 13), (.mv (.tmp 11)), none, 0⟩, ⟨(some 14), (.iaddrS 1 (.tmp 9) (.tmp 11)), none, 0⟩, ⟨(some 15), (.load 1 false (.tmp 14)), none, 0⟩, ⟨(some 7), (.mv (.tmp 13)), none, 0⟩, ⟨(some 8), (.mv (.tmp 15)), none, 0⟩])
 (.seq (.seq (.reg 0 [⟨(some 16), (.mv (.tmp 8)), none, 0⟩, ⟨(some 17), (.faddr 1 (.tmp 2)), none, 0⟩, ⟨(some 18), (.load 1 false (.tmp 17)), none, 0⟩, ⟨(some 19), (.mv (.tmp 7)), none, 0⟩, ⟨(some 20), (.iaddrS 1 (.tmp 18) (.tmp 19)), none, 0⟩, ⟨(some 21), (.load 1 false (.tmp 20)), none, 0⟩, ⟨(some 22), (.bin .gtr (.tmp 16) (.tmp 21)), none, 0⟩])
 (.cond (.tmp 22) (.seq (.reg 0 [⟨(some 23), (.build [(.sl true 0 []), (.sl true 0 [])] []), none, 0⟩, ⟨none, (.store 2 (.tmp 4) (.tmp 23)), none, 0⟩, ⟨(some 5), (.mv (.val (.lit (.int .i64 26)))), none, 0⟩])
 .ret) .skip))
 (.dreg 4 [(0, ⟨(some 24), (.faddr 0 (.tmp 6)), none, 0⟩), (1, ⟨(some 25), (.load 1 false (.tmp 24)), none, 0⟩), (2, ⟨(some 26), (.faddr 0 (.tmp 2)), none, 0⟩), (3, ⟨(some 27), (.load 1 false (.tmp 26)), none, 0⟩), (4, ⟨(some 28), (.mv (.tmp 7)), none, 0⟩), (5, ⟨(some 29), (.iaddrS 1 (.tmp 27) (.tmp 28)), none, 0⟩), (6, ⟨(some 30), (.load 1 false (.tmp 29)), none, 0⟩), (7, ⟨(some 31), (.mv (.tmp 8)), none, 0⟩), (8, ⟨(some 32), (.bin .sub (.tmp 30) (.tmp 31)), none, 0⟩), (9, ⟨(some 33), (.minmax true [(.val (.lit (.int .i64 0))), (.tmp 32)]), none, 0⟩), (10, ⟨(some 34), (.bslice 1 1 [(.lit (.int .i64 0))] [(0, (.tmp 33))]), none, 0⟩), (11, ⟨(some 35), (.app 1 8 (.tmp 25) (.tmp 34)), none, 1⟩), (12, ⟨(some 36), (.faddr 1 (.tmp 6)), none, 2⟩), (13, ⟨(some 37), (.load 1 false (.tmp 36)), none, 2⟩), (14, ⟨(some 38), (.faddr 1 (.tmp 2)), none, 2⟩), (15, ⟨(some 39), (.load 1 false (.tmp 38)), none, 2⟩), (16, ⟨(some 40), (.mv (.tmp 7)), none, 2⟩), (17, ⟨(some 41), (.iaddrS 1 (.tmp 39) (.tmp 40)), none, 2⟩), (18, ⟨(some 42), (.load 1 false (.tmp 41)), none, 2⟩), (19, ⟨(some 43), (.mv (.tmp 8)), none, 2⟩), (20, ⟨(some 44), (.bin .sub (.tmp 42) (.tmp 43)), none, 2⟩), (21, ⟨(some 45), (.bslice 1 1 [(.lit (.int .i64 0))] [(0, (.tmp 44))]), none, 2⟩), (22, ⟨(some 46), (.app 1 8 (.tmp 37) (.tmp 45)), none, 3⟩), (23, ⟨(some 47), (.faddr 0 (.tmp 6)), none, 4⟩), (24, ⟨none, (.store 1 (.tmp 47) (.tmp 35)), none, 4⟩), (25, ⟨(some 48), (.faddr 1 (.tmp 6)), none, 4⟩), (26, ⟨none, (.store 1 (.tmp 48) (.tmp 46)), none, 4⟩)] [[], [0], [], [2], [], [3, 4, 2], [5, 3, 4, 2], [], [6, 7, 5, 3, 4, 2], [8, 6, 7, 5, 3, 4, 2], [9, 8, 6, 7, 5, 3, 4, 2], [1, 10, 0, 9, 8, 6, 7, 5, 3, 4, 2], [], [12], [], [14], [], [15, 16, 14], [17, 15, 16, 14], [], [18, 19, 17, 15, 16, 14], [20, 18, 19, 17, 15, 16, 14], [13, 21, 11, 12, 20, 18, 19, 17, 15, 16, 14, 1, 10, 0, 9, 8, 6, 7, 5, 3, 4, 2], [0, 1, 2, 3, 4, 5, 6, 7, 8, 9, 10, 11, 12, 13], [23, 11, 22, 0, 1, 2, 3, 4, 5, 6, 7, 8, 9, 10, 12, 13, 21, 20, 18, 19, 17, 15, 16, 14], [0, 1, 2, 3, 4, 5, 6, 7, 8, 9, 10, 11, 12, 13, 14, 15, 16, 17, 18, 19, 20, 21, 22, 23, 24], [25, 22, 24, 0, 1, 2, 3, 4, 5, 6, 7, 8, 9, 10, 11, 12, 13, 14, 15, 16, 17, 18, 19, 20, 21, 23]]))))
 (.reg 0 [⟨(some 49), (.bin .add (.tmp 11) (.val (.lit (.int .i64 1)))), none, 0⟩, ⟨(some 11), (.mv (.tmp 49)), none, 0⟩]))))
def c96 : ACode :=
 (.seq (.reg 2 [⟨(some 2), (.box 2 (.tmp 0)), none, 0⟩, ⟨(some 4), (.alloc [(.sl true 0 []), (.sl true 0 [])]), none, 1⟩, ⟨(some 5), (.mv (.val (.lit (.int .i64 0)))), none, 2⟩])
 (.seq (.reg 1 [⟨(some 6), (.alloc [(.sl true 0 []), (.sl true 0 [])]), none, 0⟩])
 (.seq (.seq (.reg 0 [⟨(some 9), (.mv (.tmp 1)), none, 0⟩, ⟨(some 10), (.len (.tmp 9)), none, 0⟩, ⟨(some 11), (.mv (.val (.lit (.int .i64 0)))), none, 0⟩])
 (.block 0 (.loop c96l0)))
 (.seq (.reg 0 [⟨(some 50), (.load 2 true (.tmp 6)), none, 0⟩, ⟨none, (.store 2 (.tmp 4) (.tmp 50)), none, 0⟩, ⟨(some 5), (.mv (.val (.lit (.int .i64 0)))), none, 0⟩])
 .ret))))
theorem e96 : envOf Try.prog muts 96 = some (51, c96, [(Go.Abs.ARes.cell 2 true 4), (Go.Abs.ARes.tmp 5)]) := by kernel_rfl
def c97l0 : ACode :=
 (.seq (.seq (.reg 0 [⟨(some 6), (.mv (.tmp 5)), none, 0⟩, ⟨(some 7), (.mv (.tmp 1)), none, 0⟩, ⟨(some 8), (.len (.tmp 7)), none, 0⟩, ⟨(some 9), (.bin .lss (.tmp 6) (.tmp 8)), none, 0⟩])
 (.cond (.tmp 9) .skip (.exit 0)))
 (.seq (.block 1 (.seq (.dreg 0 [(0, ⟨(some 12), (.mv (.tmp 1)), none, 0⟩), (1, ⟨(some 13), (.mv (.tmp 5)), none, 0⟩), (2, ⟨(some 14), (.iaddrS 1 (.tmp 12) (.tmp 13)), none, 0⟩), (3, ⟨(some 15), (.load 1 false (.tmp 14)), none, 0⟩), (4, ⟨(some 16), (.faddr 1 (.tmp 2)), none, 0⟩), (5, ⟨(some 17), (.load 1 false (.tmp 16)), none, 0⟩), (6, ⟨(some 18), (.mv (.tmp 5)), none, 0⟩), (7, ⟨(some 19), (.iaddrS 1 (.tmp 17) (.tmp 18)), none, 0⟩), (8, ⟨(some 20), (.load 1 false (.tmp 19)), none, 0⟩), (9, ⟨(some 21), (.bin .gtr (.tmp 15) (.tmp 20)), none, 0⟩)] [[], [], [0, 1], [2, 0, 1], [], [4], [], [5, 6, 4], [7, 5, 6, 4], [3, 8, 2, 0, 1, 7, 5, 6, 4]])
 (.cond (.tmp 21) (.seq (.reg 0 [⟨(some 4), (.mv (.val (.lit (.bool true)))), none, 0⟩])
 .ret) .skip)))
 (.reg 0 [⟨(some 10), (.mv (.tmp 5)), none, 0⟩, ⟨(some 11), (.bin .add (.tmp 10) (.val (.lit (.int .i64 1)))), none, 0⟩, ⟨(some 5), (.mv (.tmp 11)), none, 0⟩])))
def c97 : ACode :=
 (.seq (.reg 1 [⟨(some 2), (.box 2 (.tmp 0)), none, 0⟩, ⟨(some 4), (.mv (.val (.lit (.bool false)))), none, 1⟩])
 (.seq (.seq (.reg 0 [⟨(some 5), (.mv (.val (.lit (.int .i64 0)))), none, 0⟩])
 (.block 0 (.loop c97l0)))
 (.seq (.reg 0 [⟨(some 4), (.mv (.val (.lit (.bool false)))), none, 0⟩])
 .ret)))
theorem e97 : envOf Try.prog muts 97 = some (22, c97, [(Go.Abs.ARes.tmp 4)]) := by kernel_rfl
def c100 : ACode :=
 (.seq (.reg 0 [⟨(some 1), (.mv (.val (.lit (.int .i64 0)))), none, 0⟩])
 (.seq (.reg 0 [⟨(some 5), (.load 1 false (.tmp 0)), none, 0⟩, ⟨(some 6), (.call false (.val (.lit (.func (.func 101) #[] #[]))) [(.tmp 5)]), none, 0⟩, ⟨(some 4), (.mv (.tmp 6)), none, 0⟩, ⟨(some 7), (.ext (.tmp 4) 0), none, 0⟩, ⟨(some 8), (.ext (.tmp 4) 1), none, 0⟩, ⟨(some 2), (.mv (.tmp 7)), none, 0⟩, ⟨(some 3), (.mv (.tmp 8)), none, 0⟩])
 (.seq (.reg 0 [⟨(some 9), (.mv (.tmp 3)), none, 0⟩, ⟨(some 1), (.mv (.tmp 9)), none, 0⟩])
 .ret)))
theorem e100 : envOf Try.prog muts 100 = some (10, c100, [(Go.Abs.ARes.tmp 1)]) := by kernel_rfl
def c101l0 : ACode :=
 (.seq (.reg 0 [⟨(some 25), (.bin .lss (.tmp 24) (.tmp 23)), none, 0⟩])
 (.seq (.cond (.tmp 25) .skip (.exit 1))
 (.seq (.block 2 (.seq (.reg 1 [⟨(some 26), (.iaddrS 2 (.tmp 22) (.tmp 24)), none, 0⟩, ⟨(some 27), (.load 2 true (.tmp 26)), none, 0⟩, ⟨(some 7), (.alloc [(.lit (.string ⟨#[]⟩)), (.sl true 0 [])]), none, 0⟩, ⟨none, (.store 2 (.tmp 7) (.tmp 27)), none, 1⟩])
 (.block 3 (.seq (.reg 0 [⟨(some 29), (.faddr 0 (.tmp 7)), none, 0⟩, ⟨(some 30), (.load 1 false (.tmp 29)), none, 0⟩, ⟨(some 31), (.call false (.val (.lit (.func (.func 86) #[] #[]))) [(.tmp 30)]), none, 0⟩, ⟨(some 32), (.not (.tmp 31)), none, 0⟩, ⟨(some 28), (.mv (.tmp 32)), none, 0⟩])
 (.cond (.tmp 28) (.seq (.reg 0 [⟨(some 2), (.mv (.val (.lit (.int .i64 0)))), none, 0⟩, ⟨(some 3), (.mv (.val (.lit (.int .i64 4)))), none, 0⟩])
 .ret) (.seq (.reg 0 [⟨(some 34), (.mv (.tmp 5)), none, 0⟩, ⟨(some 35), (.faddr 0 (.tmp 7)), none, 0⟩, ⟨(some 36), (.load 1 false (.tmp 35)), none, 0⟩, ⟨(some 37), (.call true (.val (.lit (.func (.func 87) #[] #[]))) [(.tmp 34), (.tmp 36)]), none, 0⟩, ⟨(some 33), (.mv (.tmp 37)), none, 0⟩])
 (.cond (.tmp 33) (.seq (.reg 0 [⟨(some 2), (.mv (.val (.lit (.int .i64 0)))), none, 0⟩, ⟨(some 3), (.mv (.val (.lit (.int .i64 5)))), none, 0⟩])
 .ret) (.seq (.reg 0 [⟨(some 39), (.faddr 1 (.tmp 7)), none, 0⟩, ⟨(some 40), (.load 1 false (.tmp 39)), none, 0⟩, ⟨(some 41), (.len (.tmp 40)), none, 0⟩, ⟨(some 42), (.mv (.tmp 4)), none, 0⟩, ⟨(some 43), (.bin .neq (.tmp 41) (.tmp 42)), none, 0⟩, ⟨(some 44), (.mv (.tmp 43)), none, 0⟩, ⟨(some 45), (.mv (.tmp 4)), (some (44, false)), 0⟩, ⟨(some 46), (.call false (.val (.lit (.func (.func 80) #[] #[]))) [(.tmp 45), (.val (.lit (.int .i64 1))), (.val (.lit (.int .i64 40)))]), (some (44, false)), 0⟩, ⟨(some 47), (.not (.tmp 46)), (some (44, false)), 0⟩, ⟨(some 48), (.pick (.tmp 44) (.val (.lit (.bool true))) (.tmp 47)), none, 0⟩, ⟨(some 38), (.mv (.tmp 48)), none, 0⟩])
 (.cond (.tmp 38) (.seq (.reg 0 [⟨(some 2), (.mv (.val (.lit (.int .i64 0)))), none, 0⟩, ⟨(some 3), (.mv (.val (.lit (.int .i64 10)))), none, 0⟩])
 .ret) (.seq (.reg 0 [⟨(some 50), (.faddr 1 (.tmp 7)), none, 0⟩, ⟨(some 51), (.load 1 false (.tmp 50)), none, 0⟩, ⟨(some 52), (.call true (.val (.lit (.func (.func 107) #[] #[]))) [(.tmp 51), (.val (.lit (.func (.func 113) #[] #[])))]), none, 0⟩, ⟨(some 49), (.mv (.tmp 52)), none, 0⟩])
 (.cond (.tmp 49) (.seq (.reg 0 [⟨(some 2), (.mv (.val (.lit (.int .i64 0)))), none, 0⟩, ⟨(some 3), (.mv (.val (.lit (.int .i64 2)))), none, 0⟩])
 .ret) .skip)))))))))))
 (.reg 0 [⟨(some 53), (.bin .add (.tmp 24) (.val (.lit (.int .i64 1)))), none, 0⟩, ⟨(some 24), (.mv (.tmp 53)), none, 0⟩]))))
def c101 : ACode :=
 (.seq (.reg 0 [⟨(some 2), (.mv (.val (.lit (.int .i64 0)))), none, 0⟩, ⟨(some 3), (.mv (.val (.lit (.int .i64 0)))), none, 0⟩])
 (.seq (.block 0 (.seq (.reg 0 [⟨(some 9), (.mv (.tmp 0)), none, 0⟩, ⟨(some 10), (.len (.tmp 9)), none, 0⟩, ⟨(some 11), (.bin .eql (.tmp 10) (.val (.lit (.int .i64 0)))), none, 0⟩, ⟨(some 8), (.mv (.tmp 11)), none, 0⟩])
 (.cond (.tmp 8) (.seq (.reg 0 [⟨(some 2), (.mv (.val (.lit (.int .i64 0)))), none, 0⟩, ⟨(some 3), (.mv (.val (.lit (.int .i64 10)))), none, 0⟩])
 .ret) (.seq (.reg 0 [⟨(some 13), (.mv (.tmp 0)), none, 0⟩, ⟨(some 14), (.len (.tmp 13)), none, 0⟩, ⟨(some 15), (.bin .gtr (.tmp 14) (.val (.lit (.int .i64 12)))), none, 0⟩, ⟨(some 12), (.mv (.tmp 15)), none, 0⟩])
 (.cond (.tmp 12) (.seq (.reg 0 [⟨(some 2), (.mv (.val (.lit (.int .i64 0)))), none, 0⟩, ⟨(some 3), (.mv (.val (.lit (.int .i64 8)))), none, 0⟩])
 .ret) .skip)))))
 (.seq (.reg 0 [⟨(some 16), (.mv (.tmp 0)), none, 0⟩, ⟨(some 17), (.iaddrS 2 (.tmp 16) (.val (.lit (.int .i64 0)))), none, 0⟩, ⟨(some 18), (.faddr 1 (.tmp 17)), none, 0⟩, ⟨(some 19), (.load 1 false (.tmp 18)), none, 0⟩, ⟨(some 20), (.len (.tmp 19)), none, 0⟩, ⟨(some 4), (.mv (.tmp 20)), none, 0⟩])
 (.seq (.reg 1 [⟨(some 21), (.mkmap .str), none, 0⟩, ⟨(some 5), (.mv (.tmp 21)), none, 1⟩])
 (.seq (.seq (.reg 0 [⟨(some 22), (.mv (.tmp 0)), none, 0⟩, ⟨(some 23), (.len (.tmp 22)), none, 0⟩, ⟨(some 24), (.mv (.val (.lit (.int .i64 0)))), none, 0⟩])
 (.block 1 (.loop c101l0)))
 (.seq (.reg 0 [⟨(some 54), (.mv (.tmp 4)), none, 0⟩, ⟨(some 2), (.mv (.tmp 54)), none, 0⟩, ⟨(some 3), (.mv (.val (.lit (.int .i64 0)))), none, 0⟩])
 .ret))))))
theorem e101 : envOf Try.prog muts 101 = some (55, c101, [(Go.Abs.ARes.tmp 2), (Go.Abs.ARes.tmp 3)]) := by kernel_rfl
def c102l0 : ACode :=
 (.seq (.reg 0 [⟨(some 11), (.bin .lss (.tmp 10) (.tmp 9)), none, 0⟩])
 (.seq (.cond (.tmp 11) .skip (.exit 0))
 (.seq (.block 1 (.seq (.reg 1 [⟨(some 12), (.iaddrS 3 (.tmp 8) (.tmp 10)), none, 0⟩, ⟨(some 13), (.load 3 true (.tmp 12)), none, 0⟩, ⟨(some 4), (.alloc [(.lit (.string ⟨#[]⟩)), (.lit (.string ⟨#[]⟩)), (.lit (.int .i64 0))]), none, 0⟩, ⟨none, (.store 3 (.tmp 4) (.tmp 13)), none, 1⟩])
 (.block 2 (.seq (.reg 0 [⟨(some 15), (.faddr 0 (.tmp 4)), none, 0⟩, ⟨(some 16), (.load 1 false (.tmp 15)), none, 0⟩, ⟨(some 17), (.call false (.val (.lit (.func (.func 86) #[] #[]))) [(.tmp 16)]), none, 0⟩, ⟨(some 18), (.not (.tmp 17)), none, 0⟩, ⟨(some 14), (.mv (.tmp 18)), none, 0⟩])
 (.cond (.tmp 14) (.seq (.reg 0 [⟨(some 2), (.mv (.val (.lit (.int .i64 4)))), none, 0⟩])
 .ret) (.seq (.reg 0 [⟨(some 20), (.load 1 false (.tmp 1)), none, 0⟩, ⟨(some 21), (.faddr 1 (.tmp 4)), none, 0⟩, ⟨(some 22), (.load 1 false (.tmp 21)), none, 0⟩, ⟨(some 23), (.call false (.val (.lit (.func (.func 103) #[] #[]))) [(.tmp 20), (.tmp 22)]), none, 0⟩, ⟨(some 24), (.bin .lss (.tmp 23) (.val (.lit (.int .i64 0)))), none, 0⟩, ⟨(some 19), (.mv (.tmp 24)), none, 0⟩])
 (.cond (.tmp 19) (.seq (.reg 0 [⟨(some 2), (.mv (.val (.lit (.int .i64 6)))), none, 0⟩])
 .ret) (.seq (.reg 0 [⟨(some 26), (.faddr 2 (.tmp 4)), none, 0⟩, ⟨(some 27), (.load 1 false (.tmp 26)), none, 0⟩, ⟨(some 28), (.call false (.val (.lit (.func (.func 80) #[] #[]))) [(.tmp 27), (.val (.lit (.int .i64 1))), (.val (.lit (.int .i64 10000)))]), none, 0⟩, ⟨(some 29), (.not (.tmp 28)), none, 0⟩, ⟨(some 25), (.mv (.tmp 29)), none, 0⟩])
 (.cond (.tmp 25) (.seq (.reg 0 [⟨(some 2), (.mv (.val (.lit (.int .i64 2)))), none, 0⟩])
 .ret) .skip)))))))))
 (.reg 0 [⟨(some 30), (.bin .add (.tmp 10) (.val (.lit (.int .i64 1)))), none, 0⟩, ⟨(some 10), (.mv (.tmp 30)), none, 0⟩]))))
def c102 : ACode :=
 (.seq (.reg 0 [⟨(some 2), (.mv (.val (.lit (.int .i64 0)))), none, 0⟩])
 (.seq (.seq (.reg 0 [⟨(some 5), (.load 1 false (.tmp 0)), none, 0⟩, ⟨(some 6), (.len (.tmp 5)), none, 0⟩, ⟨(some 7), (.bin .gtr (.tmp 6) (.val (.lit (.int .i64 200)))), none, 0⟩])
 (.cond (.tmp 7) (.seq (.reg 0 [⟨(some 2), (.mv (.val (.lit (.int .i64 8)))), none, 0⟩])
 .ret) .skip))
 (.seq (.seq (.reg 0 [⟨(some 8), (.load 1 false (.tmp 0)), none, 0⟩, ⟨(some 9), (.len (.tmp 8)), none, 0⟩, ⟨(some 10), (.mv (.val (.lit (.int .i64 0)))), none, 0⟩])
 (.block 0 (.loop c102l0)))
 (.seq (.reg 0 [⟨(some 2), (.mv (.val (.lit (.int .i64 0)))), none, 0⟩])
 .ret))))
theorem e102 : envOf Try.prog muts 102 = some (31, c102, [(Go.Abs.ARes.tmp 2)]) := by kernel_rfl
def c103 : ACode :=
 (.seq (.reg 1 [⟨(some 3), (.box 1 (.tmp 1)), none, 0⟩, ⟨(some 4), (.mv (.val (.lit (.int .i64 0)))), none, 1⟩])
 (.seq (.reg 0 [⟨(some 5), (.mv (.tmp 0)), none, 0⟩, ⟨(some 6), (.mkf (.func 115) [] [(.tmp 3)]), none, 0⟩, ⟨(some 7), (.call true (.val (.lit (.func (.func 114) #[] #[]))) [(.tmp 5), (.tmp 6)]), none, 0⟩, ⟨(some 4), (.mv (.tmp 7)), none, 0⟩])
 .ret))
theorem e103 : envOf Try.prog muts 103 = some (8, c103, [(Go.Abs.ARes.tmp 4)]) := by kernel_rfl
def c104 : ACode :=
 (.seq (.reg 0 [⟨(some 1), (.mv (.val (.lit (.int .i64 0)))), none, 0⟩])
 (.seq (.seq (.reg 0 [⟨(some 2), (.load 1 false (.tmp 0)), none, 0⟩, ⟨(some 3), (.call false (.val (.lit (.func (.func 86) #[] #[]))) [(.tmp 2)]), none, 0⟩, ⟨(some 4), (.not (.tmp 3)), none, 0⟩])
 (.cond (.tmp 4) (.seq (.reg 0 [⟨(some 1), (.mv (.val (.lit (.int .i64 4)))), none, 0⟩])
 .ret) .skip))
 (.seq (.reg 0 [⟨(some 1), (.mv (.val (.lit (.int .i64 0)))), none, 0⟩])
 .ret)))
theorem e104 : envOf Try.prog muts 104 = some (5, c104, [(Go.Abs.ARes.tmp 1)]) := by kernel_rfl
def c105l0 : ACode :=
 (.seq (.reg 0 [⟨(some 27), (.bin .lss (.tmp 26) (.tmp 25)), none, 0⟩])
 (.seq (.cond (.tmp 27) .skip (.exit 0))
 (.seq (.block 1 (.seq (.reg 0 [⟨(some 28), (.mv (.tmp 26)), none, 0⟩, ⟨(some 29), (.iaddrS 1 (.tmp 24) (.tmp 26)), none, 0⟩, ⟨(some 30), (.load 1 false (.tmp 29)), none, 0⟩, ⟨(some 4), (.mv (.tmp 28)), none, 0⟩, ⟨(some 5), (.mv (.tmp 30)), none, 0⟩])
 (.block 2 (.seq (.reg 0 [⟨(some 32), (.mv (.tmp 5)), none, 0⟩, ⟨(some 33), (.call false (.val (.lit (.func (.func 80) #[] #[]))) [(.tmp 32), (.val (.lit (.int .i64 0))), (.val (.lit (.int .i64 10000)))]), none, 0⟩, ⟨(some 34), (.not (.tmp 33)), none, 0⟩, ⟨(some 35), (.mv (.tmp 34)), none, 0⟩, ⟨(some 36), (.faddr 1 (.tmp 1)), (some (35, false)), 0⟩, ⟨(some 37), (.load 1 false (.tmp 36)), (some (35, false)), 0⟩, ⟨(some 38), (.mv (.tmp 4)), (some (35, false)), 0⟩, ⟨(some 39), (.iaddrS 1 (.tmp 37) (.tmp 38)), (some (35, false)), 0⟩, ⟨(some 40), (.load 1 false (.tmp 39)), (some (35, false)), 0⟩, ⟨(some 41), (.call false (.val (.lit (.func (.func 80) #[] #[]))) [(.tmp 40), (.val (.lit (.int .i64 0))), (.val (.lit (.int .i64 10000)))]), (some (35, false)), 0⟩, ⟨(some 42), (.not (.tmp 41)), (some (35, false)), 0⟩, ⟨(some 43), (.pick (.tmp 35) (.val (.lit (.bool true))) (.tmp 42)), none, 0⟩, ⟨(some 31), (.mv (.tmp 43)), none, 0⟩])
 (.cond (.tmp 31) (.seq (.reg 0 [⟨(some 2), (.mv (.val (.lit (.int .i64 2)))), none, 0⟩])
 .ret) (.seq (.reg 0 [⟨(some 45), (.faddr 1 (.tmp 1)), none, 0⟩, ⟨(some 46), (.load 1 false (.tmp 45)), none, 0⟩, ⟨(some 47), (.mv (.tmp 4)), none, 0⟩, ⟨(some 48), (.iaddrS 1 (.tmp 46) (.tmp 47)), none, 0⟩, ⟨(some 49), (.load 1 false (.tmp 48)), none, 0⟩, ⟨(some 50), (.mv (.tmp 5)), none, 0⟩, ⟨(some 51), (.bin .lss (.tmp 49) (.tmp 50)), none, 0⟩, ⟨(some 44), (.mv (.tmp 51)), none, 0⟩])
 (.cond (.tmp 44) (.seq (.reg 0 [⟨(some 2), (.mv (.val (.lit (.int .i64 9)))), none, 0⟩])
 .ret) .skip)))))))
 (.reg 0 [⟨(some 52), (.bin .add (.tmp 26) (.val (.lit (.int .i64 1)))), none, 0⟩, ⟨(some 26), (.mv (.tmp 52)), none, 0⟩]))))
def c105 : ACode :=
 (.seq (.reg 0 [⟨(some 2), (.mv (.val (.lit (.int .i64 0)))), none, 0⟩])
 (.seq (.seq (.reg 0 [⟨(some 6), (.load 1 false (.tmp 0)), none, 0⟩, ⟨(some 7), (.iaddrS 2 (.tmp 6) (.val (.lit (.int .i64 0)))), none, 0⟩, ⟨(some 8), (.faddr 1 (.tmp 7)), none, 0⟩, ⟨(some 9), (.load 1 false (.tmp 8)), none, 0⟩, ⟨(some 10), (.len (.tmp 9)), none, 0⟩, ⟨(some 3), (.mv (.tmp 10)), none, 0⟩])
 (.seq (.reg 0 [⟨(some 11), (.faddr 0 (.tmp 1)), none, 0⟩, ⟨(some 12), (.load 1 false (.tmp 11)), none, 0⟩, ⟨(some 13), (.len (.tmp 12)), none, 0⟩, ⟨(some 14), (.mv (.tmp 3)), none, 0⟩, ⟨(some 15), (.bin .neq (.tmp 13) (.tmp 14)), none, 0⟩, ⟨(some 16), (.mv (.tmp 15)), none, 0⟩, ⟨(some 17), (.faddr 1 (.tmp 1)), (some (16, false)), 0⟩, ⟨(some 18), (.load 1 false (.tmp 17)), (some (16, false)), 0⟩, ⟨(some 19), (.len (.tmp 18)), (some (16, false)), 0⟩, ⟨(some 20), (.mv (.tmp 3)), (some (16, false)), 0⟩, ⟨(some 21), (.bin .neq (.tmp 19) (.tmp 20)), (some (16, false)), 0⟩, ⟨(some 22), (.pick (.tmp 16) (.val (.lit (.bool true))) (.tmp 21)), none, 0⟩])
 (.cond (.tmp 22) (.seq (.reg 0 [⟨(some 2), (.mv (.val (.lit (.int .i64 10)))), none, 0⟩])
 .ret) .skip)))
 (.seq (.seq (.reg 0 [⟨(some 23), (.faddr 0 (.tmp 1)), none, 0⟩, ⟨(some 24), (.load 1 false (.tmp 23)), none, 0⟩, ⟨(some 25), (.len (.tmp 24)), none, 0⟩, ⟨(some 26), (.mv (.val (.lit (.int .i64 0)))), none, 0⟩])
 (.block 0 (.loop c105l0)))
 (.seq (.reg 0 [⟨(some 2), (.mv (.val (.lit (.int .i64 0)))), none, 0⟩])
 .ret))))
theorem e105 : envOf Try.prog muts 105 = some (53, c105, [(Go.Abs.ARes.tmp 2)]) := by kernel_rfl
def c107 : ACode :=
 (.seq (.reg 0 [⟨(some 4), (.mv (.val (.lit (.bool false)))), none, 0⟩])
 (.seq (.reg 0 [⟨(some 5), (.mv (.tmp 0)), none, 0⟩, ⟨(some 6), (.mv (.tmp 1)), none, 0⟩, ⟨(some 7), (.call true (.val (.lit (.func (.func 116) #[] #[]))) [(.tmp 5), (.tmp 6)]), none, 0⟩, ⟨(some 8), (.bin .geq (.tmp 7) (.val (.lit (.int .i64 0)))), none, 0⟩, ⟨(some 4), (.mv (.tmp 8)), none, 0⟩])
 .ret))
theorem e107 : envOf Try.prog muts 107 = some (9, c107, [(Go.Abs.ARes.tmp 4)]) := by kernel_rfl
def c113 : ACode :=
 (.seq (.reg 0 [⟨(some 2), (.mv (.val (.lit (.bool false)))), none, 0⟩])
 (.seq (.reg 0 [⟨(some 3), (.mv (.tmp 0)), none, 0⟩, ⟨(some 4), (.call false (.val (.lit (.func (.func 80) #[] #[]))) [(.tmp 3), (.val (.lit (.int .i64 0))), (.val (.lit (.int .i64 100)))]), none, 0⟩, ⟨(some 5), (.not (.tmp 4)), none, 0⟩, ⟨(some 2), (.mv (.tmp 5)), none, 0⟩])
 .ret))
theorem e113 : envOf Try.prog muts 113 = some (6, c113, [(Go.Abs.ARes.tmp 2)]) := by kernel_rfl
def c114l0 : ACode :=
 (.seq (.reg 0 [⟨(some 9), (.bin .lss (.tmp 8) (.tmp 7)), none, 0⟩])
 (.seq (.cond (.tmp 9) .skip (.exit 0))
 (.seq (.block 1 (.seq (.reg 0 [⟨(some 10), (.mv (.tmp 8)), none, 0⟩, ⟨(some 5), (.mv (.tmp 10)), none, 0⟩])
 (.seq (.reg 0 [⟨(some 11), (.mv (.tmp 1)), none, 0⟩, ⟨(some 12), (.mv (.tmp 0)), none, 0⟩, ⟨(some 13), (.mv (.tmp 5)), none, 0⟩, ⟨(some 14), (.iaddrS 2 (.tmp 12) (.tmp 13)), none, 0⟩, ⟨(some 15), (.load 2 true (.tmp 14)), none, 0⟩, ⟨(some 16), (.call true (.tmp 11) [(.tmp 15)]), none, 0⟩])
 (.cond (.tmp 16) (.seq (.reg 0 [⟨(some 17), (.mv (.tmp 5)), none, 0⟩, ⟨(some 4), (.mv (.tmp 17)), none, 0⟩])
 .ret) .skip))))
 (.reg 0 [⟨(some 18), (.bin .add (.tmp 8) (.val (.lit (.int .i64 1)))), none, 0⟩, ⟨(some 8), (.mv (.tmp 18)), none, 0⟩]))))
def c114 : ACode :=
 (.seq (.reg 0 [⟨(some 4), (.mv (.val (.lit (.int .i64 0)))), none, 0⟩])
 (.seq (.seq (.reg 0 [⟨(some 6), (.mv (.tmp 0)), none, 0⟩, ⟨(some 7), (.len (.tmp 6)), none, 0⟩, ⟨(some 8), (.mv (.val (.lit (.int .i64 0)))), none, 0⟩])
 (.block 0 (.loop c114l0)))
 (.seq (.reg 0 [⟨(some 4), (.mv (.val (.lit (.int .i64 (-1))))), none, 0⟩])
 .ret)))
theorem e114 : envOf Try.prog muts 114 = some (19, c114, [(Go.Abs.ARes.tmp 4)]) := by kernel_rfl
def c115 : ACode :=
 (.seq (.reg 1 [⟨(some 2), (.box 2 (.tmp 0)), none, 0⟩, ⟨(some 3), (.mv (.val (.lit (.bool false)))), none, 1⟩])
 (.seq (.reg 0 [⟨(some 4), (.faddr 0 (.tmp 2)), none, 0⟩, ⟨(some 5), (.load 1 false (.tmp 4)), none, 0⟩, ⟨(some 6), (.load 1 false (.tmp 1)), none, 0⟩, ⟨(some 7), (.bin .eql (.tmp 5) (.tmp 6)), none, 0⟩, ⟨(some 3), (.mv (.tmp 7)), none, 0⟩])
 .ret))
theorem e115 : envOf Try.prog muts 115 = some (8, c115, [(Go.Abs.ARes.tmp 3)]) := by kernel_rfl
def c116l0 : ACode :=
 (.seq (.reg 0 [⟨(some 9), (.bin .lss (.tmp 8) (.tmp 7)), none, 0⟩])
 (.seq (.cond (.tmp 9) .skip (.exit 0))
 (.seq (.block 1 (.seq (.reg 0 [⟨(some 10), (.mv (.tmp 8)), none, 0⟩, ⟨(some 5), (.mv (.tmp 10)), none, 0⟩])
 (.seq (.reg 0 [⟨(some 11), (.mv (.tmp 1)), none, 0⟩, ⟨(some 12), (.mv (.tmp 0)), none, 0⟩, ⟨(some 13), (.mv (.tmp 5)), none, 0⟩, ⟨(some 14), (.iaddrS 1 (.tmp 12) (.tmp 13)), none, 0⟩, ⟨(some 15), (.load 1 false (.tmp 14)), none, 0⟩, ⟨(some 16), (.call true (.tmp 11) [(.tmp 15)]), none, 0⟩])
 (.cond (.tmp 16) (.seq (.reg 0 [⟨(some 17), (.mv (.tmp 5)), none, 0⟩, ⟨(some 4), (.mv (.tmp 17)), none, 0⟩])
 .ret) .skip))))
 (.reg 0 [⟨(some 18), (.bin .add (.tmp 8) (.val (.lit (.int .i64 1)))), none, 0⟩, ⟨(some 8), (.mv (.tmp 18)), none, 0⟩]))))
def c116 : ACode :=
 (.seq (.reg 0 [⟨(some 4), (.mv (.val (.lit (.int .i64 0)))), none, 0⟩])
 (.seq (.seq (.reg 0 [⟨(some 6), (.mv (.tmp 0)), none, 0⟩, ⟨(some 7), (.len (.tmp 6)), none, 0⟩, ⟨(some 8), (.mv (.val (.lit (.int .i64 0)))), none, 0⟩])
 (.block 0 (.loop c116l0)))
 (.seq (.reg 0 [⟨(some 4), (.mv (.val (.lit (.int .i64 (-1))))), none, 0⟩])
 .ret)))
theorem e116 : envOf Try.prog muts 116 = some (19, c116, [(Go.Abs.ARes.tmp 4)]) := by kernel_rfl
end Go.Abs
