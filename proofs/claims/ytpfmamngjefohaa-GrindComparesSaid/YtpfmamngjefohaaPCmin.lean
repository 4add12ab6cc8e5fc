import Derived.Test.YtpfmamngjefohaaAbs21
import Derived.KernelRfl
import Derived.Test.YtpfmamngjefohaaProg
set_option linter.all false
set_option linter.unusedVariables false
set_option linter.unusedSimpArgs false
set_option linter.unusedSectionVars false
/- The code of the functions that are walked, as the machine of these texts has it. -/
namespace Go.Abs
open Go.Proofs
abbrev muts : List FuncId := []
def c3 : ACode :=
 (.seq (.reg 2 [⟨(some 4), (.box 2 (.tmp 1)), none, 0⟩, ⟨(some 5), (.box 2 (.tmp 2)), none, 1⟩, ⟨(some 6), (.mv (.val (.lit (.bool false)))), none, 2⟩])
 (.seq (.seq (.reg 0 [⟨(some 16), (.call false (.val (.lit (.func (.func 13) #[] #[]))) []), none, 0⟩, ⟨(some 17), (.not (.tmp 16)), none, 0⟩])
 (.cond (.tmp 17) (.seq (.reg 0 [⟨(some 6), (.mv (.val (.lit (.bool false)))), none, 0⟩])
 .ret) .skip))
 (.seq (.seq (.reg 0 [⟨(some 18), (.mv (.tmp 0)), none, 0⟩, ⟨(some 19), (.len (.tmp 18)), none, 0⟩, ⟨(some 20), (.bin .gtr (.tmp 19) (.val (.lit (.int .i64 6)))), none, 0⟩, ⟨(some 21), (.mv (.tmp 20)), none, 0⟩, ⟨(some 22), (.mv (.tmp 0)), (some (21, false)), 0⟩, ⟨(some 23), (.call false (.val (.lit (.func (.func 14) #[] #[]))) [(.tmp 22)]), (some (21, false)), 0⟩, ⟨(some 24), (.not (.tmp 23)), (some (21, false)), 0⟩, ⟨(some 25), (.pick (.tmp 21) (.val (.lit (.bool true))) (.tmp 24)), none, 0⟩, ⟨(some 26), (.mv (.tmp 25)), none, 0⟩, ⟨(some 27), (.iaddrA 2 1 (.tmp 5) (.val (.lit (.int .i64 0)))), (some (26, false)), 0⟩, ⟨(some 28), (.load 1 false (.tmp 27)), (some (26, false)), 0⟩, ⟨(some 29), (.call false (.val (.lit (.func (.func 15) #[] #[]))) [(.tmp 28), (.val (.lit (.int .i64 0))), (.val (.lit (.int .i64 1000)))]), (some (26, false)), 0⟩, ⟨(some 30), (.not (.tmp 29)), (some (26, false)), 0⟩, ⟨(some 31), (.pick (.tmp 26) (.val (.lit (.bool true))) (.tmp 30)), none, 0⟩, ⟨(some 32), (.mv (.tmp 31)), none, 0⟩, ⟨(some 33), (.iaddrA 2 1 (.tmp 5) (.val (.lit (.int .i64 1)))), (some (32, false)), 0⟩, ⟨(some 34), (.load 1 false (.tmp 33)), (some (32, false)), 0⟩, ⟨(some 35), (.call false (.val (.lit (.func (.func 15) #[] #[]))) [(.tmp 34), (.val (.lit (.int .i64 0))), (.val (.lit (.int .i64 1000)))]), (some (32, false)), 0⟩, ⟨(some 36), (.not (.tmp 35)), (some (32, false)), 0⟩, ⟨(some 37), (.pick (.tmp 32) (.val (.lit (.bool true))) (.tmp 36)), none, 0⟩, ⟨(some 38), (.mv (.tmp 37)), none, 0⟩, ⟨(some 39), (.iaddrA 2 1 (.tmp 4) (.val (.lit (.int .i64 0)))), (some (38, false)), 0⟩, ⟨(some 40), (.load 1 false (.tmp 39)), (some (38, false)), 0⟩, ⟨(some 41), (.call false (.val (.lit (.func (.func 15) #[] #[]))) [(.tmp 40), (.val (.lit (.int .i64 0))), (.val (.lit (.int .i64 1000000)))]), (some (38, false)), 0⟩, ⟨(some 42), (.not (.tmp 41)), (some (38, false)), 0⟩, ⟨(some 43), (.pick (.tmp 38) (.val (.lit (.bool true))) (.tmp 42)), none, 0⟩, ⟨(some 44), (.mv (.tmp 43)), none, 0⟩, ⟨(some 45), (.iaddrA 2 1 (.tmp 4) (.val (.lit (.int .i64 1)))), (some (44, false)), 0⟩, ⟨(some 46), (.load 1 false (.tmp 45)), (some (44, false)), 0⟩, ⟨(some 47), (.call false (.val (.lit (.func (.func 15) #[] #[]))) [(.tmp 46), (.val (.lit (.int .i64 0))), (.val (.lit (.int .i64 1000000)))]), (some (44, false)), 0⟩, ⟨(some 48), (.not (.tmp 47)), (some (44, false)), 0⟩, ⟨(some 49), (.pick (.tmp 44) (.val (.lit (.bool true))) (.tmp 48)), none, 0⟩])
 (.cond (.tmp 49) (.seq (.reg 0 [⟨(some 6), (.mv (.val (.lit (.bool true)))), none, 0⟩])
 .ret) .skip))
 (.seq (.dreg 0 [(0, ⟨(some 51), (.mv (.tmp 0)), none, 0⟩), (1, ⟨(some 52), (.call false (.val (.lit (.func (.func 17) #[] #[]))) [(.tmp 51)]), none, 0⟩), (2, ⟨(some 53), (.load 2 true (.tmp 4)), none, 0⟩), (3, ⟨(some 54), (.call false (.val (.lit (.func (.func 16) #[] #[]))) [(.tmp 52), (.tmp 53)]), none, 0⟩), (4, ⟨(some 50), (.mv (.tmp 54)), none, 0⟩), (5, ⟨(some 55), (.ext (.tmp 50) 0), none, 0⟩), (6, ⟨(some 56), (.ext (.tmp 50) 1), none, 0⟩), (7, ⟨(some 57), (.ext (.tmp 50) 2), none, 0⟩), (8, ⟨(some 7), (.mv (.tmp 55)), none, 0⟩), (9, ⟨(some 8), (.mv (.tmp 56)), none, 0⟩), (10, ⟨(some 9), (.mv (.tmp 57)), none, 0⟩)] [[], [0], [], [1, 2, 0], [3, 1, 2, 0], [4, 3, 1, 2, 0], [4, 3, 1, 2, 0], [4, 3, 1, 2, 0], [5, 3, 0, 1, 2, 4], [6, 8, 0, 1, 2, 3, 4, 5], [7, 9, 0, 1, 2, 3, 4, 5, 6, 8]])
 (.seq (.seq (.reg 0 [⟨(some 58), (.mv (.tmp 9)), none, 0⟩, ⟨(some 59), (.bin .neq (.tmp 58) (.val (.lit (.int .i64 0)))), none, 0⟩, ⟨(some 60), (.mv (.tmp 59)), none, 0⟩, ⟨(some 61), (.mv (.tmp 9)), (some (60, true)), 0⟩, ⟨(some 62), (.bin .neq (.tmp 61) (.val (.lit (.int .i64 12)))), (some (60, true)), 0⟩, ⟨(some 63), (.pick (.tmp 60) (.tmp 62) (.val (.lit (.bool false)))), none, 0⟩])
 (.cond (.tmp 63) (.seq (.reg 0 [⟨(some 6), (.mv (.val (.lit (.bool true)))), none, 0⟩])
 .ret) .skip))
 (.seq (.dreg 0 [(0, ⟨(some 65), (.mv (.tmp 0)), none, 0⟩), (1, ⟨(some 66), (.call false (.val (.lit (.func (.func 17) #[] #[]))) [(.tmp 65)]), none, 0⟩), (2, ⟨(some 67), (.iaddrA 2 1 (.tmp 4) (.val (.lit (.int .i64 0)))), none, 0⟩), (3, ⟨(some 68), (.load 1 false (.tmp 67)), none, 0⟩), (4, ⟨(some 69), (.iaddrA 2 1 (.tmp 5) (.val (.lit (.int .i64 0)))), none, 0⟩), (5, ⟨(some 70), (.load 1 false (.tmp 69)), none, 0⟩), (6, ⟨(some 71), (.bin .add (.tmp 68) (.tmp 70)), none, 0⟩), (7, ⟨(some 72), (.minmax false [(.val (.lit (.int .i64 1000000))), (.tmp 71)]), none, 0⟩), (8, ⟨(some 73), (.iaddrA 2 1 (.tmp 4) (.val (.lit (.int .i64 1)))), none, 0⟩), (9, ⟨(some 74), (.load 1 false (.tmp 73)), none, 0⟩), (10, ⟨(some 75), (.iaddrA 2 1 (.tmp 5) (.val (.lit (.int .i64 1)))), none, 0⟩), (11, ⟨(some 76), (.load 1 false (.tmp 75)), none, 0⟩), (12, ⟨(some 77), (.bin .sub (.tmp 74) (.tmp 76)), none, 0⟩), (13, ⟨(some 78), (.minmax true [(.val (.lit (.int .i64 0))), (.tmp 77)]), none, 0⟩), (14, ⟨(some 79), (.build [(.lit (.int .i64 0)), (.lit (.int .i64 0))] [(0, (1, (.tmp 72))), (1, (1, (.tmp 78)))]), none, 0⟩), (15, ⟨(some 80), (.call false (.val (.lit (.func (.func 16) #[] #[]))) [(.tmp 66), (.tmp 79)]), none, 0⟩), (16, ⟨(some 64), (.mv (.tmp 80)), none, 0⟩), (17, ⟨(some 81), (.ext (.tmp 64) 0), none, 0⟩), (18, ⟨(some 82), (.ext (.tmp 64) 1), none, 0⟩), (19, ⟨(some 83), (.ext (.tmp 64) 2), none, 0⟩), (20, ⟨(some 10), (.mv (.tmp 81)), none, 0⟩), (21, ⟨(some 11), (.mv (.tmp 82)), none, 0⟩), (22, ⟨(some 12), (.mv (.tmp 83)), none, 0⟩)] [[], [0], [], [2], [], [4], [3, 5, 2, 4], [6, 3, 5, 2, 4], [], [8], [], [10], [9, 11, 8, 10], [12, 9, 11, 8, 10], [7, 13, 6, 3, 5, 2, 4, 12, 9, 11, 8, 10], [1, 14, 0, 7, 13, 6, 3, 5, 2, 4, 12, 9, 11, 8, 10], [15, 1, 14, 0, 7, 13, 6, 3, 5, 2, 4, 12, 9, 11, 8, 10], [16, 15, 1, 14, 0, 7, 13, 6, 3, 5, 2, 4, 12, 9, 11, 8, 10], [16, 15, 1, 14, 0, 7, 13, 6, 3, 5, 2, 4, 12, 9, 11, 8, 10], [16, 15, 1, 14, 0, 7, 13, 6, 3, 5, 2, 4, 12, 9, 11, 8, 10], [17, 15, 0, 1, 2, 3, 4, 5, 6, 7, 8, 9, 10, 11, 12, 13, 14, 16], [18, 20, 0, 1, 2, 3, 4, 5, 6, 7, 8, 9, 10, 11, 12, 13, 14, 15, 16, 17], [19, 21, 0, 1, 2, 3, 4, 5, 6, 7, 8, 9, 10, 11, 12, 13, 14, 15, 16, 17, 18, 20]])
 (.seq (.seq (.reg 0 [⟨(some 84), (.mv (.tmp 12)), none, 0⟩, ⟨(some 85), (.bin .neq (.tmp 84) (.val (.lit (.int .i64 0)))), none, 0⟩, ⟨(some 86), (.mv (.tmp 85)), none, 0⟩, ⟨(some 87), (.mv (.tmp 12)), (some (86, true)), 0⟩, ⟨(some 88), (.bin .neq (.tmp 87) (.val (.lit (.int .i64 12)))), (some (86, true)), 0⟩, ⟨(some 89), (.pick (.tmp 86) (.tmp 88) (.val (.lit (.bool false)))), none, 0⟩, ⟨(some 90), (.mv (.tmp 89)), none, 0⟩, ⟨(some 91), (.mv (.tmp 12)), (some (90, false)), 0⟩, ⟨(some 92), (.bin .eql (.tmp 91) (.val (.lit (.int .i64 0)))), (some (90, false)), 0⟩, ⟨(some 93), (.mv (.tmp 92)), (some (90, false)), 0⟩, ⟨(some 94), (.mv (.tmp 9)), (some (93, true)), 0⟩, ⟨(some 95), (.bin .neq (.tmp 94) (.val (.lit (.int .i64 0)))), (some (93, true)), 0⟩, ⟨(some 96), (.mv (.tmp 95)), (some (93, true)), 0⟩, ⟨(some 97), (.mv (.tmp 11)), (some (96, false)), 0⟩, ⟨(some 98), (.mv (.tmp 8)), (some (96, false)), 0⟩, ⟨(some 99), (.bin .lss (.tmp 97) (.tmp 98)), (some (96, false)), 0⟩, ⟨(some 100), (.pick (.tmp 96) (.val (.lit (.bool true))) (.tmp 99)), (some (93, true)), 0⟩, ⟨(some 101), (.pick (.tmp 93) (.tmp 100) (.val (.lit (.bool false)))), (some (90, false)), 0⟩, ⟨(some 102), (.pick (.tmp 90) (.val (.lit (.bool true))) (.tmp 101)), none, 0⟩])
 (.cond (.tmp 102) (.seq (.reg 0 [⟨(some 6), (.mv (.val (.lit (.bool false)))), none, 0⟩])
 .ret) .skip))
 (.seq (.seq (.reg 0 [⟨(some 103), (.mv (.tmp 0)), none, 0⟩, ⟨(some 104), (.len (.tmp 103)), none, 0⟩, ⟨(some 105), (.bin .eql (.tmp 104) (.val (.lit (.int .i64 0)))), none, 0⟩])
 (.cond (.tmp 105) (.seq (.reg 0 [⟨(some 6), (.mv (.val (.lit (.bool true)))), none, 0⟩])
 .ret) .skip))
 (.seq (.dreg 0 [(0, ⟨(some 107), (.mv (.tmp 0)), none, 0⟩), (1, ⟨(some 108), (.slc 3 (.tmp 107) (some (.val (.lit (.int .i64 1)))) none), none, 0⟩), (2, ⟨(some 109), (.call false (.val (.lit (.func (.func 17) #[] #[]))) [(.tmp 108)]), none, 0⟩), (3, ⟨(some 110), (.load 2 true (.tmp 4)), none, 0⟩), (4, ⟨(some 111), (.call false (.val (.lit (.func (.func 16) #[] #[]))) [(.tmp 109), (.tmp 110)]), none, 0⟩), (5, ⟨(some 106), (.mv (.tmp 111)), none, 0⟩), (6, ⟨(some 112), (.ext (.tmp 106) 0), none, 0⟩), (7, ⟨(some 113), (.ext (.tmp 106) 1), none, 0⟩), (8, ⟨(some 114), (.ext (.tmp 106) 2), none, 0⟩), (9, ⟨(some 13), (.mv (.tmp 112)), none, 0⟩), (10, ⟨(some 14), (.mv (.tmp 113)), none, 0⟩), (11, ⟨(some 15), (.mv (.tmp 114)), none, 0⟩)] [[], [0], [1, 0], [], [2, 3, 1, 0], [4, 2, 3, 1, 0], [5, 4, 2, 3, 1, 0], [5, 4, 2, 3, 1, 0], [5, 4, 2, 3, 1, 0], [6, 4, 0, 1, 2, 3, 5], [7, 9, 0, 1, 2, 3, 4, 5, 6], [8, 10, 0, 1, 2, 3, 4, 5, 6, 7, 9]])
 (.seq (.reg 0 [⟨(some 115), (.mv (.tmp 15)), none, 0⟩, ⟨(some 116), (.bin .eql (.tmp 115) (.val (.lit (.int .i64 12)))), none, 0⟩, ⟨(some 117), (.mv (.tmp 116)), none, 0⟩, ⟨(some 118), (.mv (.tmp 15)), (some (117, false)), 0⟩, ⟨(some 119), (.bin .eql (.tmp 118) (.val (.lit (.int .i64 0)))), (some (117, false)), 0⟩, ⟨(some 120), (.mv (.tmp 119)), (some (117, false)), 0⟩, ⟨(some 121), (.mv (.tmp 9)), (some (120, true)), 0⟩, ⟨(some 122), (.bin .eql (.tmp 121) (.val (.lit (.int .i64 0)))), (some (120, true)), 0⟩, ⟨(some 123), (.pick (.tmp 120) (.tmp 122) (.val (.lit (.bool false)))), (some (117, false)), 0⟩, ⟨(some 124), (.mv (.tmp 123)), (some (117, false)), 0⟩, ⟨(some 125), (.mv (.tmp 8)), (some (124, true)), 0⟩, ⟨(some 126), (.mv (.tmp 14)), (some (124, true)), 0⟩, ⟨(some 127), (.bin .leq (.tmp 125) (.tmp 126)), (some (124, true)), 0⟩, ⟨(some 128), (.pick (.tmp 124) (.tmp 127) (.val (.lit (.bool false)))), (some (117, false)), 0⟩, ⟨(some 129), (.pick (.tmp 117) (.val (.lit (.bool true))) (.tmp 128)), none, 0⟩, ⟨(some 6), (.mv (.tmp 129)), none, 0⟩])
 .ret))))))))))
theorem e3 : envOf Try.prog muts 3 = some (130, c3, [(Go.Abs.ARes.tmp 6)]) := by kernel_rfl
def c4 : ACode :=
 (.seq (.reg 2 [⟨(some 4), (.box 2 (.tmp 1)), none, 0⟩, ⟨(some 5), (.box 5 (.tmp 2)), none, 1⟩, ⟨(some 6), (.mv (.val (.lit (.bool false)))), none, 2⟩])
 (.seq (.seq (.reg 0 [⟨(some 11), (.call false (.val (.lit (.func (.func 13) #[] #[]))) []), none, 0⟩, ⟨(some 12), (.not (.tmp 11)), none, 0⟩])
 (.cond (.tmp 12) (.seq (.reg 0 [⟨(some 6), (.mv (.val (.lit (.bool false)))), none, 0⟩])
 .ret) .skip))
 (.seq (.seq (.reg 0 [⟨(some 13), (.mv (.tmp 0)), none, 0⟩, ⟨(some 14), (.call false (.val (.lit (.func (.func 18) #[] #[]))) [(.tmp 13)]), none, 0⟩, ⟨(some 15), (.not (.tmp 14)), none, 0⟩, ⟨(some 16), (.mv (.tmp 15)), none, 0⟩, ⟨(some 17), (.load 2 true (.tmp 4)), (some (16, false)), 0⟩, ⟨(some 18), (.call false (.val (.lit (.func (.func 19) #[] #[]))) [(.tmp 17)]), (some (16, false)), 0⟩, ⟨(some 19), (.not (.tmp 18)), (some (16, false)), 0⟩, ⟨(some 20), (.pick (.tmp 16) (.val (.lit (.bool true))) (.tmp 19)), none, 0⟩, ⟨(some 21), (.mv (.tmp 20)), none, 0⟩, ⟨(some 22), (.load 5 true (.tmp 5)), (some (21, false)), 0⟩, ⟨(some 23), (.call false (.val (.lit (.func (.func 20) #[] #[]))) [(.tmp 22)]), (some (21, false)), 0⟩, ⟨(some 24), (.not (.tmp 23)), (some (21, false)), 0⟩, ⟨(some 25), (.pick (.tmp 21) (.val (.lit (.bool true))) (.tmp 24)), none, 0⟩])
 (.cond (.tmp 25) (.seq (.reg 0 [⟨(some 6), (.mv (.val (.lit (.bool true)))), none, 0⟩])
 .ret) .skip))
 (.seq (.dreg 0 [(0, ⟨(some 27), (.mv (.tmp 0)), none, 0⟩), (1, ⟨(some 28), (.call false (.val (.lit (.func (.func 22) #[] #[]))) [(.tmp 27)]), none, 0⟩), (2, ⟨(some 29), (.load 2 true (.tmp 4)), none, 0⟩), (3, ⟨(some 30), (.call false (.val (.lit (.func (.func 23) #[] #[]))) [(.tmp 29)]), none, 0⟩), (4, ⟨(some 31), (.faddr 0 (.tmp 5)), none, 0⟩), (5, ⟨(some 32), (.load 2 true (.tmp 31)), none, 0⟩), (6, ⟨(some 33), (.call false (.val (.lit (.func (.func 24) #[] #[]))) [(.tmp 32)]), none, 0⟩), (7, ⟨(some 34), (.faddr 2 (.tmp 5)), none, 0⟩), (8, ⟨(some 35), (.load 3 true (.tmp 34)), none, 0⟩), (9, ⟨(some 36), (.call false (.val (.lit (.func (.func 25) #[] #[]))) [(.tmp 35)]), none, 0⟩), (10, ⟨(some 37), (.build [(.sl true 0 []), (.lit (.int .i64 0)), (.sl true 0 []), (.sl true 0 []), (.lit (.int .i64 0))] [(0, (2, (.tmp 33))), (2, (3, (.tmp 36)))]), none, 0⟩), (11, ⟨(some 38), (.call false (.val (.lit (.func (.func 21) #[] #[]))) [(.tmp 28), (.tmp 30), (.tmp 37)]), none, 0⟩), (12, ⟨(some 26), (.mv (.tmp 38)), none, 0⟩), (13, ⟨(some 39), (.ext (.tmp 26) 0), none, 0⟩), (14, ⟨(some 40), (.ext (.tmp 26) 1), none, 0⟩), (15, ⟨(some 7), (.mv (.tmp 39)), none, 0⟩), (16, ⟨(some 8), (.mv (.tmp 40)), none, 0⟩)] [[], [0], [], [2, 1, 0], [], [4], [5, 3, 4, 2, 1, 0], [], [7], [8, 6, 7, 5, 3, 4, 2, 1, 0], [6, 9, 5, 3, 4, 2, 1, 0, 8, 7], [1, 3, 10, 9, 0, 2, 6, 5, 4, 8, 7], [11, 1, 3, 10, 9, 0, 2, 6, 5, 4, 8, 7], [12, 11, 1, 3, 10, 9, 0, 2, 6, 5, 4, 8, 7], [12, 11, 1, 3, 10, 9, 0, 2, 6, 5, 4, 8, 7], [13, 11, 0, 1, 2, 3, 4, 5, 6, 7, 8, 9, 10, 12], [14, 15, 0, 1, 2, 3, 4, 5, 6, 7, 8, 9, 10, 11, 12, 13]])
 (.seq (.reg 0 [⟨(some 41), (.mv (.tmp 0)), none, 0⟩, ⟨(some 42), (.load 2 true (.tmp 4)), none, 0⟩, ⟨(some 43), (.call false (.val (.lit (.func (.func 26) #[] #[]))) [(.tmp 41), (.tmp 42)]), none, 0⟩, ⟨(some 9), (.mv (.tmp 43)), none, 0⟩, ⟨(some 10), (.mv (.val (.lit (.int .i64 0)))), none, 0⟩])
 (.seq (.seq (.reg 0 [⟨(some 44), (.mv (.tmp 9)), none, 0⟩, ⟨(some 45), (.bin .eql (.tmp 44) (.val (.lit (.int .i64 0)))), none, 0⟩])
 (.cond (.tmp 45) (.reg 0 [⟨(some 47), (.mv (.tmp 0)), none, 0⟩, ⟨(some 48), (.load 2 true (.tmp 4)), none, 0⟩, ⟨(some 49), (.load 5 true (.tmp 5)), none, 0⟩, ⟨(some 50), (.call false (.val (.lit (.func (.func 27) #[] #[]))) [(.tmp 47), (.tmp 48), (.tmp 49)]), none, 0⟩, ⟨(some 46), (.mv (.tmp 50)), none, 0⟩, ⟨(some 51), (.ext (.tmp 46) 0), none, 0⟩, ⟨(some 52), (.ext (.tmp 46) 1), none, 0⟩, ⟨(some 10), (.mv (.tmp 51)), none, 0⟩, ⟨(some 9), (.mv (.tmp 52)), none, 0⟩]) .skip))
 (.seq (.reg 0 [⟨(some 53), (.mv (.tmp 8)), none, 0⟩, ⟨(some 54), (.mv (.tmp 9)), none, 0⟩, ⟨(some 55), (.bin .eql (.tmp 53) (.tmp 54)), none, 0⟩, ⟨(some 56), (.mv (.tmp 55)), none, 0⟩, ⟨(some 57), (.mv (.tmp 7)), (some (56, true)), 0⟩, ⟨(some 58), (.mv (.tmp 10)), (some (56, true)), 0⟩, ⟨(some 59), (.bin .eql (.tmp 57) (.tmp 58)), (some (56, true)), 0⟩, ⟨(some 60), (.pick (.tmp 56) (.tmp 59) (.val (.lit (.bool false)))), none, 0⟩, ⟨(some 61), (.mv (.tmp 60)), none, 0⟩, ⟨(some 62), (.mv (.tmp 7)), (some (61, true)), 0⟩, ⟨(some 63), (.bin .geq (.tmp 62) (.val (.lit (.int .i64 0)))), (some (61, true)), 0⟩, ⟨(some 64), (.pick (.tmp 61) (.tmp 63) (.val (.lit (.bool false)))), none, 0⟩, ⟨(some 6), (.mv (.tmp 64)), none, 0⟩])
 .ret)))))))
theorem e4 : envOf Try.prog muts 4 = some (65, c4, [(Go.Abs.ARes.tmp 6)]) := by kernel_rfl
def c9 : ACode :=
 (.seq (.reg 1 [⟨(some 5), (.box 2 (.tmp 2)), none, 0⟩, ⟨(some 6), (.mv (.val (.lit (.bool false)))), none, 1⟩])
 (.seq (.seq (.reg 0 [⟨(some 11), (.call false (.val (.lit (.func (.func 13) #[] #[]))) []), none, 0⟩, ⟨(some 12), (.not (.tmp 11)), none, 0⟩])
 (.cond (.tmp 12) (.seq (.reg 0 [⟨(some 6), (.mv (.val (.lit (.bool false)))), none, 0⟩])
 .ret) .skip))
 (.seq (.seq (.reg 0 [⟨(some 13), (.mv (.tmp 0)), none, 0⟩, ⟨(some 14), (.call false (.val (.lit (.func (.func 14) #[] #[]))) [(.tmp 13)]), none, 0⟩, ⟨(some 15), (.not (.tmp 14)), none, 0⟩, ⟨(some 16), (.mv (.tmp 15)), none, 0⟩, ⟨(some 17), (.mv (.tmp 1)), (some (16, false)), 0⟩, ⟨(some 18), (.len (.tmp 17)), (some (16, false)), 0⟩, ⟨(some 19), (.bin .gtr (.tmp 18) (.val (.lit (.int .i64 15)))), (some (16, false)), 0⟩, ⟨(some 20), (.pick (.tmp 16) (.val (.lit (.bool true))) (.tmp 19)), none, 0⟩])
 (.cond (.tmp 20) (.seq (.reg 0 [⟨(some 6), (.mv (.val (.lit (.bool true)))), none, 0⟩])
 .ret) .skip))
 (.seq (.dreg 0 [(0, ⟨(some 22), (.mv (.tmp 0)), none, 0⟩), (1, ⟨(some 23), (.call false (.val (.lit (.func (.func 17) #[] #[]))) [(.tmp 22)]), none, 0⟩), (2, ⟨(some 24), (.mv (.tmp 1)), none, 0⟩), (3, ⟨(some 25), (.call false (.val (.lit (.func (.func 53) #[] #[]))) [(.tmp 24)]), none, 0⟩), (4, ⟨(some 26), (.load 2 true (.tmp 5)), none, 0⟩), (5, ⟨(some 27), (.call false (.val (.lit (.func (.func 52) #[] #[]))) [(.tmp 23), (.tmp 25), (.tmp 26)]), none, 0⟩), (6, ⟨(some 21), (.mv (.tmp 27)), none, 0⟩), (7, ⟨(some 28), (.ext (.tmp 21) 0), none, 0⟩), (8, ⟨(some 29), (.ext (.tmp 21) 1), none, 0⟩), (9, ⟨(some 7), (.mv (.tmp 28)), none, 0⟩), (10, ⟨(some 8), (.mv (.tmp 29)), none, 0⟩)] [[], [0], [], [2, 1, 0], [], [1, 3, 4, 0, 2], [5, 1, 3, 4, 0, 2], [6, 5, 1, 3, 4, 0, 2], [6, 5, 1, 3, 4, 0, 2], [7, 5, 0, 1, 2, 3, 4, 6], [8, 9, 0, 1, 2, 3, 4, 5, 6, 7]])
 (.seq (.reg 0 [⟨(some 30), (.mv (.tmp 0)), none, 0⟩, ⟨(some 31), (.call false (.val (.lit (.func (.func 44) #[] #[]))) [(.tmp 30)]), none, 0⟩, ⟨(some 9), (.mv (.tmp 31)), none, 0⟩, ⟨(some 10), (.mv (.val (.lit (.int .i64 0)))), none, 0⟩])
 (.seq (.seq (.reg 0 [⟨(some 32), (.mv (.tmp 9)), none, 0⟩, ⟨(some 33), (.bin .eql (.tmp 32) (.val (.lit (.int .i64 0)))), none, 0⟩])
 (.cond (.tmp 33) (.reg 0 [⟨(some 35), (.mv (.tmp 0)), none, 0⟩, ⟨(some 36), (.mv (.tmp 1)), none, 0⟩, ⟨(some 37), (.load 2 true (.tmp 5)), none, 0⟩, ⟨(some 38), (.call false (.val (.lit (.func (.func 54) #[] #[]))) [(.tmp 35), (.tmp 36), (.tmp 37)]), none, 0⟩, ⟨(some 34), (.mv (.tmp 38)), none, 0⟩, ⟨(some 39), (.ext (.tmp 34) 0), none, 0⟩, ⟨(some 40), (.ext (.tmp 34) 1), none, 0⟩, ⟨(some 10), (.mv (.tmp 39)), none, 0⟩, ⟨(some 9), (.mv (.tmp 40)), none, 0⟩]) .skip))
 (.seq (.reg 0 [⟨(some 41), (.mv (.tmp 8)), none, 0⟩, ⟨(some 42), (.mv (.tmp 9)), none, 0⟩, ⟨(some 43), (.bin .eql (.tmp 41) (.tmp 42)), none, 0⟩, ⟨(some 44), (.mv (.tmp 43)), none, 0⟩, ⟨(some 45), (.mv (.tmp 7)), (some (44, true)), 0⟩, ⟨(some 46), (.mv (.tmp 10)), (some (44, true)), 0⟩, ⟨(some 47), (.bin .eql (.tmp 45) (.tmp 46)), (some (44, true)), 0⟩, ⟨(some 48), (.pick (.tmp 44) (.tmp 47) (.val (.lit (.bool false)))), none, 0⟩, ⟨(some 6), (.mv (.tmp 48)), none, 0⟩])
 .ret)))))))
theorem e9 : envOf Try.prog muts 9 = some (49, c9, [(Go.Abs.ARes.tmp 6)]) := by kernel_rfl
def c15 : ACode :=
 (.seq (.reg 0 [⟨(some 6), (.mv (.val (.lit (.bool false)))), none, 0⟩])
 (.seq (.reg 0 [⟨(some 7), (.mv (.tmp 0)), none, 0⟩, ⟨(some 8), (.mv (.tmp 1)), none, 0⟩, ⟨(some 9), (.bin .geq (.tmp 7) (.tmp 8)), none, 0⟩, ⟨(some 10), (.mv (.tmp 9)), none, 0⟩, ⟨(some 11), (.mv (.tmp 0)), (some (10, true)), 0⟩, ⟨(some 12), (.mv (.tmp 2)), (some (10, true)), 0⟩, ⟨(some 13), (.bin .leq (.tmp 11) (.tmp 12)), (some (10, true)), 0⟩, ⟨(some 14), (.pick (.tmp 10) (.tmp 13) (.val (.lit (.bool false)))), none, 0⟩, ⟨(some 6), (.mv (.tmp 14)), none, 0⟩])
 .ret))
theorem e15 : envOf Try.prog muts 15 = some (15, c15, [(Go.Abs.ARes.tmp 6)]) := by kernel_rfl
def c18l0 : ACode :=
 (.seq (.seq (.reg 0 [⟨(some 17), (.mv (.tmp 3)), none, 0⟩, ⟨(some 18), (.mv (.tmp 0)), none, 0⟩, ⟨(some 19), (.len (.tmp 18)), none, 0⟩, ⟨(some 20), (.bin .lss (.tmp 17) (.tmp 19)), none, 0⟩])
 (.cond (.tmp 20) .skip (.exit 0)))
 (.seq (.block 1 (.seq (.reg 0 [⟨(some 23), (.mv (.tmp 0)), none, 0⟩, ⟨(some 24), (.mv (.tmp 3)), none, 0⟩, ⟨(some 25), (.iaddrS 2 (.tmp 23) (.tmp 24)), none, 0⟩, ⟨(some 26), (.faddr 0 (.tmp 25)), none, 0⟩, ⟨(some 27), (.load 1 false (.tmp 26)), none, 0⟩, ⟨(some 28), (.lenS (.tmp 27)), none, 0⟩, ⟨(some 29), (.bin .gtr (.tmp 28) (.val (.lit (.int .i64 30)))), none, 0⟩, ⟨(some 30), (.mv (.tmp 29)), none, 0⟩, ⟨(some 31), (.mv (.tmp 0)), (some (30, false)), 0⟩, ⟨(some 32), (.mv (.tmp 3)), (some (30, false)), 0⟩, ⟨(some 33), (.iaddrS 2 (.tmp 31) (.tmp 32)), (some (30, false)), 0⟩, ⟨(some 34), (.faddr 1 (.tmp 33)), (some (30, false)), 0⟩, ⟨(some 35), (.load 1 false (.tmp 34)), (some (30, false)), 0⟩, ⟨(some 36), (.len (.tmp 35)), (some (30, false)), 0⟩, ⟨(some 37), (.bin .gtr (.tmp 36) (.val (.lit (.int .i64 10)))), (some (30, false)), 0⟩, ⟨(some 38), (.mv (.tmp 37)), (some (30, false)), 0⟩, ⟨(some 39), (.mv (.tmp 0)), (some (38, true)), 0⟩, ⟨(some 40), (.mv (.tmp 3)), (some (38, true)), 0⟩, ⟨(some 41), (.iaddrS 2 (.tmp 39) (.tmp 40)), (some (38, true)), 0⟩, ⟨(some 42), (.faddr 1 (.tmp 41)), (some (38, true)), 0⟩, ⟨(some 43), (.load 1 false (.tmp 42)), (some (38, true)), 0⟩, ⟨(some 44), (.len (.tmp 43)), (some (38, true)), 0⟩, ⟨(some 45), (.bin .leq (.tmp 44) (.val (.lit (.int .i64 40)))), (some (38, true)), 0⟩, ⟨(some 46), (.pick (.tmp 38) (.tmp 45) (.val (.lit (.bool false)))), (some (30, false)), 0⟩, ⟨(some 47), (.pick (.tmp 30) (.val (.lit (.bool true))) (.tmp 46)), none, 0⟩, ⟨(some 48), (.mv (.tmp 47)), none, 0⟩, ⟨(some 49), (.mv (.tmp 0)), (some (48, false)), 0⟩, ⟨(some 50), (.mv (.tmp 3)), (some (48, false)), 0⟩, ⟨(some 51), (.iaddrS 2 (.tmp 49) (.tmp 50)), (some (48, false)), 0⟩, ⟨(some 52), (.faddr 1 (.tmp 51)), (some (48, false)), 0⟩, ⟨(some 53), (.load 1 false (.tmp 52)), (some (48, false)), 0⟩, ⟨(some 54), (.len (.tmp 53)), (some (48, false)), 0⟩, ⟨(some 55), (.bin .gtr (.tmp 54) (.val (.lit (.int .i64 43)))), (some (48, false)), 0⟩, ⟨(some 56), (.pick (.tmp 48) (.val (.lit (.bool true))) (.tmp 55)), none, 0⟩])
 (.cond (.tmp 56) (.seq (.reg 0 [⟨(some 2), (.mv (.val (.lit (.bool false)))), none, 0⟩])
 .ret) .skip)))
 (.reg 0 [⟨(some 21), (.mv (.tmp 3)), none, 0⟩, ⟨(some 22), (.bin .add (.tmp 21) (.val (.lit (.int .i64 1)))), none, 0⟩, ⟨(some 3), (.mv (.tmp 22)), none, 0⟩])))
def c18 : ACode :=
 (.seq (.reg 0 [⟨(some 2), (.mv (.val (.lit (.bool false)))), none, 0⟩])
 (.seq (.seq (.reg 0 [⟨(some 4), (.mv (.tmp 0)), none, 0⟩, ⟨(some 5), (.len (.tmp 4)), none, 0⟩, ⟨(some 6), (.bin .gtr (.tmp 5) (.val (.lit (.int .i64 4)))), none, 0⟩, ⟨(some 7), (.mv (.tmp 6)), none, 0⟩, ⟨(some 8), (.mv (.tmp 0)), (some (7, true)), 0⟩, ⟨(some 9), (.len (.tmp 8)), (some (7, true)), 0⟩, ⟨(some 10), (.bin .leq (.tmp 9) (.val (.lit (.int .i64 12)))), (some (7, true)), 0⟩, ⟨(some 11), (.pick (.tmp 7) (.tmp 10) (.val (.lit (.bool false)))), none, 0⟩, ⟨(some 12), (.mv (.tmp 11)), none, 0⟩, ⟨(some 13), (.mv (.tmp 0)), (some (12, false)), 0⟩, ⟨(some 14), (.len (.tmp 13)), (some (12, false)), 0⟩, ⟨(some 15), (.bin .gtr (.tmp 14) (.val (.lit (.int .i64 15)))), (some (12, false)), 0⟩, ⟨(some 16), (.pick (.tmp 12) (.val (.lit (.bool true))) (.tmp 15)), none, 0⟩])
 (.cond (.tmp 16) (.seq (.reg 0 [⟨(some 2), (.mv (.val (.lit (.bool false)))), none, 0⟩])
 .ret) .skip))
 (.seq (.seq (.reg 0 [⟨(some 3), (.mv (.val (.lit (.int .i64 0)))), none, 0⟩])
 (.block 0 (.loop c18l0)))
 (.seq (.reg 0 [⟨(some 2), (.mv (.val (.lit (.bool true)))), none, 0⟩])
 .ret))))
theorem e18 : envOf Try.prog muts 18 = some (57, c18, [(Go.Abs.ARes.tmp 2)]) := by kernel_rfl
def c19 : ACode :=
 (.seq (.reg 1 [⟨(some 1), (.box 2 (.tmp 0)), none, 0⟩, ⟨(some 2), (.mv (.val (.lit (.bool false)))), none, 1⟩])
 (.seq (.reg 0 [⟨(some 3), (.faddr 0 (.tmp 1)), none, 0⟩, ⟨(some 4), (.load 1 false (.tmp 3)), none, 0⟩, ⟨(some 5), (.len (.tmp 4)), none, 0⟩, ⟨(some 6), (.bin .leq (.tmp 5) (.val (.lit (.int .i64 43)))), none, 0⟩, ⟨(some 7), (.mv (.tmp 6)), none, 0⟩, ⟨(some 8), (.faddr 1 (.tmp 1)), (some (7, true)), 0⟩, ⟨(some 9), (.load 1 false (.tmp 8)), (some (7, true)), 0⟩, ⟨(some 10), (.len (.tmp 9)), (some (7, true)), 0⟩, ⟨(some 11), (.bin .leq (.tmp 10) (.val (.lit (.int .i64 43)))), (some (7, true)), 0⟩, ⟨(some 12), (.pick (.tmp 7) (.tmp 11) (.val (.lit (.bool false)))), none, 0⟩, ⟨(some 2), (.mv (.tmp 12)), none, 0⟩])
 .ret))
theorem e19 : envOf Try.prog muts 19 = some (13, c19, [(Go.Abs.ARes.tmp 2)]) := by kernel_rfl
def c20 : ACode :=
 (.seq (.reg 1 [⟨(some 1), (.box 5 (.tmp 0)), none, 0⟩, ⟨(some 2), (.mv (.val (.lit (.bool false)))), none, 1⟩])
 (.seq (.reg 0 [⟨(some 3), (.faddr 0 (.tmp 1)), none, 0⟩, ⟨(some 4), (.faddr 0 (.tmp 3)), none, 0⟩, ⟨(some 5), (.load 1 false (.tmp 4)), none, 0⟩, ⟨(some 6), (.len (.tmp 5)), none, 0⟩, ⟨(some 7), (.bin .leq (.tmp 6) (.val (.lit (.int .i64 15)))), none, 0⟩, ⟨(some 8), (.mv (.tmp 7)), none, 0⟩, ⟨(some 9), (.faddr 2 (.tmp 1)), (some (8, true)), 0⟩, ⟨(some 10), (.faddr 0 (.tmp 9)), (some (8, true)), 0⟩, ⟨(some 11), (.load 1 false (.tmp 10)), (some (8, true)), 0⟩, ⟨(some 12), (.len (.tmp 11)), (some (8, true)), 0⟩, ⟨(some 13), (.bin .leq (.tmp 12) (.val (.lit (.int .i64 43)))), (some (8, true)), 0⟩, ⟨(some 14), (.pick (.tmp 8) (.tmp 13) (.val (.lit (.bool false)))), none, 0⟩, ⟨(some 15), (.mv (.tmp 14)), none, 0⟩, ⟨(some 16), (.faddr 2 (.tmp 1)), (some (15, true)), 0⟩, ⟨(some 17), (.faddr 1 (.tmp 16)), (some (15, true)), 0⟩, ⟨(some 18), (.load 1 false (.tmp 17)), (some (15, true)), 0⟩, ⟨(some 19), (.len (.tmp 18)), (some (15, true)), 0⟩, ⟨(some 20), (.bin .leq (.tmp 19) (.val (.lit (.int .i64 43)))), (some (15, true)), 0⟩, ⟨(some 21), (.pick (.tmp 15) (.tmp 20) (.val (.lit (.bool false)))), none, 0⟩, ⟨(some 2), (.mv (.tmp 21)), none, 0⟩])
 .ret))
theorem e20 : envOf Try.prog muts 20 = some (22, c20, [(Go.Abs.ARes.tmp 2)]) := by kernel_rfl
def c21 : ACode :=
 (.seq (.reg 2 [⟨(some 4), (.box 2 (.tmp 1)), none, 0⟩, ⟨(some 5), (.box 5 (.tmp 2)), none, 1⟩, ⟨(some 6), (.mv (.val (.lit (.int .i64 0)))), none, 2⟩, ⟨(some 7), (.mv (.val (.lit (.int .i64 0)))), none, 2⟩])
 (.seq (.reg 0 [⟨(some 12), (.mv (.tmp 0)), none, 0⟩, ⟨(some 13), (.load 2 true (.tmp 4)), none, 0⟩, ⟨(some 14), (.faddr 0 (.tmp 5)), none, 0⟩, ⟨(some 15), (.load 2 true (.tmp 14)), none, 0⟩, ⟨(some 16), (.call false (.val (.lit (.func (.func 36) #[] #[]))) [(.tmp 12), (.tmp 13), (.tmp 15)]), none, 0⟩, ⟨(some 11), (.mv (.tmp 16)), none, 0⟩, ⟨(some 17), (.ext (.tmp 11) 0), none, 0⟩, ⟨(some 18), (.ext (.tmp 11) 1), none, 0⟩, ⟨(some 8), (.mv (.tmp 17)), none, 0⟩, ⟨(some 9), (.mv (.tmp 18)), none, 0⟩])
 (.seq (.seq (.reg 0 [⟨(some 19), (.mv (.tmp 9)), none, 0⟩, ⟨(some 20), (.bin .neq (.tmp 19) (.val (.lit (.int .i64 0)))), none, 0⟩])
 (.cond (.tmp 20) (.seq (.reg 0 [⟨(some 21), (.mv (.tmp 9)), none, 0⟩, ⟨(some 6), (.mv (.val (.lit (.int .i64 0)))), none, 0⟩, ⟨(some 7), (.mv (.tmp 21)), none, 0⟩])
 .ret) .skip))
 (.seq (.reg 0 [⟨(some 23), (.mv (.tmp 0)), none, 0⟩, ⟨(some 24), (.load 2 true (.tmp 4)), none, 0⟩, ⟨(some 25), (.faddr 2 (.tmp 5)), none, 0⟩, ⟨(some 26), (.load 3 true (.tmp 25)), none, 0⟩, ⟨(some 27), (.call false (.val (.lit (.func (.func 48) #[] #[]))) [(.tmp 23), (.tmp 24), (.tmp 26)]), none, 0⟩, ⟨(some 22), (.mv (.tmp 27)), none, 0⟩, ⟨(some 28), (.ext (.tmp 22) 0), none, 0⟩, ⟨(some 29), (.ext (.tmp 22) 1), none, 0⟩, ⟨(some 10), (.mv (.tmp 28)), none, 0⟩, ⟨(some 9), (.mv (.tmp 29)), none, 0⟩])
 (.seq (.block 0 (.seq (.reg 0 [⟨(some 31), (.mv (.tmp 9)), none, 0⟩, ⟨(some 32), (.bin .neq (.tmp 31) (.val (.lit (.int .i64 0)))), none, 0⟩, ⟨(some 30), (.mv (.tmp 32)), none, 0⟩])
 (.cond (.tmp 30) (.seq (.reg 0 [⟨(some 33), (.mv (.tmp 9)), none, 0⟩, ⟨(some 6), (.mv (.val (.lit (.int .i64 0)))), none, 0⟩, ⟨(some 7), (.mv (.tmp 33)), none, 0⟩])
 .ret) (.seq (.reg 0 [⟨(some 35), (.mv (.tmp 10)), none, 0⟩, ⟨(some 36), (.bin .lss (.tmp 35) (.val (.lit (.int .i64 0)))), none, 0⟩, ⟨(some 34), (.mv (.tmp 36)), none, 0⟩])
 (.cond (.tmp 34) (.seq (.reg 0 [⟨(some 6), (.mv (.val (.lit (.int .i64 1)))), none, 0⟩, ⟨(some 7), (.mv (.val (.lit (.int .i64 0)))), none, 0⟩])
 .ret) .skip)))))
 (.seq (.reg 0 [⟨(some 37), (.mv (.tmp 8)), none, 0⟩, ⟨(some 38), (.faddr 2 (.tmp 5)), none, 0⟩, ⟨(some 39), (.faddr 2 (.tmp 38)), none, 0⟩, ⟨(some 40), (.load 1 false (.tmp 39)), none, 0⟩, ⟨(some 41), (.bin .mul (.tmp 37) (.tmp 40)), none, 0⟩, ⟨(some 42), (.mv (.tmp 10)), none, 0⟩, ⟨(some 43), (.faddr 0 (.tmp 5)), none, 0⟩, ⟨(some 44), (.faddr 1 (.tmp 43)), none, 0⟩, ⟨(some 45), (.load 1 false (.tmp 44)), none, 0⟩, ⟨(some 46), (.bin .mul (.tmp 42) (.tmp 45)), none, 0⟩, ⟨(some 47), (.call false (.val (.lit (.func (.func 67) #[] #[]))) [(.tmp 41), (.tmp 46)]), none, 0⟩, ⟨(some 6), (.mv (.tmp 47)), none, 0⟩, ⟨(some 7), (.mv (.val (.lit (.int .i64 0)))), none, 0⟩])
 .ret))))))
theorem e21 : envOf Try.prog muts 21 = some (48, c21, [(Go.Abs.ARes.tmp 6), (Go.Abs.ARes.tmp 7)]) := by kernel_rfl
def c22l0 : ACode :=
 (.seq (.seq (.reg 0 [⟨(some 5), (.mv (.tmp 4)), none, 0⟩, ⟨(some 6), (.mv (.tmp 0)), none, 0⟩, ⟨(some 7), (.len (.tmp 6)), none, 0⟩, ⟨(some 8), (.bin .lss (.tmp 5) (.tmp 7)), none, 0⟩])
 (.cond (.tmp 8) .skip (.exit 0)))
 (.seq (.block 1 (.dreg 2 [(0, ⟨(some 11), (.mv (.tmp 3)), none, 0⟩), (1, ⟨(some 12), (.mv (.tmp 0)), none, 0⟩), (2, ⟨(some 13), (.mv (.tmp 4)), none, 0⟩), (3, ⟨(some 14), (.iaddrS 2 (.tmp 12) (.tmp 13)), none, 0⟩), (4, ⟨(some 15), (.faddr 0 (.tmp 14)), none, 0⟩), (5, ⟨(some 16), (.load 1 false (.tmp 15)), none, 0⟩), (6, ⟨(some 17), (.mv (.tmp 0)), none, 0⟩), (7, ⟨(some 18), (.mv (.tmp 4)), none, 0⟩), (8, ⟨(some 19), (.iaddrS 2 (.tmp 17) (.tmp 18)), none, 0⟩), (9, ⟨(some 20), (.faddr 1 (.tmp 19)), none, 0⟩), (10, ⟨(some 21), (.load 1 false (.tmp 20)), none, 0⟩), (11, ⟨(some 22), (.call false (.val (.lit (.func (.func 53) #[] #[]))) [(.tmp 21)]), none, 0⟩), (12, ⟨(some 23), (.build [(.lit (.string ⟨#[]⟩)), (.sl true 0 [])] [(0, (1, (.tmp 16))), (1, (1, (.tmp 22)))]), none, 0⟩), (13, ⟨(some 24), (.bslice 2 1 [(.lit (.string ⟨#[]⟩)), (.sl true 0 [])] [(0, (.tmp 23))]), none, 0⟩), (14, ⟨(some 25), (.app 2 40 (.tmp 11) (.tmp 24)), none, 1⟩), (15, ⟨(some 3), (.mv (.tmp 25)), none, 2⟩)] [[], [], [], [1, 2], [3, 1, 2], [4, 3, 1, 2], [], [], [6, 7], [8, 6, 7], [9, 8, 6, 7], [10, 9, 8, 6, 7], [5, 11, 4, 3, 1, 2, 10, 9, 8, 6, 7], [12, 5, 11, 4, 3, 1, 2, 10, 9, 8, 6, 7], [0, 13, 11, 12, 5, 4, 3, 1, 2, 10, 9, 8, 6, 7], [14, 0, 1, 2, 3, 4, 5, 6, 7, 8, 9, 10, 11, 12, 13]]))
 (.reg 0 [⟨(some 9), (.mv (.tmp 4)), none, 0⟩, ⟨(some 10), (.bin .add (.tmp 9) (.val (.lit (.int .i64 1)))), none, 0⟩, ⟨(some 4), (.mv (.tmp 10)), none, 0⟩])))
def c22 : ACode :=
 (.seq (.reg 0 [⟨(some 2), (.mv (.val (.sl true 0 []))), none, 0⟩])
 (.seq (.reg 0 [⟨(some 3), (.mv (.val (.sl true 0 []))), none, 0⟩])
 (.seq (.seq (.reg 0 [⟨(some 4), (.mv (.val (.lit (.int .i64 0)))), none, 0⟩])
 (.block 0 (.loop c22l0)))
 (.seq (.reg 0 [⟨(some 26), (.mv (.tmp 3)), none, 0⟩, ⟨(some 2), (.mv (.tmp 26)), none, 0⟩])
 .ret))))
theorem e22 : envOf Try.prog muts 22 = some (27, c22, [(Go.Abs.ARes.tmp 2)]) := by kernel_rfl
def c23 : ACode :=
 (.seq (.reg 2 [⟨(some 1), (.box 2 (.tmp 0)), none, 0⟩, ⟨(some 2), (.alloc [(.sl true 0 []), (.sl true 0 [])]), none, 1⟩])
 (.seq (.dreg 0 [(0, ⟨(some 3), (.faddr 0 (.tmp 1)), none, 0⟩), (1, ⟨(some 4), (.load 1 false (.tmp 3)), none, 0⟩), (2, ⟨(some 5), (.call false (.val (.lit (.func (.func 53) #[] #[]))) [(.tmp 4)]), none, 0⟩), (3, ⟨(some 6), (.faddr 1 (.tmp 1)), none, 0⟩), (4, ⟨(some 7), (.load 1 false (.tmp 6)), none, 0⟩), (5, ⟨(some 8), (.call false (.val (.lit (.func (.func 53) #[] #[]))) [(.tmp 7)]), none, 0⟩), (6, ⟨(some 9), (.build [(.sl true 0 []), (.sl true 0 [])] [(0, (1, (.tmp 5))), (1, (1, (.tmp 8)))]), none, 0⟩), (7, ⟨none, (.store 2 (.tmp 2) (.tmp 9)), none, 0⟩)] [[], [0], [1, 0], [], [3], [4, 2, 3, 1, 0], [2, 5, 1, 0, 4, 3], [6, 5, 0, 1, 2, 3, 4]])
 .ret))
theorem e23 : envOf Try.prog muts 23 = some (10, c23, [(Go.Abs.ARes.cell 2 true 2)]) := by kernel_rfl
def c24 : ACode :=
 (.seq (.reg 2 [⟨(some 1), (.box 2 (.tmp 0)), none, 0⟩, ⟨(some 2), (.alloc [(.sl true 0 []), (.lit (.int .i64 0))]), none, 1⟩])
 (.seq (.dreg 0 [(0, ⟨(some 3), (.faddr 0 (.tmp 1)), none, 0⟩), (1, ⟨(some 4), (.load 1 false (.tmp 3)), none, 0⟩), (2, ⟨(some 5), (.call false (.val (.lit (.func (.func 53) #[] #[]))) [(.tmp 4)]), none, 0⟩), (3, ⟨(some 6), (.faddr 1 (.tmp 1)), none, 0⟩), (4, ⟨(some 7), (.load 1 false (.tmp 6)), none, 0⟩), (5, ⟨(some 8), (.build [(.sl true 0 []), (.lit (.int .i64 0))] [(0, (1, (.tmp 5))), (1, (1, (.tmp 7)))]), none, 0⟩), (6, ⟨none, (.store 2 (.tmp 2) (.tmp 8)), none, 0⟩)] [[], [0], [1, 0], [], [3], [2, 4, 1, 0, 3], [5, 2, 0, 1, 3, 4]])
 .ret))
theorem e24 : envOf Try.prog muts 24 = some (9, c24, [(Go.Abs.ARes.cell 2 true 2)]) := by kernel_rfl
def c25 : ACode :=
 (.seq (.reg 2 [⟨(some 1), (.box 3 (.tmp 0)), none, 0⟩, ⟨(some 2), (.alloc [(.sl true 0 []), (.sl true 0 []), (.lit (.int .i64 0))]), none, 1⟩])
 (.seq (.dreg 0 [(0, ⟨(some 3), (.faddr 0 (.tmp 1)), none, 0⟩), (1, ⟨(some 4), (.load 1 false (.tmp 3)), none, 0⟩), (2, ⟨(some 5), (.call false (.val (.lit (.func (.func 53) #[] #[]))) [(.tmp 4)]), none, 0⟩), (3, ⟨(some 6), (.faddr 1 (.tmp 1)), none, 0⟩), (4, ⟨(some 7), (.load 1 false (.tmp 6)), none, 0⟩), (5, ⟨(some 8), (.call false (.val (.lit (.func (.func 53) #[] #[]))) [(.tmp 7)]), none, 0⟩), (6, ⟨(some 9), (.faddr 2 (.tmp 1)), none, 0⟩), (7, ⟨(some 10), (.load 1 false (.tmp 9)), none, 0⟩), (8, ⟨(some 11), (.build [(.sl true 0 []), (.sl true 0 []), (.lit (.int .i64 0))] [(0, (1, (.tmp 5))), (1, (1, (.tmp 8))), (2, (1, (.tmp 10)))]), none, 0⟩), (9, ⟨none, (.store 3 (.tmp 2) (.tmp 11)), none, 0⟩)] [[], [0], [1, 0], [], [3], [4, 2, 3, 1, 0], [], [6], [2, 5, 7, 1, 0, 4, 3, 6], [8, 5, 0, 1, 2, 3, 4, 6, 7]])
 .ret))
theorem e25 : envOf Try.prog muts 25 = some (12, c25, [(Go.Abs.ARes.cell 3 true 2)]) := by kernel_rfl
def c26l0 : ACode :=
 (.seq (.seq (.reg 0 [⟨(some 28), (.mv (.tmp 7)), none, 0⟩, ⟨(some 29), (.mv (.tmp 5)), none, 0⟩, ⟨(some 30), (.bin .lss (.tmp 28) (.tmp 29)), none, 0⟩])
 (.cond (.tmp 30) .skip (.exit 0)))
 (.seq (.block 1 (.seq (.seq (.reg 0 [⟨(some 33), (.faddr 0 (.tmp 3)), none, 0⟩, ⟨(some 34), (.load 1 false (.tmp 33)), none, 0⟩, ⟨(some 35), (.mv (.tmp 7)), none, 0⟩, ⟨(some 36), (.iaddrS 1 (.tmp 34) (.tmp 35)), none, 0⟩, ⟨(some 37), (.load 1 false (.tmp 36)), none, 0⟩, ⟨(some 38), (.call false (.val (.lit (.func (.func 15) #[] #[]))) [(.tmp 37), (.val (.lit (.int .i64 0))), (.val (.lit (.int .i64 10000)))]), none, 0⟩, ⟨(some 39), (.not (.tmp 38)), none, 0⟩, ⟨(some 40), (.mv (.tmp 39)), none, 0⟩, ⟨(some 41), (.faddr 1 (.tmp 3)), (some (40, false)), 0⟩, ⟨(some 42), (.load 1 false (.tmp 41)), (some (40, false)), 0⟩, ⟨(some 43), (.mv (.tmp 7)), (some (40, false)), 0⟩, ⟨(some 44), (.iaddrS 1 (.tmp 42) (.tmp 43)), (some (40, false)), 0⟩, ⟨(some 45), (.load 1 false (.tmp 44)), (some (40, false)), 0⟩, ⟨(some 46), (.call false (.val (.lit (.func (.func 15) #[] #[]))) [(.tmp 45), (.val (.lit (.int .i64 0))), (.val (.lit (.int .i64 10000)))]), (some (40, false)), 0⟩, ⟨(some 47), (.not (.tmp 46)), (some (40, false)), 0⟩, ⟨(some 48), (.pick (.tmp 40) (.val (.lit (.bool true))) (.tmp 47)), none, 0⟩])
 (.cond (.tmp 48) (.seq (.reg 0 [⟨(some 4), (.mv (.val (.lit (.int .i64 2)))), none, 0⟩])
 .ret) .skip))
 (.seq (.dreg 0 [(0, ⟨(some 49), (.faddr 1 (.tmp 3)), none, 0⟩), (1, ⟨(some 50), (.load 1 false (.tmp 49)), none, 0⟩), (2, ⟨(some 51), (.mv (.tmp 7)), none, 0⟩), (3, ⟨(some 52), (.iaddrS 1 (.tmp 50) (.tmp 51)), none, 0⟩), (4, ⟨(some 53), (.load 1 false (.tmp 52)), none, 0⟩), (5, ⟨(some 54), (.faddr 0 (.tmp 3)), none, 0⟩), (6, ⟨(some 55), (.load 1 false (.tmp 54)), none, 0⟩), (7, ⟨(some 56), (.mv (.tmp 7)), none, 0⟩), (8, ⟨(some 57), (.iaddrS 1 (.tmp 55) (.tmp 56)), none, 0⟩), (9, ⟨(some 58), (.load 1 false (.tmp 57)), none, 0⟩), (10, ⟨(some 59), (.bin .lss (.tmp 53) (.tmp 58)), none, 0⟩)] [[], [0], [], [1, 2, 0], [3, 1, 2, 0], [], [5], [], [6, 7, 5], [8, 6, 7, 5], [4, 9, 3, 1, 2, 0, 8, 6, 7, 5]])
 (.cond (.tmp 59) (.seq (.reg 0 [⟨(some 4), (.mv (.val (.lit (.int .i64 9)))), none, 0⟩])
 .ret) .skip))))
 (.reg 0 [⟨(some 31), (.mv (.tmp 7)), none, 0⟩, ⟨(some 32), (.bin .add (.tmp 31) (.val (.lit (.int .i64 1)))), none, 0⟩, ⟨(some 7), (.mv (.tmp 32)), none, 0⟩])))
def c26 : ACode :=
 (.seq (.reg 1 [⟨(some 3), (.box 2 (.tmp 1)), none, 0⟩, ⟨(some 4), (.mv (.val (.lit (.int .i64 0)))), none, 1⟩])
 (.seq (.reg 0 [⟨(some 9), (.mv (.tmp 0)), none, 0⟩, ⟨(some 10), (.call false (.val (.lit (.func (.func 38) #[] #[]))) [(.tmp 9)]), none, 0⟩, ⟨(some 8), (.mv (.tmp 10)), none, 0⟩, ⟨(some 11), (.ext (.tmp 8) 0), none, 0⟩, ⟨(some 12), (.ext (.tmp 8) 1), none, 0⟩, ⟨(some 5), (.mv (.tmp 11)), none, 0⟩, ⟨(some 6), (.mv (.tmp 12)), none, 0⟩])
 (.seq (.seq (.reg 0 [⟨(some 13), (.mv (.tmp 6)), none, 0⟩, ⟨(some 14), (.bin .neq (.tmp 13) (.val (.lit (.int .i64 0)))), none, 0⟩])
 (.cond (.tmp 14) (.seq (.reg 0 [⟨(some 15), (.mv (.tmp 6)), none, 0⟩, ⟨(some 4), (.mv (.tmp 15)), none, 0⟩])
 .ret) .skip))
 (.seq (.seq (.reg 0 [⟨(some 16), (.faddr 0 (.tmp 3)), none, 0⟩, ⟨(some 17), (.load 1 false (.tmp 16)), none, 0⟩, ⟨(some 18), (.len (.tmp 17)), none, 0⟩, ⟨(some 19), (.mv (.tmp 5)), none, 0⟩, ⟨(some 20), (.bin .neq (.tmp 18) (.tmp 19)), none, 0⟩, ⟨(some 21), (.mv (.tmp 20)), none, 0⟩, ⟨(some 22), (.faddr 1 (.tmp 3)), (some (21, false)), 0⟩, ⟨(some 23), (.load 1 false (.tmp 22)), (some (21, false)), 0⟩, ⟨(some 24), (.len (.tmp 23)), (some (21, false)), 0⟩, ⟨(some 25), (.mv (.tmp 5)), (some (21, false)), 0⟩, ⟨(some 26), (.bin .neq (.tmp 24) (.tmp 25)), (some (21, false)), 0⟩, ⟨(some 27), (.pick (.tmp 21) (.val (.lit (.bool true))) (.tmp 26)), none, 0⟩])
 (.cond (.tmp 27) (.seq (.reg 0 [⟨(some 4), (.mv (.val (.lit (.int .i64 10)))), none, 0⟩])
 .ret) .skip))
 (.seq (.seq (.reg 0 [⟨(some 7), (.mv (.val (.lit (.int .i64 0)))), none, 0⟩])
 (.block 0 (.loop c26l0)))
 (.seq (.reg 0 [⟨(some 4), (.mv (.val (.lit (.int .i64 0)))), none, 0⟩])
 .ret))))))
theorem e26 : envOf Try.prog muts 26 = some (60, c26, [(Go.Abs.ARes.tmp 4)]) := by kernel_rfl
def c27 : ACode :=
 (.seq (.reg 2 [⟨(some 4), (.box 2 (.tmp 1)), none, 0⟩, ⟨(some 5), (.box 5 (.tmp 2)), none, 1⟩, ⟨(some 6), (.mv (.val (.lit (.int .i64 0)))), none, 2⟩, ⟨(some 7), (.mv (.val (.lit (.int .i64 0)))), none, 2⟩])
 (.seq (.reg 0 [⟨(some 12), (.mv (.tmp 0)), none, 0⟩, ⟨(some 13), (.load 2 true (.tmp 4)), none, 0⟩, ⟨(some 14), (.faddr 0 (.tmp 5)), none, 0⟩, ⟨(some 15), (.load 2 true (.tmp 14)), none, 0⟩, ⟨(some 16), (.call false (.val (.lit (.func (.func 42) #[] #[]))) [(.tmp 12), (.tmp 13), (.tmp 15)]), none, 0⟩, ⟨(some 11), (.mv (.tmp 16)), none, 0⟩, ⟨(some 17), (.ext (.tmp 11) 0), none, 0⟩, ⟨(some 18), (.ext (.tmp 11) 1), none, 0⟩, ⟨(some 8), (.mv (.tmp 17)), none, 0⟩, ⟨(some 9), (.mv (.tmp 18)), none, 0⟩])
 (.seq (.seq (.reg 0 [⟨(some 19), (.mv (.tmp 9)), none, 0⟩, ⟨(some 20), (.bin .neq (.tmp 19) (.val (.lit (.int .i64 0)))), none, 0⟩])
 (.cond (.tmp 20) (.seq (.reg 0 [⟨(some 21), (.mv (.tmp 9)), none, 0⟩, ⟨(some 6), (.mv (.val (.lit (.int .i64 0)))), none, 0⟩, ⟨(some 7), (.mv (.tmp 21)), none, 0⟩])
 .ret) .skip))
 (.seq (.reg 0 [⟨(some 23), (.mv (.tmp 0)), none, 0⟩, ⟨(some 24), (.load 2 true (.tmp 4)), none, 0⟩, ⟨(some 25), (.faddr 2 (.tmp 5)), none, 0⟩, ⟨(some 26), (.load 3 true (.tmp 25)), none, 0⟩, ⟨(some 27), (.call false (.val (.lit (.func (.func 50) #[] #[]))) [(.tmp 23), (.tmp 24), (.tmp 26)]), none, 0⟩, ⟨(some 22), (.mv (.tmp 27)), none, 0⟩, ⟨(some 28), (.ext (.tmp 22) 0), none, 0⟩, ⟨(some 29), (.ext (.tmp 22) 1), none, 0⟩, ⟨(some 10), (.mv (.tmp 28)), none, 0⟩, ⟨(some 9), (.mv (.tmp 29)), none, 0⟩])
 (.seq (.seq (.reg 0 [⟨(some 30), (.mv (.tmp 9)), none, 0⟩, ⟨(some 31), (.bin .neq (.tmp 30) (.val (.lit (.int .i64 0)))), none, 0⟩])
 (.cond (.tmp 31) (.seq (.reg 0 [⟨(some 32), (.mv (.tmp 9)), none, 0⟩, ⟨(some 6), (.mv (.val (.lit (.int .i64 0)))), none, 0⟩, ⟨(some 7), (.mv (.tmp 32)), none, 0⟩])
 .ret) .skip))
 (.seq (.reg 0 [⟨(some 33), (.mv (.tmp 8)), none, 0⟩, ⟨(some 34), (.faddr 0 (.tmp 5)), none, 0⟩, ⟨(some 35), (.faddr 1 (.tmp 34)), none, 0⟩, ⟨(some 36), (.load 1 false (.tmp 35)), none, 0⟩, ⟨(some 37), (.mv (.tmp 10)), none, 0⟩, ⟨(some 38), (.faddr 2 (.tmp 5)), none, 0⟩, ⟨(some 39), (.faddr 2 (.tmp 38)), none, 0⟩, ⟨(some 40), (.load 1 false (.tmp 39)), none, 0⟩, ⟨(some 41), (.call false (.val (.lit (.func (.func 68) #[] #[]))) [(.tmp 33), (.tmp 36), (.tmp 37), (.tmp 40)]), none, 0⟩, ⟨(some 6), (.mv (.tmp 41)), none, 0⟩, ⟨(some 7), (.mv (.val (.lit (.int .i64 0)))), none, 0⟩])
 .ret))))))
theorem e27 : envOf Try.prog muts 27 = some (42, c27, [(Go.Abs.ARes.tmp 6), (Go.Abs.ARes.tmp 7)]) := by kernel_rfl
def c33l0 : ACode :=
 (.seq (.seq (.reg 0 [⟨(some 18), (.mv (.tmp 3)), none, 0⟩, ⟨(some 19), (.mv (.tmp 0)), none, 0⟩, ⟨(some 20), (.lenS (.tmp 19)), none, 0⟩, ⟨(some 21), (.bin .lss (.tmp 18) (.tmp 20)), none, 0⟩])
 (.cond (.tmp 21) .skip (.exit 0)))
 (.seq (.block 1 (.seq (.reg 0 [⟨(some 24), (.mv (.tmp 0)), none, 0⟩, ⟨(some 25), (.mv (.tmp 3)), none, 0⟩, ⟨(some 26), (.idxS (.tmp 24) (.tmp 25)), none, 0⟩, ⟨(some 27), (.call false (.val (.lit (.func (.func 74) #[] #[]))) [(.tmp 26)]), none, 0⟩, ⟨(some 28), (.not (.tmp 27)), none, 0⟩, ⟨(some 29), (.mv (.tmp 28)), none, 0⟩, ⟨(some 30), (.mv (.tmp 0)), (some (29, true)), 0⟩, ⟨(some 31), (.mv (.tmp 3)), (some (29, true)), 0⟩, ⟨(some 32), (.idxS (.tmp 30) (.tmp 31)), (some (29, true)), 0⟩, ⟨(some 33), (.call false (.val (.lit (.func (.func 75) #[] #[]))) [(.tmp 32)]), (some (29, true)), 0⟩, ⟨(some 34), (.not (.tmp 33)), (some (29, true)), 0⟩, ⟨(some 35), (.pick (.tmp 29) (.tmp 34) (.val (.lit (.bool false)))), none, 0⟩, ⟨(some 36), (.mv (.tmp 35)), none, 0⟩, ⟨(some 37), (.mv (.tmp 0)), (some (36, true)), 0⟩, ⟨(some 38), (.mv (.tmp 3)), (some (36, true)), 0⟩, ⟨(some 39), (.idxS (.tmp 37) (.tmp 38)), (some (36, true)), 0⟩, ⟨(some 40), (.bin .neq (.tmp 39) (.val (.lit (.int .u8 45)))), (some (36, true)), 0⟩, ⟨(some 41), (.pick (.tmp 36) (.tmp 40) (.val (.lit (.bool false)))), none, 0⟩])
 (.cond (.tmp 41) (.seq (.reg 0 [⟨(some 2), (.mv (.val (.lit (.bool false)))), none, 0⟩])
 .ret) .skip)))
 (.reg 0 [⟨(some 22), (.mv (.tmp 3)), none, 0⟩, ⟨(some 23), (.bin .add (.tmp 22) (.val (.lit (.int .i64 1)))), none, 0⟩, ⟨(some 3), (.mv (.tmp 23)), none, 0⟩])))
def c33 : ACode :=
 (.seq (.reg 0 [⟨(some 2), (.mv (.val (.lit (.bool false)))), none, 0⟩])
 (.seq (.seq (.reg 0 [⟨(some 4), (.mv (.tmp 0)), none, 0⟩, ⟨(some 5), (.lenS (.tmp 4)), none, 0⟩, ⟨(some 6), (.bin .eql (.tmp 5) (.val (.lit (.int .i64 0)))), none, 0⟩, ⟨(some 7), (.mv (.tmp 6)), none, 0⟩, ⟨(some 8), (.mv (.tmp 0)), (some (7, false)), 0⟩, ⟨(some 9), (.lenS (.tmp 8)), (some (7, false)), 0⟩, ⟨(some 10), (.bin .gtr (.tmp 9) (.val (.lit (.int .i64 12)))), (some (7, false)), 0⟩, ⟨(some 11), (.pick (.tmp 7) (.val (.lit (.bool true))) (.tmp 10)), none, 0⟩, ⟨(some 12), (.mv (.tmp 11)), none, 0⟩, ⟨(some 13), (.mv (.tmp 0)), (some (12, false)), 0⟩, ⟨(some 14), (.idxS (.tmp 13) (.val (.lit (.int .i64 0)))), (some (12, false)), 0⟩, ⟨(some 15), (.call false (.val (.lit (.func (.func 74) #[] #[]))) [(.tmp 14)]), (some (12, false)), 0⟩, ⟨(some 16), (.not (.tmp 15)), (some (12, false)), 0⟩, ⟨(some 17), (.pick (.tmp 12) (.val (.lit (.bool true))) (.tmp 16)), none, 0⟩])
 (.cond (.tmp 17) (.seq (.reg 0 [⟨(some 2), (.mv (.val (.lit (.bool false)))), none, 0⟩])
 .ret) .skip))
 (.seq (.seq (.reg 0 [⟨(some 3), (.mv (.val (.lit (.int .i64 0)))), none, 0⟩])
 (.block 0 (.loop c33l0)))
 (.seq (.reg 0 [⟨(some 2), (.mv (.val (.lit (.bool true)))), none, 0⟩])
 .ret))))
theorem e33 : envOf Try.prog muts 33 = some (42, c33, [(Go.Abs.ARes.tmp 2)]) := by kernel_rfl
def c36l0 : ACode :=
 (.seq (.reg 0 [⟨(some 29), (.bin .lss (.tmp 28) (.tmp 27)), none, 0⟩])
 (.seq (.cond (.tmp 29) .skip (.exit 0))
 (.seq (.block 1 (.seq (.reg 0 [⟨(some 30), (.mv (.tmp 28)), none, 0⟩, ⟨(some 31), (.iaddrS 1 (.tmp 26) (.tmp 28)), none, 0⟩, ⟨(some 32), (.load 1 false (.tmp 31)), none, 0⟩, ⟨(some 9), (.mv (.tmp 30)), none, 0⟩, ⟨(some 10), (.mv (.tmp 32)), none, 0⟩])
 (.seq (.dreg 0 [(0, ⟨(some 33), (.mv (.tmp 10)), none, 0⟩), (1, ⟨(some 34), (.faddr 0 (.tmp 4)), none, 0⟩), (2, ⟨(some 35), (.load 1 false (.tmp 34)), none, 0⟩), (3, ⟨(some 36), (.mv (.tmp 9)), none, 0⟩), (4, ⟨(some 37), (.iaddrS 1 (.tmp 35) (.tmp 36)), none, 0⟩), (5, ⟨(some 38), (.load 1 false (.tmp 37)), none, 0⟩), (6, ⟨(some 39), (.faddr 1 (.tmp 5)), none, 0⟩), (7, ⟨(some 40), (.load 1 false (.tmp 39)), none, 0⟩), (8, ⟨(some 41), (.bin .mul (.tmp 38) (.tmp 40)), none, 0⟩), (9, ⟨(some 42), (.faddr 1 (.tmp 4)), none, 0⟩), (10, ⟨(some 43), (.load 1 false (.tmp 42)), none, 0⟩), (11, ⟨(some 44), (.mv (.tmp 9)), none, 0⟩), (12, ⟨(some 45), (.iaddrS 1 (.tmp 43) (.tmp 44)), none, 0⟩), (13, ⟨(some 46), (.load 1 false (.tmp 45)), none, 0⟩), (14, ⟨(some 47), (.faddr 1 (.tmp 5)), none, 0⟩), (15, ⟨(some 48), (.load 1 false (.tmp 47)), none, 0⟩), (16, ⟨(some 49), (.bin .mul (.tmp 46) (.tmp 48)), none, 0⟩), (17, ⟨(some 50), (.call false (.val (.lit (.func (.func 80) #[] #[]))) [(.tmp 33), (.tmp 41), (.tmp 49)]), none, 0⟩), (18, ⟨(some 51), (.not (.tmp 50)), none, 0⟩)] [[], [], [1], [], [2, 3, 1], [4, 2, 3, 1], [], [6], [5, 7, 4, 2, 3, 1, 6], [], [9], [], [10, 11, 9], [12, 10, 11, 9], [], [14], [13, 15, 12, 10, 11, 9, 14], [0, 8, 16, 5, 7, 4, 2, 3, 1, 6, 13, 15, 12, 10, 11, 9, 14], [17, 0, 8, 16, 5, 7, 4, 2, 3, 1, 6, 13, 15, 12, 10, 11, 9, 14]])
 (.cond (.tmp 51) (.seq (.reg 0 [⟨(some 52), (.mv (.tmp 9)), none, 0⟩, ⟨(some 6), (.mv (.tmp 52)), none, 0⟩, ⟨(some 7), (.mv (.val (.lit (.int .i64 26)))), none, 0⟩])
 .ret) .skip))))
 (.reg 0 [⟨(some 53), (.bin .add (.tmp 28) (.val (.lit (.int .i64 1)))), none, 0⟩, ⟨(some 28), (.mv (.tmp 53)), none, 0⟩]))))
def c36 : ACode :=
 (.seq (.reg 2 [⟨(some 4), (.box 2 (.tmp 1)), none, 0⟩, ⟨(some 5), (.box 2 (.tmp 2)), none, 1⟩, ⟨(some 6), (.mv (.val (.lit (.int .i64 0)))), none, 2⟩, ⟨(some 7), (.mv (.val (.lit (.int .i64 0)))), none, 2⟩])
 (.seq (.seq (.dreg 1 [(0, ⟨(some 11), (.mv (.tmp 0)), none, 0⟩), (1, ⟨(some 12), (.call false (.val (.lit (.func (.func 70) #[] #[]))) [(.tmp 11)]), none, 0⟩), (2, ⟨(some 13), (.mv (.tmp 0)), none, 0⟩), (3, ⟨(some 14), (.load 2 true (.tmp 4)), none, 0⟩), (4, ⟨(some 15), (.call false (.val (.lit (.func (.func 77) #[] #[]))) [(.tmp 13), (.tmp 14)]), none, 0⟩), (5, ⟨(some 16), (.mv (.tmp 0)), none, 0⟩), (6, ⟨(some 17), (.load 2 true (.tmp 5)), none, 0⟩), (7, ⟨(some 18), (.call false (.val (.lit (.func (.func 78) #[] #[]))) [(.tmp 16), (.tmp 17)]), none, 0⟩), (8, ⟨(some 19), (.bslice 1 3 [(.lit .nilFunc)] [(0, (.tmp 12)), (1, (.tmp 15)), (2, (.tmp 18))]), none, 0⟩), (9, ⟨(some 20), (.call true (.val (.lit (.func (.func 69) #[] #[]))) [(.tmp 19)]), none, 1⟩), (10, ⟨(some 8), (.mv (.tmp 20)), none, 1⟩)] [[], [0], [], [], [2, 3, 1, 0], [], [], [5, 6, 4, 2, 3, 1, 0], [1, 4, 7, 0, 2, 3, 5, 6], [8, 7, 1, 4, 0, 2, 3, 5, 6], [9, 0, 1, 2, 3, 4, 5, 6, 7, 8]])
 (.seq (.reg 0 [⟨(some 21), (.mv (.tmp 8)), none, 0⟩, ⟨(some 22), (.bin .neq (.tmp 21) (.val (.lit (.int .i64 0)))), none, 0⟩])
 (.cond (.tmp 22) (.seq (.reg 0 [⟨(some 23), (.mv (.tmp 8)), none, 0⟩, ⟨(some 6), (.mv (.val (.lit (.int .i64 0)))), none, 0⟩, ⟨(some 7), (.mv (.tmp 23)), none, 0⟩])
 .ret) .skip)))
 (.seq (.seq (.reg 0 [⟨(some 24), (.mv (.tmp 0)), none, 0⟩, ⟨(some 25), (.load 2 true (.tmp 5)), none, 0⟩, ⟨(some 26), (.call false (.val (.lit (.func (.func 79) #[] #[]))) [(.tmp 24), (.tmp 25)]), none, 0⟩, ⟨(some 27), (.len (.tmp 26)), none, 0⟩, ⟨(some 28), (.mv (.val (.lit (.int .i64 0)))), none, 0⟩])
 (.block 0 (.loop c36l0)))
 (.seq (.reg 0 [⟨(some 54), (.faddr 0 (.tmp 5)), none, 0⟩, ⟨(some 55), (.load 1 false (.tmp 54)), none, 0⟩, ⟨(some 56), (.call false (.val (.lit (.func (.func 81) #[] #[]))) [(.tmp 55)]), none, 0⟩, ⟨(some 6), (.mv (.tmp 56)), none, 0⟩, ⟨(some 7), (.mv (.val (.lit (.int .i64 0)))), none, 0⟩])
 .ret))))
theorem e36 : envOf Try.prog muts 36 = some (57, c36, [(Go.Abs.ARes.tmp 6), (Go.Abs.ARes.tmp 7)]) := by kernel_rfl
def c38l0 : ACode :=
 (.seq (.seq (.reg 0 [⟨(some 56), (.mv (.tmp 5)), none, 0⟩, ⟨(some 57), (.mv (.tmp 0)), none, 0⟩, ⟨(some 58), (.mv (.tmp 4)), none, 0⟩, ⟨(some 59), (.iaddrS 2 (.tmp 57) (.tmp 58)), none, 0⟩, ⟨(some 60), (.faddr 1 (.tmp 59)), none, 0⟩, ⟨(some 61), (.load 1 false (.tmp 60)), none, 0⟩, ⟨(some 62), (.len (.tmp 61)), none, 0⟩, ⟨(some 63), (.bin .lss (.tmp 56) (.tmp 62)), none, 0⟩])
 (.cond (.tmp 63) .skip (.exit 2)))
 (.seq (.block 3 (.seq (.reg 0 [⟨(some 66), (.mv (.tmp 0)), none, 0⟩, ⟨(some 67), (.mv (.tmp 4)), none, 0⟩, ⟨(some 68), (.iaddrS 2 (.tmp 66) (.tmp 67)), none, 0⟩, ⟨(some 69), (.faddr 1 (.tmp 68)), none, 0⟩, ⟨(some 70), (.load 1 false (.tmp 69)), none, 0⟩, ⟨(some 71), (.mv (.tmp 5)), none, 0⟩, ⟨(some 72), (.iaddrS 1 (.tmp 70) (.tmp 71)), none, 0⟩, ⟨(some 73), (.load 1 false (.tmp 72)), none, 0⟩, ⟨(some 74), (.call false (.val (.lit (.func (.func 15) #[] #[]))) [(.tmp 73), (.val (.lit (.int .i64 0))), (.val (.lit (.int .i64 100)))]), none, 0⟩, ⟨(some 75), (.not (.tmp 74)), none, 0⟩])
 (.cond (.tmp 75) (.seq (.reg 0 [⟨(some 2), (.mv (.val (.lit (.int .i64 0)))), none, 0⟩, ⟨(some 3), (.mv (.val (.lit (.int .i64 2)))), none, 0⟩])
 .ret) .skip)))
 (.reg 0 [⟨(some 64), (.mv (.tmp 5)), none, 0⟩, ⟨(some 65), (.bin .add (.tmp 64) (.val (.lit (.int .i64 1)))), none, 0⟩, ⟨(some 5), (.mv (.tmp 65)), none, 0⟩])))
def c38l1 : ACode :=
 (.seq (.seq (.reg 0 [⟨(some 12), (.mv (.tmp 4)), none, 0⟩, ⟨(some 13), (.mv (.tmp 0)), none, 0⟩, ⟨(some 14), (.len (.tmp 13)), none, 0⟩, ⟨(some 15), (.bin .lss (.tmp 12) (.tmp 14)), none, 0⟩])
 (.cond (.tmp 15) .skip (.exit 0)))
 (.seq (.block 1 (.seq (.seq (.reg 0 [⟨(some 18), (.mv (.tmp 0)), none, 0⟩, ⟨(some 19), (.mv (.tmp 4)), none, 0⟩, ⟨(some 20), (.iaddrS 2 (.tmp 18) (.tmp 19)), none, 0⟩, ⟨(some 21), (.faddr 0 (.tmp 20)), none, 0⟩, ⟨(some 22), (.load 1 false (.tmp 21)), none, 0⟩, ⟨(some 23), (.call false (.val (.lit (.func (.func 33) #[] #[]))) [(.tmp 22)]), none, 0⟩, ⟨(some 24), (.not (.tmp 23)), none, 0⟩])
 (.cond (.tmp 24) (.seq (.reg 0 [⟨(some 2), (.mv (.val (.lit (.int .i64 0)))), none, 0⟩, ⟨(some 3), (.mv (.val (.lit (.int .i64 4)))), none, 0⟩])
 .ret) .skip))
 (.seq (.seq (.reg 0 [⟨(some 25), (.mv (.tmp 0)), none, 0⟩, ⟨(some 26), (.mv (.tmp 0)), none, 0⟩, ⟨(some 27), (.mv (.tmp 4)), none, 0⟩, ⟨(some 28), (.iaddrS 2 (.tmp 26) (.tmp 27)), none, 0⟩, ⟨(some 29), (.faddr 0 (.tmp 28)), none, 0⟩, ⟨(some 30), (.load 1 false (.tmp 29)), none, 0⟩, ⟨(some 31), (.call false (.val (.lit (.func (.func 76) #[] #[]))) [(.tmp 25), (.tmp 30)]), none, 0⟩, ⟨(some 32), (.mv (.tmp 4)), none, 0⟩, ⟨(some 33), (.bin .lss (.tmp 31) (.tmp 32)), none, 0⟩])
 (.cond (.tmp 33) (.seq (.reg 0 [⟨(some 2), (.mv (.val (.lit (.int .i64 0)))), none, 0⟩, ⟨(some 3), (.mv (.val (.lit (.int .i64 5)))), none, 0⟩])
 .ret) .skip))
 (.seq (.seq (.dreg 0 [(0, ⟨(some 34), (.mv (.tmp 0)), none, 0⟩), (1, ⟨(some 35), (.mv (.tmp 4)), none, 0⟩), (2, ⟨(some 36), (.iaddrS 2 (.tmp 34) (.tmp 35)), none, 0⟩), (3, ⟨(some 37), (.faddr 1 (.tmp 36)), none, 0⟩), (4, ⟨(some 38), (.load 1 false (.tmp 37)), none, 0⟩), (5, ⟨(some 39), (.len (.tmp 38)), none, 0⟩), (6, ⟨(some 40), (.mv (.tmp 0)), none, 0⟩), (7, ⟨(some 41), (.iaddrS 2 (.tmp 40) (.val (.lit (.int .i64 0)))), none, 0⟩), (8, ⟨(some 42), (.faddr 1 (.tmp 41)), none, 0⟩), (9, ⟨(some 43), (.load 1 false (.tmp 42)), none, 0⟩), (10, ⟨(some 44), (.len (.tmp 43)), none, 0⟩), (11, ⟨(some 45), (.bin .neq (.tmp 39) (.tmp 44)), none, 0⟩), (12, ⟨(some 46), (.mv (.tmp 45)), none, 0⟩), (13, ⟨(some 47), (.mv (.tmp 0)), (some (46, false)), 0⟩), (14, ⟨(some 48), (.mv (.tmp 4)), (some (46, false)), 0⟩), (15, ⟨(some 49), (.iaddrS 2 (.tmp 47) (.tmp 48)), (some (46, false)), 0⟩), (16, ⟨(some 50), (.faddr 1 (.tmp 49)), (some (46, false)), 0⟩), (17, ⟨(some 51), (.load 1 false (.tmp 50)), (some (46, false)), 0⟩), (18, ⟨(some 52), (.len (.tmp 51)), (some (46, false)), 0⟩), (19, ⟨(some 53), (.call false (.val (.lit (.func (.func 15) #[] #[]))) [(.tmp 52), (.val (.lit (.int .i64 1))), (.val (.lit (.int .i64 40)))]), (some (46, false)), 0⟩), (20, ⟨(some 54), (.not (.tmp 53)), (some (46, false)), 0⟩), (21, ⟨(some 55), (.pick (.tmp 46) (.val (.lit (.bool true))) (.tmp 54)), none, 0⟩)] [[], [], [0, 1], [2, 0, 1], [3, 2, 0, 1], [4, 3, 2, 0, 1], [], [6], [7, 6], [8, 7, 6], [9, 8, 7, 6], [5, 10, 4, 3, 2, 0, 1, 9, 8, 7, 6], [11, 5, 10, 4, 3, 2, 0, 1, 9, 8, 7, 6], [12, 11, 5, 10, 4, 3, 2, 0, 1, 9, 8, 7, 6], [12, 11, 5, 10, 4, 3, 2, 0, 1, 9, 8, 7, 6], [13, 14, 12, 11, 5, 10, 4, 3, 2, 0, 1, 9, 8, 7, 6], [15, 12, 13, 14, 11, 5, 10, 4, 3, 2, 0, 1, 9, 8, 7, 6], [16, 12, 15, 13, 14, 11, 5, 10, 4, 3, 2, 0, 1, 9, 8, 7, 6], [17, 12, 16, 15, 13, 14, 11, 5, 10, 4, 3, 2, 0, 1, 9, 8, 7, 6], [18, 12, 17, 16, 15, 13, 14, 11, 5, 10, 4, 3, 2, 0, 1, 9, 8, 7, 6], [19, 12, 18, 17, 16, 15, 13, 14, 11, 5, 10, 4, 3, 2, 0, 1, 9, 8, 7, 6], [12, 20, 11, 5, 10, 4, 3, 2, 0, 1, 9, 8, 7, 6, 19, 18, 17, 16, 15, 13, 14]])
 (.cond (.tmp 55) (.seq (.reg 0 [⟨(some 2), (.mv (.val (.lit (.int .i64 0)))), none, 0⟩, ⟨(some 3), (.mv (.val (.lit (.int .i64 10)))), none, 0⟩])
 .ret) .skip))
 (.seq (.reg 0 [⟨(some 5), (.mv (.val (.lit (.int .i64 0)))), none, 0⟩])
 (.block 2 (.loop c38l0)))))))
 (.reg 0 [⟨(some 16), (.mv (.tmp 4)), none, 0⟩, ⟨(some 17), (.bin .add (.tmp 16) (.val (.lit (.int .i64 1)))), none, 0⟩, ⟨(some 4), (.mv (.tmp 17)), none, 0⟩])))
def c38 : ACode :=
 (.seq (.reg 0 [⟨(some 2), (.mv (.val (.lit (.int .i64 0)))), none, 0⟩, ⟨(some 3), (.mv (.val (.lit (.int .i64 0)))), none, 0⟩])
 (.seq (.seq (.reg 0 [⟨(some 6), (.mv (.tmp 0)), none, 0⟩, ⟨(some 7), (.len (.tmp 6)), none, 0⟩, ⟨(some 8), (.bin .eql (.tmp 7) (.val (.lit (.int .i64 0)))), none, 0⟩])
 (.cond (.tmp 8) (.seq (.reg 0 [⟨(some 2), (.mv (.val (.lit (.int .i64 0)))), none, 0⟩, ⟨(some 3), (.mv (.val (.lit (.int .i64 10)))), none, 0⟩])
 .ret) .skip))
 (.seq (.seq (.reg 0 [⟨(some 9), (.mv (.tmp 0)), none, 0⟩, ⟨(some 10), (.len (.tmp 9)), none, 0⟩, ⟨(some 11), (.bin .gtr (.tmp 10) (.val (.lit (.int .i64 12)))), none, 0⟩])
 (.cond (.tmp 11) (.seq (.reg 0 [⟨(some 2), (.mv (.val (.lit (.int .i64 0)))), none, 0⟩, ⟨(some 3), (.mv (.val (.lit (.int .i64 8)))), none, 0⟩])
 .ret) .skip))
 (.seq (.seq (.reg 0 [⟨(some 4), (.mv (.val (.lit (.int .i64 0)))), none, 0⟩])
 (.block 0 (.loop c38l1)))
 (.seq (.reg 0 [⟨(some 76), (.mv (.tmp 0)), none, 0⟩, ⟨(some 77), (.iaddrS 2 (.tmp 76) (.val (.lit (.int .i64 0)))), none, 0⟩, ⟨(some 78), (.faddr 1 (.tmp 77)), none, 0⟩, ⟨(some 79), (.load 1 false (.tmp 78)), none, 0⟩, ⟨(some 80), (.len (.tmp 79)), none, 0⟩, ⟨(some 2), (.mv (.tmp 80)), none, 0⟩, ⟨(some 3), (.mv (.val (.lit (.int .i64 0)))), none, 0⟩])
 .ret)))))
theorem e38 : envOf Try.prog muts 38 = some (81, c38, [(Go.Abs.ARes.tmp 2), (Go.Abs.ARes.tmp 3)]) := by kernel_rfl
def c39l0 : ACode :=
 (.seq (.seq (.reg 0 [⟨(some 16), (.mv (.tmp 5)), none, 0⟩, ⟨(some 17), (.faddr 0 (.tmp 3)), none, 0⟩, ⟨(some 18), (.load 1 false (.tmp 17)), none, 0⟩, ⟨(some 19), (.len (.tmp 18)), none, 0⟩, ⟨(some 20), (.bin .lss (.tmp 16) (.tmp 19)), none, 0⟩])
 (.cond (.tmp 20) .skip (.exit 0)))
 (.seq (.block 1 (.seq (.reg 0 [⟨(some 23), (.faddr 0 (.tmp 3)), none, 0⟩, ⟨(some 24), (.load 1 false (.tmp 23)), none, 0⟩, ⟨(some 25), (.mv (.tmp 5)), none, 0⟩, ⟨(some 26), (.iaddrS 1 (.tmp 24) (.tmp 25)), none, 0⟩, ⟨(some 27), (.load 1 false (.tmp 26)), none, 0⟩, ⟨(some 28), (.call false (.val (.lit (.func (.func 15) #[] #[]))) [(.tmp 27), (.val (.lit (.int .i64 0))), (.val (.lit (.int .i64 1000000000)))]), none, 0⟩, ⟨(some 29), (.not (.tmp 28)), none, 0⟩])
 (.cond (.tmp 29) (.seq (.reg 0 [⟨(some 4), (.mv (.val (.lit (.int .i64 2)))), none, 0⟩])
 .ret) .skip)))
 (.reg 0 [⟨(some 21), (.mv (.tmp 5)), none, 0⟩, ⟨(some 22), (.bin .add (.tmp 21) (.val (.lit (.int .i64 1)))), none, 0⟩, ⟨(some 5), (.mv (.tmp 22)), none, 0⟩])))
def c39 : ACode :=
 (.seq (.reg 1 [⟨(some 3), (.box 2 (.tmp 1)), none, 0⟩, ⟨(some 4), (.mv (.val (.lit (.int .i64 0)))), none, 1⟩])
 (.seq (.seq (.reg 0 [⟨(some 6), (.faddr 0 (.tmp 3)), none, 0⟩, ⟨(some 7), (.load 1 false (.tmp 6)), none, 0⟩, ⟨(some 8), (.len (.tmp 7)), none, 0⟩, ⟨(some 9), (.mv (.tmp 0)), none, 0⟩, ⟨(some 10), (.len (.tmp 9)), none, 0⟩, ⟨(some 11), (.bin .neq (.tmp 8) (.tmp 10)), none, 0⟩])
 (.cond (.tmp 11) (.seq (.reg 0 [⟨(some 4), (.mv (.val (.lit (.int .i64 10)))), none, 0⟩])
 .ret) .skip))
 (.seq (.seq (.reg 0 [⟨(some 12), (.faddr 1 (.tmp 3)), none, 0⟩, ⟨(some 13), (.load 1 false (.tmp 12)), none, 0⟩, ⟨(some 14), (.call false (.val (.lit (.func (.func 15) #[] #[]))) [(.tmp 13), (.val (.lit (.int .i64 1))), (.val (.lit (.int .i64 10000000)))]), none, 0⟩, ⟨(some 15), (.not (.tmp 14)), none, 0⟩])
 (.cond (.tmp 15) (.seq (.reg 0 [⟨(some 4), (.mv (.val (.lit (.int .i64 2)))), none, 0⟩])
 .ret) .skip))
 (.seq (.seq (.reg 0 [⟨(some 5), (.mv (.val (.lit (.int .i64 0)))), none, 0⟩])
 (.block 0 (.loop c39l0)))
 (.seq (.reg 0 [⟨(some 4), (.mv (.val (.lit (.int .i64 0)))), none, 0⟩])
 .ret)))))
theorem e39 : envOf Try.prog muts 39 = some (30, c39, [(Go.Abs.ARes.tmp 4)]) := by kernel_rfl
def c42l0 : ACode :=
 (.seq (.seq (.reg 0 [⟨(some 18), (.mv (.tmp 9)), none, 0⟩, ⟨(some 19), (.faddr 0 (.tmp 4)), none, 0⟩, ⟨(some 20), (.load 1 false (.tmp 19)), none, 0⟩, ⟨(some 21), (.len (.tmp 20)), none, 0⟩, ⟨(some 22), (.bin .lss (.tmp 18) (.tmp 21)), none, 0⟩])
 (.cond (.tmp 22) .skip (.exit 0)))
 (.seq (.block 1 (.seq (.dreg 0 [(0, ⟨(some 25), (.mv (.tmp 0)), none, 0⟩), (1, ⟨(some 26), (.load 2 true (.tmp 5)), none, 0⟩), (2, ⟨(some 27), (.mv (.tmp 9)), none, 0⟩), (3, ⟨(some 28), (.call false (.val (.lit (.func (.func 82) #[] #[]))) [(.tmp 25), (.tmp 26), (.tmp 27)]), none, 0⟩), (4, ⟨(some 29), (.faddr 0 (.tmp 4)), none, 0⟩), (5, ⟨(some 30), (.load 1 false (.tmp 29)), none, 0⟩), (6, ⟨(some 31), (.mv (.tmp 9)), none, 0⟩), (7, ⟨(some 32), (.iaddrS 1 (.tmp 30) (.tmp 31)), none, 0⟩), (8, ⟨(some 33), (.load 1 false (.tmp 32)), none, 0⟩), (9, ⟨(some 34), (.faddr 1 (.tmp 5)), none, 0⟩), (10, ⟨(some 35), (.load 1 false (.tmp 34)), none, 0⟩), (11, ⟨(some 36), (.bin .mul (.tmp 33) (.tmp 35)), none, 0⟩), (12, ⟨(some 37), (.faddr 1 (.tmp 4)), none, 0⟩), (13, ⟨(some 38), (.load 1 false (.tmp 37)), none, 0⟩), (14, ⟨(some 39), (.mv (.tmp 9)), none, 0⟩), (15, ⟨(some 40), (.iaddrS 1 (.tmp 38) (.tmp 39)), none, 0⟩), (16, ⟨(some 41), (.load 1 false (.tmp 40)), none, 0⟩), (17, ⟨(some 42), (.faddr 1 (.tmp 5)), none, 0⟩), (18, ⟨(some 43), (.load 1 false (.tmp 42)), none, 0⟩), (19, ⟨(some 44), (.bin .mul (.tmp 41) (.tmp 43)), none, 0⟩), (20, ⟨(some 45), (.call false (.val (.lit (.func (.func 15) #[] #[]))) [(.tmp 28), (.tmp 36), (.tmp 44)]), none, 0⟩), (21, ⟨(some 46), (.not (.tmp 45)), none, 0⟩)] [[], [], [], [0, 1, 2], [], [4], [], [5, 6, 4], [7, 5, 6, 4], [], [9], [8, 10, 7, 5, 6, 4, 9], [], [12], [], [13, 14, 12], [15, 13, 14, 12], [], [17], [16, 18, 15, 13, 14, 12, 17], [3, 11, 19, 0, 1, 2, 8, 10, 7, 5, 6, 4, 9, 16, 18, 15, 13, 14, 12, 17], [20, 3, 11, 19, 0, 1, 2, 8, 10, 7, 5, 6, 4, 9, 16, 18, 15, 13, 14, 12, 17]])
 (.cond (.tmp 46) (.seq (.reg 0 [⟨(some 47), (.mv (.tmp 9)), none, 0⟩, ⟨(some 6), (.mv (.tmp 47)), none, 0⟩, ⟨(some 7), (.mv (.val (.lit (.int .i64 26)))), none, 0⟩])
 .ret) .skip)))
 (.reg 0 [⟨(some 23), (.mv (.tmp 9)), none, 0⟩, ⟨(some 24), (.bin .add (.tmp 23) (.val (.lit (.int .i64 1)))), none, 0⟩, ⟨(some 9), (.mv (.tmp 24)), none, 0⟩])))
def c42l1 : ACode :=
 (.seq (.seq (.reg 0 [⟨(some 48), (.mv (.tmp 11)), none, 0⟩, ⟨(some 49), (.faddr 0 (.tmp 5)), none, 0⟩, ⟨(some 50), (.load 1 false (.tmp 49)), none, 0⟩, ⟨(some 51), (.len (.tmp 50)), none, 0⟩, ⟨(some 52), (.bin .lss (.tmp 48) (.tmp 51)), none, 0⟩])
 (.cond (.tmp 52) .skip (.exit 2)))
 (.seq (.block 3 (.reg 0 [⟨(some 55), (.mv (.tmp 10)), none, 0⟩, ⟨(some 56), (.faddr 0 (.tmp 5)), none, 0⟩, ⟨(some 57), (.load 1 false (.tmp 56)), none, 0⟩, ⟨(some 58), (.mv (.tmp 11)), none, 0⟩, ⟨(some 59), (.iaddrS 1 (.tmp 57) (.tmp 58)), none, 0⟩, ⟨(some 60), (.load 1 false (.tmp 59)), none, 0⟩, ⟨(some 61), (.bin .add (.tmp 55) (.tmp 60)), none, 0⟩, ⟨(some 10), (.mv (.tmp 61)), none, 0⟩]))
 (.reg 0 [⟨(some 53), (.mv (.tmp 11)), none, 0⟩, ⟨(some 54), (.bin .add (.tmp 53) (.val (.lit (.int .i64 1)))), none, 0⟩, ⟨(some 11), (.mv (.tmp 54)), none, 0⟩])))
def c42 : ACode :=
 (.seq (.reg 2 [⟨(some 4), (.box 2 (.tmp 1)), none, 0⟩, ⟨(some 5), (.box 2 (.tmp 2)), none, 1⟩, ⟨(some 6), (.mv (.val (.lit (.int .i64 0)))), none, 2⟩, ⟨(some 7), (.mv (.val (.lit (.int .i64 0)))), none, 2⟩])
 (.seq (.seq (.reg 0 [⟨(some 12), (.mv (.tmp 0)), none, 0⟩, ⟨(some 13), (.load 2 true (.tmp 5)), none, 0⟩, ⟨(some 14), (.call false (.val (.lit (.func (.func 39) #[] #[]))) [(.tmp 12), (.tmp 13)]), none, 0⟩, ⟨(some 8), (.mv (.tmp 14)), none, 0⟩])
 (.seq (.reg 0 [⟨(some 15), (.mv (.tmp 8)), none, 0⟩, ⟨(some 16), (.bin .neq (.tmp 15) (.val (.lit (.int .i64 0)))), none, 0⟩])
 (.cond (.tmp 16) (.seq (.reg 0 [⟨(some 17), (.mv (.tmp 8)), none, 0⟩, ⟨(some 6), (.mv (.val (.lit (.int .i64 0)))), none, 0⟩, ⟨(some 7), (.mv (.tmp 17)), none, 0⟩])
 .ret) .skip)))
 (.seq (.seq (.reg 0 [⟨(some 9), (.mv (.val (.lit (.int .i64 0)))), none, 0⟩])
 (.block 0 (.loop c42l0)))
 (.seq (.reg 0 [⟨(some 10), (.mv (.val (.lit (.int .i64 0)))), none, 0⟩])
 (.seq (.seq (.reg 0 [⟨(some 11), (.mv (.val (.lit (.int .i64 0)))), none, 0⟩])
 (.block 2 (.loop c42l1)))
 (.seq (.reg 0 [⟨(some 62), (.mv (.tmp 10)), none, 0⟩, ⟨(some 6), (.mv (.tmp 62)), none, 0⟩, ⟨(some 7), (.mv (.val (.lit (.int .i64 0)))), none, 0⟩])
 .ret))))))
theorem e42 : envOf Try.prog muts 42 = some (63, c42, [(Go.Abs.ARes.tmp 6), (Go.Abs.ARes.tmp 7)]) := by kernel_rfl
def c48 : ACode :=
 (.seq (.reg 2 [⟨(some 4), (.box 2 (.tmp 1)), none, 0⟩, ⟨(some 5), (.box 3 (.tmp 2)), none, 1⟩, ⟨(some 6), (.mv (.val (.lit (.int .i64 0)))), none, 2⟩, ⟨(some 7), (.mv (.val (.lit (.int .i64 0)))), none, 2⟩])
 (.seq (.seq (.dreg 1 [(0, ⟨(some 9), (.mv (.tmp 0)), none, 0⟩), (1, ⟨(some 10), (.call false (.val (.lit (.func (.func 70) #[] #[]))) [(.tmp 9)]), none, 0⟩), (2, ⟨(some 11), (.mv (.tmp 0)), none, 0⟩), (3, ⟨(some 12), (.load 2 true (.tmp 4)), none, 0⟩), (4, ⟨(some 13), (.call false (.val (.lit (.func (.func 77) #[] #[]))) [(.tmp 11), (.tmp 12)]), none, 0⟩), (5, ⟨(some 14), (.mv (.tmp 0)), none, 0⟩), (6, ⟨(some 15), (.load 3 true (.tmp 5)), none, 0⟩), (7, ⟨(some 16), (.call false (.val (.lit (.func (.func 88) #[] #[]))) [(.tmp 14), (.tmp 15)]), none, 0⟩), (8, ⟨(some 17), (.bslice 1 3 [(.lit .nilFunc)] [(0, (.tmp 10)), (1, (.tmp 13)), (2, (.tmp 16))]), none, 0⟩), (9, ⟨(some 18), (.call true (.val (.lit (.func (.func 69) #[] #[]))) [(.tmp 17)]), none, 1⟩), (10, ⟨(some 8), (.mv (.tmp 18)), none, 1⟩)] [[], [0], [], [], [2, 3, 1, 0], [], [], [5, 6, 4, 2, 3, 1, 0], [1, 4, 7, 0, 2, 3, 5, 6], [8, 7, 1, 4, 0, 2, 3, 5, 6], [9, 0, 1, 2, 3, 4, 5, 6, 7, 8]])
 (.seq (.reg 0 [⟨(some 19), (.mv (.tmp 8)), none, 0⟩, ⟨(some 20), (.bin .neq (.tmp 19) (.val (.lit (.int .i64 0)))), none, 0⟩])
 (.cond (.tmp 20) (.seq (.reg 0 [⟨(some 21), (.mv (.tmp 8)), none, 0⟩, ⟨(some 6), (.mv (.val (.lit (.int .i64 0)))), none, 0⟩, ⟨(some 7), (.mv (.tmp 21)), none, 0⟩])
 .ret) .skip)))
 (.seq (.seq (.reg 0 [⟨(some 22), (.mv (.tmp 0)), none, 0⟩, ⟨(some 23), (.load 3 true (.tmp 5)), none, 0⟩, ⟨(some 24), (.faddr 2 (.tmp 5)), none, 0⟩, ⟨(some 25), (.load 1 false (.tmp 24)), none, 0⟩, ⟨(some 26), (.call false (.val (.lit (.func (.func 89) #[] #[]))) [(.tmp 22), (.tmp 23), (.tmp 25)]), none, 0⟩, ⟨(some 27), (.not (.tmp 26)), none, 0⟩])
 (.cond (.tmp 27) (.seq (.reg 0 [⟨(some 6), (.mv (.val (.lit (.int .i64 0)))), none, 0⟩, ⟨(some 7), (.mv (.val (.lit (.int .i64 22)))), none, 0⟩])
 .ret) .skip))
 (.seq (.reg 0 [⟨(some 28), (.load 2 true (.tmp 4)), none, 0⟩, ⟨(some 29), (.load 3 true (.tmp 5)), none, 0⟩, ⟨(some 30), (.call false (.val (.lit (.func (.func 90) #[] #[]))) [(.tmp 28), (.tmp 29)]), none, 0⟩, ⟨(some 6), (.mv (.tmp 30)), none, 0⟩, ⟨(some 7), (.mv (.val (.lit (.int .i64 0)))), none, 0⟩])
 .ret))))
theorem e48 : envOf Try.prog muts 48 = some (31, c48, [(Go.Abs.ARes.tmp 6), (Go.Abs.ARes.tmp 7)]) := by kernel_rfl
def c50 : ACode :=
 (.seq (.reg 2 [⟨(some 4), (.box 2 (.tmp 1)), none, 0⟩, ⟨(some 5), (.box 3 (.tmp 2)), none, 1⟩, ⟨(some 6), (.mv (.val (.lit (.int .i64 0)))), none, 2⟩, ⟨(some 7), (.mv (.val (.lit (.int .i64 0)))), none, 2⟩])
 (.seq (.seq (.reg 0 [⟨(some 9), (.load 3 true (.tmp 5)), none, 0⟩, ⟨(some 10), (.faddr 0 (.tmp 4)), none, 0⟩, ⟨(some 11), (.load 1 false (.tmp 10)), none, 0⟩, ⟨(some 12), (.len (.tmp 11)), none, 0⟩, ⟨(some 13), (.call false (.val (.lit (.func (.func 91) #[] #[]))) [(.tmp 9), (.tmp 12)]), none, 0⟩, ⟨(some 8), (.mv (.tmp 13)), none, 0⟩])
 (.seq (.reg 0 [⟨(some 14), (.mv (.tmp 8)), none, 0⟩, ⟨(some 15), (.bin .neq (.tmp 14) (.val (.lit (.int .i64 0)))), none, 0⟩])
 (.cond (.tmp 15) (.seq (.reg 0 [⟨(some 16), (.mv (.tmp 8)), none, 0⟩, ⟨(some 6), (.mv (.val (.lit (.int .i64 0)))), none, 0⟩, ⟨(some 7), (.mv (.tmp 16)), none, 0⟩])
 .ret) .skip)))
 (.seq (.seq (.dreg 0 [(0, ⟨(some 17), (.mv (.tmp 0)), none, 0⟩), (1, ⟨(some 18), (.load 3 true (.tmp 5)), none, 0⟩), (2, ⟨(some 19), (.call false (.val (.lit (.func (.func 92) #[] #[]))) [(.tmp 17), (.tmp 18)]), none, 0⟩), (3, ⟨(some 20), (.faddr 2 (.tmp 5)), none, 0⟩), (4, ⟨(some 21), (.load 1 false (.tmp 20)), none, 0⟩), (5, ⟨(some 22), (.bin .gtr (.tmp 19) (.tmp 21)), none, 0⟩)] [[], [], [0, 1], [], [3], [2, 4, 0, 1, 3]])
 (.cond (.tmp 22) (.seq (.reg 0 [⟨(some 6), (.mv (.val (.lit (.int .i64 0)))), none, 0⟩, ⟨(some 7), (.mv (.val (.lit (.int .i64 22)))), none, 0⟩])
 .ret) .skip))
 (.seq (.reg 0 [⟨(some 23), (.load 2 true (.tmp 4)), none, 0⟩, ⟨(some 24), (.load 3 true (.tmp 5)), none, 0⟩, ⟨(some 25), (.call false (.val (.lit (.func (.func 93) #[] #[]))) [(.tmp 23), (.tmp 24)]), none, 0⟩, ⟨(some 6), (.mv (.tmp 25)), none, 0⟩, ⟨(some 7), (.mv (.val (.lit (.int .i64 0)))), none, 0⟩])
 .ret))))
theorem e50 : envOf Try.prog muts 50 = some (26, c50, [(Go.Abs.ARes.tmp 6), (Go.Abs.ARes.tmp 7)]) := by kernel_rfl
def c53 : ACode :=
 (.seq (.reg 0 [⟨(some 2), (.mv (.val (.sl true 0 []))), none, 0⟩])
 (.seq (.reg 2 [⟨(some 3), (.bslice 1 0 [(.lit (.int .i64 0))] []), none, 0⟩, ⟨(some 4), (.mv (.tmp 0)), none, 1⟩, ⟨(some 5), (.app 1 8 (.tmp 3) (.tmp 4)), none, 1⟩, ⟨(some 2), (.mv (.tmp 5)), none, 2⟩])
 .ret))
theorem e53 : envOf Try.prog muts 53 = some (6, c53, [(Go.Abs.ARes.tmp 2)]) := by kernel_rfl
def c67 : ACode :=
 (.seq (.reg 0 [⟨(some 4), (.mv (.val (.lit (.int .i64 0)))), none, 0⟩])
 (.seq (.reg 0 [⟨(some 7), (.mv (.tmp 0)), none, 0⟩, ⟨(some 8), (.call false (.val (.lit (.func (.func 99) #[] #[]))) [(.tmp 7)]), none, 0⟩, ⟨(some 5), (.mv (.tmp 8)), none, 0⟩])
 (.seq (.reg 0 [⟨(some 9), (.mv (.tmp 1)), none, 0⟩, ⟨(some 10), (.call false (.val (.lit (.func (.func 99) #[] #[]))) [(.tmp 9)]), none, 0⟩, ⟨(some 6), (.mv (.tmp 10)), none, 0⟩])
 (.seq (.seq (.reg 0 [⟨(some 11), (.mv (.tmp 5)), none, 0⟩])
 (.cond (.tmp 11) (.seq (.seq (.reg 0 [⟨(some 12), (.mv (.tmp 6)), none, 0⟩])
 (.cond (.tmp 12) (.seq (.reg 0 [⟨(some 4), (.mv (.val (.lit (.int .i64 0)))), none, 0⟩])
 .ret) .skip))
 (.seq (.reg 0 [⟨(some 4), (.mv (.val (.lit (.int .i64 (-1))))), none, 0⟩])
 .ret)) .skip))
 (.seq (.seq (.reg 0 [⟨(some 13), (.mv (.tmp 6)), none, 0⟩])
 (.cond (.tmp 13) (.seq (.reg 0 [⟨(some 4), (.mv (.val (.lit (.int .i64 1)))), none, 0⟩])
 .ret) .skip))
 (.seq (.seq (.reg 0 [⟨(some 14), (.mv (.tmp 0)), none, 0⟩, ⟨(some 15), (.mv (.tmp 1)), none, 0⟩, ⟨(some 16), (.bin .lss (.tmp 14) (.tmp 15)), none, 0⟩])
 (.cond (.tmp 16) (.seq (.reg 0 [⟨(some 4), (.mv (.val (.lit (.int .i64 (-1))))), none, 0⟩])
 .ret) .skip))
 (.seq (.seq (.reg 0 [⟨(some 17), (.mv (.tmp 0)), none, 0⟩, ⟨(some 18), (.mv (.tmp 1)), none, 0⟩, ⟨(some 19), (.bin .gtr (.tmp 17) (.tmp 18)), none, 0⟩])
 (.cond (.tmp 19) (.seq (.reg 0 [⟨(some 4), (.mv (.val (.lit (.int .i64 1)))), none, 0⟩])
 .ret) .skip))
 (.seq (.reg 0 [⟨(some 4), (.mv (.val (.lit (.int .i64 0)))), none, 0⟩])
 .ret))))))))
theorem e67 : envOf Try.prog muts 67 = some (20, c67, [(Go.Abs.ARes.tmp 4)]) := by kernel_rfl
def c68l0 : ACode :=
 (.block 1 (.seq (.reg 0 [⟨(some 11), (.mv (.tmp 0)), none, 0⟩, ⟨(some 12), (.mv (.tmp 1)), none, 0⟩, ⟨(some 13), (.call false (.val (.lit (.func (.func 83) #[] #[]))) [(.tmp 11), (.tmp 12)]), none, 0⟩, ⟨(some 14), (.mv (.tmp 2)), none, 0⟩, ⟨(some 15), (.mv (.tmp 3)), none, 0⟩, ⟨(some 16), (.call false (.val (.lit (.func (.func 83) #[] #[]))) [(.tmp 14), (.tmp 15)]), none, 0⟩, ⟨(some 9), (.mv (.tmp 13)), none, 0⟩, ⟨(some 10), (.mv (.tmp 16)), none, 0⟩])
 (.seq (.seq (.reg 0 [⟨(some 17), (.mv (.tmp 9)), none, 0⟩, ⟨(some 18), (.mv (.tmp 10)), none, 0⟩, ⟨(some 19), (.bin .neq (.tmp 17) (.tmp 18)), none, 0⟩])
 (.cond (.tmp 19) (.seq (.seq (.reg 0 [⟨(some 20), (.mv (.tmp 9)), none, 0⟩, ⟨(some 21), (.mv (.tmp 10)), none, 0⟩, ⟨(some 22), (.bin .lss (.tmp 20) (.tmp 21)), none, 0⟩])
 (.cond (.tmp 22) (.seq (.reg 0 [⟨(some 8), (.mv (.val (.lit (.int .i64 (-1))))), none, 0⟩])
 .ret) .skip))
 (.seq (.reg 0 [⟨(some 8), (.mv (.val (.lit (.int .i64 1)))), none, 0⟩])
 .ret)) .skip))
 (.seq (.reg 0 [⟨(some 23), (.mv (.tmp 0)), none, 0⟩, ⟨(some 24), (.mv (.tmp 9)), none, 0⟩, ⟨(some 25), (.mv (.tmp 1)), none, 0⟩, ⟨(some 26), (.bin .mul (.tmp 24) (.tmp 25)), none, 0⟩, ⟨(some 27), (.bin .sub (.tmp 23) (.tmp 26)), none, 0⟩, ⟨(some 28), (.mv (.tmp 2)), none, 0⟩, ⟨(some 29), (.mv (.tmp 10)), none, 0⟩, ⟨(some 30), (.mv (.tmp 3)), none, 0⟩, ⟨(some 31), (.bin .mul (.tmp 29) (.tmp 30)), none, 0⟩, ⟨(some 32), (.bin .sub (.tmp 28) (.tmp 31)), none, 0⟩, ⟨(some 0), (.mv (.tmp 27)), none, 0⟩, ⟨(some 2), (.mv (.tmp 32)), none, 0⟩])
 (.seq (.seq (.reg 0 [⟨(some 33), (.mv (.tmp 0)), none, 0⟩, ⟨(some 34), (.bin .eql (.tmp 33) (.val (.lit (.int .i64 0)))), none, 0⟩, ⟨(some 35), (.mv (.tmp 34)), none, 0⟩, ⟨(some 36), (.mv (.tmp 2)), (some (35, false)), 0⟩, ⟨(some 37), (.bin .eql (.tmp 36) (.val (.lit (.int .i64 0)))), (some (35, false)), 0⟩, ⟨(some 38), (.pick (.tmp 35) (.val (.lit (.bool true))) (.tmp 37)), none, 0⟩])
 (.cond (.tmp 38) (.seq (.block 2 (.seq (.reg 0 [⟨(some 40), (.mv (.tmp 0)), none, 0⟩, ⟨(some 41), (.bin .eql (.tmp 40) (.val (.lit (.int .i64 0)))), none, 0⟩, ⟨(some 42), (.mv (.tmp 41)), none, 0⟩, ⟨(some 43), (.mv (.tmp 2)), (some (42, true)), 0⟩, ⟨(some 44), (.bin .eql (.tmp 43) (.val (.lit (.int .i64 0)))), (some (42, true)), 0⟩, ⟨(some 45), (.pick (.tmp 42) (.tmp 44) (.val (.lit (.bool false)))), none, 0⟩, ⟨(some 39), (.mv (.tmp 45)), none, 0⟩])
 (.cond (.tmp 39) (.seq (.reg 0 [⟨(some 8), (.mv (.val (.lit (.int .i64 0)))), none, 0⟩])
 .ret) (.seq (.reg 0 [⟨(some 47), (.mv (.tmp 0)), none, 0⟩, ⟨(some 48), (.bin .eql (.tmp 47) (.val (.lit (.int .i64 0)))), none, 0⟩, ⟨(some 46), (.mv (.tmp 48)), none, 0⟩])
 (.cond (.tmp 46) (.seq (.reg 0 [⟨(some 8), (.mv (.val (.lit (.int .i64 (-1))))), none, 0⟩])
 .ret) .skip)))))
 (.seq (.reg 0 [⟨(some 8), (.mv (.val (.lit (.int .i64 1)))), none, 0⟩])
 .ret)) .skip))
 (.reg 0 [⟨(some 49), (.mv (.tmp 3)), none, 0⟩, ⟨(some 50), (.mv (.tmp 2)), none, 0⟩, ⟨(some 51), (.mv (.tmp 1)), none, 0⟩, ⟨(some 52), (.mv (.tmp 0)), none, 0⟩, ⟨(some 0), (.mv (.tmp 49)), none, 0⟩, ⟨(some 1), (.mv (.tmp 50)), none, 0⟩, ⟨(some 2), (.mv (.tmp 51)), none, 0⟩, ⟨(some 3), (.mv (.tmp 52)), none, 0⟩]))))))
def c68 : ACode :=
 (.seq (.reg 0 [⟨(some 8), (.mv (.val (.lit (.int .i64 0)))), none, 0⟩])
 (.block 0 (.loop c68l0)))
theorem e68 : envOf Try.prog muts 68 = some (53, c68, [(Go.Abs.ARes.tmp 8)]) := by kernel_rfl
def c69l0 : ACode :=
 (.seq (.reg 0 [⟨(some 9), (.bin .lss (.tmp 8) (.tmp 7)), none, 0⟩])
 (.seq (.cond (.tmp 9) .skip (.exit 0))
 (.seq (.block 1 (.seq (.reg 0 [⟨(some 10), (.iaddrS 1 (.tmp 6) (.tmp 8)), none, 0⟩, ⟨(some 11), (.load 1 false (.tmp 10)), none, 0⟩, ⟨(some 4), (.mv (.tmp 11)), none, 0⟩])
 (.seq (.reg 0 [⟨(some 12), (.mv (.tmp 4)), none, 0⟩, ⟨(some 13), (.call true (.tmp 12) []), none, 0⟩, ⟨(some 5), (.mv (.tmp 13)), none, 0⟩])
 (.seq (.reg 0 [⟨(some 14), (.mv (.tmp 5)), none, 0⟩, ⟨(some 15), (.bin .neq (.tmp 14) (.val (.lit (.int .i64 0)))), none, 0⟩])
 (.cond (.tmp 15) (.seq (.reg 0 [⟨(some 16), (.mv (.tmp 5)), none, 0⟩, ⟨(some 2), (.mv (.tmp 16)), none, 0⟩])
 .ret) .skip)))))
 (.reg 0 [⟨(some 17), (.bin .add (.tmp 8) (.val (.lit (.int .i64 1)))), none, 0⟩, ⟨(some 8), (.mv (.tmp 17)), none, 0⟩]))))
def c69 : ACode :=
 (.seq (.reg 0 [⟨(some 2), (.mv (.val (.lit (.int .i64 0)))), none, 0⟩])
 (.seq (.seq (.reg 0 [⟨(some 6), (.mv (.tmp 0)), none, 0⟩, ⟨(some 7), (.len (.tmp 6)), none, 0⟩, ⟨(some 8), (.mv (.val (.lit (.int .i64 0)))), none, 0⟩])
 (.block 0 (.loop c69l0)))
 (.seq (.reg 0 [⟨(some 2), (.mv (.val (.lit (.int .i64 0)))), none, 0⟩])
 .ret)))
theorem e69 : envOf Try.prog muts 69 = some (18, c69, [(Go.Abs.ARes.tmp 2)]) := by kernel_rfl
def c70 : ACode :=
 (.seq (.reg 1 [⟨(some 1), (.box 1 (.tmp 0)), none, 0⟩, ⟨(some 2), (.mv (.val (.lit .nilFunc))), none, 1⟩])
 (.seq (.reg 0 [⟨(some 3), (.mkf (.func 100) [] [(.tmp 1)]), none, 0⟩, ⟨(some 2), (.mv (.tmp 3)), none, 0⟩])
 .ret))
theorem e70 : envOf Try.prog muts 70 = some (4, c70, [(Go.Abs.ARes.tmp 2)]) := by kernel_rfl
def c74 : ACode :=
 (.seq (.reg 0 [⟨(some 2), (.mv (.val (.lit (.bool false)))), none, 0⟩])
 (.seq (.reg 0 [⟨(some 3), (.mv (.tmp 0)), none, 0⟩, ⟨(some 4), (.bin .geq (.tmp 3) (.val (.lit (.int .u8 97)))), none, 0⟩, ⟨(some 5), (.mv (.tmp 4)), none, 0⟩, ⟨(some 6), (.mv (.tmp 0)), (some (5, true)), 0⟩, ⟨(some 7), (.bin .leq (.tmp 6) (.val (.lit (.int .u8 122)))), (some (5, true)), 0⟩, ⟨(some 8), (.pick (.tmp 5) (.tmp 7) (.val (.lit (.bool false)))), none, 0⟩, ⟨(some 9), (.mv (.tmp 8)), none, 0⟩, ⟨(some 10), (.mv (.tmp 0)), (some (9, false)), 0⟩, ⟨(some 11), (.bin .geq (.tmp 10) (.val (.lit (.int .u8 65)))), (some (9, false)), 0⟩, ⟨(some 12), (.mv (.tmp 11)), (some (9, false)), 0⟩, ⟨(some 13), (.mv (.tmp 0)), (some (12, true)), 0⟩, ⟨(some 14), (.bin .leq (.tmp 13) (.val (.lit (.int .u8 90)))), (some (12, true)), 0⟩, ⟨(some 15), (.pick (.tmp 12) (.tmp 14) (.val (.lit (.bool false)))), (some (9, false)), 0⟩, ⟨(some 16), (.pick (.tmp 9) (.val (.lit (.bool true))) (.tmp 15)), none, 0⟩, ⟨(some 2), (.mv (.tmp 16)), none, 0⟩])
 .ret))
theorem e74 : envOf Try.prog muts 74 = some (17, c74, [(Go.Abs.ARes.tmp 2)]) := by kernel_rfl
def c75 : ACode :=
 (.seq (.reg 0 [⟨(some 2), (.mv (.val (.lit (.bool false)))), none, 0⟩])
 (.seq (.reg 0 [⟨(some 3), (.mv (.tmp 0)), none, 0⟩, ⟨(some 4), (.bin .geq (.tmp 3) (.val (.lit (.int .u8 48)))), none, 0⟩, ⟨(some 5), (.mv (.tmp 4)), none, 0⟩, ⟨(some 6), (.mv (.tmp 0)), (some (5, true)), 0⟩, ⟨(some 7), (.bin .leq (.tmp 6) (.val (.lit (.int .u8 57)))), (some (5, true)), 0⟩, ⟨(some 8), (.pick (.tmp 5) (.tmp 7) (.val (.lit (.bool false)))), none, 0⟩, ⟨(some 2), (.mv (.tmp 8)), none, 0⟩])
 .ret))
theorem e75 : envOf Try.prog muts 75 = some (9, c75, [(Go.Abs.ARes.tmp 2)]) := by kernel_rfl
def c76l0 : ACode :=
 (.seq (.seq (.reg 0 [⟨(some 6), (.mv (.tmp 5)), none, 0⟩, ⟨(some 7), (.mv (.tmp 0)), none, 0⟩, ⟨(some 8), (.len (.tmp 7)), none, 0⟩, ⟨(some 9), (.bin .lss (.tmp 6) (.tmp 8)), none, 0⟩])
 (.cond (.tmp 9) .skip (.exit 0)))
 (.seq (.block 1 (.seq (.reg 0 [⟨(some 12), (.mv (.tmp 0)), none, 0⟩, ⟨(some 13), (.mv (.tmp 5)), none, 0⟩, ⟨(some 14), (.iaddrS 2 (.tmp 12) (.tmp 13)), none, 0⟩, ⟨(some 15), (.faddr 0 (.tmp 14)), none, 0⟩, ⟨(some 16), (.load 1 false (.tmp 15)), none, 0⟩, ⟨(some 17), (.mv (.tmp 1)), none, 0⟩, ⟨(some 18), (.bin .eql (.tmp 16) (.tmp 17)), none, 0⟩])
 (.cond (.tmp 18) (.seq (.reg 0 [⟨(some 19), (.mv (.tmp 5)), none, 0⟩, ⟨(some 4), (.mv (.tmp 19)), none, 0⟩])
 .ret) .skip)))
 (.reg 0 [⟨(some 10), (.mv (.tmp 5)), none, 0⟩, ⟨(some 11), (.bin .add (.tmp 10) (.val (.lit (.int .i64 1)))), none, 0⟩, ⟨(some 5), (.mv (.tmp 11)), none, 0⟩])))
def c76 : ACode :=
 (.seq (.reg 0 [⟨(some 4), (.mv (.val (.lit (.int .i64 0)))), none, 0⟩])
 (.seq (.seq (.reg 0 [⟨(some 5), (.mv (.val (.lit (.int .i64 0)))), none, 0⟩])
 (.block 0 (.loop c76l0)))
 (.seq (.reg 0 [⟨(some 4), (.mv (.val (.lit (.int .i64 (-1))))), none, 0⟩])
 .ret)))
theorem e76 : envOf Try.prog muts 76 = some (20, c76, [(Go.Abs.ARes.tmp 4)]) := by kernel_rfl
def c77 : ACode :=
 (.seq (.reg 2 [⟨(some 2), (.box 1 (.tmp 0)), none, 0⟩, ⟨(some 3), (.box 2 (.tmp 1)), none, 1⟩, ⟨(some 4), (.mv (.val (.lit .nilFunc))), none, 2⟩])
 (.seq (.reg 0 [⟨(some 5), (.mkf (.func 105) [] [(.tmp 2), (.tmp 3)]), none, 0⟩, ⟨(some 4), (.mv (.tmp 5)), none, 0⟩])
 .ret))
theorem e77 : envOf Try.prog muts 77 = some (6, c77, [(Go.Abs.ARes.tmp 4)]) := by kernel_rfl
def c78 : ACode :=
 (.seq (.reg 2 [⟨(some 2), (.box 1 (.tmp 0)), none, 0⟩, ⟨(some 3), (.box 2 (.tmp 1)), none, 1⟩, ⟨(some 4), (.mv (.val (.lit .nilFunc))), none, 2⟩])
 (.seq (.reg 0 [⟨(some 5), (.mkf (.func 106) [] [(.tmp 3), (.tmp 2)]), none, 0⟩, ⟨(some 4), (.mv (.tmp 5)), none, 0⟩])
 .ret))
theorem e78 : envOf Try.prog muts 78 = some (6, c78, [(Go.Abs.ARes.tmp 4)]) := by kernel_rfl
def c79l0 : ACode :=
 (.seq (.reg 0 [⟨(some 27), (.bin .lss (.tmp 26) (.tmp 25)), none, 0⟩])
 (.seq (.cond (.tmp 27) .skip (.exit 2))
 (.seq (.block 3 (.seq (.reg 0 [⟨(some 28), (.mv (.tmp 26)), none, 0⟩, ⟨(some 29), (.iaddrS 1 (.tmp 24) (.tmp 26)), none, 0⟩, ⟨(some 30), (.load 1 false (.tmp 29)), none, 0⟩, ⟨(some 8), (.mv (.tmp 28)), none, 0⟩, ⟨(some 9), (.mv (.tmp 30)), none, 0⟩])
 (.dreg 0 [(0, ⟨(some 31), (.mv (.tmp 5)), none, 0⟩), (1, ⟨(some 32), (.mv (.tmp 8)), none, 0⟩), (2, ⟨(some 33), (.iaddrS 1 (.tmp 31) (.tmp 32)), none, 0⟩), (3, ⟨(some 34), (.load 1 false (.tmp 33)), none, 0⟩), (4, ⟨(some 35), (.faddr 0 (.tmp 3)), none, 0⟩), (5, ⟨(some 36), (.load 1 false (.tmp 35)), none, 0⟩), (6, ⟨(some 37), (.mv (.tmp 6)), none, 0⟩), (7, ⟨(some 38), (.iaddrS 1 (.tmp 36) (.tmp 37)), none, 0⟩), (8, ⟨(some 39), (.load 1 false (.tmp 38)), none, 0⟩), (9, ⟨(some 40), (.mv (.tmp 9)), none, 0⟩), (10, ⟨(some 41), (.bin .mul (.tmp 39) (.tmp 40)), none, 0⟩), (11, ⟨(some 42), (.bin .add (.tmp 34) (.tmp 41)), none, 0⟩), (12, ⟨(some 43), (.iaddrS 1 (.tmp 31) (.tmp 32)), none, 0⟩), (13, ⟨none, (.store 1 (.tmp 43) (.tmp 42)), none, 0⟩)] [[], [], [0, 1], [2, 0, 1], [], [4], [], [5, 6, 4], [7, 5, 6, 4], [], [8, 9, 7, 5, 6, 4], [3, 10, 2, 0, 1, 8, 9, 7, 5, 6, 4], [0, 1, 2, 3, 4, 5, 6, 7, 8, 9, 10, 11], [12, 11, 0, 1, 2, 3, 4, 5, 6, 7, 8, 9, 10]])))
 (.reg 0 [⟨(some 44), (.bin .add (.tmp 26) (.val (.lit (.int .i64 1)))), none, 0⟩, ⟨(some 26), (.mv (.tmp 44)), none, 0⟩]))))
def c79l1 : ACode :=
 (.seq (.reg 0 [⟨(some 19), (.bin .lss (.tmp 18) (.tmp 17)), none, 0⟩])
 (.seq (.cond (.tmp 19) .skip (.exit 0))
 (.seq (.block 1 (.seq (.reg 1 [⟨(some 20), (.mv (.tmp 18)), none, 0⟩, ⟨(some 21), (.iaddrS 2 (.tmp 16) (.tmp 18)), none, 0⟩, ⟨(some 22), (.load 2 true (.tmp 21)), none, 0⟩, ⟨(some 7), (.alloc [(.lit (.string ⟨#[]⟩)), (.sl true 0 [])]), none, 0⟩, ⟨(some 6), (.mv (.tmp 20)), none, 1⟩, ⟨none, (.store 2 (.tmp 7) (.tmp 22)), none, 1⟩])
 (.seq (.reg 0 [⟨(some 23), (.faddr 1 (.tmp 7)), none, 0⟩, ⟨(some 24), (.load 1 false (.tmp 23)), none, 0⟩, ⟨(some 25), (.len (.tmp 24)), none, 0⟩, ⟨(some 26), (.mv (.val (.lit (.int .i64 0)))), none, 0⟩])
 (.block 2 (.loop c79l0)))))
 (.reg 0 [⟨(some 45), (.bin .add (.tmp 18) (.val (.lit (.int .i64 1)))), none, 0⟩, ⟨(some 18), (.mv (.tmp 45)), none, 0⟩]))))
def c79 : ACode :=
 (.seq (.reg 1 [⟨(some 3), (.box 2 (.tmp 1)), none, 0⟩, ⟨(some 4), (.mv (.val (.sl true 0 []))), none, 1⟩])
 (.seq (.reg 1 [⟨(some 10), (.mv (.tmp 0)), none, 0⟩, ⟨(some 11), (.iaddrS 2 (.tmp 10) (.val (.lit (.int .i64 0)))), none, 0⟩, ⟨(some 12), (.faddr 1 (.tmp 11)), none, 0⟩, ⟨(some 13), (.load 1 false (.tmp 12)), none, 0⟩, ⟨(some 14), (.len (.tmp 13)), none, 0⟩, ⟨(some 15), (.mks 1 8 [(.lit (.int .i64 0))] (.tmp 14) (.tmp 14)), none, 0⟩, ⟨(some 5), (.mv (.tmp 15)), none, 1⟩])
 (.seq (.seq (.reg 0 [⟨(some 16), (.mv (.tmp 0)), none, 0⟩, ⟨(some 17), (.len (.tmp 16)), none, 0⟩, ⟨(some 18), (.mv (.val (.lit (.int .i64 0)))), none, 0⟩])
 (.block 0 (.loop c79l1)))
 (.seq (.reg 0 [⟨(some 46), (.mv (.tmp 5)), none, 0⟩, ⟨(some 4), (.mv (.tmp 46)), none, 0⟩])
 .ret))))
theorem e79 : envOf Try.prog muts 79 = some (47, c79, [(Go.Abs.ARes.tmp 4)]) := by kernel_rfl
def c80 : ACode :=
 (.seq (.reg 0 [⟨(some 6), (.mv (.val (.lit (.bool false)))), none, 0⟩])
 (.seq (.reg 0 [⟨(some 7), (.mv (.tmp 0)), none, 0⟩, ⟨(some 8), (.mv (.tmp 1)), none, 0⟩, ⟨(some 9), (.bin .geq (.tmp 7) (.tmp 8)), none, 0⟩, ⟨(some 10), (.mv (.tmp 9)), none, 0⟩, ⟨(some 11), (.mv (.tmp 0)), (some (10, true)), 0⟩, ⟨(some 12), (.mv (.tmp 2)), (some (10, true)), 0⟩, ⟨(some 13), (.bin .leq (.tmp 11) (.tmp 12)), (some (10, true)), 0⟩, ⟨(some 14), (.pick (.tmp 10) (.tmp 13) (.val (.lit (.bool false)))), none, 0⟩, ⟨(some 6), (.mv (.tmp 14)), none, 0⟩])
 .ret))
theorem e80 : envOf Try.prog muts 80 = some (15, c80, [(Go.Abs.ARes.tmp 6)]) := by kernel_rfl
def c81l0 : ACode :=
 (.seq (.reg 0 [⟨(some 9), (.bin .lss (.tmp 8) (.tmp 7)), none, 0⟩])
 (.seq (.cond (.tmp 9) .skip (.exit 0))
 (.seq (.block 1 (.seq (.reg 0 [⟨(some 10), (.iaddrS 1 (.tmp 6) (.tmp 8)), none, 0⟩, ⟨(some 11), (.load 1 false (.tmp 10)), none, 0⟩, ⟨(some 5), (.mv (.tmp 11)), none, 0⟩])
 (.reg 0 [⟨(some 12), (.mv (.tmp 3)), none, 0⟩, ⟨(some 13), (.mv (.tmp 5)), none, 0⟩, ⟨(some 14), (.bin .add (.tmp 12) (.tmp 13)), none, 0⟩, ⟨(some 3), (.mv (.tmp 14)), none, 0⟩])))
 (.reg 0 [⟨(some 15), (.bin .add (.tmp 8) (.val (.lit (.int .i64 1)))), none, 0⟩, ⟨(some 8), (.mv (.tmp 15)), none, 0⟩]))))
def c81 : ACode :=
 (.seq (.reg 0 [⟨(some 2), (.mv (.val (.lit (.int .i64 0)))), none, 0⟩])
 (.seq (.reg 0 [⟨(some 3), (.mv (.val (.lit (.int .i64 0)))), none, 0⟩])
 (.seq (.seq (.reg 0 [⟨(some 6), (.mv (.tmp 0)), none, 0⟩, ⟨(some 7), (.len (.tmp 6)), none, 0⟩, ⟨(some 8), (.mv (.val (.lit (.int .i64 0)))), none, 0⟩])
 (.block 0 (.loop c81l0)))
 (.seq (.reg 0 [⟨(some 16), (.mv (.tmp 3)), none, 0⟩, ⟨(some 2), (.mv (.tmp 16)), none, 0⟩])
 .ret))))
theorem e81 : envOf Try.prog muts 81 = some (17, c81, [(Go.Abs.ARes.tmp 2)]) := by kernel_rfl
def c82l0 : ACode :=
 (.seq (.seq (.reg 0 [⟨(some 9), (.mv (.tmp 8)), none, 0⟩, ⟨(some 10), (.mv (.tmp 0)), none, 0⟩, ⟨(some 11), (.len (.tmp 10)), none, 0⟩, ⟨(some 12), (.bin .lss (.tmp 9) (.tmp 11)), none, 0⟩])
 (.cond (.tmp 12) .skip (.exit 0)))
 (.seq (.block 1 (.dreg 0 [(0, ⟨(some 15), (.mv (.tmp 7)), none, 0⟩), (1, ⟨(some 16), (.faddr 0 (.tmp 4)), none, 0⟩), (2, ⟨(some 17), (.load 1 false (.tmp 16)), none, 0⟩), (3, ⟨(some 18), (.mv (.tmp 8)), none, 0⟩), (4, ⟨(some 19), (.iaddrS 1 (.tmp 17) (.tmp 18)), none, 0⟩), (5, ⟨(some 20), (.load 1 false (.tmp 19)), none, 0⟩), (6, ⟨(some 21), (.mv (.tmp 0)), none, 0⟩), (7, ⟨(some 22), (.mv (.tmp 8)), none, 0⟩), (8, ⟨(some 23), (.iaddrS 2 (.tmp 21) (.tmp 22)), none, 0⟩), (9, ⟨(some 24), (.faddr 1 (.tmp 23)), none, 0⟩), (10, ⟨(some 25), (.load 1 false (.tmp 24)), none, 0⟩), (11, ⟨(some 26), (.mv (.tmp 2)), none, 0⟩), (12, ⟨(some 27), (.iaddrS 1 (.tmp 25) (.tmp 26)), none, 0⟩), (13, ⟨(some 28), (.load 1 false (.tmp 27)), none, 0⟩), (14, ⟨(some 29), (.bin .mul (.tmp 20) (.tmp 28)), none, 0⟩), (15, ⟨(some 30), (.bin .add (.tmp 15) (.tmp 29)), none, 0⟩), (16, ⟨(some 7), (.mv (.tmp 30)), none, 0⟩)] [[], [], [1], [], [2, 3, 1], [4, 2, 3, 1], [], [], [6, 7], [8, 6, 7], [9, 8, 6, 7], [], [10, 11, 9, 8, 6, 7], [12, 10, 11, 9, 8, 6, 7], [5, 13, 4, 2, 3, 1, 12, 10, 11, 9, 8, 6, 7], [0, 14, 5, 13, 4, 2, 3, 1, 12, 10, 11, 9, 8, 6, 7], [15, 0, 1, 2, 3, 4, 5, 6, 7, 8, 9, 10, 11, 12, 13, 14]]))
 (.reg 0 [⟨(some 13), (.mv (.tmp 8)), none, 0⟩, ⟨(some 14), (.bin .add (.tmp 13) (.val (.lit (.int .i64 1)))), none, 0⟩, ⟨(some 8), (.mv (.tmp 14)), none, 0⟩])))
def c82 : ACode :=
 (.seq (.reg 1 [⟨(some 4), (.box 2 (.tmp 1)), none, 0⟩, ⟨(some 6), (.mv (.val (.lit (.int .i64 0)))), none, 1⟩])
 (.seq (.reg 0 [⟨(some 7), (.mv (.val (.lit (.int .i64 0)))), none, 0⟩])
 (.seq (.seq (.reg 0 [⟨(some 8), (.mv (.val (.lit (.int .i64 0)))), none, 0⟩])
 (.block 0 (.loop c82l0)))
 (.seq (.reg 0 [⟨(some 31), (.mv (.tmp 7)), none, 0⟩, ⟨(some 6), (.mv (.tmp 31)), none, 0⟩])
 .ret))))
theorem e82 : envOf Try.prog muts 82 = some (32, c82, [(Go.Abs.ARes.tmp 6)]) := by kernel_rfl
def c83 : ACode :=
 (.seq (.reg 0 [⟨(some 4), (.mv (.val (.lit (.int .i64 0)))), none, 0⟩])
 (.seq (.reg 0 [⟨(some 6), (.mv (.tmp 0)), none, 0⟩, ⟨(some 7), (.mv (.tmp 1)), none, 0⟩, ⟨(some 8), (.bin .quo (.tmp 6) (.tmp 7)), none, 0⟩, ⟨(some 5), (.mv (.tmp 8)), none, 0⟩])
 (.seq (.seq (.reg 0 [⟨(some 9), (.mv (.tmp 0)), none, 0⟩, ⟨(some 10), (.mv (.tmp 1)), none, 0⟩, ⟨(some 11), (.bin .rem (.tmp 9) (.tmp 10)), none, 0⟩, ⟨(some 12), (.bin .lss (.tmp 11) (.val (.lit (.int .i64 0)))), none, 0⟩])
 (.cond (.tmp 12) (.reg 0 [⟨(some 13), (.mv (.tmp 5)), none, 0⟩, ⟨(some 14), (.bin .sub (.tmp 13) (.val (.lit (.int .i64 1)))), none, 0⟩, ⟨(some 5), (.mv (.tmp 14)), none, 0⟩]) .skip))
 (.seq (.reg 0 [⟨(some 15), (.mv (.tmp 5)), none, 0⟩, ⟨(some 4), (.mv (.tmp 15)), none, 0⟩])
 .ret))))
theorem e83 : envOf Try.prog muts 83 = some (16, c83, [(Go.Abs.ARes.tmp 4)]) := by kernel_rfl
def c86l0 : ACode :=
 (.seq (.reg 0 [⟨(some 10), (.bin .lss (.tmp 9) (.tmp 8)), none, 0⟩])
 (.seq (.cond (.tmp 10) .skip (.exit 0))
 (.seq (.block 1 (.seq (.reg 0 [⟨(some 11), (.mv (.tmp 9)), none, 0⟩, ⟨(some 12), (.iaddrS 1 (.tmp 7) (.tmp 9)), none, 0⟩, ⟨(some 13), (.load 1 false (.tmp 12)), none, 0⟩, ⟨(some 3), (.mv (.tmp 11)), none, 0⟩, ⟨(some 4), (.mv (.tmp 13)), none, 0⟩])
 (.seq (.reg 0 [⟨(some 14), (.mv (.tmp 4)), none, 0⟩, ⟨(some 15), (.bin .geq (.tmp 14) (.val (.lit (.int .u8 97)))), none, 0⟩, ⟨(some 16), (.mv (.tmp 15)), none, 0⟩, ⟨(some 17), (.mv (.tmp 4)), (some (16, true)), 0⟩, ⟨(some 18), (.bin .leq (.tmp 17) (.val (.lit (.int .u8 122)))), (some (16, true)), 0⟩, ⟨(some 19), (.pick (.tmp 16) (.tmp 18) (.val (.lit (.bool false)))), none, 0⟩, ⟨(some 20), (.mv (.tmp 19)), none, 0⟩, ⟨(some 21), (.mv (.tmp 4)), (some (20, false)), 0⟩, ⟨(some 22), (.bin .geq (.tmp 21) (.val (.lit (.int .u8 65)))), (some (20, false)), 0⟩, ⟨(some 23), (.mv (.tmp 22)), (some (20, false)), 0⟩, ⟨(some 24), (.mv (.tmp 4)), (some (23, true)), 0⟩, ⟨(some 25), (.bin .leq (.tmp 24) (.val (.lit (.int .u8 90)))), (some (23, true)), 0⟩, ⟨(some 26), (.pick (.tmp 23) (.tmp 25) (.val (.lit (.bool false)))), (some (20, false)), 0⟩, ⟨(some 27), (.pick (.tmp 20) (.val (.lit (.bool true))) (.tmp 26)), none, 0⟩, ⟨(some 5), (.mv (.tmp 27)), none, 0⟩])
 (.seq (.reg 0 [⟨(some 28), (.mv (.tmp 5)), none, 0⟩, ⟨(some 29), (.not (.tmp 28)), none, 0⟩, ⟨(some 30), (.mv (.tmp 29)), none, 0⟩, ⟨(some 31), (.mv (.tmp 3)), (some (30, true)), 0⟩, ⟨(some 32), (.bin .eql (.tmp 31) (.val (.lit (.int .i64 0)))), (some (30, true)), 0⟩, ⟨(some 33), (.mv (.tmp 32)), (some (30, true)), 0⟩, ⟨(some 34), (.mv (.tmp 4)), (some (33, false)), 0⟩, ⟨(some 35), (.bin .neq (.tmp 34) (.val (.lit (.int .u8 45)))), (some (33, false)), 0⟩, ⟨(some 36), (.mv (.tmp 35)), (some (33, false)), 0⟩, ⟨(some 37), (.mv (.tmp 4)), (some (36, true)), 0⟩, ⟨(some 38), (.bin .lss (.tmp 37) (.val (.lit (.int .u8 48)))), (some (36, true)), 0⟩, ⟨(some 39), (.mv (.tmp 38)), (some (36, true)), 0⟩, ⟨(some 40), (.mv (.tmp 4)), (some (39, false)), 0⟩, ⟨(some 41), (.bin .gtr (.tmp 40) (.val (.lit (.int .u8 57)))), (some (39, false)), 0⟩, ⟨(some 42), (.pick (.tmp 39) (.val (.lit (.bool true))) (.tmp 41)), (some (36, true)), 0⟩, ⟨(some 43), (.pick (.tmp 36) (.tmp 42) (.val (.lit (.bool false)))), (some (33, false)), 0⟩, ⟨(some 44), (.pick (.tmp 33) (.val (.lit (.bool true))) (.tmp 43)), (some (30, true)), 0⟩, ⟨(some 45), (.pick (.tmp 30) (.tmp 44) (.val (.lit (.bool false)))), none, 0⟩])
 (.cond (.tmp 45) (.seq (.reg 0 [⟨(some 2), (.mv (.val (.lit (.bool false)))), none, 0⟩])
 .ret) .skip)))))
 (.reg 0 [⟨(some 46), (.bin .add (.tmp 9) (.val (.lit (.int .i64 1)))), none, 0⟩, ⟨(some 9), (.mv (.tmp 46)), none, 0⟩]))))
def c86 : ACode :=
 (.seq (.reg 0 [⟨(some 2), (.mv (.val (.lit (.bool false)))), none, 0⟩])
 (.seq (.seq (.reg 0 [⟨(some 6), (.mv (.tmp 0)), none, 0⟩, ⟨(some 7), (.cvB (.tmp 6)), none, 0⟩, ⟨(some 8), (.len (.tmp 7)), none, 0⟩, ⟨(some 9), (.mv (.val (.lit (.int .i64 0)))), none, 0⟩])
 (.block 0 (.loop c86l0)))
 (.seq (.reg 0 [⟨(some 47), (.mv (.tmp 0)), none, 0⟩, ⟨(some 48), (.bin .neq (.tmp 47) (.val (.lit (.string ⟨#[]⟩)))), none, 0⟩, ⟨(some 49), (.mv (.tmp 48)), none, 0⟩, ⟨(some 50), (.mv (.tmp 0)), (some (49, true)), 0⟩, ⟨(some 51), (.lenS (.tmp 50)), (some (49, true)), 0⟩, ⟨(some 52), (.bin .leq (.tmp 51) (.val (.lit (.int .i64 12)))), (some (49, true)), 0⟩, ⟨(some 53), (.pick (.tmp 49) (.tmp 52) (.val (.lit (.bool false)))), none, 0⟩, ⟨(some 2), (.mv (.tmp 53)), none, 0⟩])
 .ret)))
theorem e86 : envOf Try.prog muts 86 = some (54, c86, [(Go.Abs.ARes.tmp 2)]) := by kernel_rfl
def c87 : ACode :=
 (.seq (.reg 0 [⟨(some 4), (.mv (.val (.lit (.bool false)))), none, 0⟩])
 (.seq (.seq (.reg 0 [⟨(some 5), (.mv (.tmp 0)), none, 0⟩, ⟨(some 6), (.mv (.tmp 1)), none, 0⟩, ⟨(some 7), (.mlook .str false (.bool false) (.tmp 5) (.tmp 6)), none, 0⟩])
 (.cond (.tmp 7) (.seq (.reg 0 [⟨(some 4), (.mv (.val (.lit (.bool true)))), none, 0⟩])
 .ret) .skip))
 (.seq (.reg 0 [⟨(some 8), (.mv (.tmp 0)), none, 0⟩, ⟨(some 9), (.mv (.tmp 1)), none, 0⟩, ⟨none, (.mset .str (.tmp 8) (.tmp 9) (.val (.lit (.bool true)))), none, 0⟩])
 (.seq (.reg 0 [⟨(some 4), (.mv (.val (.lit (.bool false)))), none, 0⟩])
 .ret))))
theorem e87 : envOf Try.prog muts 87 = some (10, c87, [(Go.Abs.ARes.tmp 4)]) := by kernel_rfl
def c88 : ACode :=
 (.seq (.reg 2 [⟨(some 2), (.box 1 (.tmp 0)), none, 0⟩, ⟨(some 3), (.box 3 (.tmp 1)), none, 1⟩, ⟨(some 4), (.mv (.val (.lit .nilFunc))), none, 2⟩])
 (.seq (.reg 0 [⟨(some 5), (.mkf (.func 110) [] [(.tmp 2), (.tmp 3)]), none, 0⟩, ⟨(some 4), (.mv (.tmp 5)), none, 0⟩])
 .ret))
theorem e88 : envOf Try.prog muts 88 = some (6, c88, [(Go.Abs.ARes.tmp 4)]) := by kernel_rfl
def c89l0 : ACode :=
 (.seq (.reg 0 [⟨(some 22), (.bin .lss (.tmp 21) (.tmp 20)), none, 0⟩])
 (.seq (.cond (.tmp 22) .skip (.exit 2))
 (.seq (.block 3 (.seq (.reg 0 [⟨(some 23), (.mv (.tmp 21)), none, 0⟩, ⟨(some 24), (.iaddrS 1 (.tmp 19) (.tmp 21)), none, 0⟩, ⟨(some 25), (.load 1 false (.tmp 24)), none, 0⟩, ⟨(some 10), (.mv (.tmp 23)), none, 0⟩, ⟨(some 11), (.mv (.tmp 25)), none, 0⟩])
 (.dreg 0 [(0, ⟨(some 26), (.mv (.tmp 9)), none, 0⟩), (1, ⟨(some 27), (.mv (.tmp 11)), none, 0⟩), (2, ⟨(some 28), (.faddr 0 (.tmp 4)), none, 0⟩), (3, ⟨(some 29), (.load 1 false (.tmp 28)), none, 0⟩), (4, ⟨(some 30), (.mv (.tmp 10)), none, 0⟩), (5, ⟨(some 31), (.iaddrS 1 (.tmp 29) (.tmp 30)), none, 0⟩), (6, ⟨(some 32), (.load 1 false (.tmp 31)), none, 0⟩), (7, ⟨(some 33), (.faddr 1 (.tmp 4)), none, 0⟩), (8, ⟨(some 34), (.load 1 false (.tmp 33)), none, 0⟩), (9, ⟨(some 35), (.mv (.tmp 10)), none, 0⟩), (10, ⟨(some 36), (.iaddrS 1 (.tmp 34) (.tmp 35)), none, 0⟩), (11, ⟨(some 37), (.load 1 false (.tmp 36)), none, 0⟩), (12, ⟨(some 38), (.bin .sub (.tmp 32) (.tmp 37)), none, 0⟩), (13, ⟨(some 39), (.bin .mul (.tmp 27) (.tmp 38)), none, 0⟩), (14, ⟨(some 40), (.bin .add (.tmp 26) (.tmp 39)), none, 0⟩), (15, ⟨(some 9), (.mv (.tmp 40)), none, 0⟩)] [[], [], [], [2], [], [3, 4, 2], [5, 3, 4, 2], [], [7], [], [8, 9, 7], [10, 8, 9, 7], [6, 11, 5, 3, 4, 2, 10, 8, 9, 7], [1, 12, 6, 11, 5, 3, 4, 2, 10, 8, 9, 7], [0, 13, 1, 12, 6, 11, 5, 3, 4, 2, 10, 8, 9, 7], [14, 0, 1, 2, 3, 4, 5, 6, 7, 8, 9, 10, 11, 12, 13]])))
 (.reg 0 [⟨(some 41), (.bin .add (.tmp 21) (.val (.lit (.int .i64 1)))), none, 0⟩, ⟨(some 21), (.mv (.tmp 41)), none, 0⟩]))))
def c89l1 : ACode :=
 (.seq (.reg 0 [⟨(some 15), (.bin .lss (.tmp 14) (.tmp 13)), none, 0⟩])
 (.seq (.cond (.tmp 15) .skip (.exit 0))
 (.seq (.block 1 (.seq (.reg 1 [⟨(some 16), (.iaddrS 2 (.tmp 12) (.tmp 14)), none, 0⟩, ⟨(some 17), (.load 2 true (.tmp 16)), none, 0⟩, ⟨(some 8), (.alloc [(.lit (.string ⟨#[]⟩)), (.sl true 0 [])]), none, 0⟩, ⟨none, (.store 2 (.tmp 8) (.tmp 17)), none, 1⟩])
 (.seq (.reg 0 [⟨(some 9), (.mv (.val (.lit (.int .i64 0)))), none, 0⟩])
 (.seq (.seq (.reg 0 [⟨(some 18), (.faddr 1 (.tmp 8)), none, 0⟩, ⟨(some 19), (.load 1 false (.tmp 18)), none, 0⟩, ⟨(some 20), (.len (.tmp 19)), none, 0⟩, ⟨(some 21), (.mv (.val (.lit (.int .i64 0)))), none, 0⟩])
 (.block 2 (.loop c89l0)))
 (.seq (.reg 0 [⟨(some 42), (.mv (.tmp 9)), none, 0⟩, ⟨(some 43), (.mv (.tmp 2)), none, 0⟩, ⟨(some 44), (.bin .gtr (.tmp 42) (.tmp 43)), none, 0⟩])
 (.cond (.tmp 44) (.seq (.reg 0 [⟨(some 6), (.mv (.val (.lit (.bool false)))), none, 0⟩])
 .ret) .skip))))))
 (.reg 0 [⟨(some 45), (.bin .add (.tmp 14) (.val (.lit (.int .i64 1)))), none, 0⟩, ⟨(some 14), (.mv (.tmp 45)), none, 0⟩]))))
def c89 : ACode :=
 (.seq (.reg 1 [⟨(some 4), (.box 3 (.tmp 1)), none, 0⟩, ⟨(some 6), (.mv (.val (.lit (.bool false)))), none, 1⟩])
 (.seq (.seq (.reg 0 [⟨(some 12), (.mv (.tmp 0)), none, 0⟩, ⟨(some 13), (.len (.tmp 12)), none, 0⟩, ⟨(some 14), (.mv (.val (.lit (.int .i64 0)))), none, 0⟩])
 (.block 0 (.loop c89l1)))
 (.seq (.reg 0 [⟨(some 6), (.mv (.val (.lit (.bool true)))), none, 0⟩])
 .ret)))
theorem e89 : envOf Try.prog muts 89 = some (46, c89, [(Go.Abs.ARes.tmp 6)]) := by kernel_rfl
def c90l0 : ACode :=
 (.seq (.reg 0 [⟨(some 11), (.bin .lss (.tmp 10) (.tmp 9)), none, 0⟩])
 (.seq (.cond (.tmp 11) .skip (.exit 0))
 (.seq (.block 1 (.seq (.reg 0 [⟨(some 12), (.mv (.tmp 10)), none, 0⟩, ⟨(some 6), (.mv (.tmp 12)), none, 0⟩])
 (.dreg 0 [(0, ⟨(some 13), (.mv (.tmp 5)), none, 0⟩), (1, ⟨(some 14), (.faddr 0 (.tmp 3)), none, 0⟩), (2, ⟨(some 15), (.load 1 false (.tmp 14)), none, 0⟩), (3, ⟨(some 16), (.mv (.tmp 6)), none, 0⟩), (4, ⟨(some 17), (.iaddrS 1 (.tmp 15) (.tmp 16)), none, 0⟩), (5, ⟨(some 18), (.load 1 false (.tmp 17)), none, 0⟩), (6, ⟨(some 19), (.faddr 0 (.tmp 2)), none, 0⟩), (7, ⟨(some 20), (.load 1 false (.tmp 19)), none, 0⟩), (8, ⟨(some 21), (.mv (.tmp 6)), none, 0⟩), (9, ⟨(some 22), (.iaddrS 1 (.tmp 20) (.tmp 21)), none, 0⟩), (10, ⟨(some 23), (.load 1 false (.tmp 22)), none, 0⟩), (11, ⟨(some 24), (.bin .mul (.tmp 18) (.tmp 23)), none, 0⟩), (12, ⟨(some 25), (.faddr 1 (.tmp 3)), none, 0⟩), (13, ⟨(some 26), (.load 1 false (.tmp 25)), none, 0⟩), (14, ⟨(some 27), (.mv (.tmp 6)), none, 0⟩), (15, ⟨(some 28), (.iaddrS 1 (.tmp 26) (.tmp 27)), none, 0⟩), (16, ⟨(some 29), (.load 1 false (.tmp 28)), none, 0⟩), (17, ⟨(some 30), (.faddr 1 (.tmp 2)), none, 0⟩), (18, ⟨(some 31), (.load 1 false (.tmp 30)), none, 0⟩), (19, ⟨(some 32), (.mv (.tmp 6)), none, 0⟩), (20, ⟨(some 33), (.iaddrS 1 (.tmp 31) (.tmp 32)), none, 0⟩), (21, ⟨(some 34), (.load 1 false (.tmp 33)), none, 0⟩), (22, ⟨(some 35), (.bin .mul (.tmp 29) (.tmp 34)), none, 0⟩), (23, ⟨(some 36), (.bin .sub (.tmp 24) (.tmp 35)), none, 0⟩), (24, ⟨(some 37), (.bin .add (.tmp 13) (.tmp 36)), none, 0⟩), (25, ⟨(some 5), (.mv (.tmp 37)), none, 0⟩)] [[], [], [1], [], [2, 3, 1], [4, 2, 3, 1], [], [6], [], [7, 8, 6], [9, 7, 8, 6], [5, 10, 4, 2, 3, 1, 9, 7, 8, 6], [], [12], [], [13, 14, 12], [15, 13, 14, 12], [], [17], [], [18, 19, 17], [20, 18, 19, 17], [16, 21, 15, 13, 14, 12, 20, 18, 19, 17], [11, 22, 5, 10, 4, 2, 3, 1, 9, 7, 8, 6, 16, 21, 15, 13, 14, 12, 20, 18, 19, 17], [0, 23, 11, 22, 5, 10, 4, 2, 3, 1, 9, 7, 8, 6, 16, 21, 15, 13, 14, 12, 20, 18, 19, 17], [24, 0, 1, 2, 3, 4, 5, 6, 7, 8, 9, 10, 11, 12, 13, 14, 15, 16, 17, 18, 19, 20, 21, 22, 23]])))
 (.reg 0 [⟨(some 38), (.bin .add (.tmp 10) (.val (.lit (.int .i64 1)))), none, 0⟩, ⟨(some 10), (.mv (.tmp 38)), none, 0⟩]))))
def c90 : ACode :=
 (.seq (.reg 2 [⟨(some 2), (.box 2 (.tmp 0)), none, 0⟩, ⟨(some 3), (.box 3 (.tmp 1)), none, 1⟩, ⟨(some 4), (.mv (.val (.lit (.int .i64 0)))), none, 2⟩])
 (.seq (.reg 0 [⟨(some 5), (.mv (.val (.lit (.int .i64 0)))), none, 0⟩])
 (.seq (.seq (.reg 0 [⟨(some 7), (.faddr 0 (.tmp 2)), none, 0⟩, ⟨(some 8), (.load 1 false (.tmp 7)), none, 0⟩, ⟨(some 9), (.len (.tmp 8)), none, 0⟩, ⟨(some 10), (.mv (.val (.lit (.int .i64 0)))), none, 0⟩])
 (.block 0 (.loop c90l0)))
 (.seq (.reg 0 [⟨(some 39), (.mv (.tmp 5)), none, 0⟩, ⟨(some 4), (.mv (.tmp 39)), none, 0⟩])
 .ret))))
theorem e90 : envOf Try.prog muts 90 = some (40, c90, [(Go.Abs.ARes.tmp 4)]) := by kernel_rfl
def c91l0 : ACode :=
 (.seq (.seq (.reg 0 [⟨(some 22), (.mv (.tmp 5)), none, 0⟩, ⟨(some 23), (.mv (.tmp 1)), none, 0⟩, ⟨(some 24), (.bin .lss (.tmp 22) (.tmp 23)), none, 0⟩])
 (.cond (.tmp 24) .skip (.exit 0)))
 (.seq (.block 1 (.seq (.reg 0 [⟨(some 27), (.faddr 0 (.tmp 2)), none, 0⟩, ⟨(some 28), (.load 1 false (.tmp 27)), none, 0⟩, ⟨(some 29), (.mv (.tmp 5)), none, 0⟩, ⟨(some 30), (.iaddrS 1 (.tmp 28) (.tmp 29)), none, 0⟩, ⟨(some 31), (.load 1 false (.tmp 30)), none, 0⟩, ⟨(some 32), (.call false (.val (.lit (.func (.func 15) #[] #[]))) [(.tmp 31), (.val (.lit (.int .i64 0))), (.val (.lit (.int .i64 1000000000)))]), none, 0⟩, ⟨(some 33), (.not (.tmp 32)), none, 0⟩, ⟨(some 34), (.mv (.tmp 33)), none, 0⟩, ⟨(some 35), (.faddr 1 (.tmp 2)), (some (34, false)), 0⟩, ⟨(some 36), (.load 1 false (.tmp 35)), (some (34, false)), 0⟩, ⟨(some 37), (.mv (.tmp 5)), (some (34, false)), 0⟩, ⟨(some 38), (.iaddrS 1 (.tmp 36) (.tmp 37)), (some (34, false)), 0⟩, ⟨(some 39), (.load 1 false (.tmp 38)), (some (34, false)), 0⟩, ⟨(some 40), (.call false (.val (.lit (.func (.func 15) #[] #[]))) [(.tmp 39), (.val (.lit (.int .i64 0))), (.val (.lit (.int .i64 1000000000)))]), (some (34, false)), 0⟩, ⟨(some 41), (.not (.tmp 40)), (some (34, false)), 0⟩, ⟨(some 42), (.pick (.tmp 34) (.val (.lit (.bool true))) (.tmp 41)), none, 0⟩])
 (.cond (.tmp 42) (.seq (.reg 0 [⟨(some 4), (.mv (.val (.lit (.int .i64 2)))), none, 0⟩])
 .ret) .skip)))
 (.reg 0 [⟨(some 25), (.mv (.tmp 5)), none, 0⟩, ⟨(some 26), (.bin .add (.tmp 25) (.val (.lit (.int .i64 1)))), none, 0⟩, ⟨(some 5), (.mv (.tmp 26)), none, 0⟩])))
def c91 : ACode :=
 (.seq (.reg 1 [⟨(some 2), (.box 3 (.tmp 0)), none, 0⟩, ⟨(some 4), (.mv (.val (.lit (.int .i64 0)))), none, 1⟩])
 (.seq (.seq (.reg 0 [⟨(some 6), (.faddr 0 (.tmp 2)), none, 0⟩, ⟨(some 7), (.load 1 false (.tmp 6)), none, 0⟩, ⟨(some 8), (.len (.tmp 7)), none, 0⟩, ⟨(some 9), (.mv (.tmp 1)), none, 0⟩, ⟨(some 10), (.bin .neq (.tmp 8) (.tmp 9)), none, 0⟩, ⟨(some 11), (.mv (.tmp 10)), none, 0⟩, ⟨(some 12), (.faddr 1 (.tmp 2)), (some (11, false)), 0⟩, ⟨(some 13), (.load 1 false (.tmp 12)), (some (11, false)), 0⟩, ⟨(some 14), (.len (.tmp 13)), (some (11, false)), 0⟩, ⟨(some 15), (.mv (.tmp 1)), (some (11, false)), 0⟩, ⟨(some 16), (.bin .neq (.tmp 14) (.tmp 15)), (some (11, false)), 0⟩, ⟨(some 17), (.pick (.tmp 11) (.val (.lit (.bool true))) (.tmp 16)), none, 0⟩])
 (.cond (.tmp 17) (.seq (.reg 0 [⟨(some 4), (.mv (.val (.lit (.int .i64 10)))), none, 0⟩])
 .ret) .skip))
 (.seq (.seq (.reg 0 [⟨(some 18), (.faddr 2 (.tmp 2)), none, 0⟩, ⟨(some 19), (.load 1 false (.tmp 18)), none, 0⟩, ⟨(some 20), (.call false (.val (.lit (.func (.func 15) #[] #[]))) [(.tmp 19), (.val (.lit (.int .i64 1))), (.val (.lit (.int .i64 10000000)))]), none, 0⟩, ⟨(some 21), (.not (.tmp 20)), none, 0⟩])
 (.cond (.tmp 21) (.seq (.reg 0 [⟨(some 4), (.mv (.val (.lit (.int .i64 2)))), none, 0⟩])
 .ret) .skip))
 (.seq (.seq (.reg 0 [⟨(some 5), (.mv (.val (.lit (.int .i64 0)))), none, 0⟩])
 (.block 0 (.loop c91l0)))
 (.seq (.reg 0 [⟨(some 4), (.mv (.val (.lit (.int .i64 0)))), none, 0⟩])
 .ret)))))
theorem e91 : envOf Try.prog muts 91 = some (43, c91, [(Go.Abs.ARes.tmp 4)]) := by kernel_rfl
def c92l0 : ACode :=
 (.seq (.seq (.reg 0 [⟨(some 15), (.mv (.tmp 8)), none, 0⟩, ⟨(some 16), (.faddr 0 (.tmp 3)), none, 0⟩, ⟨(some 17), (.load 1 false (.tmp 16)), none, 0⟩, ⟨(some 18), (.len (.tmp 17)), none, 0⟩, ⟨(some 19), (.bin .lss (.tmp 15) (.tmp 18)), none, 0⟩])
 (.cond (.tmp 19) .skip (.exit 2)))
 (.seq (.block 3 (.dreg 0 [(0, ⟨(some 22), (.mv (.tmp 7)), none, 0⟩), (1, ⟨(some 23), (.mv (.tmp 0)), none, 0⟩), (2, ⟨(some 24), (.mv (.tmp 6)), none, 0⟩), (3, ⟨(some 25), (.iaddrS 2 (.tmp 23) (.tmp 24)), none, 0⟩), (4, ⟨(some 26), (.faddr 1 (.tmp 25)), none, 0⟩), (5, ⟨(some 27), (.load 1 false (.tmp 26)), none, 0⟩), (6, ⟨(some 28), (.mv (.tmp 8)), none, 0⟩), (7, ⟨(some 29), (.iaddrS 1 (.tmp 27) (.tmp 28)), none, 0⟩), (8, ⟨(some 30), (.load 1 false (.tmp 29)), none, 0⟩), (9, ⟨(some 31), (.faddr 0 (.tmp 3)), none, 0⟩), (10, ⟨(some 32), (.load 1 false (.tmp 31)), none, 0⟩), (11, ⟨(some 33), (.mv (.tmp 8)), none, 0⟩), (12, ⟨(some 34), (.iaddrS 1 (.tmp 32) (.tmp 33)), none, 0⟩), (13, ⟨(some 35), (.load 1 false (.tmp 34)), none, 0⟩), (14, ⟨(some 36), (.faddr 1 (.tmp 3)), none, 0⟩), (15, ⟨(some 37), (.load 1 false (.tmp 36)), none, 0⟩), (16, ⟨(some 38), (.mv (.tmp 8)), none, 0⟩), (17, ⟨(some 39), (.iaddrS 1 (.tmp 37) (.tmp 38)), none, 0⟩), (18, ⟨(some 40), (.load 1 false (.tmp 39)), none, 0⟩), (19, ⟨(some 41), (.bin .sub (.tmp 35) (.tmp 40)), none, 0⟩), (20, ⟨(some 42), (.bin .mul (.tmp 30) (.tmp 41)), none, 0⟩), (21, ⟨(some 43), (.bin .add (.tmp 22) (.tmp 42)), none, 0⟩), (22, ⟨(some 7), (.mv (.tmp 43)), none, 0⟩)] [[], [], [], [1, 2], [3, 1, 2], [4, 3, 1, 2], [], [5, 6, 4, 3, 1, 2], [7, 5, 6, 4, 3, 1, 2], [], [9], [], [10, 11, 9], [12, 10, 11, 9], [], [14], [], [15, 16, 14], [17, 15, 16, 14], [13, 18, 12, 10, 11, 9, 17, 15, 16, 14], [8, 19, 7, 5, 6, 4, 3, 1, 2, 13, 18, 12, 10, 11, 9, 17, 15, 16, 14], [0, 20, 8, 19, 7, 5, 6, 4, 3, 1, 2, 13, 18, 12, 10, 11, 9, 17, 15, 16, 14], [21, 0, 1, 2, 3, 4, 5, 6, 7, 8, 9, 10, 11, 12, 13, 14, 15, 16, 17, 18, 19, 20]]))
 (.reg 0 [⟨(some 20), (.mv (.tmp 8)), none, 0⟩, ⟨(some 21), (.bin .add (.tmp 20) (.val (.lit (.int .i64 1)))), none, 0⟩, ⟨(some 8), (.mv (.tmp 21)), none, 0⟩])))
def c92l1 : ACode :=
 (.seq (.seq (.reg 0 [⟨(some 9), (.mv (.tmp 6)), none, 0⟩, ⟨(some 10), (.mv (.tmp 0)), none, 0⟩, ⟨(some 11), (.len (.tmp 10)), none, 0⟩, ⟨(some 12), (.bin .lss (.tmp 9) (.tmp 11)), none, 0⟩])
 (.cond (.tmp 12) .skip (.exit 0)))
 (.seq (.block 1 (.seq (.reg 0 [⟨(some 7), (.mv (.val (.lit (.int .i64 0)))), none, 0⟩])
 (.seq (.seq (.reg 0 [⟨(some 8), (.mv (.val (.lit (.int .i64 0)))), none, 0⟩])
 (.block 2 (.loop c92l0)))
 (.seq (.reg 0 [⟨(some 44), (.mv (.tmp 6)), none, 0⟩, ⟨(some 45), (.bin .eql (.tmp 44) (.val (.lit (.int .i64 0)))), none, 0⟩, ⟨(some 46), (.mv (.tmp 45)), none, 0⟩, ⟨(some 47), (.mv (.tmp 7)), (some (46, false)), 0⟩, ⟨(some 48), (.mv (.tmp 5)), (some (46, false)), 0⟩, ⟨(some 49), (.bin .gtr (.tmp 47) (.tmp 48)), (some (46, false)), 0⟩, ⟨(some 50), (.pick (.tmp 46) (.val (.lit (.bool true))) (.tmp 49)), none, 0⟩])
 (.cond (.tmp 50) (.reg 0 [⟨(some 51), (.mv (.tmp 7)), none, 0⟩, ⟨(some 5), (.mv (.tmp 51)), none, 0⟩]) .skip)))))
 (.reg 0 [⟨(some 13), (.mv (.tmp 6)), none, 0⟩, ⟨(some 14), (.bin .add (.tmp 13) (.val (.lit (.int .i64 1)))), none, 0⟩, ⟨(some 6), (.mv (.tmp 14)), none, 0⟩])))
def c92 : ACode :=
 (.seq (.reg 1 [⟨(some 3), (.box 3 (.tmp 1)), none, 0⟩, ⟨(some 4), (.mv (.val (.lit (.int .i64 0)))), none, 1⟩])
 (.seq (.reg 0 [⟨(some 5), (.mv (.val (.lit (.int .i64 0)))), none, 0⟩])
 (.seq (.seq (.reg 0 [⟨(some 6), (.mv (.val (.lit (.int .i64 0)))), none, 0⟩])
 (.block 0 (.loop c92l1)))
 (.seq (.reg 0 [⟨(some 52), (.mv (.tmp 5)), none, 0⟩, ⟨(some 4), (.mv (.tmp 52)), none, 0⟩])
 .ret))))
theorem e92 : envOf Try.prog muts 92 = some (53, c92, [(Go.Abs.ARes.tmp 4)]) := by kernel_rfl
def c93l0 : ACode :=
 (.seq (.seq (.reg 0 [⟨(some 7), (.mv (.tmp 6)), none, 0⟩, ⟨(some 8), (.faddr 0 (.tmp 3)), none, 0⟩, ⟨(some 9), (.load 1 false (.tmp 8)), none, 0⟩, ⟨(some 10), (.len (.tmp 9)), none, 0⟩, ⟨(some 11), (.bin .lss (.tmp 7) (.tmp 10)), none, 0⟩])
 (.cond (.tmp 11) .skip (.exit 0)))
 (.seq (.block 1 (.dreg 0 [(0, ⟨(some 14), (.mv (.tmp 5)), none, 0⟩), (1, ⟨(some 15), (.faddr 0 (.tmp 3)), none, 0⟩), (2, ⟨(some 16), (.load 1 false (.tmp 15)), none, 0⟩), (3, ⟨(some 17), (.mv (.tmp 6)), none, 0⟩), (4, ⟨(some 18), (.iaddrS 1 (.tmp 16) (.tmp 17)), none, 0⟩), (5, ⟨(some 19), (.load 1 false (.tmp 18)), none, 0⟩), (6, ⟨(some 20), (.faddr 0 (.tmp 2)), none, 0⟩), (7, ⟨(some 21), (.load 1 false (.tmp 20)), none, 0⟩), (8, ⟨(some 22), (.mv (.tmp 6)), none, 0⟩), (9, ⟨(some 23), (.iaddrS 1 (.tmp 21) (.tmp 22)), none, 0⟩), (10, ⟨(some 24), (.load 1 false (.tmp 23)), none, 0⟩), (11, ⟨(some 25), (.bin .mul (.tmp 19) (.tmp 24)), none, 0⟩), (12, ⟨(some 26), (.bin .add (.tmp 14) (.tmp 25)), none, 0⟩), (13, ⟨(some 27), (.faddr 1 (.tmp 3)), none, 0⟩), (14, ⟨(some 28), (.load 1 false (.tmp 27)), none, 0⟩), (15, ⟨(some 29), (.mv (.tmp 6)), none, 0⟩), (16, ⟨(some 30), (.iaddrS 1 (.tmp 28) (.tmp 29)), none, 0⟩), (17, ⟨(some 31), (.load 1 false (.tmp 30)), none, 0⟩), (18, ⟨(some 32), (.faddr 1 (.tmp 2)), none, 0⟩), (19, ⟨(some 33), (.load 1 false (.tmp 32)), none, 0⟩), (20, ⟨(some 34), (.mv (.tmp 6)), none, 0⟩), (21, ⟨(some 35), (.iaddrS 1 (.tmp 33) (.tmp 34)), none, 0⟩), (22, ⟨(some 36), (.load 1 false (.tmp 35)), none, 0⟩), (23, ⟨(some 37), (.bin .mul (.tmp 31) (.tmp 36)), none, 0⟩), (24, ⟨(some 38), (.bin .sub (.tmp 26) (.tmp 37)), none, 0⟩), (25, ⟨(some 5), (.mv (.tmp 38)), none, 0⟩)] [[], [], [1], [], [2, 3, 1], [4, 2, 3, 1], [], [6], [], [7, 8, 6], [9, 7, 8, 6], [5, 10, 4, 2, 3, 1, 9, 7, 8, 6], [0, 11, 5, 10, 4, 2, 3, 1, 9, 7, 8, 6], [], [13], [], [14, 15, 13], [16, 14, 15, 13], [], [18], [], [19, 20, 18], [21, 19, 20, 18], [17, 22, 16, 14, 15, 13, 21, 19, 20, 18], [12, 23, 0, 11, 5, 10, 4, 2, 3, 1, 9, 7, 8, 6, 17, 22, 16, 14, 15, 13, 21, 19, 20, 18], [24, 0, 1, 2, 3, 4, 5, 6, 7, 8, 9, 10, 11, 12, 13, 14, 15, 16, 17, 18, 19, 20, 21, 22, 23]]))
 (.reg 0 [⟨(some 12), (.mv (.tmp 6)), none, 0⟩, ⟨(some 13), (.bin .add (.tmp 12) (.val (.lit (.int .i64 1)))), none, 0⟩, ⟨(some 6), (.mv (.tmp 13)), none, 0⟩])))
def c93 : ACode :=
 (.seq (.reg 2 [⟨(some 2), (.box 2 (.tmp 0)), none, 0⟩, ⟨(some 3), (.box 3 (.tmp 1)), none, 1⟩, ⟨(some 4), (.mv (.val (.lit (.int .i64 0)))), none, 2⟩])
 (.seq (.reg 0 [⟨(some 5), (.mv (.val (.lit (.int .i64 0)))), none, 0⟩])
 (.seq (.seq (.reg 0 [⟨(some 6), (.mv (.val (.lit (.int .i64 0)))), none, 0⟩])
 (.block 0 (.loop c93l0)))
 (.seq (.reg 0 [⟨(some 39), (.mv (.tmp 5)), none, 0⟩, ⟨(some 4), (.mv (.tmp 39)), none, 0⟩])
 .ret))))
theorem e93 : envOf Try.prog muts 93 = some (40, c93, [(Go.Abs.ARes.tmp 4)]) := by kernel_rfl
def c99 : ACode :=
 (.seq (.reg 0 [⟨(some 2), (.mv (.val (.lit (.bool false)))), none, 0⟩])
 (.seq (.reg 0 [⟨(some 3), (.mv (.tmp 0)), none, 0⟩, ⟨(some 4), (.mv (.tmp 0)), none, 0⟩, ⟨(some 5), (.bin .neq (.tmp 3) (.tmp 4)), none, 0⟩, ⟨(some 2), (.mv (.tmp 5)), none, 0⟩])
 .ret))
theorem e99 : envOf Try.prog muts 99 = some (6, c99, [(Go.Abs.ARes.tmp 2)]) := by kernel_rfl
def c100 : ACode :=
 (.seq (.reg 0 [⟨(some 1), (.mv (.val (.lit (.int .i64 0)))), none, 0⟩])
 (.seq (.reg 0 [⟨(some 5), (.load 1 false (.tmp 0)), none, 0⟩, ⟨(some 6), (.call false (.val (.lit (.func (.func 101) #[] #[]))) [(.tmp 5)]), none, 0⟩, ⟨(some 4), (.mv (.tmp 6)), none, 0⟩, ⟨(some 7), (.ext (.tmp 4) 0), none, 0⟩, ⟨(some 8), (.ext (.tmp 4) 1), none, 0⟩, ⟨(some 2), (.mv (.tmp 7)), none, 0⟩, ⟨(some 3), (.mv (.tmp 8)), none, 0⟩])
 (.seq (.reg 0 [⟨(some 9), (.mv (.tmp 3)), none, 0⟩, ⟨(some 1), (.mv (.tmp 9)), none, 0⟩])
 .ret)))
theorem e100 : envOf Try.prog muts 100 = some (10, c100, [(Go.Abs.ARes.tmp 1)]) := by kernel_rfl
def c101l0 : ACode :=
 (.seq (.reg 0 [⟨(some 25), (.bin .lss (.tmp 24) (.tmp 23)), none, 0⟩])
 (.seq (.cond (.tmp 25) .skip (.exit 1))
 (.seq (.block 2 (.seq (.reg 1 [⟨(some 26), (.iaddrS 2 (.tmp 22) (.tmp 24)), none, 0⟩, ⟨(some 27), (.load 2 true (.tmp 26)), none, 0⟩, ⟨(some 7), (.alloc [(.lit (.string ⟨#[]⟩)), (.sl true 0 [])]), none, 0⟩, ⟨none, (.store 2 (.tmp 7) (.tmp 27)), none, 1⟩])
 (.block 3 (.seq (.reg 0 [⟨(some 29), (.faddr 0 (.tmp 7)), none, 0⟩, ⟨(some 30), (.load 1 false (.tmp 29)), none, 0⟩, ⟨(some 31), (.call false (.val (.lit (.func (.func 86) #[] #[]))) [(.tmp 30)]), none, 0⟩, ⟨(some 32), (.not (.tmp 31)), none, 0⟩, ⟨(some 28), (.mv (.tmp 32)), none, 0⟩])
 (.cond (.tmp 28) (.seq (.reg 0 [⟨(some 2), (.mv (.val (.lit (.int .i64 0)))), none, 0⟩, ⟨(some 3), (.mv (.val (.lit (.int .i64 4)))), none, 0⟩])
 .ret) (.seq (.reg 0 [⟨(some 34), (.mv (.tmp 5)), none, 0⟩, ⟨(some 35), (.faddr 0 (.tmp 7)), none, 0⟩, ⟨(some 36), (.load 1 false (.tmp 35)), none, 0⟩, ⟨(some 37), (.call true (.val (.lit (.func (.func 87) #[] #[]))) [(.tmp 34), (.tmp 36)]), none, 0⟩, ⟨(some 33), (.mv (.tmp 37)), none, 0⟩])
 (.cond (.tmp 33) (.seq (.reg 0 [⟨(some 2), (.mv (.val (.lit (.int .i64 0)))), none, 0⟩, ⟨(some 3), (.mv (.val (.lit (.int .i64 5)))), none, 0⟩])
 .ret) (.seq (.reg 0 [⟨(some 39), (.faddr 1 (.tmp 7)), none, 0⟩, ⟨(some 40), (.load 1 false (.tmp 39)), none, 0⟩, ⟨(some 41), (.len (.tmp 40)), none, 0⟩, ⟨(some 42), (.mv (.tmp 4)), none, 0⟩, ⟨(some 43), (.bin .neq (.tmp 41) (.tmp 42)), none, 0⟩, ⟨(some 44), (.mv (.tmp 43)), none, 0⟩, ⟨(some 45), (.mv (.tmp 4)), (some (44, false)), 0⟩, ⟨(some 46), (.call false (.val (.lit (.func (.func 80) #[] #[]))) [(.tmp 45), (.val (.lit (.int .i64 1))), (.val (.lit (.int .i64 40)))]), (some (44, false)), 0⟩, ⟨(some 47), (.not (.tmp 46)), (some (44, false)), 0⟩, ⟨(some 48), (.pick (.tmp 44) (.val (.lit (.bool true))) (.tmp 47)), none, 0⟩, ⟨(some 38), (.mv (.tmp 48)), none, 0⟩])
 (.cond (.tmp 38) (.seq (.reg 0 [⟨(some 2), (.mv (.val (.lit (.int .i64 0)))), none, 0⟩, ⟨(some 3), (.mv (.val (.lit (.int .i64 10)))), none, 0⟩])
 .ret) (.seq (.reg 0 [⟨(some 50), (.faddr 1 (.tmp 7)), none, 0⟩, ⟨(some 51), (.load 1 false (.tmp 50)), none, 0⟩, ⟨(some 52), (.call true (.val (.lit (.func (.func 107) #[] #[]))) [(.tmp 51), (.val (.lit (.func (.func 113) #[] #[])))]), none, 0⟩, ⟨(some 49), (.mv (.tmp 52)), none, 0⟩])
 (.cond (.tmp 49) (.seq (.reg 0 [⟨(some 2), (.mv (.val (.lit (.int .i64 0)))), none, 0⟩, ⟨(some 3), (.mv (.val (.lit (.int .i64 2)))), none, 0⟩])
 .ret) .skip)))))))))))
 (.reg 0 [⟨(some 53), (.bin .add (.tmp 24) (.val (.lit (.int .i64 1)))), none, 0⟩, ⟨(some 24), (.mv (.tmp 53)), none, 0⟩]))))
def c101 : ACode :=
 (.seq (.reg 0 [⟨(some 2), (.mv (.val (.lit (.int .i64 0)))), none, 0⟩, ⟨(some 3), (.mv (.val (.lit (.int .i64 0)))), none, 0⟩])
 (.seq (.block 0 (.seq (.reg 0 [⟨(some 9), (.mv (.tmp 0)), none, 0⟩, ⟨(some 10), (.len (.tmp 9)), none, 0⟩, ⟨(some 11), (.bin .eql (.tmp 10) (.val (.lit (.int .i64 0)))), none, 0⟩, ⟨(some 8), (.mv (.tmp 11)), none, 0⟩])
 (.cond (.tmp 8) (.seq (.reg 0 [⟨(some 2), (.mv (.val (.lit (.int .i64 0)))), none, 0⟩, ⟨(some 3), (.mv (.val (.lit (.int .i64 10)))), none, 0⟩])
 .ret) (.seq (.reg 0 [⟨(some 13), (.mv (.tmp 0)), none, 0⟩, ⟨(some 14), (.len (.tmp 13)), none, 0⟩, ⟨(some 15), (.bin .gtr (.tmp 14) (.val (.lit (.int .i64 12)))), none, 0⟩, ⟨(some 12), (.mv (.tmp 15)), none, 0⟩])
 (.cond (.tmp 12) (.seq (.reg 0 [⟨(some 2), (.mv (.val (.lit (.int .i64 0)))), none, 0⟩, ⟨(some 3), (.mv (.val (.lit (.int .i64 8)))), none, 0⟩])
 .ret) .skip)))))
 (.seq (.reg 0 [⟨(some 16), (.mv (.tmp 0)), none, 0⟩, ⟨(some 17), (.iaddrS 2 (.tmp 16) (.val (.lit (.int .i64 0)))), none, 0⟩, ⟨(some 18), (.faddr 1 (.tmp 17)), none, 0⟩, ⟨(some 19), (.load 1 false (.tmp 18)), none, 0⟩, ⟨(some 20), (.len (.tmp 19)), none, 0⟩, ⟨(some 4), (.mv (.tmp 20)), none, 0⟩])
 (.seq (.reg 1 [⟨(some 21), (.mkmap .str), none, 0⟩, ⟨(some 5), (.mv (.tmp 21)), none, 1⟩])
 (.seq (.seq (.reg 0 [⟨(some 22), (.mv (.tmp 0)), none, 0⟩, ⟨(some 23), (.len (.tmp 22)), none, 0⟩, ⟨(some 24), (.mv (.val (.lit (.int .i64 0)))), none, 0⟩])
 (.block 1 (.loop c101l0)))
 (.seq (.reg 0 [⟨(some 54), (.mv (.tmp 4)), none, 0⟩, ⟨(some 2), (.mv (.tmp 54)), none, 0⟩, ⟨(some 3), (.mv (.val (.lit (.int .i64 0)))), none, 0⟩])
 .ret))))))
theorem e101 : envOf Try.prog muts 101 = some (55, c101, [(Go.Abs.ARes.tmp 2), (Go.Abs.ARes.tmp 3)]) := by kernel_rfl
def c105l0 : ACode :=
 (.seq (.reg 0 [⟨(some 27), (.bin .lss (.tmp 26) (.tmp 25)), none, 0⟩])
 (.seq (.cond (.tmp 27) .skip (.exit 0))
 (.seq (.block 1 (.seq (.reg 0 [⟨(some 28), (.mv (.tmp 26)), none, 0⟩, ⟨(some 29), (.iaddrS 1 (.tmp 24) (.tmp 26)), none, 0⟩, ⟨(some 30), (.load 1 false (.tmp 29)), none, 0⟩, ⟨(some 4), (.mv (.tmp 28)), none, 0⟩, ⟨(some 5), (.mv (.tmp 30)), none, 0⟩])
 (.block 2 (.seq (.reg 0 [⟨(some 32), (.mv (.tmp 5)), none, 0⟩, ⟨(some 33), (.call false (.val (.lit (.func (.func 80) #[] #[]))) [(.tmp 32), (.val (.lit (.int .i64 0))), (.val (.lit (.int .i64 10000)))]), none, 0⟩, ⟨(some 34), (.not (.tmp 33)), none, 0⟩, ⟨(some 35), (.mv (.tmp 34)), none, 0⟩, ⟨(some 36), (.faddr 1 (.tmp 1)), (some (35, false)), 0⟩, ⟨(some 37), (.load 1 false (.tmp 36)), (some (35, false)), 0⟩, ⟨(some 38), (.mv (.tmp 4)), (some (35, false)), 0⟩, ⟨(some 39), (.iaddrS 1 (.tmp 37) (.tmp 38)), (some (35, false)), 0⟩, ⟨(some 40), (.load 1 false (.tmp 39)), (some (35, false)), 0⟩, ⟨(some 41), (.call false (.val (.lit (.func (.func 80) #[] #[]))) [(.tmp 40), (.val (.lit (.int .i64 0))), (.val (.lit (.int .i64 10000)))]), (some (35, false)), 0⟩, ⟨(some 42), (.not (.tmp 41)), (some (35, false)), 0⟩, ⟨(some 43), (.pick (.tmp 35) (.val (.lit (.bool true))) (.tmp 42)), none, 0⟩, ⟨(some 31), (.mv (.tmp 43)), none, 0⟩])
 (.cond (.tmp 31) (.seq (.reg 0 [⟨(some 2), (.mv (.val (.lit (.int .i64 2)))), none, 0⟩])
 .ret) (.seq (.reg 0 [⟨(some 45), (.faddr 1 (.tmp 1)), none, 0⟩, ⟨(some 46), (.load 1 false (.tmp 45)), none, 0⟩, ⟨(some 47), (.mv (.tmp 4)), none, 0⟩, ⟨(some 48), (.iaddrS 1 (.tmp 46) (.tmp 47)), none, 0⟩, ⟨(some 49), (.load 1 false (.tmp 48)), none, 0⟩, ⟨(some 50), (.mv (.tmp 5)), none, 0⟩, ⟨(some 51), (.bin .lss (.tmp 49) (.tmp 50)), none, 0⟩, ⟨(some 44), (.mv (.tmp 51)), none, 0⟩])
 (.cond (.tmp 44) (.seq (.reg 0 [⟨(some 2), (.mv (.val (.lit (.int .i64 9)))), none, 0⟩])
 .ret) .skip)))))))
 (.reg 0 [⟨(some 52), (.bin .add (.tmp 26) (.val (.lit (.int .i64 1)))), none, 0⟩, ⟨(some 26), (.mv (.tmp 52)), none, 0⟩]))))
def c105 : ACode :=
 (.seq (.reg 0 [⟨(some 2), (.mv (.val (.lit (.int .i64 0)))), none, 0⟩])
 (.seq (.seq (.reg 0 [⟨(some 6), (.load 1 false (.tmp 0)), none, 0⟩, ⟨(some 7), (.iaddrS 2 (.tmp 6) (.val (.lit (.int .i64 0)))), none, 0⟩, ⟨(some 8), (.faddr 1 (.tmp 7)), none, 0⟩, ⟨(some 9), (.load 1 false (.tmp 8)), none, 0⟩, ⟨(some 10), (.len (.tmp 9)), none, 0⟩, ⟨(some 3), (.mv (.tmp 10)), none, 0⟩])
 (.seq (.reg 0 [⟨(some 11), (.faddr 0 (.tmp 1)), none, 0⟩, ⟨(some 12), (.load 1 false (.tmp 11)), none, 0⟩, ⟨(some 13), (.len (.tmp 12)), none, 0⟩, ⟨(some 14), (.mv (.tmp 3)), none, 0⟩, ⟨(some 15), (.bin .neq (.tmp 13) (.tmp 14)), none, 0⟩, ⟨(some 16), (.mv (.tmp 15)), none, 0⟩, ⟨(some 17), (.faddr 1 (.tmp 1)), (some (16, false)), 0⟩, ⟨(some 18), (.load 1 false (.tmp 17)), (some (16, false)), 0⟩, ⟨(some 19), (.len (.tmp 18)), (some (16, false)), 0⟩, ⟨(some 20), (.mv (.tmp 3)), (some (16, false)), 0⟩, ⟨(some 21), (.bin .neq (.tmp 19) (.tmp 20)), (some (16, false)), 0⟩, ⟨(some 22), (.pick (.tmp 16) (.val (.lit (.bool true))) (.tmp 21)), none, 0⟩])
 (.cond (.tmp 22) (.seq (.reg 0 [⟨(some 2), (.mv (.val (.lit (.int .i64 10)))), none, 0⟩])
 .ret) .skip)))
 (.seq (.seq (.reg 0 [⟨(some 23), (.faddr 0 (.tmp 1)), none, 0⟩, ⟨(some 24), (.load 1 false (.tmp 23)), none, 0⟩, ⟨(some 25), (.len (.tmp 24)), none, 0⟩, ⟨(some 26), (.mv (.val (.lit (.int .i64 0)))), none, 0⟩])
 (.block 0 (.loop c105l0)))
 (.seq (.reg 0 [⟨(some 2), (.mv (.val (.lit (.int .i64 0)))), none, 0⟩])
 .ret))))
theorem e105 : envOf Try.prog muts 105 = some (53, c105, [(Go.Abs.ARes.tmp 2)]) := by kernel_rfl
def c106 : ACode :=
 (.seq (.reg 0 [⟨(some 2), (.mv (.val (.lit (.int .i64 0)))), none, 0⟩])
 (.seq (.block 0 (.seq (.reg 0 [⟨(some 4), (.faddr 0 (.tmp 0)), none, 0⟩, ⟨(some 5), (.load 1 false (.tmp 4)), none, 0⟩, ⟨(some 6), (.len (.tmp 5)), none, 0⟩, ⟨(some 7), (.load 1 false (.tmp 1)), none, 0⟩, ⟨(some 8), (.len (.tmp 7)), none, 0⟩, ⟨(some 9), (.bin .neq (.tmp 6) (.tmp 8)), none, 0⟩, ⟨(some 3), (.mv (.tmp 9)), none, 0⟩])
 (.cond (.tmp 3) (.seq (.reg 0 [⟨(some 2), (.mv (.val (.lit (.int .i64 10)))), none, 0⟩])
 .ret) (.seq (.reg 0 [⟨(some 11), (.faddr 1 (.tmp 0)), none, 0⟩, ⟨(some 12), (.load 1 false (.tmp 11)), none, 0⟩, ⟨(some 13), (.call false (.val (.lit (.func (.func 80) #[] #[]))) [(.tmp 12), (.val (.lit (.int .i64 1))), (.val (.lit (.int .i64 10000000)))]), none, 0⟩, ⟨(some 14), (.not (.tmp 13)), none, 0⟩, ⟨(some 15), (.mv (.tmp 14)), none, 0⟩, ⟨(some 16), (.faddr 0 (.tmp 0)), (some (15, false)), 0⟩, ⟨(some 17), (.load 1 false (.tmp 16)), (some (15, false)), 0⟩, ⟨(some 18), (.call true (.val (.lit (.func (.func 107) #[] #[]))) [(.tmp 17), (.val (.lit (.func (.func 108) #[] #[])))]), (some (15, false)), 0⟩, ⟨(some 19), (.pick (.tmp 15) (.val (.lit (.bool true))) (.tmp 18)), none, 0⟩, ⟨(some 10), (.mv (.tmp 19)), none, 0⟩])
 (.cond (.tmp 10) (.seq (.reg 0 [⟨(some 2), (.mv (.val (.lit (.int .i64 2)))), none, 0⟩])
 .ret) .skip)))))
 (.seq (.reg 0 [⟨(some 2), (.mv (.val (.lit (.int .i64 0)))), none, 0⟩])
 .ret)))
theorem e106 : envOf Try.prog muts 106 = some (20, c106, [(Go.Abs.ARes.tmp 2)]) := by kernel_rfl
def c107 : ACode :=
 (.seq (.reg 0 [⟨(some 4), (.mv (.val (.lit (.bool false)))), none, 0⟩])
 (.seq (.reg 0 [⟨(some 5), (.mv (.tmp 0)), none, 0⟩, ⟨(some 6), (.mv (.tmp 1)), none, 0⟩, ⟨(some 7), (.call true (.val (.lit (.func (.func 116) #[] #[]))) [(.tmp 5), (.tmp 6)]), none, 0⟩, ⟨(some 8), (.bin .geq (.tmp 7) (.val (.lit (.int .i64 0)))), none, 0⟩, ⟨(some 4), (.mv (.tmp 8)), none, 0⟩])
 .ret))
theorem e107 : envOf Try.prog muts 107 = some (9, c107, [(Go.Abs.ARes.tmp 4)]) := by kernel_rfl
def c108 : ACode :=
 (.seq (.reg 0 [⟨(some 2), (.mv (.val (.lit (.bool false)))), none, 0⟩])
 (.seq (.reg 0 [⟨(some 3), (.mv (.tmp 0)), none, 0⟩, ⟨(some 4), (.call false (.val (.lit (.func (.func 109) #[] #[]))) [(.tmp 3)]), none, 0⟩, ⟨(some 5), (.not (.tmp 4)), none, 0⟩, ⟨(some 2), (.mv (.tmp 5)), none, 0⟩])
 .ret))
theorem e108 : envOf Try.prog muts 108 = some (6, c108, [(Go.Abs.ARes.tmp 2)]) := by kernel_rfl
def c109 : ACode :=
 (.seq (.reg 0 [⟨(some 2), (.mv (.val (.lit (.bool false)))), none, 0⟩])
 (.seq (.reg 0 [⟨(some 3), (.mv (.tmp 0)), none, 0⟩, ⟨(some 4), (.call false (.val (.lit (.func (.func 80) #[] #[]))) [(.tmp 3), (.val (.lit (.int .i64 0))), (.val (.lit (.int .i64 1000000000)))]), none, 0⟩, ⟨(some 2), (.mv (.tmp 4)), none, 0⟩])
 .ret))
theorem e109 : envOf Try.prog muts 109 = some (5, c109, [(Go.Abs.ARes.tmp 2)]) := by kernel_rfl
def c110l0 : ACode :=
 (.seq (.reg 0 [⟨(some 30), (.bin .lss (.tmp 29) (.tmp 28)), none, 0⟩])
 (.seq (.cond (.tmp 30) .skip (.exit 1))
 (.seq (.block 2 (.seq (.reg 0 [⟨(some 31), (.mv (.tmp 29)), none, 0⟩, ⟨(some 4), (.mv (.tmp 31)), none, 0⟩])
 (.seq (.reg 0 [⟨(some 32), (.faddr 0 (.tmp 1)), none, 0⟩, ⟨(some 33), (.load 1 false (.tmp 32)), none, 0⟩, ⟨(some 34), (.mv (.tmp 4)), none, 0⟩, ⟨(some 35), (.iaddrS 1 (.tmp 33) (.tmp 34)), none, 0⟩, ⟨(some 36), (.load 1 false (.tmp 35)), none, 0⟩, ⟨(some 37), (.call false (.val (.lit (.func (.func 109) #[] #[]))) [(.tmp 36)]), none, 0⟩, ⟨(some 38), (.not (.tmp 37)), none, 0⟩, ⟨(some 39), (.mv (.tmp 38)), none, 0⟩, ⟨(some 40), (.faddr 1 (.tmp 1)), (some (39, false)), 0⟩, ⟨(some 41), (.load 1 false (.tmp 40)), (some (39, false)), 0⟩, ⟨(some 42), (.mv (.tmp 4)), (some (39, false)), 0⟩, ⟨(some 43), (.iaddrS 1 (.tmp 41) (.tmp 42)), (some (39, false)), 0⟩, ⟨(some 44), (.load 1 false (.tmp 43)), (some (39, false)), 0⟩, ⟨(some 45), (.call false (.val (.lit (.func (.func 109) #[] #[]))) [(.tmp 44)]), (some (39, false)), 0⟩, ⟨(some 46), (.not (.tmp 45)), (some (39, false)), 0⟩, ⟨(some 47), (.pick (.tmp 39) (.val (.lit (.bool true))) (.tmp 46)), none, 0⟩])
 (.cond (.tmp 47) (.seq (.reg 0 [⟨(some 2), (.mv (.val (.lit (.int .i64 2)))), none, 0⟩])
 .ret) .skip))))
 (.reg 0 [⟨(some 48), (.bin .add (.tmp 29) (.val (.lit (.int .i64 1)))), none, 0⟩, ⟨(some 29), (.mv (.tmp 48)), none, 0⟩]))))
def c110 : ACode :=
 (.seq (.reg 0 [⟨(some 2), (.mv (.val (.lit (.int .i64 0)))), none, 0⟩])
 (.seq (.reg 0 [⟨(some 5), (.load 1 false (.tmp 0)), none, 0⟩, ⟨(some 6), (.iaddrS 2 (.tmp 5) (.val (.lit (.int .i64 0)))), none, 0⟩, ⟨(some 7), (.faddr 1 (.tmp 6)), none, 0⟩, ⟨(some 8), (.load 1 false (.tmp 7)), none, 0⟩, ⟨(some 9), (.len (.tmp 8)), none, 0⟩, ⟨(some 3), (.mv (.tmp 9)), none, 0⟩])
 (.seq (.block 0 (.seq (.reg 0 [⟨(some 11), (.faddr 0 (.tmp 1)), none, 0⟩, ⟨(some 12), (.load 1 false (.tmp 11)), none, 0⟩, ⟨(some 13), (.len (.tmp 12)), none, 0⟩, ⟨(some 14), (.mv (.tmp 3)), none, 0⟩, ⟨(some 15), (.bin .neq (.tmp 13) (.tmp 14)), none, 0⟩, ⟨(some 16), (.mv (.tmp 15)), none, 0⟩, ⟨(some 17), (.faddr 1 (.tmp 1)), (some (16, false)), 0⟩, ⟨(some 18), (.load 1 false (.tmp 17)), (some (16, false)), 0⟩, ⟨(some 19), (.len (.tmp 18)), (some (16, false)), 0⟩, ⟨(some 20), (.mv (.tmp 3)), (some (16, false)), 0⟩, ⟨(some 21), (.bin .neq (.tmp 19) (.tmp 20)), (some (16, false)), 0⟩, ⟨(some 22), (.pick (.tmp 16) (.val (.lit (.bool true))) (.tmp 21)), none, 0⟩, ⟨(some 10), (.mv (.tmp 22)), none, 0⟩])
 (.cond (.tmp 10) (.seq (.reg 0 [⟨(some 2), (.mv (.val (.lit (.int .i64 10)))), none, 0⟩])
 .ret) (.seq (.reg 0 [⟨(some 24), (.faddr 2 (.tmp 1)), none, 0⟩, ⟨(some 25), (.load 1 false (.tmp 24)), none, 0⟩, ⟨(some 26), (.call false (.val (.lit (.func (.func 80) #[] #[]))) [(.tmp 25), (.val (.lit (.int .i64 1))), (.val (.lit (.int .i64 10000000)))]), none, 0⟩, ⟨(some 27), (.not (.tmp 26)), none, 0⟩, ⟨(some 23), (.mv (.tmp 27)), none, 0⟩])
 (.cond (.tmp 23) (.seq (.reg 0 [⟨(some 2), (.mv (.val (.lit (.int .i64 2)))), none, 0⟩])
 .ret) .skip)))))
 (.seq (.seq (.reg 0 [⟨(some 28), (.mv (.tmp 3)), none, 0⟩, ⟨(some 29), (.mv (.val (.lit (.int .i64 0)))), none, 0⟩])
 (.block 1 (.loop c110l0)))
 (.seq (.reg 0 [⟨(some 2), (.mv (.val (.lit (.int .i64 0)))), none, 0⟩])
 .ret)))))
theorem e110 : envOf Try.prog muts 110 = some (49, c110, [(Go.Abs.ARes.tmp 2)]) := by kernel_rfl
def c113 : ACode :=
 (.seq (.reg 0 [⟨(some 2), (.mv (.val (.lit (.bool false)))), none, 0⟩])
 (.seq (.reg 0 [⟨(some 3), (.mv (.tmp 0)), none, 0⟩, ⟨(some 4), (.call false (.val (.lit (.func (.func 80) #[] #[]))) [(.tmp 3), (.val (.lit (.int .i64 0))), (.val (.lit (.int .i64 100)))]), none, 0⟩, ⟨(some 5), (.not (.tmp 4)), none, 0⟩, ⟨(some 2), (.mv (.tmp 5)), none, 0⟩])
 .ret))
theorem e113 : envOf Try.prog muts 113 = some (6, c113, [(Go.Abs.ARes.tmp 2)]) := by kernel_rfl
def c116l0 : ACode :=
 (.seq (.reg 0 [⟨(some 9), (.bin .lss (.tmp 8) (.tmp 7)), none, 0⟩])
 (.seq (.cond (.tmp 9) .skip (.exit 0))
 (.seq (.block 1 (.seq (.reg 0 [⟨(some 10), (.mv (.tmp 8)), none, 0⟩, ⟨(some 5), (.mv (.tmp 10)), none, 0⟩])
 (.seq (.reg 0 [⟨(some 11), (.mv (.tmp 1)), none, 0⟩, ⟨(some 12), (.mv (.tmp 0)), none, 0⟩, ⟨(some 13), (.mv (.tmp 5)), none, 0⟩, ⟨(some 14), (.iaddrS 1 (.tmp 12) (.tmp 13)), none, 0⟩, ⟨(some 15), (.load 1 false (.tmp 14)), none, 0⟩, ⟨(some 16), (.call true (.tmp 11) [(.tmp 15)]), none, 0⟩])
 (.cond (.tmp 16) (.seq (.reg 0 [⟨(some 17), (.mv (.tmp 5)), none, 0⟩, ⟨(some 4), (.mv (.tmp 17)), none, 0⟩])
 .ret) .skip))))
 (.reg 0 [⟨(some 18), (.bin .add (.tmp 8) (.val (.lit (.int .i64 1)))), none, 0⟩, ⟨(some 8), (.mv (.tmp 18)), none, 0⟩]))))
def c116 : ACode :=
 (.seq (.reg 0 [⟨(some 4), (.mv (.val (.lit (.int .i64 0)))), none, 0⟩])
 (.seq (.seq (.reg 0 [⟨(some 6), (.mv (.tmp 0)), none, 0⟩, ⟨(some 7), (.len (.tmp 6)), none, 0⟩, ⟨(some 8), (.mv (.val (.lit (.int .i64 0)))), none, 0⟩])
 (.block 0 (.loop c116l0)))
 (.seq (.reg 0 [⟨(some 4), (.mv (.val (.lit (.int .i64 (-1))))), none, 0⟩])
 .ret)))
theorem e116 : envOf Try.prog muts 116 = some (19, c116, [(Go.Abs.ARes.tmp 4)]) := by kernel_rfl
end Go.Abs
