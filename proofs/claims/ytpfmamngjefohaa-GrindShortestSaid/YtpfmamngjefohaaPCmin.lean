import Derived.Test.YtpfmamngjefohaaAbs21
import Derived.KernelRfl
import Derived.Test.YtpfmamngjefohaaProg
set_option linter.all false
set_option linter.unusedVariables false
set_option linter.unusedSimpArgs false
set_option linter.unusedSectionVars false
/- The code of the functions that are walked, as the machine of these texts has it. -/
namespace Go.Abs
open Go.Proofs
abbrev muts : List FuncId := []
def c3 : ACode :=
 (.seq (.reg 2 [⟨(some 4), (.box 2 (.tmp 1)), none, 0⟩, ⟨(some 5), (.box 2 (.tmp 2)), none, 1⟩, ⟨(some 6), (.mv (.val (.lit (.bool false)))), none, 2⟩])
 (.seq (.seq (.reg 0 [⟨(some 16), (.call false (.val (.lit (.func (.func 13) #[] #[]))) []), none, 0⟩, ⟨(some 17), (.not (.tmp 16)), none, 0⟩])
 (.cond (.tmp 17) (.seq (.reg 0 [⟨(some 6), (.mv (.val (.lit (.bool false)))), none, 0⟩])
 .ret) .skip))
 (.seq (.seq (.reg 0 [⟨(some 18), (.mv (.tmp 0)), none, 0⟩, ⟨(some 19), (.len (.tmp 18)), none, 0⟩, ⟨(some 20), (.bin .gtr (.tmp 19) (.val (.lit (.int .i64 6)))), none, 0⟩, ⟨(some 21), (.mv (.tmp 20)), none, 0⟩, ⟨(some 22), (.mv (.tmp 0)), (some (21, false)), 0⟩, ⟨(some 23), (.call false (.val (.lit (.func (.func 14) #[] #[]))) [(.tmp 22)]), (some (21, false)), 0⟩, ⟨(some 24), (.not (.tmp 23)), (some (21, false)), 0⟩, ⟨(some 25), (.pick (.tmp 21) (.val (.lit (.bool true))) (.tmp 24)), none, 0⟩, ⟨(some 26), (.mv (.tmp 25)), none, 0⟩, ⟨(some 27), (.iaddrA 2 1 (.tmp 5) (.val (.lit (.int .i64 0)))), (some (26, false)), 0⟩, ⟨(some 28), (.load 1 false (.tmp 27)), (some (26, false)), 0⟩, ⟨(some 29), (.call false (.val (.lit (.func (.func 15) #[] #[]))) [(.tmp 28), (.val (.lit (.int .i64 0))), (.val (.lit (.int .i64 1000)))]), (some (26, false)), 0⟩, ⟨(some 30), (.not (.tmp 29)), (some (26, false)), 0⟩, ⟨(some 31), (.pick (.tmp 26) (.val (.lit (.bool true))) (.tmp 30)), none, 0⟩, ⟨(some 32), (.mv (.tmp 31)), none, 0⟩, ⟨(some 33), (.iaddrA 2 1 (.tmp 5) (.val (.lit (.int .i64 1)))), (some (32, false)), 0⟩, ⟨(some 34), (.load 1 false (.tmp 33)), (some (32, false)), 0⟩, ⟨(some 35), (.call false (.val (.lit (.func (.func 15) #[] #[]))) [(.tmp 34), (.val (.lit (.int .i64 0))), (.val (.lit (.int .i64 1000)))]), (some (32, false)), 0⟩, ⟨(some 36), (.not (.tmp 35)), (some (32, false)), 0⟩, ⟨(some 37), (.pick (.tmp 32) (.val (.lit (.bool true))) (.tmp 36)), none, 0⟩, ⟨(some 38), (.mv (.tmp 37)), none, 0⟩, ⟨(some 39), (.iaddrA 2 1 (.tmp 4) (.val (.lit (.int .i64 0)))), (some (38, false)), 0⟩, ⟨(some 40), (.load 1 false (.tmp 39)), (some (38, false)), 0⟩, ⟨(some 41), (.call false (.val (.lit (.func (.func 15) #[] #[]))) [(.tmp 40), (.val (.lit (.int .i64 0))), (.val (.lit (.int .i64 1000000)))]), (some (38, false)), 0⟩, ⟨(some 42), (.not (.tmp 41)), (some (38, false)), 0⟩, ⟨(some 43), (.pick (.tmp 38) (.val (.lit (.bool true))) (.tmp 42)), none, 0⟩, ⟨(some 44), (.mv (.tmp 43)), none, 0⟩, ⟨(some 45), (.iaddrA 2 1 (.tmp 4) (.val (.lit (.int .i64 1)))), (some (44, false)), 0⟩, ⟨(some 46), (.load 1 false (.tmp 45)), (some (44, false)), 0⟩, ⟨(some 47), (.call false (.val (.lit (.func (.func 15) #[] #[]))) [(.tmp 46), (.val (.lit (.int .i64 0))), (.val (.lit (.int .i64 1000000)))]), (some (44, false)), 0⟩, ⟨(some 48), (.not (.tmp 47)), (some (44, false)), 0⟩, ⟨(some 49), (.pick (.tmp 44) (.val (.lit (.bool true))) (.tmp 48)), none, 0⟩])
 (.cond (.tmp 49) (.seq (.reg 0 [⟨(some 6), (.mv (.val (.lit (.bool true)))), none, 0⟩])
 .ret) .skip))
 (.seq (.dreg 0 [(0, ⟨(some 51), (.mv (.tmp 0)), none, 0⟩), (1, ⟨(some 52), (.call false (.val (.lit (.func (.func 17) #[] #[]))) [(.tmp 51)]), none, 0⟩), (2, ⟨(some 53), (.load 2 true (.tmp 4)), none, 0⟩), (3, ⟨(some 54), (.call false (.val (.lit (.func (.func 16) #[] #[]))) [(.tmp 52), (.tmp 53)]), none, 0⟩), (4, ⟨(some 50), (.mv (.tmp 54)), none, 0⟩), (5, ⟨(some 55), (.ext (.tmp 50) 0), none, 0⟩), (6, ⟨(some 56), (.ext (.tmp 50) 1), none, 0⟩), (7, ⟨(some 57), (.ext (.tmp 50) 2), none, 0⟩), (8, ⟨(some 7), (.mv (.tmp 55)), none, 0⟩), (9, ⟨(some 8), (.mv (.tmp 56)), none, 0⟩), (10, ⟨(some 9), (.mv (.tmp 57)), none, 0⟩)] [[], [0], [], [1, 2, 0], [3, 1, 2, 0], [4, 3, 1, 2, 0], [4, 3, 1, 2, 0], [4, 3, 1, 2, 0], [5, 3, 0, 1, 2, 4], [6, 8, 0, 1, 2, 3, 4, 5], [7, 9, 0, 1, 2, 3, 4, 5, 6, 8]])
 (.seq (.seq (.reg 0 [⟨(some 58), (.mv (.tmp 9)), none, 0⟩, ⟨(some 59), (.bin .neq (.tmp 58) (.val (.lit (.int .i64 0)))), none, 0⟩, ⟨(some 60), (.mv (.tmp 59)), none, 0⟩, ⟨(some 61), (.mv (.tmp 9)), (some (60, true)), 0⟩, ⟨(some 62), (.bin .neq (.tmp 61) (.val (.lit (.int .i64 12)))), (some (60, true)), 0⟩, ⟨(some 63), (.pick (.tmp 60) (.tmp 62) (.val (.lit (.bool false)))), none, 0⟩])
 (.cond (.tmp 63) (.seq (.reg 0 [⟨(some 6), (.mv (.val (.lit (.bool true)))), none, 0⟩])
 .ret) .skip))
 (.seq (.dreg 0 [(0, ⟨(some 65), (.mv (.tmp 0)), none, 0⟩), (1, ⟨(some 66), (.call false (.val (.lit (.func (.func 17) #[] #[]))) [(.tmp 65)]), none, 0⟩), (2, ⟨(some 67), (.iaddrA 2 1 (.tmp 4) (.val (.lit (.int .i64 0)))), none, 0⟩), (3, ⟨(some 68), (.load 1 false (.tmp 67)), none, 0⟩), (4, ⟨(some 69), (.iaddrA 2 1 (.tmp 5) (.val (.lit (.int .i64 0)))), none, 0⟩), (5, ⟨(some 70), (.load 1 false (.tmp 69)), none, 0⟩), (6, ⟨(some 71), (.bin .add (.tmp 68) (.tmp 70)), none, 0⟩), (7, ⟨(some 72), (.minmax false [(.val (.lit (.int .i64 1000000))), (.tmp 71)]), none, 0⟩), (8, ⟨(some 73), (.iaddrA 2 1 (.tmp 4) (.val (.lit (.int .i64 1)))), none, 0⟩), (9, ⟨(some 74), (.load 1 false (.tmp 73)), none, 0⟩), (10, ⟨(some 75), (.iaddrA 2 1 (.tmp 5) (.val (.lit (.int .i64 1)))), none, 0⟩), (11, ⟨(some 76), (.load 1 false (.tmp 75)), none, 0⟩), (12, ⟨(some 77), (.bin .sub (.tmp 74) (.tmp 76)), none, 0⟩), (13, ⟨(some 78), (.minmax true [(.val (.lit (.int .i64 0))), (.tmp 77)]), none, 0⟩), (14, ⟨(some 79), (.build [(.lit (.int .i64 0)), (.lit (.int .i64 0))] [(0, (1, (.tmp 72))), (1, (1, (.tmp 78)))]), none, 0⟩), (15, ⟨(some 80), (.call false (.val (.lit (.func (.func 16) #[] #[]))) [(.tmp 66), (.tmp 79)]), none, 0⟩), (16, ⟨(some 64), (.mv (.tmp 80)), none, 0⟩), (17, ⟨(some 81), (.ext (.tmp 64) 0), none, 0⟩), (18, ⟨(some 82), (.ext (.tmp 64) 1), none, 0⟩), (19, ⟨(some 83), (.ext (.tmp 64) 2), none, 0⟩), (20, ⟨(some 10), (.mv (.tmp 81)), none, 0⟩), (21, ⟨(some 11), (.mv (.tmp 82)), none, 0⟩), (22, ⟨(some 12), (.mv (.tmp 83)), none, 0⟩)] [[], [0], [], [2], [], [4], [3, 5, 2, 4], [6, 3, 5, 2, 4], [], [8], [], [10], [9, 11, 8, 10], [12, 9, 11, 8, 10], [7, 13, 6, 3, 5, 2, 4, 12, 9, 11, 8, 10], [1, 14, 0, 7, 13, 6, 3, 5, 2, 4, 12, 9, 11, 8, 10], [15, 1, 14, 0, 7, 13, 6, 3, 5, 2, 4, 12, 9, 11, 8, 10], [16, 15, 1, 14, 0, 7, 13, 6, 3, 5, 2, 4, 12, 9, 11, 8, 10], [16, 15, 1, 14, 0, 7, 13, 6, 3, 5, 2, 4, 12, 9, 11, 8, 10], [16, 15, 1, 14, 0, 7, 13, 6, 3, 5, 2, 4, 12, 9, 11, 8, 10], [17, 15, 0, 1, 2, 3, 4, 5, 6, 7, 8, 9, 10, 11, 12, 13, 14, 16], [18, 20, 0, 1, 2, 3, 4, 5, 6, 7, 8, 9, 10, 11, 12, 13, 14, 15, 16, 17], [19, 21, 0, 1, 2, 3, 4, 5, 6, 7, 8, 9, 10, 11, 12, 13, 14, 15, 16, 17, 18, 20]])
 (.seq (.seq (.reg 0 [⟨(some 84), (.mv (.tmp 12)), none, 0⟩, ⟨(some 85), (.bin .neq (.tmp 84) (.val (.lit (.int .i64 0)))), none, 0⟩, ⟨(some 86), (.mv (.tmp 85)), none, 0⟩, ⟨(some 87), (.mv (.tmp 12)), (some (86, true)), 0⟩, ⟨(some 88), (.bin .neq (.tmp 87) (.val (.lit (.int .i64 12)))), (some (86, true)), 0⟩, ⟨(some 89), (.pick (.tmp 86) (.tmp 88) (.val (.lit (.bool false)))), none, 0⟩, ⟨(some 90), (.mv (.tmp 89)), none, 0⟩, ⟨(some 91), (.mv (.tmp 12)), (some (90, false)), 0⟩, ⟨(some 92), (.bin .eql (.tmp 91) (.val (.lit (.int .i64 0)))), (some (90, false)), 0⟩, ⟨(some 93), (.mv (.tmp 92)), (some (90, false)), 0⟩, ⟨(some 94), (.mv (.tmp 9)), (some (93, true)), 0⟩, ⟨(some 95), (.bin .neq (.tmp 94) (.val (.lit (.int .i64 0)))), (some (93, true)), 0⟩, ⟨(some 96), (.mv (.tmp 95)), (some (93, true)), 0⟩, ⟨(some 97), (.mv (.tmp 11)), (some (96, false)), 0⟩, ⟨(some 98), (.mv (.tmp 8)), (some (96, false)), 0⟩, ⟨(some 99), (.bin .lss (.tmp 97) (.tmp 98)), (some (96, false)), 0⟩, ⟨(some 100), (.pick (.tmp 96) (.val (.lit (.bool true))) (.tmp 99)), (some (93, true)), 0⟩, ⟨(some 101), (.pick (.tmp 93) (.tmp 100) (.val (.lit (.bool false)))), (some (90, false)), 0⟩, ⟨(some 102), (.pick (.tmp 90) (.val (.lit (.bool true))) (.tmp 101)), none, 0⟩])
 (.cond (.tmp 102) (.seq (.reg 0 [⟨(some 6), (.mv (.val (.lit (.bool false)))), none, 0⟩])
 .ret) .skip))
 (.seq (.seq (.reg 0 [⟨(some 103), (.mv (.tmp 0)), none, 0⟩, ⟨(some 104), (.len (.tmp 103)), none, 0⟩, ⟨(some 105), (.bin .eql (.tmp 104) (.val (.lit (.int .i64 0)))), none, 0⟩])
 (.cond (.tmp 105) (.seq (.reg 0 [⟨(some 6), (.mv (.val (.lit (.bool true)))), none, 0⟩])
 .ret) .skip))
 (.seq (.dreg 0 [(0, ⟨(some 107), (.mv (.tmp 0)), none, 0⟩), (1, ⟨(some 108), (.slc 3 (.tmp 107) (some (.val (.lit (.int .i64 1)))) none), none, 0⟩), (2, ⟨(some 109), (.call false (.val (.lit (.func (.func 17) #[] #[]))) [(.tmp 108)]), none, 0⟩), (3, ⟨(some 110), (.load 2 true (.tmp 4)), none, 0⟩), (4, ⟨(some 111), (.call false (.val (.lit (.func (.func 16) #[] #[]))) [(.tmp 109), (.tmp 110)]), none, 0⟩), (5, ⟨(some 106), (.mv (.tmp 111)), none, 0⟩), (6, ⟨(some 112), (.ext (.tmp 106) 0), none, 0⟩), (7, ⟨(some 113), (.ext (.tmp 106) 1), none, 0⟩), (8, ⟨(some 114), (.ext (.tmp 106) 2), none, 0⟩), (9, ⟨(some 13), (.mv (.tmp 112)), none, 0⟩), (10, ⟨(some 14), (.mv (.tmp 113)), none, 0⟩), (11, ⟨(some 15), (.mv (.tmp 114)), none, 0⟩)] [[], [0], [1, 0], [], [2, 3, 1, 0], [4, 2, 3, 1, 0], [5, 4, 2, 3, 1, 0], [5, 4, 2, 3, 1, 0], [5, 4, 2, 3, 1, 0], [6, 4, 0, 1, 2, 3, 5], [7, 9, 0, 1, 2, 3, 4, 5, 6], [8, 10, 0, 1, 2, 3, 4, 5, 6, 7, 9]])
 (.seq (.reg 0 [⟨(some 115), (.mv (.tmp 15)), none, 0⟩, ⟨(some 116), (.bin .eql (.tmp 115) (.val (.lit (.int .i64 12)))), none, 0⟩, ⟨(some 117), (.mv (.tmp 116)), none, 0⟩, ⟨(some 118), (.mv (.tmp 15)), (some (117, false)), 0⟩, ⟨(some 119), (.bin .eql (.tmp 118) (.val (.lit (.int .i64 0)))), (some (117, false)), 0⟩, ⟨(some 120), (.mv (.tmp 119)), (some (117, false)), 0⟩, ⟨(some 121), (.mv (.tmp 9)), (some (120, true)), 0⟩, ⟨(some 122), (.bin .eql (.tmp 121) (.val (.lit (.int .i64 0)))), (some (120, true)), 0⟩, ⟨(some 123), (.pick (.tmp 120) (.tmp 122) (.val (.lit (.bool false)))), (some (117, false)), 0⟩, ⟨(some 124), (.mv (.tmp 123)), (some (117, false)), 0⟩, ⟨(some 125), (.mv (.tmp 8)), (some (124, true)), 0⟩, ⟨(some 126), (.mv (.tmp 14)), (some (124, true)), 0⟩, ⟨(some 127), (.bin .leq (.tmp 125) (.tmp 126)), (some (124, true)), 0⟩, ⟨(some 128), (.pick (.tmp 124) (.tmp 127) (.val (.lit (.bool false)))), (some (117, false)), 0⟩, ⟨(some 129), (.pick (.tmp 117) (.val (.lit (.bool true))) (.tmp 128)), none, 0⟩, ⟨(some 6), (.mv (.tmp 129)), none, 0⟩])
 .ret))))))))))
theorem e3 : envOf Try.prog muts 3 = some (130, c3, [(Go.Abs.ARes.tmp 6)]) := by kernel_rfl
def c10 : ACode :=
 (.seq (.reg 1 [⟨(some 3), (.box 2 (.tmp 1)), none, 0⟩, ⟨(some 4), (.mv (.val (.lit (.bool false)))), none, 1⟩])
 (.seq (.seq (.reg 0 [⟨(some 14), (.call false (.val (.lit (.func (.func 13) #[] #[]))) []), none, 0⟩, ⟨(some 15), (.not (.tmp 14)), none, 0⟩])
 (.cond (.tmp 15) (.seq (.reg 0 [⟨(some 4), (.mv (.val (.lit (.bool false)))), none, 0⟩])
 .ret) .skip))
 (.seq (.seq (.reg 0 [⟨(some 16), (.mv (.tmp 0)), none, 0⟩, ⟨(some 17), (.call false (.val (.lit (.func (.func 14) #[] #[]))) [(.tmp 16)]), none, 0⟩, ⟨(some 18), (.not (.tmp 17)), none, 0⟩])
 (.cond (.tmp 18) (.seq (.reg 0 [⟨(some 4), (.mv (.val (.lit (.bool true)))), none, 0⟩])
 .ret) .skip))
 (.seq (.dreg 0 [(0, ⟨(some 20), (.mv (.tmp 0)), none, 0⟩), (1, ⟨(some 21), (.call false (.val (.lit (.func (.func 17) #[] #[]))) [(.tmp 20)]), none, 0⟩), (2, ⟨(some 22), (.load 2 true (.tmp 3)), none, 0⟩), (3, ⟨(some 23), (.call false (.val (.lit (.func (.func 16) #[] #[]))) [(.tmp 21), (.tmp 22)]), none, 0⟩), (4, ⟨(some 19), (.mv (.tmp 23)), none, 0⟩), (5, ⟨(some 24), (.ext (.tmp 19) 0), none, 0⟩), (6, ⟨(some 25), (.ext (.tmp 19) 1), none, 0⟩), (7, ⟨(some 26), (.ext (.tmp 19) 2), none, 0⟩), (8, ⟨(some 5), (.mv (.tmp 24)), none, 0⟩), (9, ⟨(some 6), (.mv (.tmp 25)), none, 0⟩), (10, ⟨(some 7), (.mv (.tmp 26)), none, 0⟩)] [[], [0], [], [1, 2, 0], [3, 1, 2, 0], [4, 3, 1, 2, 0], [4, 3, 1, 2, 0], [4, 3, 1, 2, 0], [5, 3, 0, 1, 2, 4], [6, 8, 0, 1, 2, 3, 4, 5], [7, 9, 0, 1, 2, 3, 4, 5, 6, 8]])
 (.seq (.seq (.reg 0 [⟨(some 27), (.mv (.tmp 0)), none, 0⟩, ⟨(some 28), (.call false (.val (.lit (.func (.func 44) #[] #[]))) [(.tmp 27)]), none, 0⟩, ⟨(some 8), (.mv (.tmp 28)), none, 0⟩])
 (.seq (.reg 0 [⟨(some 29), (.mv (.tmp 8)), none, 0⟩, ⟨(some 30), (.bin .neq (.tmp 29) (.val (.lit (.int .i64 0)))), none, 0⟩])
 (.cond (.tmp 30) (.seq (.reg 0 [⟨(some 31), (.mv (.tmp 7)), none, 0⟩, ⟨(some 32), (.mv (.tmp 8)), none, 0⟩, ⟨(some 33), (.bin .eql (.tmp 31) (.tmp 32)), none, 0⟩, ⟨(some 34), (.mv (.tmp 33)), none, 0⟩, ⟨(some 35), (.mv (.tmp 5)), (some (34, true)), 0⟩, ⟨(some 36), (.len (.tmp 35)), (some (34, true)), 0⟩, ⟨(some 37), (.bin .eql (.tmp 36) (.val (.lit (.int .i64 0)))), (some (34, true)), 0⟩, ⟨(some 38), (.pick (.tmp 34) (.tmp 37) (.val (.lit (.bool false)))), none, 0⟩, ⟨(some 39), (.mv (.tmp 38)), none, 0⟩, ⟨(some 40), (.mv (.tmp 6)), (some (39, true)), 0⟩, ⟨(some 41), (.bin .eql (.tmp 40) (.val (.lit (.int .i64 0)))), (some (39, true)), 0⟩, ⟨(some 42), (.pick (.tmp 39) (.tmp 41) (.val (.lit (.bool false)))), none, 0⟩, ⟨(some 4), (.mv (.tmp 42)), none, 0⟩])
 .ret) .skip)))
 (.seq (.reg 0 [⟨(some 44), (.mv (.tmp 0)), none, 0⟩, ⟨(some 45), (.load 2 true (.tmp 3)), none, 0⟩, ⟨(some 46), (.call false (.val (.lit (.func (.func 55) #[] #[]))) [(.tmp 44), (.tmp 45)]), none, 0⟩, ⟨(some 43), (.mv (.tmp 46)), none, 0⟩, ⟨(some 47), (.ext (.tmp 43) 0), none, 0⟩, ⟨(some 48), (.ext (.tmp 43) 1), none, 0⟩, ⟨(some 49), (.ext (.tmp 43) 2), none, 0⟩, ⟨(some 9), (.mv (.tmp 47)), none, 0⟩, ⟨(some 10), (.mv (.tmp 48)), none, 0⟩, ⟨(some 11), (.mv (.tmp 49)), none, 0⟩])
 (.seq (.seq (.reg 0 [⟨(some 50), (.mv (.tmp 7)), none, 0⟩, ⟨(some 51), (.mv (.tmp 11)), none, 0⟩, ⟨(some 52), (.bin .neq (.tmp 50) (.tmp 51)), none, 0⟩, ⟨(some 53), (.mv (.tmp 52)), none, 0⟩, ⟨(some 54), (.mv (.tmp 6)), (some (53, false)), 0⟩, ⟨(some 55), (.mv (.tmp 10)), (some (53, false)), 0⟩, ⟨(some 56), (.bin .neq (.tmp 54) (.tmp 55)), (some (53, false)), 0⟩, ⟨(some 57), (.pick (.tmp 53) (.val (.lit (.bool true))) (.tmp 56)), none, 0⟩, ⟨(some 58), (.mv (.tmp 57)), none, 0⟩, ⟨(some 59), (.mv (.tmp 5)), (some (58, false)), 0⟩, ⟨(some 60), (.mv (.tmp 9)), (some (58, false)), 0⟩, ⟨(some 61), (.call false (.val (.lit (.func (.func 34) #[] #[]))) [(.tmp 59), (.tmp 60)]), (some (58, false)), 0⟩, ⟨(some 62), (.not (.tmp 61)), (some (58, false)), 0⟩, ⟨(some 63), (.pick (.tmp 58) (.val (.lit (.bool true))) (.tmp 62)), none, 0⟩])
 (.cond (.tmp 63) (.seq (.reg 0 [⟨(some 4), (.mv (.val (.lit (.bool false)))), none, 0⟩])
 .ret) .skip))
 (.seq (.seq (.reg 0 [⟨(some 64), (.mv (.tmp 11)), none, 0⟩, ⟨(some 65), (.bin .neq (.tmp 64) (.val (.lit (.int .i64 0)))), none, 0⟩])
 (.cond (.tmp 65) (.seq (.reg 0 [⟨(some 4), (.mv (.val (.lit (.bool true)))), none, 0⟩])
 .ret) .skip))
 (.seq (.dreg 0 [(0, ⟨(some 67), (.mv (.tmp 0)), none, 0⟩), (1, ⟨(some 68), (.call false (.val (.lit (.func (.func 17) #[] #[]))) [(.tmp 67)]), none, 0⟩), (2, ⟨(some 69), (.mv (.tmp 5)), none, 0⟩), (3, ⟨(some 70), (.load 2 true (.tmp 3)), none, 0⟩), (4, ⟨(some 71), (.call false (.val (.lit (.func (.func 52) #[] #[]))) [(.tmp 68), (.tmp 69), (.tmp 70)]), none, 0⟩), (5, ⟨(some 66), (.mv (.tmp 71)), none, 0⟩), (6, ⟨(some 72), (.ext (.tmp 66) 0), none, 0⟩), (7, ⟨(some 73), (.ext (.tmp 66) 1), none, 0⟩), (8, ⟨(some 12), (.mv (.tmp 72)), none, 0⟩), (9, ⟨(some 13), (.mv (.tmp 73)), none, 0⟩)] [[], [0], [], [], [1, 2, 3, 0], [4, 1, 2, 3, 0], [5, 4, 1, 2, 3, 0], [5, 4, 1, 2, 3, 0], [6, 4, 0, 1, 2, 3, 5], [7, 8, 0, 1, 2, 3, 4, 5, 6]])
 (.seq (.reg 0 [⟨(some 74), (.mv (.tmp 13)), none, 0⟩, ⟨(some 75), (.bin .eql (.tmp 74) (.val (.lit (.int .i64 0)))), none, 0⟩, ⟨(some 76), (.mv (.tmp 75)), none, 0⟩, ⟨(some 77), (.mv (.tmp 12)), (some (76, true)), 0⟩, ⟨(some 78), (.mv (.tmp 6)), (some (76, true)), 0⟩, ⟨(some 79), (.bin .eql (.tmp 77) (.tmp 78)), (some (76, true)), 0⟩, ⟨(some 80), (.pick (.tmp 76) (.tmp 79) (.val (.lit (.bool false)))), none, 0⟩, ⟨(some 4), (.mv (.tmp 80)), none, 0⟩])
 .ret))))))))))
theorem e10 : envOf Try.prog muts 10 = some (81, c10, [(Go.Abs.ARes.tmp 4)]) := by kernel_rfl
def c14l0 : ACode :=
 (.seq (.seq (.reg 0 [⟨(some 4), (.mv (.tmp 3)), none, 0⟩, ⟨(some 5), (.mv (.tmp 0)), none, 0⟩, ⟨(some 6), (.len (.tmp 5)), none, 0⟩, ⟨(some 7), (.bin .lss (.tmp 4) (.tmp 6)), none, 0⟩])
 (.cond (.tmp 7) .skip (.exit 0)))
 (.seq (.block 1 (.seq (.reg 0 [⟨(some 10), (.mv (.tmp 0)), none, 0⟩, ⟨(some 11), (.mv (.tmp 3)), none, 0⟩, ⟨(some 12), (.iaddrS 3 (.tmp 10) (.tmp 11)), none, 0⟩, ⟨(some 13), (.faddr 0 (.tmp 12)), none, 0⟩, ⟨(some 14), (.load 1 false (.tmp 13)), none, 0⟩, ⟨(some 15), (.lenS (.tmp 14)), none, 0⟩, ⟨(some 16), (.bin .gtr (.tmp 15) (.val (.lit (.int .i64 30)))), none, 0⟩])
 (.cond (.tmp 16) (.seq (.reg 0 [⟨(some 2), (.mv (.val (.lit (.bool false)))), none, 0⟩])
 .ret) .skip)))
 (.reg 0 [⟨(some 8), (.mv (.tmp 3)), none, 0⟩, ⟨(some 9), (.bin .add (.tmp 8) (.val (.lit (.int .i64 1)))), none, 0⟩, ⟨(some 3), (.mv (.tmp 9)), none, 0⟩])))
def c14 : ACode :=
 (.seq (.reg 0 [⟨(some 2), (.mv (.val (.lit (.bool false)))), none, 0⟩])
 (.seq (.seq (.reg 0 [⟨(some 3), (.mv (.val (.lit (.int .i64 0)))), none, 0⟩])
 (.block 0 (.loop c14l0)))
 (.seq (.reg 0 [⟨(some 17), (.mv (.tmp 0)), none, 0⟩, ⟨(some 18), (.len (.tmp 17)), none, 0⟩, ⟨(some 19), (.bin .leq (.tmp 18) (.val (.lit (.int .i64 6)))), none, 0⟩, ⟨(some 20), (.mv (.tmp 19)), none, 0⟩, ⟨(some 21), (.mv (.tmp 0)), (some (20, false)), 0⟩, ⟨(some 22), (.len (.tmp 21)), (some (20, false)), 0⟩, ⟨(some 23), (.bin .gtr (.tmp 22) (.val (.lit (.int .i64 12)))), (some (20, false)), 0⟩, ⟨(some 24), (.mv (.tmp 23)), (some (20, false)), 0⟩, ⟨(some 25), (.mv (.tmp 0)), (some (24, true)), 0⟩, ⟨(some 26), (.len (.tmp 25)), (some (24, true)), 0⟩, ⟨(some 27), (.bin .leq (.tmp 26) (.val (.lit (.int .i64 15)))), (some (24, true)), 0⟩, ⟨(some 28), (.pick (.tmp 24) (.tmp 27) (.val (.lit (.bool false)))), (some (20, false)), 0⟩, ⟨(some 29), (.pick (.tmp 20) (.val (.lit (.bool true))) (.tmp 28)), none, 0⟩, ⟨(some 2), (.mv (.tmp 29)), none, 0⟩])
 .ret)))
theorem e14 : envOf Try.prog muts 14 = some (30, c14, [(Go.Abs.ARes.tmp 2)]) := by kernel_rfl
def c15 : ACode :=
 (.seq (.reg 0 [⟨(some 6), (.mv (.val (.lit (.bool false)))), none, 0⟩])
 (.seq (.reg 0 [⟨(some 7), (.mv (.tmp 0)), none, 0⟩, ⟨(some 8), (.mv (.tmp 1)), none, 0⟩, ⟨(some 9), (.bin .geq (.tmp 7) (.tmp 8)), none, 0⟩, ⟨(some 10), (.mv (.tmp 9)), none, 0⟩, ⟨(some 11), (.mv (.tmp 0)), (some (10, true)), 0⟩, ⟨(some 12), (.mv (.tmp 2)), (some (10, true)), 0⟩, ⟨(some 13), (.bin .leq (.tmp 11) (.tmp 12)), (some (10, true)), 0⟩, ⟨(some 14), (.pick (.tmp 10) (.tmp 13) (.val (.lit (.bool false)))), none, 0⟩, ⟨(some 6), (.mv (.tmp 14)), none, 0⟩])
 .ret))
theorem e15 : envOf Try.prog muts 15 = some (15, c15, [(Go.Abs.ARes.tmp 6)]) := by kernel_rfl
def c16 : ACode :=
 (.seq (.reg 1 [⟨(some 3), (.box 2 (.tmp 1)), none, 0⟩, ⟨(some 4), (.mv (.val (.sl true 0 []))), none, 1⟩, ⟨(some 5), (.mv (.val (.lit (.int .i64 0)))), none, 1⟩, ⟨(some 6), (.mv (.val (.lit (.int .i64 0)))), none, 1⟩])
 (.seq (.seq (.reg 0 [⟨(some 9), (.mv (.tmp 0)), none, 0⟩, ⟨(some 10), (.load 2 true (.tmp 3)), none, 0⟩, ⟨(some 11), (.call false (.val (.lit (.func (.func 65) #[] #[]))) [(.tmp 9), (.tmp 10)]), none, 0⟩, ⟨(some 7), (.mv (.tmp 11)), none, 0⟩])
 (.seq (.reg 0 [⟨(some 12), (.mv (.tmp 7)), none, 0⟩, ⟨(some 13), (.bin .neq (.tmp 12) (.val (.lit (.int .i64 0)))), none, 0⟩])
 (.cond (.tmp 13) (.seq (.reg 0 [⟨(some 14), (.mv (.tmp 7)), none, 0⟩, ⟨(some 4), (.mv (.val (.sl true 0 []))), none, 0⟩, ⟨(some 5), (.mv (.val (.lit (.int .i64 0)))), none, 0⟩, ⟨(some 6), (.mv (.tmp 14)), none, 0⟩])
 .ret) .skip)))
 (.seq (.reg 1 [⟨(some 15), (.mv (.tmp 0)), none, 0⟩, ⟨(some 16), (.iaddrA 2 1 (.tmp 3) (.val (.lit (.int .i64 0)))), none, 0⟩, ⟨(some 17), (.load 1 false (.tmp 16)), none, 0⟩, ⟨(some 18), (.iaddrA 2 1 (.tmp 3) (.val (.lit (.int .i64 1)))), none, 0⟩, ⟨(some 19), (.load 1 false (.tmp 18)), none, 0⟩, ⟨(some 20), (.call false (.val (.lit (.func (.func 66) #[] #[]))) [(.tmp 15), (.tmp 17), (.tmp 19)]), none, 0⟩, ⟨(some 8), (.alloc [(.sl true 0 []), (.lit (.int .i64 0)), (.lit (.bool false))]), none, 0⟩, ⟨none, (.store 3 (.tmp 8) (.tmp 20)), none, 1⟩])
 (.seq (.seq (.reg 0 [⟨(some 21), (.faddr 2 (.tmp 8)), none, 0⟩, ⟨(some 22), (.load 1 false (.tmp 21)), none, 0⟩, ⟨(some 23), (.not (.tmp 22)), none, 0⟩])
 (.cond (.tmp 23) (.seq (.reg 0 [⟨(some 4), (.mv (.val (.sl true 0 []))), none, 0⟩, ⟨(some 5), (.mv (.val (.lit (.int .i64 0)))), none, 0⟩, ⟨(some 6), (.mv (.val (.lit (.int .i64 12)))), none, 0⟩])
 .ret) .skip))
 (.seq (.dreg 0 [(0, ⟨(some 24), (.faddr 0 (.tmp 8)), none, 0⟩), (1, ⟨(some 25), (.load 1 false (.tmp 24)), none, 0⟩), (2, ⟨(some 26), (.faddr 1 (.tmp 8)), none, 0⟩), (3, ⟨(some 27), (.load 1 false (.tmp 26)), none, 0⟩), (4, ⟨(some 4), (.mv (.tmp 25)), none, 0⟩), (5, ⟨(some 5), (.mv (.tmp 27)), none, 0⟩), (6, ⟨(some 6), (.mv (.val (.lit (.int .i64 0)))), none, 0⟩)] [[], [0], [], [2], [1, 0], [3, 4, 0, 1, 2], [5, 0, 1, 2, 3, 4]])
 .ret)))))
theorem e16 : envOf Try.prog muts 16 = some (28, c16, [(Go.Abs.ARes.tmp 4), (Go.Abs.ARes.tmp 5), (Go.Abs.ARes.tmp 6)]) := by kernel_rfl
def c17 : ACode :=
 (.seq (.reg 0 [⟨(some 2), (.mv (.val (.sl true 0 []))), none, 0⟩])
 (.seq (.reg 2 [⟨(some 3), (.bslice 3 0 [(.lit (.string ⟨#[]⟩)), (.lit (.int .i64 0)), (.lit (.int .i64 0))] []), none, 0⟩, ⟨(some 4), (.mv (.tmp 0)), none, 1⟩, ⟨(some 5), (.app 3 32 (.tmp 3) (.tmp 4)), none, 1⟩, ⟨(some 2), (.mv (.tmp 5)), none, 2⟩])
 .ret))
theorem e17 : envOf Try.prog muts 17 = some (6, c17, [(Go.Abs.ARes.tmp 2)]) := by kernel_rfl
def c33l0 : ACode :=
 (.seq (.seq (.reg 0 [⟨(some 18), (.mv (.tmp 3)), none, 0⟩, ⟨(some 19), (.mv (.tmp 0)), none, 0⟩, ⟨(some 20), (.lenS (.tmp 19)), none, 0⟩, ⟨(some 21), (.bin .lss (.tmp 18) (.tmp 20)), none, 0⟩])
 (.cond (.tmp 21) .skip (.exit 0)))
 (.seq (.block 1 (.seq (.reg 0 [⟨(some 24), (.mv (.tmp 0)), none, 0⟩, ⟨(some 25), (.mv (.tmp 3)), none, 0⟩, ⟨(some 26), (.idxS (.tmp 24) (.tmp 25)), none, 0⟩, ⟨(some 27), (.call false (.val (.lit (.func (.func 74) #[] #[]))) [(.tmp 26)]), none, 0⟩, ⟨(some 28), (.not (.tmp 27)), none, 0⟩, ⟨(some 29), (.mv (.tmp 28)), none, 0⟩, ⟨(some 30), (.mv (.tmp 0)), (some (29, true)), 0⟩, ⟨(some 31), (.mv (.tmp 3)), (some (29, true)), 0⟩, ⟨(some 32), (.idxS (.tmp 30) (.tmp 31)), (some (29, true)), 0⟩, ⟨(some 33), (.call false (.val (.lit (.func (.func 75) #[] #[]))) [(.tmp 32)]), (some (29, true)), 0⟩, ⟨(some 34), (.not (.tmp 33)), (some (29, true)), 0⟩, ⟨(some 35), (.pick (.tmp 29) (.tmp 34) (.val (.lit (.bool false)))), none, 0⟩, ⟨(some 36), (.mv (.tmp 35)), none, 0⟩, ⟨(some 37), (.mv (.tmp 0)), (some (36, true)), 0⟩, ⟨(some 38), (.mv (.tmp 3)), (some (36, true)), 0⟩, ⟨(some 39), (.idxS (.tmp 37) (.tmp 38)), (some (36, true)), 0⟩, ⟨(some 40), (.bin .neq (.tmp 39) (.val (.lit (.int .u8 45)))), (some (36, true)), 0⟩, ⟨(some 41), (.pick (.tmp 36) (.tmp 40) (.val (.lit (.bool false)))), none, 0⟩])
 (.cond (.tmp 41) (.seq (.reg 0 [⟨(some 2), (.mv (.val (.lit (.bool false)))), none, 0⟩])
 .ret) .skip)))
 (.reg 0 [⟨(some 22), (.mv (.tmp 3)), none, 0⟩, ⟨(some 23), (.bin .add (.tmp 22) (.val (.lit (.int .i64 1)))), none, 0⟩, ⟨(some 3), (.mv (.tmp 23)), none, 0⟩])))
def c33 : ACode :=
 (.seq (.reg 0 [⟨(some 2), (.mv (.val (.lit (.bool false)))), none, 0⟩])
 (.seq (.seq (.reg 0 [⟨(some 4), (.mv (.tmp 0)), none, 0⟩, ⟨(some 5), (.lenS (.tmp 4)), none, 0⟩, ⟨(some 6), (.bin .eql (.tmp 5) (.val (.lit (.int .i64 0)))), none, 0⟩, ⟨(some 7), (.mv (.tmp 6)), none, 0⟩, ⟨(some 8), (.mv (.tmp 0)), (some (7, false)), 0⟩, ⟨(some 9), (.lenS (.tmp 8)), (some (7, false)), 0⟩, ⟨(some 10), (.bin .gtr (.tmp 9) (.val (.lit (.int .i64 12)))), (some (7, false)), 0⟩, ⟨(some 11), (.pick (.tmp 7) (.val (.lit (.bool true))) (.tmp 10)), none, 0⟩, ⟨(some 12), (.mv (.tmp 11)), none, 0⟩, ⟨(some 13), (.mv (.tmp 0)), (some (12, false)), 0⟩, ⟨(some 14), (.idxS (.tmp 13) (.val (.lit (.int .i64 0)))), (some (12, false)), 0⟩, ⟨(some 15), (.call false (.val (.lit (.func (.func 74) #[] #[]))) [(.tmp 14)]), (some (12, false)), 0⟩, ⟨(some 16), (.not (.tmp 15)), (some (12, false)), 0⟩, ⟨(some 17), (.pick (.tmp 12) (.val (.lit (.bool true))) (.tmp 16)), none, 0⟩])
 (.cond (.tmp 17) (.seq (.reg 0 [⟨(some 2), (.mv (.val (.lit (.bool false)))), none, 0⟩])
 .ret) .skip))
 (.seq (.seq (.reg 0 [⟨(some 3), (.mv (.val (.lit (.int .i64 0)))), none, 0⟩])
 (.block 0 (.loop c33l0)))
 (.seq (.reg 0 [⟨(some 2), (.mv (.val (.lit (.bool true)))), none, 0⟩])
 .ret))))
theorem e33 : envOf Try.prog muts 33 = some (42, c33, [(Go.Abs.ARes.tmp 2)]) := by kernel_rfl
def c34l0 : ACode :=
 (.seq (.seq (.reg 0 [⟨(some 11), (.mv (.tmp 5)), none, 0⟩, ⟨(some 12), (.mv (.tmp 0)), none, 0⟩, ⟨(some 13), (.len (.tmp 12)), none, 0⟩, ⟨(some 14), (.bin .lss (.tmp 11) (.tmp 13)), none, 0⟩])
 (.cond (.tmp 14) .skip (.exit 0)))
 (.seq (.block 1 (.seq (.dreg 0 [(0, ⟨(some 17), (.mv (.tmp 0)), none, 0⟩), (1, ⟨(some 18), (.mv (.tmp 5)), none, 0⟩), (2, ⟨(some 19), (.iaddrS 1 (.tmp 17) (.tmp 18)), none, 0⟩), (3, ⟨(some 20), (.load 1 false (.tmp 19)), none, 0⟩), (4, ⟨(some 21), (.mv (.tmp 1)), none, 0⟩), (5, ⟨(some 22), (.mv (.tmp 5)), none, 0⟩), (6, ⟨(some 23), (.iaddrS 1 (.tmp 21) (.tmp 22)), none, 0⟩), (7, ⟨(some 24), (.load 1 false (.tmp 23)), none, 0⟩), (8, ⟨(some 25), (.bin .neq (.tmp 20) (.tmp 24)), none, 0⟩)] [[], [], [0, 1], [2, 0, 1], [], [], [4, 5], [6, 4, 5], [3, 7, 2, 0, 1, 6, 4, 5]])
 (.cond (.tmp 25) (.seq (.reg 0 [⟨(some 4), (.mv (.val (.lit (.bool false)))), none, 0⟩])
 .ret) .skip)))
 (.reg 0 [⟨(some 15), (.mv (.tmp 5)), none, 0⟩, ⟨(some 16), (.bin .add (.tmp 15) (.val (.lit (.int .i64 1)))), none, 0⟩, ⟨(some 5), (.mv (.tmp 16)), none, 0⟩])))
def c34 : ACode :=
 (.seq (.reg 0 [⟨(some 4), (.mv (.val (.lit (.bool false)))), none, 0⟩])
 (.seq (.seq (.reg 0 [⟨(some 6), (.mv (.tmp 0)), none, 0⟩, ⟨(some 7), (.len (.tmp 6)), none, 0⟩, ⟨(some 8), (.mv (.tmp 1)), none, 0⟩, ⟨(some 9), (.len (.tmp 8)), none, 0⟩, ⟨(some 10), (.bin .neq (.tmp 7) (.tmp 9)), none, 0⟩])
 (.cond (.tmp 10) (.seq (.reg 0 [⟨(some 4), (.mv (.val (.lit (.bool false)))), none, 0⟩])
 .ret) .skip))
 (.seq (.seq (.reg 0 [⟨(some 5), (.mv (.val (.lit (.int .i64 0)))), none, 0⟩])
 (.block 0 (.loop c34l0)))
 (.seq (.reg 0 [⟨(some 4), (.mv (.val (.lit (.bool true)))), none, 0⟩])
 .ret))))
theorem e34 : envOf Try.prog muts 34 = some (26, c34, [(Go.Abs.ARes.tmp 4)]) := by kernel_rfl
def c44l0 : ACode :=
 (.seq (.seq (.reg 0 [⟨(some 7), (.mv (.tmp 3)), none, 0⟩, ⟨(some 8), (.mv (.tmp 0)), none, 0⟩, ⟨(some 9), (.len (.tmp 8)), none, 0⟩, ⟨(some 10), (.bin .lss (.tmp 7) (.tmp 9)), none, 0⟩])
 (.cond (.tmp 10) .skip (.exit 0)))
 (.seq (.block 1 (.seq (.seq (.reg 0 [⟨(some 13), (.mv (.tmp 0)), none, 0⟩, ⟨(some 14), (.mv (.tmp 3)), none, 0⟩, ⟨(some 15), (.iaddrS 3 (.tmp 13) (.tmp 14)), none, 0⟩, ⟨(some 16), (.faddr 0 (.tmp 15)), none, 0⟩, ⟨(some 17), (.load 1 false (.tmp 16)), none, 0⟩, ⟨(some 18), (.call false (.val (.lit (.func (.func 33) #[] #[]))) [(.tmp 17)]), none, 0⟩, ⟨(some 19), (.not (.tmp 18)), none, 0⟩])
 (.cond (.tmp 19) (.seq (.reg 0 [⟨(some 2), (.mv (.val (.lit (.int .i64 4)))), none, 0⟩])
 .ret) .skip))
 (.seq (.seq (.reg 0 [⟨(some 20), (.mv (.tmp 0)), none, 0⟩, ⟨(some 21), (.mv (.tmp 0)), none, 0⟩, ⟨(some 22), (.mv (.tmp 3)), none, 0⟩, ⟨(some 23), (.iaddrS 3 (.tmp 21) (.tmp 22)), none, 0⟩, ⟨(some 24), (.faddr 0 (.tmp 23)), none, 0⟩, ⟨(some 25), (.load 1 false (.tmp 24)), none, 0⟩, ⟨(some 26), (.call false (.val (.lit (.func (.func 85) #[] #[]))) [(.tmp 20), (.tmp 25)]), none, 0⟩, ⟨(some 27), (.mv (.tmp 3)), none, 0⟩, ⟨(some 28), (.bin .lss (.tmp 26) (.tmp 27)), none, 0⟩])
 (.cond (.tmp 28) (.seq (.reg 0 [⟨(some 2), (.mv (.val (.lit (.int .i64 5)))), none, 0⟩])
 .ret) .skip))
 (.seq (.reg 0 [⟨(some 29), (.mv (.tmp 0)), none, 0⟩, ⟨(some 30), (.mv (.tmp 3)), none, 0⟩, ⟨(some 31), (.iaddrS 3 (.tmp 29) (.tmp 30)), none, 0⟩, ⟨(some 32), (.faddr 1 (.tmp 31)), none, 0⟩, ⟨(some 33), (.load 1 false (.tmp 32)), none, 0⟩, ⟨(some 34), (.call false (.val (.lit (.func (.func 15) #[] #[]))) [(.tmp 33), (.val (.lit (.int .i64 0))), (.val (.lit (.int .i64 1000000)))]), none, 0⟩, ⟨(some 35), (.not (.tmp 34)), none, 0⟩, ⟨(some 36), (.mv (.tmp 35)), none, 0⟩, ⟨(some 37), (.mv (.tmp 0)), (some (36, false)), 0⟩, ⟨(some 38), (.mv (.tmp 3)), (some (36, false)), 0⟩, ⟨(some 39), (.iaddrS 3 (.tmp 37) (.tmp 38)), (some (36, false)), 0⟩, ⟨(some 40), (.faddr 2 (.tmp 39)), (some (36, false)), 0⟩, ⟨(some 41), (.load 1 false (.tmp 40)), (some (36, false)), 0⟩, ⟨(some 42), (.call false (.val (.lit (.func (.func 15) #[] #[]))) [(.tmp 41), (.val (.lit (.int .i64 1))), (.val (.lit (.int .i64 100000)))]), (some (36, false)), 0⟩, ⟨(some 43), (.not (.tmp 42)), (some (36, false)), 0⟩, ⟨(some 44), (.pick (.tmp 36) (.val (.lit (.bool true))) (.tmp 43)), none, 0⟩])
 (.cond (.tmp 44) (.seq (.reg 0 [⟨(some 2), (.mv (.val (.lit (.int .i64 2)))), none, 0⟩])
 .ret) .skip)))))
 (.reg 0 [⟨(some 11), (.mv (.tmp 3)), none, 0⟩, ⟨(some 12), (.bin .add (.tmp 11) (.val (.lit (.int .i64 1)))), none, 0⟩, ⟨(some 3), (.mv (.tmp 12)), none, 0⟩])))
def c44 : ACode :=
 (.seq (.reg 0 [⟨(some 2), (.mv (.val (.lit (.int .i64 0)))), none, 0⟩])
 (.seq (.seq (.reg 0 [⟨(some 4), (.mv (.tmp 0)), none, 0⟩, ⟨(some 5), (.len (.tmp 4)), none, 0⟩, ⟨(some 6), (.bin .gtr (.tmp 5) (.val (.lit (.int .i64 12)))), none, 0⟩])
 (.cond (.tmp 6) (.seq (.reg 0 [⟨(some 2), (.mv (.val (.lit (.int .i64 8)))), none, 0⟩])
 .ret) .skip))
 (.seq (.seq (.reg 0 [⟨(some 3), (.mv (.val (.lit (.int .i64 0)))), none, 0⟩])
 (.block 0 (.loop c44l0)))
 (.seq (.reg 0 [⟨(some 2), (.mv (.val (.lit (.int .i64 0)))), none, 0⟩])
 .ret))))
theorem e44 : envOf Try.prog muts 44 = some (45, c44, [(Go.Abs.ARes.tmp 2)]) := by kernel_rfl
def c45l0 : ACode :=
 (.seq (.reg 0 [⟨(some 13), (.bin .lss (.tmp 12) (.tmp 11)), none, 0⟩])
 (.seq (.cond (.tmp 13) .skip (.exit 0))
 (.seq (.block 1 (.seq (.reg 1 [⟨(some 14), (.iaddrS 3 (.tmp 10) (.tmp 12)), none, 0⟩, ⟨(some 15), (.load 3 true (.tmp 14)), none, 0⟩, ⟨(some 5), (.alloc [(.lit (.string ⟨#[]⟩)), (.lit (.int .i64 0)), (.lit (.int .i64 0))]), none, 0⟩, ⟨none, (.store 3 (.tmp 5) (.tmp 15)), none, 1⟩])
 (.block 2 (.seq (.reg 0 [⟨(some 17), (.faddr 0 (.tmp 5)), none, 0⟩, ⟨(some 18), (.load 1 false (.tmp 17)), none, 0⟩, ⟨(some 19), (.call false (.val (.lit (.func (.func 86) #[] #[]))) [(.tmp 18)]), none, 0⟩, ⟨(some 20), (.not (.tmp 19)), none, 0⟩, ⟨(some 16), (.mv (.tmp 20)), none, 0⟩])
 (.cond (.tmp 16) (.seq (.reg 0 [⟨(some 2), (.mv (.val (.lit (.int .i64 4)))), none, 0⟩])
 .ret) (.seq (.reg 0 [⟨(some 22), (.mv (.tmp 3)), none, 0⟩, ⟨(some 23), (.faddr 0 (.tmp 5)), none, 0⟩, ⟨(some 24), (.load 1 false (.tmp 23)), none, 0⟩, ⟨(some 25), (.call true (.val (.lit (.func (.func 87) #[] #[]))) [(.tmp 22), (.tmp 24)]), none, 0⟩, ⟨(some 21), (.mv (.tmp 25)), none, 0⟩])
 (.cond (.tmp 21) (.seq (.reg 0 [⟨(some 2), (.mv (.val (.lit (.int .i64 5)))), none, 0⟩])
 .ret) (.seq (.reg 0 [⟨(some 27), (.faddr 1 (.tmp 5)), none, 0⟩, ⟨(some 28), (.load 1 false (.tmp 27)), none, 0⟩, ⟨(some 29), (.call false (.val (.lit (.func (.func 80) #[] #[]))) [(.tmp 28), (.val (.lit (.int .i64 0))), (.val (.lit (.int .i64 1000000)))]), none, 0⟩, ⟨(some 30), (.not (.tmp 29)), none, 0⟩, ⟨(some 31), (.mv (.tmp 30)), none, 0⟩, ⟨(some 32), (.faddr 2 (.tmp 5)), (some (31, false)), 0⟩, ⟨(some 33), (.load 1 false (.tmp 32)), (some (31, false)), 0⟩, ⟨(some 34), (.call false (.val (.lit (.func (.func 80) #[] #[]))) [(.tmp 33), (.val (.lit (.int .i64 1))), (.val (.lit (.int .i64 100000)))]), (some (31, false)), 0⟩, ⟨(some 35), (.not (.tmp 34)), (some (31, false)), 0⟩, ⟨(some 36), (.pick (.tmp 31) (.val (.lit (.bool true))) (.tmp 35)), none, 0⟩, ⟨(some 26), (.mv (.tmp 36)), none, 0⟩])
 (.cond (.tmp 26) (.seq (.reg 0 [⟨(some 2), (.mv (.val (.lit (.int .i64 2)))), none, 0⟩])
 .ret) .skip)))))))))
 (.reg 0 [⟨(some 37), (.bin .add (.tmp 12) (.val (.lit (.int .i64 1)))), none, 0⟩, ⟨(some 12), (.mv (.tmp 37)), none, 0⟩]))))
def c45 : ACode :=
 (.seq (.reg 0 [⟨(some 2), (.mv (.val (.lit (.int .i64 0)))), none, 0⟩])
 (.seq (.seq (.reg 0 [⟨(some 6), (.mv (.tmp 0)), none, 0⟩, ⟨(some 7), (.len (.tmp 6)), none, 0⟩, ⟨(some 8), (.bin .gtr (.tmp 7) (.val (.lit (.int .i64 12)))), none, 0⟩])
 (.cond (.tmp 8) (.seq (.reg 0 [⟨(some 2), (.mv (.val (.lit (.int .i64 8)))), none, 0⟩])
 .ret) .skip))
 (.seq (.reg 1 [⟨(some 9), (.mkmap .str), none, 0⟩, ⟨(some 3), (.mv (.tmp 9)), none, 1⟩])
 (.seq (.seq (.reg 0 [⟨(some 10), (.mv (.tmp 0)), none, 0⟩, ⟨(some 11), (.len (.tmp 10)), none, 0⟩, ⟨(some 12), (.mv (.val (.lit (.int .i64 0)))), none, 0⟩])
 (.block 0 (.loop c45l0)))
 (.seq (.reg 0 [⟨(some 2), (.mv (.val (.lit (.int .i64 0)))), none, 0⟩])
 .ret)))))
theorem e45 : envOf Try.prog muts 45 = some (38, c45, [(Go.Abs.ARes.tmp 2)]) := by kernel_rfl
def c46 : ACode :=
 (.seq (.reg 0 [⟨(some 2), (.mv (.val (.lit (.bool false)))), none, 0⟩])
 (.seq (.reg 0 [⟨(some 3), (.mv (.tmp 0)), none, 0⟩, ⟨(some 4), (.call false (.val (.lit (.func (.func 15) #[] #[]))) [(.tmp 3), (.val (.lit (.int .i64 0))), (.val (.lit (.int .i64 1000000)))]), none, 0⟩, ⟨(some 2), (.mv (.tmp 4)), none, 0⟩])
 .ret))
theorem e46 : envOf Try.prog muts 46 = some (5, c46, [(Go.Abs.ARes.tmp 2)]) := by kernel_rfl
def c47 : ACode :=
 (.seq (.reg 0 [⟨(some 4), (.mv (.val (.lit (.int .i64 0)))), none, 0⟩])
 (.seq (.reg 0 [⟨(some 5), (.mv (.tmp 0)), none, 0⟩, ⟨(some 6), (.neg (.tmp 5)), none, 0⟩, ⟨(some 7), (.mv (.tmp 1)), none, 0⟩, ⟨(some 8), (.call false (.val (.lit (.func (.func 83) #[] #[]))) [(.tmp 6), (.tmp 7)]), none, 0⟩, ⟨(some 9), (.neg (.tmp 8)), none, 0⟩, ⟨(some 4), (.mv (.tmp 9)), none, 0⟩])
 .ret))
theorem e47 : envOf Try.prog muts 47 = some (10, c47, [(Go.Abs.ARes.tmp 4)]) := by kernel_rfl
def c52l0 : ACode :=
 (.seq (.reg 0 [⟨(some 27), (.bin .lss (.tmp 26) (.tmp 25)), none, 0⟩])
 (.seq (.cond (.tmp 27) .skip (.exit 0))
 (.seq (.block 1 (.seq (.reg 0 [⟨(some 28), (.iaddrS 1 (.tmp 24) (.tmp 26)), none, 0⟩, ⟨(some 29), (.load 1 false (.tmp 28)), none, 0⟩, ⟨(some 12), (.mv (.tmp 29)), none, 0⟩])
 (.seq (.block 2 (.seq (.reg 0 [⟨(some 31), (.mv (.tmp 12)), none, 0⟩, ⟨(some 32), (.mv (.tmp 0)), none, 0⟩, ⟨(some 33), (.len (.tmp 32)), none, 0⟩, ⟨(some 34), (.bin .sub (.tmp 33) (.val (.lit (.int .i64 1)))), none, 0⟩, ⟨(some 35), (.call false (.val (.lit (.func (.func 80) #[] #[]))) [(.tmp 31), (.val (.lit (.int .i64 0))), (.tmp 34)]), none, 0⟩, ⟨(some 36), (.not (.tmp 35)), none, 0⟩, ⟨(some 30), (.mv (.tmp 36)), none, 0⟩])
 (.cond (.tmp 30) (.seq (.reg 0 [⟨(some 6), (.mv (.val (.lit (.int .i64 0)))), none, 0⟩, ⟨(some 7), (.mv (.val (.lit (.int .i64 6)))), none, 0⟩])
 .ret) (.seq (.reg 0 [⟨(some 38), (.mv (.tmp 0)), none, 0⟩, ⟨(some 39), (.mv (.tmp 12)), none, 0⟩, ⟨(some 40), (.iaddrS 3 (.tmp 38) (.tmp 39)), none, 0⟩, ⟨(some 41), (.faddr 1 (.tmp 40)), none, 0⟩, ⟨(some 42), (.load 1 false (.tmp 41)), none, 0⟩, ⟨(some 43), (.mv (.tmp 10)), none, 0⟩, ⟨(some 44), (.bin .geq (.tmp 42) (.tmp 43)), none, 0⟩, ⟨(some 37), (.mv (.tmp 44)), none, 0⟩])
 (.cond (.tmp 37) (.seq (.reg 0 [⟨(some 6), (.mv (.val (.lit (.int .i64 0)))), none, 0⟩, ⟨(some 7), (.mv (.val (.lit (.int .i64 9)))), none, 0⟩])
 .ret) .skip)))))
 (.dreg 0 [(0, ⟨(some 45), (.mv (.tmp 9)), none, 0⟩), (1, ⟨(some 46), (.mv (.tmp 0)), none, 0⟩), (2, ⟨(some 47), (.mv (.tmp 12)), none, 0⟩), (3, ⟨(some 48), (.iaddrS 3 (.tmp 46) (.tmp 47)), none, 0⟩), (4, ⟨(some 49), (.load 3 true (.tmp 48)), none, 0⟩), (5, ⟨(some 50), (.mv (.tmp 10)), none, 0⟩), (6, ⟨(some 51), (.call false (.val (.lit (.func (.func 84) #[] #[]))) [(.tmp 49), (.tmp 50)]), none, 0⟩), (7, ⟨(some 52), (.bin .add (.tmp 45) (.tmp 51)), none, 0⟩), (8, ⟨(some 53), (.mv (.tmp 0)), none, 0⟩), (9, ⟨(some 54), (.mv (.tmp 12)), none, 0⟩), (10, ⟨(some 55), (.iaddrS 3 (.tmp 53) (.tmp 54)), none, 0⟩), (11, ⟨(some 56), (.faddr 1 (.tmp 55)), none, 0⟩), (12, ⟨(some 57), (.load 1 false (.tmp 56)), none, 0⟩), (13, ⟨(some 9), (.mv (.tmp 52)), none, 0⟩), (14, ⟨(some 10), (.mv (.tmp 57)), none, 0⟩)] [[], [], [], [1, 2], [3, 1, 2], [], [4, 5, 3, 1, 2], [0, 6, 4, 5, 3, 1, 2], [], [], [8, 9], [10, 8, 9], [11, 10, 8, 9], [7, 6, 0, 1, 2, 3, 4, 5], [12, 13, 0, 1, 2, 3, 4, 5, 6, 7, 8, 9, 10, 11]]))))
 (.reg 0 [⟨(some 58), (.bin .add (.tmp 26) (.val (.lit (.int .i64 1)))), none, 0⟩, ⟨(some 26), (.mv (.tmp 58)), none, 0⟩]))))
def c52 : ACode :=
 (.seq (.reg 1 [⟨(some 5), (.box 2 (.tmp 2)), none, 0⟩, ⟨(some 6), (.mv (.val (.lit (.int .i64 0)))), none, 1⟩, ⟨(some 7), (.mv (.val (.lit (.int .i64 0)))), none, 1⟩])
 (.seq (.seq (.reg 0 [⟨(some 13), (.mv (.tmp 0)), none, 0⟩, ⟨(some 14), (.load 2 true (.tmp 5)), none, 0⟩, ⟨(some 15), (.call false (.val (.lit (.func (.func 65) #[] #[]))) [(.tmp 13), (.tmp 14)]), none, 0⟩, ⟨(some 8), (.mv (.tmp 15)), none, 0⟩])
 (.seq (.reg 0 [⟨(some 16), (.mv (.tmp 8)), none, 0⟩, ⟨(some 17), (.bin .neq (.tmp 16) (.val (.lit (.int .i64 0)))), none, 0⟩])
 (.cond (.tmp 17) (.seq (.reg 0 [⟨(some 18), (.mv (.tmp 8)), none, 0⟩, ⟨(some 6), (.mv (.val (.lit (.int .i64 0)))), none, 0⟩, ⟨(some 7), (.mv (.tmp 18)), none, 0⟩])
 .ret) .skip)))
 (.seq (.seq (.reg 0 [⟨(some 19), (.mv (.tmp 1)), none, 0⟩, ⟨(some 20), (.len (.tmp 19)), none, 0⟩, ⟨(some 21), (.bin .gtr (.tmp 20) (.val (.lit (.int .i64 12)))), none, 0⟩])
 (.cond (.tmp 21) (.seq (.reg 0 [⟨(some 6), (.mv (.val (.lit (.int .i64 0)))), none, 0⟩, ⟨(some 7), (.mv (.val (.lit (.int .i64 8)))), none, 0⟩])
 .ret) .skip))
 (.seq (.dreg 0 [(0, ⟨(some 22), (.iaddrA 2 1 (.tmp 5) (.val (.lit (.int .i64 0)))), none, 0⟩), (1, ⟨(some 23), (.load 1 false (.tmp 22)), none, 0⟩), (2, ⟨(some 9), (.mv (.val (.lit (.int .i64 0)))), none, 0⟩), (3, ⟨(some 10), (.mv (.tmp 23)), none, 0⟩)] [[], [0], [], [1, 2, 0]])
 (.seq (.seq (.reg 0 [⟨(some 24), (.mv (.tmp 1)), none, 0⟩, ⟨(some 25), (.len (.tmp 24)), none, 0⟩, ⟨(some 26), (.mv (.val (.lit (.int .i64 0)))), none, 0⟩])
 (.block 0 (.loop c52l0)))
 (.seq (.seq (.reg 0 [⟨(some 59), (.mv (.tmp 10)), none, 0⟩, ⟨(some 60), (.iaddrA 2 1 (.tmp 5) (.val (.lit (.int .i64 1)))), none, 0⟩, ⟨(some 61), (.load 1 false (.tmp 60)), none, 0⟩, ⟨(some 62), (.bin .gtr (.tmp 59) (.tmp 61)), none, 0⟩])
 (.cond (.tmp 62) (.seq (.reg 0 [⟨(some 6), (.mv (.val (.lit (.int .i64 0)))), none, 0⟩, ⟨(some 7), (.mv (.val (.lit (.int .i64 14)))), none, 0⟩])
 .ret) .skip))
 (.seq (.reg 0 [⟨(some 63), (.mv (.tmp 9)), none, 0⟩, ⟨(some 6), (.mv (.tmp 63)), none, 0⟩, ⟨(some 7), (.mv (.val (.lit (.int .i64 0)))), none, 0⟩])
 .ret)))))))
theorem e52 : envOf Try.prog muts 52 = some (64, c52, [(Go.Abs.ARes.tmp 6), (Go.Abs.ARes.tmp 7)]) := by kernel_rfl
def c53 : ACode :=
 (.seq (.reg 0 [⟨(some 2), (.mv (.val (.sl true 0 []))), none, 0⟩])
 (.seq (.reg 2 [⟨(some 3), (.bslice 1 0 [(.lit (.int .i64 0))] []), none, 0⟩, ⟨(some 4), (.mv (.tmp 0)), none, 1⟩, ⟨(some 5), (.app 1 8 (.tmp 3) (.tmp 4)), none, 1⟩, ⟨(some 2), (.mv (.tmp 5)), none, 2⟩])
 .ret))
theorem e53 : envOf Try.prog muts 53 = some (6, c53, [(Go.Abs.ARes.tmp 2)]) := by kernel_rfl
def c55 : ACode :=
 (.seq (.reg 1 [⟨(some 3), (.box 2 (.tmp 1)), none, 0⟩, ⟨(some 4), (.mv (.val (.sl true 0 []))), none, 1⟩, ⟨(some 5), (.mv (.val (.lit (.int .i64 0)))), none, 1⟩, ⟨(some 6), (.mv (.val (.lit (.int .i64 0)))), none, 1⟩])
 (.seq (.seq (.reg 0 [⟨(some 8), (.iaddrA 2 1 (.tmp 3) (.val (.lit (.int .i64 0)))), none, 0⟩, ⟨(some 9), (.load 1 false (.tmp 8)), none, 0⟩, ⟨(some 10), (.call false (.val (.lit (.func (.func 46) #[] #[]))) [(.tmp 9)]), none, 0⟩, ⟨(some 11), (.not (.tmp 10)), none, 0⟩, ⟨(some 12), (.mv (.tmp 11)), none, 0⟩, ⟨(some 13), (.iaddrA 2 1 (.tmp 3) (.val (.lit (.int .i64 1)))), (some (12, false)), 0⟩, ⟨(some 14), (.load 1 false (.tmp 13)), (some (12, false)), 0⟩, ⟨(some 15), (.call false (.val (.lit (.func (.func 46) #[] #[]))) [(.tmp 14)]), (some (12, false)), 0⟩, ⟨(some 16), (.not (.tmp 15)), (some (12, false)), 0⟩, ⟨(some 17), (.pick (.tmp 12) (.val (.lit (.bool true))) (.tmp 16)), none, 0⟩])
 (.cond (.tmp 17) (.seq (.reg 0 [⟨(some 4), (.mv (.val (.sl true 0 []))), none, 0⟩, ⟨(some 5), (.mv (.val (.lit (.int .i64 0)))), none, 0⟩, ⟨(some 6), (.mv (.val (.lit (.int .i64 2)))), none, 0⟩])
 .ret) .skip))
 (.seq (.reg 1 [⟨(some 18), (.build [(.sl true 0 []), (.lit (.int .i64 0)), (.lit (.bool false))] []), none, 0⟩, ⟨(some 19), (.box 3 (.tmp 18)), none, 0⟩, ⟨(some 7), (.mv (.tmp 19)), none, 1⟩])
 (.seq (.reg 0 [⟨(some 20), (.mv (.tmp 7)), none, 0⟩, ⟨(some 21), (.mv (.tmp 0)), none, 0⟩, ⟨(some 22), (.iaddrA 2 1 (.tmp 3) (.val (.lit (.int .i64 0)))), none, 0⟩, ⟨(some 23), (.load 1 false (.tmp 22)), none, 0⟩, ⟨(some 24), (.iaddrA 2 1 (.tmp 3) (.val (.lit (.int .i64 1)))), none, 0⟩, ⟨(some 25), (.load 1 false (.tmp 24)), none, 0⟩, ⟨(some 26), (.call true (.val (.lit (.func (.func 94) #[] #[]))) [(.tmp 20), (.tmp 21), (.val (.sl true 0 [])), (.val (.lit (.int .i64 0))), (.tmp 23), (.tmp 25)]), none, 0⟩])
 (.seq (.seq (.reg 0 [⟨(some 27), (.mv (.tmp 7)), none, 0⟩, ⟨(some 28), (.nilck (.tmp 27)), none, 0⟩, ⟨(some 29), (.faddr 2 (.tmp 28)), none, 0⟩, ⟨(some 30), (.load 1 false (.tmp 29)), none, 0⟩, ⟨(some 31), (.not (.tmp 30)), none, 0⟩])
 (.cond (.tmp 31) (.seq (.reg 0 [⟨(some 4), (.mv (.val (.sl true 0 []))), none, 0⟩, ⟨(some 5), (.mv (.val (.lit (.int .i64 0)))), none, 0⟩, ⟨(some 6), (.mv (.val (.lit (.int .i64 12)))), none, 0⟩])
 .ret) .skip))
 (.seq (.dreg 0 [(0, ⟨(some 32), (.mv (.tmp 7)), none, 0⟩), (1, ⟨(some 33), (.nilck (.tmp 32)), none, 0⟩), (2, ⟨(some 34), (.faddr 0 (.tmp 33)), none, 0⟩), (3, ⟨(some 35), (.load 1 false (.tmp 34)), none, 0⟩), (4, ⟨(some 36), (.mv (.tmp 7)), none, 0⟩), (5, ⟨(some 37), (.nilck (.tmp 36)), none, 0⟩), (6, ⟨(some 38), (.faddr 1 (.tmp 37)), none, 0⟩), (7, ⟨(some 39), (.load 1 false (.tmp 38)), none, 0⟩), (8, ⟨(some 4), (.mv (.tmp 35)), none, 0⟩), (9, ⟨(some 5), (.mv (.tmp 39)), none, 0⟩), (10, ⟨(some 6), (.mv (.val (.lit (.int .i64 0)))), none, 0⟩)] [[], [0], [1, 0], [2, 1, 0], [], [4], [5, 4], [6, 5, 4], [3, 0, 1, 2], [7, 8, 0, 1, 2, 3, 4, 5, 6], [9, 0, 1, 2, 3, 4, 5, 6, 7, 8]])
 .ret))))))
theorem e55 : envOf Try.prog muts 55 = some (40, c55, [(Go.Abs.ARes.tmp 4), (Go.Abs.ARes.tmp 5), (Go.Abs.ARes.tmp 6)]) := by kernel_rfl
def c65 : ACode :=
 (.seq (.reg 1 [⟨(some 3), (.box 2 (.tmp 1)), none, 0⟩, ⟨(some 4), (.mv (.val (.lit (.int .i64 0)))), none, 1⟩])
 (.seq (.seq (.reg 0 [⟨(some 6), (.mv (.tmp 0)), none, 0⟩, ⟨(some 7), (.call false (.val (.lit (.func (.func 45) #[] #[]))) [(.tmp 6)]), none, 0⟩, ⟨(some 5), (.mv (.tmp 7)), none, 0⟩])
 (.seq (.reg 0 [⟨(some 8), (.mv (.tmp 5)), none, 0⟩, ⟨(some 9), (.bin .neq (.tmp 8) (.val (.lit (.int .i64 0)))), none, 0⟩])
 (.cond (.tmp 9) (.seq (.reg 0 [⟨(some 10), (.mv (.tmp 5)), none, 0⟩, ⟨(some 4), (.mv (.tmp 10)), none, 0⟩])
 .ret) .skip)))
 (.seq (.seq (.reg 0 [⟨(some 11), (.iaddrA 2 1 (.tmp 3) (.val (.lit (.int .i64 0)))), none, 0⟩, ⟨(some 12), (.load 1 false (.tmp 11)), none, 0⟩, ⟨(some 13), (.call false (.val (.lit (.func (.func 80) #[] #[]))) [(.tmp 12), (.val (.lit (.int .i64 0))), (.val (.lit (.int .i64 1000000)))]), none, 0⟩, ⟨(some 14), (.not (.tmp 13)), none, 0⟩, ⟨(some 15), (.mv (.tmp 14)), none, 0⟩, ⟨(some 16), (.iaddrA 2 1 (.tmp 3) (.val (.lit (.int .i64 1)))), (some (15, false)), 0⟩, ⟨(some 17), (.load 1 false (.tmp 16)), (some (15, false)), 0⟩, ⟨(some 18), (.call false (.val (.lit (.func (.func 80) #[] #[]))) [(.tmp 17), (.val (.lit (.int .i64 0))), (.val (.lit (.int .i64 1000000)))]), (some (15, false)), 0⟩, ⟨(some 19), (.not (.tmp 18)), (some (15, false)), 0⟩, ⟨(some 20), (.pick (.tmp 15) (.val (.lit (.bool true))) (.tmp 19)), none, 0⟩])
 (.cond (.tmp 20) (.seq (.reg 0 [⟨(some 4), (.mv (.val (.lit (.int .i64 2)))), none, 0⟩])
 .ret) .skip))
 (.seq (.reg 0 [⟨(some 4), (.mv (.val (.lit (.int .i64 0)))), none, 0⟩])
 .ret))))
theorem e65 : envOf Try.prog muts 65 = some (21, c65, [(Go.Abs.ARes.tmp 4)]) := by kernel_rfl
def c66l0 : ACode :=
 (.seq (.reg 0 [⟨(some 18), (.bin .lss (.tmp 17) (.tmp 16)), none, 0⟩])
 (.seq (.cond (.tmp 18) .skip (.exit 0))
 (.seq (.block 1 (.seq (.reg 1 [⟨(some 19), (.mv (.tmp 17)), none, 0⟩, ⟨(some 20), (.iaddrS 3 (.tmp 15) (.tmp 17)), none, 0⟩, ⟨(some 21), (.load 3 true (.tmp 20)), none, 0⟩, ⟨(some 9), (.alloc [(.lit (.string ⟨#[]⟩)), (.lit (.int .i64 0)), (.lit (.int .i64 0))]), none, 0⟩, ⟨(some 8), (.mv (.tmp 19)), none, 1⟩, ⟨none, (.store 3 (.tmp 9) (.tmp 21)), none, 1⟩])
 (.seq (.seq (.reg 0 [⟨(some 22), (.faddr 1 (.tmp 9)), none, 0⟩, ⟨(some 23), (.load 1 false (.tmp 22)), none, 0⟩, ⟨(some 24), (.mv (.tmp 1)), none, 0⟩, ⟨(some 25), (.bin .geq (.tmp 23) (.tmp 24)), none, 0⟩])
 (.cond (.tmp 25) (.exit 1) .skip))
 (.seq (.reg 1 [⟨(some 26), (.mv (.tmp 0)), none, 0⟩, ⟨(some 27), (.faddr 1 (.tmp 9)), none, 0⟩, ⟨(some 28), (.load 1 false (.tmp 27)), none, 0⟩, ⟨(some 29), (.mv (.tmp 2)), none, 0⟩, ⟨(some 30), (.call false (.val (.lit (.func (.func 66) #[] #[]))) [(.tmp 26), (.tmp 28), (.tmp 29)]), none, 0⟩, ⟨(some 10), (.alloc [(.sl true 0 []), (.lit (.int .i64 0)), (.lit (.bool false))]), none, 0⟩, ⟨none, (.store 3 (.tmp 10) (.tmp 30)), none, 1⟩])
 (.seq (.reg 2 [⟨(some 31), (.mv (.tmp 8)), none, 0⟩, ⟨(some 32), (.bslice 1 1 [(.lit (.int .i64 0))] [(0, (.tmp 31))]), none, 0⟩, ⟨(some 33), (.faddr 0 (.tmp 10)), none, 1⟩, ⟨(some 34), (.load 1 false (.tmp 33)), none, 1⟩, ⟨(some 35), (.app 1 8 (.tmp 32) (.tmp 34)), none, 1⟩, ⟨(some 36), (.faddr 0 (.tmp 10)), none, 2⟩, ⟨none, (.store 1 (.tmp 36) (.tmp 35)), none, 2⟩])
 (.seq (.dreg 0 [(0, ⟨(some 37), (.faddr 1 (.tmp 10)), none, 0⟩), (1, ⟨(some 38), (.load 1 false (.tmp 37)), none, 0⟩), (2, ⟨(some 39), (.load 3 true (.tmp 9)), none, 0⟩), (3, ⟨(some 40), (.mv (.tmp 1)), none, 0⟩), (4, ⟨(some 41), (.call false (.val (.lit (.func (.func 84) #[] #[]))) [(.tmp 39), (.tmp 40)]), none, 0⟩), (5, ⟨(some 42), (.bin .add (.tmp 38) (.tmp 41)), none, 0⟩), (6, ⟨(some 43), (.faddr 1 (.tmp 10)), none, 0⟩), (7, ⟨none, (.store 1 (.tmp 43) (.tmp 42)), none, 0⟩)] [[], [0], [], [], [2, 3], [1, 4, 0, 2, 3], [0, 1, 2, 3, 4, 5], [6, 5, 4, 0, 1, 2, 3]])
 (.seq (.reg 0 [⟨(some 44), (.load 3 true (.tmp 10)), none, 0⟩, ⟨(some 45), (.load 3 true (.tmp 7)), none, 0⟩, ⟨(some 46), (.call false (.val (.lit (.func (.func 98) #[] #[]))) [(.tmp 44), (.tmp 45)]), none, 0⟩])
 (.cond (.tmp 46) (.reg 0 [⟨(some 47), (.load 3 true (.tmp 10)), none, 0⟩, ⟨none, (.store 3 (.tmp 7) (.tmp 47)), none, 0⟩]) .skip))))))))
 (.reg 0 [⟨(some 48), (.bin .add (.tmp 17) (.val (.lit (.int .i64 1)))), none, 0⟩, ⟨(some 17), (.mv (.tmp 48)), none, 0⟩]))))
def c66 : ACode :=
 (.seq (.reg 1 [⟨(some 6), (.alloc [(.sl true 0 []), (.lit (.int .i64 0)), (.lit (.bool false))]), none, 0⟩])
 (.seq (.seq (.reg 0 [⟨(some 11), (.mv (.tmp 1)), none, 0⟩, ⟨(some 12), (.mv (.tmp 2)), none, 0⟩, ⟨(some 13), (.bin .leq (.tmp 11) (.tmp 12)), none, 0⟩])
 (.cond (.tmp 13) (.seq (.reg 0 [⟨(some 14), (.build [(.sl true 0 []), (.lit (.int .i64 0)), (.lit (.bool false))] [(2, (1, (.val (.lit (.bool true)))))]), none, 0⟩, ⟨none, (.store 3 (.tmp 6) (.tmp 14)), none, 0⟩])
 .ret) .skip))
 (.seq (.reg 1 [⟨(some 7), (.alloc [(.sl true 0 []), (.lit (.int .i64 0)), (.lit (.bool false))]), none, 0⟩])
 (.seq (.seq (.reg 0 [⟨(some 15), (.mv (.tmp 0)), none, 0⟩, ⟨(some 16), (.len (.tmp 15)), none, 0⟩, ⟨(some 17), (.mv (.val (.lit (.int .i64 0)))), none, 0⟩])
 (.block 0 (.loop c66l0)))
 (.seq (.reg 0 [⟨(some 49), (.load 3 true (.tmp 7)), none, 0⟩, ⟨none, (.store 3 (.tmp 6) (.tmp 49)), none, 0⟩])
 .ret)))))
theorem e66 : envOf Try.prog muts 66 = some (50, c66, [(Go.Abs.ARes.cell 3 true 6)]) := by kernel_rfl
def c67 : ACode :=
 (.seq (.reg 0 [⟨(some 4), (.mv (.val (.lit (.int .i64 0)))), none, 0⟩])
 (.seq (.reg 0 [⟨(some 7), (.mv (.tmp 0)), none, 0⟩, ⟨(some 8), (.call false (.val (.lit (.func (.func 99) #[] #[]))) [(.tmp 7)]), none, 0⟩, ⟨(some 5), (.mv (.tmp 8)), none, 0⟩])
 (.seq (.reg 0 [⟨(some 9), (.mv (.tmp 1)), none, 0⟩, ⟨(some 10), (.call false (.val (.lit (.func (.func 99) #[] #[]))) [(.tmp 9)]), none, 0⟩, ⟨(some 6), (.mv (.tmp 10)), none, 0⟩])
 (.seq (.seq (.reg 0 [⟨(some 11), (.mv (.tmp 5)), none, 0⟩])
 (.cond (.tmp 11) (.seq (.seq (.reg 0 [⟨(some 12), (.mv (.tmp 6)), none, 0⟩])
 (.cond (.tmp 12) (.seq (.reg 0 [⟨(some 4), (.mv (.val (.lit (.int .i64 0)))), none, 0⟩])
 .ret) .skip))
 (.seq (.reg 0 [⟨(some 4), (.mv (.val (.lit (.int .i64 (-1))))), none, 0⟩])
 .ret)) .skip))
 (.seq (.seq (.reg 0 [⟨(some 13), (.mv (.tmp 6)), none, 0⟩])
 (.cond (.tmp 13) (.seq (.reg 0 [⟨(some 4), (.mv (.val (.lit (.int .i64 1)))), none, 0⟩])
 .ret) .skip))
 (.seq (.seq (.reg 0 [⟨(some 14), (.mv (.tmp 0)), none, 0⟩, ⟨(some 15), (.mv (.tmp 1)), none, 0⟩, ⟨(some 16), (.bin .lss (.tmp 14) (.tmp 15)), none, 0⟩])
 (.cond (.tmp 16) (.seq (.reg 0 [⟨(some 4), (.mv (.val (.lit (.int .i64 (-1))))), none, 0⟩])
 .ret) .skip))
 (.seq (.seq (.reg 0 [⟨(some 17), (.mv (.tmp 0)), none, 0⟩, ⟨(some 18), (.mv (.tmp 1)), none, 0⟩, ⟨(some 19), (.bin .gtr (.tmp 17) (.tmp 18)), none, 0⟩])
 (.cond (.tmp 19) (.seq (.reg 0 [⟨(some 4), (.mv (.val (.lit (.int .i64 1)))), none, 0⟩])
 .ret) .skip))
 (.seq (.reg 0 [⟨(some 4), (.mv (.val (.lit (.int .i64 0)))), none, 0⟩])
 .ret))))))))
theorem e67 : envOf Try.prog muts 67 = some (20, c67, [(Go.Abs.ARes.tmp 4)]) := by kernel_rfl
def c74 : ACode :=
 (.seq (.reg 0 [⟨(some 2), (.mv (.val (.lit (.bool false)))), none, 0⟩])
 (.seq (.reg 0 [⟨(some 3), (.mv (.tmp 0)), none, 0⟩, ⟨(some 4), (.bin .geq (.tmp 3) (.val (.lit (.int .u8 97)))), none, 0⟩, ⟨(some 5), (.mv (.tmp 4)), none, 0⟩, ⟨(some 6), (.mv (.tmp 0)), (some (5, true)), 0⟩, ⟨(some 7), (.bin .leq (.tmp 6) (.val (.lit (.int .u8 122)))), (some (5, true)), 0⟩, ⟨(some 8), (.pick (.tmp 5) (.tmp 7) (.val (.lit (.bool false)))), none, 0⟩, ⟨(some 9), (.mv (.tmp 8)), none, 0⟩, ⟨(some 10), (.mv (.tmp 0)), (some (9, false)), 0⟩, ⟨(some 11), (.bin .geq (.tmp 10) (.val (.lit (.int .u8 65)))), (some (9, false)), 0⟩, ⟨(some 12), (.mv (.tmp 11)), (some (9, false)), 0⟩, ⟨(some 13), (.mv (.tmp 0)), (some (12, true)), 0⟩, ⟨(some 14), (.bin .leq (.tmp 13) (.val (.lit (.int .u8 90)))), (some (12, true)), 0⟩, ⟨(some 15), (.pick (.tmp 12) (.tmp 14) (.val (.lit (.bool false)))), (some (9, false)), 0⟩, ⟨(some 16), (.pick (.tmp 9) (.val (.lit (.bool true))) (.tmp 15)), none, 0⟩, ⟨(some 2), (.mv (.tmp 16)), none, 0⟩])
 .ret))
theorem e74 : envOf Try.prog muts 74 = some (17, c74, [(Go.Abs.ARes.tmp 2)]) := by kernel_rfl
def c75 : ACode :=
 (.seq (.reg 0 [⟨(some 2), (.mv (.val (.lit (.bool false)))), none, 0⟩])
 (.seq (.reg 0 [⟨(some 3), (.mv (.tmp 0)), none, 0⟩, ⟨(some 4), (.bin .geq (.tmp 3) (.val (.lit (.int .u8 48)))), none, 0⟩, ⟨(some 5), (.mv (.tmp 4)), none, 0⟩, ⟨(some 6), (.mv (.tmp 0)), (some (5, true)), 0⟩, ⟨(some 7), (.bin .leq (.tmp 6) (.val (.lit (.int .u8 57)))), (some (5, true)), 0⟩, ⟨(some 8), (.pick (.tmp 5) (.tmp 7) (.val (.lit (.bool false)))), none, 0⟩, ⟨(some 2), (.mv (.tmp 8)), none, 0⟩])
 .ret))
theorem e75 : envOf Try.prog muts 75 = some (9, c75, [(Go.Abs.ARes.tmp 2)]) := by kernel_rfl
def c80 : ACode :=
 (.seq (.reg 0 [⟨(some 6), (.mv (.val (.lit (.bool false)))), none, 0⟩])
 (.seq (.reg 0 [⟨(some 7), (.mv (.tmp 0)), none, 0⟩, ⟨(some 8), (.mv (.tmp 1)), none, 0⟩, ⟨(some 9), (.bin .geq (.tmp 7) (.tmp 8)), none, 0⟩, ⟨(some 10), (.mv (.tmp 9)), none, 0⟩, ⟨(some 11), (.mv (.tmp 0)), (some (10, true)), 0⟩, ⟨(some 12), (.mv (.tmp 2)), (some (10, true)), 0⟩, ⟨(some 13), (.bin .leq (.tmp 11) (.tmp 12)), (some (10, true)), 0⟩, ⟨(some 14), (.pick (.tmp 10) (.tmp 13) (.val (.lit (.bool false)))), none, 0⟩, ⟨(some 6), (.mv (.tmp 14)), none, 0⟩])
 .ret))
theorem e80 : envOf Try.prog muts 80 = some (15, c80, [(Go.Abs.ARes.tmp 6)]) := by kernel_rfl
def c83 : ACode :=
 (.seq (.reg 0 [⟨(some 4), (.mv (.val (.lit (.int .i64 0)))), none, 0⟩])
 (.seq (.reg 0 [⟨(some 6), (.mv (.tmp 0)), none, 0⟩, ⟨(some 7), (.mv (.tmp 1)), none, 0⟩, ⟨(some 8), (.bin .quo (.tmp 6) (.tmp 7)), none, 0⟩, ⟨(some 5), (.mv (.tmp 8)), none, 0⟩])
 (.seq (.seq (.reg 0 [⟨(some 9), (.mv (.tmp 0)), none, 0⟩, ⟨(some 10), (.mv (.tmp 1)), none, 0⟩, ⟨(some 11), (.bin .rem (.tmp 9) (.tmp 10)), none, 0⟩, ⟨(some 12), (.bin .lss (.tmp 11) (.val (.lit (.int .i64 0)))), none, 0⟩])
 (.cond (.tmp 12) (.reg 0 [⟨(some 13), (.mv (.tmp 5)), none, 0⟩, ⟨(some 14), (.bin .sub (.tmp 13) (.val (.lit (.int .i64 1)))), none, 0⟩, ⟨(some 5), (.mv (.tmp 14)), none, 0⟩]) .skip))
 (.seq (.reg 0 [⟨(some 15), (.mv (.tmp 5)), none, 0⟩, ⟨(some 4), (.mv (.tmp 15)), none, 0⟩])
 .ret))))
theorem e83 : envOf Try.prog muts 83 = some (16, c83, [(Go.Abs.ARes.tmp 4)]) := by kernel_rfl
def c84 : ACode :=
 (.seq (.reg 1 [⟨(some 2), (.box 3 (.tmp 0)), none, 0⟩, ⟨(some 4), (.mv (.val (.lit (.int .i64 0)))), none, 1⟩])
 (.seq (.reg 0 [⟨(some 5), (.mv (.tmp 1)), none, 0⟩, ⟨(some 6), (.faddr 2 (.tmp 2)), none, 0⟩, ⟨(some 7), (.load 1 false (.tmp 6)), none, 0⟩, ⟨(some 8), (.bin .add (.tmp 5) (.tmp 7)), none, 0⟩, ⟨(some 9), (.bin .sub (.tmp 8) (.val (.lit (.int .i64 1)))), none, 0⟩, ⟨(some 10), (.faddr 2 (.tmp 2)), none, 0⟩, ⟨(some 11), (.load 1 false (.tmp 10)), none, 0⟩, ⟨(some 12), (.bin .quo (.tmp 9) (.tmp 11)), none, 0⟩, ⟨(some 4), (.mv (.tmp 12)), none, 0⟩])
 .ret))
theorem e84 : envOf Try.prog muts 84 = some (13, c84, [(Go.Abs.ARes.tmp 4)]) := by kernel_rfl
def c85l0 : ACode :=
 (.seq (.seq (.reg 0 [⟨(some 6), (.mv (.tmp 5)), none, 0⟩, ⟨(some 7), (.mv (.tmp 0)), none, 0⟩, ⟨(some 8), (.len (.tmp 7)), none, 0⟩, ⟨(some 9), (.bin .lss (.tmp 6) (.tmp 8)), none, 0⟩])
 (.cond (.tmp 9) .skip (.exit 0)))
 (.seq (.block 1 (.seq (.reg 0 [⟨(some 12), (.mv (.tmp 0)), none, 0⟩, ⟨(some 13), (.mv (.tmp 5)), none, 0⟩, ⟨(some 14), (.iaddrS 3 (.tmp 12) (.tmp 13)), none, 0⟩, ⟨(some 15), (.faddr 0 (.tmp 14)), none, 0⟩, ⟨(some 16), (.load 1 false (.tmp 15)), none, 0⟩, ⟨(some 17), (.mv (.tmp 1)), none, 0⟩, ⟨(some 18), (.bin .eql (.tmp 16) (.tmp 17)), none, 0⟩])
 (.cond (.tmp 18) (.seq (.reg 0 [⟨(some 19), (.mv (.tmp 5)), none, 0⟩, ⟨(some 4), (.mv (.tmp 19)), none, 0⟩])
 .ret) .skip)))
 (.reg 0 [⟨(some 10), (.mv (.tmp 5)), none, 0⟩, ⟨(some 11), (.bin .add (.tmp 10) (.val (.lit (.int .i64 1)))), none, 0⟩, ⟨(some 5), (.mv (.tmp 11)), none, 0⟩])))
def c85 : ACode :=
 (.seq (.reg 0 [⟨(some 4), (.mv (.val (.lit (.int .i64 0)))), none, 0⟩])
 (.seq (.seq (.reg 0 [⟨(some 5), (.mv (.val (.lit (.int .i64 0)))), none, 0⟩])
 (.block 0 (.loop c85l0)))
 (.seq (.reg 0 [⟨(some 4), (.mv (.val (.lit (.int .i64 (-1))))), none, 0⟩])
 .ret)))
theorem e85 : envOf Try.prog muts 85 = some (20, c85, [(Go.Abs.ARes.tmp 4)]) := by kernel_rfl
def c86l0 : ACode :=
 (.seq (.reg 0 [⟨(some 10), (.bin .lss (.tmp 9) (.tmp 8)), none, 0⟩])
 (.seq (.cond (.tmp 10) .skip (.exit 0))
 (.seq (.block 1 (.seq (.reg 0 [⟨(some 11), (.mv (.tmp 9)), none, 0⟩, ⟨(some 12), (.iaddrS 1 (.tmp 7) (.tmp 9)), none, 0⟩, ⟨(some 13), (.load 1 false (.tmp 12)), none, 0⟩, ⟨(some 3), (.mv (.tmp 11)), none, 0⟩, ⟨(some 4), (.mv (.tmp 13)), none, 0⟩])
 (.seq (.reg 0 [⟨(some 14), (.mv (.tmp 4)), none, 0⟩, ⟨(some 15), (.bin .geq (.tmp 14) (.val (.lit (.int .u8 97)))), none, 0⟩, ⟨(some 16), (.mv (.tmp 15)), none, 0⟩, ⟨(some 17), (.mv (.tmp 4)), (some (16, true)), 0⟩, ⟨(some 18), (.bin .leq (.tmp 17) (.val (.lit (.int .u8 122)))), (some (16, true)), 0⟩, ⟨(some 19), (.pick (.tmp 16) (.tmp 18) (.val (.lit (.bool false)))), none, 0⟩, ⟨(some 20), (.mv (.tmp 19)), none, 0⟩, ⟨(some 21), (.mv (.tmp 4)), (some (20, false)), 0⟩, ⟨(some 22), (.bin .geq (.tmp 21) (.val (.lit (.int .u8 65)))), (some (20, false)), 0⟩, ⟨(some 23), (.mv (.tmp 22)), (some (20, false)), 0⟩, ⟨(some 24), (.mv (.tmp 4)), (some (23, true)), 0⟩, ⟨(some 25), (.bin .leq (.tmp 24) (.val (.lit (.int .u8 90)))), (some (23, true)), 0⟩, ⟨(some 26), (.pick (.tmp 23) (.tmp 25) (.val (.lit (.bool false)))), (some (20, false)), 0⟩, ⟨(some 27), (.pick (.tmp 20) (.val (.lit (.bool true))) (.tmp 26)), none, 0⟩, ⟨(some 5), (.mv (.tmp 27)), none, 0⟩])
 (.seq (.reg 0 [⟨(some 28), (.mv (.tmp 5)), none, 0⟩, ⟨(some 29), (.not (.tmp 28)), none, 0⟩, ⟨(some 30), (.mv (.tmp 29)), none, 0⟩, ⟨(some 31), (.mv (.tmp 3)), (some (30, true)), 0⟩, ⟨(some 32), (.bin .eql (.tmp 31) (.val (.lit (.int .i64 0)))), (some (30, true)), 0⟩, ⟨(some 33), (.mv (.tmp 32)), (some (30, true)), 0⟩, ⟨(some 34), (.mv (.tmp 4)), (some (33, false)), 0⟩, ⟨(some 35), (.bin .neq (.tmp 34) (.val (.lit (.int .u8 45)))), (some (33, false)), 0⟩, ⟨(some 36), (.mv (.tmp 35)), (some (33, false)), 0⟩, ⟨(some 37), (.mv (.tmp 4)), (some (36, true)), 0⟩, ⟨(some 38), (.bin .lss (.tmp 37) (.val (.lit (.int .u8 48)))), (some (36, true)), 0⟩, ⟨(some 39), (.mv (.tmp 38)), (some (36, true)), 0⟩, ⟨(some 40), (.mv (.tmp 4)), (some (39, false)), 0⟩, ⟨(some 41), (.bin .gtr (.tmp 40) (.val (.lit (.int .u8 57)))), (some (39, false)), 0⟩, ⟨(some 42), (.pick (.tmp 39) (.val (.lit (.bool true))) (.tmp 41)), (some (36, true)), 0⟩, ⟨(some 43), (.pick (.tmp 36) (.tmp 42) (.val (.lit (.bool false)))), (some (33, false)), 0⟩, ⟨(some 44), (.pick (.tmp 33) (.val (.lit (.bool true))) (.tmp 43)), (some (30, true)), 0⟩, ⟨(some 45), (.pick (.tmp 30) (.tmp 44) (.val (.lit (.bool false)))), none, 0⟩])
 (.cond (.tmp 45) (.seq (.reg 0 [⟨(some 2), (.mv (.val (.lit (.bool false)))), none, 0⟩])
 .ret) .skip)))))
 (.reg 0 [⟨(some 46), (.bin .add (.tmp 9) (.val (.lit (.int .i64 1)))), none, 0⟩, ⟨(some 9), (.mv (.tmp 46)), none, 0⟩]))))
def c86 : ACode :=
 (.seq (.reg 0 [⟨(some 2), (.mv (.val (.lit (.bool false)))), none, 0⟩])
 (.seq (.seq (.reg 0 [⟨(some 6), (.mv (.tmp 0)), none, 0⟩, ⟨(some 7), (.cvB (.tmp 6)), none, 0⟩, ⟨(some 8), (.len (.tmp 7)), none, 0⟩, ⟨(some 9), (.mv (.val (.lit (.int .i64 0)))), none, 0⟩])
 (.block 0 (.loop c86l0)))
 (.seq (.reg 0 [⟨(some 47), (.mv (.tmp 0)), none, 0⟩, ⟨(some 48), (.bin .neq (.tmp 47) (.val (.lit (.string ⟨#[]⟩)))), none, 0⟩, ⟨(some 49), (.mv (.tmp 48)), none, 0⟩, ⟨(some 50), (.mv (.tmp 0)), (some (49, true)), 0⟩, ⟨(some 51), (.lenS (.tmp 50)), (some (49, true)), 0⟩, ⟨(some 52), (.bin .leq (.tmp 51) (.val (.lit (.int .i64 12)))), (some (49, true)), 0⟩, ⟨(some 53), (.pick (.tmp 49) (.tmp 52) (.val (.lit (.bool false)))), none, 0⟩, ⟨(some 2), (.mv (.tmp 53)), none, 0⟩])
 .ret)))
theorem e86 : envOf Try.prog muts 86 = some (54, c86, [(Go.Abs.ARes.tmp 2)]) := by kernel_rfl
def c87 : ACode :=
 (.seq (.reg 0 [⟨(some 4), (.mv (.val (.lit (.bool false)))), none, 0⟩])
 (.seq (.seq (.reg 0 [⟨(some 5), (.mv (.tmp 0)), none, 0⟩, ⟨(some 6), (.mv (.tmp 1)), none, 0⟩, ⟨(some 7), (.mlook .str false (.bool false) (.tmp 5) (.tmp 6)), none, 0⟩])
 (.cond (.tmp 7) (.seq (.reg 0 [⟨(some 4), (.mv (.val (.lit (.bool true)))), none, 0⟩])
 .ret) .skip))
 (.seq (.reg 0 [⟨(some 8), (.mv (.tmp 0)), none, 0⟩, ⟨(some 9), (.mv (.tmp 1)), none, 0⟩, ⟨none, (.mset .str (.tmp 8) (.tmp 9) (.val (.lit (.bool true)))), none, 0⟩])
 (.seq (.reg 0 [⟨(some 4), (.mv (.val (.lit (.bool false)))), none, 0⟩])
 .ret))))
theorem e87 : envOf Try.prog muts 87 = some (10, c87, [(Go.Abs.ARes.tmp 4)]) := by kernel_rfl
def c94l0 : ACode :=
 (.seq (.seq (.reg 0 [⟨(some 79), (.mv (.tmp 13)), none, 0⟩, ⟨(some 80), (.mv (.tmp 1)), none, 0⟩, ⟨(some 81), (.len (.tmp 80)), none, 0⟩, ⟨(some 82), (.bin .lss (.tmp 79) (.tmp 81)), none, 0⟩])
 (.cond (.tmp 82) .skip (.exit 0)))
 (.seq (.block 1 (.seq (.reg 0 [⟨(some 85), (.mv (.tmp 1)), none, 0⟩, ⟨(some 86), (.mv (.tmp 13)), none, 0⟩, ⟨(some 87), (.iaddrS 3 (.tmp 85) (.tmp 86)), none, 0⟩, ⟨(some 88), (.faddr 1 (.tmp 87)), none, 0⟩, ⟨(some 89), (.load 1 false (.tmp 88)), none, 0⟩, ⟨(some 90), (.mv (.tmp 4)), none, 0⟩, ⟨(some 91), (.bin .lss (.tmp 89) (.tmp 90)), none, 0⟩])
 (.cond (.tmp 91) (.dreg 2 [(0, ⟨(some 92), (.mv (.tmp 0)), none, 0⟩), (1, ⟨(some 93), (.mv (.tmp 1)), none, 0⟩), (2, ⟨(some 94), (.mv (.tmp 2)), none, 0⟩), (3, ⟨(some 95), (.call false (.val (.lit (.func (.func 53) #[] #[]))) [(.tmp 94)]), none, 0⟩), (4, ⟨(some 96), (.mv (.tmp 13)), none, 0⟩), (5, ⟨(some 97), (.bslice 1 1 [(.lit (.int .i64 0))] [(0, (.tmp 96))]), none, 0⟩), (6, ⟨(some 98), (.app 1 8 (.tmp 95) (.tmp 97)), none, 1⟩), (7, ⟨(some 99), (.mv (.tmp 3)), none, 2⟩), (8, ⟨(some 100), (.mv (.tmp 4)), none, 2⟩), (9, ⟨(some 101), (.mv (.tmp 1)), none, 2⟩), (10, ⟨(some 102), (.mv (.tmp 13)), none, 2⟩), (11, ⟨(some 103), (.iaddrS 3 (.tmp 101) (.tmp 102)), none, 2⟩), (12, ⟨(some 104), (.faddr 2 (.tmp 103)), none, 2⟩), (13, ⟨(some 105), (.load 1 false (.tmp 104)), none, 2⟩), (14, ⟨(some 106), (.call false (.val (.lit (.func (.func 47) #[] #[]))) [(.tmp 100), (.tmp 105)]), none, 2⟩), (15, ⟨(some 107), (.bin .add (.tmp 99) (.tmp 106)), none, 2⟩), (16, ⟨(some 108), (.mv (.tmp 1)), none, 2⟩), (17, ⟨(some 109), (.mv (.tmp 13)), none, 2⟩), (18, ⟨(some 110), (.iaddrS 3 (.tmp 108) (.tmp 109)), none, 2⟩), (19, ⟨(some 111), (.faddr 1 (.tmp 110)), none, 2⟩), (20, ⟨(some 112), (.load 1 false (.tmp 111)), none, 2⟩), (21, ⟨(some 113), (.mv (.tmp 5)), none, 2⟩), (22, ⟨(some 114), (.call true (.val (.lit (.func (.func 94) #[] #[]))) [(.tmp 92), (.tmp 93), (.tmp 98), (.tmp 107), (.tmp 112), (.tmp 113)]), none, 2⟩)] [[], [], [], [2], [], [4], [3, 5, 2, 4], [], [], [], [], [9, 10], [11, 9, 10], [12, 11, 9, 10], [8, 13, 6, 12, 11, 9, 10, 3, 5, 2, 4], [7, 14, 8, 13, 6, 12, 11, 9, 10, 3, 5, 2, 4], [], [], [16, 17], [18, 16, 17], [19, 18, 16, 17], [], [0, 1, 6, 15, 20, 21, 14, 3, 5, 2, 4, 7, 8, 13, 12, 11, 9, 10, 19, 18, 16, 17]]) .skip)))
 (.reg 0 [⟨(some 83), (.mv (.tmp 13)), none, 0⟩, ⟨(some 84), (.bin .add (.tmp 83) (.val (.lit (.int .i64 1)))), none, 0⟩, ⟨(some 13), (.mv (.tmp 84)), none, 0⟩])))
def c94 : ACode :=
 (.seq (.seq (.reg 0 [⟨(some 14), (.mv (.tmp 4)), none, 0⟩, ⟨(some 15), (.mv (.tmp 5)), none, 0⟩, ⟨(some 16), (.bin .leq (.tmp 14) (.tmp 15)), none, 0⟩])
 (.cond (.tmp 16) (.seq (.reg 0 [⟨(some 17), (.mv (.tmp 0)), none, 0⟩, ⟨(some 18), (.nilck (.tmp 17)), none, 0⟩, ⟨(some 19), (.faddr 2 (.tmp 18)), none, 0⟩, ⟨(some 20), (.load 1 false (.tmp 19)), none, 0⟩, ⟨(some 21), (.not (.tmp 20)), none, 0⟩, ⟨(some 22), (.mv (.tmp 21)), none, 0⟩, ⟨(some 23), (.mv (.tmp 3)), (some (22, false)), 0⟩, ⟨(some 24), (.mv (.tmp 0)), (some (22, false)), 0⟩, ⟨(some 25), (.nilck (.tmp 24)), (some (22, false)), 0⟩, ⟨(some 26), (.faddr 1 (.tmp 25)), (some (22, false)), 0⟩, ⟨(some 27), (.load 1 false (.tmp 26)), (some (22, false)), 0⟩, ⟨(some 28), (.bin .lss (.tmp 23) (.tmp 27)), (some (22, false)), 0⟩, ⟨(some 29), (.pick (.tmp 22) (.val (.lit (.bool true))) (.tmp 28)), none, 0⟩, ⟨(some 30), (.mv (.tmp 29)), none, 0⟩, ⟨(some 31), (.mv (.tmp 3)), (some (30, false)), 0⟩, ⟨(some 32), (.mv (.tmp 0)), (some (30, false)), 0⟩, ⟨(some 33), (.nilck (.tmp 32)), (some (30, false)), 0⟩, ⟨(some 34), (.faddr 1 (.tmp 33)), (some (30, false)), 0⟩, ⟨(some 35), (.load 1 false (.tmp 34)), (some (30, false)), 0⟩, ⟨(some 36), (.bin .eql (.tmp 31) (.tmp 35)), (some (30, false)), 0⟩, ⟨(some 37), (.mv (.tmp 36)), (some (30, false)), 0⟩, ⟨(some 38), (.mv (.tmp 2)), (some (37, true)), 0⟩, ⟨(some 39), (.len (.tmp 38)), (some (37, true)), 0⟩, ⟨(some 40), (.mv (.tmp 0)), (some (37, true)), 0⟩, ⟨(some 41), (.nilck (.tmp 40)), (some (37, true)), 0⟩, ⟨(some 42), (.faddr 0 (.tmp 41)), (some (37, true)), 0⟩, ⟨(some 43), (.load 1 false (.tmp 42)), (some (37, true)), 0⟩, ⟨(some 44), (.len (.tmp 43)), (some (37, true)), 0⟩, ⟨(some 45), (.bin .lss (.tmp 39) (.tmp 44)), (some (37, true)), 0⟩, ⟨(some 46), (.mv (.tmp 45)), (some (37, true)), 0⟩, ⟨(some 47), (.mv (.tmp 2)), (some (46, false)), 0⟩, ⟨(some 48), (.len (.tmp 47)), (some (46, false)), 0⟩, ⟨(some 49), (.mv (.tmp 0)), (some (46, false)), 0⟩, ⟨(some 50), (.nilck (.tmp 49)), (some (46, false)), 0⟩, ⟨(some 51), (.faddr 0 (.tmp 50)), (some (46, false)), 0⟩, ⟨(some 52), (.load 1 false (.tmp 51)), (some (46, false)), 0⟩, ⟨(some 53), (.len (.tmp 52)), (some (46, false)), 0⟩, ⟨(some 54), (.bin .eql (.tmp 48) (.tmp 53)), (some (46, false)), 0⟩, ⟨(some 55), (.mv (.tmp 54)), (some (46, false)), 0⟩, ⟨(some 56), (.mv (.tmp 2)), (some (55, true)), 0⟩, ⟨(some 57), (.mv (.tmp 0)), (some (55, true)), 0⟩, ⟨(some 58), (.nilck (.tmp 57)), (some (55, true)), 0⟩, ⟨(some 59), (.faddr 0 (.tmp 58)), (some (55, true)), 0⟩, ⟨(some 60), (.load 1 false (.tmp 59)), (some (55, true)), 0⟩, ⟨(some 61), (.call false (.val (.lit (.func (.func 111) #[] #[]))) [(.tmp 56), (.tmp 60)]), (some (55, true)), 0⟩, ⟨(some 62), (.pick (.tmp 55) (.tmp 61) (.val (.lit (.bool false)))), (some (46, false)), 0⟩, ⟨(some 63), (.pick (.tmp 46) (.val (.lit (.bool true))) (.tmp 62)), (some (37, true)), 0⟩, ⟨(some 64), (.pick (.tmp 37) (.tmp 63) (.val (.lit (.bool false)))), (some (30, false)), 0⟩, ⟨(some 65), (.pick (.tmp 30) (.val (.lit (.bool true))) (.tmp 64)), none, 0⟩, ⟨(some 12), (.mv (.tmp 65)), none, 0⟩])
 (.seq (.reg 0 [⟨(some 66), (.mv (.tmp 12)), none, 0⟩])
 (.cond (.tmp 66) (.reg 0 [⟨(some 67), (.mv (.tmp 0)), none, 0⟩, ⟨(some 68), (.mv (.tmp 0)), none, 0⟩, ⟨(some 69), (.mv (.tmp 0)), none, 0⟩, ⟨(some 70), (.mv (.tmp 2)), none, 0⟩, ⟨(some 71), (.call false (.val (.lit (.func (.func 53) #[] #[]))) [(.tmp 70)]), none, 0⟩, ⟨(some 72), (.mv (.tmp 3)), none, 0⟩, ⟨(some 73), (.nilck (.tmp 67)), none, 0⟩, ⟨(some 74), (.faddr 0 (.tmp 73)), none, 0⟩, ⟨none, (.store 1 (.tmp 74) (.tmp 71)), none, 0⟩, ⟨(some 75), (.nilck (.tmp 68)), none, 0⟩, ⟨(some 76), (.faddr 1 (.tmp 75)), none, 0⟩, ⟨none, (.store 1 (.tmp 76) (.tmp 72)), none, 0⟩, ⟨(some 77), (.nilck (.tmp 69)), none, 0⟩, ⟨(some 78), (.faddr 2 (.tmp 77)), none, 0⟩, ⟨none, (.store 1 (.tmp 78) (.val (.lit (.bool true)))), none, 0⟩]) .skip))) .skip))
 (.seq (.reg 0 [⟨(some 13), (.mv (.val (.lit (.int .i64 0)))), none, 0⟩])
 (.block 0 (.loop c94l0))))
theorem e94 : envOf Try.prog muts 94 = some (115, c94, []) := by kernel_rfl
def c98 : ACode :=
 (.seq (.reg 2 [⟨(some 2), (.box 3 (.tmp 0)), none, 0⟩, ⟨(some 3), (.box 3 (.tmp 1)), none, 1⟩, ⟨(some 4), (.mv (.val (.lit (.bool false)))), none, 2⟩])
 (.seq (.block 0 (.seq (.reg 0 [⟨(some 6), (.faddr 2 (.tmp 2)), none, 0⟩, ⟨(some 7), (.load 1 false (.tmp 6)), none, 0⟩, ⟨(some 8), (.not (.tmp 7)), none, 0⟩, ⟨(some 9), (.mv (.tmp 8)), none, 0⟩, ⟨(some 10), (.faddr 2 (.tmp 3)), (some (9, false)), 0⟩, ⟨(some 11), (.load 1 false (.tmp 10)), (some (9, false)), 0⟩, ⟨(some 12), (.not (.tmp 11)), (some (9, false)), 0⟩, ⟨(some 13), (.pick (.tmp 9) (.val (.lit (.bool true))) (.tmp 12)), none, 0⟩, ⟨(some 5), (.mv (.tmp 13)), none, 0⟩])
 (.cond (.tmp 5) (.seq (.reg 0 [⟨(some 14), (.faddr 2 (.tmp 2)), none, 0⟩, ⟨(some 15), (.load 1 false (.tmp 14)), none, 0⟩, ⟨(some 4), (.mv (.tmp 15)), none, 0⟩])
 .ret) (.seq (.reg 0 [⟨(some 17), (.faddr 1 (.tmp 2)), none, 0⟩, ⟨(some 18), (.load 1 false (.tmp 17)), none, 0⟩, ⟨(some 19), (.faddr 1 (.tmp 3)), none, 0⟩, ⟨(some 20), (.load 1 false (.tmp 19)), none, 0⟩, ⟨(some 21), (.bin .neq (.tmp 18) (.tmp 20)), none, 0⟩, ⟨(some 16), (.mv (.tmp 21)), none, 0⟩])
 (.cond (.tmp 16) (.seq (.reg 0 [⟨(some 22), (.faddr 1 (.tmp 2)), none, 0⟩, ⟨(some 23), (.load 1 false (.tmp 22)), none, 0⟩, ⟨(some 24), (.faddr 1 (.tmp 3)), none, 0⟩, ⟨(some 25), (.load 1 false (.tmp 24)), none, 0⟩, ⟨(some 26), (.bin .lss (.tmp 23) (.tmp 25)), none, 0⟩, ⟨(some 4), (.mv (.tmp 26)), none, 0⟩])
 .ret) (.seq (.reg 0 [⟨(some 28), (.faddr 0 (.tmp 2)), none, 0⟩, ⟨(some 29), (.load 1 false (.tmp 28)), none, 0⟩, ⟨(some 30), (.len (.tmp 29)), none, 0⟩, ⟨(some 31), (.faddr 0 (.tmp 3)), none, 0⟩, ⟨(some 32), (.load 1 false (.tmp 31)), none, 0⟩, ⟨(some 33), (.len (.tmp 32)), none, 0⟩, ⟨(some 34), (.bin .neq (.tmp 30) (.tmp 33)), none, 0⟩, ⟨(some 27), (.mv (.tmp 34)), none, 0⟩])
 (.cond (.tmp 27) (.seq (.reg 0 [⟨(some 35), (.faddr 0 (.tmp 2)), none, 0⟩, ⟨(some 36), (.load 1 false (.tmp 35)), none, 0⟩, ⟨(some 37), (.len (.tmp 36)), none, 0⟩, ⟨(some 38), (.faddr 0 (.tmp 3)), none, 0⟩, ⟨(some 39), (.load 1 false (.tmp 38)), none, 0⟩, ⟨(some 40), (.len (.tmp 39)), none, 0⟩, ⟨(some 41), (.bin .lss (.tmp 37) (.tmp 40)), none, 0⟩, ⟨(some 4), (.mv (.tmp 41)), none, 0⟩])
 .ret) .skip)))))))
 (.seq (.reg 0 [⟨(some 42), (.faddr 0 (.tmp 2)), none, 0⟩, ⟨(some 43), (.load 1 false (.tmp 42)), none, 0⟩, ⟨(some 44), (.faddr 0 (.tmp 3)), none, 0⟩, ⟨(some 45), (.load 1 false (.tmp 44)), none, 0⟩, ⟨(some 46), (.call false (.val (.lit (.func (.func 112) #[] #[]))) [(.tmp 43), (.tmp 45)]), none, 0⟩, ⟨(some 47), (.bin .lss (.tmp 46) (.val (.lit (.int .i64 0)))), none, 0⟩, ⟨(some 4), (.mv (.tmp 47)), none, 0⟩])
 .ret)))
theorem e98 : envOf Try.prog muts 98 = some (48, c98, [(Go.Abs.ARes.tmp 4)]) := by kernel_rfl
def c99 : ACode :=
 (.seq (.reg 0 [⟨(some 2), (.mv (.val (.lit (.bool false)))), none, 0⟩])
 (.seq (.reg 0 [⟨(some 3), (.mv (.tmp 0)), none, 0⟩, ⟨(some 4), (.mv (.tmp 0)), none, 0⟩, ⟨(some 5), (.bin .neq (.tmp 3) (.tmp 4)), none, 0⟩, ⟨(some 2), (.mv (.tmp 5)), none, 0⟩])
 .ret))
theorem e99 : envOf Try.prog muts 99 = some (6, c99, [(Go.Abs.ARes.tmp 2)]) := by kernel_rfl
def c111l0 : ACode :=
 (.seq (.seq (.reg 0 [⟨(some 6), (.mv (.tmp 5)), none, 0⟩, ⟨(some 7), (.mv (.tmp 0)), none, 0⟩, ⟨(some 8), (.len (.tmp 7)), none, 0⟩, ⟨(some 9), (.bin .lss (.tmp 6) (.tmp 8)), none, 0⟩, ⟨(some 10), (.mv (.tmp 9)), none, 0⟩, ⟨(some 11), (.mv (.tmp 5)), (some (10, true)), 0⟩, ⟨(some 12), (.mv (.tmp 1)), (some (10, true)), 0⟩, ⟨(some 13), (.len (.tmp 12)), (some (10, true)), 0⟩, ⟨(some 14), (.bin .lss (.tmp 11) (.tmp 13)), (some (10, true)), 0⟩, ⟨(some 15), (.pick (.tmp 10) (.tmp 14) (.val (.lit (.bool false)))), none, 0⟩])
 (.cond (.tmp 15) .skip (.exit 0)))
 (.seq (.block 1 (.seq (.dreg 0 [(0, ⟨(some 18), (.mv (.tmp 0)), none, 0⟩), (1, ⟨(some 19), (.mv (.tmp 5)), none, 0⟩), (2, ⟨(some 20), (.iaddrS 1 (.tmp 18) (.tmp 19)), none, 0⟩), (3, ⟨(some 21), (.load 1 false (.tmp 20)), none, 0⟩), (4, ⟨(some 22), (.mv (.tmp 1)), none, 0⟩), (5, ⟨(some 23), (.mv (.tmp 5)), none, 0⟩), (6, ⟨(some 24), (.iaddrS 1 (.tmp 22) (.tmp 23)), none, 0⟩), (7, ⟨(some 25), (.load 1 false (.tmp 24)), none, 0⟩), (8, ⟨(some 26), (.bin .neq (.tmp 21) (.tmp 25)), none, 0⟩)] [[], [], [0, 1], [2, 0, 1], [], [], [4, 5], [6, 4, 5], [3, 7, 2, 0, 1, 6, 4, 5]])
 (.cond (.tmp 26) (.seq (.dreg 0 [(0, ⟨(some 27), (.mv (.tmp 0)), none, 0⟩), (1, ⟨(some 28), (.mv (.tmp 5)), none, 0⟩), (2, ⟨(some 29), (.iaddrS 1 (.tmp 27) (.tmp 28)), none, 0⟩), (3, ⟨(some 30), (.load 1 false (.tmp 29)), none, 0⟩), (4, ⟨(some 31), (.mv (.tmp 1)), none, 0⟩), (5, ⟨(some 32), (.mv (.tmp 5)), none, 0⟩), (6, ⟨(some 33), (.iaddrS 1 (.tmp 31) (.tmp 32)), none, 0⟩), (7, ⟨(some 34), (.load 1 false (.tmp 33)), none, 0⟩), (8, ⟨(some 35), (.bin .lss (.tmp 30) (.tmp 34)), none, 0⟩), (9, ⟨(some 4), (.mv (.tmp 35)), none, 0⟩)] [[], [], [0, 1], [2, 0, 1], [], [], [4, 5], [6, 4, 5], [3, 7, 2, 0, 1, 6, 4, 5], [8, 0, 1, 2, 3, 4, 5, 6, 7]])
 .ret) .skip)))
 (.reg 0 [⟨(some 16), (.mv (.tmp 5)), none, 0⟩, ⟨(some 17), (.bin .add (.tmp 16) (.val (.lit (.int .i64 1)))), none, 0⟩, ⟨(some 5), (.mv (.tmp 17)), none, 0⟩])))
def c111 : ACode :=
 (.seq (.reg 0 [⟨(some 4), (.mv (.val (.lit (.bool false)))), none, 0⟩])
 (.seq (.seq (.reg 0 [⟨(some 5), (.mv (.val (.lit (.int .i64 0)))), none, 0⟩])
 (.block 0 (.loop c111l0)))
 (.seq (.reg 0 [⟨(some 36), (.mv (.tmp 0)), none, 0⟩, ⟨(some 37), (.len (.tmp 36)), none, 0⟩, ⟨(some 38), (.mv (.tmp 1)), none, 0⟩, ⟨(some 39), (.len (.tmp 38)), none, 0⟩, ⟨(some 40), (.bin .lss (.tmp 37) (.tmp 39)), none, 0⟩, ⟨(some 4), (.mv (.tmp 40)), none, 0⟩])
 .ret)))
theorem e111 : envOf Try.prog muts 111 = some (41, c111, [(Go.Abs.ARes.tmp 4)]) := by kernel_rfl
def c112l0 : ACode :=
 (.seq (.reg 0 [⟨(some 12), (.bin .lss (.tmp 11) (.tmp 10)), none, 0⟩])
 (.seq (.cond (.tmp 12) .skip (.exit 0))
 (.seq (.block 1 (.seq (.reg 0 [⟨(some 13), (.mv (.tmp 11)), none, 0⟩, ⟨(some 14), (.iaddrS 1 (.tmp 9) (.tmp 11)), none, 0⟩, ⟨(some 15), (.load 1 false (.tmp 14)), none, 0⟩, ⟨(some 5), (.mv (.tmp 13)), none, 0⟩, ⟨(some 6), (.mv (.tmp 15)), none, 0⟩])
 (.seq (.seq (.reg 0 [⟨(some 16), (.mv (.tmp 5)), none, 0⟩, ⟨(some 17), (.mv (.tmp 1)), none, 0⟩, ⟨(some 18), (.len (.tmp 17)), none, 0⟩, ⟨(some 19), (.bin .geq (.tmp 16) (.tmp 18)), none, 0⟩])
 (.cond (.tmp 19) (.seq (.reg 0 [⟨(some 4), (.mv (.val (.lit (.int .i64 1)))), none, 0⟩])
 .ret) .skip))
 (.seq (.reg 0 [⟨(some 20), (.mv (.tmp 1)), none, 0⟩, ⟨(some 21), (.mv (.tmp 5)), none, 0⟩, ⟨(some 22), (.iaddrS 1 (.tmp 20) (.tmp 21)), none, 0⟩, ⟨(some 23), (.load 1 false (.tmp 22)), none, 0⟩, ⟨(some 7), (.mv (.tmp 23)), none, 0⟩])
 (.seq (.reg 0 [⟨(some 24), (.mv (.tmp 6)), none, 0⟩, ⟨(some 25), (.mv (.tmp 7)), none, 0⟩, ⟨(some 26), (.call false (.val (.lit (.func (.func 67) #[] #[]))) [(.tmp 24), (.tmp 25)]), none, 0⟩, ⟨(some 8), (.mv (.tmp 26)), none, 0⟩])
 (.seq (.reg 0 [⟨(some 27), (.mv (.tmp 8)), none, 0⟩, ⟨(some 28), (.bin .neq (.tmp 27) (.val (.lit (.int .i64 0)))), none, 0⟩])
 (.cond (.tmp 28) (.seq (.reg 0 [⟨(some 29), (.mv (.tmp 8)), none, 0⟩, ⟨(some 4), (.mv (.tmp 29)), none, 0⟩])
 .ret) .skip)))))))
 (.reg 0 [⟨(some 30), (.bin .add (.tmp 11) (.val (.lit (.int .i64 1)))), none, 0⟩, ⟨(some 11), (.mv (.tmp 30)), none, 0⟩]))))
def c112 : ACode :=
 (.seq (.reg 0 [⟨(some 4), (.mv (.val (.lit (.int .i64 0)))), none, 0⟩])
 (.seq (.seq (.reg 0 [⟨(some 9), (.mv (.tmp 0)), none, 0⟩, ⟨(some 10), (.len (.tmp 9)), none, 0⟩, ⟨(some 11), (.mv (.val (.lit (.int .i64 0)))), none, 0⟩])
 (.block 0 (.loop c112l0)))
 (.seq (.seq (.reg 0 [⟨(some 31), (.mv (.tmp 0)), none, 0⟩, ⟨(some 32), (.len (.tmp 31)), none, 0⟩, ⟨(some 33), (.mv (.tmp 1)), none, 0⟩, ⟨(some 34), (.len (.tmp 33)), none, 0⟩, ⟨(some 35), (.bin .lss (.tmp 32) (.tmp 34)), none, 0⟩])
 (.cond (.tmp 35) (.seq (.reg 0 [⟨(some 4), (.mv (.val (.lit (.int .i64 (-1))))), none, 0⟩])
 .ret) .skip))
 (.seq (.reg 0 [⟨(some 4), (.mv (.val (.lit (.int .i64 0)))), none, 0⟩])
 .ret))))
theorem e112 : envOf Try.prog muts 112 = some (36, c112, [(Go.Abs.ARes.tmp 4)]) := by kernel_rfl
end Go.Abs
