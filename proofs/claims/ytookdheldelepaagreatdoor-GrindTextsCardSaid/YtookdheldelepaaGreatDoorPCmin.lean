import Derived.Test.YtookdheldelepaaGreatDoorAbs21
import Derived.KernelRfl
import Derived.Test.YtookdheldelepaaGreatDoorProg
set_option linter.all false
set_option linter.unusedVariables false
set_option linter.unusedSimpArgs false
set_option linter.unusedSectionVars false
/- The code of the functions that are walked, as the machine of these texts has it. -/
namespace Go.Abs
open Go.Proofs
abbrev muts : List FuncId := []
def c3 : ACode :=
 (.seq (.reg 1 [⟨(some 3), (.box 2 (.tmp 1)), none, 0⟩, ⟨(some 4), (.mv (.val (.lit (.bool false)))), none, 1⟩])
 (.seq (.seq (.reg 0 [⟨(some 14), (.call false (.val (.lit (.func (.func 5) #[] #[]))) []), none, 0⟩, ⟨(some 15), (.not (.tmp 14)), none, 0⟩])
 (.cond (.tmp 15) (.seq (.reg 0 [⟨(some 4), (.mv (.val (.lit (.bool false)))), none, 0⟩])
 .ret) .skip))
 (.seq (.seq (.reg 0 [⟨(some 16), (.mv (.tmp 0)), none, 0⟩, ⟨(some 17), (.call false (.val (.lit (.func (.func 6) #[] #[]))) [(.tmp 16)]), none, 0⟩, ⟨(some 18), (.not (.tmp 17)), none, 0⟩, ⟨(some 19), (.mv (.tmp 18)), none, 0⟩, ⟨(some 20), (.load 2 true (.tmp 3)), (some (19, false)), 0⟩, ⟨(some 21), (.call false (.val (.lit (.func (.func 7) #[] #[]))) [(.tmp 20)]), (some (19, false)), 0⟩, ⟨(some 22), (.not (.tmp 21)), (some (19, false)), 0⟩, ⟨(some 23), (.pick (.tmp 19) (.val (.lit (.bool true))) (.tmp 22)), none, 0⟩])
 (.cond (.tmp 23) (.seq (.reg 0 [⟨(some 4), (.mv (.val (.lit (.bool true)))), none, 0⟩])
 .ret) .skip))
 (.seq (.reg 0 [⟨(some 25), (.mv (.tmp 0)), none, 0⟩, ⟨(some 26), (.call false (.val (.lit (.func (.func 9) #[] #[]))) [(.tmp 25)]), none, 0⟩, ⟨(some 27), (.call false (.val (.lit (.func (.func 8) #[] #[]))) [(.tmp 26)]), none, 0⟩, ⟨(some 24), (.mv (.tmp 27)), none, 0⟩, ⟨(some 28), (.ext (.tmp 24) 0), none, 0⟩, ⟨(some 29), (.ext (.tmp 24) 1), none, 0⟩, ⟨(some 5), (.mv (.tmp 28)), none, 0⟩, ⟨(some 6), (.mv (.tmp 29)), none, 0⟩])
 (.seq (.reg 0 [⟨(some 31), (.mv (.tmp 0)), none, 0⟩, ⟨(some 32), (.call false (.val (.lit (.func (.func 9) #[] #[]))) [(.tmp 31)]), none, 0⟩, ⟨(some 33), (.call false (.val (.lit (.func (.func 10) #[] #[]))) [(.tmp 32)]), none, 0⟩, ⟨(some 30), (.mv (.tmp 33)), none, 0⟩, ⟨(some 34), (.ext (.tmp 30) 0), none, 0⟩, ⟨(some 35), (.ext (.tmp 30) 1), none, 0⟩, ⟨(some 7), (.mv (.tmp 34)), none, 0⟩, ⟨(some 8), (.mv (.tmp 35)), none, 0⟩])
 (.seq (.reg 0 [⟨(some 37), (.mv (.tmp 0)), none, 0⟩, ⟨(some 38), (.call false (.val (.lit (.func (.func 11) #[] #[]))) [(.tmp 37)]), none, 0⟩, ⟨(some 36), (.mv (.tmp 38)), none, 0⟩, ⟨(some 39), (.ext (.tmp 36) 0), none, 0⟩, ⟨(some 40), (.ext (.tmp 36) 1), none, 0⟩, ⟨(some 9), (.mv (.tmp 39)), none, 0⟩, ⟨(some 10), (.mv (.tmp 40)), none, 0⟩])
 (.seq (.seq (.dreg 0 [(0, ⟨(some 41), (.mv (.tmp 6)), none, 0⟩), (1, ⟨(some 42), (.mv (.tmp 10)), none, 0⟩), (2, ⟨(some 43), (.bin .neq (.tmp 41) (.tmp 42)), none, 0⟩), (3, ⟨(some 44), (.mv (.tmp 43)), none, 0⟩), (4, ⟨(some 45), (.mv (.tmp 5)), (some (44, false)), 0⟩), (5, ⟨(some 46), (.mv (.tmp 9)), (some (44, false)), 0⟩), (6, ⟨(some 47), (.bin .neq (.tmp 45) (.tmp 46)), (some (44, false)), 0⟩), (7, ⟨(some 48), (.pick (.tmp 44) (.val (.lit (.bool true))) (.tmp 47)), none, 0⟩), (8, ⟨(some 49), (.mv (.tmp 48)), none, 0⟩), (9, ⟨(some 50), (.mv (.tmp 0)), (some (49, false)), 0⟩), (10, ⟨(some 51), (.call false (.val (.lit (.func (.func 9) #[] #[]))) [(.tmp 50)]), (some (49, false)), 0⟩), (11, ⟨(some 52), (.load 2 true (.tmp 3)), (some (49, false)), 0⟩), (12, ⟨(some 53), (.call false (.val (.lit (.func (.func 13) #[] #[]))) [(.tmp 52)]), (some (49, false)), 0⟩), (13, ⟨(some 54), (.call false (.val (.lit (.func (.func 12) #[] #[]))) [(.tmp 51), (.tmp 53)]), (some (49, false)), 0⟩), (14, ⟨(some 55), (.mv (.tmp 0)), (some (49, false)), 0⟩), (15, ⟨(some 56), (.load 2 true (.tmp 3)), (some (49, false)), 0⟩), (16, ⟨(some 57), (.call false (.val (.lit (.func (.func 14) #[] #[]))) [(.tmp 55), (.tmp 56)]), (some (49, false)), 0⟩), (17, ⟨(some 58), (.bin .neq (.tmp 54) (.tmp 57)), (some (49, false)), 0⟩), (18, ⟨(some 59), (.pick (.tmp 49) (.val (.lit (.bool true))) (.tmp 58)), none, 0⟩)] [[], [], [0, 1], [2, 0, 1], [3, 2, 0, 1], [3, 2, 0, 1], [4, 5, 3, 2, 0, 1], [3, 6, 2, 0, 1, 4, 5], [7, 3, 6, 2, 0, 1, 4, 5], [8, 7, 3, 6, 2, 0, 1, 4, 5], [9, 8, 7, 3, 6, 2, 0, 1, 4, 5], [8, 7, 3, 6, 2, 0, 1, 4, 5], [11, 10, 8, 7, 3, 6, 2, 0, 1, 4, 5, 9], [10, 12, 8, 9, 7, 3, 6, 2, 0, 1, 4, 5, 11], [8, 7, 3, 6, 2, 0, 1, 4, 5], [8, 7, 3, 6, 2, 0, 1, 4, 5], [14, 15, 13, 8, 7, 3, 6, 2, 0, 1, 4, 5, 10, 12, 9, 11], [13, 16, 8, 10, 12, 9, 7, 3, 6, 2, 0, 1, 4, 5, 11, 14, 15], [8, 17, 7, 3, 6, 2, 0, 1, 4, 5, 13, 16, 10, 12, 9, 11, 14, 15]])
 (.cond (.tmp 59) (.seq (.reg 0 [⟨(some 4), (.mv (.val (.lit (.bool false)))), none, 0⟩])
 .ret) .skip))
 (.seq (.seq (.reg 0 [⟨(some 60), (.mv (.tmp 10)), none, 0⟩, ⟨(some 61), (.bin .neq (.tmp 60) (.val (.lit (.int .i64 0)))), none, 0⟩])
 (.cond (.tmp 61) (.seq (.reg 0 [⟨(some 62), (.mv (.tmp 8)), none, 0⟩, ⟨(some 63), (.mv (.tmp 10)), none, 0⟩, ⟨(some 64), (.bin .eql (.tmp 62) (.tmp 63)), none, 0⟩, ⟨(some 65), (.mv (.tmp 64)), none, 0⟩, ⟨(some 66), (.mv (.tmp 7)), (some (65, true)), 0⟩, ⟨(some 67), (.bin .eql (.tmp 66) (.val (.lit (.string ⟨#[]⟩)))), (some (65, true)), 0⟩, ⟨(some 68), (.pick (.tmp 65) (.tmp 67) (.val (.lit (.bool false)))), none, 0⟩, ⟨(some 4), (.mv (.tmp 68)), none, 0⟩])
 .ret) .skip))
 (.seq (.reg 0 [⟨(some 70), (.mv (.tmp 7)), none, 0⟩, ⟨(some 71), (.call false (.val (.lit (.func (.func 15) #[] #[]))) [(.tmp 70)]), none, 0⟩, ⟨(some 69), (.mv (.tmp 71)), none, 0⟩, ⟨(some 72), (.ext (.tmp 69) 0), none, 0⟩, ⟨(some 73), (.ext (.tmp 69) 1), none, 0⟩, ⟨(some 74), (.ext (.tmp 69) 2), none, 0⟩, ⟨(some 11), (.mv (.tmp 72)), none, 0⟩, ⟨(some 12), (.mv (.tmp 73)), none, 0⟩, ⟨(some 13), (.mv (.tmp 74)), none, 0⟩])
 (.seq (.reg 0 [⟨(some 75), (.mv (.tmp 8)), none, 0⟩, ⟨(some 76), (.bin .eql (.tmp 75) (.val (.lit (.int .i64 0)))), none, 0⟩, ⟨(some 77), (.mv (.tmp 76)), none, 0⟩, ⟨(some 78), (.mv (.tmp 7)), (some (77, true)), 0⟩, ⟨(some 79), (.mv (.tmp 0)), (some (77, true)), 0⟩, ⟨(some 80), (.call false (.val (.lit (.func (.func 16) #[] #[]))) [(.tmp 79)]), (some (77, true)), 0⟩, ⟨(some 81), (.bin .eql (.tmp 78) (.tmp 80)), (some (77, true)), 0⟩, ⟨(some 82), (.pick (.tmp 77) (.tmp 81) (.val (.lit (.bool false)))), none, 0⟩, ⟨(some 83), (.mv (.tmp 82)), none, 0⟩, ⟨(some 84), (.mv (.tmp 13)), (some (83, true)), 0⟩, ⟨(some 85), (.bin .eql (.tmp 84) (.val (.lit (.int .i64 0)))), (some (83, true)), 0⟩, ⟨(some 86), (.pick (.tmp 83) (.tmp 85) (.val (.lit (.bool false)))), none, 0⟩, ⟨(some 87), (.mv (.tmp 86)), none, 0⟩, ⟨(some 88), (.mv (.tmp 12)), (some (87, true)), 0⟩, ⟨(some 89), (.bin .eql (.tmp 88) (.val (.lit (.int .i64 0)))), (some (87, true)), 0⟩, ⟨(some 90), (.pick (.tmp 87) (.tmp 89) (.val (.lit (.bool false)))), none, 0⟩, ⟨(some 91), (.mv (.tmp 90)), none, 0⟩, ⟨(some 92), (.mv (.tmp 11)), (some (91, true)), 0⟩, ⟨(some 93), (.mv (.tmp 0)), (some (91, true)), 0⟩, ⟨(some 94), (.call false (.val (.lit (.func (.func 17) #[] #[]))) [(.tmp 92), (.tmp 93)]), (some (91, true)), 0⟩, ⟨(some 95), (.pick (.tmp 91) (.tmp 94) (.val (.lit (.bool false)))), none, 0⟩, ⟨(some 4), (.mv (.tmp 95)), none, 0⟩])
 .ret))))))))))
theorem e3 : envOf Tryz.prog muts 3 = some (96, c3, [(Go.Abs.ARes.tmp 4)]) := by kernel_rfl
def c4 : ACode :=
 (.seq (.reg 1 [⟨(some 4), (.box 3 (.tmp 1)), none, 0⟩, ⟨(some 6), (.mv (.val (.lit (.bool false)))), none, 1⟩])
 (.seq (.seq (.reg 0 [⟨(some 20), (.call false (.val (.lit (.func (.func 5) #[] #[]))) []), none, 0⟩, ⟨(some 21), (.not (.tmp 20)), none, 0⟩])
 (.cond (.tmp 21) (.seq (.reg 0 [⟨(some 6), (.mv (.val (.lit (.bool false)))), none, 0⟩])
 .ret) .skip))
 (.seq (.seq (.reg 0 [⟨(some 22), (.mv (.tmp 0)), none, 0⟩, ⟨(some 23), (.lenS (.tmp 22)), none, 0⟩, ⟨(some 24), (.bin .gtr (.tmp 23) (.val (.lit (.int .i64 400)))), none, 0⟩, ⟨(some 25), (.mv (.tmp 24)), none, 0⟩, ⟨(some 26), (.mv (.tmp 0)), (some (25, true)), 0⟩, ⟨(some 27), (.lenS (.tmp 26)), (some (25, true)), 0⟩, ⟨(some 28), (.bin .leq (.tmp 27) (.val (.lit (.int .i64 60000)))), (some (25, true)), 0⟩, ⟨(some 29), (.pick (.tmp 25) (.tmp 28) (.val (.lit (.bool false)))), none, 0⟩, ⟨(some 30), (.mv (.tmp 29)), none, 0⟩, ⟨(some 31), (.mv (.tmp 0)), (some (30, false)), 0⟩, ⟨(some 32), (.lenS (.tmp 31)), (some (30, false)), 0⟩, ⟨(some 33), (.bin .gtr (.tmp 32) (.val (.lit (.int .i64 60005)))), (some (30, false)), 0⟩, ⟨(some 34), (.pick (.tmp 30) (.val (.lit (.bool true))) (.tmp 33)), none, 0⟩, ⟨(some 35), (.mv (.tmp 34)), none, 0⟩, ⟨(some 36), (.mv (.tmp 2)), (some (35, false)), 0⟩, ⟨(some 37), (.lenS (.tmp 36)), (some (35, false)), 0⟩, ⟨(some 38), (.bin .gtr (.tmp 37) (.val (.lit (.int .i64 100)))), (some (35, false)), 0⟩, ⟨(some 39), (.pick (.tmp 35) (.val (.lit (.bool true))) (.tmp 38)), none, 0⟩, ⟨(some 40), (.mv (.tmp 39)), none, 0⟩, ⟨(some 41), (.faddr 0 (.tmp 4)), (some (40, false)), 0⟩, ⟨(some 42), (.load 1 false (.tmp 41)), (some (40, false)), 0⟩, ⟨(some 43), (.lenS (.tmp 42)), (some (40, false)), 0⟩, ⟨(some 44), (.bin .gtr (.tmp 43) (.val (.lit (.int .i64 30)))), (some (40, false)), 0⟩, ⟨(some 45), (.pick (.tmp 40) (.val (.lit (.bool true))) (.tmp 44)), none, 0⟩, ⟨(some 46), (.mv (.tmp 45)), none, 0⟩, ⟨(some 47), (.faddr 1 (.tmp 4)), (some (46, false)), 0⟩, ⟨(some 48), (.load 1 false (.tmp 47)), (some (46, false)), 0⟩, ⟨(some 49), (.lenS (.tmp 48)), (some (46, false)), 0⟩, ⟨(some 50), (.bin .gtr (.tmp 49) (.val (.lit (.int .i64 30)))), (some (46, false)), 0⟩, ⟨(some 51), (.pick (.tmp 46) (.val (.lit (.bool true))) (.tmp 50)), none, 0⟩])
 (.cond (.tmp 51) (.seq (.reg 0 [⟨(some 6), (.mv (.val (.lit (.bool true)))), none, 0⟩])
 .ret) .skip))
 (.seq (.reg 0 [⟨(some 53), (.mv (.tmp 0)), none, 0⟩, ⟨(some 54), (.call false (.val (.lit (.func (.func 15) #[] #[]))) [(.tmp 53)]), none, 0⟩, ⟨(some 52), (.mv (.tmp 54)), none, 0⟩, ⟨(some 55), (.ext (.tmp 52) 0), none, 0⟩, ⟨(some 56), (.ext (.tmp 52) 1), none, 0⟩, ⟨(some 57), (.ext (.tmp 52) 2), none, 0⟩, ⟨(some 7), (.mv (.tmp 55)), none, 0⟩, ⟨(some 8), (.mv (.tmp 56)), none, 0⟩, ⟨(some 9), (.mv (.tmp 57)), none, 0⟩])
 (.seq (.reg 0 [⟨(some 59), (.mv (.tmp 0)), none, 0⟩, ⟨(some 60), (.call false (.val (.lit (.func (.func 18) #[] #[]))) [(.tmp 59)]), none, 0⟩, ⟨(some 58), (.mv (.tmp 60)), none, 0⟩, ⟨(some 61), (.ext (.tmp 58) 0), none, 0⟩, ⟨(some 62), (.ext (.tmp 58) 1), none, 0⟩, ⟨(some 63), (.ext (.tmp 58) 2), none, 0⟩, ⟨(some 10), (.mv (.tmp 61)), none, 0⟩, ⟨(some 11), (.mv (.tmp 62)), none, 0⟩, ⟨(some 12), (.mv (.tmp 63)), none, 0⟩])
 (.seq (.seq (.reg 0 [⟨(some 64), (.mv (.tmp 9)), none, 0⟩, ⟨(some 65), (.mv (.tmp 12)), none, 0⟩, ⟨(some 66), (.bin .neq (.tmp 64) (.tmp 65)), none, 0⟩, ⟨(some 67), (.mv (.tmp 66)), none, 0⟩, ⟨(some 68), (.mv (.tmp 8)), (some (67, false)), 0⟩, ⟨(some 69), (.mv (.tmp 11)), (some (67, false)), 0⟩, ⟨(some 70), (.bin .neq (.tmp 68) (.tmp 69)), (some (67, false)), 0⟩, ⟨(some 71), (.pick (.tmp 67) (.val (.lit (.bool true))) (.tmp 70)), none, 0⟩, ⟨(some 72), (.mv (.tmp 71)), none, 0⟩, ⟨(some 73), (.mv (.tmp 7)), (some (72, false)), 0⟩, ⟨(some 74), (.mv (.tmp 10)), (some (72, false)), 0⟩, ⟨(some 75), (.call false (.val (.lit (.func (.func 17) #[] #[]))) [(.tmp 73), (.tmp 74)]), (some (72, false)), 0⟩, ⟨(some 76), (.not (.tmp 75)), (some (72, false)), 0⟩, ⟨(some 77), (.pick (.tmp 72) (.val (.lit (.bool true))) (.tmp 76)), none, 0⟩])
 (.cond (.tmp 77) (.seq (.reg 0 [⟨(some 6), (.mv (.val (.lit (.bool false)))), none, 0⟩])
 .ret) .skip))
 (.seq (.reg 1 [⟨(some 79), (.mv (.tmp 2)), none, 0⟩, ⟨(some 80), (.call false (.val (.lit (.func (.func 19) #[] #[]))) [(.tmp 79)]), none, 0⟩, ⟨(some 78), (.mv (.tmp 80)), none, 0⟩, ⟨(some 81), (.ext (.tmp 78) 0), none, 0⟩, ⟨(some 82), (.ext (.tmp 78) 1), none, 0⟩, ⟨(some 13), (.alloc [(.lit (.string ⟨#[]⟩)), (.lit (.string ⟨#[]⟩)), (.lit (.int .i64 0))]), none, 0⟩, ⟨none, (.store 3 (.tmp 13) (.tmp 81)), none, 1⟩, ⟨(some 14), (.mv (.tmp 82)), none, 1⟩])
 (.seq (.reg 1 [⟨(some 84), (.mv (.tmp 2)), none, 0⟩, ⟨(some 85), (.call false (.val (.lit (.func (.func 20) #[] #[]))) [(.tmp 84)]), none, 0⟩, ⟨(some 83), (.mv (.tmp 85)), none, 0⟩, ⟨(some 86), (.ext (.tmp 83) 0), none, 0⟩, ⟨(some 87), (.ext (.tmp 83) 1), none, 0⟩, ⟨(some 15), (.alloc [(.lit (.string ⟨#[]⟩)), (.lit (.string ⟨#[]⟩)), (.lit (.int .i64 0))]), none, 0⟩, ⟨none, (.store 3 (.tmp 15) (.tmp 86)), none, 1⟩, ⟨(some 16), (.mv (.tmp 87)), none, 1⟩])
 (.seq (.reg 0 [⟨(some 88), (.load 3 true (.tmp 4)), none, 0⟩, ⟨(some 89), (.call false (.val (.lit (.func (.func 21) #[] #[]))) [(.tmp 88)]), none, 0⟩, ⟨(some 17), (.mv (.tmp 89)), none, 0⟩])
 (.seq (.seq (.reg 0 [⟨(some 90), (.mv (.tmp 14)), none, 0⟩, ⟨(some 91), (.mv (.tmp 16)), none, 0⟩, ⟨(some 92), (.bin .neq (.tmp 90) (.tmp 91)), none, 0⟩, ⟨(some 93), (.mv (.tmp 92)), none, 0⟩, ⟨(some 94), (.load 3 true (.tmp 13)), (some (93, false)), 0⟩, ⟨(some 95), (.load 3 true (.tmp 15)), (some (93, false)), 0⟩, ⟨(some 96), (.eqAgg true [.cs, .cs, .ci] (.tmp 94) (.tmp 95)), (some (93, false)), 0⟩, ⟨(some 97), (.pick (.tmp 93) (.val (.lit (.bool true))) (.tmp 96)), none, 0⟩, ⟨(some 98), (.mv (.tmp 97)), none, 0⟩, ⟨(some 99), (.mv (.tmp 17)), (some (98, false)), 0⟩, ⟨(some 100), (.load 3 true (.tmp 4)), (some (98, false)), 0⟩, ⟨(some 101), (.call false (.val (.lit (.func (.func 22) #[] #[]))) [(.tmp 100)]), (some (98, false)), 0⟩, ⟨(some 102), (.bin .neq (.tmp 99) (.tmp 101)), (some (98, false)), 0⟩, ⟨(some 103), (.pick (.tmp 98) (.val (.lit (.bool true))) (.tmp 102)), none, 0⟩])
 (.cond (.tmp 103) (.seq (.reg 0 [⟨(some 6), (.mv (.val (.lit (.bool false)))), none, 0⟩])
 .ret) .skip))
 (.seq (.reg 1 [⟨(some 105), (.mv (.tmp 17)), none, 0⟩, ⟨(some 106), (.call false (.val (.lit (.func (.func 19) #[] #[]))) [(.tmp 105)]), none, 0⟩, ⟨(some 104), (.mv (.tmp 106)), none, 0⟩, ⟨(some 107), (.ext (.tmp 104) 0), none, 0⟩, ⟨(some 108), (.ext (.tmp 104) 1), none, 0⟩, ⟨(some 18), (.alloc [(.lit (.string ⟨#[]⟩)), (.lit (.string ⟨#[]⟩)), (.lit (.int .i64 0))]), none, 0⟩, ⟨none, (.store 3 (.tmp 18) (.tmp 107)), none, 1⟩, ⟨(some 19), (.mv (.tmp 108)), none, 1⟩])
 (.seq (.reg 0 [⟨(some 109), (.faddr 0 (.tmp 4)), none, 0⟩, ⟨(some 110), (.load 1 false (.tmp 109)), none, 0⟩, ⟨(some 111), (.call false (.val (.lit (.func (.func 23) #[] #[]))) [(.tmp 110)]), none, 0⟩, ⟨(some 112), (.not (.tmp 111)), none, 0⟩, ⟨(some 113), (.mv (.tmp 112)), none, 0⟩, ⟨(some 114), (.faddr 1 (.tmp 4)), (some (113, false)), 0⟩, ⟨(some 115), (.load 1 false (.tmp 114)), (some (113, false)), 0⟩, ⟨(some 116), (.call false (.val (.lit (.func (.func 23) #[] #[]))) [(.tmp 115)]), (some (113, false)), 0⟩, ⟨(some 117), (.not (.tmp 116)), (some (113, false)), 0⟩, ⟨(some 118), (.pick (.tmp 113) (.val (.lit (.bool true))) (.tmp 117)), none, 0⟩, ⟨(some 119), (.mv (.tmp 118)), none, 0⟩, ⟨(some 120), (.faddr 2 (.tmp 4)), (some (119, false)), 0⟩, ⟨(some 121), (.load 1 false (.tmp 120)), (some (119, false)), 0⟩, ⟨(some 122), (.call false (.val (.lit (.func (.func 24) #[] #[]))) [(.tmp 121), (.val (.lit (.int .i64 (-9999999)))), (.val (.lit (.int .i64 9999999)))]), (some (119, false)), 0⟩, ⟨(some 123), (.not (.tmp 122)), (some (119, false)), 0⟩, ⟨(some 124), (.pick (.tmp 119) (.val (.lit (.bool true))) (.tmp 123)), none, 0⟩, ⟨(some 125), (.mv (.tmp 124)), none, 0⟩, ⟨(some 126), (.mv (.tmp 19)), (some (125, false)), 0⟩, ⟨(some 127), (.bin .eql (.tmp 126) (.val (.lit (.int .i64 0)))), (some (125, false)), 0⟩, ⟨(some 128), (.mv (.tmp 127)), (some (125, false)), 0⟩, ⟨(some 129), (.load 3 true (.tmp 18)), (some (128, true)), 0⟩, ⟨(some 130), (.load 3 true (.tmp 4)), (some (128, true)), 0⟩, ⟨(some 131), (.eqAgg false [.cs, .cs, .ci] (.tmp 129) (.tmp 130)), (some (128, true)), 0⟩, ⟨(some 132), (.pick (.tmp 128) (.tmp 131) (.val (.lit (.bool false)))), (some (125, false)), 0⟩, ⟨(some 133), (.pick (.tmp 125) (.val (.lit (.bool true))) (.tmp 132)), none, 0⟩, ⟨(some 6), (.mv (.tmp 133)), none, 0⟩])
 .ret))))))))))))
theorem e4 : envOf Tryz.prog muts 4 = some (134, c4, [(Go.Abs.ARes.tmp 6)]) := by kernel_rfl
def c8l0 : ACode :=
 (.seq (.reg 0 [⟨(some 25), (.bin .lss (.tmp 24) (.tmp 23)), none, 0⟩])
 (.seq (.cond (.tmp 25) .skip (.exit 1))
 (.seq (.block 2 (.seq (.reg 1 [⟨(some 26), (.iaddrS 2 (.tmp 22) (.tmp 24)), none, 0⟩, ⟨(some 27), (.load 2 true (.tmp 26)), none, 0⟩, ⟨(some 7), (.alloc [(.lit (.string ⟨#[]⟩)), (.sl true 0 [])]), none, 0⟩, ⟨none, (.store 2 (.tmp 7) (.tmp 27)), none, 1⟩])
 (.block 3 (.seq (.reg 0 [⟨(some 29), (.faddr 0 (.tmp 7)), none, 0⟩, ⟨(some 30), (.load 1 false (.tmp 29)), none, 0⟩, ⟨(some 31), (.call false (.val (.lit (.func (.func 32) #[] #[]))) [(.tmp 30)]), none, 0⟩, ⟨(some 32), (.not (.tmp 31)), none, 0⟩, ⟨(some 28), (.mv (.tmp 32)), none, 0⟩])
 (.cond (.tmp 28) (.seq (.reg 0 [⟨(some 2), (.mv (.val (.lit (.int .i64 0)))), none, 0⟩, ⟨(some 3), (.mv (.val (.lit (.int .i64 4)))), none, 0⟩])
 .ret) (.seq (.reg 0 [⟨(some 34), (.mv (.tmp 5)), none, 0⟩, ⟨(some 35), (.faddr 0 (.tmp 7)), none, 0⟩, ⟨(some 36), (.load 1 false (.tmp 35)), none, 0⟩, ⟨(some 37), (.call true (.val (.lit (.func (.func 33) #[] #[]))) [(.tmp 34), (.tmp 36)]), none, 0⟩, ⟨(some 33), (.mv (.tmp 37)), none, 0⟩])
 (.cond (.tmp 33) (.seq (.reg 0 [⟨(some 2), (.mv (.val (.lit (.int .i64 0)))), none, 0⟩, ⟨(some 3), (.mv (.val (.lit (.int .i64 5)))), none, 0⟩])
 .ret) (.seq (.reg 0 [⟨(some 39), (.faddr 1 (.tmp 7)), none, 0⟩, ⟨(some 40), (.load 1 false (.tmp 39)), none, 0⟩, ⟨(some 41), (.len (.tmp 40)), none, 0⟩, ⟨(some 42), (.mv (.tmp 4)), none, 0⟩, ⟨(some 43), (.bin .neq (.tmp 41) (.tmp 42)), none, 0⟩, ⟨(some 44), (.mv (.tmp 43)), none, 0⟩, ⟨(some 45), (.mv (.tmp 4)), (some (44, false)), 0⟩, ⟨(some 46), (.call false (.val (.lit (.func (.func 34) #[] #[]))) [(.tmp 45), (.val (.lit (.int .i64 1))), (.val (.lit (.int .i64 40)))]), (some (44, false)), 0⟩, ⟨(some 47), (.not (.tmp 46)), (some (44, false)), 0⟩, ⟨(some 48), (.pick (.tmp 44) (.val (.lit (.bool true))) (.tmp 47)), none, 0⟩, ⟨(some 38), (.mv (.tmp 48)), none, 0⟩])
 (.cond (.tmp 38) (.seq (.reg 0 [⟨(some 2), (.mv (.val (.lit (.int .i64 0)))), none, 0⟩, ⟨(some 3), (.mv (.val (.lit (.int .i64 10)))), none, 0⟩])
 .ret) (.seq (.reg 0 [⟨(some 50), (.faddr 1 (.tmp 7)), none, 0⟩, ⟨(some 51), (.load 1 false (.tmp 50)), none, 0⟩, ⟨(some 52), (.call true (.val (.lit (.func (.func 35) #[] #[]))) [(.tmp 51), (.val (.lit (.func (.func 36) #[] #[])))]), none, 0⟩, ⟨(some 49), (.mv (.tmp 52)), none, 0⟩])
 (.cond (.tmp 49) (.seq (.reg 0 [⟨(some 2), (.mv (.val (.lit (.int .i64 0)))), none, 0⟩, ⟨(some 3), (.mv (.val (.lit (.int .i64 2)))), none, 0⟩])
 .ret) .skip)))))))))))
 (.reg 0 [⟨(some 53), (.bin .add (.tmp 24) (.val (.lit (.int .i64 1)))), none, 0⟩, ⟨(some 24), (.mv (.tmp 53)), none, 0⟩]))))
def c8 : ACode :=
 (.seq (.reg 0 [⟨(some 2), (.mv (.val (.lit (.int .i64 0)))), none, 0⟩, ⟨(some 3), (.mv (.val (.lit (.int .i64 0)))), none, 0⟩])
 (.seq (.block 0 (.seq (.reg 0 [⟨(some 9), (.mv (.tmp 0)), none, 0⟩, ⟨(some 10), (.len (.tmp 9)), none, 0⟩, ⟨(some 11), (.bin .eql (.tmp 10) (.val (.lit (.int .i64 0)))), none, 0⟩, ⟨(some 8), (.mv (.tmp 11)), none, 0⟩])
 (.cond (.tmp 8) (.seq (.reg 0 [⟨(some 2), (.mv (.val (.lit (.int .i64 0)))), none, 0⟩, ⟨(some 3), (.mv (.val (.lit (.int .i64 10)))), none, 0⟩])
 .ret) (.seq (.reg 0 [⟨(some 13), (.mv (.tmp 0)), none, 0⟩, ⟨(some 14), (.len (.tmp 13)), none, 0⟩, ⟨(some 15), (.bin .gtr (.tmp 14) (.val (.lit (.int .i64 12)))), none, 0⟩, ⟨(some 12), (.mv (.tmp 15)), none, 0⟩])
 (.cond (.tmp 12) (.seq (.reg 0 [⟨(some 2), (.mv (.val (.lit (.int .i64 0)))), none, 0⟩, ⟨(some 3), (.mv (.val (.lit (.int .i64 8)))), none, 0⟩])
 .ret) .skip)))))
 (.seq (.reg 0 [⟨(some 16), (.mv (.tmp 0)), none, 0⟩, ⟨(some 17), (.iaddrS 2 (.tmp 16) (.val (.lit (.int .i64 0)))), none, 0⟩, ⟨(some 18), (.faddr 1 (.tmp 17)), none, 0⟩, ⟨(some 19), (.load 1 false (.tmp 18)), none, 0⟩, ⟨(some 20), (.len (.tmp 19)), none, 0⟩, ⟨(some 4), (.mv (.tmp 20)), none, 0⟩])
 (.seq (.reg 1 [⟨(some 21), (.mkmap .str), none, 0⟩, ⟨(some 5), (.mv (.tmp 21)), none, 1⟩])
 (.seq (.seq (.reg 0 [⟨(some 22), (.mv (.tmp 0)), none, 0⟩, ⟨(some 23), (.len (.tmp 22)), none, 0⟩, ⟨(some 24), (.mv (.val (.lit (.int .i64 0)))), none, 0⟩])
 (.block 1 (.loop c8l0)))
 (.seq (.reg 0 [⟨(some 54), (.mv (.tmp 4)), none, 0⟩, ⟨(some 2), (.mv (.tmp 54)), none, 0⟩, ⟨(some 3), (.mv (.val (.lit (.int .i64 0)))), none, 0⟩])
 .ret))))))
theorem e8 : envOf Tryz.prog muts 8 = some (55, c8, [(Go.Abs.ARes.tmp 2), (Go.Abs.ARes.tmp 3)]) := by kernel_rfl
def c11l0 : ACode :=
 (.seq (.seq (.reg 0 [⟨(some 56), (.mv (.tmp 5)), none, 0⟩, ⟨(some 57), (.mv (.tmp 0)), none, 0⟩, ⟨(some 58), (.mv (.tmp 4)), none, 0⟩, ⟨(some 59), (.iaddrS 2 (.tmp 57) (.tmp 58)), none, 0⟩, ⟨(some 60), (.faddr 1 (.tmp 59)), none, 0⟩, ⟨(some 61), (.load 1 false (.tmp 60)), none, 0⟩, ⟨(some 62), (.len (.tmp 61)), none, 0⟩, ⟨(some 63), (.bin .lss (.tmp 56) (.tmp 62)), none, 0⟩])
 (.cond (.tmp 63) .skip (.exit 2)))
 (.seq (.block 3 (.seq (.reg 0 [⟨(some 66), (.mv (.tmp 0)), none, 0⟩, ⟨(some 67), (.mv (.tmp 4)), none, 0⟩, ⟨(some 68), (.iaddrS 2 (.tmp 66) (.tmp 67)), none, 0⟩, ⟨(some 69), (.faddr 1 (.tmp 68)), none, 0⟩, ⟨(some 70), (.load 1 false (.tmp 69)), none, 0⟩, ⟨(some 71), (.mv (.tmp 5)), none, 0⟩, ⟨(some 72), (.iaddrS 1 (.tmp 70) (.tmp 71)), none, 0⟩, ⟨(some 73), (.load 1 false (.tmp 72)), none, 0⟩, ⟨(some 74), (.call false (.val (.lit (.func (.func 24) #[] #[]))) [(.tmp 73), (.val (.lit (.int .i64 0))), (.val (.lit (.int .i64 100)))]), none, 0⟩, ⟨(some 75), (.not (.tmp 74)), none, 0⟩])
 (.cond (.tmp 75) (.seq (.reg 0 [⟨(some 2), (.mv (.val (.lit (.int .i64 0)))), none, 0⟩, ⟨(some 3), (.mv (.val (.lit (.int .i64 2)))), none, 0⟩])
 .ret) .skip)))
 (.reg 0 [⟨(some 64), (.mv (.tmp 5)), none, 0⟩, ⟨(some 65), (.bin .add (.tmp 64) (.val (.lit (.int .i64 1)))), none, 0⟩, ⟨(some 5), (.mv (.tmp 65)), none, 0⟩])))
def c11l1 : ACode :=
 (.seq (.seq (.reg 0 [⟨(some 12), (.mv (.tmp 4)), none, 0⟩, ⟨(some 13), (.mv (.tmp 0)), none, 0⟩, ⟨(some 14), (.len (.tmp 13)), none, 0⟩, ⟨(some 15), (.bin .lss (.tmp 12) (.tmp 14)), none, 0⟩])
 (.cond (.tmp 15) .skip (.exit 0)))
 (.seq (.block 1 (.seq (.seq (.reg 0 [⟨(some 18), (.mv (.tmp 0)), none, 0⟩, ⟨(some 19), (.mv (.tmp 4)), none, 0⟩, ⟨(some 20), (.iaddrS 2 (.tmp 18) (.tmp 19)), none, 0⟩, ⟨(some 21), (.faddr 0 (.tmp 20)), none, 0⟩, ⟨(some 22), (.load 1 false (.tmp 21)), none, 0⟩, ⟨(some 23), (.call false (.val (.lit (.func (.func 23) #[] #[]))) [(.tmp 22)]), none, 0⟩, ⟨(some 24), (.not (.tmp 23)), none, 0⟩])
 (.cond (.tmp 24) (.seq (.reg 0 [⟨(some 2), (.mv (.val (.lit (.int .i64 0)))), none, 0⟩, ⟨(some 3), (.mv (.val (.lit (.int .i64 4)))), none, 0⟩])
 .ret) .skip))
 (.seq (.seq (.reg 0 [⟨(some 25), (.mv (.tmp 0)), none, 0⟩, ⟨(some 26), (.mv (.tmp 0)), none, 0⟩, ⟨(some 27), (.mv (.tmp 4)), none, 0⟩, ⟨(some 28), (.iaddrS 2 (.tmp 26) (.tmp 27)), none, 0⟩, ⟨(some 29), (.faddr 0 (.tmp 28)), none, 0⟩, ⟨(some 30), (.load 1 false (.tmp 29)), none, 0⟩, ⟨(some 31), (.call false (.val (.lit (.func (.func 42) #[] #[]))) [(.tmp 25), (.tmp 30)]), none, 0⟩, ⟨(some 32), (.mv (.tmp 4)), none, 0⟩, ⟨(some 33), (.bin .lss (.tmp 31) (.tmp 32)), none, 0⟩])
 (.cond (.tmp 33) (.seq (.reg 0 [⟨(some 2), (.mv (.val (.lit (.int .i64 0)))), none, 0⟩, ⟨(some 3), (.mv (.val (.lit (.int .i64 5)))), none, 0⟩])
 .ret) .skip))
 (.seq (.seq (.dreg 0 [(0, ⟨(some 34), (.mv (.tmp 0)), none, 0⟩), (1, ⟨(some 35), (.mv (.tmp 4)), none, 0⟩), (2, ⟨(some 36), (.iaddrS 2 (.tmp 34) (.tmp 35)), none, 0⟩), (3, ⟨(some 37), (.faddr 1 (.tmp 36)), none, 0⟩), (4, ⟨(some 38), (.load 1 false (.tmp 37)), none, 0⟩), (5, ⟨(some 39), (.len (.tmp 38)), none, 0⟩), (6, ⟨(some 40), (.mv (.tmp 0)), none, 0⟩), (7, ⟨(some 41), (.iaddrS 2 (.tmp 40) (.val (.lit (.int .i64 0)))), none, 0⟩), (8, ⟨(some 42), (.faddr 1 (.tmp 41)), none, 0⟩), (9, ⟨(some 43), (.load 1 false (.tmp 42)), none, 0⟩), (10, ⟨(some 44), (.len (.tmp 43)), none, 0⟩), (11, ⟨(some 45), (.bin .neq (.tmp 39) (.tmp 44)), none, 0⟩), (12, ⟨(some 46), (.mv (.tmp 45)), none, 0⟩), (13, ⟨(some 47), (.mv (.tmp 0)), (some (46, false)), 0⟩), (14, ⟨(some 48), (.mv (.tmp 4)), (some (46, false)), 0⟩), (15, ⟨(some 49), (.iaddrS 2 (.tmp 47) (.tmp 48)), (some (46, false)), 0⟩), (16, ⟨(some 50), (.faddr 1 (.tmp 49)), (some (46, false)), 0⟩), (17, ⟨(some 51), (.load 1 false (.tmp 50)), (some (46, false)), 0⟩), (18, ⟨(some 52), (.len (.tmp 51)), (some (46, false)), 0⟩), (19, ⟨(some 53), (.call false (.val (.lit (.func (.func 24) #[] #[]))) [(.tmp 52), (.val (.lit (.int .i64 1))), (.val (.lit (.int .i64 40)))]), (some (46, false)), 0⟩), (20, ⟨(some 54), (.not (.tmp 53)), (some (46, false)), 0⟩), (21, ⟨(some 55), (.pick (.tmp 46) (.val (.lit (.bool true))) (.tmp 54)), none, 0⟩)] [[], [], [0, 1], [2, 0, 1], [3, 2, 0, 1], [4, 3, 2, 0, 1], [], [6], [7, 6], [8, 7, 6], [9, 8, 7, 6], [5, 10, 4, 3, 2, 0, 1, 9, 8, 7, 6], [11, 5, 10, 4, 3, 2, 0, 1, 9, 8, 7, 6], [12, 11, 5, 10, 4, 3, 2, 0, 1, 9, 8, 7, 6], [12, 11, 5, 10, 4, 3, 2, 0, 1, 9, 8, 7, 6], [13, 14, 12, 11, 5, 10, 4, 3, 2, 0, 1, 9, 8, 7, 6], [15, 12, 13, 14, 11, 5, 10, 4, 3, 2, 0, 1, 9, 8, 7, 6], [16, 12, 15, 13, 14, 11, 5, 10, 4, 3, 2, 0, 1, 9, 8, 7, 6], [17, 12, 16, 15, 13, 14, 11, 5, 10, 4, 3, 2, 0, 1, 9, 8, 7, 6], [18, 12, 17, 16, 15, 13, 14, 11, 5, 10, 4, 3, 2, 0, 1, 9, 8, 7, 6], [19, 12, 18, 17, 16, 15, 13, 14, 11, 5, 10, 4, 3, 2, 0, 1, 9, 8, 7, 6], [12, 20, 11, 5, 10, 4, 3, 2, 0, 1, 9, 8, 7, 6, 19, 18, 17, 16, 15, 13, 14]])
 (.cond (.tmp 55) (.seq (.reg 0 [⟨(some 2), (.mv (.val (.lit (.int .i64 0)))), none, 0⟩, ⟨(some 3), (.mv (.val (.lit (.int .i64 10)))), none, 0⟩])
 .ret) .skip))
 (.seq (.reg 0 [⟨(some 5), (.mv (.val (.lit (.int .i64 0)))), none, 0⟩])
 (.block 2 (.loop c11l0)))))))
 (.reg 0 [⟨(some 16), (.mv (.tmp 4)), none, 0⟩, ⟨(some 17), (.bin .add (.tmp 16) (.val (.lit (.int .i64 1)))), none, 0⟩, ⟨(some 4), (.mv (.tmp 17)), none, 0⟩])))
def c11 : ACode :=
 (.seq (.reg 0 [⟨(some 2), (.mv (.val (.lit (.int .i64 0)))), none, 0⟩, ⟨(some 3), (.mv (.val (.lit (.int .i64 0)))), none, 0⟩])
 (.seq (.seq (.reg 0 [⟨(some 6), (.mv (.tmp 0)), none, 0⟩, ⟨(some 7), (.len (.tmp 6)), none, 0⟩, ⟨(some 8), (.bin .eql (.tmp 7) (.val (.lit (.int .i64 0)))), none, 0⟩])
 (.cond (.tmp 8) (.seq (.reg 0 [⟨(some 2), (.mv (.val (.lit (.int .i64 0)))), none, 0⟩, ⟨(some 3), (.mv (.val (.lit (.int .i64 10)))), none, 0⟩])
 .ret) .skip))
 (.seq (.seq (.reg 0 [⟨(some 9), (.mv (.tmp 0)), none, 0⟩, ⟨(some 10), (.len (.tmp 9)), none, 0⟩, ⟨(some 11), (.bin .gtr (.tmp 10) (.val (.lit (.int .i64 12)))), none, 0⟩])
 (.cond (.tmp 11) (.seq (.reg 0 [⟨(some 2), (.mv (.val (.lit (.int .i64 0)))), none, 0⟩, ⟨(some 3), (.mv (.val (.lit (.int .i64 8)))), none, 0⟩])
 .ret) .skip))
 (.seq (.seq (.reg 0 [⟨(some 4), (.mv (.val (.lit (.int .i64 0)))), none, 0⟩])
 (.block 0 (.loop c11l1)))
 (.seq (.reg 0 [⟨(some 76), (.mv (.tmp 0)), none, 0⟩, ⟨(some 77), (.iaddrS 2 (.tmp 76) (.val (.lit (.int .i64 0)))), none, 0⟩, ⟨(some 78), (.faddr 1 (.tmp 77)), none, 0⟩, ⟨(some 79), (.load 1 false (.tmp 78)), none, 0⟩, ⟨(some 80), (.len (.tmp 79)), none, 0⟩, ⟨(some 2), (.mv (.tmp 80)), none, 0⟩, ⟨(some 3), (.mv (.val (.lit (.int .i64 0)))), none, 0⟩])
 .ret)))))
theorem e11 : envOf Tryz.prog muts 11 = some (81, c11, [(Go.Abs.ARes.tmp 2), (Go.Abs.ARes.tmp 3)]) := by kernel_rfl
def c15r0 : ACode :=
 (.block 1 (.seq (.reg 0 [⟨(some 20), (.mv (.tmp 6)), none, 0⟩, ⟨(some 21), (.call false (.val (.lit (.func (.func 47) #[] #[]))) [(.tmp 20), (.val (.lit (.string ⟨#[10]⟩)))]), none, 0⟩, ⟨(some 19), (.mv (.tmp 21)), none, 0⟩, ⟨(some 22), (.ext (.tmp 19) 0), none, 0⟩, ⟨(some 23), (.ext (.tmp 19) 1), none, 0⟩, ⟨(some 7), (.mv (.tmp 22)), none, 0⟩, ⟨(some 8), (.mv (.tmp 23)), none, 0⟩])
 (.seq (.reg 1 [⟨(some 25), (.mv (.tmp 7)), none, 0⟩, ⟨(some 26), (.call false (.val (.lit (.func (.func 48) #[] #[]))) [(.tmp 25)]), none, 0⟩, ⟨(some 24), (.mv (.tmp 26)), none, 0⟩, ⟨(some 27), (.ext (.tmp 24) 0), none, 0⟩, ⟨(some 28), (.ext (.tmp 24) 1), none, 0⟩, ⟨(some 9), (.alloc [(.lit (.string ⟨#[]⟩)), (.sl true 0 [])]), none, 0⟩, ⟨none, (.store 2 (.tmp 9) (.tmp 27)), none, 1⟩, ⟨(some 10), (.mv (.tmp 28)), none, 1⟩])
 (.seq (.seq (.reg 0 [⟨(some 29), (.mv (.tmp 8)), none, 0⟩, ⟨(some 30), (.not (.tmp 29)), none, 0⟩, ⟨(some 31), (.mv (.tmp 30)), none, 0⟩, ⟨(some 32), (.mv (.tmp 10)), (some (31, false)), 0⟩, ⟨(some 33), (.not (.tmp 32)), (some (31, false)), 0⟩, ⟨(some 34), (.pick (.tmp 31) (.val (.lit (.bool true))) (.tmp 33)), none, 0⟩])
 (.cond (.tmp 34) (.seq (.dreg 0 [(0, ⟨(some 35), (.load 1 false (.tmp 5)), none, 0⟩), (1, ⟨(some 36), (.len (.tmp 35)), none, 0⟩), (2, ⟨(some 37), (.bin .add (.tmp 36) (.val (.lit (.int .i64 1)))), none, 0⟩), (3, ⟨none, (.store 1 (.tmp 2) (.val (.sl true 0 []))), none, 0⟩), (4, ⟨none, (.store 1 (.tmp 3) (.tmp 37)), none, 0⟩), (5, ⟨none, (.store 1 (.tmp 4) (.val (.lit (.int .i64 7)))), none, 0⟩)] [[], [0], [1, 0], [], [2, 3, 0, 1], [4, 0, 1, 2, 3]])
 .ret) .skip))
 (.reg 2 [⟨(some 38), (.load 1 false (.tmp 5)), none, 0⟩, ⟨(some 39), (.load 2 true (.tmp 9)), none, 0⟩, ⟨(some 40), (.bslice 2 1 [(.lit (.string ⟨#[]⟩)), (.sl true 0 [])] [(0, (.tmp 39))]), none, 0⟩, ⟨(some 41), (.app 2 40 (.tmp 38) (.tmp 40)), none, 1⟩, ⟨none, (.store 1 (.tmp 5) (.tmp 41)), none, 2⟩])))))
def c15 : ACode :=
 (.seq (.reg 3 [⟨(some 2), (.alloc [(.sl true 0 [])]), none, 0⟩, ⟨(some 3), (.alloc [(.lit (.int .i64 0))]), none, 1⟩, ⟨(some 4), (.alloc [(.lit (.int .i64 0))]), none, 2⟩])
 (.seq (.seq (.reg 0 [⟨(some 13), (.mv (.tmp 0)), none, 0⟩, ⟨(some 14), (.lenS (.tmp 13)), none, 0⟩, ⟨(some 15), (.bin .gtr (.tmp 14) (.val (.lit (.int .i64 60000)))), none, 0⟩])
 (.cond (.tmp 15) (.seq (.reg 0 [⟨none, (.store 1 (.tmp 2) (.val (.sl true 0 []))), none, 0⟩, ⟨none, (.store 1 (.tmp 3) (.val (.lit (.int .i64 0)))), none, 0⟩, ⟨none, (.store 1 (.tmp 4) (.val (.lit (.int .i64 8)))), none, 0⟩])
 .ret) .skip))
 (.seq (.reg 1 [⟨(some 5), (.alloc [(.sl true 0 [])]), none, 0⟩])
 (.seq (.seq (.reg 0 [⟨(some 16), (.mv (.tmp 0)), none, 0⟩, ⟨(some 17), (.call false (.val (.lit (.func (.func 46) #[] #[]))) [(.tmp 16)]), none, 0⟩])
 (.block 0 (.range (.tmp 17) [18] (.reg 0 [⟨(some 6), (.mv (.tmp 18)), none, 0⟩]) c15r0)))
 (.seq (.seq (.reg 0 [⟨(some 43), (.load 1 false (.tmp 5)), none, 0⟩, ⟨(some 44), (.call false (.val (.lit (.func (.func 8) #[] #[]))) [(.tmp 43)]), none, 0⟩, ⟨(some 42), (.mv (.tmp 44)), none, 0⟩, ⟨(some 45), (.ext (.tmp 42) 0), none, 0⟩, ⟨(some 46), (.ext (.tmp 42) 1), none, 0⟩, ⟨(some 11), (.mv (.tmp 45)), none, 0⟩, ⟨(some 12), (.mv (.tmp 46)), none, 0⟩])
 (.seq (.reg 0 [⟨(some 47), (.mv (.tmp 12)), none, 0⟩, ⟨(some 48), (.bin .neq (.tmp 47) (.val (.lit (.int .i64 0)))), none, 0⟩])
 (.cond (.tmp 48) (.seq (.reg 0 [⟨(some 49), (.mv (.tmp 12)), none, 0⟩, ⟨none, (.store 1 (.tmp 2) (.val (.sl true 0 []))), none, 0⟩, ⟨none, (.store 1 (.tmp 3) (.val (.lit (.int .i64 0)))), none, 0⟩, ⟨none, (.store 1 (.tmp 4) (.tmp 49)), none, 0⟩])
 .ret) .skip)))
 (.seq (.reg 0 [⟨(some 50), (.load 1 false (.tmp 5)), none, 0⟩, ⟨none, (.store 1 (.tmp 2) (.tmp 50)), none, 0⟩, ⟨none, (.store 1 (.tmp 3) (.val (.lit (.int .i64 0)))), none, 0⟩, ⟨none, (.store 1 (.tmp 4) (.val (.lit (.int .i64 0)))), none, 0⟩])
 .ret))))))
theorem e15 : envOf Tryz.prog muts 15 = some (51, c15, [(Go.Abs.ARes.cell 1 false 2), (Go.Abs.ARes.cell 1 false 3), (Go.Abs.ARes.cell 1 false 4)]) := by kernel_rfl
def c17l0 : ACode :=
 (.seq (.seq (.reg 0 [⟨(some 11), (.mv (.tmp 5)), none, 0⟩, ⟨(some 12), (.mv (.tmp 0)), none, 0⟩, ⟨(some 13), (.len (.tmp 12)), none, 0⟩, ⟨(some 14), (.bin .lss (.tmp 11) (.tmp 13)), none, 0⟩])
 (.cond (.tmp 14) .skip (.exit 0)))
 (.seq (.block 1 (.seq (.dreg 0 [(0, ⟨(some 17), (.mv (.tmp 0)), none, 0⟩), (1, ⟨(some 18), (.mv (.tmp 5)), none, 0⟩), (2, ⟨(some 19), (.iaddrS 2 (.tmp 17) (.tmp 18)), none, 0⟩), (3, ⟨(some 20), (.faddr 0 (.tmp 19)), none, 0⟩), (4, ⟨(some 21), (.load 1 false (.tmp 20)), none, 0⟩), (5, ⟨(some 22), (.mv (.tmp 1)), none, 0⟩), (6, ⟨(some 23), (.mv (.tmp 5)), none, 0⟩), (7, ⟨(some 24), (.iaddrS 2 (.tmp 22) (.tmp 23)), none, 0⟩), (8, ⟨(some 25), (.faddr 0 (.tmp 24)), none, 0⟩), (9, ⟨(some 26), (.load 1 false (.tmp 25)), none, 0⟩), (10, ⟨(some 27), (.bin .neq (.tmp 21) (.tmp 26)), none, 0⟩), (11, ⟨(some 28), (.mv (.tmp 27)), none, 0⟩), (12, ⟨(some 29), (.mv (.tmp 0)), (some (28, false)), 0⟩), (13, ⟨(some 30), (.mv (.tmp 5)), (some (28, false)), 0⟩), (14, ⟨(some 31), (.iaddrS 2 (.tmp 29) (.tmp 30)), (some (28, false)), 0⟩), (15, ⟨(some 32), (.faddr 1 (.tmp 31)), (some (28, false)), 0⟩), (16, ⟨(some 33), (.load 1 false (.tmp 32)), (some (28, false)), 0⟩), (17, ⟨(some 34), (.mv (.tmp 1)), (some (28, false)), 0⟩), (18, ⟨(some 35), (.mv (.tmp 5)), (some (28, false)), 0⟩), (19, ⟨(some 36), (.iaddrS 2 (.tmp 34) (.tmp 35)), (some (28, false)), 0⟩), (20, ⟨(some 37), (.faddr 1 (.tmp 36)), (some (28, false)), 0⟩), (21, ⟨(some 38), (.load 1 false (.tmp 37)), (some (28, false)), 0⟩), (22, ⟨(some 39), (.call false (.val (.lit (.func (.func 31) #[] #[]))) [(.tmp 33), (.tmp 38)]), (some (28, false)), 0⟩), (23, ⟨(some 40), (.not (.tmp 39)), (some (28, false)), 0⟩), (24, ⟨(some 41), (.pick (.tmp 28) (.val (.lit (.bool true))) (.tmp 40)), none, 0⟩)] [[], [], [0, 1], [2, 0, 1], [3, 2, 0, 1], [], [], [5, 6], [7, 5, 6], [8, 7, 5, 6], [4, 9, 3, 2, 0, 1, 8, 7, 5, 6], [10, 4, 9, 3, 2, 0, 1, 8, 7, 5, 6], [11, 10, 4, 9, 3, 2, 0, 1, 8, 7, 5, 6], [11, 10, 4, 9, 3, 2, 0, 1, 8, 7, 5, 6], [12, 13, 11, 10, 4, 9, 3, 2, 0, 1, 8, 7, 5, 6], [14, 11, 12, 13, 10, 4, 9, 3, 2, 0, 1, 8, 7, 5, 6], [15, 11, 14, 12, 13, 10, 4, 9, 3, 2, 0, 1, 8, 7, 5, 6], [11, 10, 4, 9, 3, 2, 0, 1, 8, 7, 5, 6], [11, 10, 4, 9, 3, 2, 0, 1, 8, 7, 5, 6], [17, 18, 11, 10, 4, 9, 3, 2, 0, 1, 8, 7, 5, 6], [19, 11, 17, 18, 10, 4, 9, 3, 2, 0, 1, 8, 7, 5, 6], [20, 11, 19, 17, 18, 10, 4, 9, 3, 2, 0, 1, 8, 7, 5, 6], [16, 21, 11, 15, 14, 12, 13, 10, 4, 9, 3, 2, 0, 1, 8, 7, 5, 6, 20, 19, 17, 18], [22, 11, 16, 21, 15, 14, 12, 13, 10, 4, 9, 3, 2, 0, 1, 8, 7, 5, 6, 20, 19, 17, 18], [11, 23, 10, 4, 9, 3, 2, 0, 1, 8, 7, 5, 6, 22, 16, 21, 15, 14, 12, 13, 20, 19, 17, 18]])
 (.cond (.tmp 41) (.seq (.reg 0 [⟨(some 4), (.mv (.val (.lit (.bool false)))), none, 0⟩])
 .ret) .skip)))
 (.reg 0 [⟨(some 15), (.mv (.tmp 5)), none, 0⟩, ⟨(some 16), (.bin .add (.tmp 15) (.val (.lit (.int .i64 1)))), none, 0⟩, ⟨(some 5), (.mv (.tmp 16)), none, 0⟩])))
def c17 : ACode :=
 (.seq (.reg 0 [⟨(some 4), (.mv (.val (.lit (.bool false)))), none, 0⟩])
 (.seq (.seq (.reg 0 [⟨(some 6), (.mv (.tmp 0)), none, 0⟩, ⟨(some 7), (.len (.tmp 6)), none, 0⟩, ⟨(some 8), (.mv (.tmp 1)), none, 0⟩, ⟨(some 9), (.len (.tmp 8)), none, 0⟩, ⟨(some 10), (.bin .neq (.tmp 7) (.tmp 9)), none, 0⟩])
 (.cond (.tmp 10) (.seq (.reg 0 [⟨(some 4), (.mv (.val (.lit (.bool false)))), none, 0⟩])
 .ret) .skip))
 (.seq (.seq (.reg 0 [⟨(some 5), (.mv (.val (.lit (.int .i64 0)))), none, 0⟩])
 (.block 0 (.loop c17l0)))
 (.seq (.reg 0 [⟨(some 4), (.mv (.val (.lit (.bool true)))), none, 0⟩])
 .ret))))
theorem e17 : envOf Tryz.prog muts 17 = some (42, c17, [(Go.Abs.ARes.tmp 4)]) := by kernel_rfl
def c18l0 : ACode :=
 (.seq (.seq (.reg 0 [⟨(some 17), (.mv (.tmp 7)), none, 0⟩, ⟨(some 18), (.mv (.tmp 5)), none, 0⟩, ⟨(some 19), (.len (.tmp 18)), none, 0⟩, ⟨(some 20), (.bin .sub (.tmp 19) (.val (.lit (.int .i64 1)))), none, 0⟩, ⟨(some 21), (.bin .lss (.tmp 17) (.tmp 20)), none, 0⟩])
 (.cond (.tmp 21) .skip (.exit 0)))
 (.seq (.block 1 (.seq (.reg 1 [⟨(some 25), (.mv (.tmp 5)), none, 0⟩, ⟨(some 26), (.mv (.tmp 7)), none, 0⟩, ⟨(some 27), (.iaddrS 1 (.tmp 25) (.tmp 26)), none, 0⟩, ⟨(some 28), (.load 1 false (.tmp 27)), none, 0⟩, ⟨(some 29), (.call false (.val (.lit (.func (.func 51) #[] #[]))) [(.tmp 28)]), none, 0⟩, ⟨(some 24), (.mv (.tmp 29)), none, 0⟩, ⟨(some 30), (.ext (.tmp 24) 0), none, 0⟩, ⟨(some 31), (.ext (.tmp 24) 1), none, 0⟩, ⟨(some 8), (.alloc [(.lit (.string ⟨#[]⟩)), (.sl true 0 [])]), none, 0⟩, ⟨none, (.store 2 (.tmp 8) (.tmp 30)), none, 1⟩, ⟨(some 9), (.mv (.tmp 31)), none, 1⟩])
 (.seq (.seq (.reg 0 [⟨(some 32), (.mv (.tmp 9)), none, 0⟩, ⟨(some 33), (.not (.tmp 32)), none, 0⟩])
 (.cond (.tmp 33) (.seq (.reg 0 [⟨(some 34), (.mv (.tmp 7)), none, 0⟩, ⟨(some 35), (.bin .add (.tmp 34) (.val (.lit (.int .i64 1)))), none, 0⟩, ⟨(some 2), (.mv (.val (.sl true 0 []))), none, 0⟩, ⟨(some 3), (.mv (.tmp 35)), none, 0⟩, ⟨(some 4), (.mv (.val (.lit (.int .i64 7)))), none, 0⟩])
 .ret) .skip))
 (.reg 2 [⟨(some 36), (.mv (.tmp 6)), none, 0⟩, ⟨(some 37), (.load 2 true (.tmp 8)), none, 0⟩, ⟨(some 38), (.bslice 2 1 [(.lit (.string ⟨#[]⟩)), (.sl true 0 [])] [(0, (.tmp 37))]), none, 0⟩, ⟨(some 39), (.app 2 40 (.tmp 36) (.tmp 38)), none, 1⟩, ⟨(some 6), (.mv (.tmp 39)), none, 2⟩]))))
 (.reg 0 [⟨(some 22), (.mv (.tmp 7)), none, 0⟩, ⟨(some 23), (.bin .add (.tmp 22) (.val (.lit (.int .i64 1)))), none, 0⟩, ⟨(some 7), (.mv (.tmp 23)), none, 0⟩])))
def c18 : ACode :=
 (.seq (.reg 0 [⟨(some 2), (.mv (.val (.sl true 0 []))), none, 0⟩, ⟨(some 3), (.mv (.val (.lit (.int .i64 0)))), none, 0⟩, ⟨(some 4), (.mv (.val (.lit (.int .i64 0)))), none, 0⟩])
 (.seq (.seq (.reg 0 [⟨(some 12), (.mv (.tmp 0)), none, 0⟩, ⟨(some 13), (.lenS (.tmp 12)), none, 0⟩, ⟨(some 14), (.bin .gtr (.tmp 13) (.val (.lit (.int .i64 60000)))), none, 0⟩])
 (.cond (.tmp 14) (.seq (.reg 0 [⟨(some 2), (.mv (.val (.sl true 0 []))), none, 0⟩, ⟨(some 3), (.mv (.val (.lit (.int .i64 0)))), none, 0⟩, ⟨(some 4), (.mv (.val (.lit (.int .i64 8)))), none, 0⟩])
 .ret) .skip))
 (.seq (.reg 0 [⟨(some 15), (.mv (.tmp 0)), none, 0⟩, ⟨(some 16), (.call false (.val (.lit (.func (.func 50) #[] #[]))) [(.tmp 15), (.val (.lit (.int .u8 10)))]), none, 0⟩, ⟨(some 5), (.mv (.tmp 16)), none, 0⟩])
 (.seq (.reg 0 [⟨(some 6), (.mv (.val (.sl true 0 []))), none, 0⟩])
 (.seq (.seq (.reg 0 [⟨(some 7), (.mv (.val (.lit (.int .i64 0)))), none, 0⟩])
 (.block 0 (.loop c18l0)))
 (.seq (.seq (.reg 0 [⟨(some 40), (.mv (.tmp 5)), none, 0⟩, ⟨(some 41), (.mv (.tmp 5)), none, 0⟩, ⟨(some 42), (.len (.tmp 41)), none, 0⟩, ⟨(some 43), (.bin .sub (.tmp 42) (.val (.lit (.int .i64 1)))), none, 0⟩, ⟨(some 44), (.iaddrS 1 (.tmp 40) (.tmp 43)), none, 0⟩, ⟨(some 45), (.load 1 false (.tmp 44)), none, 0⟩, ⟨(some 46), (.bin .neq (.tmp 45) (.val (.lit (.string ⟨#[]⟩)))), none, 0⟩])
 (.cond (.tmp 46) (.seq (.reg 0 [⟨(some 47), (.mv (.tmp 5)), none, 0⟩, ⟨(some 48), (.len (.tmp 47)), none, 0⟩, ⟨(some 2), (.mv (.val (.sl true 0 []))), none, 0⟩, ⟨(some 3), (.mv (.tmp 48)), none, 0⟩, ⟨(some 4), (.mv (.val (.lit (.int .i64 7)))), none, 0⟩])
 .ret) .skip))
 (.seq (.seq (.reg 0 [⟨(some 50), (.mv (.tmp 6)), none, 0⟩, ⟨(some 51), (.call false (.val (.lit (.func (.func 11) #[] #[]))) [(.tmp 50)]), none, 0⟩, ⟨(some 49), (.mv (.tmp 51)), none, 0⟩, ⟨(some 52), (.ext (.tmp 49) 0), none, 0⟩, ⟨(some 53), (.ext (.tmp 49) 1), none, 0⟩, ⟨(some 10), (.mv (.tmp 52)), none, 0⟩, ⟨(some 11), (.mv (.tmp 53)), none, 0⟩])
 (.seq (.reg 0 [⟨(some 54), (.mv (.tmp 11)), none, 0⟩, ⟨(some 55), (.bin .neq (.tmp 54) (.val (.lit (.int .i64 0)))), none, 0⟩])
 (.cond (.tmp 55) (.seq (.reg 0 [⟨(some 56), (.mv (.tmp 11)), none, 0⟩, ⟨(some 2), (.mv (.val (.sl true 0 []))), none, 0⟩, ⟨(some 3), (.mv (.val (.lit (.int .i64 0)))), none, 0⟩, ⟨(some 4), (.mv (.tmp 56)), none, 0⟩])
 .ret) .skip)))
 (.seq (.reg 0 [⟨(some 57), (.mv (.tmp 6)), none, 0⟩, ⟨(some 2), (.mv (.tmp 57)), none, 0⟩, ⟨(some 3), (.mv (.val (.lit (.int .i64 0)))), none, 0⟩, ⟨(some 4), (.mv (.val (.lit (.int .i64 0)))), none, 0⟩])
 .ret))))))))
theorem e18 : envOf Tryz.prog muts 18 = some (58, c18, [(Go.Abs.ARes.tmp 2), (Go.Abs.ARes.tmp 3), (Go.Abs.ARes.tmp 4)]) := by kernel_rfl
def c19 : ACode :=
 (.seq (.reg 1 [⟨(some 2), (.alloc [(.lit (.string ⟨#[]⟩)), (.lit (.string ⟨#[]⟩)), (.lit (.int .i64 0))]), none, 0⟩, ⟨(some 3), (.mv (.val (.lit (.int .i64 0)))), none, 1⟩])
 (.seq (.reg 0 [⟨(some 7), (.mv (.tmp 0)), none, 0⟩, ⟨(some 8), (.call false (.val (.lit (.func (.func 52) #[] #[]))) [(.tmp 7), (.val (.lit (.string ⟨#[32]⟩)))]), none, 0⟩, ⟨(some 4), (.mv (.tmp 8)), none, 0⟩])
 (.seq (.seq (.reg 0 [⟨(some 9), (.mv (.tmp 4)), none, 0⟩, ⟨(some 10), (.len (.tmp 9)), none, 0⟩, ⟨(some 11), (.bin .neq (.tmp 10) (.val (.lit (.int .i64 3)))), none, 0⟩])
 (.cond (.tmp 11) (.seq (.reg 0 [⟨(some 12), (.build [(.lit (.string ⟨#[]⟩)), (.lit (.string ⟨#[]⟩)), (.lit (.int .i64 0))] []), none, 0⟩, ⟨none, (.store 3 (.tmp 2) (.tmp 12)), none, 0⟩, ⟨(some 3), (.mv (.val (.lit (.int .i64 7)))), none, 0⟩])
 .ret) .skip))
 (.seq (.reg 0 [⟨(some 14), (.mv (.tmp 4)), none, 0⟩, ⟨(some 15), (.iaddrS 1 (.tmp 14) (.val (.lit (.int .i64 2)))), none, 0⟩, ⟨(some 16), (.load 1 false (.tmp 15)), none, 0⟩, ⟨(some 17), (.call false (.val (.lit (.func (.func 53) #[] #[]))) [(.tmp 16)]), none, 0⟩, ⟨(some 13), (.mv (.tmp 17)), none, 0⟩, ⟨(some 18), (.ext (.tmp 13) 0), none, 0⟩, ⟨(some 19), (.ext (.tmp 13) 1), none, 0⟩, ⟨(some 5), (.mv (.tmp 18)), none, 0⟩, ⟨(some 6), (.mv (.tmp 19)), none, 0⟩])
 (.seq (.seq (.reg 0 [⟨(some 20), (.mv (.tmp 6)), none, 0⟩, ⟨(some 21), (.not (.tmp 20)), none, 0⟩])
 (.cond (.tmp 21) (.seq (.reg 0 [⟨(some 22), (.build [(.lit (.string ⟨#[]⟩)), (.lit (.string ⟨#[]⟩)), (.lit (.int .i64 0))] []), none, 0⟩, ⟨none, (.store 3 (.tmp 2) (.tmp 22)), none, 0⟩, ⟨(some 3), (.mv (.val (.lit (.int .i64 7)))), none, 0⟩])
 .ret) .skip))
 (.seq (.dreg 0 [(0, ⟨(some 23), (.mv (.tmp 4)), none, 0⟩), (1, ⟨(some 24), (.iaddrS 1 (.tmp 23) (.val (.lit (.int .i64 0)))), none, 0⟩), (2, ⟨(some 25), (.load 1 false (.tmp 24)), none, 0⟩), (3, ⟨(some 26), (.mv (.tmp 4)), none, 0⟩), (4, ⟨(some 27), (.iaddrS 1 (.tmp 26) (.val (.lit (.int .i64 1)))), none, 0⟩), (5, ⟨(some 28), (.load 1 false (.tmp 27)), none, 0⟩), (6, ⟨(some 29), (.mv (.tmp 5)), none, 0⟩), (7, ⟨(some 30), (.build [(.lit (.string ⟨#[]⟩)), (.lit (.string ⟨#[]⟩)), (.lit (.int .i64 0))] [(0, (1, (.tmp 25))), (1, (1, (.tmp 28))), (2, (1, (.tmp 29)))]), none, 0⟩), (8, ⟨none, (.store 3 (.tmp 2) (.tmp 30)), none, 0⟩), (9, ⟨(some 3), (.mv (.val (.lit (.int .i64 0)))), none, 0⟩)] [[], [0], [1, 0], [], [3], [4, 3], [], [2, 5, 6, 1, 0, 4, 3], [7, 0, 1, 2, 3, 4, 5, 6], [8, 0, 1, 2, 3, 4, 5, 6, 7]])
 .ret))))))
theorem e19 : envOf Tryz.prog muts 19 = some (31, c19, [(Go.Abs.ARes.cell 3 true 2), (Go.Abs.ARes.tmp 3)]) := by kernel_rfl
def c20 : ACode :=
 (.seq (.reg 1 [⟨(some 2), (.alloc [(.lit (.string ⟨#[]⟩)), (.lit (.string ⟨#[]⟩)), (.lit (.int .i64 0))]), none, 0⟩, ⟨(some 3), (.mv (.val (.lit (.int .i64 0)))), none, 1⟩])
 (.seq (.reg 0 [⟨(some 7), (.mv (.tmp 0)), none, 0⟩, ⟨(some 8), (.call false (.val (.lit (.func (.func 50) #[] #[]))) [(.tmp 7), (.val (.lit (.int .u8 32)))]), none, 0⟩, ⟨(some 4), (.mv (.tmp 8)), none, 0⟩])
 (.seq (.seq (.reg 0 [⟨(some 9), (.mv (.tmp 4)), none, 0⟩, ⟨(some 10), (.len (.tmp 9)), none, 0⟩, ⟨(some 11), (.bin .neq (.tmp 10) (.val (.lit (.int .i64 3)))), none, 0⟩])
 (.cond (.tmp 11) (.seq (.reg 0 [⟨(some 12), (.build [(.lit (.string ⟨#[]⟩)), (.lit (.string ⟨#[]⟩)), (.lit (.int .i64 0))] []), none, 0⟩, ⟨none, (.store 3 (.tmp 2) (.tmp 12)), none, 0⟩, ⟨(some 3), (.mv (.val (.lit (.int .i64 7)))), none, 0⟩])
 .ret) .skip))
 (.seq (.reg 0 [⟨(some 14), (.mv (.tmp 4)), none, 0⟩, ⟨(some 15), (.iaddrS 1 (.tmp 14) (.val (.lit (.int .i64 2)))), none, 0⟩, ⟨(some 16), (.load 1 false (.tmp 15)), none, 0⟩, ⟨(some 17), (.call false (.val (.lit (.func (.func 54) #[] #[]))) [(.tmp 16), (.val (.lit (.int .i64 7)))]), none, 0⟩, ⟨(some 13), (.mv (.tmp 17)), none, 0⟩, ⟨(some 18), (.ext (.tmp 13) 0), none, 0⟩, ⟨(some 19), (.ext (.tmp 13) 1), none, 0⟩, ⟨(some 5), (.mv (.tmp 18)), none, 0⟩, ⟨(some 6), (.mv (.tmp 19)), none, 0⟩])
 (.seq (.seq (.reg 0 [⟨(some 20), (.mv (.tmp 6)), none, 0⟩, ⟨(some 21), (.not (.tmp 20)), none, 0⟩])
 (.cond (.tmp 21) (.seq (.reg 0 [⟨(some 22), (.build [(.lit (.string ⟨#[]⟩)), (.lit (.string ⟨#[]⟩)), (.lit (.int .i64 0))] []), none, 0⟩, ⟨none, (.store 3 (.tmp 2) (.tmp 22)), none, 0⟩, ⟨(some 3), (.mv (.val (.lit (.int .i64 7)))), none, 0⟩])
 .ret) .skip))
 (.seq (.dreg 0 [(0, ⟨(some 23), (.mv (.tmp 4)), none, 0⟩), (1, ⟨(some 24), (.iaddrS 1 (.tmp 23) (.val (.lit (.int .i64 0)))), none, 0⟩), (2, ⟨(some 25), (.load 1 false (.tmp 24)), none, 0⟩), (3, ⟨(some 26), (.mv (.tmp 4)), none, 0⟩), (4, ⟨(some 27), (.iaddrS 1 (.tmp 26) (.val (.lit (.int .i64 1)))), none, 0⟩), (5, ⟨(some 28), (.load 1 false (.tmp 27)), none, 0⟩), (6, ⟨(some 29), (.mv (.tmp 5)), none, 0⟩), (7, ⟨(some 30), (.build [(.lit (.string ⟨#[]⟩)), (.lit (.string ⟨#[]⟩)), (.lit (.int .i64 0))] [(0, (1, (.tmp 25))), (1, (1, (.tmp 28))), (2, (1, (.tmp 29)))]), none, 0⟩), (8, ⟨none, (.store 3 (.tmp 2) (.tmp 30)), none, 0⟩), (9, ⟨(some 3), (.mv (.val (.lit (.int .i64 0)))), none, 0⟩)] [[], [0], [1, 0], [], [3], [4, 3], [], [2, 5, 6, 1, 0, 4, 3], [7, 0, 1, 2, 3, 4, 5, 6], [8, 0, 1, 2, 3, 4, 5, 6, 7]])
 .ret))))))
theorem e20 : envOf Tryz.prog muts 20 = some (31, c20, [(Go.Abs.ARes.cell 3 true 2), (Go.Abs.ARes.tmp 3)]) := by kernel_rfl
def c21 : ACode :=
 (.seq (.reg 1 [⟨(some 1), (.box 3 (.tmp 0)), none, 0⟩, ⟨(some 2), (.mv (.val (.lit (.string ⟨#[]⟩)))), none, 1⟩])
 (.seq (.dreg 1 [(0, ⟨(some 3), (.faddr 0 (.tmp 1)), none, 0⟩), (1, ⟨(some 4), (.load 1 false (.tmp 3)), none, 0⟩), (2, ⟨(some 5), (.faddr 1 (.tmp 1)), none, 0⟩), (3, ⟨(some 6), (.load 1 false (.tmp 5)), none, 0⟩), (4, ⟨(some 7), (.faddr 2 (.tmp 1)), none, 0⟩), (5, ⟨(some 8), (.load 1 false (.tmp 7)), none, 0⟩), (6, ⟨(some 9), (.call false (.val (.lit (.func (.func 39) #[] #[]))) [(.tmp 8)]), none, 0⟩), (7, ⟨(some 10), (.bslice 1 3 [(.lit (.string ⟨#[]⟩))] [(0, (.tmp 4)), (1, (.tmp 6)), (2, (.tmp 9))]), none, 0⟩), (8, ⟨(some 11), (.call false (.val (.lit (.func (.func 55) #[] #[]))) [(.tmp 10), (.val (.lit (.string ⟨#[32]⟩)))]), none, 1⟩), (9, ⟨(some 2), (.mv (.tmp 11)), none, 1⟩)] [[], [0], [], [2], [], [4], [5, 4], [1, 3, 6, 0, 2, 5, 4], [7, 6, 1, 3, 0, 2, 5, 4], [8, 0, 1, 2, 3, 4, 5, 6, 7]])
 .ret))
theorem e21 : envOf Tryz.prog muts 21 = some (12, c21, [(Go.Abs.ARes.tmp 2)]) := by kernel_rfl
def c22 : ACode :=
 (.seq (.reg 1 [⟨(some 1), (.box 3 (.tmp 0)), none, 0⟩, ⟨(some 2), (.mv (.val (.lit (.string ⟨#[]⟩)))), none, 1⟩])
 (.seq (.dreg 0 [(0, ⟨(some 3), (.faddr 0 (.tmp 1)), none, 0⟩), (1, ⟨(some 4), (.load 1 false (.tmp 3)), none, 0⟩), (2, ⟨(some 5), (.bin .add (.tmp 4) (.val (.lit (.string ⟨#[32]⟩)))), none, 0⟩), (3, ⟨(some 6), (.faddr 1 (.tmp 1)), none, 0⟩), (4, ⟨(some 7), (.load 1 false (.tmp 6)), none, 0⟩), (5, ⟨(some 8), (.bin .add (.tmp 5) (.tmp 7)), none, 0⟩), (6, ⟨(some 9), (.bin .add (.tmp 8) (.val (.lit (.string ⟨#[32]⟩)))), none, 0⟩), (7, ⟨(some 10), (.faddr 2 (.tmp 1)), none, 0⟩), (8, ⟨(some 11), (.load 1 false (.tmp 10)), none, 0⟩), (9, ⟨(some 12), (.call false (.val (.lit (.func (.func 49) #[] #[]))) [(.tmp 11)]), none, 0⟩), (10, ⟨(some 13), (.bin .add (.tmp 9) (.tmp 12)), none, 0⟩), (11, ⟨(some 2), (.mv (.tmp 13)), none, 0⟩)] [[], [0], [1, 0], [], [3], [2, 4, 1, 0, 3], [5, 2, 4, 1, 0, 3], [], [7], [8, 7], [6, 9, 5, 2, 4, 1, 0, 3, 8, 7], [10, 9, 0, 1, 2, 3, 4, 5, 6, 7, 8]])
 .ret))
theorem e22 : envOf Tryz.prog muts 22 = some (14, c22, [(Go.Abs.ARes.tmp 2)]) := by kernel_rfl
def c23l0 : ACode :=
 (.seq (.seq (.reg 0 [⟨(some 18), (.mv (.tmp 3)), none, 0⟩, ⟨(some 19), (.mv (.tmp 0)), none, 0⟩, ⟨(some 20), (.lenS (.tmp 19)), none, 0⟩, ⟨(some 21), (.bin .lss (.tmp 18) (.tmp 20)), none, 0⟩])
 (.cond (.tmp 21) .skip (.exit 0)))
 (.seq (.block 1 (.seq (.reg 0 [⟨(some 24), (.mv (.tmp 0)), none, 0⟩, ⟨(some 25), (.mv (.tmp 3)), none, 0⟩, ⟨(some 26), (.idxS (.tmp 24) (.tmp 25)), none, 0⟩, ⟨(some 27), (.call false (.val (.lit (.func (.func 56) #[] #[]))) [(.tmp 26)]), none, 0⟩, ⟨(some 28), (.not (.tmp 27)), none, 0⟩, ⟨(some 29), (.mv (.tmp 28)), none, 0⟩, ⟨(some 30), (.mv (.tmp 0)), (some (29, true)), 0⟩, ⟨(some 31), (.mv (.tmp 3)), (some (29, true)), 0⟩, ⟨(some 32), (.idxS (.tmp 30) (.tmp 31)), (some (29, true)), 0⟩, ⟨(some 33), (.call false (.val (.lit (.func (.func 57) #[] #[]))) [(.tmp 32)]), (some (29, true)), 0⟩, ⟨(some 34), (.not (.tmp 33)), (some (29, true)), 0⟩, ⟨(some 35), (.pick (.tmp 29) (.tmp 34) (.val (.lit (.bool false)))), none, 0⟩, ⟨(some 36), (.mv (.tmp 35)), none, 0⟩, ⟨(some 37), (.mv (.tmp 0)), (some (36, true)), 0⟩, ⟨(some 38), (.mv (.tmp 3)), (some (36, true)), 0⟩, ⟨(some 39), (.idxS (.tmp 37) (.tmp 38)), (some (36, true)), 0⟩, ⟨(some 40), (.bin .neq (.tmp 39) (.val (.lit (.int .u8 45)))), (some (36, true)), 0⟩, ⟨(some 41), (.pick (.tmp 36) (.tmp 40) (.val (.lit (.bool false)))), none, 0⟩])
 (.cond (.tmp 41) (.seq (.reg 0 [⟨(some 2), (.mv (.val (.lit (.bool false)))), none, 0⟩])
 .ret) .skip)))
 (.reg 0 [⟨(some 22), (.mv (.tmp 3)), none, 0⟩, ⟨(some 23), (.bin .add (.tmp 22) (.val (.lit (.int .i64 1)))), none, 0⟩, ⟨(some 3), (.mv (.tmp 23)), none, 0⟩])))
def c23 : ACode :=
 (.seq (.reg 0 [⟨(some 2), (.mv (.val (.lit (.bool false)))), none, 0⟩])
 (.seq (.seq (.reg 0 [⟨(some 4), (.mv (.tmp 0)), none, 0⟩, ⟨(some 5), (.lenS (.tmp 4)), none, 0⟩, ⟨(some 6), (.bin .eql (.tmp 5) (.val (.lit (.int .i64 0)))), none, 0⟩, ⟨(some 7), (.mv (.tmp 6)), none, 0⟩, ⟨(some 8), (.mv (.tmp 0)), (some (7, false)), 0⟩, ⟨(some 9), (.lenS (.tmp 8)), (some (7, false)), 0⟩, ⟨(some 10), (.bin .gtr (.tmp 9) (.val (.lit (.int .i64 12)))), (some (7, false)), 0⟩, ⟨(some 11), (.pick (.tmp 7) (.val (.lit (.bool true))) (.tmp 10)), none, 0⟩, ⟨(some 12), (.mv (.tmp 11)), none, 0⟩, ⟨(some 13), (.mv (.tmp 0)), (some (12, false)), 0⟩, ⟨(some 14), (.idxS (.tmp 13) (.val (.lit (.int .i64 0)))), (some (12, false)), 0⟩, ⟨(some 15), (.call false (.val (.lit (.func (.func 56) #[] #[]))) [(.tmp 14)]), (some (12, false)), 0⟩, ⟨(some 16), (.not (.tmp 15)), (some (12, false)), 0⟩, ⟨(some 17), (.pick (.tmp 12) (.val (.lit (.bool true))) (.tmp 16)), none, 0⟩])
 (.cond (.tmp 17) (.seq (.reg 0 [⟨(some 2), (.mv (.val (.lit (.bool false)))), none, 0⟩])
 .ret) .skip))
 (.seq (.seq (.reg 0 [⟨(some 3), (.mv (.val (.lit (.int .i64 0)))), none, 0⟩])
 (.block 0 (.loop c23l0)))
 (.seq (.reg 0 [⟨(some 2), (.mv (.val (.lit (.bool true)))), none, 0⟩])
 .ret))))
theorem e23 : envOf Tryz.prog muts 23 = some (42, c23, [(Go.Abs.ARes.tmp 2)]) := by kernel_rfl
def c24 : ACode :=
 (.seq (.reg 0 [⟨(some 6), (.mv (.val (.lit (.bool false)))), none, 0⟩])
 (.seq (.reg 0 [⟨(some 7), (.mv (.tmp 0)), none, 0⟩, ⟨(some 8), (.mv (.tmp 1)), none, 0⟩, ⟨(some 9), (.bin .geq (.tmp 7) (.tmp 8)), none, 0⟩, ⟨(some 10), (.mv (.tmp 9)), none, 0⟩, ⟨(some 11), (.mv (.tmp 0)), (some (10, true)), 0⟩, ⟨(some 12), (.mv (.tmp 2)), (some (10, true)), 0⟩, ⟨(some 13), (.bin .leq (.tmp 11) (.tmp 12)), (some (10, true)), 0⟩, ⟨(some 14), (.pick (.tmp 10) (.tmp 13) (.val (.lit (.bool false)))), none, 0⟩, ⟨(some 6), (.mv (.tmp 14)), none, 0⟩])
 .ret))
theorem e24 : envOf Tryz.prog muts 24 = some (15, c24, [(Go.Abs.ARes.tmp 6)]) := by kernel_rfl
def c31l0 : ACode :=
 (.seq (.seq (.reg 0 [⟨(some 11), (.mv (.tmp 5)), none, 0⟩, ⟨(some 12), (.mv (.tmp 0)), none, 0⟩, ⟨(some 13), (.len (.tmp 12)), none, 0⟩, ⟨(some 14), (.bin .lss (.tmp 11) (.tmp 13)), none, 0⟩])
 (.cond (.tmp 14) .skip (.exit 0)))
 (.seq (.block 1 (.seq (.dreg 0 [(0, ⟨(some 17), (.mv (.tmp 0)), none, 0⟩), (1, ⟨(some 18), (.mv (.tmp 5)), none, 0⟩), (2, ⟨(some 19), (.iaddrS 1 (.tmp 17) (.tmp 18)), none, 0⟩), (3, ⟨(some 20), (.load 1 false (.tmp 19)), none, 0⟩), (4, ⟨(some 21), (.mv (.tmp 1)), none, 0⟩), (5, ⟨(some 22), (.mv (.tmp 5)), none, 0⟩), (6, ⟨(some 23), (.iaddrS 1 (.tmp 21) (.tmp 22)), none, 0⟩), (7, ⟨(some 24), (.load 1 false (.tmp 23)), none, 0⟩), (8, ⟨(some 25), (.bin .neq (.tmp 20) (.tmp 24)), none, 0⟩)] [[], [], [0, 1], [2, 0, 1], [], [], [4, 5], [6, 4, 5], [3, 7, 2, 0, 1, 6, 4, 5]])
 (.cond (.tmp 25) (.seq (.reg 0 [⟨(some 4), (.mv (.val (.lit (.bool false)))), none, 0⟩])
 .ret) .skip)))
 (.reg 0 [⟨(some 15), (.mv (.tmp 5)), none, 0⟩, ⟨(some 16), (.bin .add (.tmp 15) (.val (.lit (.int .i64 1)))), none, 0⟩, ⟨(some 5), (.mv (.tmp 16)), none, 0⟩])))
def c31 : ACode :=
 (.seq (.reg 0 [⟨(some 4), (.mv (.val (.lit (.bool false)))), none, 0⟩])
 (.seq (.seq (.reg 0 [⟨(some 6), (.mv (.tmp 0)), none, 0⟩, ⟨(some 7), (.len (.tmp 6)), none, 0⟩, ⟨(some 8), (.mv (.tmp 1)), none, 0⟩, ⟨(some 9), (.len (.tmp 8)), none, 0⟩, ⟨(some 10), (.bin .neq (.tmp 7) (.tmp 9)), none, 0⟩])
 (.cond (.tmp 10) (.seq (.reg 0 [⟨(some 4), (.mv (.val (.lit (.bool false)))), none, 0⟩])
 .ret) .skip))
 (.seq (.seq (.reg 0 [⟨(some 5), (.mv (.val (.lit (.int .i64 0)))), none, 0⟩])
 (.block 0 (.loop c31l0)))
 (.seq (.reg 0 [⟨(some 4), (.mv (.val (.lit (.bool true)))), none, 0⟩])
 .ret))))
theorem e31 : envOf Tryz.prog muts 31 = some (26, c31, [(Go.Abs.ARes.tmp 4)]) := by kernel_rfl
def c32l0 : ACode :=
 (.seq (.reg 0 [⟨(some 10), (.bin .lss (.tmp 9) (.tmp 8)), none, 0⟩])
 (.seq (.cond (.tmp 10) .skip (.exit 0))
 (.seq (.block 1 (.seq (.reg 0 [⟨(some 11), (.mv (.tmp 9)), none, 0⟩, ⟨(some 12), (.iaddrS 1 (.tmp 7) (.tmp 9)), none, 0⟩, ⟨(some 13), (.load 1 false (.tmp 12)), none, 0⟩, ⟨(some 3), (.mv (.tmp 11)), none, 0⟩, ⟨(some 4), (.mv (.tmp 13)), none, 0⟩])
 (.seq (.reg 0 [⟨(some 14), (.mv (.tmp 4)), none, 0⟩, ⟨(some 15), (.bin .geq (.tmp 14) (.val (.lit (.int .u8 97)))), none, 0⟩, ⟨(some 16), (.mv (.tmp 15)), none, 0⟩, ⟨(some 17), (.mv (.tmp 4)), (some (16, true)), 0⟩, ⟨(some 18), (.bin .leq (.tmp 17) (.val (.lit (.int .u8 122)))), (some (16, true)), 0⟩, ⟨(some 19), (.pick (.tmp 16) (.tmp 18) (.val (.lit (.bool false)))), none, 0⟩, ⟨(some 20), (.mv (.tmp 19)), none, 0⟩, ⟨(some 21), (.mv (.tmp 4)), (some (20, false)), 0⟩, ⟨(some 22), (.bin .geq (.tmp 21) (.val (.lit (.int .u8 65)))), (some (20, false)), 0⟩, ⟨(some 23), (.mv (.tmp 22)), (some (20, false)), 0⟩, ⟨(some 24), (.mv (.tmp 4)), (some (23, true)), 0⟩, ⟨(some 25), (.bin .leq (.tmp 24) (.val (.lit (.int .u8 90)))), (some (23, true)), 0⟩, ⟨(some 26), (.pick (.tmp 23) (.tmp 25) (.val (.lit (.bool false)))), (some (20, false)), 0⟩, ⟨(some 27), (.pick (.tmp 20) (.val (.lit (.bool true))) (.tmp 26)), none, 0⟩, ⟨(some 5), (.mv (.tmp 27)), none, 0⟩])
 (.seq (.reg 0 [⟨(some 28), (.mv (.tmp 5)), none, 0⟩, ⟨(some 29), (.not (.tmp 28)), none, 0⟩, ⟨(some 30), (.mv (.tmp 29)), none, 0⟩, ⟨(some 31), (.mv (.tmp 3)), (some (30, true)), 0⟩, ⟨(some 32), (.bin .eql (.tmp 31) (.val (.lit (.int .i64 0)))), (some (30, true)), 0⟩, ⟨(some 33), (.mv (.tmp 32)), (some (30, true)), 0⟩, ⟨(some 34), (.mv (.tmp 4)), (some (33, false)), 0⟩, ⟨(some 35), (.bin .neq (.tmp 34) (.val (.lit (.int .u8 45)))), (some (33, false)), 0⟩, ⟨(some 36), (.mv (.tmp 35)), (some (33, false)), 0⟩, ⟨(some 37), (.mv (.tmp 4)), (some (36, true)), 0⟩, ⟨(some 38), (.bin .lss (.tmp 37) (.val (.lit (.int .u8 48)))), (some (36, true)), 0⟩, ⟨(some 39), (.mv (.tmp 38)), (some (36, true)), 0⟩, ⟨(some 40), (.mv (.tmp 4)), (some (39, false)), 0⟩, ⟨(some 41), (.bin .gtr (.tmp 40) (.val (.lit (.int .u8 57)))), (some (39, false)), 0⟩, ⟨(some 42), (.pick (.tmp 39) (.val (.lit (.bool true))) (.tmp 41)), (some (36, true)), 0⟩, ⟨(some 43), (.pick (.tmp 36) (.tmp 42) (.val (.lit (.bool false)))), (some (33, false)), 0⟩, ⟨(some 44), (.pick (.tmp 33) (.val (.lit (.bool true))) (.tmp 43)), (some (30, true)), 0⟩, ⟨(some 45), (.pick (.tmp 30) (.tmp 44) (.val (.lit (.bool false)))), none, 0⟩])
 (.cond (.tmp 45) (.seq (.reg 0 [⟨(some 2), (.mv (.val (.lit (.bool false)))), none, 0⟩])
 .ret) .skip)))))
 (.reg 0 [⟨(some 46), (.bin .add (.tmp 9) (.val (.lit (.int .i64 1)))), none, 0⟩, ⟨(some 9), (.mv (.tmp 46)), none, 0⟩]))))
def c32 : ACode :=
 (.seq (.reg 0 [⟨(some 2), (.mv (.val (.lit (.bool false)))), none, 0⟩])
 (.seq (.seq (.reg 0 [⟨(some 6), (.mv (.tmp 0)), none, 0⟩, ⟨(some 7), (.cvB (.tmp 6)), none, 0⟩, ⟨(some 8), (.len (.tmp 7)), none, 0⟩, ⟨(some 9), (.mv (.val (.lit (.int .i64 0)))), none, 0⟩])
 (.block 0 (.loop c32l0)))
 (.seq (.reg 0 [⟨(some 47), (.mv (.tmp 0)), none, 0⟩, ⟨(some 48), (.bin .neq (.tmp 47) (.val (.lit (.string ⟨#[]⟩)))), none, 0⟩, ⟨(some 49), (.mv (.tmp 48)), none, 0⟩, ⟨(some 50), (.mv (.tmp 0)), (some (49, true)), 0⟩, ⟨(some 51), (.lenS (.tmp 50)), (some (49, true)), 0⟩, ⟨(some 52), (.bin .leq (.tmp 51) (.val (.lit (.int .i64 12)))), (some (49, true)), 0⟩, ⟨(some 53), (.pick (.tmp 49) (.tmp 52) (.val (.lit (.bool false)))), none, 0⟩, ⟨(some 2), (.mv (.tmp 53)), none, 0⟩])
 .ret)))
theorem e32 : envOf Tryz.prog muts 32 = some (54, c32, [(Go.Abs.ARes.tmp 2)]) := by kernel_rfl
def c33 : ACode :=
 (.seq (.reg 0 [⟨(some 4), (.mv (.val (.lit (.bool false)))), none, 0⟩])
 (.seq (.seq (.reg 0 [⟨(some 5), (.mv (.tmp 0)), none, 0⟩, ⟨(some 6), (.mv (.tmp 1)), none, 0⟩, ⟨(some 7), (.mlook .str false (.bool false) (.tmp 5) (.tmp 6)), none, 0⟩])
 (.cond (.tmp 7) (.seq (.reg 0 [⟨(some 4), (.mv (.val (.lit (.bool true)))), none, 0⟩])
 .ret) .skip))
 (.seq (.reg 0 [⟨(some 8), (.mv (.tmp 0)), none, 0⟩, ⟨(some 9), (.mv (.tmp 1)), none, 0⟩, ⟨none, (.mset .str (.tmp 8) (.tmp 9) (.val (.lit (.bool true)))), none, 0⟩])
 (.seq (.reg 0 [⟨(some 4), (.mv (.val (.lit (.bool false)))), none, 0⟩])
 .ret))))
theorem e33 : envOf Tryz.prog muts 33 = some (10, c33, [(Go.Abs.ARes.tmp 4)]) := by kernel_rfl
def c34 : ACode :=
 (.seq (.reg 0 [⟨(some 6), (.mv (.val (.lit (.bool false)))), none, 0⟩])
 (.seq (.reg 0 [⟨(some 7), (.mv (.tmp 0)), none, 0⟩, ⟨(some 8), (.mv (.tmp 1)), none, 0⟩, ⟨(some 9), (.bin .geq (.tmp 7) (.tmp 8)), none, 0⟩, ⟨(some 10), (.mv (.tmp 9)), none, 0⟩, ⟨(some 11), (.mv (.tmp 0)), (some (10, true)), 0⟩, ⟨(some 12), (.mv (.tmp 2)), (some (10, true)), 0⟩, ⟨(some 13), (.bin .leq (.tmp 11) (.tmp 12)), (some (10, true)), 0⟩, ⟨(some 14), (.pick (.tmp 10) (.tmp 13) (.val (.lit (.bool false)))), none, 0⟩, ⟨(some 6), (.mv (.tmp 14)), none, 0⟩])
 .ret))
theorem e34 : envOf Tryz.prog muts 34 = some (15, c34, [(Go.Abs.ARes.tmp 6)]) := by kernel_rfl
def c35 : ACode :=
 (.seq (.reg 0 [⟨(some 4), (.mv (.val (.lit (.bool false)))), none, 0⟩])
 (.seq (.reg 0 [⟨(some 5), (.mv (.tmp 0)), none, 0⟩, ⟨(some 6), (.mv (.tmp 1)), none, 0⟩, ⟨(some 7), (.call true (.val (.lit (.func (.func 66) #[] #[]))) [(.tmp 5), (.tmp 6)]), none, 0⟩, ⟨(some 8), (.bin .geq (.tmp 7) (.val (.lit (.int .i64 0)))), none, 0⟩, ⟨(some 4), (.mv (.tmp 8)), none, 0⟩])
 .ret))
theorem e35 : envOf Tryz.prog muts 35 = some (9, c35, [(Go.Abs.ARes.tmp 4)]) := by kernel_rfl
def c36 : ACode :=
 (.seq (.reg 0 [⟨(some 2), (.mv (.val (.lit (.bool false)))), none, 0⟩])
 (.seq (.reg 0 [⟨(some 3), (.mv (.tmp 0)), none, 0⟩, ⟨(some 4), (.call false (.val (.lit (.func (.func 34) #[] #[]))) [(.tmp 3), (.val (.lit (.int .i64 0))), (.val (.lit (.int .i64 100)))]), none, 0⟩, ⟨(some 5), (.not (.tmp 4)), none, 0⟩, ⟨(some 2), (.mv (.tmp 5)), none, 0⟩])
 .ret))
theorem e36 : envOf Tryz.prog muts 36 = some (6, c36, [(Go.Abs.ARes.tmp 2)]) := by kernel_rfl
def c42l0 : ACode :=
 (.seq (.seq (.reg 0 [⟨(some 6), (.mv (.tmp 5)), none, 0⟩, ⟨(some 7), (.mv (.tmp 0)), none, 0⟩, ⟨(some 8), (.len (.tmp 7)), none, 0⟩, ⟨(some 9), (.bin .lss (.tmp 6) (.tmp 8)), none, 0⟩])
 (.cond (.tmp 9) .skip (.exit 0)))
 (.seq (.block 1 (.seq (.reg 0 [⟨(some 12), (.mv (.tmp 0)), none, 0⟩, ⟨(some 13), (.mv (.tmp 5)), none, 0⟩, ⟨(some 14), (.iaddrS 2 (.tmp 12) (.tmp 13)), none, 0⟩, ⟨(some 15), (.faddr 0 (.tmp 14)), none, 0⟩, ⟨(some 16), (.load 1 false (.tmp 15)), none, 0⟩, ⟨(some 17), (.mv (.tmp 1)), none, 0⟩, ⟨(some 18), (.bin .eql (.tmp 16) (.tmp 17)), none, 0⟩])
 (.cond (.tmp 18) (.seq (.reg 0 [⟨(some 19), (.mv (.tmp 5)), none, 0⟩, ⟨(some 4), (.mv (.tmp 19)), none, 0⟩])
 .ret) .skip)))
 (.reg 0 [⟨(some 10), (.mv (.tmp 5)), none, 0⟩, ⟨(some 11), (.bin .add (.tmp 10) (.val (.lit (.int .i64 1)))), none, 0⟩, ⟨(some 5), (.mv (.tmp 11)), none, 0⟩])))
def c42 : ACode :=
 (.seq (.reg 0 [⟨(some 4), (.mv (.val (.lit (.int .i64 0)))), none, 0⟩])
 (.seq (.seq (.reg 0 [⟨(some 5), (.mv (.val (.lit (.int .i64 0)))), none, 0⟩])
 (.block 0 (.loop c42l0)))
 (.seq (.reg 0 [⟨(some 4), (.mv (.val (.lit (.int .i64 (-1))))), none, 0⟩])
 .ret)))
theorem e42 : envOf Tryz.prog muts 42 = some (20, c42, [(Go.Abs.ARes.tmp 4)]) := by kernel_rfl
def c46 : ACode :=
 (.seq (.reg 1 [⟨(some 1), (.box 1 (.tmp 0)), none, 0⟩, ⟨(some 2), (.mv (.val (.lit .nilFunc))), none, 1⟩])
 (.seq (.reg 0 [⟨(some 3), (.mkf (.func 71) [] [(.tmp 1)]), none, 0⟩, ⟨(some 2), (.mv (.tmp 3)), none, 0⟩])
 .ret))
theorem e46 : envOf Tryz.prog muts 46 = some (4, c46, [(Go.Abs.ARes.tmp 2)]) := by kernel_rfl
def c48l0 : ACode :=
 (.seq (.reg 0 [⟨(some 30), (.bin .lss (.tmp 29) (.tmp 28)), none, 0⟩])
 (.seq (.cond (.tmp 30) .skip (.exit 0))
 (.seq (.block 1 (.seq (.reg 0 [⟨(some 31), (.iaddrS 1 (.tmp 27) (.tmp 29)), none, 0⟩, ⟨(some 32), (.load 1 false (.tmp 31)), none, 0⟩, ⟨(some 7), (.mv (.tmp 32)), none, 0⟩])
 (.seq (.reg 0 [⟨(some 34), (.mv (.tmp 7)), none, 0⟩, ⟨(some 35), (.call false (.val (.lit (.func (.func 53) #[] #[]))) [(.tmp 34)]), none, 0⟩, ⟨(some 33), (.mv (.tmp 35)), none, 0⟩, ⟨(some 36), (.ext (.tmp 33) 0), none, 0⟩, ⟨(some 37), (.ext (.tmp 33) 1), none, 0⟩, ⟨(some 8), (.mv (.tmp 36)), none, 0⟩, ⟨(some 9), (.mv (.tmp 37)), none, 0⟩])
 (.seq (.seq (.reg 0 [⟨(some 38), (.mv (.tmp 9)), none, 0⟩, ⟨(some 39), (.not (.tmp 38)), none, 0⟩])
 (.cond (.tmp 39) (.seq (.reg 0 [⟨(some 40), (.build [(.lit (.string ⟨#[]⟩)), (.sl true 0 [])] []), none, 0⟩, ⟨none, (.store 2 (.tmp 2) (.tmp 40)), none, 0⟩, ⟨(some 3), (.mv (.val (.lit (.bool false)))), none, 0⟩])
 .ret) .skip))
 (.reg 2 [⟨(some 41), (.faddr 1 (.tmp 5)), none, 0⟩, ⟨(some 42), (.load 1 false (.tmp 41)), none, 0⟩, ⟨(some 43), (.mv (.tmp 8)), none, 0⟩, ⟨(some 44), (.bslice 1 1 [(.lit (.int .i64 0))] [(0, (.tmp 43))]), none, 0⟩, ⟨(some 45), (.app 1 8 (.tmp 42) (.tmp 44)), none, 1⟩, ⟨(some 46), (.faddr 1 (.tmp 5)), none, 2⟩, ⟨none, (.store 1 (.tmp 46) (.tmp 45)), none, 2⟩])))))
 (.reg 0 [⟨(some 47), (.bin .add (.tmp 29) (.val (.lit (.int .i64 1)))), none, 0⟩, ⟨(some 29), (.mv (.tmp 47)), none, 0⟩]))))
def c48 : ACode :=
 (.seq (.reg 1 [⟨(some 2), (.alloc [(.lit (.string ⟨#[]⟩)), (.sl true 0 [])]), none, 0⟩, ⟨(some 3), (.mv (.val (.lit (.bool false)))), none, 1⟩])
 (.seq (.reg 0 [⟨(some 10), (.mv (.tmp 0)), none, 0⟩, ⟨(some 11), (.call false (.val (.lit (.func (.func 52) #[] #[]))) [(.tmp 10), (.val (.lit (.string ⟨#[32]⟩)))]), none, 0⟩, ⟨(some 4), (.mv (.tmp 11)), none, 0⟩])
 (.seq (.seq (.reg 0 [⟨(some 12), (.mv (.tmp 4)), none, 0⟩, ⟨(some 13), (.len (.tmp 12)), none, 0⟩, ⟨(some 14), (.bin .lss (.tmp 13) (.val (.lit (.int .i64 2)))), none, 0⟩, ⟨(some 15), (.mv (.tmp 14)), none, 0⟩, ⟨(some 16), (.mv (.tmp 4)), (some (15, false)), 0⟩, ⟨(some 17), (.iaddrS 1 (.tmp 16) (.val (.lit (.int .i64 0)))), (some (15, false)), 0⟩, ⟨(some 18), (.load 1 false (.tmp 17)), (some (15, false)), 0⟩, ⟨(some 19), (.bin .neq (.tmp 18) (.val (.lit (.string ⟨#[115, 116, 114, 111, 107, 101]⟩)))), (some (15, false)), 0⟩, ⟨(some 20), (.pick (.tmp 15) (.val (.lit (.bool true))) (.tmp 19)), none, 0⟩])
 (.cond (.tmp 20) (.seq (.reg 0 [⟨(some 21), (.build [(.lit (.string ⟨#[]⟩)), (.sl true 0 [])] []), none, 0⟩, ⟨none, (.store 2 (.tmp 2) (.tmp 21)), none, 0⟩, ⟨(some 3), (.mv (.val (.lit (.bool false)))), none, 0⟩])
 .ret) .skip))
 (.seq (.reg 1 [⟨(some 22), (.mv (.tmp 4)), none, 0⟩, ⟨(some 23), (.iaddrS 1 (.tmp 22) (.val (.lit (.int .i64 1)))), none, 0⟩, ⟨(some 24), (.load 1 false (.tmp 23)), none, 0⟩, ⟨(some 25), (.build [(.lit (.string ⟨#[]⟩)), (.sl true 0 [])] [(0, (1, (.tmp 24)))]), none, 0⟩, ⟨(some 5), (.alloc [(.lit (.string ⟨#[]⟩)), (.sl true 0 [])]), none, 0⟩, ⟨none, (.store 2 (.tmp 5) (.tmp 25)), none, 1⟩])
 (.seq (.seq (.reg 0 [⟨(some 26), (.mv (.tmp 4)), none, 0⟩, ⟨(some 27), (.slc 1 (.tmp 26) (some (.val (.lit (.int .i64 2)))) none), none, 0⟩, ⟨(some 28), (.len (.tmp 27)), none, 0⟩, ⟨(some 29), (.mv (.val (.lit (.int .i64 0)))), none, 0⟩])
 (.block 0 (.loop c48l0)))
 (.seq (.reg 0 [⟨(some 48), (.load 2 true (.tmp 5)), none, 0⟩, ⟨none, (.store 2 (.tmp 2) (.tmp 48)), none, 0⟩, ⟨(some 3), (.mv (.val (.lit (.bool true)))), none, 0⟩])
 .ret))))))
theorem e48 : envOf Tryz.prog muts 48 = some (49, c48, [(Go.Abs.ARes.cell 2 true 2), (Go.Abs.ARes.tmp 3)]) := by kernel_rfl
def c49l0 : ACode :=
 (.seq (.seq (.reg 0 [⟨(some 8), (.mv (.tmp 4)), none, 0⟩, ⟨(some 9), (.bin .neq (.tmp 8) (.val (.lit (.int .i64 0)))), none, 0⟩])
 (.cond (.tmp 9) .skip (.exit 0)))
 (.seq (.block 1 (.reg 1 [⟨(some 12), (.mv (.tmp 4)), none, 0⟩, ⟨(some 13), (.bin .rem (.tmp 12) (.val (.lit (.int .i64 10)))), none, 0⟩, ⟨(some 14), (.call false (.val (.lit (.func (.func 74) #[] #[]))) [(.tmp 13)]), none, 0⟩, ⟨(some 15), (.bin .add (.val (.lit (.int .i64 48))) (.tmp 14)), none, 0⟩, ⟨(some 16), (.cvInt .u8 (.tmp 15)), none, 0⟩, ⟨(some 17), (.bslice 1 1 [(.lit (.int .u8 0))] [(0, (.tmp 16))]), none, 0⟩, ⟨(some 18), (.cvS (.tmp 17)), none, 1⟩, ⟨(some 19), (.mv (.tmp 3)), none, 1⟩, ⟨(some 20), (.bin .add (.tmp 18) (.tmp 19)), none, 1⟩, ⟨(some 3), (.mv (.tmp 20)), none, 1⟩]))
 (.reg 0 [⟨(some 10), (.mv (.tmp 4)), none, 0⟩, ⟨(some 11), (.bin .quo (.tmp 10) (.val (.lit (.int .i64 10)))), none, 0⟩, ⟨(some 4), (.mv (.tmp 11)), none, 0⟩])))
def c49 : ACode :=
 (.seq (.reg 0 [⟨(some 2), (.mv (.val (.lit (.string ⟨#[]⟩)))), none, 0⟩])
 (.seq (.seq (.reg 0 [⟨(some 5), (.mv (.tmp 0)), none, 0⟩, ⟨(some 6), (.bin .eql (.tmp 5) (.val (.lit (.int .i64 0)))), none, 0⟩])
 (.cond (.tmp 6) (.seq (.reg 0 [⟨(some 2), (.mv (.val (.lit (.string ⟨#[48]⟩)))), none, 0⟩])
 .ret) .skip))
 (.seq (.reg 0 [⟨(some 3), (.mv (.val (.lit (.string ⟨#[]⟩)))), none, 0⟩])
 (.seq (.seq (.reg 0 [⟨(some 7), (.mv (.tmp 0)), none, 0⟩, ⟨(some 4), (.mv (.tmp 7)), none, 0⟩])
 (.block 0 (.loop c49l0)))
 (.seq (.seq (.reg 0 [⟨(some 21), (.mv (.tmp 0)), none, 0⟩, ⟨(some 22), (.bin .lss (.tmp 21) (.val (.lit (.int .i64 0)))), none, 0⟩])
 (.cond (.tmp 22) (.seq (.reg 0 [⟨(some 23), (.mv (.tmp 3)), none, 0⟩, ⟨(some 24), (.bin .add (.val (.lit (.string ⟨#[45]⟩))) (.tmp 23)), none, 0⟩, ⟨(some 2), (.mv (.tmp 24)), none, 0⟩])
 .ret) .skip))
 (.seq (.reg 0 [⟨(some 25), (.mv (.tmp 3)), none, 0⟩, ⟨(some 2), (.mv (.tmp 25)), none, 0⟩])
 .ret))))))
theorem e49 : envOf Tryz.prog muts 49 = some (26, c49, [(Go.Abs.ARes.tmp 2)]) := by kernel_rfl
def c50l0 : ACode :=
 (.seq (.seq (.reg 0 [⟨(some 8), (.mv (.tmp 7)), none, 0⟩, ⟨(some 9), (.mv (.tmp 0)), none, 0⟩, ⟨(some 10), (.lenS (.tmp 9)), none, 0⟩, ⟨(some 11), (.bin .leq (.tmp 8) (.tmp 10)), none, 0⟩])
 (.cond (.tmp 11) .skip (.exit 0)))
 (.seq (.block 1 (.seq (.reg 0 [⟨(some 14), (.mv (.tmp 7)), none, 0⟩, ⟨(some 15), (.mv (.tmp 0)), none, 0⟩, ⟨(some 16), (.lenS (.tmp 15)), none, 0⟩, ⟨(some 17), (.bin .eql (.tmp 14) (.tmp 16)), none, 0⟩, ⟨(some 18), (.mv (.tmp 17)), none, 0⟩, ⟨(some 19), (.mv (.tmp 0)), (some (18, false)), 0⟩, ⟨(some 20), (.mv (.tmp 7)), (some (18, false)), 0⟩, ⟨(some 21), (.idxS (.tmp 19) (.tmp 20)), (some (18, false)), 0⟩, ⟨(some 22), (.mv (.tmp 1)), (some (18, false)), 0⟩, ⟨(some 23), (.bin .eql (.tmp 21) (.tmp 22)), (some (18, false)), 0⟩, ⟨(some 24), (.pick (.tmp 18) (.val (.lit (.bool true))) (.tmp 23)), none, 0⟩])
 (.cond (.tmp 24) (.seq (.reg 2 [⟨(some 25), (.mv (.tmp 5)), none, 0⟩, ⟨(some 26), (.mv (.tmp 0)), none, 0⟩, ⟨(some 27), (.mv (.tmp 6)), none, 0⟩, ⟨(some 28), (.mv (.tmp 7)), none, 0⟩, ⟨(some 29), (.slcS (.tmp 26) (some (.tmp 27)) (some (.tmp 28))), none, 0⟩, ⟨(some 30), (.bslice 1 1 [(.lit (.string ⟨#[]⟩))] [(0, (.tmp 29))]), none, 0⟩, ⟨(some 31), (.app 1 16 (.tmp 25) (.tmp 30)), none, 1⟩, ⟨(some 5), (.mv (.tmp 31)), none, 2⟩])
 (.reg 0 [⟨(some 32), (.mv (.tmp 7)), none, 0⟩, ⟨(some 33), (.bin .add (.tmp 32) (.val (.lit (.int .i64 1)))), none, 0⟩, ⟨(some 6), (.mv (.tmp 33)), none, 0⟩])) .skip)))
 (.reg 0 [⟨(some 12), (.mv (.tmp 7)), none, 0⟩, ⟨(some 13), (.bin .add (.tmp 12) (.val (.lit (.int .i64 1)))), none, 0⟩, ⟨(some 7), (.mv (.tmp 13)), none, 0⟩])))
def c50 : ACode :=
 (.seq (.reg 0 [⟨(some 4), (.mv (.val (.sl true 0 []))), none, 0⟩])
 (.seq (.reg 0 [⟨(some 5), (.mv (.val (.sl true 0 []))), none, 0⟩])
 (.seq (.reg 0 [⟨(some 6), (.mv (.val (.lit (.int .i64 0)))), none, 0⟩])
 (.seq (.seq (.reg 0 [⟨(some 7), (.mv (.val (.lit (.int .i64 0)))), none, 0⟩])
 (.block 0 (.loop c50l0)))
 (.seq (.reg 0 [⟨(some 34), (.mv (.tmp 5)), none, 0⟩, ⟨(some 4), (.mv (.tmp 34)), none, 0⟩])
 .ret)))))
theorem e50 : envOf Tryz.prog muts 50 = some (35, c50, [(Go.Abs.ARes.tmp 4)]) := by kernel_rfl
def c51l0 : ACode :=
 (.seq (.seq (.reg 0 [⟨(some 25), (.mv (.tmp 6)), none, 0⟩, ⟨(some 26), (.mv (.tmp 4)), none, 0⟩, ⟨(some 27), (.len (.tmp 26)), none, 0⟩, ⟨(some 28), (.bin .lss (.tmp 25) (.tmp 27)), none, 0⟩])
 (.cond (.tmp 28) .skip (.exit 0)))
 (.seq (.block 1 (.seq (.reg 0 [⟨(some 32), (.mv (.tmp 4)), none, 0⟩, ⟨(some 33), (.mv (.tmp 6)), none, 0⟩, ⟨(some 34), (.iaddrS 1 (.tmp 32) (.tmp 33)), none, 0⟩, ⟨(some 35), (.load 1 false (.tmp 34)), none, 0⟩, ⟨(some 36), (.call false (.val (.lit (.func (.func 54) #[] #[]))) [(.tmp 35), (.val (.lit (.int .i64 7)))]), none, 0⟩, ⟨(some 31), (.mv (.tmp 36)), none, 0⟩, ⟨(some 37), (.ext (.tmp 31) 0), none, 0⟩, ⟨(some 38), (.ext (.tmp 31) 1), none, 0⟩, ⟨(some 7), (.mv (.tmp 37)), none, 0⟩, ⟨(some 8), (.mv (.tmp 38)), none, 0⟩])
 (.seq (.seq (.reg 0 [⟨(some 39), (.mv (.tmp 8)), none, 0⟩, ⟨(some 40), (.not (.tmp 39)), none, 0⟩])
 (.cond (.tmp 40) (.seq (.reg 0 [⟨(some 41), (.build [(.lit (.string ⟨#[]⟩)), (.sl true 0 [])] []), none, 0⟩, ⟨none, (.store 2 (.tmp 2) (.tmp 41)), none, 0⟩, ⟨(some 3), (.mv (.val (.lit (.bool false)))), none, 0⟩])
 .ret) .skip))
 (.reg 2 [⟨(some 42), (.faddr 1 (.tmp 5)), none, 0⟩, ⟨(some 43), (.load 1 false (.tmp 42)), none, 0⟩, ⟨(some 44), (.mv (.tmp 7)), none, 0⟩, ⟨(some 45), (.bslice 1 1 [(.lit (.int .i64 0))] [(0, (.tmp 44))]), none, 0⟩, ⟨(some 46), (.app 1 8 (.tmp 43) (.tmp 45)), none, 1⟩, ⟨(some 47), (.faddr 1 (.tmp 5)), none, 2⟩, ⟨none, (.store 1 (.tmp 47) (.tmp 46)), none, 2⟩]))))
 (.reg 0 [⟨(some 29), (.mv (.tmp 6)), none, 0⟩, ⟨(some 30), (.bin .add (.tmp 29) (.val (.lit (.int .i64 1)))), none, 0⟩, ⟨(some 6), (.mv (.tmp 30)), none, 0⟩])))
def c51 : ACode :=
 (.seq (.reg 1 [⟨(some 2), (.alloc [(.lit (.string ⟨#[]⟩)), (.sl true 0 [])]), none, 0⟩, ⟨(some 3), (.mv (.val (.lit (.bool false)))), none, 1⟩])
 (.seq (.reg 0 [⟨(some 9), (.mv (.tmp 0)), none, 0⟩, ⟨(some 10), (.call false (.val (.lit (.func (.func 50) #[] #[]))) [(.tmp 9), (.val (.lit (.int .u8 32)))]), none, 0⟩, ⟨(some 4), (.mv (.tmp 10)), none, 0⟩])
 (.seq (.seq (.reg 0 [⟨(some 11), (.mv (.tmp 4)), none, 0⟩, ⟨(some 12), (.iaddrS 1 (.tmp 11) (.val (.lit (.int .i64 0)))), none, 0⟩, ⟨(some 13), (.load 1 false (.tmp 12)), none, 0⟩, ⟨(some 14), (.bin .neq (.tmp 13) (.val (.lit (.string ⟨#[115, 116, 114, 111, 107, 101]⟩)))), none, 0⟩, ⟨(some 15), (.mv (.tmp 14)), none, 0⟩, ⟨(some 16), (.mv (.tmp 4)), (some (15, false)), 0⟩, ⟨(some 17), (.len (.tmp 16)), (some (15, false)), 0⟩, ⟨(some 18), (.bin .lss (.tmp 17) (.val (.lit (.int .i64 2)))), (some (15, false)), 0⟩, ⟨(some 19), (.pick (.tmp 15) (.val (.lit (.bool true))) (.tmp 18)), none, 0⟩])
 (.cond (.tmp 19) (.seq (.reg 0 [⟨(some 20), (.build [(.lit (.string ⟨#[]⟩)), (.sl true 0 [])] []), none, 0⟩, ⟨none, (.store 2 (.tmp 2) (.tmp 20)), none, 0⟩, ⟨(some 3), (.mv (.val (.lit (.bool false)))), none, 0⟩])
 .ret) .skip))
 (.seq (.reg 1 [⟨(some 21), (.mv (.tmp 4)), none, 0⟩, ⟨(some 22), (.iaddrS 1 (.tmp 21) (.val (.lit (.int .i64 1)))), none, 0⟩, ⟨(some 23), (.load 1 false (.tmp 22)), none, 0⟩, ⟨(some 24), (.build [(.lit (.string ⟨#[]⟩)), (.sl true 0 [])] [(0, (1, (.tmp 23)))]), none, 0⟩, ⟨(some 5), (.alloc [(.lit (.string ⟨#[]⟩)), (.sl true 0 [])]), none, 0⟩, ⟨none, (.store 2 (.tmp 5) (.tmp 24)), none, 1⟩])
 (.seq (.seq (.reg 0 [⟨(some 6), (.mv (.val (.lit (.int .i64 2)))), none, 0⟩])
 (.block 0 (.loop c51l0)))
 (.seq (.reg 0 [⟨(some 48), (.load 2 true (.tmp 5)), none, 0⟩, ⟨none, (.store 2 (.tmp 2) (.tmp 48)), none, 0⟩, ⟨(some 3), (.mv (.val (.lit (.bool true)))), none, 0⟩])
 .ret))))))
theorem e51 : envOf Tryz.prog muts 51 = some (49, c51, [(Go.Abs.ARes.cell 2 true 2), (Go.Abs.ARes.tmp 3)]) := by kernel_rfl
def c53 : ACode :=
 (.seq (.reg 0 [⟨(some 2), (.mv (.val (.lit (.int .i64 0)))), none, 0⟩, ⟨(some 3), (.mv (.val (.lit (.bool false)))), none, 0⟩])
 (.seq (.reg 0 [⟨(some 7), (.mv (.tmp 0)), none, 0⟩, ⟨(some 8), (.call false (.val (.lit (.func (.func 76) #[] #[]))) [(.tmp 7)]), none, 0⟩, ⟨(some 6), (.mv (.tmp 8)), none, 0⟩, ⟨(some 9), (.ext (.tmp 6) 0), none, 0⟩, ⟨(some 10), (.ext (.tmp 6) 1), none, 0⟩, ⟨(some 4), (.mv (.tmp 9)), none, 0⟩, ⟨(some 5), (.mv (.tmp 10)), none, 0⟩])
 (.seq (.reg 0 [⟨(some 11), (.mv (.tmp 4)), none, 0⟩, ⟨(some 12), (.mv (.tmp 5)), none, 0⟩, ⟨(some 13), (.eqErr false (.tmp 12)), none, 0⟩, ⟨(some 14), (.mv (.tmp 13)), none, 0⟩, ⟨(some 15), (.mv (.tmp 4)), (some (14, true)), 0⟩, ⟨(some 16), (.call false (.val (.lit (.func (.func 39) #[] #[]))) [(.tmp 15)]), (some (14, true)), 0⟩, ⟨(some 17), (.mv (.tmp 0)), (some (14, true)), 0⟩, ⟨(some 18), (.bin .eql (.tmp 16) (.tmp 17)), (some (14, true)), 0⟩, ⟨(some 19), (.pick (.tmp 14) (.tmp 18) (.val (.lit (.bool false)))), none, 0⟩, ⟨(some 20), (.mv (.tmp 19)), none, 0⟩, ⟨(some 21), (.mv (.tmp 0)), (some (20, true)), 0⟩, ⟨(some 22), (.call false (.val (.lit (.func (.func 77) #[] #[]))) [(.tmp 21), (.val (.lit (.string ⟨#[45]⟩)))]), (some (20, true)), 0⟩, ⟨(some 23), (.lenS (.tmp 22)), (some (20, true)), 0⟩, ⟨(some 24), (.bin .leq (.tmp 23) (.val (.lit (.int .i64 7)))), (some (20, true)), 0⟩, ⟨(some 25), (.pick (.tmp 20) (.tmp 24) (.val (.lit (.bool false)))), none, 0⟩, ⟨(some 2), (.mv (.tmp 11)), none, 0⟩, ⟨(some 3), (.mv (.tmp 25)), none, 0⟩])
 .ret)))
theorem e53 : envOf Tryz.prog muts 53 = some (26, c53, [(Go.Abs.ARes.tmp 2), (Go.Abs.ARes.tmp 3)]) := by kernel_rfl
def c54l0 : ACode :=
 (.seq (.seq (.reg 0 [⟨(some 34), (.mv (.tmp 8)), none, 0⟩, ⟨(some 35), (.mv (.tmp 0)), none, 0⟩, ⟨(some 36), (.lenS (.tmp 35)), none, 0⟩, ⟨(some 37), (.bin .lss (.tmp 34) (.tmp 36)), none, 0⟩])
 (.cond (.tmp 37) .skip (.exit 0)))
 (.seq (.block 1 (.seq (.seq (.reg 0 [⟨(some 40), (.mv (.tmp 0)), none, 0⟩, ⟨(some 41), (.mv (.tmp 8)), none, 0⟩, ⟨(some 42), (.idxS (.tmp 40) (.tmp 41)), none, 0⟩, ⟨(some 43), (.call false (.val (.lit (.func (.func 57) #[] #[]))) [(.tmp 42)]), none, 0⟩, ⟨(some 44), (.not (.tmp 43)), none, 0⟩])
 (.cond (.tmp 44) (.seq (.reg 0 [⟨(some 4), (.mv (.val (.lit (.int .i64 0)))), none, 0⟩, ⟨(some 5), (.mv (.val (.lit (.bool false)))), none, 0⟩])
 .ret) .skip))
 (.reg 0 [⟨(some 45), (.mv (.tmp 6)), none, 0⟩, ⟨(some 46), (.bin .mul (.val (.lit (.int .i64 10))) (.tmp 45)), none, 0⟩, ⟨(some 47), (.mv (.tmp 0)), none, 0⟩, ⟨(some 48), (.mv (.tmp 8)), none, 0⟩, ⟨(some 49), (.idxS (.tmp 47) (.tmp 48)), none, 0⟩, ⟨(some 50), (.bin .sub (.tmp 49) (.val (.lit (.int .u8 48)))), none, 0⟩, ⟨(some 51), (.cvInt .i64 (.tmp 50)), none, 0⟩, ⟨(some 52), (.bin .add (.tmp 46) (.tmp 51)), none, 0⟩, ⟨(some 6), (.mv (.tmp 52)), none, 0⟩])))
 (.reg 0 [⟨(some 38), (.mv (.tmp 8)), none, 0⟩, ⟨(some 39), (.bin .add (.tmp 38) (.val (.lit (.int .i64 1)))), none, 0⟩, ⟨(some 8), (.mv (.tmp 39)), none, 0⟩])))
def c54 : ACode :=
 (.seq (.reg 0 [⟨(some 4), (.mv (.val (.lit (.int .i64 0)))), none, 0⟩, ⟨(some 5), (.mv (.val (.lit (.bool false)))), none, 0⟩])
 (.seq (.reg 0 [⟨(some 6), (.mv (.val (.lit (.int .i64 0)))), none, 0⟩, ⟨(some 7), (.mv (.val (.lit (.int .i64 0)))), none, 0⟩])
 (.seq (.seq (.reg 0 [⟨(some 9), (.mv (.tmp 0)), none, 0⟩, ⟨(some 10), (.lenS (.tmp 9)), none, 0⟩, ⟨(some 11), (.bin .gtr (.tmp 10) (.val (.lit (.int .i64 0)))), none, 0⟩, ⟨(some 12), (.mv (.tmp 11)), none, 0⟩, ⟨(some 13), (.mv (.tmp 0)), (some (12, true)), 0⟩, ⟨(some 14), (.idxS (.tmp 13) (.val (.lit (.int .i64 0)))), (some (12, true)), 0⟩, ⟨(some 15), (.bin .eql (.tmp 14) (.val (.lit (.int .u8 45)))), (some (12, true)), 0⟩, ⟨(some 16), (.pick (.tmp 12) (.tmp 15) (.val (.lit (.bool false)))), none, 0⟩])
 (.cond (.tmp 16) (.reg 0 [⟨(some 7), (.mv (.val (.lit (.int .i64 1)))), none, 0⟩]) .skip))
 (.seq (.seq (.reg 0 [⟨(some 17), (.mv (.tmp 0)), none, 0⟩, ⟨(some 18), (.lenS (.tmp 17)), none, 0⟩, ⟨(some 19), (.mv (.tmp 7)), none, 0⟩, ⟨(some 20), (.bin .eql (.tmp 18) (.tmp 19)), none, 0⟩, ⟨(some 21), (.mv (.tmp 20)), none, 0⟩, ⟨(some 22), (.mv (.tmp 0)), (some (21, false)), 0⟩, ⟨(some 23), (.lenS (.tmp 22)), (some (21, false)), 0⟩, ⟨(some 24), (.mv (.tmp 7)), (some (21, false)), 0⟩, ⟨(some 25), (.mv (.tmp 1)), (some (21, false)), 0⟩, ⟨(some 26), (.bin .add (.tmp 24) (.tmp 25)), (some (21, false)), 0⟩, ⟨(some 27), (.bin .gtr (.tmp 23) (.tmp 26)), (some (21, false)), 0⟩, ⟨(some 28), (.pick (.tmp 21) (.val (.lit (.bool true))) (.tmp 27)), none, 0⟩, ⟨(some 29), (.mv (.tmp 28)), none, 0⟩, ⟨(some 30), (.mv (.tmp 1)), (some (29, false)), 0⟩, ⟨(some 31), (.bin .gtr (.tmp 30) (.val (.lit (.int .i64 18)))), (some (29, false)), 0⟩, ⟨(some 32), (.pick (.tmp 29) (.val (.lit (.bool true))) (.tmp 31)), none, 0⟩])
 (.cond (.tmp 32) (.seq (.reg 0 [⟨(some 4), (.mv (.val (.lit (.int .i64 0)))), none, 0⟩, ⟨(some 5), (.mv (.val (.lit (.bool false)))), none, 0⟩])
 .ret) .skip))
 (.seq (.seq (.reg 0 [⟨(some 33), (.mv (.tmp 7)), none, 0⟩, ⟨(some 8), (.mv (.tmp 33)), none, 0⟩])
 (.block 0 (.loop c54l0)))
 (.seq (.seq (.reg 0 [⟨(some 53), (.mv (.tmp 7)), none, 0⟩, ⟨(some 54), (.bin .eql (.tmp 53) (.val (.lit (.int .i64 1)))), none, 0⟩])
 (.cond (.tmp 54) (.reg 0 [⟨(some 55), (.mv (.tmp 6)), none, 0⟩, ⟨(some 56), (.neg (.tmp 55)), none, 0⟩, ⟨(some 6), (.mv (.tmp 56)), none, 0⟩]) .skip))
 (.seq (.reg 0 [⟨(some 57), (.mv (.tmp 6)), none, 0⟩, ⟨(some 58), (.mv (.tmp 6)), none, 0⟩, ⟨(some 59), (.call false (.val (.lit (.func (.func 49) #[] #[]))) [(.tmp 58)]), none, 0⟩, ⟨(some 60), (.mv (.tmp 0)), none, 0⟩, ⟨(some 61), (.bin .eql (.tmp 59) (.tmp 60)), none, 0⟩, ⟨(some 4), (.mv (.tmp 57)), none, 0⟩, ⟨(some 5), (.mv (.tmp 61)), none, 0⟩])
 .ret)))))))
theorem e54 : envOf Tryz.prog muts 54 = some (62, c54, [(Go.Abs.ARes.tmp 4), (Go.Abs.ARes.tmp 5)]) := by kernel_rfl
def c56 : ACode :=
 (.seq (.reg 0 [⟨(some 2), (.mv (.val (.lit (.bool false)))), none, 0⟩])
 (.seq (.reg 0 [⟨(some 3), (.mv (.tmp 0)), none, 0⟩, ⟨(some 4), (.bin .geq (.tmp 3) (.val (.lit (.int .u8 97)))), none, 0⟩, ⟨(some 5), (.mv (.tmp 4)), none, 0⟩, ⟨(some 6), (.mv (.tmp 0)), (some (5, true)), 0⟩, ⟨(some 7), (.bin .leq (.tmp 6) (.val (.lit (.int .u8 122)))), (some (5, true)), 0⟩, ⟨(some 8), (.pick (.tmp 5) (.tmp 7) (.val (.lit (.bool false)))), none, 0⟩, ⟨(some 9), (.mv (.tmp 8)), none, 0⟩, ⟨(some 10), (.mv (.tmp 0)), (some (9, false)), 0⟩, ⟨(some 11), (.bin .geq (.tmp 10) (.val (.lit (.int .u8 65)))), (some (9, false)), 0⟩, ⟨(some 12), (.mv (.tmp 11)), (some (9, false)), 0⟩, ⟨(some 13), (.mv (.tmp 0)), (some (12, true)), 0⟩, ⟨(some 14), (.bin .leq (.tmp 13) (.val (.lit (.int .u8 90)))), (some (12, true)), 0⟩, ⟨(some 15), (.pick (.tmp 12) (.tmp 14) (.val (.lit (.bool false)))), (some (9, false)), 0⟩, ⟨(some 16), (.pick (.tmp 9) (.val (.lit (.bool true))) (.tmp 15)), none, 0⟩, ⟨(some 2), (.mv (.tmp 16)), none, 0⟩])
 .ret))
theorem e56 : envOf Tryz.prog muts 56 = some (17, c56, [(Go.Abs.ARes.tmp 2)]) := by kernel_rfl
def c57 : ACode :=
 (.seq (.reg 0 [⟨(some 2), (.mv (.val (.lit (.bool false)))), none, 0⟩])
 (.seq (.reg 0 [⟨(some 3), (.mv (.tmp 0)), none, 0⟩, ⟨(some 4), (.bin .geq (.tmp 3) (.val (.lit (.int .u8 48)))), none, 0⟩, ⟨(some 5), (.mv (.tmp 4)), none, 0⟩, ⟨(some 6), (.mv (.tmp 0)), (some (5, true)), 0⟩, ⟨(some 7), (.bin .leq (.tmp 6) (.val (.lit (.int .u8 57)))), (some (5, true)), 0⟩, ⟨(some 8), (.pick (.tmp 5) (.tmp 7) (.val (.lit (.bool false)))), none, 0⟩, ⟨(some 2), (.mv (.tmp 8)), none, 0⟩])
 .ret))
theorem e57 : envOf Tryz.prog muts 57 = some (9, c57, [(Go.Abs.ARes.tmp 2)]) := by kernel_rfl
def c66l0 : ACode :=
 (.seq (.reg 0 [⟨(some 9), (.bin .lss (.tmp 8) (.tmp 7)), none, 0⟩])
 (.seq (.cond (.tmp 9) .skip (.exit 0))
 (.seq (.block 1 (.seq (.reg 0 [⟨(some 10), (.mv (.tmp 8)), none, 0⟩, ⟨(some 5), (.mv (.tmp 10)), none, 0⟩])
 (.seq (.reg 0 [⟨(some 11), (.mv (.tmp 1)), none, 0⟩, ⟨(some 12), (.mv (.tmp 0)), none, 0⟩, ⟨(some 13), (.mv (.tmp 5)), none, 0⟩, ⟨(some 14), (.iaddrS 1 (.tmp 12) (.tmp 13)), none, 0⟩, ⟨(some 15), (.load 1 false (.tmp 14)), none, 0⟩, ⟨(some 16), (.call true (.tmp 11) [(.tmp 15)]), none, 0⟩])
 (.cond (.tmp 16) (.seq (.reg 0 [⟨(some 17), (.mv (.tmp 5)), none, 0⟩, ⟨(some 4), (.mv (.tmp 17)), none, 0⟩])
 .ret) .skip))))
 (.reg 0 [⟨(some 18), (.bin .add (.tmp 8) (.val (.lit (.int .i64 1)))), none, 0⟩, ⟨(some 8), (.mv (.tmp 18)), none, 0⟩]))))
def c66 : ACode :=
 (.seq (.reg 0 [⟨(some 4), (.mv (.val (.lit (.int .i64 0)))), none, 0⟩])
 (.seq (.seq (.reg 0 [⟨(some 6), (.mv (.tmp 0)), none, 0⟩, ⟨(some 7), (.len (.tmp 6)), none, 0⟩, ⟨(some 8), (.mv (.val (.lit (.int .i64 0)))), none, 0⟩])
 (.block 0 (.loop c66l0)))
 (.seq (.reg 0 [⟨(some 4), (.mv (.val (.lit (.int .i64 (-1))))), none, 0⟩])
 .ret)))
theorem e66 : envOf Tryz.prog muts 66 = some (19, c66, [(Go.Abs.ARes.tmp 4)]) := by kernel_rfl
--F 67 none
def c71l0 : ACode :=
 (.seq (.seq (.reg 0 [⟨(some 5), (.load 1 false (.tmp 1)), none, 0⟩, ⟨(some 6), (.lenS (.tmp 5)), none, 0⟩, ⟨(some 7), (.bin .gtr (.tmp 6) (.val (.lit (.int .i64 0)))), none, 0⟩])
 (.cond (.tmp 7) .skip (.exit 0)))
 (.block 1 (.seq (.reg 0 [⟨(some 3), (.mv (.val (.lit (.string ⟨#[]⟩)))), none, 0⟩])
 (.seq (.seq (.reg 0 [⟨(some 8), (.load 1 false (.tmp 1)), none, 0⟩, ⟨(some 9), (.call false (.val (.lit (.func (.func 72) #[] #[]))) [(.tmp 8), (.val (.lit (.int .u8 10)))]), none, 0⟩, ⟨(some 4), (.mv (.tmp 9)), none, 0⟩])
 (.seq (.reg 0 [⟨(some 10), (.mv (.tmp 4)), none, 0⟩, ⟨(some 11), (.bin .geq (.tmp 10) (.val (.lit (.int .i64 0)))), none, 0⟩])
 (.cond (.tmp 11) (.dreg 0 [(0, ⟨(some 12), (.load 1 false (.tmp 1)), none, 0⟩), (1, ⟨(some 13), (.mv (.tmp 4)), none, 0⟩), (2, ⟨(some 14), (.bin .add (.tmp 13) (.val (.lit (.int .i64 1)))), none, 0⟩), (3, ⟨(some 15), (.slcS (.tmp 12) none (some (.tmp 14))), none, 0⟩), (4, ⟨(some 16), (.load 1 false (.tmp 1)), none, 0⟩), (5, ⟨(some 17), (.mv (.tmp 4)), none, 0⟩), (6, ⟨(some 18), (.bin .add (.tmp 17) (.val (.lit (.int .i64 1)))), none, 0⟩), (7, ⟨(some 19), (.slcS (.tmp 16) (some (.tmp 18)) none), none, 0⟩), (8, ⟨(some 3), (.mv (.tmp 15)), none, 0⟩), (9, ⟨none, (.store 1 (.tmp 1) (.tmp 19)), none, 0⟩)] [[], [], [1], [0, 2, 1], [], [], [5], [4, 6, 5], [3, 0, 1, 2], [7, 8, 0, 1, 2, 3, 4, 5, 6]]) (.reg 0 [⟨(some 20), (.load 1 false (.tmp 1)), none, 0⟩, ⟨(some 3), (.mv (.tmp 20)), none, 0⟩, ⟨none, (.store 1 (.tmp 1) (.val (.lit (.string ⟨#[]⟩)))), none, 0⟩]))))
 (.seq (.reg 0 [⟨(some 21), (.mv (.tmp 0)), none, 0⟩, ⟨(some 22), (.mv (.tmp 3)), none, 0⟩, ⟨(some 23), (.call true (.tmp 21) [(.tmp 22)]), none, 0⟩, ⟨(some 24), (.not (.tmp 23)), none, 0⟩])
 (.cond (.tmp 24) .ret .skip))))))
def c71 : ACode :=
 (.block 0 (.loop c71l0))
theorem e71 : envOf Tryz.prog muts 71 = some (25, c71, []) := by kernel_rfl
def c74 : ACode :=
 (.seq (.reg 0 [⟨(some 2), (.mv (.val (.lit (.int .i64 0)))), none, 0⟩])
 (.seq (.seq (.reg 0 [⟨(some 3), (.mv (.tmp 0)), none, 0⟩, ⟨(some 4), (.bin .lss (.tmp 3) (.val (.lit (.int .i64 0)))), none, 0⟩])
 (.cond (.tmp 4) (.seq (.reg 0 [⟨(some 5), (.mv (.tmp 0)), none, 0⟩, ⟨(some 6), (.neg (.tmp 5)), none, 0⟩, ⟨(some 2), (.mv (.tmp 6)), none, 0⟩])
 .ret) .skip))
 (.seq (.reg 0 [⟨(some 7), (.mv (.tmp 0)), none, 0⟩, ⟨(some 2), (.mv (.tmp 7)), none, 0⟩])
 .ret)))
theorem e74 : envOf Tryz.prog muts 74 = some (8, c74, [(Go.Abs.ARes.tmp 2)]) := by kernel_rfl
end Go.Abs
