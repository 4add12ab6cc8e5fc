import Derived.Test.YtdedhipkncagjaaAbs21
import Derived.KernelRfl
import Derived.Test.YtdedhipkncagjaaProg
set_option linter.all false
set_option linter.unusedVariables false
set_option linter.unusedSimpArgs false
set_option linter.unusedSectionVars false
/- The code of the functions that are walked, as the machine of these texts has it. -/
namespace Go.Abs
open Go.Proofs
abbrev muts : List FuncId := [51, 46, 27]
def c3l0 : ACode :=
 (.seq (.seq (.reg 0 [⟨(some 56), (.mv (.tmp 12)), none, 0⟩, ⟨(some 57), (.mv (.tmp 7)), none, 0⟩, ⟨(some 58), (.bin .lss (.tmp 56) (.tmp 57)), none, 0⟩])
 (.cond (.tmp 58) .skip (.exit 0)))
 (.seq (.block 1 (.seq (.dreg 2 [(0, ⟨(some 61), (.mv (.tmp 11)), none, 0⟩), (1, ⟨(some 62), (.faddr 0 (.tmp 2)), none, 0⟩), (2, ⟨(some 63), (.load 1 false (.tmp 62)), none, 0⟩), (3, ⟨(some 64), (.mv (.tmp 12)), none, 0⟩), (4, ⟨(some 65), (.iaddrS 1 (.tmp 63) (.tmp 64)), none, 0⟩), (5, ⟨(some 66), (.load 1 false (.tmp 65)), none, 0⟩), (6, ⟨(some 67), (.faddr 0 (.tmp 2)), none, 0⟩), (7, ⟨(some 68), (.load 1 false (.tmp 67)), none, 0⟩), (8, ⟨(some 69), (.iaddrS 1 (.tmp 68) (.val (.lit (.int .i64 0)))), none, 0⟩), (9, ⟨(some 70), (.load 1 false (.tmp 69)), none, 0⟩), (10, ⟨(some 71), (.bin .sub (.tmp 66) (.tmp 70)), none, 0⟩), (11, ⟨(some 72), (.bslice 1 1 [(.lit (.int .i64 0))] [(0, (.tmp 71))]), none, 0⟩), (12, ⟨(some 73), (.app 1 8 (.tmp 61) (.tmp 72)), none, 1⟩), (13, ⟨(some 11), (.mv (.tmp 73)), none, 2⟩)] [[], [], [1], [], [2, 3, 1], [4, 2, 3, 1], [], [6], [7, 6], [8, 7, 6], [5, 9, 4, 2, 3, 1, 8, 7, 6], [10, 5, 9, 4, 2, 3, 1, 8, 7, 6], [0, 11, 10, 5, 9, 4, 2, 3, 1, 8, 7, 6], [12, 0, 1, 2, 3, 4, 5, 6, 7, 8, 9, 10, 11]])
 (.seq (.reg 0 [⟨(some 74), (.mv (.tmp 11)), none, 0⟩, ⟨(some 75), (.mv (.tmp 12)), none, 0⟩, ⟨(some 76), (.iaddrS 1 (.tmp 74) (.tmp 75)), none, 0⟩, ⟨(some 77), (.load 1 false (.tmp 76)), none, 0⟩, ⟨(some 78), (.call false (.val (.lit (.func (.func 10) #[] #[]))) [(.tmp 77), (.val (.lit (.int .i64 (-100000)))), (.val (.lit (.int .i64 100000)))]), none, 0⟩, ⟨(some 79), (.not (.tmp 78)), none, 0⟩])
 (.cond (.tmp 79) (.seq (.reg 0 [⟨(some 4), (.mv (.val (.lit (.bool true)))), none, 0⟩])
 .ret) .skip))))
 (.reg 0 [⟨(some 59), (.mv (.tmp 12)), none, 0⟩, ⟨(some 60), (.bin .add (.tmp 59) (.val (.lit (.int .i64 1)))), none, 0⟩, ⟨(some 12), (.mv (.tmp 60)), none, 0⟩])))
def c3 : ACode :=
 (.seq (.reg 2 [⟨(some 2), (.box 3 (.tmp 0)), none, 0⟩, ⟨(some 3), (.box 2 (.tmp 1)), none, 1⟩, ⟨(some 4), (.mv (.val (.lit (.bool false)))), none, 2⟩])
 (.seq (.seq (.reg 0 [⟨(some 21), (.call false (.val (.lit (.func (.func 5) #[] #[]))) []), none, 0⟩, ⟨(some 22), (.not (.tmp 21)), none, 0⟩])
 (.cond (.tmp 22) (.seq (.reg 0 [⟨(some 4), (.mv (.val (.lit (.bool false)))), none, 0⟩])
 .ret) .skip))
 (.seq (.reg 0 [⟨(some 24), (.load 3 true (.tmp 2)), none, 0⟩, ⟨(some 25), (.call false (.val (.lit (.func (.func 6) #[] #[]))) [(.tmp 24), (.val (.lit (.int .i64 1)))]), none, 0⟩, ⟨(some 23), (.mv (.tmp 25)), none, 0⟩, ⟨(some 26), (.ext (.tmp 23) 0), none, 0⟩, ⟨(some 27), (.ext (.tmp 23) 1), none, 0⟩, ⟨(some 5), (.mv (.tmp 26)), none, 0⟩, ⟨(some 6), (.mv (.tmp 27)), none, 0⟩])
 (.seq (.seq (.reg 0 [⟨(some 28), (.mv (.tmp 6)), none, 0⟩, ⟨(some 29), (.not (.tmp 28)), none, 0⟩, ⟨(some 30), (.mv (.tmp 29)), none, 0⟩, ⟨(some 31), (.load 2 true (.tmp 3)), (some (30, false)), 0⟩, ⟨(some 32), (.call false (.val (.lit (.func (.func 7) #[] #[]))) [(.tmp 31)]), (some (30, false)), 0⟩, ⟨(some 33), (.bin .neq (.tmp 32) (.val (.lit (.int .i64 0)))), (some (30, false)), 0⟩, ⟨(some 34), (.pick (.tmp 30) (.val (.lit (.bool true))) (.tmp 33)), none, 0⟩])
 (.cond (.tmp 34) (.seq (.reg 0 [⟨(some 4), (.mv (.val (.lit (.bool true)))), none, 0⟩])
 .ret) .skip))
 (.seq (.reg 0 [⟨(some 35), (.faddr 0 (.tmp 2)), none, 0⟩, ⟨(some 36), (.load 1 false (.tmp 35)), none, 0⟩, ⟨(some 37), (.len (.tmp 36)), none, 0⟩, ⟨(some 7), (.mv (.tmp 37)), none, 0⟩])
 (.seq (.reg 0 [⟨(some 39), (.mv (.tmp 7)), none, 0⟩, ⟨(some 40), (.mv (.tmp 5)), none, 0⟩, ⟨(some 41), (.call false (.val (.lit (.func (.func 8) #[] #[]))) [(.tmp 39), (.tmp 40)]), none, 0⟩, ⟨(some 38), (.mv (.tmp 41)), none, 0⟩, ⟨(some 42), (.ext (.tmp 38) 0), none, 0⟩, ⟨(some 43), (.ext (.tmp 38) 1), none, 0⟩, ⟨(some 44), (.ext (.tmp 38) 2), none, 0⟩, ⟨(some 8), (.mv (.tmp 42)), none, 0⟩, ⟨(some 9), (.mv (.tmp 43)), none, 0⟩, ⟨(some 10), (.mv (.tmp 44)), none, 0⟩])
 (.seq (.seq (.reg 0 [⟨(some 45), (.mv (.tmp 10)), none, 0⟩, ⟨(some 46), (.bin .neq (.tmp 45) (.val (.lit (.int .i64 0)))), none, 0⟩, ⟨(some 47), (.mv (.tmp 46)), none, 0⟩, ⟨(some 48), (.mv (.tmp 8)), (some (47, false)), 0⟩, ⟨(some 49), (.call false (.val (.lit (.func (.func 9) #[] #[]))) [(.tmp 48)]), (some (47, false)), 0⟩, ⟨(some 50), (.bin .neq (.tmp 49) (.val (.lit (.int .i64 0)))), (some (47, false)), 0⟩, ⟨(some 51), (.pick (.tmp 47) (.val (.lit (.bool true))) (.tmp 50)), none, 0⟩])
 (.cond (.tmp 51) (.seq (.reg 0 [⟨(some 4), (.mv (.val (.lit (.bool true)))), none, 0⟩])
 .ret) .skip))
 (.seq (.seq (.reg 0 [⟨(some 52), (.mv (.tmp 8)), none, 0⟩, ⟨(some 53), (.len (.tmp 52)), none, 0⟩, ⟨(some 54), (.mv (.tmp 7)), none, 0⟩, ⟨(some 55), (.bin .neq (.tmp 53) (.tmp 54)), none, 0⟩])
 (.cond (.tmp 55) (.seq (.reg 0 [⟨(some 4), (.mv (.val (.lit (.bool false)))), none, 0⟩])
 .ret) .skip))
 (.seq (.reg 0 [⟨(some 11), (.mv (.val (.sl true 0 []))), none, 0⟩])
 (.seq (.seq (.reg 0 [⟨(some 12), (.mv (.val (.lit (.int .i64 0)))), none, 0⟩])
 (.block 0 (.loop c3l0)))
 (.seq (.reg 1 [⟨(some 81), (.mv (.tmp 8)), none, 0⟩, ⟨(some 82), (.load 2 true (.tmp 3)), none, 0⟩, ⟨(some 83), (.call false (.val (.lit (.func (.func 11) #[] #[]))) [(.tmp 81), (.tmp 82)]), none, 0⟩, ⟨(some 80), (.mv (.tmp 83)), none, 0⟩, ⟨(some 84), (.ext (.tmp 80) 0), none, 0⟩, ⟨(some 85), (.ext (.tmp 80) 1), none, 0⟩, ⟨(some 86), (.ext (.tmp 80) 2), none, 0⟩, ⟨(some 14), (.alloc [(.lit (.int .i64 0)), (.lit (.int .i64 0))]), none, 0⟩, ⟨(some 13), (.mv (.tmp 84)), none, 1⟩, ⟨none, (.store 2 (.tmp 14) (.tmp 85)), none, 1⟩, ⟨(some 15), (.mv (.tmp 86)), none, 1⟩])
 (.seq (.dreg 1 [(0, ⟨(some 88), (.mv (.tmp 11)), none, 0⟩), (1, ⟨(some 89), (.call false (.val (.lit (.func (.func 13) #[] #[]))) [(.tmp 88)]), none, 0⟩), (2, ⟨(some 90), (.load 2 true (.tmp 3)), none, 0⟩), (3, ⟨(some 91), (.call false (.val (.lit (.func (.func 12) #[] #[]))) [(.tmp 89), (.tmp 90)]), none, 0⟩), (4, ⟨(some 87), (.mv (.tmp 91)), none, 0⟩), (5, ⟨(some 92), (.ext (.tmp 87) 0), none, 0⟩), (6, ⟨(some 93), (.ext (.tmp 87) 1), none, 0⟩), (7, ⟨(some 16), (.alloc [(.lit (.int .i64 0)), (.lit (.int .i64 0))]), none, 0⟩), (8, ⟨none, (.store 2 (.tmp 16) (.tmp 92)), none, 1⟩), (9, ⟨(some 17), (.mv (.tmp 93)), none, 1⟩)] [[], [0], [], [1, 2, 0], [3, 1, 2, 0], [4, 3, 1, 2, 0], [4, 3, 1, 2, 0], [], [7, 5, 3, 0, 1, 2, 4], [6, 8, 0, 1, 2, 3, 4, 5, 7]])
 (.seq (.seq (.reg 0 [⟨(some 94), (.mv (.tmp 15)), none, 0⟩, ⟨(some 95), (.bin .neq (.tmp 94) (.val (.lit (.int .i64 0)))), none, 0⟩, ⟨(some 96), (.mv (.tmp 95)), none, 0⟩, ⟨(some 97), (.mv (.tmp 17)), (some (96, false)), 0⟩, ⟨(some 98), (.bin .neq (.tmp 97) (.val (.lit (.int .i64 0)))), (some (96, false)), 0⟩, ⟨(some 99), (.mv (.tmp 98)), (some (96, false)), 0⟩, ⟨(some 100), (.mv (.tmp 17)), (some (99, true)), 0⟩, ⟨(some 101), (.bin .neq (.tmp 100) (.val (.lit (.int .i64 26)))), (some (99, true)), 0⟩, ⟨(some 102), (.pick (.tmp 99) (.tmp 101) (.val (.lit (.bool false)))), (some (96, false)), 0⟩, ⟨(some 103), (.pick (.tmp 96) (.val (.lit (.bool true))) (.tmp 102)), none, 0⟩])
 (.cond (.tmp 103) (.seq (.reg 0 [⟨(some 4), (.mv (.val (.lit (.bool false)))), none, 0⟩])
 .ret) .skip))
 (.seq (.seq (.reg 0 [⟨(some 104), (.mv (.tmp 13)), none, 0⟩, ⟨(some 105), (.bin .eql (.tmp 104) (.val (.lit (.int .i64 1)))), none, 0⟩, ⟨(some 106), (.mv (.tmp 105)), none, 0⟩, ⟨(some 107), (.mv (.tmp 17)), (some (106, true)), 0⟩, ⟨(some 108), (.bin .neq (.tmp 107) (.val (.lit (.int .i64 0)))), (some (106, true)), 0⟩, ⟨(some 109), (.pick (.tmp 106) (.tmp 108) (.val (.lit (.bool false)))), none, 0⟩, ⟨(some 110), (.mv (.tmp 109)), none, 0⟩, ⟨(some 111), (.mv (.tmp 13)), (some (110, false)), 0⟩, ⟨(some 112), (.bin .eql (.tmp 111) (.val (.lit (.int .i64 (-1))))), (some (110, false)), 0⟩, ⟨(some 113), (.mv (.tmp 112)), (some (110, false)), 0⟩, ⟨(some 114), (.mv (.tmp 17)), (some (113, true)), 0⟩, ⟨(some 115), (.bin .eql (.tmp 114) (.val (.lit (.int .i64 0)))), (some (113, true)), 0⟩, ⟨(some 116), (.pick (.tmp 113) (.tmp 115) (.val (.lit (.bool false)))), (some (110, false)), 0⟩, ⟨(some 117), (.pick (.tmp 110) (.val (.lit (.bool true))) (.tmp 116)), none, 0⟩])
 (.cond (.tmp 117) (.seq (.reg 0 [⟨(some 4), (.mv (.val (.lit (.bool false)))), none, 0⟩])
 .ret) .skip))
 (.seq (.reg 0 [⟨(some 119), (.mv (.tmp 8)), none, 0⟩, ⟨(some 120), (.load 2 true (.tmp 3)), none, 0⟩, ⟨(some 121), (.call false (.val (.lit (.func (.func 14) #[] #[]))) [(.tmp 119), (.tmp 120)]), none, 0⟩, ⟨(some 118), (.mv (.tmp 121)), none, 0⟩, ⟨(some 122), (.ext (.tmp 118) 0), none, 0⟩, ⟨(some 123), (.ext (.tmp 118) 1), none, 0⟩, ⟨(some 18), (.mv (.tmp 122)), none, 0⟩, ⟨(some 19), (.mv (.tmp 123)), none, 0⟩])
 (.seq (.seq (.reg 0 [⟨(some 124), (.mv (.tmp 19)), none, 0⟩, ⟨(some 125), (.bin .neq (.tmp 124) (.val (.lit (.int .i64 0)))), none, 0⟩])
 (.cond (.tmp 125) (.seq (.reg 0 [⟨(some 126), (.mv (.tmp 13)), none, 0⟩, ⟨(some 127), (.bin .neq (.tmp 126) (.val (.lit (.int .i64 0)))), none, 0⟩, ⟨(some 128), (.mv (.tmp 127)), none, 0⟩, ⟨(some 129), (.mv (.tmp 19)), (some (128, false)), 0⟩, ⟨(some 130), (.bin .eql (.tmp 129) (.val (.lit (.int .i64 8)))), (some (128, false)), 0⟩, ⟨(some 131), (.pick (.tmp 128) (.val (.lit (.bool true))) (.tmp 130)), none, 0⟩, ⟨(some 132), (.mv (.tmp 131)), none, 0⟩, ⟨(some 133), (.mv (.tmp 19)), (some (132, false)), 0⟩, ⟨(some 134), (.bin .eql (.tmp 133) (.val (.lit (.int .i64 12)))), (some (132, false)), 0⟩, ⟨(some 135), (.pick (.tmp 132) (.val (.lit (.bool true))) (.tmp 134)), none, 0⟩, ⟨(some 4), (.mv (.tmp 135)), none, 0⟩])
 .ret) .skip))
 (.seq (.seq (.reg 0 [⟨(some 136), (.mv (.tmp 18)), none, 0⟩, ⟨(some 137), (.mv (.tmp 7)), none, 0⟩, ⟨(some 138), (.bin .sub (.tmp 137) (.val (.lit (.int .i64 1)))), none, 0⟩, ⟨(some 139), (.call false (.val (.lit (.func (.func 10) #[] #[]))) [(.tmp 136), (.val (.lit (.int .i64 0))), (.tmp 138)]), none, 0⟩, ⟨(some 140), (.not (.tmp 139)), none, 0⟩])
 (.cond (.tmp 140) (.seq (.reg 0 [⟨(some 4), (.mv (.val (.lit (.bool false)))), none, 0⟩])
 .ret) .skip))
 (.seq (.reg 0 [⟨(some 141), (.mv (.tmp 8)), none, 0⟩, ⟨(some 142), (.call false (.val (.lit (.func (.func 15) #[] #[]))) [(.tmp 141)]), none, 0⟩, ⟨(some 20), (.mv (.tmp 142)), none, 0⟩])
 (.seq (.dreg 0 [(0, ⟨(some 143), (.mv (.tmp 20)), none, 0⟩), (1, ⟨(some 144), (.mv (.tmp 18)), none, 0⟩), (2, ⟨(some 145), (.mv (.tmp 11)), none, 0⟩), (3, ⟨(some 146), (.mv (.tmp 18)), none, 0⟩), (4, ⟨(some 147), (.iaddrS 1 (.tmp 145) (.tmp 146)), none, 0⟩), (5, ⟨(some 148), (.load 1 false (.tmp 147)), none, 0⟩), (6, ⟨(some 149), (.mv (.tmp 11)), none, 0⟩), (7, ⟨(some 150), (.mv (.tmp 18)), none, 0⟩), (8, ⟨(some 151), (.iaddrS 1 (.tmp 149) (.tmp 150)), none, 0⟩), (9, ⟨(some 152), (.load 1 false (.tmp 151)), none, 0⟩), (10, ⟨(some 153), (.build [(.lit (.int .i64 0)), (.lit (.int .i64 0))] [(0, (1, (.tmp 148))), (1, (1, (.tmp 152)))]), none, 0⟩), (11, ⟨(some 154), (.iaddrS 2 (.tmp 143) (.tmp 144)), none, 0⟩), (12, ⟨none, (.store 2 (.tmp 154) (.tmp 153)), none, 0⟩)] [[], [], [], [], [2, 3], [4, 2, 3], [], [], [6, 7], [8, 6, 7], [5, 9, 4, 2, 3, 8, 6, 7], [0, 1, 2, 3, 4, 5, 6, 7, 8, 9, 10], [11, 10, 0, 1, 2, 3, 4, 5, 6, 7, 8, 9]])
 (.seq (.reg 0 [⟨(some 156), (.mv (.tmp 20)), none, 0⟩, ⟨(some 157), (.load 2 true (.tmp 3)), none, 0⟩, ⟨(some 158), (.call false (.val (.lit (.func (.func 11) #[] #[]))) [(.tmp 156), (.tmp 157)]), none, 0⟩, ⟨(some 155), (.mv (.tmp 158)), none, 0⟩, ⟨(some 159), (.ext (.tmp 155) 0), none, 0⟩, ⟨(some 160), (.ext (.tmp 155) 1), none, 0⟩, ⟨(some 161), (.ext (.tmp 155) 2), none, 0⟩, ⟨(some 13), (.mv (.tmp 159)), none, 0⟩, ⟨(some 15), (.mv (.tmp 161)), none, 0⟩])
 (.seq (.reg 0 [⟨(some 162), (.mv (.tmp 15)), none, 0⟩, ⟨(some 163), (.bin .eql (.tmp 162) (.val (.lit (.int .i64 0)))), none, 0⟩, ⟨(some 164), (.mv (.tmp 163)), none, 0⟩, ⟨(some 165), (.mv (.tmp 13)), (some (164, true)), 0⟩, ⟨(some 166), (.bin .neq (.tmp 165) (.val (.lit (.int .i64 0)))), (some (164, true)), 0⟩, ⟨(some 167), (.pick (.tmp 164) (.tmp 166) (.val (.lit (.bool false)))), none, 0⟩, ⟨(some 168), (.mv (.tmp 167)), none, 0⟩, ⟨(some 169), (.mv (.tmp 13)), (some (168, true)), 0⟩, ⟨(some 170), (.bin .eql (.tmp 169) (.val (.lit (.int .i64 1)))), (some (168, true)), 0⟩, ⟨(some 171), (.mv (.tmp 17)), (some (168, true)), 0⟩, ⟨(some 172), (.bin .eql (.tmp 171) (.val (.lit (.int .i64 0)))), (some (168, true)), 0⟩, ⟨(some 173), (.eqBool false (.tmp 170) (.tmp 172)), (some (168, true)), 0⟩, ⟨(some 174), (.pick (.tmp 168) (.tmp 173) (.val (.lit (.bool false)))), none, 0⟩, ⟨(some 4), (.mv (.tmp 174)), none, 0⟩])
 .ret)))))))))))))))))))))
theorem e3 : envOf Try.prog muts 3 = some (175, c3, [(Go.Abs.ARes.tmp 4)]) := by kernel_rfl
def c4l0 : ACode :=
 (.seq (.seq (.reg 0 [⟨(some 60), (.mv (.tmp 7)), none, 0⟩, ⟨(some 61), (.faddr 0 (.tmp 3)), none, 0⟩, ⟨(some 62), (.load 1 false (.tmp 61)), none, 0⟩, ⟨(some 63), (.len (.tmp 62)), none, 0⟩, ⟨(some 64), (.bin .lss (.tmp 60) (.tmp 63)), none, 0⟩])
 (.cond (.tmp 64) .skip (.exit 0)))
 (.seq (.block 1 (.seq (.reg 0 [⟨(some 67), (.faddr 0 (.tmp 3)), none, 0⟩, ⟨(some 68), (.load 1 false (.tmp 67)), none, 0⟩, ⟨(some 69), (.mv (.tmp 7)), none, 0⟩, ⟨(some 70), (.iaddrS 2 (.tmp 68) (.tmp 69)), none, 0⟩, ⟨(some 71), (.faddr 1 (.tmp 70)), none, 0⟩, ⟨(some 72), (.load 1 false (.tmp 71)), none, 0⟩, ⟨(some 73), (.len (.tmp 72)), none, 0⟩, ⟨(some 74), (.mv (.tmp 1)), none, 0⟩, ⟨(some 75), (.len (.tmp 74)), none, 0⟩, ⟨(some 76), (.bin .neq (.tmp 73) (.tmp 75)), none, 0⟩, ⟨(some 77), (.mv (.tmp 76)), none, 0⟩, ⟨(some 78), (.faddr 0 (.tmp 3)), (some (77, false)), 0⟩, ⟨(some 79), (.load 1 false (.tmp 78)), (some (77, false)), 0⟩, ⟨(some 80), (.mv (.tmp 7)), (some (77, false)), 0⟩, ⟨(some 81), (.iaddrS 2 (.tmp 79) (.tmp 80)), (some (77, false)), 0⟩, ⟨(some 82), (.faddr 0 (.tmp 81)), (some (77, false)), 0⟩, ⟨(some 83), (.load 1 false (.tmp 82)), (some (77, false)), 0⟩, ⟨(some 84), (.lenS (.tmp 83)), (some (77, false)), 0⟩, ⟨(some 85), (.bin .gtr (.tmp 84) (.val (.lit (.int .i64 30)))), (some (77, false)), 0⟩, ⟨(some 86), (.pick (.tmp 77) (.val (.lit (.bool true))) (.tmp 85)), none, 0⟩])
 (.cond (.tmp 86) (.seq (.reg 0 [⟨(some 6), (.mv (.val (.lit (.bool true)))), none, 0⟩])
 .ret) .skip)))
 (.reg 0 [⟨(some 65), (.mv (.tmp 7)), none, 0⟩, ⟨(some 66), (.bin .add (.tmp 65) (.val (.lit (.int .i64 1)))), none, 0⟩, ⟨(some 7), (.mv (.tmp 66)), none, 0⟩])))
def c4l1 : ACode :=
 (.seq (.seq (.reg 0 [⟨(some 87), (.mv (.tmp 9)), none, 0⟩, ⟨(some 88), (.mv (.tmp 1)), none, 0⟩, ⟨(some 89), (.len (.tmp 88)), none, 0⟩, ⟨(some 90), (.bin .lss (.tmp 87) (.tmp 89)), none, 0⟩])
 (.cond (.tmp 90) .skip (.exit 2)))
 (.seq (.block 3 (.seq (.seq (.dreg 0 [(0, ⟨(some 93), (.mv (.tmp 1)), none, 0⟩), (1, ⟨(some 94), (.mv (.tmp 9)), none, 0⟩), (2, ⟨(some 95), (.iaddrS 1 (.tmp 93) (.tmp 94)), none, 0⟩), (3, ⟨(some 96), (.load 1 false (.tmp 95)), none, 0⟩), (4, ⟨(some 97), (.mv (.tmp 2)), none, 0⟩), (5, ⟨(some 98), (.mv (.tmp 9)), none, 0⟩), (6, ⟨(some 99), (.iaddrS 1 (.tmp 97) (.tmp 98)), none, 0⟩), (7, ⟨(some 100), (.load 1 false (.tmp 99)), none, 0⟩), (8, ⟨(some 101), (.bin .sub (.tmp 96) (.tmp 100)), none, 0⟩), (9, ⟨(some 102), (.call false (.val (.lit (.func (.func 10) #[] #[]))) [(.tmp 101), (.val (.lit (.int .i64 0))), (.val (.lit (.int .i64 10000)))]), none, 0⟩), (10, ⟨(some 103), (.not (.tmp 102)), none, 0⟩)] [[], [], [0, 1], [2, 0, 1], [], [], [4, 5], [6, 4, 5], [3, 7, 2, 0, 1, 6, 4, 5], [8, 3, 7, 2, 0, 1, 6, 4, 5], [9, 8, 3, 7, 2, 0, 1, 6, 4, 5]])
 (.cond (.tmp 103) (.seq (.reg 0 [⟨(some 6), (.mv (.val (.lit (.bool true)))), none, 0⟩])
 .ret) .skip))
 (.dreg 4 [(0, ⟨(some 104), (.faddr 0 (.tmp 8)), none, 0⟩), (1, ⟨(some 105), (.load 1 false (.tmp 104)), none, 0⟩), (2, ⟨(some 106), (.bslice 1 1 [(.lit (.int .i64 0))] [(0, (.val (.lit (.int .i64 0))))]), none, 0⟩), (3, ⟨(some 107), (.app 1 8 (.tmp 105) (.tmp 106)), none, 1⟩), (4, ⟨(some 108), (.faddr 1 (.tmp 8)), none, 2⟩), (5, ⟨(some 109), (.load 1 false (.tmp 108)), none, 2⟩), (6, ⟨(some 110), (.mv (.tmp 1)), none, 2⟩), (7, ⟨(some 111), (.mv (.tmp 9)), none, 2⟩), (8, ⟨(some 112), (.iaddrS 1 (.tmp 110) (.tmp 111)), none, 2⟩), (9, ⟨(some 113), (.load 1 false (.tmp 112)), none, 2⟩), (10, ⟨(some 114), (.mv (.tmp 2)), none, 2⟩), (11, ⟨(some 115), (.mv (.tmp 9)), none, 2⟩), (12, ⟨(some 116), (.iaddrS 1 (.tmp 114) (.tmp 115)), none, 2⟩), (13, ⟨(some 117), (.load 1 false (.tmp 116)), none, 2⟩), (14, ⟨(some 118), (.bin .sub (.tmp 113) (.tmp 117)), none, 2⟩), (15, ⟨(some 119), (.bslice 1 1 [(.lit (.int .i64 0))] [(0, (.tmp 118))]), none, 2⟩), (16, ⟨(some 120), (.app 1 8 (.tmp 109) (.tmp 119)), none, 3⟩), (17, ⟨(some 121), (.faddr 0 (.tmp 8)), none, 4⟩), (18, ⟨none, (.store 1 (.tmp 121) (.tmp 107)), none, 4⟩), (19, ⟨(some 122), (.faddr 1 (.tmp 8)), none, 4⟩), (20, ⟨none, (.store 1 (.tmp 122) (.tmp 120)), none, 4⟩)] [[], [0], [], [1, 2, 0], [], [4], [], [], [6, 7], [8, 6, 7], [], [], [10, 11], [12, 10, 11], [9, 13, 8, 6, 7, 12, 10, 11], [14, 9, 13, 8, 6, 7, 12, 10, 11], [5, 15, 3, 4, 14, 9, 13, 8, 6, 7, 12, 10, 11, 1, 2, 0], [0, 1, 2, 3, 4, 5], [17, 3, 16, 0, 1, 2, 4, 5, 15, 14, 9, 13, 8, 6, 7, 12, 10, 11], [0, 1, 2, 3, 4, 5, 6, 7, 8, 9, 10, 11, 12, 13, 14, 15, 16, 17, 18], [19, 16, 18, 0, 1, 2, 3, 4, 5, 6, 7, 8, 9, 10, 11, 12, 13, 14, 15, 17]])))
 (.reg 0 [⟨(some 91), (.mv (.tmp 9)), none, 0⟩, ⟨(some 92), (.bin .add (.tmp 91) (.val (.lit (.int .i64 1)))), none, 0⟩, ⟨(some 9), (.mv (.tmp 92)), none, 0⟩])))
def c4l2 : ACode :=
 (.seq (.seq (.reg 0 [⟨(some 123), (.mv (.tmp 12)), none, 0⟩, ⟨(some 124), (.faddr 1 (.tmp 3)), none, 0⟩, ⟨(some 125), (.load 1 false (.tmp 124)), none, 0⟩, ⟨(some 126), (.len (.tmp 125)), none, 0⟩, ⟨(some 127), (.bin .lss (.tmp 123) (.tmp 126)), none, 0⟩])
 (.cond (.tmp 127) .skip (.exit 4)))
 (.seq (.block 5 (.seq (.reg 1 [⟨(some 130), (.faddr 1 (.tmp 3)), none, 0⟩, ⟨(some 131), (.load 1 false (.tmp 130)), none, 0⟩, ⟨(some 132), (.mv (.tmp 12)), none, 0⟩, ⟨(some 133), (.iaddrS 3 (.tmp 131) (.tmp 132)), none, 0⟩, ⟨(some 134), (.load 3 true (.tmp 133)), none, 0⟩, ⟨(some 13), (.alloc [(.lit (.string ⟨#[]⟩)), (.lit (.string ⟨#[]⟩)), (.lit (.int .i64 0))]), none, 0⟩, ⟨none, (.store 3 (.tmp 13) (.tmp 134)), none, 1⟩])
 (.seq (.seq (.reg 0 [⟨(some 135), (.faddr 0 (.tmp 13)), none, 0⟩, ⟨(some 136), (.load 1 false (.tmp 135)), none, 0⟩, ⟨(some 137), (.lenS (.tmp 136)), none, 0⟩, ⟨(some 138), (.bin .gtr (.tmp 137) (.val (.lit (.int .i64 30)))), none, 0⟩, ⟨(some 139), (.mv (.tmp 138)), none, 0⟩, ⟨(some 140), (.faddr 1 (.tmp 13)), (some (139, false)), 0⟩, ⟨(some 141), (.load 1 false (.tmp 140)), (some (139, false)), 0⟩, ⟨(some 142), (.lenS (.tmp 141)), (some (139, false)), 0⟩, ⟨(some 143), (.bin .gtr (.tmp 142) (.val (.lit (.int .i64 30)))), (some (139, false)), 0⟩, ⟨(some 144), (.pick (.tmp 139) (.val (.lit (.bool true))) (.tmp 143)), none, 0⟩])
 (.cond (.tmp 144) (.seq (.reg 0 [⟨(some 6), (.mv (.val (.lit (.bool true)))), none, 0⟩])
 .ret) .skip))
 (.seq (.dreg 2 [(0, ⟨(some 146), (.faddr 0 (.tmp 3)), none, 0⟩), (1, ⟨(some 147), (.load 1 false (.tmp 146)), none, 0⟩), (2, ⟨(some 148), (.load 2 true (.tmp 8)), none, 0⟩), (3, ⟨(some 149), (.bslice 3 0 [(.lit (.string ⟨#[]⟩)), (.lit (.string ⟨#[]⟩)), (.lit (.int .i64 0))] []), none, 0⟩), (4, ⟨(some 150), (.mv (.tmp 10)), none, 1⟩), (5, ⟨(some 151), (.app 3 40 (.tmp 149) (.tmp 150)), none, 1⟩), (6, ⟨(some 152), (.load 3 true (.tmp 13)), none, 2⟩), (7, ⟨(some 153), (.call false (.val (.lit (.func (.func 17) #[] #[]))) [(.tmp 147), (.tmp 148), (.tmp 151), (.tmp 152)]), none, 2⟩), (8, ⟨(some 145), (.mv (.tmp 153)), none, 2⟩), (9, ⟨(some 154), (.ext (.tmp 145) 0), none, 2⟩), (10, ⟨(some 155), (.ext (.tmp 145) 1), none, 2⟩), (11, ⟨(some 14), (.mv (.tmp 154)), none, 2⟩), (12, ⟨(some 15), (.mv (.tmp 155)), none, 2⟩)] [[], [0], [], [], [], [3, 4], [], [1, 2, 5, 6, 0, 3, 4], [7, 1, 2, 5, 6, 0, 3, 4], [8, 7, 1, 2, 5, 6, 0, 3, 4], [8, 7, 1, 2, 5, 6, 0, 3, 4], [9, 7, 0, 1, 2, 3, 4, 5, 6, 8], [10, 11, 0, 1, 2, 3, 4, 5, 6, 7, 8, 9]])
 (.seq (.seq (.reg 0 [⟨(some 156), (.mv (.tmp 15)), none, 0⟩, ⟨(some 157), (.bin .neq (.tmp 156) (.val (.lit (.int .i64 0)))), none, 0⟩])
 (.cond (.tmp 157) (.exit 5) .skip))
 (.seq (.seq (.reg 0 [⟨(some 158), (.mv (.tmp 14)), none, 0⟩, ⟨(some 159), (.len (.tmp 158)), none, 0⟩, ⟨(some 160), (.mv (.tmp 10)), none, 0⟩, ⟨(some 161), (.len (.tmp 160)), none, 0⟩, ⟨(some 162), (.bin .add (.tmp 161) (.val (.lit (.int .i64 1)))), none, 0⟩, ⟨(some 163), (.bin .neq (.tmp 159) (.tmp 162)), none, 0⟩])
 (.cond (.tmp 163) (.seq (.reg 0 [⟨(some 6), (.mv (.val (.lit (.bool false)))), none, 0⟩])
 .ret) .skip))
 (.seq (.seq (.reg 1 [⟨(some 165), (.faddr 0 (.tmp 3)), none, 0⟩, ⟨(some 166), (.load 1 false (.tmp 165)), none, 0⟩, ⟨(some 167), (.load 3 true (.tmp 13)), none, 0⟩, ⟨(some 168), (.bslice 3 1 [(.lit (.string ⟨#[]⟩)), (.lit (.string ⟨#[]⟩)), (.lit (.int .i64 0))] [(0, (.tmp 167))]), none, 0⟩, ⟨(some 169), (.faddr 2 (.tmp 3)), none, 1⟩, ⟨(some 170), (.load 1 false (.tmp 169)), none, 1⟩, ⟨(some 171), (.call false (.val (.lit (.func (.func 18) #[] #[]))) [(.tmp 166), (.tmp 168), (.tmp 170)]), none, 1⟩, ⟨(some 164), (.mv (.tmp 171)), none, 1⟩, ⟨(some 172), (.ext (.tmp 164) 0), none, 1⟩, ⟨(some 173), (.ext (.tmp 164) 1), none, 1⟩, ⟨(some 16), (.mv (.tmp 172)), none, 1⟩, ⟨(some 17), (.mv (.tmp 173)), none, 1⟩])
 (.seq (.reg 0 [⟨(some 174), (.mv (.tmp 17)), none, 0⟩, ⟨(some 175), (.bin .eql (.tmp 174) (.val (.lit (.int .i64 0)))), none, 0⟩])
 (.cond (.tmp 175) (.reg 2 [⟨(some 176), (.mv (.tmp 16)), none, 0⟩, ⟨(some 177), (.bslice 1 1 [(.sl true 0 [])] [(0, (.tmp 176))]), none, 0⟩, ⟨(some 178), (.mv (.tmp 11)), none, 1⟩, ⟨(some 179), (.app 1 24 (.tmp 177) (.tmp 178)), none, 1⟩, ⟨(some 11), (.mv (.tmp 179)), none, 2⟩]) .skip)))
 (.reg 0 [⟨(some 180), (.mv (.tmp 14)), none, 0⟩, ⟨(some 10), (.mv (.tmp 180)), none, 0⟩]))))))))
 (.reg 0 [⟨(some 128), (.mv (.tmp 12)), none, 0⟩, ⟨(some 129), (.bin .add (.tmp 128) (.val (.lit (.int .i64 1)))), none, 0⟩, ⟨(some 12), (.mv (.tmp 129)), none, 0⟩])))
def c4 : ACode :=
 (.seq (.reg 1 [⟨(some 3), (.box 3 (.tmp 0)), none, 0⟩, ⟨(some 6), (.mv (.val (.lit (.bool false)))), none, 1⟩])
 (.seq (.seq (.reg 0 [⟨(some 24), (.call false (.val (.lit (.func (.func 5) #[] #[]))) []), none, 0⟩, ⟨(some 25), (.not (.tmp 24)), none, 0⟩])
 (.cond (.tmp 25) (.seq (.reg 0 [⟨(some 6), (.mv (.val (.lit (.bool false)))), none, 0⟩])
 .ret) .skip))
 (.seq (.seq (.reg 0 [⟨(some 26), (.faddr 0 (.tmp 3)), none, 0⟩, ⟨(some 27), (.load 1 false (.tmp 26)), none, 0⟩, ⟨(some 28), (.len (.tmp 27)), none, 0⟩, ⟨(some 29), (.bin .gtr (.tmp 28) (.val (.lit (.int .i64 4)))), none, 0⟩, ⟨(some 30), (.mv (.tmp 29)), none, 0⟩, ⟨(some 31), (.faddr 1 (.tmp 3)), (some (30, false)), 0⟩, ⟨(some 32), (.load 1 false (.tmp 31)), (some (30, false)), 0⟩, ⟨(some 33), (.len (.tmp 32)), (some (30, false)), 0⟩, ⟨(some 34), (.bin .gtr (.tmp 33) (.val (.lit (.int .i64 6)))), (some (30, false)), 0⟩, ⟨(some 35), (.pick (.tmp 30) (.val (.lit (.bool true))) (.tmp 34)), none, 0⟩, ⟨(some 36), (.mv (.tmp 35)), none, 0⟩, ⟨(some 37), (.mv (.tmp 1)), (some (36, false)), 0⟩, ⟨(some 38), (.len (.tmp 37)), (some (36, false)), 0⟩, ⟨(some 39), (.bin .gtr (.tmp 38) (.val (.lit (.int .i64 6)))), (some (36, false)), 0⟩, ⟨(some 40), (.pick (.tmp 36) (.val (.lit (.bool true))) (.tmp 39)), none, 0⟩, ⟨(some 41), (.mv (.tmp 40)), none, 0⟩, ⟨(some 42), (.mv (.tmp 2)), (some (41, false)), 0⟩, ⟨(some 43), (.len (.tmp 42)), (some (41, false)), 0⟩, ⟨(some 44), (.mv (.tmp 1)), (some (41, false)), 0⟩, ⟨(some 45), (.len (.tmp 44)), (some (41, false)), 0⟩, ⟨(some 46), (.bin .neq (.tmp 43) (.tmp 45)), (some (41, false)), 0⟩, ⟨(some 47), (.pick (.tmp 41) (.val (.lit (.bool true))) (.tmp 46)), none, 0⟩, ⟨(some 48), (.mv (.tmp 47)), none, 0⟩, ⟨(some 49), (.faddr 2 (.tmp 3)), (some (48, false)), 0⟩, ⟨(some 50), (.load 1 false (.tmp 49)), (some (48, false)), 0⟩, ⟨(some 51), (.lenS (.tmp 50)), (some (48, false)), 0⟩, ⟨(some 52), (.bin .gtr (.tmp 51) (.val (.lit (.int .i64 30)))), (some (48, false)), 0⟩, ⟨(some 53), (.pick (.tmp 48) (.val (.lit (.bool true))) (.tmp 52)), none, 0⟩, ⟨(some 54), (.mv (.tmp 53)), none, 0⟩, ⟨(some 55), (.mv (.tmp 1)), (some (54, false)), 0⟩, ⟨(some 56), (.mv (.tmp 2)), (some (54, false)), 0⟩, ⟨(some 57), (.call false (.val (.lit (.func (.func 16) #[] #[]))) [(.tmp 55), (.tmp 56)]), (some (54, false)), 0⟩, ⟨(some 58), (.bin .neq (.tmp 57) (.val (.lit (.int .i64 0)))), (some (54, false)), 0⟩, ⟨(some 59), (.pick (.tmp 54) (.val (.lit (.bool true))) (.tmp 58)), none, 0⟩])
 (.cond (.tmp 59) (.seq (.reg 0 [⟨(some 6), (.mv (.val (.lit (.bool true)))), none, 0⟩])
 .ret) .skip))
 (.seq (.seq (.reg 0 [⟨(some 7), (.mv (.val (.lit (.int .i64 0)))), none, 0⟩])
 (.block 0 (.loop c4l0)))
 (.seq (.reg 1 [⟨(some 8), (.alloc [(.sl true 0 []), (.sl true 0 [])]), none, 0⟩])
 (.seq (.seq (.reg 0 [⟨(some 9), (.mv (.val (.lit (.int .i64 0)))), none, 0⟩])
 (.block 2 (.loop c4l1)))
 (.seq (.reg 0 [⟨(some 10), (.mv (.val (.sl true 0 []))), none, 0⟩])
 (.seq (.reg 0 [⟨(some 11), (.mv (.val (.sl true 0 []))), none, 0⟩])
 (.seq (.seq (.reg 0 [⟨(some 12), (.mv (.val (.lit (.int .i64 0)))), none, 0⟩])
 (.block 4 (.loop c4l2)))
 (.seq (.reg 0 [⟨(some 182), (.faddr 0 (.tmp 3)), none, 0⟩, ⟨(some 183), (.load 1 false (.tmp 182)), none, 0⟩, ⟨(some 184), (.mv (.tmp 10)), none, 0⟩, ⟨(some 185), (.faddr 2 (.tmp 3)), none, 0⟩, ⟨(some 186), (.load 1 false (.tmp 185)), none, 0⟩, ⟨(some 187), (.call false (.val (.lit (.func (.func 18) #[] #[]))) [(.tmp 183), (.tmp 184), (.tmp 186)]), none, 0⟩, ⟨(some 181), (.mv (.tmp 187)), none, 0⟩, ⟨(some 188), (.ext (.tmp 181) 0), none, 0⟩, ⟨(some 189), (.ext (.tmp 181) 1), none, 0⟩, ⟨(some 18), (.mv (.tmp 188)), none, 0⟩, ⟨(some 19), (.mv (.tmp 189)), none, 0⟩])
 (.seq (.seq (.reg 0 [⟨(some 190), (.mv (.tmp 19)), none, 0⟩, ⟨(some 191), (.bin .neq (.tmp 190) (.val (.lit (.int .i64 0)))), none, 0⟩])
 (.cond (.tmp 191) (.seq (.reg 0 [⟨(some 6), (.mv (.val (.lit (.bool true)))), none, 0⟩])
 .ret) .skip))
 (.seq (.reg 1 [⟨(some 193), (.mv (.tmp 1)), none, 0⟩, ⟨(some 194), (.call false (.val (.lit (.func (.func 13) #[] #[]))) [(.tmp 193)]), none, 0⟩, ⟨(some 195), (.mv (.tmp 2)), none, 0⟩, ⟨(some 196), (.call false (.val (.lit (.func (.func 13) #[] #[]))) [(.tmp 195)]), none, 0⟩, ⟨(some 197), (.mv (.tmp 18)), none, 0⟩, ⟨(some 198), (.bslice 1 1 [(.sl true 0 [])] [(0, (.tmp 197))]), none, 0⟩, ⟨(some 199), (.call false (.val (.lit (.func (.func 19) #[] #[]))) [(.tmp 194), (.tmp 196), (.tmp 198)]), none, 1⟩, ⟨(some 192), (.mv (.tmp 199)), none, 1⟩, ⟨(some 200), (.ext (.tmp 192) 0), none, 1⟩, ⟨(some 201), (.ext (.tmp 192) 1), none, 1⟩, ⟨(some 20), (.mv (.tmp 200)), none, 1⟩, ⟨(some 21), (.mv (.tmp 201)), none, 1⟩])
 (.seq (.reg 0 [⟨(some 203), (.mv (.tmp 1)), none, 0⟩, ⟨(some 204), (.call false (.val (.lit (.func (.func 13) #[] #[]))) [(.tmp 203)]), none, 0⟩, ⟨(some 205), (.mv (.tmp 2)), none, 0⟩, ⟨(some 206), (.call false (.val (.lit (.func (.func 13) #[] #[]))) [(.tmp 205)]), none, 0⟩, ⟨(some 207), (.mv (.tmp 11)), none, 0⟩, ⟨(some 208), (.call false (.val (.lit (.func (.func 19) #[] #[]))) [(.tmp 204), (.tmp 206), (.tmp 207)]), none, 0⟩, ⟨(some 202), (.mv (.tmp 208)), none, 0⟩, ⟨(some 209), (.ext (.tmp 202) 0), none, 0⟩, ⟨(some 210), (.ext (.tmp 202) 1), none, 0⟩, ⟨(some 22), (.mv (.tmp 209)), none, 0⟩, ⟨(some 23), (.mv (.tmp 210)), none, 0⟩])
 (.seq (.reg 0 [⟨(some 211), (.mv (.tmp 21)), none, 0⟩, ⟨(some 212), (.bin .eql (.tmp 211) (.val (.lit (.int .i64 0)))), none, 0⟩, ⟨(some 213), (.mv (.tmp 212)), none, 0⟩, ⟨(some 214), (.mv (.tmp 23)), (some (213, true)), 0⟩, ⟨(some 215), (.bin .eql (.tmp 214) (.val (.lit (.int .i64 0)))), (some (213, true)), 0⟩, ⟨(some 216), (.pick (.tmp 213) (.tmp 215) (.val (.lit (.bool false)))), none, 0⟩, ⟨(some 6), (.mv (.tmp 216)), none, 0⟩])
 .ret))))))))))))))
theorem e4 : envOf Try.prog muts 4 = some (217, c4, [(Go.Abs.ARes.tmp 6)]) := by kernel_rfl
def c5 : ACode :=
 (.seq (.reg 0 [⟨(some 0), (.mv (.val (.lit (.bool false)))), none, 0⟩])
 (.seq (.reg 1 [⟨(some 11), (.build [(.lit (.int .i64 0)), (.lit (.int .i64 0))] [(0, (1, (.val (.lit (.int .i64 5))))), (1, (1, (.val (.lit (.int .i64 7)))))]), none, 0⟩, ⟨(some 12), (.build [(.lit (.int .i64 0)), (.lit (.int .i64 0)), (.lit (.int .i64 0)), (.lit (.int .i64 0))] [(0, (1, (.val (.lit (.int .i64 0))))), (1, (1, (.val (.lit (.int .i64 1))))), (2, (2, (.tmp 11)))]), none, 0⟩, ⟨(some 13), (.bslice 4 1 [(.lit (.int .i64 0)), (.lit (.int .i64 0)), (.lit (.int .i64 0)), (.lit (.int .i64 0))] [(0, (.tmp 12))]), none, 0⟩, ⟨(some 14), (.call false (.val (.lit (.func (.func 8) #[] #[]))) [(.val (.lit (.int .i64 2))), (.tmp 13)]), none, 1⟩, ⟨(some 10), (.mv (.tmp 14)), none, 1⟩, ⟨(some 15), (.ext (.tmp 10) 0), none, 1⟩, ⟨(some 16), (.ext (.tmp 10) 1), none, 1⟩, ⟨(some 17), (.ext (.tmp 10) 2), none, 1⟩, ⟨(some 1), (.mv (.tmp 15)), none, 1⟩, ⟨(some 2), (.mv (.tmp 16)), none, 1⟩, ⟨(some 3), (.mv (.tmp 17)), none, 1⟩])
 (.seq (.reg 1 [⟨(some 19), (.mv (.tmp 1)), none, 0⟩, ⟨(some 20), (.build [(.lit (.int .i64 0)), (.lit (.int .i64 0))] [(0, (1, (.val (.lit (.int .i64 7))))), (1, (1, (.val (.lit (.int .i64 7)))))]), none, 0⟩, ⟨(some 21), (.call false (.val (.lit (.func (.func 11) #[] #[]))) [(.tmp 19), (.tmp 20)]), none, 0⟩, ⟨(some 18), (.mv (.tmp 21)), none, 0⟩, ⟨(some 22), (.ext (.tmp 18) 0), none, 0⟩, ⟨(some 23), (.ext (.tmp 18) 1), none, 0⟩, ⟨(some 24), (.ext (.tmp 18) 2), none, 0⟩, ⟨(some 5), (.alloc [(.lit (.int .i64 0)), (.lit (.int .i64 0))]), none, 0⟩, ⟨(some 4), (.mv (.tmp 22)), none, 1⟩, ⟨none, (.store 2 (.tmp 5) (.tmp 23)), none, 1⟩, ⟨(some 6), (.mv (.tmp 24)), none, 1⟩])
 (.seq (.reg 1 [⟨(some 26), (.mv (.tmp 1)), none, 0⟩, ⟨(some 27), (.build [(.lit (.int .i64 0)), (.lit (.int .i64 0))] [(0, (1, (.val (.lit (.int .i64 4))))), (1, (1, (.val (.lit (.int .i64 9)))))]), none, 0⟩, ⟨(some 28), (.call false (.val (.lit (.func (.func 11) #[] #[]))) [(.tmp 26), (.tmp 27)]), none, 0⟩, ⟨(some 25), (.mv (.tmp 28)), none, 0⟩, ⟨(some 29), (.ext (.tmp 25) 0), none, 0⟩, ⟨(some 30), (.ext (.tmp 25) 1), none, 0⟩, ⟨(some 31), (.ext (.tmp 25) 2), none, 0⟩, ⟨(some 8), (.alloc [(.lit (.int .i64 0)), (.lit (.int .i64 0))]), none, 0⟩, ⟨(some 7), (.mv (.tmp 29)), none, 1⟩, ⟨none, (.store 2 (.tmp 8) (.tmp 30)), none, 1⟩, ⟨(some 9), (.mv (.tmp 31)), none, 1⟩])
 (.seq (.reg 0 [⟨(some 32), (.mv (.tmp 3)), none, 0⟩, ⟨(some 33), (.bin .eql (.tmp 32) (.val (.lit (.int .i64 0)))), none, 0⟩, ⟨(some 34), (.mv (.tmp 33)), none, 0⟩, ⟨(some 35), (.mv (.tmp 6)), (some (34, true)), 0⟩, ⟨(some 36), (.bin .eql (.tmp 35) (.val (.lit (.int .i64 0)))), (some (34, true)), 0⟩, ⟨(some 37), (.pick (.tmp 34) (.tmp 36) (.val (.lit (.bool false)))), none, 0⟩, ⟨(some 38), (.mv (.tmp 37)), none, 0⟩, ⟨(some 39), (.mv (.tmp 9)), (some (38, true)), 0⟩, ⟨(some 40), (.bin .eql (.tmp 39) (.val (.lit (.int .i64 0)))), (some (38, true)), 0⟩, ⟨(some 41), (.pick (.tmp 38) (.tmp 40) (.val (.lit (.bool false)))), none, 0⟩, ⟨(some 42), (.mv (.tmp 41)), none, 0⟩, ⟨(some 43), (.mv (.tmp 4)), (some (42, true)), 0⟩, ⟨(some 44), (.bin .eql (.tmp 43) (.val (.lit (.int .i64 1)))), (some (42, true)), 0⟩, ⟨(some 45), (.pick (.tmp 42) (.tmp 44) (.val (.lit (.bool false)))), none, 0⟩, ⟨(some 46), (.mv (.tmp 45)), none, 0⟩, ⟨(some 47), (.mv (.tmp 7)), (some (46, true)), 0⟩, ⟨(some 48), (.bin .eql (.tmp 47) (.val (.lit (.int .i64 (-1))))), (some (46, true)), 0⟩, ⟨(some 49), (.pick (.tmp 46) (.tmp 48) (.val (.lit (.bool false)))), none, 0⟩, ⟨(some 50), (.mv (.tmp 49)), none, 0⟩, ⟨(some 51), (.load 2 true (.tmp 8)), (some (50, true)), 0⟩, ⟨(some 52), (.build [(.lit (.int .i64 0)), (.lit (.int .i64 0))] [(0, (1, (.val (.lit (.int .i64 1))))), (1, (1, (.val (.lit (.int .i64 0)))))]), (some (50, true)), 0⟩, ⟨(some 53), (.eqAgg false [.ci, .ci] (.tmp 51) (.tmp 52)), (some (50, true)), 0⟩, ⟨(some 54), (.pick (.tmp 50) (.tmp 53) (.val (.lit (.bool false)))), none, 0⟩, ⟨(some 0), (.mv (.tmp 54)), none, 0⟩])
 .ret)))))
theorem e5 : envOf Try.prog muts 5 = some (55, c5, [(Go.Abs.ARes.tmp 0)]) := by kernel_rfl
def c6l0 : ACode :=
 (.seq (.seq (.reg 0 [⟨(some 34), (.mv (.tmp 7)), none, 0⟩, ⟨(some 35), (.mv (.tmp 6)), none, 0⟩, ⟨(some 36), (.bin .lss (.tmp 34) (.tmp 35)), none, 0⟩])
 (.cond (.tmp 36) .skip (.exit 0)))
 (.seq (.block 1 (.seq (.reg 0 [⟨(some 39), (.faddr 0 (.tmp 2)), none, 0⟩, ⟨(some 40), (.load 1 false (.tmp 39)), none, 0⟩, ⟨(some 41), (.mv (.tmp 7)), none, 0⟩, ⟨(some 42), (.iaddrS 1 (.tmp 40) (.tmp 41)), none, 0⟩, ⟨(some 43), (.load 1 false (.tmp 42)), none, 0⟩, ⟨(some 44), (.call false (.val (.lit (.func (.func 10) #[] #[]))) [(.tmp 43), (.val (.lit (.int .i64 (-100000)))), (.val (.lit (.int .i64 100000)))]), none, 0⟩, ⟨(some 45), (.not (.tmp 44)), none, 0⟩])
 (.cond (.tmp 45) (.seq (.reg 0 [⟨(some 4), (.mv (.val (.sl true 0 []))), none, 0⟩, ⟨(some 5), (.mv (.val (.lit (.bool false)))), none, 0⟩])
 .ret) .skip)))
 (.reg 0 [⟨(some 37), (.mv (.tmp 7)), none, 0⟩, ⟨(some 38), (.bin .add (.tmp 37) (.val (.lit (.int .i64 1)))), none, 0⟩, ⟨(some 7), (.mv (.tmp 38)), none, 0⟩])))
def c6l1 : ACode :=
 (.seq (.seq (.reg 0 [⟨(some 46), (.mv (.tmp 9)), none, 0⟩, ⟨(some 47), (.faddr 1 (.tmp 2)), none, 0⟩, ⟨(some 48), (.load 1 false (.tmp 47)), none, 0⟩, ⟨(some 49), (.len (.tmp 48)), none, 0⟩, ⟨(some 50), (.bin .lss (.tmp 46) (.tmp 49)), none, 0⟩])
 (.cond (.tmp 50) .skip (.exit 2)))
 (.seq (.block 3 (.seq (.dreg 2 [(0, ⟨(some 53), (.faddr 1 (.tmp 2)), none, 0⟩), (1, ⟨(some 54), (.load 1 false (.tmp 53)), none, 0⟩), (2, ⟨(some 55), (.mv (.tmp 9)), none, 0⟩), (3, ⟨(some 56), (.iaddrS 2 (.tmp 54) (.tmp 55)), none, 0⟩), (4, ⟨(some 57), (.load 2 true (.tmp 56)), none, 0⟩), (5, ⟨(some 58), (.faddr 2 (.tmp 2)), none, 0⟩), (6, ⟨(some 59), (.load 1 false (.tmp 58)), none, 0⟩), (7, ⟨(some 60), (.mv (.tmp 9)), none, 0⟩), (8, ⟨(some 61), (.iaddrS 2 (.tmp 59) (.tmp 60)), none, 0⟩), (9, ⟨(some 62), (.load 2 true (.tmp 61)), none, 0⟩), (10, ⟨(some 10), (.alloc [(.lit (.int .i64 0)), (.lit (.int .i64 0))]), none, 0⟩), (11, ⟨(some 11), (.alloc [(.lit (.int .i64 0)), (.lit (.int .i64 0))]), none, 1⟩), (12, ⟨none, (.store 2 (.tmp 10) (.tmp 57)), none, 2⟩), (13, ⟨none, (.store 2 (.tmp 11) (.tmp 62)), none, 2⟩)] [[], [0], [], [1, 2, 0], [3, 1, 2, 0], [], [5], [], [6, 7, 5], [8, 6, 7, 5], [], [], [10, 4, 0, 1, 2, 3, 11], [11, 9, 12, 0, 1, 2, 3, 4, 5, 6, 7, 8, 10]])
 (.seq (.seq (.reg 0 [⟨(some 63), (.iaddrA 2 1 (.tmp 10) (.val (.lit (.int .i64 0)))), none, 0⟩, ⟨(some 64), (.load 1 false (.tmp 63)), none, 0⟩, ⟨(some 65), (.mv (.tmp 6)), none, 0⟩, ⟨(some 66), (.bin .sub (.tmp 65) (.val (.lit (.int .i64 1)))), none, 0⟩, ⟨(some 67), (.call false (.val (.lit (.func (.func 10) #[] #[]))) [(.tmp 64), (.val (.lit (.int .i64 0))), (.tmp 66)]), none, 0⟩, ⟨(some 68), (.not (.tmp 67)), none, 0⟩, ⟨(some 69), (.mv (.tmp 68)), none, 0⟩, ⟨(some 70), (.iaddrA 2 1 (.tmp 10) (.val (.lit (.int .i64 1)))), (some (69, false)), 0⟩, ⟨(some 71), (.load 1 false (.tmp 70)), (some (69, false)), 0⟩, ⟨(some 72), (.mv (.tmp 6)), (some (69, false)), 0⟩, ⟨(some 73), (.bin .sub (.tmp 72) (.val (.lit (.int .i64 1)))), (some (69, false)), 0⟩, ⟨(some 74), (.call false (.val (.lit (.func (.func 10) #[] #[]))) [(.tmp 71), (.val (.lit (.int .i64 0))), (.tmp 73)]), (some (69, false)), 0⟩, ⟨(some 75), (.not (.tmp 74)), (some (69, false)), 0⟩, ⟨(some 76), (.pick (.tmp 69) (.val (.lit (.bool true))) (.tmp 75)), none, 0⟩, ⟨(some 77), (.mv (.tmp 76)), none, 0⟩, ⟨(some 78), (.iaddrA 2 1 (.tmp 10) (.val (.lit (.int .i64 0)))), (some (77, false)), 0⟩, ⟨(some 79), (.load 1 false (.tmp 78)), (some (77, false)), 0⟩, ⟨(some 80), (.iaddrA 2 1 (.tmp 10) (.val (.lit (.int .i64 1)))), (some (77, false)), 0⟩, ⟨(some 81), (.load 1 false (.tmp 80)), (some (77, false)), 0⟩, ⟨(some 82), (.bin .eql (.tmp 79) (.tmp 81)), (some (77, false)), 0⟩, ⟨(some 83), (.pick (.tmp 77) (.val (.lit (.bool true))) (.tmp 82)), none, 0⟩, ⟨(some 84), (.mv (.tmp 83)), none, 0⟩, ⟨(some 85), (.iaddrA 2 1 (.tmp 11) (.val (.lit (.int .i64 0)))), (some (84, false)), 0⟩, ⟨(some 86), (.load 1 false (.tmp 85)), (some (84, false)), 0⟩, ⟨(some 87), (.call false (.val (.lit (.func (.func 10) #[] #[]))) [(.tmp 86), (.val (.lit (.int .i64 0))), (.val (.lit (.int .i64 100000)))]), (some (84, false)), 0⟩, ⟨(some 88), (.not (.tmp 87)), (some (84, false)), 0⟩, ⟨(some 89), (.pick (.tmp 84) (.val (.lit (.bool true))) (.tmp 88)), none, 0⟩, ⟨(some 90), (.mv (.tmp 89)), none, 0⟩, ⟨(some 91), (.iaddrA 2 1 (.tmp 11) (.val (.lit (.int .i64 1)))), (some (90, false)), 0⟩, ⟨(some 92), (.load 1 false (.tmp 91)), (some (90, false)), 0⟩, ⟨(some 93), (.call false (.val (.lit (.func (.func 10) #[] #[]))) [(.tmp 92), (.val (.lit (.int .i64 0))), (.val (.lit (.int .i64 100000)))]), (some (90, false)), 0⟩, ⟨(some 94), (.not (.tmp 93)), (some (90, false)), 0⟩, ⟨(some 95), (.pick (.tmp 90) (.val (.lit (.bool true))) (.tmp 94)), none, 0⟩])
 (.cond (.tmp 95) (.seq (.reg 0 [⟨(some 4), (.mv (.val (.sl true 0 []))), none, 0⟩, ⟨(some 5), (.mv (.val (.lit (.bool false)))), none, 0⟩])
 .ret) .skip))
 (.seq (.dreg 0 [(0, ⟨(some 96), (.faddr 0 (.tmp 2)), none, 0⟩), (1, ⟨(some 97), (.load 1 false (.tmp 96)), none, 0⟩), (2, ⟨(some 98), (.iaddrA 2 1 (.tmp 10) (.val (.lit (.int .i64 1)))), none, 0⟩), (3, ⟨(some 99), (.load 1 false (.tmp 98)), none, 0⟩), (4, ⟨(some 100), (.iaddrS 1 (.tmp 97) (.tmp 99)), none, 0⟩), (5, ⟨(some 101), (.load 1 false (.tmp 100)), none, 0⟩), (6, ⟨(some 102), (.faddr 0 (.tmp 2)), none, 0⟩), (7, ⟨(some 103), (.load 1 false (.tmp 102)), none, 0⟩), (8, ⟨(some 104), (.iaddrA 2 1 (.tmp 10) (.val (.lit (.int .i64 0)))), none, 0⟩), (9, ⟨(some 105), (.load 1 false (.tmp 104)), none, 0⟩), (10, ⟨(some 106), (.iaddrS 1 (.tmp 103) (.tmp 105)), none, 0⟩), (11, ⟨(some 107), (.load 1 false (.tmp 106)), none, 0⟩), (12, ⟨(some 108), (.bin .sub (.tmp 101) (.tmp 107)), none, 0⟩), (13, ⟨(some 12), (.mv (.tmp 108)), none, 0⟩)] [[], [0], [], [2], [1, 3, 0, 2], [4, 1, 3, 0, 2], [], [6], [], [8], [7, 9, 6, 8], [10, 7, 9, 6, 8], [5, 11, 4, 1, 3, 0, 2, 10, 7, 9, 6, 8], [12, 0, 1, 2, 3, 4, 5, 6, 7, 8, 9, 10, 11]])
 (.dreg 2 [(0, ⟨(some 109), (.mv (.tmp 8)), none, 0⟩), (1, ⟨(some 110), (.iaddrA 2 1 (.tmp 10) (.val (.lit (.int .i64 0)))), none, 0⟩), (2, ⟨(some 111), (.load 1 false (.tmp 110)), none, 0⟩), (3, ⟨(some 112), (.iaddrA 2 1 (.tmp 10) (.val (.lit (.int .i64 1)))), none, 0⟩), (4, ⟨(some 113), (.load 1 false (.tmp 112)), none, 0⟩), (5, ⟨(some 114), (.mv (.tmp 12)), none, 0⟩), (6, ⟨(some 115), (.iaddrA 2 1 (.tmp 11) (.val (.lit (.int .i64 0)))), none, 0⟩), (7, ⟨(some 116), (.load 1 false (.tmp 115)), none, 0⟩), (8, ⟨(some 117), (.mv (.tmp 1)), none, 0⟩), (9, ⟨(some 118), (.bin .quo (.tmp 116) (.tmp 117)), none, 0⟩), (10, ⟨(some 119), (.bin .sub (.tmp 114) (.tmp 118)), none, 0⟩), (11, ⟨(some 120), (.mv (.tmp 12)), none, 0⟩), (12, ⟨(some 121), (.iaddrA 2 1 (.tmp 11) (.val (.lit (.int .i64 1)))), none, 0⟩), (13, ⟨(some 122), (.load 1 false (.tmp 121)), none, 0⟩), (14, ⟨(some 123), (.mv (.tmp 1)), none, 0⟩), (15, ⟨(some 124), (.bin .quo (.tmp 122) (.tmp 123)), none, 0⟩), (16, ⟨(some 125), (.bin .add (.tmp 120) (.tmp 124)), none, 0⟩), (17, ⟨(some 126), (.build [(.lit (.int .i64 0)), (.lit (.int .i64 0))] [(0, (1, (.tmp 119))), (1, (1, (.tmp 125)))]), none, 0⟩), (18, ⟨(some 127), (.build [(.lit (.int .i64 0)), (.lit (.int .i64 0)), (.lit (.int .i64 0)), (.lit (.int .i64 0))] [(0, (1, (.tmp 111))), (1, (1, (.tmp 113))), (2, (2, (.tmp 126)))]), none, 0⟩), (19, ⟨(some 128), (.bslice 4 1 [(.lit (.int .i64 0)), (.lit (.int .i64 0)), (.lit (.int .i64 0)), (.lit (.int .i64 0))] [(0, (.tmp 127))]), none, 0⟩), (20, ⟨(some 129), (.app 4 32 (.tmp 109) (.tmp 128)), none, 1⟩), (21, ⟨(some 8), (.mv (.tmp 129)), none, 2⟩)] [[], [], [1], [], [3], [], [], [6], [], [7, 8, 6], [5, 9, 7, 8, 6], [], [], [12], [], [13, 14, 12], [11, 15, 13, 14, 12], [10, 16, 5, 9, 7, 8, 6, 11, 15, 13, 14, 12], [2, 4, 17, 1, 3, 10, 16, 5, 9, 7, 8, 6, 11, 15, 13, 14, 12], [18, 2, 4, 17, 1, 3, 10, 16, 5, 9, 7, 8, 6, 11, 15, 13, 14, 12], [0, 19, 18, 2, 4, 17, 1, 3, 10, 16, 5, 9, 7, 8, 6, 11, 15, 13, 14, 12], [20, 0, 1, 2, 3, 4, 5, 6, 7, 8, 9, 10, 11, 12, 13, 14, 15, 16, 17, 18, 19]])))))
 (.reg 0 [⟨(some 51), (.mv (.tmp 9)), none, 0⟩, ⟨(some 52), (.bin .add (.tmp 51) (.val (.lit (.int .i64 1)))), none, 0⟩, ⟨(some 9), (.mv (.tmp 52)), none, 0⟩])))
def c6 : ACode :=
 (.seq (.reg 1 [⟨(some 2), (.box 3 (.tmp 0)), none, 0⟩, ⟨(some 4), (.mv (.val (.sl true 0 []))), none, 1⟩, ⟨(some 5), (.mv (.val (.lit (.bool false)))), none, 1⟩])
 (.seq (.reg 0 [⟨(some 13), (.faddr 0 (.tmp 2)), none, 0⟩, ⟨(some 14), (.load 1 false (.tmp 13)), none, 0⟩, ⟨(some 15), (.len (.tmp 14)), none, 0⟩, ⟨(some 6), (.mv (.tmp 15)), none, 0⟩])
 (.seq (.seq (.reg 0 [⟨(some 16), (.mv (.tmp 6)), none, 0⟩, ⟨(some 17), (.call false (.val (.lit (.func (.func 10) #[] #[]))) [(.tmp 16), (.val (.lit (.int .i64 1))), (.val (.lit (.int .i64 8)))]), none, 0⟩, ⟨(some 18), (.not (.tmp 17)), none, 0⟩, ⟨(some 19), (.mv (.tmp 18)), none, 0⟩, ⟨(some 20), (.faddr 1 (.tmp 2)), (some (19, false)), 0⟩, ⟨(some 21), (.load 1 false (.tmp 20)), (some (19, false)), 0⟩, ⟨(some 22), (.len (.tmp 21)), (some (19, false)), 0⟩, ⟨(some 23), (.bin .gtr (.tmp 22) (.val (.lit (.int .i64 12)))), (some (19, false)), 0⟩, ⟨(some 24), (.pick (.tmp 19) (.val (.lit (.bool true))) (.tmp 23)), none, 0⟩, ⟨(some 25), (.mv (.tmp 24)), none, 0⟩, ⟨(some 26), (.faddr 2 (.tmp 2)), (some (25, false)), 0⟩, ⟨(some 27), (.load 1 false (.tmp 26)), (some (25, false)), 0⟩, ⟨(some 28), (.len (.tmp 27)), (some (25, false)), 0⟩, ⟨(some 29), (.faddr 1 (.tmp 2)), (some (25, false)), 0⟩, ⟨(some 30), (.load 1 false (.tmp 29)), (some (25, false)), 0⟩, ⟨(some 31), (.len (.tmp 30)), (some (25, false)), 0⟩, ⟨(some 32), (.bin .neq (.tmp 28) (.tmp 31)), (some (25, false)), 0⟩, ⟨(some 33), (.pick (.tmp 25) (.val (.lit (.bool true))) (.tmp 32)), none, 0⟩])
 (.cond (.tmp 33) (.seq (.reg 0 [⟨(some 4), (.mv (.val (.sl true 0 []))), none, 0⟩, ⟨(some 5), (.mv (.val (.lit (.bool false)))), none, 0⟩])
 .ret) .skip))
 (.seq (.seq (.reg 0 [⟨(some 7), (.mv (.val (.lit (.int .i64 0)))), none, 0⟩])
 (.block 0 (.loop c6l0)))
 (.seq (.reg 0 [⟨(some 8), (.mv (.val (.sl true 0 []))), none, 0⟩])
 (.seq (.seq (.reg 0 [⟨(some 9), (.mv (.val (.lit (.int .i64 0)))), none, 0⟩])
 (.block 2 (.loop c6l1)))
 (.seq (.reg 0 [⟨(some 130), (.mv (.tmp 8)), none, 0⟩, ⟨(some 4), (.mv (.tmp 130)), none, 0⟩, ⟨(some 5), (.mv (.val (.lit (.bool true)))), none, 0⟩])
 .ret)))))))
theorem e6 : envOf Try.prog muts 6 = some (131, c6, [(Go.Abs.ARes.tmp 4), (Go.Abs.ARes.tmp 5)]) := by kernel_rfl
def c7 : ACode :=
 (.seq (.reg 1 [⟨(some 1), (.box 2 (.tmp 0)), none, 0⟩, ⟨(some 2), (.mv (.val (.lit (.int .i64 0)))), none, 1⟩])
 (.seq (.seq (.reg 0 [⟨(some 3), (.faddr 0 (.tmp 1)), none, 0⟩, ⟨(some 4), (.load 1 false (.tmp 3)), none, 0⟩, ⟨(some 5), (.call false (.val (.lit (.func (.func 10) #[] #[]))) [(.tmp 4), (.val (.lit (.int .i64 0))), (.val (.lit (.int .i64 200000)))]), none, 0⟩, ⟨(some 6), (.not (.tmp 5)), none, 0⟩, ⟨(some 7), (.mv (.tmp 6)), none, 0⟩, ⟨(some 8), (.faddr 1 (.tmp 1)), (some (7, false)), 0⟩, ⟨(some 9), (.load 1 false (.tmp 8)), (some (7, false)), 0⟩, ⟨(some 10), (.call false (.val (.lit (.func (.func 10) #[] #[]))) [(.tmp 9), (.val (.lit (.int .i64 0))), (.val (.lit (.int .i64 200000)))]), (some (7, false)), 0⟩, ⟨(some 11), (.not (.tmp 10)), (some (7, false)), 0⟩, ⟨(some 12), (.pick (.tmp 7) (.val (.lit (.bool true))) (.tmp 11)), none, 0⟩])
 (.cond (.tmp 12) (.seq (.reg 0 [⟨(some 2), (.mv (.val (.lit (.int .i64 2)))), none, 0⟩])
 .ret) .skip))
 (.seq (.reg 0 [⟨(some 2), (.mv (.val (.lit (.int .i64 0)))), none, 0⟩])
 .ret)))
theorem e7 : envOf Try.prog muts 7 = some (13, c7, [(Go.Abs.ARes.tmp 2)]) := by kernel_rfl
def c8l0 : ACode :=
 (.seq (.reg 0 [⟨(some 33), (.bin .lss (.tmp 32) (.tmp 31)), none, 0⟩])
 (.seq (.cond (.tmp 33) .skip (.exit 0))
 (.seq (.block 1 (.seq (.reg 0 [⟨(some 34), (.mv (.tmp 32)), none, 0⟩, ⟨(some 11), (.mv (.tmp 34)), none, 0⟩])
 (.reg 2 [⟨(some 35), (.mv (.tmp 10)), none, 0⟩, ⟨(some 36), (.mv (.tmp 9)), none, 0⟩, ⟨(some 37), (.mv (.tmp 11)), none, 0⟩, ⟨(some 38), (.call false (.val (.lit (.func (.func 24) #[] #[]))) [(.tmp 36), (.val (.lit (.int .i64 0))), (.tmp 37)]), none, 0⟩, ⟨(some 39), (.bslice 2 1 [(.lit (.int .i64 0)), (.lit (.int .i64 0))] [(0, (.tmp 38))]), none, 0⟩, ⟨(some 40), (.app 2 16 (.tmp 35) (.tmp 39)), none, 1⟩, ⟨(some 10), (.mv (.tmp 40)), none, 2⟩])))
 (.reg 0 [⟨(some 41), (.bin .add (.tmp 32) (.val (.lit (.int .i64 1)))), none, 0⟩, ⟨(some 32), (.mv (.tmp 41)), none, 0⟩]))))
def c8 : ACode :=
 (.seq (.reg 0 [⟨(some 4), (.mv (.val (.sl true 0 []))), none, 0⟩, ⟨(some 5), (.mv (.val (.sl true 0 []))), none, 0⟩, ⟨(some 6), (.mv (.val (.lit (.int .i64 0)))), none, 0⟩])
 (.seq (.seq (.reg 0 [⟨(some 12), (.mv (.tmp 0)), none, 0⟩, ⟨(some 13), (.mv (.tmp 1)), none, 0⟩, ⟨(some 14), (.call false (.val (.lit (.func (.func 20) #[] #[]))) [(.tmp 12), (.tmp 13)]), none, 0⟩, ⟨(some 7), (.mv (.tmp 14)), none, 0⟩])
 (.seq (.reg 0 [⟨(some 15), (.mv (.tmp 7)), none, 0⟩, ⟨(some 16), (.bin .neq (.tmp 15) (.val (.lit (.int .i64 0)))), none, 0⟩])
 (.cond (.tmp 16) (.seq (.reg 0 [⟨(some 17), (.mv (.tmp 7)), none, 0⟩, ⟨(some 4), (.mv (.val (.sl true 0 []))), none, 0⟩, ⟨(some 5), (.mv (.val (.sl true 0 []))), none, 0⟩, ⟨(some 6), (.mv (.tmp 17)), none, 0⟩])
 .ret) .skip)))
 (.seq (.seq (.reg 0 [⟨(some 18), (.mv (.tmp 0)), none, 0⟩, ⟨(some 19), (.mv (.tmp 1)), none, 0⟩, ⟨(some 20), (.call false (.val (.lit (.func (.func 21) #[] #[]))) [(.tmp 18), (.tmp 19)]), none, 0⟩, ⟨(some 8), (.mv (.tmp 20)), none, 0⟩])
 (.seq (.reg 0 [⟨(some 21), (.mv (.tmp 8)), none, 0⟩, ⟨(some 22), (.eqNil true (.tmp 21)), none, 0⟩])
 (.cond (.tmp 22) (.seq (.reg 0 [⟨(some 23), (.mv (.tmp 8)), none, 0⟩, ⟨(some 4), (.mv (.val (.sl true 0 []))), none, 0⟩, ⟨(some 5), (.mv (.tmp 23)), none, 0⟩, ⟨(some 6), (.mv (.val (.lit (.int .i64 13)))), none, 0⟩])
 .ret) .skip)))
 (.seq (.reg 0 [⟨(some 24), (.mv (.tmp 0)), none, 0⟩, ⟨(some 25), (.mv (.tmp 1)), none, 0⟩, ⟨(some 26), (.call false (.val (.lit (.func (.func 22) #[] #[]))) [(.tmp 24), (.tmp 25)]), none, 0⟩, ⟨(some 9), (.mv (.tmp 26)), none, 0⟩])
 (.seq (.seq (.reg 0 [⟨(some 27), (.mv (.tmp 9)), none, 0⟩, ⟨(some 28), (.call false (.val (.lit (.func (.func 23) #[] #[]))) [(.tmp 27)]), none, 0⟩, ⟨(some 29), (.not (.tmp 28)), none, 0⟩])
 (.cond (.tmp 29) (.seq (.reg 0 [⟨(some 4), (.mv (.val (.sl true 0 []))), none, 0⟩, ⟨(some 5), (.mv (.val (.sl true 0 []))), none, 0⟩, ⟨(some 6), (.mv (.val (.lit (.int .i64 25)))), none, 0⟩])
 .ret) .skip))
 (.seq (.reg 0 [⟨(some 10), (.mv (.val (.sl true 0 []))), none, 0⟩])
 (.seq (.seq (.reg 0 [⟨(some 30), (.mv (.tmp 9)), none, 0⟩, ⟨(some 31), (.len (.tmp 30)), none, 0⟩, ⟨(some 32), (.mv (.val (.lit (.int .i64 0)))), none, 0⟩])
 (.block 0 (.loop c8l0)))
 (.seq (.reg 0 [⟨(some 42), (.mv (.tmp 10)), none, 0⟩, ⟨(some 4), (.mv (.tmp 42)), none, 0⟩, ⟨(some 5), (.mv (.val (.sl true 0 []))), none, 0⟩, ⟨(some 6), (.mv (.val (.lit (.int .i64 0)))), none, 0⟩])
 .ret))))))))
theorem e8 : envOf Try.prog muts 8 = some (43, c8, [(Go.Abs.ARes.tmp 4), (Go.Abs.ARes.tmp 5), (Go.Abs.ARes.tmp 6)]) := by kernel_rfl
def c9l0 : ACode :=
 (.seq (.seq (.reg 0 [⟨(some 8), (.mv (.tmp 3)), none, 0⟩, ⟨(some 9), (.mv (.tmp 0)), none, 0⟩, ⟨(some 10), (.len (.tmp 9)), none, 0⟩, ⟨(some 11), (.bin .lss (.tmp 8) (.tmp 10)), none, 0⟩])
 (.cond (.tmp 11) .skip (.exit 0)))
 (.seq (.block 1 (.seq (.seq (.reg 0 [⟨(some 14), (.mv (.tmp 0)), none, 0⟩, ⟨(some 15), (.mv (.tmp 3)), none, 0⟩, ⟨(some 16), (.iaddrS 2 (.tmp 14) (.tmp 15)), none, 0⟩, ⟨(some 17), (.faddr 0 (.tmp 16)), none, 0⟩, ⟨(some 18), (.load 1 false (.tmp 17)), none, 0⟩, ⟨(some 19), (.call false (.val (.lit (.func (.func 25) #[] #[]))) [(.tmp 18)]), none, 0⟩, ⟨(some 20), (.not (.tmp 19)), none, 0⟩, ⟨(some 21), (.mv (.tmp 20)), none, 0⟩, ⟨(some 22), (.mv (.tmp 0)), (some (21, false)), 0⟩, ⟨(some 23), (.mv (.tmp 3)), (some (21, false)), 0⟩, ⟨(some 24), (.iaddrS 2 (.tmp 22) (.tmp 23)), (some (21, false)), 0⟩, ⟨(some 25), (.faddr 1 (.tmp 24)), (some (21, false)), 0⟩, ⟨(some 26), (.load 1 false (.tmp 25)), (some (21, false)), 0⟩, ⟨(some 27), (.call false (.val (.lit (.func (.func 25) #[] #[]))) [(.tmp 26)]), (some (21, false)), 0⟩, ⟨(some 28), (.not (.tmp 27)), (some (21, false)), 0⟩, ⟨(some 29), (.pick (.tmp 21) (.val (.lit (.bool true))) (.tmp 28)), none, 0⟩])
 (.cond (.tmp 29) (.seq (.reg 0 [⟨(some 2), (.mv (.val (.lit (.int .i64 2)))), none, 0⟩])
 .ret) .skip))
 (.seq (.dreg 0 [(0, ⟨(some 30), (.mv (.tmp 0)), none, 0⟩), (1, ⟨(some 31), (.mv (.tmp 3)), none, 0⟩), (2, ⟨(some 32), (.iaddrS 2 (.tmp 30) (.tmp 31)), none, 0⟩), (3, ⟨(some 33), (.faddr 0 (.tmp 32)), none, 0⟩), (4, ⟨(some 34), (.load 1 false (.tmp 33)), none, 0⟩), (5, ⟨(some 35), (.mv (.tmp 0)), none, 0⟩), (6, ⟨(some 36), (.mv (.tmp 3)), none, 0⟩), (7, ⟨(some 37), (.iaddrS 2 (.tmp 35) (.tmp 36)), none, 0⟩), (8, ⟨(some 38), (.faddr 1 (.tmp 37)), none, 0⟩), (9, ⟨(some 39), (.load 1 false (.tmp 38)), none, 0⟩), (10, ⟨(some 40), (.bin .gtr (.tmp 34) (.tmp 39)), none, 0⟩)] [[], [], [0, 1], [2, 0, 1], [3, 2, 0, 1], [], [], [5, 6], [7, 5, 6], [8, 7, 5, 6], [4, 9, 3, 2, 0, 1, 8, 7, 5, 6]])
 (.cond (.tmp 40) (.seq (.reg 0 [⟨(some 2), (.mv (.val (.lit (.int .i64 9)))), none, 0⟩])
 .ret) .skip))))
 (.reg 0 [⟨(some 12), (.mv (.tmp 3)), none, 0⟩, ⟨(some 13), (.bin .add (.tmp 12) (.val (.lit (.int .i64 1)))), none, 0⟩, ⟨(some 3), (.mv (.tmp 13)), none, 0⟩])))
def c9 : ACode :=
 (.seq (.reg 0 [⟨(some 2), (.mv (.val (.lit (.int .i64 0)))), none, 0⟩])
 (.seq (.seq (.reg 0 [⟨(some 4), (.mv (.tmp 0)), none, 0⟩, ⟨(some 5), (.len (.tmp 4)), none, 0⟩, ⟨(some 6), (.call false (.val (.lit (.func (.func 10) #[] #[]))) [(.tmp 5), (.val (.lit (.int .i64 1))), (.val (.lit (.int .i64 40)))]), none, 0⟩, ⟨(some 7), (.not (.tmp 6)), none, 0⟩])
 (.cond (.tmp 7) (.seq (.reg 0 [⟨(some 2), (.mv (.val (.lit (.int .i64 10)))), none, 0⟩])
 .ret) .skip))
 (.seq (.seq (.reg 0 [⟨(some 3), (.mv (.val (.lit (.int .i64 0)))), none, 0⟩])
 (.block 0 (.loop c9l0)))
 (.seq (.reg 0 [⟨(some 2), (.mv (.val (.lit (.int .i64 0)))), none, 0⟩])
 .ret))))
theorem e9 : envOf Try.prog muts 9 = some (41, c9, [(Go.Abs.ARes.tmp 2)]) := by kernel_rfl
def c10 : ACode :=
 (.seq (.reg 0 [⟨(some 6), (.mv (.val (.lit (.bool false)))), none, 0⟩])
 (.seq (.reg 0 [⟨(some 7), (.mv (.tmp 0)), none, 0⟩, ⟨(some 8), (.mv (.tmp 1)), none, 0⟩, ⟨(some 9), (.bin .geq (.tmp 7) (.tmp 8)), none, 0⟩, ⟨(some 10), (.mv (.tmp 9)), none, 0⟩, ⟨(some 11), (.mv (.tmp 0)), (some (10, true)), 0⟩, ⟨(some 12), (.mv (.tmp 2)), (some (10, true)), 0⟩, ⟨(some 13), (.bin .leq (.tmp 11) (.tmp 12)), (some (10, true)), 0⟩, ⟨(some 14), (.pick (.tmp 10) (.tmp 13) (.val (.lit (.bool false)))), none, 0⟩, ⟨(some 6), (.mv (.tmp 14)), none, 0⟩])
 .ret))
theorem e10 : envOf Try.prog muts 10 = some (15, c10, [(Go.Abs.ARes.tmp 6)]) := by kernel_rfl
def c11 : ACode :=
 (.seq (.reg 2 [⟨(some 3), (.box 2 (.tmp 1)), none, 0⟩, ⟨(some 4), (.mv (.val (.lit (.int .i64 0)))), none, 1⟩, ⟨(some 5), (.alloc [(.lit (.int .i64 0)), (.lit (.int .i64 0))]), none, 1⟩, ⟨(some 6), (.mv (.val (.lit (.int .i64 0)))), none, 2⟩])
 (.seq (.seq (.reg 0 [⟨(some 10), (.mv (.tmp 0)), none, 0⟩, ⟨(some 11), (.load 2 true (.tmp 3)), none, 0⟩, ⟨(some 12), (.call false (.val (.lit (.func (.func 26) #[] #[]))) [(.tmp 10), (.tmp 11)]), none, 0⟩, ⟨(some 7), (.mv (.tmp 12)), none, 0⟩])
 (.seq (.reg 0 [⟨(some 13), (.mv (.tmp 7)), none, 0⟩, ⟨(some 14), (.bin .neq (.tmp 13) (.val (.lit (.int .i64 0)))), none, 0⟩])
 (.cond (.tmp 14) (.seq (.reg 0 [⟨(some 15), (.build [(.lit (.int .i64 0)), (.lit (.int .i64 0))] []), none, 0⟩, ⟨(some 16), (.mv (.tmp 7)), none, 0⟩, ⟨(some 4), (.mv (.val (.lit (.int .i64 0)))), none, 0⟩, ⟨none, (.store 2 (.tmp 5) (.tmp 15)), none, 0⟩, ⟨(some 6), (.mv (.tmp 16)), none, 0⟩])
 .ret) .skip)))
 (.seq (.reg 1 [⟨(some 18), (.load 2 true (.tmp 3)), none, 0⟩, ⟨(some 19), (.build [(.lit (.int .i64 0)), (.lit (.int .i64 0))] [(0, (2, (.tmp 18)))]), none, 0⟩, ⟨(some 20), (.mv (.tmp 0)), none, 0⟩, ⟨(some 21), (.call true (.val (.lit (.func (.func 27) #[] #[]))) [(.tmp 19), (.tmp 20)]), none, 0⟩, ⟨(some 17), (.mv (.tmp 21)), none, 0⟩, ⟨(some 22), (.ext (.tmp 17) 0), none, 0⟩, ⟨(some 23), (.ext (.tmp 17) 1), none, 0⟩, ⟨(some 9), (.alloc [(.lit (.int .i64 0)), (.lit (.int .i64 0))]), none, 0⟩, ⟨(some 8), (.mv (.tmp 22)), none, 1⟩, ⟨none, (.store 2 (.tmp 9) (.tmp 23)), none, 1⟩])
 (.seq (.dreg 0 [(0, ⟨(some 24), (.mv (.tmp 8)), none, 0⟩), (1, ⟨(some 25), (.load 2 true (.tmp 9)), none, 0⟩), (2, ⟨(some 4), (.mv (.tmp 24)), none, 0⟩), (3, ⟨none, (.store 2 (.tmp 5) (.tmp 25)), none, 0⟩), (4, ⟨(some 6), (.mv (.val (.lit (.int .i64 0)))), none, 0⟩)] [[], [], [0], [1, 2, 0], [3, 0, 1, 2]])
 .ret))))
theorem e11 : envOf Try.prog muts 11 = some (26, c11, [(Go.Abs.ARes.tmp 4), (Go.Abs.ARes.cell 2 true 5), (Go.Abs.ARes.tmp 6)]) := by kernel_rfl
def c12r0 : ACode :=
 (.block 1 (.seq (.dreg 0 [(0, ⟨(some 27), (.mv (.tmp 8)), none, 0⟩), (1, ⟨(some 28), (.mv (.tmp 9)), none, 0⟩), (2, ⟨(some 29), (.bin .lss (.tmp 27) (.tmp 28)), none, 0⟩), (3, ⟨(some 30), (.mv (.tmp 29)), none, 0⟩), (4, ⟨(some 31), (.load 1 false (.tmp 2)), (some (30, true)), 0⟩), (5, ⟨(some 32), (.mv (.tmp 8)), (some (30, true)), 0⟩), (6, ⟨(some 33), (.iaddrS 1 (.tmp 31) (.tmp 32)), (some (30, true)), 0⟩), (7, ⟨(some 34), (.load 1 false (.tmp 33)), (some (30, true)), 0⟩), (8, ⟨(some 35), (.load 1 false (.tmp 2)), (some (30, true)), 0⟩), (9, ⟨(some 36), (.mv (.tmp 9)), (some (30, true)), 0⟩), (10, ⟨(some 37), (.iaddrS 1 (.tmp 35) (.tmp 36)), (some (30, true)), 0⟩), (11, ⟨(some 38), (.load 1 false (.tmp 37)), (some (30, true)), 0⟩), (12, ⟨(some 39), (.bin .sub (.tmp 34) (.tmp 38)), (some (30, true)), 0⟩), (13, ⟨(some 40), (.call false (.val (.lit (.func (.func 31) #[] #[]))) [(.tmp 39)]), (some (30, true)), 0⟩), (14, ⟨(some 41), (.load 2 true (.tmp 3)), (some (30, true)), 0⟩), (15, ⟨(some 42), (.build [(.lit (.int .i64 0)), (.lit (.int .i64 0))] [(0, (2, (.tmp 41)))]), (some (30, true)), 0⟩), (16, ⟨(some 43), (.mv (.tmp 8)), (some (30, true)), 0⟩), (17, ⟨(some 44), (.mv (.tmp 9)), (some (30, true)), 0⟩), (18, ⟨(some 45), (.call false (.val (.lit (.func (.func 32) #[] #[]))) [(.tmp 42), (.tmp 43), (.tmp 44)]), (some (30, true)), 0⟩), (19, ⟨(some 46), (.bin .gtr (.tmp 40) (.tmp 45)), (some (30, true)), 0⟩), (20, ⟨(some 47), (.pick (.tmp 30) (.tmp 46) (.val (.lit (.bool false)))), none, 0⟩)] [[], [], [0, 1], [2, 0, 1], [3, 2, 0, 1], [3, 2, 0, 1], [4, 5, 3, 2, 0, 1], [6, 3, 4, 5, 2, 0, 1], [3, 2, 0, 1], [3, 2, 0, 1], [8, 9, 3, 2, 0, 1], [10, 3, 8, 9, 2, 0, 1], [7, 11, 3, 6, 4, 5, 2, 0, 1, 10, 8, 9], [12, 3, 7, 11, 6, 4, 5, 2, 0, 1, 10, 8, 9], [3, 2, 0, 1], [14, 3, 2, 0, 1], [3, 2, 0, 1], [3, 2, 0, 1], [15, 16, 17, 13, 3, 14, 2, 0, 1, 12, 7, 11, 6, 4, 5, 10, 8, 9], [13, 18, 3, 12, 7, 11, 6, 4, 5, 2, 0, 1, 10, 8, 9, 15, 16, 17, 14], [3, 19, 2, 0, 1, 13, 18, 12, 7, 11, 6, 4, 5, 10, 8, 9, 15, 16, 17, 14]])
 (.cond (.tmp 47) (.seq (.reg 0 [⟨(some 48), (.mv (.tmp 8)), none, 0⟩, ⟨(some 49), (.mv (.tmp 9)), none, 0⟩, ⟨(some 50), (.build [(.lit (.int .i64 0)), (.lit (.int .i64 0))] [(0, (1, (.tmp 48))), (1, (1, (.tmp 49)))]), none, 0⟩, ⟨none, (.store 2 (.tmp 4) (.tmp 50)), none, 0⟩, ⟨none, (.store 1 (.tmp 5) (.val (.lit (.int .i64 26)))), none, 0⟩])
 .ret) .skip)))
def c12 : ACode :=
 (.seq (.reg 4 [⟨(some 2), (.box 1 (.tmp 0)), none, 0⟩, ⟨(some 3), (.box 2 (.tmp 1)), none, 1⟩, ⟨(some 4), (.alloc [(.lit (.int .i64 0)), (.lit (.int .i64 0))]), none, 2⟩, ⟨(some 5), (.alloc [(.lit (.int .i64 0))]), none, 3⟩])
 (.seq (.seq (.reg 0 [⟨(some 10), (.load 1 false (.tmp 2)), none, 0⟩, ⟨(some 11), (.call false (.val (.lit (.func (.func 28) #[] #[]))) [(.tmp 10)]), none, 0⟩, ⟨(some 6), (.mv (.tmp 11)), none, 0⟩])
 (.seq (.reg 0 [⟨(some 12), (.mv (.tmp 6)), none, 0⟩, ⟨(some 13), (.bin .neq (.tmp 12) (.val (.lit (.int .i64 0)))), none, 0⟩])
 (.cond (.tmp 13) (.seq (.reg 0 [⟨(some 14), (.build [(.lit (.int .i64 0)), (.lit (.int .i64 0))] []), none, 0⟩, ⟨(some 15), (.mv (.tmp 6)), none, 0⟩, ⟨none, (.store 2 (.tmp 4) (.tmp 14)), none, 0⟩, ⟨none, (.store 1 (.tmp 5) (.tmp 15)), none, 0⟩])
 .ret) .skip)))
 (.seq (.seq (.reg 0 [⟨(some 16), (.load 2 true (.tmp 3)), none, 0⟩, ⟨(some 17), (.call false (.val (.lit (.func (.func 29) #[] #[]))) [(.tmp 16)]), none, 0⟩, ⟨(some 7), (.mv (.tmp 17)), none, 0⟩])
 (.seq (.reg 0 [⟨(some 18), (.mv (.tmp 7)), none, 0⟩, ⟨(some 19), (.bin .neq (.tmp 18) (.val (.lit (.int .i64 0)))), none, 0⟩])
 (.cond (.tmp 19) (.seq (.reg 0 [⟨(some 20), (.build [(.lit (.int .i64 0)), (.lit (.int .i64 0))] []), none, 0⟩, ⟨(some 21), (.mv (.tmp 7)), none, 0⟩, ⟨none, (.store 2 (.tmp 4) (.tmp 20)), none, 0⟩, ⟨none, (.store 1 (.tmp 5) (.tmp 21)), none, 0⟩])
 .ret) .skip)))
 (.seq (.seq (.reg 0 [⟨(some 22), (.load 1 false (.tmp 2)), none, 0⟩, ⟨(some 23), (.len (.tmp 22)), none, 0⟩, ⟨(some 24), (.call false (.val (.lit (.func (.func 30) #[] #[]))) [(.tmp 23)]), none, 0⟩])
 (.block 0 (.range (.tmp 24) [25, 26] (.seq (.reg 0 [⟨(some 8), (.mv (.tmp 25)), none, 0⟩])
 (.reg 0 [⟨(some 9), (.mv (.tmp 26)), none, 0⟩])) c12r0)))
 (.seq (.reg 0 [⟨(some 51), (.build [(.lit (.int .i64 0)), (.lit (.int .i64 0))] []), none, 0⟩, ⟨none, (.store 2 (.tmp 4) (.tmp 51)), none, 0⟩, ⟨none, (.store 1 (.tmp 5) (.val (.lit (.int .i64 0)))), none, 0⟩])
 .ret)))))
theorem e12 : envOf Try.prog muts 12 = some (52, c12, [(Go.Abs.ARes.cell 2 true 4), (Go.Abs.ARes.cell 1 false 5)]) := by kernel_rfl
def c13 : ACode :=
 (.seq (.reg 0 [⟨(some 2), (.mv (.val (.sl true 0 []))), none, 0⟩])
 (.seq (.reg 2 [⟨(some 3), (.bslice 1 0 [(.lit (.int .i64 0))] []), none, 0⟩, ⟨(some 4), (.mv (.tmp 0)), none, 1⟩, ⟨(some 5), (.app 1 8 (.tmp 3) (.tmp 4)), none, 1⟩, ⟨(some 2), (.mv (.tmp 5)), none, 2⟩])
 .ret))
theorem e13 : envOf Try.prog muts 13 = some (6, c13, [(Go.Abs.ARes.tmp 2)]) := by kernel_rfl
def c14l0 : ACode :=
 (.seq (.reg 0 [⟨(some 30), (.bin .lss (.tmp 29) (.tmp 28)), none, 0⟩])
 (.seq (.cond (.tmp 30) .skip (.exit 1))
 (.seq (.block 2 (.seq (.reg 0 [⟨(some 31), (.mv (.tmp 29)), none, 0⟩, ⟨(some 9), (.mv (.tmp 31)), none, 0⟩])
 (.seq (.reg 0 [⟨(some 32), (.load 2 true (.tmp 3)), none, 0⟩, ⟨(some 33), (.build [(.lit (.int .i64 0)), (.lit (.int .i64 0))] [(0, (2, (.tmp 32)))]), none, 0⟩, ⟨(some 34), (.mv (.tmp 0)), none, 0⟩, ⟨(some 35), (.mv (.tmp 9)), none, 0⟩, ⟨(some 36), (.call false (.val (.lit (.func (.func 35) #[] #[]))) [(.tmp 33), (.tmp 34), (.tmp 35)]), none, 0⟩])
 (.cond (.tmp 36) (.seq (.reg 0 [⟨(some 37), (.mv (.tmp 9)), none, 0⟩, ⟨(some 4), (.mv (.tmp 37)), none, 0⟩, ⟨(some 5), (.mv (.val (.lit (.int .i64 0)))), none, 0⟩])
 .ret) .skip))))
 (.reg 0 [⟨(some 38), (.bin .add (.tmp 29) (.val (.lit (.int .i64 1)))), none, 0⟩, ⟨(some 29), (.mv (.tmp 38)), none, 0⟩]))))
def c14 : ACode :=
 (.seq (.reg 1 [⟨(some 3), (.box 2 (.tmp 1)), none, 0⟩, ⟨(some 4), (.mv (.val (.lit (.int .i64 0)))), none, 1⟩, ⟨(some 5), (.mv (.val (.lit (.int .i64 0)))), none, 1⟩])
 (.seq (.reg 1 [⟨(some 11), (.mv (.tmp 0)), none, 0⟩, ⟨(some 12), (.load 2 true (.tmp 3)), none, 0⟩, ⟨(some 13), (.call false (.val (.lit (.func (.func 11) #[] #[]))) [(.tmp 11), (.tmp 12)]), none, 0⟩, ⟨(some 10), (.mv (.tmp 13)), none, 0⟩, ⟨(some 14), (.ext (.tmp 10) 0), none, 0⟩, ⟨(some 15), (.ext (.tmp 10) 1), none, 0⟩, ⟨(some 16), (.ext (.tmp 10) 2), none, 0⟩, ⟨(some 7), (.alloc [(.lit (.int .i64 0)), (.lit (.int .i64 0))]), none, 0⟩, ⟨(some 6), (.mv (.tmp 14)), none, 1⟩, ⟨none, (.store 2 (.tmp 7) (.tmp 15)), none, 1⟩, ⟨(some 8), (.mv (.tmp 16)), none, 1⟩])
 (.seq (.block 0 (.seq (.reg 0 [⟨(some 18), (.mv (.tmp 8)), none, 0⟩, ⟨(some 19), (.bin .neq (.tmp 18) (.val (.lit (.int .i64 0)))), none, 0⟩, ⟨(some 17), (.mv (.tmp 19)), none, 0⟩])
 (.cond (.tmp 17) (.seq (.reg 0 [⟨(some 20), (.mv (.tmp 8)), none, 0⟩, ⟨(some 4), (.mv (.val (.lit (.int .i64 0)))), none, 0⟩, ⟨(some 5), (.mv (.tmp 20)), none, 0⟩])
 .ret) (.seq (.reg 0 [⟨(some 22), (.mv (.tmp 6)), none, 0⟩, ⟨(some 23), (.bin .neq (.tmp 22) (.val (.lit (.int .i64 0)))), none, 0⟩, ⟨(some 21), (.mv (.tmp 23)), none, 0⟩])
 (.cond (.tmp 21) (.seq (.reg 0 [⟨(some 4), (.mv (.val (.lit (.int .i64 0)))), none, 0⟩, ⟨(some 5), (.mv (.val (.lit (.int .i64 24)))), none, 0⟩])
 .ret) (.seq (.reg 0 [⟨(some 25), (.mv (.tmp 0)), none, 0⟩, ⟨(some 26), (.call true (.val (.lit (.func (.func 33) #[] #[]))) [(.tmp 25), (.val (.lit (.func (.func 34) #[] #[])))]), none, 0⟩, ⟨(some 24), (.mv (.tmp 26)), none, 0⟩])
 (.cond (.tmp 24) (.seq (.reg 0 [⟨(some 4), (.mv (.val (.lit (.int .i64 0)))), none, 0⟩, ⟨(some 5), (.mv (.val (.lit (.int .i64 8)))), none, 0⟩])
 .ret) .skip)))))))
 (.seq (.seq (.reg 0 [⟨(some 27), (.mv (.tmp 0)), none, 0⟩, ⟨(some 28), (.len (.tmp 27)), none, 0⟩, ⟨(some 29), (.mv (.val (.lit (.int .i64 0)))), none, 0⟩])
 (.block 1 (.loop c14l0)))
 (.seq (.reg 0 [⟨(some 4), (.mv (.val (.lit (.int .i64 0)))), none, 0⟩, ⟨(some 5), (.mv (.val (.lit (.int .i64 12)))), none, 0⟩])
 .ret)))))
theorem e14 : envOf Try.prog muts 14 = some (39, c14, [(Go.Abs.ARes.tmp 4), (Go.Abs.ARes.tmp 5)]) := by kernel_rfl
def c15 : ACode :=
 (.seq (.reg 0 [⟨(some 2), (.mv (.val (.sl true 0 []))), none, 0⟩])
 (.seq (.reg 2 [⟨(some 3), (.bslice 2 0 [(.lit (.int .i64 0)), (.lit (.int .i64 0))] []), none, 0⟩, ⟨(some 4), (.mv (.tmp 0)), none, 1⟩, ⟨(some 5), (.app 2 16 (.tmp 3) (.tmp 4)), none, 1⟩, ⟨(some 2), (.mv (.tmp 5)), none, 2⟩])
 .ret))
theorem e15 : envOf Try.prog muts 15 = some (6, c15, [(Go.Abs.ARes.tmp 2)]) := by kernel_rfl
def c20l0 : ACode :=
 (.seq (.reg 0 [⟨(some 18), (.bin .lss (.tmp 17) (.tmp 16)), none, 0⟩])
 (.seq (.cond (.tmp 18) .skip (.exit 1))
 (.seq (.block 2 (.seq (.reg 1 [⟨(some 19), (.iaddrS 4 (.tmp 15) (.tmp 17)), none, 0⟩, ⟨(some 20), (.load 4 true (.tmp 19)), none, 0⟩, ⟨(some 6), (.alloc [(.lit (.int .i64 0)), (.lit (.int .i64 0)), (.lit (.int .i64 0)), (.lit (.int .i64 0))]), none, 0⟩, ⟨none, (.store 4 (.tmp 6) (.tmp 20)), none, 1⟩])
 (.block 3 (.seq (.reg 0 [⟨(some 22), (.faddr 0 (.tmp 6)), none, 0⟩, ⟨(some 23), (.load 1 false (.tmp 22)), none, 0⟩, ⟨(some 24), (.mv (.tmp 0)), none, 0⟩, ⟨(some 25), (.bin .sub (.tmp 24) (.val (.lit (.int .i64 1)))), none, 0⟩, ⟨(some 26), (.call false (.val (.lit (.func (.func 49) #[] #[]))) [(.tmp 23), (.val (.lit (.int .i64 0))), (.tmp 25)]), none, 0⟩, ⟨(some 27), (.not (.tmp 26)), none, 0⟩, ⟨(some 28), (.mv (.tmp 27)), none, 0⟩, ⟨(some 29), (.faddr 1 (.tmp 6)), (some (28, false)), 0⟩, ⟨(some 30), (.load 1 false (.tmp 29)), (some (28, false)), 0⟩, ⟨(some 31), (.mv (.tmp 0)), (some (28, false)), 0⟩, ⟨(some 32), (.bin .sub (.tmp 31) (.val (.lit (.int .i64 1)))), (some (28, false)), 0⟩, ⟨(some 33), (.call false (.val (.lit (.func (.func 49) #[] #[]))) [(.tmp 30), (.val (.lit (.int .i64 0))), (.tmp 32)]), (some (28, false)), 0⟩, ⟨(some 34), (.not (.tmp 33)), (some (28, false)), 0⟩, ⟨(some 35), (.pick (.tmp 28) (.val (.lit (.bool true))) (.tmp 34)), none, 0⟩, ⟨(some 21), (.mv (.tmp 35)), none, 0⟩])
 (.cond (.tmp 21) (.seq (.reg 0 [⟨(some 4), (.mv (.val (.lit (.int .i64 6)))), none, 0⟩])
 .ret) (.seq (.reg 0 [⟨(some 37), (.faddr 0 (.tmp 6)), none, 0⟩, ⟨(some 38), (.load 1 false (.tmp 37)), none, 0⟩, ⟨(some 39), (.faddr 1 (.tmp 6)), none, 0⟩, ⟨(some 40), (.load 1 false (.tmp 39)), none, 0⟩, ⟨(some 41), (.bin .eql (.tmp 38) (.tmp 40)), none, 0⟩, ⟨(some 36), (.mv (.tmp 41)), none, 0⟩])
 (.cond (.tmp 36) (.seq (.reg 0 [⟨(some 4), (.mv (.val (.lit (.int .i64 3)))), none, 0⟩])
 .ret) (.seq (.reg 0 [⟨(some 43), (.faddr 2 (.tmp 6)), none, 0⟩, ⟨(some 44), (.faddr 0 (.tmp 43)), none, 0⟩, ⟨(some 45), (.load 1 false (.tmp 44)), none, 0⟩, ⟨(some 46), (.call false (.val (.lit (.func (.func 49) #[] #[]))) [(.tmp 45), (.val (.lit (.int .i64 (-1000000)))), (.val (.lit (.int .i64 1000000)))]), none, 0⟩, ⟨(some 47), (.not (.tmp 46)), none, 0⟩, ⟨(some 48), (.mv (.tmp 47)), none, 0⟩, ⟨(some 49), (.faddr 2 (.tmp 6)), (some (48, false)), 0⟩, ⟨(some 50), (.faddr 1 (.tmp 49)), (some (48, false)), 0⟩, ⟨(some 51), (.load 1 false (.tmp 50)), (some (48, false)), 0⟩, ⟨(some 52), (.call false (.val (.lit (.func (.func 49) #[] #[]))) [(.tmp 51), (.val (.lit (.int .i64 (-1000000)))), (.val (.lit (.int .i64 1000000)))]), (some (48, false)), 0⟩, ⟨(some 53), (.not (.tmp 52)), (some (48, false)), 0⟩, ⟨(some 54), (.pick (.tmp 48) (.val (.lit (.bool true))) (.tmp 53)), none, 0⟩, ⟨(some 42), (.mv (.tmp 54)), none, 0⟩])
 (.cond (.tmp 42) (.seq (.reg 0 [⟨(some 4), (.mv (.val (.lit (.int .i64 2)))), none, 0⟩])
 .ret) (.seq (.reg 0 [⟨(some 56), (.faddr 2 (.tmp 6)), none, 0⟩, ⟨(some 57), (.faddr 0 (.tmp 56)), none, 0⟩, ⟨(some 58), (.load 1 false (.tmp 57)), none, 0⟩, ⟨(some 59), (.faddr 2 (.tmp 6)), none, 0⟩, ⟨(some 60), (.faddr 1 (.tmp 59)), none, 0⟩, ⟨(some 61), (.load 1 false (.tmp 60)), none, 0⟩, ⟨(some 62), (.bin .gtr (.tmp 58) (.tmp 61)), none, 0⟩, ⟨(some 55), (.mv (.tmp 62)), none, 0⟩])
 (.cond (.tmp 55) (.seq (.reg 0 [⟨(some 4), (.mv (.val (.lit (.int .i64 9)))), none, 0⟩])
 .ret) .skip)))))))))))
 (.reg 0 [⟨(some 63), (.bin .add (.tmp 17) (.val (.lit (.int .i64 1)))), none, 0⟩, ⟨(some 17), (.mv (.tmp 63)), none, 0⟩]))))
def c20 : ACode :=
 (.seq (.reg 0 [⟨(some 4), (.mv (.val (.lit (.int .i64 0)))), none, 0⟩])
 (.seq (.block 0 (.seq (.reg 0 [⟨(some 8), (.mv (.tmp 0)), none, 0⟩, ⟨(some 9), (.call false (.val (.lit (.func (.func 49) #[] #[]))) [(.tmp 8), (.val (.lit (.int .i64 1))), (.val (.lit (.int .i64 40)))]), none, 0⟩, ⟨(some 10), (.not (.tmp 9)), none, 0⟩, ⟨(some 7), (.mv (.tmp 10)), none, 0⟩])
 (.cond (.tmp 7) (.seq (.reg 0 [⟨(some 4), (.mv (.val (.lit (.int .i64 2)))), none, 0⟩])
 .ret) (.seq (.reg 0 [⟨(some 12), (.mv (.tmp 1)), none, 0⟩, ⟨(some 13), (.len (.tmp 12)), none, 0⟩, ⟨(some 14), (.bin .gtr (.tmp 13) (.val (.lit (.int .i64 100)))), none, 0⟩, ⟨(some 11), (.mv (.tmp 14)), none, 0⟩])
 (.cond (.tmp 11) (.seq (.reg 0 [⟨(some 4), (.mv (.val (.lit (.int .i64 8)))), none, 0⟩])
 .ret) .skip)))))
 (.seq (.seq (.reg 0 [⟨(some 15), (.mv (.tmp 1)), none, 0⟩, ⟨(some 16), (.len (.tmp 15)), none, 0⟩, ⟨(some 17), (.mv (.val (.lit (.int .i64 0)))), none, 0⟩])
 (.block 1 (.loop c20l0)))
 (.seq (.reg 0 [⟨(some 4), (.mv (.val (.lit (.int .i64 0)))), none, 0⟩])
 .ret))))
theorem e20 : envOf Try.prog muts 20 = some (64, c20, [(Go.Abs.ARes.tmp 4)]) := by kernel_rfl
def c21l0 : ACode :=
 (.seq (.reg 0 [⟨(some 27), (.bin .lss (.tmp 26) (.tmp 25)), none, 0⟩])
 (.seq (.cond (.tmp 27) .skip (.exit 2))
 (.seq (.block 3 (.seq (.reg 1 [⟨(some 28), (.iaddrS 4 (.tmp 24) (.tmp 26)), none, 0⟩, ⟨(some 29), (.load 4 true (.tmp 28)), none, 0⟩, ⟨(some 10), (.alloc [(.lit (.int .i64 0)), (.lit (.int .i64 0)), (.lit (.int .i64 0)), (.lit (.int .i64 0))]), none, 0⟩, ⟨none, (.store 4 (.tmp 10) (.tmp 29)), none, 1⟩])
 (.seq (.dreg 0 [(0, ⟨(some 30), (.mv (.tmp 6)), none, 0⟩), (1, ⟨(some 31), (.faddr 0 (.tmp 10)), none, 0⟩), (2, ⟨(some 32), (.load 1 false (.tmp 31)), none, 0⟩), (3, ⟨(some 33), (.iaddrS 1 (.tmp 30) (.tmp 32)), none, 0⟩), (4, ⟨(some 34), (.load 1 false (.tmp 33)), none, 0⟩), (5, ⟨(some 35), (.faddr 2 (.tmp 10)), none, 0⟩), (6, ⟨(some 36), (.load 1 false (.tmp 35)), none, 0⟩), (7, ⟨(some 37), (.bin .add (.tmp 34) (.tmp 36)), none, 0⟩), (8, ⟨(some 11), (.mv (.tmp 37)), none, 0⟩)] [[], [], [1], [0, 2, 1], [3, 0, 2, 1], [], [5], [4, 6, 3, 0, 2, 1, 5], [7, 0, 1, 2, 3, 4, 5, 6]])
 (.seq (.reg 0 [⟨(some 38), (.mv (.tmp 11)), none, 0⟩, ⟨(some 39), (.mv (.tmp 6)), none, 0⟩, ⟨(some 40), (.faddr 1 (.tmp 10)), none, 0⟩, ⟨(some 41), (.load 1 false (.tmp 40)), none, 0⟩, ⟨(some 42), (.iaddrS 1 (.tmp 39) (.tmp 41)), none, 0⟩, ⟨(some 43), (.load 1 false (.tmp 42)), none, 0⟩, ⟨(some 44), (.bin .lss (.tmp 38) (.tmp 43)), none, 0⟩])
 (.cond (.tmp 44) (.dreg 0 [(0, ⟨(some 45), (.mv (.tmp 6)), none, 0⟩), (1, ⟨(some 46), (.faddr 1 (.tmp 10)), none, 0⟩), (2, ⟨(some 47), (.load 1 false (.tmp 46)), none, 0⟩), (3, ⟨(some 48), (.mv (.tmp 7)), none, 0⟩), (4, ⟨(some 49), (.faddr 1 (.tmp 10)), none, 0⟩), (5, ⟨(some 50), (.load 1 false (.tmp 49)), none, 0⟩), (6, ⟨(some 51), (.mv (.tmp 11)), none, 0⟩), (7, ⟨(some 52), (.load 4 true (.tmp 10)), none, 0⟩), (8, ⟨(some 53), (.faddr 1 (.tmp 10)), none, 0⟩), (9, ⟨(some 54), (.load 1 false (.tmp 53)), none, 0⟩), (10, ⟨(some 55), (.iaddrS 1 (.tmp 45) (.tmp 47)), none, 0⟩), (11, ⟨none, (.store 1 (.tmp 55) (.tmp 51)), none, 0⟩), (12, ⟨(some 56), (.iaddrS 4 (.tmp 48) (.tmp 50)), none, 0⟩), (13, ⟨none, (.store 4 (.tmp 56) (.tmp 52)), none, 0⟩), (14, ⟨(some 8), (.mv (.tmp 54)), none, 0⟩)] [[], [], [1], [], [], [4], [], [], [], [8], [0, 2, 1, 6], [10, 6, 0, 1, 2], [3, 5, 0, 1, 2, 4, 6, 7, 10, 11], [12, 7, 11, 0, 1, 2, 3, 4, 5, 6, 10], [9, 13, 0, 1, 2, 3, 4, 5, 6, 7, 8, 10, 11, 12]]) .skip)))))
 (.reg 0 [⟨(some 57), (.bin .add (.tmp 26) (.val (.lit (.int .i64 1)))), none, 0⟩, ⟨(some 26), (.mv (.tmp 57)), none, 0⟩]))))
def c21l1 : ACode :=
 (.seq (.reg 0 [⟨(some 23), (.bin .lss (.tmp 22) (.tmp 21)), none, 0⟩])
 (.seq (.cond (.tmp 23) .skip (.exit 0))
 (.seq (.block 1 (.seq (.reg 0 [⟨(some 8), (.mv (.val (.lit (.int .i64 (-1))))), none, 0⟩])
 (.seq (.seq (.reg 0 [⟨(some 24), (.mv (.tmp 5)), none, 0⟩, ⟨(some 25), (.len (.tmp 24)), none, 0⟩, ⟨(some 26), (.mv (.val (.lit (.int .i64 0)))), none, 0⟩])
 (.block 2 (.loop c21l0)))
 (.seq (.reg 0 [⟨(some 58), (.mv (.tmp 8)), none, 0⟩, ⟨(some 59), (.bin .lss (.tmp 58) (.val (.lit (.int .i64 0)))), none, 0⟩])
 (.cond (.tmp 59) (.seq (.reg 0 [⟨(some 4), (.mv (.val (.sl true 0 []))), none, 0⟩])
 .ret) .skip)))))
 (.reg 0 [⟨(some 60), (.bin .add (.tmp 22) (.val (.lit (.int .i64 1)))), none, 0⟩, ⟨(some 22), (.mv (.tmp 60)), none, 0⟩]))))
def c21l2 : ACode :=
 (.seq (.reg 0 [⟨(some 63), (.bin .lss (.tmp 62) (.tmp 61)), none, 0⟩])
 (.seq (.cond (.tmp 63) .skip (.exit 4))
 (.seq (.block 5 (.reg 0 [⟨(some 64), (.mv (.tmp 7)), none, 0⟩, ⟨(some 65), (.mv (.tmp 8)), none, 0⟩, ⟨(some 66), (.iaddrS 4 (.tmp 64) (.tmp 65)), none, 0⟩, ⟨(some 67), (.faddr 0 (.tmp 66)), none, 0⟩, ⟨(some 68), (.load 1 false (.tmp 67)), none, 0⟩, ⟨(some 8), (.mv (.tmp 68)), none, 0⟩]))
 (.reg 0 [⟨(some 69), (.bin .add (.tmp 62) (.val (.lit (.int .i64 1)))), none, 0⟩, ⟨(some 62), (.mv (.tmp 69)), none, 0⟩]))))
def c21l3 : ACode :=
 (.seq (.seq (.reg 0 [⟨(some 71), (.mv (.tmp 12)), none, 0⟩, ⟨(some 72), (.len (.tmp 71)), none, 0⟩, ⟨(some 73), (.bin .eql (.tmp 72) (.val (.lit (.int .i64 0)))), none, 0⟩, ⟨(some 74), (.mv (.tmp 73)), none, 0⟩, ⟨(some 75), (.mv (.tmp 13)), (some (74, false)), 0⟩, ⟨(some 76), (.mv (.tmp 8)), (some (74, false)), 0⟩, ⟨(some 77), (.bin .neq (.tmp 75) (.tmp 76)), (some (74, false)), 0⟩, ⟨(some 78), (.pick (.tmp 74) (.val (.lit (.bool true))) (.tmp 77)), none, 0⟩])
 (.cond (.tmp 78) .skip (.exit 6)))
 (.seq (.block 7 (.reg 2 [⟨(some 84), (.mv (.tmp 12)), none, 0⟩, ⟨(some 85), (.mv (.tmp 7)), none, 0⟩, ⟨(some 86), (.mv (.tmp 13)), none, 0⟩, ⟨(some 87), (.iaddrS 4 (.tmp 85) (.tmp 86)), none, 0⟩, ⟨(some 88), (.faddr 3 (.tmp 87)), none, 0⟩, ⟨(some 89), (.load 1 false (.tmp 88)), none, 0⟩, ⟨(some 90), (.bslice 1 1 [(.lit (.int .i64 0))] [(0, (.tmp 89))]), none, 0⟩, ⟨(some 91), (.app 1 8 (.tmp 84) (.tmp 90)), none, 1⟩, ⟨(some 12), (.mv (.tmp 91)), none, 2⟩]))
 (.reg 0 [⟨(some 79), (.mv (.tmp 7)), none, 0⟩, ⟨(some 80), (.mv (.tmp 13)), none, 0⟩, ⟨(some 81), (.iaddrS 4 (.tmp 79) (.tmp 80)), none, 0⟩, ⟨(some 82), (.faddr 0 (.tmp 81)), none, 0⟩, ⟨(some 83), (.load 1 false (.tmp 82)), none, 0⟩, ⟨(some 13), (.mv (.tmp 83)), none, 0⟩])))
def c21 : ACode :=
 (.seq (.reg 0 [⟨(some 4), (.mv (.val (.sl true 0 []))), none, 0⟩])
 (.seq (.reg 0 [⟨(some 14), (.mv (.tmp 1)), none, 0⟩, ⟨(some 15), (.call false (.val (.lit (.func (.func 50) #[] #[]))) [(.tmp 14)]), none, 0⟩, ⟨(some 5), (.mv (.tmp 15)), none, 0⟩])
 (.seq (.dreg 2 [(0, ⟨(some 16), (.mv (.tmp 0)), none, 0⟩), (1, ⟨(some 17), (.mks 1 8 [(.lit (.int .i64 0))] (.tmp 16) (.tmp 16)), none, 0⟩), (2, ⟨(some 18), (.mv (.tmp 0)), none, 1⟩), (3, ⟨(some 19), (.mks 4 32 [(.lit (.int .i64 0)), (.lit (.int .i64 0)), (.lit (.int .i64 0)), (.lit (.int .i64 0))] (.tmp 18) (.tmp 18)), none, 1⟩), (4, ⟨(some 6), (.mv (.tmp 17)), none, 2⟩), (5, ⟨(some 7), (.mv (.tmp 19)), none, 2⟩)] [[], [0], [], [2], [1, 0], [3, 4, 0, 1, 2]])
 (.seq (.reg 0 [⟨(some 8), (.mv (.val (.lit (.int .i64 (-1))))), none, 0⟩])
 (.seq (.seq (.reg 0 [⟨(some 20), (.mv (.tmp 0)), none, 0⟩, ⟨(some 21), (.bin .add (.tmp 20) (.val (.lit (.int .i64 1)))), none, 0⟩, ⟨(some 22), (.mv (.val (.lit (.int .i64 0)))), none, 0⟩])
 (.block 0 (.loop c21l1)))
 (.seq (.seq (.reg 0 [⟨(some 61), (.mv (.tmp 0)), none, 0⟩, ⟨(some 62), (.mv (.val (.lit (.int .i64 0)))), none, 0⟩])
 (.block 4 (.loop c21l2)))
 (.seq (.reg 0 [⟨(some 12), (.mv (.val (.sl true 0 []))), none, 0⟩])
 (.seq (.seq (.reg 0 [⟨(some 70), (.mv (.tmp 8)), none, 0⟩, ⟨(some 13), (.mv (.tmp 70)), none, 0⟩])
 (.block 6 (.loop c21l3)))
 (.seq (.reg 0 [⟨(some 92), (.mv (.tmp 12)), none, 0⟩, ⟨(some 93), (.call true (.val (.lit (.func (.func 51) #[] #[]))) [(.tmp 92)]), none, 0⟩])
 (.seq (.reg 0 [⟨(some 94), (.mv (.tmp 12)), none, 0⟩, ⟨(some 4), (.mv (.tmp 94)), none, 0⟩])
 .ret))))))))))
theorem e21 : envOf Try.prog muts 21 = some (95, c21, [(Go.Abs.ARes.tmp 4)]) := by kernel_rfl
def c22l0 : ACode :=
 (.seq (.reg 0 [⟨(some 17), (.bin .lss (.tmp 16) (.tmp 15)), none, 0⟩])
 (.seq (.cond (.tmp 17) .skip (.exit 0))
 (.seq (.block 1 (.seq (.reg 0 [⟨(some 18), (.mv (.tmp 16)), none, 0⟩, ⟨(some 6), (.mv (.tmp 18)), none, 0⟩])
 (.seq (.reg 1 [⟨(some 19), (.mv (.tmp 5)), none, 0⟩, ⟨(some 20), (.mv (.tmp 6)), none, 0⟩, ⟨(some 21), (.bslice 1 1 [(.lit (.int .i64 0))] [(0, (.val (.lit (.int .i64 1099511627776))))]), none, 0⟩, ⟨(some 22), (.mv (.tmp 0)), none, 1⟩, ⟨(some 23), (.call false (.val (.lit (.func (.func 52) #[] #[]))) [(.tmp 21), (.tmp 22)]), none, 1⟩, ⟨(some 24), (.iaddrS 1 (.tmp 19) (.tmp 20)), none, 1⟩, ⟨none, (.store 1 (.tmp 24) (.tmp 23)), none, 1⟩])
 (.reg 0 [⟨(some 25), (.mv (.tmp 5)), none, 0⟩, ⟨(some 26), (.mv (.tmp 6)), none, 0⟩, ⟨(some 27), (.iaddrS 1 (.tmp 25) (.tmp 26)), none, 0⟩, ⟨(some 28), (.load 1 false (.tmp 27)), none, 0⟩, ⟨(some 29), (.mv (.tmp 6)), none, 0⟩, ⟨(some 30), (.iaddrS 1 (.tmp 28) (.tmp 29)), none, 0⟩, ⟨none, (.store 1 (.tmp 30) (.val (.lit (.int .i64 0)))), none, 0⟩]))))
 (.reg 0 [⟨(some 31), (.bin .add (.tmp 16) (.val (.lit (.int .i64 1)))), none, 0⟩, ⟨(some 16), (.mv (.tmp 31)), none, 0⟩]))))
def c22l1 : ACode :=
 (.seq (.reg 0 [⟨(some 36), (.bin .lss (.tmp 35) (.tmp 34)), none, 0⟩])
 (.seq (.cond (.tmp 36) .skip (.exit 2))
 (.seq (.block 3 (.seq (.reg 1 [⟨(some 37), (.iaddrS 4 (.tmp 33) (.tmp 35)), none, 0⟩, ⟨(some 38), (.load 4 true (.tmp 37)), none, 0⟩, ⟨(some 8), (.alloc [(.lit (.int .i64 0)), (.lit (.int .i64 0)), (.lit (.int .i64 0)), (.lit (.int .i64 0))]), none, 0⟩, ⟨none, (.store 4 (.tmp 8) (.tmp 38)), none, 1⟩])
 (.dreg 0 [(0, ⟨(some 39), (.mv (.tmp 5)), none, 0⟩), (1, ⟨(some 40), (.faddr 0 (.tmp 8)), none, 0⟩), (2, ⟨(some 41), (.load 1 false (.tmp 40)), none, 0⟩), (3, ⟨(some 42), (.iaddrS 1 (.tmp 39) (.tmp 41)), none, 0⟩), (4, ⟨(some 43), (.load 1 false (.tmp 42)), none, 0⟩), (5, ⟨(some 44), (.faddr 1 (.tmp 8)), none, 0⟩), (6, ⟨(some 45), (.load 1 false (.tmp 44)), none, 0⟩), (7, ⟨(some 46), (.mv (.tmp 5)), none, 0⟩), (8, ⟨(some 47), (.faddr 0 (.tmp 8)), none, 0⟩), (9, ⟨(some 48), (.load 1 false (.tmp 47)), none, 0⟩), (10, ⟨(some 49), (.iaddrS 1 (.tmp 46) (.tmp 48)), none, 0⟩), (11, ⟨(some 50), (.load 1 false (.tmp 49)), none, 0⟩), (12, ⟨(some 51), (.faddr 1 (.tmp 8)), none, 0⟩), (13, ⟨(some 52), (.load 1 false (.tmp 51)), none, 0⟩), (14, ⟨(some 53), (.iaddrS 1 (.tmp 50) (.tmp 52)), none, 0⟩), (15, ⟨(some 54), (.load 1 false (.tmp 53)), none, 0⟩), (16, ⟨(some 55), (.faddr 2 (.tmp 8)), none, 0⟩), (17, ⟨(some 56), (.load 1 false (.tmp 55)), none, 0⟩), (18, ⟨(some 57), (.minmax false [(.tmp 54), (.tmp 56)]), none, 0⟩), (19, ⟨(some 58), (.iaddrS 1 (.tmp 43) (.tmp 45)), none, 0⟩), (20, ⟨none, (.store 1 (.tmp 58) (.tmp 57)), none, 0⟩)] [[], [], [1], [0, 2, 1], [3, 0, 2, 1], [], [5], [], [], [8], [7, 9, 8], [10, 7, 9, 8], [], [12], [11, 13, 10, 7, 9, 8, 12], [14, 11, 13, 10, 7, 9, 8, 12], [], [16], [15, 17, 14, 11, 13, 10, 7, 9, 8, 12, 16], [4, 6, 0, 1, 2, 3, 5, 7, 8, 9, 10, 11, 12, 13, 14, 15, 16, 17, 18], [19, 18, 0, 1, 2, 3, 4, 5, 6, 7, 8, 9, 10, 11, 12, 13, 14, 15, 16, 17]])))
 (.reg 0 [⟨(some 59), (.bin .add (.tmp 35) (.val (.lit (.int .i64 1)))), none, 0⟩, ⟨(some 35), (.mv (.tmp 59)), none, 0⟩]))))
def c22l2 : ACode :=
 (.seq (.reg 0 [⟨(some 73), (.bin .lss (.tmp 72) (.tmp 71)), none, 0⟩])
 (.seq (.cond (.tmp 73) .skip (.exit 8))
 (.seq (.block 9 (.seq (.reg 0 [⟨(some 74), (.mv (.tmp 72)), none, 0⟩, ⟨(some 11), (.mv (.tmp 74)), none, 0⟩])
 (.seq (.reg 0 [⟨(some 75), (.mv (.tmp 5)), none, 0⟩, ⟨(some 76), (.mv (.tmp 10)), none, 0⟩, ⟨(some 77), (.iaddrS 1 (.tmp 75) (.tmp 76)), none, 0⟩, ⟨(some 78), (.load 1 false (.tmp 77)), none, 0⟩, ⟨(some 79), (.mv (.tmp 9)), none, 0⟩, ⟨(some 80), (.iaddrS 1 (.tmp 78) (.tmp 79)), none, 0⟩, ⟨(some 81), (.load 1 false (.tmp 80)), none, 0⟩, ⟨(some 82), (.bin .lss (.tmp 81) (.val (.lit (.int .i64 1099511627776)))), none, 0⟩, ⟨(some 83), (.mv (.tmp 82)), none, 0⟩, ⟨(some 84), (.mv (.tmp 5)), (some (83, true)), 0⟩, ⟨(some 85), (.mv (.tmp 9)), (some (83, true)), 0⟩, ⟨(some 86), (.iaddrS 1 (.tmp 84) (.tmp 85)), (some (83, true)), 0⟩, ⟨(some 87), (.load 1 false (.tmp 86)), (some (83, true)), 0⟩, ⟨(some 88), (.mv (.tmp 11)), (some (83, true)), 0⟩, ⟨(some 89), (.iaddrS 1 (.tmp 87) (.tmp 88)), (some (83, true)), 0⟩, ⟨(some 90), (.load 1 false (.tmp 89)), (some (83, true)), 0⟩, ⟨(some 91), (.bin .lss (.tmp 90) (.val (.lit (.int .i64 1099511627776)))), (some (83, true)), 0⟩, ⟨(some 92), (.pick (.tmp 83) (.tmp 91) (.val (.lit (.bool false)))), none, 0⟩])
 (.cond (.tmp 92) (.dreg 0 [(0, ⟨(some 93), (.mv (.tmp 5)), none, 0⟩), (1, ⟨(some 94), (.mv (.tmp 10)), none, 0⟩), (2, ⟨(some 95), (.iaddrS 1 (.tmp 93) (.tmp 94)), none, 0⟩), (3, ⟨(some 96), (.load 1 false (.tmp 95)), none, 0⟩), (4, ⟨(some 97), (.mv (.tmp 11)), none, 0⟩), (5, ⟨(some 98), (.mv (.tmp 5)), none, 0⟩), (6, ⟨(some 99), (.mv (.tmp 10)), none, 0⟩), (7, ⟨(some 100), (.iaddrS 1 (.tmp 98) (.tmp 99)), none, 0⟩), (8, ⟨(some 101), (.load 1 false (.tmp 100)), none, 0⟩), (9, ⟨(some 102), (.mv (.tmp 11)), none, 0⟩), (10, ⟨(some 103), (.iaddrS 1 (.tmp 101) (.tmp 102)), none, 0⟩), (11, ⟨(some 104), (.load 1 false (.tmp 103)), none, 0⟩), (12, ⟨(some 105), (.mv (.tmp 5)), none, 0⟩), (13, ⟨(some 106), (.mv (.tmp 10)), none, 0⟩), (14, ⟨(some 107), (.iaddrS 1 (.tmp 105) (.tmp 106)), none, 0⟩), (15, ⟨(some 108), (.load 1 false (.tmp 107)), none, 0⟩), (16, ⟨(some 109), (.mv (.tmp 9)), none, 0⟩), (17, ⟨(some 110), (.iaddrS 1 (.tmp 108) (.tmp 109)), none, 0⟩), (18, ⟨(some 111), (.load 1 false (.tmp 110)), none, 0⟩), (19, ⟨(some 112), (.mv (.tmp 5)), none, 0⟩), (20, ⟨(some 113), (.mv (.tmp 9)), none, 0⟩), (21, ⟨(some 114), (.iaddrS 1 (.tmp 112) (.tmp 113)), none, 0⟩), (22, ⟨(some 115), (.load 1 false (.tmp 114)), none, 0⟩), (23, ⟨(some 116), (.mv (.tmp 11)), none, 0⟩), (24, ⟨(some 117), (.iaddrS 1 (.tmp 115) (.tmp 116)), none, 0⟩), (25, ⟨(some 118), (.load 1 false (.tmp 117)), none, 0⟩), (26, ⟨(some 119), (.bin .add (.tmp 111) (.tmp 118)), none, 0⟩), (27, ⟨(some 120), (.minmax false [(.tmp 104), (.tmp 119)]), none, 0⟩), (28, ⟨(some 121), (.iaddrS 1 (.tmp 96) (.tmp 97)), none, 0⟩), (29, ⟨none, (.store 1 (.tmp 121) (.tmp 120)), none, 0⟩)] [[], [], [0, 1], [2, 0, 1], [], [], [], [5, 6], [7, 5, 6], [], [8, 9, 7, 5, 6], [10, 8, 9, 7, 5, 6], [], [], [12, 13], [14, 12, 13], [], [15, 16, 14, 12, 13], [17, 15, 16, 14, 12, 13], [], [], [19, 20], [21, 19, 20], [], [22, 23, 21, 19, 20], [24, 22, 23, 21, 19, 20], [18, 25, 17, 15, 16, 14, 12, 13, 24, 22, 23, 21, 19, 20], [11, 26, 10, 8, 9, 7, 5, 6, 18, 25, 17, 15, 16, 14, 12, 13, 24, 22, 23, 21, 19, 20], [3, 4, 0, 1, 2, 5, 6, 7, 8, 9, 10, 11, 12, 13, 14, 15, 16, 17, 18, 19, 20, 21, 22, 23, 24, 25, 26, 27], [28, 27, 0, 1, 2, 3, 4, 5, 6, 7, 8, 9, 10, 11, 12, 13, 14, 15, 16, 17, 18, 19, 20, 21, 22, 23, 24, 25, 26]]) .skip))))
 (.reg 0 [⟨(some 122), (.bin .add (.tmp 72) (.val (.lit (.int .i64 1)))), none, 0⟩, ⟨(some 72), (.mv (.tmp 122)), none, 0⟩]))))
def c22l3 : ACode :=
 (.seq (.reg 0 [⟨(some 68), (.bin .lss (.tmp 67) (.tmp 66)), none, 0⟩])
 (.seq (.cond (.tmp 68) .skip (.exit 6))
 (.seq (.block 7 (.seq (.reg 0 [⟨(some 69), (.mv (.tmp 67)), none, 0⟩, ⟨(some 10), (.mv (.tmp 69)), none, 0⟩])
 (.seq (.reg 0 [⟨(some 70), (.mv (.tmp 5)), none, 0⟩, ⟨(some 71), (.len (.tmp 70)), none, 0⟩, ⟨(some 72), (.mv (.val (.lit (.int .i64 0)))), none, 0⟩])
 (.block 8 (.loop c22l2)))))
 (.reg 0 [⟨(some 123), (.bin .add (.tmp 67) (.val (.lit (.int .i64 1)))), none, 0⟩, ⟨(some 67), (.mv (.tmp 123)), none, 0⟩]))))
def c22l4 : ACode :=
 (.seq (.reg 0 [⟨(some 63), (.bin .lss (.tmp 62) (.tmp 61)), none, 0⟩])
 (.seq (.cond (.tmp 63) .skip (.exit 4))
 (.seq (.block 5 (.seq (.reg 0 [⟨(some 64), (.mv (.tmp 62)), none, 0⟩, ⟨(some 9), (.mv (.tmp 64)), none, 0⟩])
 (.seq (.reg 0 [⟨(some 65), (.mv (.tmp 5)), none, 0⟩, ⟨(some 66), (.len (.tmp 65)), none, 0⟩, ⟨(some 67), (.mv (.val (.lit (.int .i64 0)))), none, 0⟩])
 (.block 6 (.loop c22l3)))))
 (.reg 0 [⟨(some 124), (.bin .add (.tmp 62) (.val (.lit (.int .i64 1)))), none, 0⟩, ⟨(some 62), (.mv (.tmp 124)), none, 0⟩]))))
def c22 : ACode :=
 (.seq (.reg 0 [⟨(some 4), (.mv (.val (.sl true 0 []))), none, 0⟩])
 (.seq (.reg 1 [⟨(some 12), (.mv (.tmp 0)), none, 0⟩, ⟨(some 13), (.mks 1 24 [(.sl true 0 [])] (.tmp 12) (.tmp 12)), none, 0⟩, ⟨(some 5), (.mv (.tmp 13)), none, 1⟩])
 (.seq (.seq (.reg 0 [⟨(some 14), (.mv (.tmp 5)), none, 0⟩, ⟨(some 15), (.len (.tmp 14)), none, 0⟩, ⟨(some 16), (.mv (.val (.lit (.int .i64 0)))), none, 0⟩])
 (.block 0 (.loop c22l0)))
 (.seq (.seq (.reg 0 [⟨(some 32), (.mv (.tmp 1)), none, 0⟩, ⟨(some 33), (.call false (.val (.lit (.func (.func 50) #[] #[]))) [(.tmp 32)]), none, 0⟩, ⟨(some 34), (.len (.tmp 33)), none, 0⟩, ⟨(some 35), (.mv (.val (.lit (.int .i64 0)))), none, 0⟩])
 (.block 2 (.loop c22l1)))
 (.seq (.seq (.reg 0 [⟨(some 60), (.mv (.tmp 5)), none, 0⟩, ⟨(some 61), (.len (.tmp 60)), none, 0⟩, ⟨(some 62), (.mv (.val (.lit (.int .i64 0)))), none, 0⟩])
 (.block 4 (.loop c22l4)))
 (.seq (.reg 0 [⟨(some 125), (.mv (.tmp 5)), none, 0⟩, ⟨(some 4), (.mv (.tmp 125)), none, 0⟩])
 .ret))))))
theorem e22 : envOf Try.prog muts 22 = some (126, c22, [(Go.Abs.ARes.tmp 4)]) := by kernel_rfl
def c23 : ACode :=
 (.seq (.reg 0 [⟨(some 2), (.mv (.val (.lit (.bool false)))), none, 0⟩])
 (.seq (.reg 0 [⟨(some 3), (.mv (.tmp 0)), none, 0⟩, ⟨(some 4), (.iaddrS 1 (.tmp 3) (.val (.lit (.int .i64 0)))), none, 0⟩, ⟨(some 5), (.load 1 false (.tmp 4)), none, 0⟩, ⟨(some 6), (.call true (.val (.lit (.func (.func 53) #[] #[]))) [(.tmp 5), (.val (.lit (.func (.func 54) #[] #[])))]), none, 0⟩, ⟨(some 7), (.not (.tmp 6)), none, 0⟩, ⟨(some 2), (.mv (.tmp 7)), none, 0⟩])
 .ret))
theorem e23 : envOf Try.prog muts 23 = some (8, c23, [(Go.Abs.ARes.tmp 2)]) := by kernel_rfl
def c24 : ACode :=
 (.seq (.reg 1 [⟨(some 6), (.alloc [(.lit (.int .i64 0)), (.lit (.int .i64 0))]), none, 0⟩])
 (.seq (.dreg 0 [(0, ⟨(some 7), (.mv (.tmp 0)), none, 0⟩), (1, ⟨(some 8), (.mv (.tmp 2)), none, 0⟩), (2, ⟨(some 9), (.iaddrS 1 (.tmp 7) (.tmp 8)), none, 0⟩), (3, ⟨(some 10), (.load 1 false (.tmp 9)), none, 0⟩), (4, ⟨(some 11), (.mv (.tmp 1)), none, 0⟩), (5, ⟨(some 12), (.iaddrS 1 (.tmp 10) (.tmp 11)), none, 0⟩), (6, ⟨(some 13), (.load 1 false (.tmp 12)), none, 0⟩), (7, ⟨(some 14), (.neg (.tmp 13)), none, 0⟩), (8, ⟨(some 15), (.mv (.tmp 0)), none, 0⟩), (9, ⟨(some 16), (.mv (.tmp 1)), none, 0⟩), (10, ⟨(some 17), (.iaddrS 1 (.tmp 15) (.tmp 16)), none, 0⟩), (11, ⟨(some 18), (.load 1 false (.tmp 17)), none, 0⟩), (12, ⟨(some 19), (.mv (.tmp 2)), none, 0⟩), (13, ⟨(some 20), (.iaddrS 1 (.tmp 18) (.tmp 19)), none, 0⟩), (14, ⟨(some 21), (.load 1 false (.tmp 20)), none, 0⟩), (15, ⟨(some 22), (.build [(.lit (.int .i64 0)), (.lit (.int .i64 0))] [(0, (1, (.tmp 14))), (1, (1, (.tmp 21)))]), none, 0⟩), (16, ⟨none, (.store 2 (.tmp 6) (.tmp 22)), none, 0⟩)] [[], [], [0, 1], [2, 0, 1], [], [3, 4, 2, 0, 1], [5, 3, 4, 2, 0, 1], [6, 5, 3, 4, 2, 0, 1], [], [], [8, 9], [10, 8, 9], [], [11, 12, 10, 8, 9], [13, 11, 12, 10, 8, 9], [7, 14, 6, 5, 3, 4, 2, 0, 1, 13, 11, 12, 10, 8, 9], [15, 0, 1, 2, 3, 4, 5, 6, 7, 8, 9, 10, 11, 12, 13, 14]])
 .ret))
theorem e24 : envOf Try.prog muts 24 = some (23, c24, [(Go.Abs.ARes.cell 2 true 6)]) := by kernel_rfl
def c25 : ACode :=
 (.seq (.reg 0 [⟨(some 2), (.mv (.val (.lit (.bool false)))), none, 0⟩])
 (.seq (.reg 0 [⟨(some 3), (.mv (.tmp 0)), none, 0⟩, ⟨(some 4), (.call false (.val (.lit (.func (.func 10) #[] #[]))) [(.tmp 3), (.val (.lit (.int .i64 (-100000)))), (.val (.lit (.int .i64 100000)))]), none, 0⟩, ⟨(some 2), (.mv (.tmp 4)), none, 0⟩])
 .ret))
theorem e25 : envOf Try.prog muts 25 = some (5, c25, [(Go.Abs.ARes.tmp 2)]) := by kernel_rfl
def c26 : ACode :=
 (.seq (.reg 1 [⟨(some 3), (.box 2 (.tmp 1)), none, 0⟩, ⟨(some 4), (.mv (.val (.lit (.int .i64 0)))), none, 1⟩])
 (.seq (.seq (.reg 0 [⟨(some 6), (.mv (.tmp 0)), none, 0⟩, ⟨(some 7), (.call false (.val (.lit (.func (.func 55) #[] #[]))) [(.tmp 6)]), none, 0⟩, ⟨(some 5), (.mv (.tmp 7)), none, 0⟩])
 (.seq (.reg 0 [⟨(some 8), (.mv (.tmp 5)), none, 0⟩, ⟨(some 9), (.bin .neq (.tmp 8) (.val (.lit (.int .i64 0)))), none, 0⟩])
 (.cond (.tmp 9) (.seq (.reg 0 [⟨(some 10), (.mv (.tmp 5)), none, 0⟩, ⟨(some 4), (.mv (.tmp 10)), none, 0⟩])
 .ret) .skip)))
 (.seq (.reg 0 [⟨(some 11), (.load 2 true (.tmp 3)), none, 0⟩, ⟨(some 12), (.call false (.val (.lit (.func (.func 29) #[] #[]))) [(.tmp 11)]), none, 0⟩, ⟨(some 4), (.mv (.tmp 12)), none, 0⟩])
 .ret)))
theorem e26 : envOf Try.prog muts 26 = some (13, c26, [(Go.Abs.ARes.tmp 4)]) := by kernel_rfl
def c27r0 : ACode :=
 (.block 1 (.seq (.reg 0 [⟨(some 15), (.load 2 true (.tmp 2)), none, 0⟩, ⟨(some 16), (.mv (.tmp 7)), none, 0⟩, ⟨(some 17), (.mv (.tmp 8)), none, 0⟩, ⟨(some 18), (.call false (.val (.lit (.func (.func 32) #[] #[]))) [(.tmp 15), (.tmp 16), (.tmp 17)]), none, 0⟩, ⟨(some 9), (.mv (.tmp 18)), none, 0⟩])
 (.seq (.seq (.dreg 0 [(0, ⟨(some 19), (.load 1 false (.tmp 3)), none, 0⟩), (1, ⟨(some 20), (.mv (.tmp 7)), none, 0⟩), (2, ⟨(some 21), (.iaddrS 2 (.tmp 19) (.tmp 20)), none, 0⟩), (3, ⟨(some 22), (.faddr 0 (.tmp 21)), none, 0⟩), (4, ⟨(some 23), (.load 1 false (.tmp 22)), none, 0⟩), (5, ⟨(some 24), (.load 1 false (.tmp 3)), none, 0⟩), (6, ⟨(some 25), (.mv (.tmp 8)), none, 0⟩), (7, ⟨(some 26), (.iaddrS 2 (.tmp 24) (.tmp 25)), none, 0⟩), (8, ⟨(some 27), (.faddr 1 (.tmp 26)), none, 0⟩), (9, ⟨(some 28), (.load 1 false (.tmp 27)), none, 0⟩), (10, ⟨(some 29), (.bin .sub (.tmp 23) (.tmp 28)), none, 0⟩), (11, ⟨(some 30), (.mv (.tmp 9)), none, 0⟩), (12, ⟨(some 31), (.bin .gtr (.tmp 29) (.tmp 30)), none, 0⟩)] [[], [], [0, 1], [2, 0, 1], [3, 2, 0, 1], [], [], [5, 6], [7, 5, 6], [8, 7, 5, 6], [4, 9, 3, 2, 0, 1, 8, 7, 5, 6], [], [10, 11, 4, 9, 3, 2, 0, 1, 8, 7, 5, 6]])
 (.cond (.tmp 31) (.seq (.reg 0 [⟨(some 32), (.mv (.tmp 7)), none, 0⟩, ⟨(some 33), (.mv (.tmp 8)), none, 0⟩, ⟨(some 34), (.build [(.lit (.int .i64 0)), (.lit (.int .i64 0))] [(0, (1, (.tmp 32))), (1, (1, (.tmp 33)))]), none, 0⟩, ⟨none, (.store 1 (.tmp 4) (.val (.lit (.int .i64 (-1))))), none, 0⟩, ⟨none, (.store 2 (.tmp 5) (.tmp 34)), none, 0⟩])
 .ret) .skip))
 (.seq (.dreg 0 [(0, ⟨(some 35), (.load 1 false (.tmp 3)), none, 0⟩), (1, ⟨(some 36), (.mv (.tmp 7)), none, 0⟩), (2, ⟨(some 37), (.iaddrS 2 (.tmp 35) (.tmp 36)), none, 0⟩), (3, ⟨(some 38), (.faddr 1 (.tmp 37)), none, 0⟩), (4, ⟨(some 39), (.load 1 false (.tmp 38)), none, 0⟩), (5, ⟨(some 40), (.load 1 false (.tmp 3)), none, 0⟩), (6, ⟨(some 41), (.mv (.tmp 8)), none, 0⟩), (7, ⟨(some 42), (.iaddrS 2 (.tmp 40) (.tmp 41)), none, 0⟩), (8, ⟨(some 43), (.faddr 0 (.tmp 42)), none, 0⟩), (9, ⟨(some 44), (.load 1 false (.tmp 43)), none, 0⟩), (10, ⟨(some 45), (.bin .sub (.tmp 39) (.tmp 44)), none, 0⟩), (11, ⟨(some 46), (.mv (.tmp 9)), none, 0⟩), (12, ⟨(some 47), (.bin .gtr (.tmp 45) (.tmp 46)), none, 0⟩)] [[], [], [0, 1], [2, 0, 1], [3, 2, 0, 1], [], [], [5, 6], [7, 5, 6], [8, 7, 5, 6], [4, 9, 3, 2, 0, 1, 8, 7, 5, 6], [], [10, 11, 4, 9, 3, 2, 0, 1, 8, 7, 5, 6]])
 (.cond (.tmp 47) (.reg 0 [⟨none, (.store 1 (.tmp 6) (.val (.lit (.int .i64 0)))), none, 0⟩]) .skip)))))
def c27 : ACode :=
 (.seq (.reg 4 [⟨(some 2), (.box 2 (.tmp 0)), none, 0⟩, ⟨(some 3), (.box 1 (.tmp 1)), none, 1⟩, ⟨(some 4), (.alloc [(.lit (.int .i64 0))]), none, 2⟩, ⟨(some 5), (.alloc [(.lit (.int .i64 0)), (.lit (.int .i64 0))]), none, 3⟩])
 (.seq (.reg 1 [⟨(some 6), (.alloc [(.lit (.int .i64 0))]), none, 0⟩, ⟨none, (.store 1 (.tmp 6) (.val (.lit (.int .i64 1)))), none, 1⟩])
 (.seq (.seq (.reg 0 [⟨(some 10), (.load 1 false (.tmp 3)), none, 0⟩, ⟨(some 11), (.len (.tmp 10)), none, 0⟩, ⟨(some 12), (.call false (.val (.lit (.func (.func 30) #[] #[]))) [(.tmp 11)]), none, 0⟩])
 (.block 0 (.range (.tmp 12) [13, 14] (.seq (.reg 0 [⟨(some 7), (.mv (.tmp 13)), none, 0⟩])
 (.reg 0 [⟨(some 8), (.mv (.tmp 14)), none, 0⟩])) c27r0)))
 (.seq (.reg 0 [⟨(some 48), (.load 1 false (.tmp 6)), none, 0⟩, ⟨(some 49), (.build [(.lit (.int .i64 0)), (.lit (.int .i64 0))] []), none, 0⟩, ⟨none, (.store 1 (.tmp 4) (.tmp 48)), none, 0⟩, ⟨none, (.store 2 (.tmp 5) (.tmp 49)), none, 0⟩])
 .ret))))
theorem e27 : envOf Try.prog muts 27 = some (50, c27, [(Go.Abs.ARes.cell 1 false 4), (Go.Abs.ARes.cell 2 true 5)]) := by kernel_rfl
def c28 : ACode :=
 (.seq (.reg 0 [⟨(some 2), (.mv (.val (.lit (.int .i64 0)))), none, 0⟩])
 (.seq (.seq (.reg 0 [⟨(some 3), (.mv (.tmp 0)), none, 0⟩, ⟨(some 4), (.len (.tmp 3)), none, 0⟩, ⟨(some 5), (.call false (.val (.lit (.func (.func 56) #[] #[]))) [(.tmp 4)]), none, 0⟩, ⟨(some 6), (.not (.tmp 5)), none, 0⟩])
 (.cond (.tmp 6) (.seq (.reg 0 [⟨(some 2), (.mv (.val (.lit (.int .i64 10)))), none, 0⟩])
 .ret) .skip))
 (.seq (.seq (.reg 0 [⟨(some 7), (.mv (.tmp 0)), none, 0⟩, ⟨(some 8), (.call true (.val (.lit (.func (.func 53) #[] #[]))) [(.tmp 7), (.val (.lit (.func (.func 57) #[] #[])))]), none, 0⟩])
 (.cond (.tmp 8) (.seq (.reg 0 [⟨(some 2), (.mv (.val (.lit (.int .i64 2)))), none, 0⟩])
 .ret) .skip))
 (.seq (.reg 0 [⟨(some 2), (.mv (.val (.lit (.int .i64 0)))), none, 0⟩])
 .ret))))
theorem e28 : envOf Try.prog muts 28 = some (9, c28, [(Go.Abs.ARes.tmp 2)]) := by kernel_rfl
def c29 : ACode :=
 (.seq (.reg 1 [⟨(some 1), (.box 2 (.tmp 0)), none, 0⟩, ⟨(some 2), (.mv (.val (.lit (.int .i64 0)))), none, 1⟩])
 (.seq (.seq (.reg 0 [⟨(some 3), (.faddr 0 (.tmp 1)), none, 0⟩, ⟨(some 4), (.load 1 false (.tmp 3)), none, 0⟩, ⟨(some 5), (.call false (.val (.lit (.func (.func 58) #[] #[]))) [(.tmp 4), (.val (.lit (.int .i64 0))), (.val (.lit (.int .i64 200000)))]), none, 0⟩, ⟨(some 6), (.not (.tmp 5)), none, 0⟩, ⟨(some 7), (.mv (.tmp 6)), none, 0⟩, ⟨(some 8), (.faddr 1 (.tmp 1)), (some (7, false)), 0⟩, ⟨(some 9), (.load 1 false (.tmp 8)), (some (7, false)), 0⟩, ⟨(some 10), (.call false (.val (.lit (.func (.func 58) #[] #[]))) [(.tmp 9), (.val (.lit (.int .i64 0))), (.val (.lit (.int .i64 200000)))]), (some (7, false)), 0⟩, ⟨(some 11), (.not (.tmp 10)), (some (7, false)), 0⟩, ⟨(some 12), (.pick (.tmp 7) (.val (.lit (.bool true))) (.tmp 11)), none, 0⟩])
 (.cond (.tmp 12) (.seq (.reg 0 [⟨(some 2), (.mv (.val (.lit (.int .i64 2)))), none, 0⟩])
 .ret) .skip))
 (.seq (.reg 0 [⟨(some 2), (.mv (.val (.lit (.int .i64 0)))), none, 0⟩])
 .ret)))
theorem e29 : envOf Try.prog muts 29 = some (13, c29, [(Go.Abs.ARes.tmp 2)]) := by kernel_rfl
def c30 : ACode :=
 (.seq (.reg 1 [⟨(some 1), (.box 1 (.tmp 0)), none, 0⟩, ⟨(some 2), (.mv (.val (.lit .nilFunc))), none, 1⟩])
 (.seq (.reg 0 [⟨(some 3), (.mkf (.func 59) [] [(.tmp 1)]), none, 0⟩, ⟨(some 2), (.mv (.tmp 3)), none, 0⟩])
 .ret))
theorem e30 : envOf Try.prog muts 30 = some (4, c30, [(Go.Abs.ARes.tmp 2)]) := by kernel_rfl
def c31 : ACode :=
 (.seq (.reg 0 [⟨(some 2), (.mv (.val (.lit (.int .i64 0)))), none, 0⟩])
 (.seq (.reg 0 [⟨(some 3), (.mv (.tmp 0)), none, 0⟩, ⟨(some 4), (.mv (.tmp 0)), none, 0⟩, ⟨(some 5), (.neg (.tmp 4)), none, 0⟩, ⟨(some 6), (.minmax true [(.tmp 3), (.tmp 5)]), none, 0⟩, ⟨(some 2), (.mv (.tmp 6)), none, 0⟩])
 .ret))
theorem e31 : envOf Try.prog muts 31 = some (7, c31, [(Go.Abs.ARes.tmp 2)]) := by kernel_rfl
def c32 : ACode :=
 (.seq (.reg 1 [⟨(some 3), (.box 2 (.tmp 0)), none, 0⟩, ⟨(some 6), (.mv (.val (.lit (.int .i64 0)))), none, 1⟩])
 (.seq (.dreg 0 [(0, ⟨(some 7), (.faddr 0 (.tmp 3)), none, 0⟩), (1, ⟨(some 8), (.faddr 0 (.tmp 7)), none, 0⟩), (2, ⟨(some 9), (.load 1 false (.tmp 8)), none, 0⟩), (3, ⟨(some 10), (.faddr 0 (.tmp 3)), none, 0⟩), (4, ⟨(some 11), (.faddr 1 (.tmp 10)), none, 0⟩), (5, ⟨(some 12), (.load 1 false (.tmp 11)), none, 0⟩), (6, ⟨(some 13), (.mv (.tmp 1)), none, 0⟩), (7, ⟨(some 14), (.mv (.tmp 2)), none, 0⟩), (8, ⟨(some 15), (.bin .sub (.tmp 13) (.tmp 14)), none, 0⟩), (9, ⟨(some 16), (.call false (.val (.lit (.func (.func 31) #[] #[]))) [(.tmp 15)]), none, 0⟩), (10, ⟨(some 17), (.bin .mul (.tmp 12) (.tmp 16)), none, 0⟩), (11, ⟨(some 18), (.minmax false [(.tmp 9), (.tmp 17)]), none, 0⟩), (12, ⟨(some 6), (.mv (.tmp 18)), none, 0⟩)] [[], [0], [1, 0], [], [3], [4, 3], [], [], [6, 7], [8, 6, 7], [5, 9, 4, 3, 8, 6, 7], [2, 10, 1, 0, 5, 9, 4, 3, 8, 6, 7], [11, 9, 0, 1, 2, 3, 4, 5, 6, 7, 8, 10]])
 .ret))
theorem e32 : envOf Try.prog muts 32 = some (19, c32, [(Go.Abs.ARes.tmp 6)]) := by kernel_rfl
def c33 : ACode :=
 (.seq (.reg 0 [⟨(some 4), (.mv (.val (.lit (.bool false)))), none, 0⟩])
 (.seq (.reg 0 [⟨(some 5), (.mv (.tmp 0)), none, 0⟩, ⟨(some 6), (.mv (.tmp 1)), none, 0⟩, ⟨(some 7), (.call true (.val (.lit (.func (.func 60) #[] #[]))) [(.tmp 5), (.tmp 6)]), none, 0⟩, ⟨(some 8), (.bin .geq (.tmp 7) (.val (.lit (.int .i64 0)))), none, 0⟩, ⟨(some 4), (.mv (.tmp 8)), none, 0⟩])
 .ret))
theorem e33 : envOf Try.prog muts 33 = some (9, c33, [(Go.Abs.ARes.tmp 4)]) := by kernel_rfl
def c34 : ACode :=
 (.seq (.reg 1 [⟨(some 1), (.box 2 (.tmp 0)), none, 0⟩, ⟨(some 2), (.mv (.val (.lit (.bool false)))), none, 1⟩])
 (.seq (.reg 0 [⟨(some 3), (.faddr 1 (.tmp 1)), none, 0⟩, ⟨(some 4), (.load 1 false (.tmp 3)), none, 0⟩, ⟨(some 5), (.faddr 0 (.tmp 1)), none, 0⟩, ⟨(some 6), (.load 1 false (.tmp 5)), none, 0⟩, ⟨(some 7), (.bin .sub (.tmp 4) (.tmp 6)), none, 0⟩, ⟨(some 8), (.bin .gtr (.tmp 7) (.val (.lit (.int .i64 200)))), none, 0⟩, ⟨(some 2), (.mv (.tmp 8)), none, 0⟩])
 .ret))
theorem e34 : envOf Try.prog muts 34 = some (9, c34, [(Go.Abs.ARes.tmp 2)]) := by kernel_rfl
def c35l0 : ACode :=
 (.seq (.seq (.reg 0 [⟨(some 18), (.mv (.tmp 8)), none, 0⟩, ⟨(some 19), (.mv (.tmp 1)), none, 0⟩, ⟨(some 20), (.mv (.tmp 2)), none, 0⟩, ⟨(some 21), (.iaddrS 2 (.tmp 19) (.tmp 20)), none, 0⟩, ⟨(some 22), (.faddr 1 (.tmp 21)), none, 0⟩, ⟨(some 23), (.load 1 false (.tmp 22)), none, 0⟩, ⟨(some 24), (.bin .leq (.tmp 18) (.tmp 23)), none, 0⟩])
 (.cond (.tmp 24) .skip (.exit 0)))
 (.seq (.block 1 (.seq (.reg 0 [⟨(some 27), (.mv (.tmp 7)), none, 0⟩, ⟨(some 28), (.mv (.tmp 2)), none, 0⟩, ⟨(some 29), (.mv (.tmp 8)), none, 0⟩, ⟨(some 30), (.mv (.tmp 8)), none, 0⟩, ⟨(some 31), (.build [(.lit (.int .i64 0)), (.lit (.int .i64 0))] [(0, (1, (.tmp 29))), (1, (1, (.tmp 30)))]), none, 0⟩, ⟨(some 32), (.iaddrS 2 (.tmp 27) (.tmp 28)), none, 0⟩, ⟨none, (.store 2 (.tmp 32) (.tmp 31)), none, 0⟩])
 (.seq (.reg 1 [⟨(some 34), (.load 2 true (.tmp 3)), none, 0⟩, ⟨(some 35), (.mv (.tmp 7)), none, 0⟩, ⟨(some 36), (.call true (.val (.lit (.func (.func 27) #[] #[]))) [(.tmp 34), (.tmp 35)]), none, 0⟩, ⟨(some 33), (.mv (.tmp 36)), none, 0⟩, ⟨(some 37), (.ext (.tmp 33) 0), none, 0⟩, ⟨(some 38), (.ext (.tmp 33) 1), none, 0⟩, ⟨(some 10), (.alloc [(.lit (.int .i64 0)), (.lit (.int .i64 0))]), none, 0⟩, ⟨(some 9), (.mv (.tmp 37)), none, 1⟩, ⟨none, (.store 2 (.tmp 10) (.tmp 38)), none, 1⟩])
 (.seq (.reg 0 [⟨(some 39), (.mv (.tmp 9)), none, 0⟩, ⟨(some 40), (.bin .eql (.tmp 39) (.val (.lit (.int .i64 0)))), none, 0⟩])
 (.cond (.tmp 40) (.seq (.reg 0 [⟨(some 6), (.mv (.val (.lit (.bool false)))), none, 0⟩])
 .ret) .skip)))))
 (.reg 0 [⟨(some 25), (.mv (.tmp 8)), none, 0⟩, ⟨(some 26), (.bin .add (.tmp 25) (.val (.lit (.int .i64 1)))), none, 0⟩, ⟨(some 8), (.mv (.tmp 26)), none, 0⟩])))
def c35 : ACode :=
 (.seq (.reg 1 [⟨(some 3), (.box 2 (.tmp 0)), none, 0⟩, ⟨(some 6), (.mv (.val (.lit (.bool false)))), none, 1⟩])
 (.seq (.reg 0 [⟨(some 11), (.mv (.tmp 1)), none, 0⟩, ⟨(some 12), (.call false (.val (.lit (.func (.func 61) #[] #[]))) [(.tmp 11)]), none, 0⟩, ⟨(some 7), (.mv (.tmp 12)), none, 0⟩])
 (.seq (.seq (.reg 0 [⟨(some 13), (.mv (.tmp 1)), none, 0⟩, ⟨(some 14), (.mv (.tmp 2)), none, 0⟩, ⟨(some 15), (.iaddrS 2 (.tmp 13) (.tmp 14)), none, 0⟩, ⟨(some 16), (.faddr 0 (.tmp 15)), none, 0⟩, ⟨(some 17), (.load 1 false (.tmp 16)), none, 0⟩, ⟨(some 8), (.mv (.tmp 17)), none, 0⟩])
 (.block 0 (.loop c35l0)))
 (.seq (.reg 0 [⟨(some 6), (.mv (.val (.lit (.bool true)))), none, 0⟩])
 .ret))))
theorem e35 : envOf Try.prog muts 35 = some (41, c35, [(Go.Abs.ARes.tmp 6)]) := by kernel_rfl
def c49 : ACode :=
 (.seq (.reg 0 [⟨(some 6), (.mv (.val (.lit (.bool false)))), none, 0⟩])
 (.seq (.reg 0 [⟨(some 7), (.mv (.tmp 1)), none, 0⟩, ⟨(some 8), (.mv (.tmp 0)), none, 0⟩, ⟨(some 9), (.bin .leq (.tmp 7) (.tmp 8)), none, 0⟩, ⟨(some 10), (.mv (.tmp 9)), none, 0⟩, ⟨(some 11), (.mv (.tmp 0)), (some (10, true)), 0⟩, ⟨(some 12), (.mv (.tmp 2)), (some (10, true)), 0⟩, ⟨(some 13), (.bin .leq (.tmp 11) (.tmp 12)), (some (10, true)), 0⟩, ⟨(some 14), (.pick (.tmp 10) (.tmp 13) (.val (.lit (.bool false)))), none, 0⟩, ⟨(some 6), (.mv (.tmp 14)), none, 0⟩])
 .ret))
theorem e49 : envOf Try.prog muts 49 = some (15, c49, [(Go.Abs.ARes.tmp 6)]) := by kernel_rfl
def c50l0 : ACode :=
 (.seq (.reg 0 [⟨(some 9), (.bin .lss (.tmp 8) (.tmp 7)), none, 0⟩])
 (.seq (.cond (.tmp 9) .skip (.exit 0))
 (.seq (.block 1 (.seq (.reg 1 [⟨(some 10), (.mv (.tmp 8)), none, 0⟩, ⟨(some 11), (.iaddrS 4 (.tmp 6) (.tmp 8)), none, 0⟩, ⟨(some 12), (.load 4 true (.tmp 11)), none, 0⟩, ⟨(some 5), (.alloc [(.lit (.int .i64 0)), (.lit (.int .i64 0)), (.lit (.int .i64 0)), (.lit (.int .i64 0))]), none, 0⟩, ⟨(some 4), (.mv (.tmp 10)), none, 1⟩, ⟨none, (.store 4 (.tmp 5) (.tmp 12)), none, 1⟩])
 (.reg 2 [⟨(some 13), (.mv (.tmp 3)), none, 0⟩, ⟨(some 14), (.faddr 0 (.tmp 5)), none, 0⟩, ⟨(some 15), (.load 1 false (.tmp 14)), none, 0⟩, ⟨(some 16), (.faddr 1 (.tmp 5)), none, 0⟩, ⟨(some 17), (.load 1 false (.tmp 16)), none, 0⟩, ⟨(some 18), (.faddr 2 (.tmp 5)), none, 0⟩, ⟨(some 19), (.faddr 1 (.tmp 18)), none, 0⟩, ⟨(some 20), (.load 1 false (.tmp 19)), none, 0⟩, ⟨(some 21), (.mv (.tmp 4)), none, 0⟩, ⟨(some 22), (.bin .add (.tmp 21) (.val (.lit (.int .i64 1)))), none, 0⟩, ⟨(some 23), (.build [(.lit (.int .i64 0)), (.lit (.int .i64 0)), (.lit (.int .i64 0)), (.lit (.int .i64 0))] [(0, (1, (.tmp 15))), (1, (1, (.tmp 17))), (2, (1, (.tmp 20))), (3, (1, (.tmp 22)))]), none, 0⟩, ⟨(some 24), (.faddr 1 (.tmp 5)), none, 0⟩, ⟨(some 25), (.load 1 false (.tmp 24)), none, 0⟩, ⟨(some 26), (.faddr 0 (.tmp 5)), none, 0⟩, ⟨(some 27), (.load 1 false (.tmp 26)), none, 0⟩, ⟨(some 28), (.faddr 2 (.tmp 5)), none, 0⟩, ⟨(some 29), (.faddr 0 (.tmp 28)), none, 0⟩, ⟨(some 30), (.load 1 false (.tmp 29)), none, 0⟩, ⟨(some 31), (.neg (.tmp 30)), none, 0⟩, ⟨(some 32), (.mv (.tmp 4)), none, 0⟩, ⟨(some 33), (.neg (.tmp 32)), none, 0⟩, ⟨(some 34), (.bin .sub (.tmp 33) (.val (.lit (.int .i64 1)))), none, 0⟩, ⟨(some 35), (.build [(.lit (.int .i64 0)), (.lit (.int .i64 0)), (.lit (.int .i64 0)), (.lit (.int .i64 0))] [(0, (1, (.tmp 25))), (1, (1, (.tmp 27))), (2, (1, (.tmp 31))), (3, (1, (.tmp 34)))]), none, 0⟩, ⟨(some 36), (.bslice 4 2 [(.lit (.int .i64 0)), (.lit (.int .i64 0)), (.lit (.int .i64 0)), (.lit (.int .i64 0))] [(0, (.tmp 23)), (1, (.tmp 35))]), none, 0⟩, ⟨(some 37), (.app 4 32 (.tmp 13) (.tmp 36)), none, 1⟩, ⟨(some 3), (.mv (.tmp 37)), none, 2⟩])))
 (.reg 0 [⟨(some 38), (.bin .add (.tmp 8) (.val (.lit (.int .i64 1)))), none, 0⟩, ⟨(some 8), (.mv (.tmp 38)), none, 0⟩]))))
def c50 : ACode :=
 (.seq (.reg 0 [⟨(some 2), (.mv (.val (.sl true 0 []))), none, 0⟩])
 (.seq (.reg 0 [⟨(some 3), (.mv (.val (.sl true 0 []))), none, 0⟩])
 (.seq (.seq (.reg 0 [⟨(some 6), (.mv (.tmp 0)), none, 0⟩, ⟨(some 7), (.len (.tmp 6)), none, 0⟩, ⟨(some 8), (.mv (.val (.lit (.int .i64 0)))), none, 0⟩])
 (.block 0 (.loop c50l0)))
 (.seq (.reg 0 [⟨(some 39), (.mv (.tmp 3)), none, 0⟩, ⟨(some 2), (.mv (.tmp 39)), none, 0⟩])
 .ret))))
theorem e50 : envOf Try.prog muts 50 = some (40, c50, [(Go.Abs.ARes.tmp 2)]) := by kernel_rfl
def c51l0 : ACode :=
 (.seq (.seq (.reg 0 [⟨(some 7), (.mv (.tmp 2)), none, 0⟩, ⟨(some 8), (.mv (.tmp 3)), none, 0⟩, ⟨(some 9), (.bin .lss (.tmp 7) (.tmp 8)), none, 0⟩])
 (.cond (.tmp 9) .skip (.exit 0)))
 (.seq (.block 1 (.dreg 0 [(0, ⟨(some 14), (.mv (.tmp 0)), none, 0⟩), (1, ⟨(some 15), (.mv (.tmp 2)), none, 0⟩), (2, ⟨(some 16), (.mv (.tmp 0)), none, 0⟩), (3, ⟨(some 17), (.mv (.tmp 3)), none, 0⟩), (4, ⟨(some 18), (.mv (.tmp 0)), none, 0⟩), (5, ⟨(some 19), (.mv (.tmp 3)), none, 0⟩), (6, ⟨(some 20), (.iaddrS 1 (.tmp 18) (.tmp 19)), none, 0⟩), (7, ⟨(some 21), (.load 1 false (.tmp 20)), none, 0⟩), (8, ⟨(some 22), (.mv (.tmp 0)), none, 0⟩), (9, ⟨(some 23), (.mv (.tmp 2)), none, 0⟩), (10, ⟨(some 24), (.iaddrS 1 (.tmp 22) (.tmp 23)), none, 0⟩), (11, ⟨(some 25), (.load 1 false (.tmp 24)), none, 0⟩), (12, ⟨(some 26), (.iaddrS 1 (.tmp 14) (.tmp 15)), none, 0⟩), (13, ⟨none, (.store 1 (.tmp 26) (.tmp 21)), none, 0⟩), (14, ⟨(some 27), (.iaddrS 1 (.tmp 16) (.tmp 17)), none, 0⟩), (15, ⟨none, (.store 1 (.tmp 27) (.tmp 25)), none, 0⟩)] [[], [], [], [], [], [], [4, 5], [6, 4, 5], [], [], [8, 9], [10, 8, 9], [0, 1, 4, 5, 6, 7, 11, 10, 8, 9], [12, 7, 0, 1, 4, 5, 6, 11, 10, 8, 9], [2, 3, 0, 1, 4, 5, 6, 7, 8, 9, 10, 11, 12, 13], [14, 11, 13, 0, 1, 2, 3, 4, 5, 6, 7, 8, 9, 10, 12]]))
 (.reg 0 [⟨(some 10), (.mv (.tmp 2)), none, 0⟩, ⟨(some 11), (.bin .add (.tmp 10) (.val (.lit (.int .i64 1)))), none, 0⟩, ⟨(some 12), (.mv (.tmp 3)), none, 0⟩, ⟨(some 13), (.bin .sub (.tmp 12) (.val (.lit (.int .i64 1)))), none, 0⟩, ⟨(some 2), (.mv (.tmp 11)), none, 0⟩, ⟨(some 3), (.mv (.tmp 13)), none, 0⟩])))
def c51 : ACode :=
 (.seq (.reg 0 [⟨(some 4), (.mv (.tmp 0)), none, 0⟩, ⟨(some 5), (.len (.tmp 4)), none, 0⟩, ⟨(some 6), (.bin .sub (.tmp 5) (.val (.lit (.int .i64 1)))), none, 0⟩, ⟨(some 2), (.mv (.val (.lit (.int .i64 0)))), none, 0⟩, ⟨(some 3), (.mv (.tmp 6)), none, 0⟩])
 (.block 0 (.loop c51l0)))
theorem e51 : envOf Try.prog muts 51 = some (28, c51, []) := by kernel_rfl
def c53 : ACode :=
 (.seq (.reg 0 [⟨(some 4), (.mv (.val (.lit (.bool false)))), none, 0⟩])
 (.seq (.reg 0 [⟨(some 5), (.mv (.tmp 0)), none, 0⟩, ⟨(some 6), (.mv (.tmp 1)), none, 0⟩, ⟨(some 7), (.call true (.val (.lit (.func (.func 72) #[] #[]))) [(.tmp 5), (.tmp 6)]), none, 0⟩, ⟨(some 8), (.bin .geq (.tmp 7) (.val (.lit (.int .i64 0)))), none, 0⟩, ⟨(some 4), (.mv (.tmp 8)), none, 0⟩])
 .ret))
theorem e53 : envOf Try.prog muts 53 = some (9, c53, [(Go.Abs.ARes.tmp 4)]) := by kernel_rfl
def c54 : ACode :=
 (.seq (.reg 0 [⟨(some 2), (.mv (.val (.lit (.bool false)))), none, 0⟩])
 (.seq (.reg 0 [⟨(some 3), (.mv (.tmp 0)), none, 0⟩, ⟨(some 4), (.bin .eql (.tmp 3) (.val (.lit (.int .i64 1099511627776)))), none, 0⟩, ⟨(some 2), (.mv (.tmp 4)), none, 0⟩])
 .ret))
theorem e54 : envOf Try.prog muts 54 = some (5, c54, [(Go.Abs.ARes.tmp 2)]) := by kernel_rfl
def c55l0 : ACode :=
 (.seq (.reg 0 [⟨(some 12), (.bin .lss (.tmp 11) (.tmp 10)), none, 0⟩])
 (.seq (.cond (.tmp 12) .skip (.exit 0))
 (.seq (.block 1 (.seq (.reg 1 [⟨(some 13), (.iaddrS 2 (.tmp 9) (.tmp 11)), none, 0⟩, ⟨(some 14), (.load 2 true (.tmp 13)), none, 0⟩, ⟨(some 4), (.alloc [(.lit (.int .i64 0)), (.lit (.int .i64 0))]), none, 0⟩, ⟨none, (.store 2 (.tmp 4) (.tmp 14)), none, 1⟩])
 (.block 2 (.seq (.reg 0 [⟨(some 16), (.faddr 0 (.tmp 4)), none, 0⟩, ⟨(some 17), (.load 1 false (.tmp 16)), none, 0⟩, ⟨(some 18), (.call false (.val (.lit (.func (.func 58) #[] #[]))) [(.tmp 17), (.val (.lit (.int .i64 (-100000)))), (.val (.lit (.int .i64 100000)))]), none, 0⟩, ⟨(some 19), (.not (.tmp 18)), none, 0⟩, ⟨(some 20), (.mv (.tmp 19)), none, 0⟩, ⟨(some 21), (.faddr 1 (.tmp 4)), (some (20, false)), 0⟩, ⟨(some 22), (.load 1 false (.tmp 21)), (some (20, false)), 0⟩, ⟨(some 23), (.call false (.val (.lit (.func (.func 58) #[] #[]))) [(.tmp 22), (.val (.lit (.int .i64 (-100000)))), (.val (.lit (.int .i64 100000)))]), (some (20, false)), 0⟩, ⟨(some 24), (.not (.tmp 23)), (some (20, false)), 0⟩, ⟨(some 25), (.pick (.tmp 20) (.val (.lit (.bool true))) (.tmp 24)), none, 0⟩, ⟨(some 15), (.mv (.tmp 25)), none, 0⟩])
 (.cond (.tmp 15) (.seq (.reg 0 [⟨(some 2), (.mv (.val (.lit (.int .i64 2)))), none, 0⟩])
 .ret) (.seq (.reg 0 [⟨(some 27), (.faddr 0 (.tmp 4)), none, 0⟩, ⟨(some 28), (.load 1 false (.tmp 27)), none, 0⟩, ⟨(some 29), (.faddr 1 (.tmp 4)), none, 0⟩, ⟨(some 30), (.load 1 false (.tmp 29)), none, 0⟩, ⟨(some 31), (.bin .gtr (.tmp 28) (.tmp 30)), none, 0⟩, ⟨(some 26), (.mv (.tmp 31)), none, 0⟩])
 (.cond (.tmp 26) (.seq (.reg 0 [⟨(some 2), (.mv (.val (.lit (.int .i64 9)))), none, 0⟩])
 .ret) .skip)))))))
 (.reg 0 [⟨(some 32), (.bin .add (.tmp 11) (.val (.lit (.int .i64 1)))), none, 0⟩, ⟨(some 11), (.mv (.tmp 32)), none, 0⟩]))))
def c55 : ACode :=
 (.seq (.reg 0 [⟨(some 2), (.mv (.val (.lit (.int .i64 0)))), none, 0⟩])
 (.seq (.seq (.reg 0 [⟨(some 5), (.mv (.tmp 0)), none, 0⟩, ⟨(some 6), (.len (.tmp 5)), none, 0⟩, ⟨(some 7), (.call false (.val (.lit (.func (.func 56) #[] #[]))) [(.tmp 6)]), none, 0⟩, ⟨(some 8), (.not (.tmp 7)), none, 0⟩])
 (.cond (.tmp 8) (.seq (.reg 0 [⟨(some 2), (.mv (.val (.lit (.int .i64 10)))), none, 0⟩])
 .ret) .skip))
 (.seq (.seq (.reg 0 [⟨(some 9), (.mv (.tmp 0)), none, 0⟩, ⟨(some 10), (.len (.tmp 9)), none, 0⟩, ⟨(some 11), (.mv (.val (.lit (.int .i64 0)))), none, 0⟩])
 (.block 0 (.loop c55l0)))
 (.seq (.reg 0 [⟨(some 2), (.mv (.val (.lit (.int .i64 0)))), none, 0⟩])
 .ret))))
theorem e55 : envOf Try.prog muts 55 = some (33, c55, [(Go.Abs.ARes.tmp 2)]) := by kernel_rfl
def c56 : ACode :=
 (.seq (.reg 0 [⟨(some 2), (.mv (.val (.lit (.bool false)))), none, 0⟩])
 (.seq (.reg 0 [⟨(some 3), (.mv (.tmp 0)), none, 0⟩, ⟨(some 4), (.call false (.val (.lit (.func (.func 58) #[] #[]))) [(.tmp 3), (.val (.lit (.int .i64 1))), (.val (.lit (.int .i64 40)))]), none, 0⟩, ⟨(some 2), (.mv (.tmp 4)), none, 0⟩])
 .ret))
theorem e56 : envOf Try.prog muts 56 = some (5, c56, [(Go.Abs.ARes.tmp 2)]) := by kernel_rfl
def c57 : ACode :=
 (.seq (.reg 0 [⟨(some 2), (.mv (.val (.lit (.bool false)))), none, 0⟩])
 (.seq (.reg 0 [⟨(some 3), (.mv (.tmp 0)), none, 0⟩, ⟨(some 4), (.call false (.val (.lit (.func (.func 58) #[] #[]))) [(.tmp 3), (.val (.lit (.int .i64 (-100000)))), (.val (.lit (.int .i64 100000)))]), none, 0⟩, ⟨(some 5), (.not (.tmp 4)), none, 0⟩, ⟨(some 2), (.mv (.tmp 5)), none, 0⟩])
 .ret))
theorem e57 : envOf Try.prog muts 57 = some (6, c57, [(Go.Abs.ARes.tmp 2)]) := by kernel_rfl
def c58 : ACode :=
 (.seq (.reg 0 [⟨(some 6), (.mv (.val (.lit (.bool false)))), none, 0⟩])
 (.seq (.reg 0 [⟨(some 7), (.mv (.tmp 1)), none, 0⟩, ⟨(some 8), (.mv (.tmp 0)), none, 0⟩, ⟨(some 9), (.bin .leq (.tmp 7) (.tmp 8)), none, 0⟩, ⟨(some 10), (.mv (.tmp 9)), none, 0⟩, ⟨(some 11), (.mv (.tmp 0)), (some (10, true)), 0⟩, ⟨(some 12), (.mv (.tmp 2)), (some (10, true)), 0⟩, ⟨(some 13), (.bin .leq (.tmp 11) (.tmp 12)), (some (10, true)), 0⟩, ⟨(some 14), (.pick (.tmp 10) (.tmp 13) (.val (.lit (.bool false)))), none, 0⟩, ⟨(some 6), (.mv (.tmp 14)), none, 0⟩])
 .ret))
theorem e58 : envOf Try.prog muts 58 = some (15, c58, [(Go.Abs.ARes.tmp 6)]) := by kernel_rfl
def c59l0 : ACode :=
 (.seq (.reg 0 [⟨(some 11), (.bin .lss (.tmp 10) (.tmp 9)), none, 0⟩])
 (.seq (.cond (.tmp 11) .skip (.exit 2))
 (.seq (.block 3 (.seq (.reg 0 [⟨(some 12), (.mv (.tmp 10)), none, 0⟩, ⟨(some 4), (.mv (.tmp 12)), none, 0⟩])
 (.seq (.reg 0 [⟨(some 13), (.mv (.tmp 3)), none, 0⟩, ⟨(some 14), (.mv (.tmp 4)), none, 0⟩, ⟨(some 15), (.bin .neq (.tmp 13) (.tmp 14)), none, 0⟩, ⟨(some 16), (.mv (.tmp 15)), none, 0⟩, ⟨(some 17), (.mv (.tmp 0)), (some (16, true)), 0⟩, ⟨(some 18), (.mv (.tmp 3)), (some (16, true)), 0⟩, ⟨(some 19), (.mv (.tmp 4)), (some (16, true)), 0⟩, ⟨(some 20), (.call true (.tmp 17) [(.tmp 18), (.tmp 19)]), (some (16, true)), 0⟩, ⟨(some 21), (.not (.tmp 20)), (some (16, true)), 0⟩, ⟨(some 22), (.pick (.tmp 16) (.tmp 21) (.val (.lit (.bool false)))), none, 0⟩])
 (.cond (.tmp 22) .ret .skip))))
 (.reg 0 [⟨(some 23), (.bin .add (.tmp 10) (.val (.lit (.int .i64 1)))), none, 0⟩, ⟨(some 10), (.mv (.tmp 23)), none, 0⟩]))))
def c59l1 : ACode :=
 (.seq (.reg 0 [⟨(some 7), (.bin .lss (.tmp 6) (.tmp 5)), none, 0⟩])
 (.seq (.cond (.tmp 7) .skip (.exit 0))
 (.seq (.block 1 (.seq (.reg 0 [⟨(some 8), (.mv (.tmp 6)), none, 0⟩, ⟨(some 3), (.mv (.tmp 8)), none, 0⟩])
 (.seq (.reg 0 [⟨(some 9), (.load 1 false (.tmp 1)), none, 0⟩, ⟨(some 10), (.mv (.val (.lit (.int .i64 0)))), none, 0⟩])
 (.block 2 (.loop c59l0)))))
 (.reg 0 [⟨(some 24), (.bin .add (.tmp 6) (.val (.lit (.int .i64 1)))), none, 0⟩, ⟨(some 6), (.mv (.tmp 24)), none, 0⟩]))))
def c59 : ACode :=
 (.seq (.reg 0 [⟨(some 5), (.load 1 false (.tmp 1)), none, 0⟩, ⟨(some 6), (.mv (.val (.lit (.int .i64 0)))), none, 0⟩])
 (.block 0 (.loop c59l1)))
theorem e59 : envOf Try.prog muts 59 = some (25, c59, []) := by kernel_rfl
def c60l0 : ACode :=
 (.seq (.reg 0 [⟨(some 9), (.bin .lss (.tmp 8) (.tmp 7)), none, 0⟩])
 (.seq (.cond (.tmp 9) .skip (.exit 0))
 (.seq (.block 1 (.seq (.reg 0 [⟨(some 10), (.mv (.tmp 8)), none, 0⟩, ⟨(some 5), (.mv (.tmp 10)), none, 0⟩])
 (.seq (.reg 0 [⟨(some 11), (.mv (.tmp 1)), none, 0⟩, ⟨(some 12), (.mv (.tmp 0)), none, 0⟩, ⟨(some 13), (.mv (.tmp 5)), none, 0⟩, ⟨(some 14), (.iaddrS 2 (.tmp 12) (.tmp 13)), none, 0⟩, ⟨(some 15), (.load 2 true (.tmp 14)), none, 0⟩, ⟨(some 16), (.call true (.tmp 11) [(.tmp 15)]), none, 0⟩])
 (.cond (.tmp 16) (.seq (.reg 0 [⟨(some 17), (.mv (.tmp 5)), none, 0⟩, ⟨(some 4), (.mv (.tmp 17)), none, 0⟩])
 .ret) .skip))))
 (.reg 0 [⟨(some 18), (.bin .add (.tmp 8) (.val (.lit (.int .i64 1)))), none, 0⟩, ⟨(some 8), (.mv (.tmp 18)), none, 0⟩]))))
def c60 : ACode :=
 (.seq (.reg 0 [⟨(some 4), (.mv (.val (.lit (.int .i64 0)))), none, 0⟩])
 (.seq (.seq (.reg 0 [⟨(some 6), (.mv (.tmp 0)), none, 0⟩, ⟨(some 7), (.len (.tmp 6)), none, 0⟩, ⟨(some 8), (.mv (.val (.lit (.int .i64 0)))), none, 0⟩])
 (.block 0 (.loop c60l0)))
 (.seq (.reg 0 [⟨(some 4), (.mv (.val (.lit (.int .i64 (-1))))), none, 0⟩])
 .ret)))
theorem e60 : envOf Try.prog muts 60 = some (19, c60, [(Go.Abs.ARes.tmp 4)]) := by kernel_rfl
def c61 : ACode :=
 (.seq (.reg 0 [⟨(some 2), (.mv (.val (.sl true 0 []))), none, 0⟩])
 (.seq (.seq (.reg 0 [⟨(some 3), (.mv (.tmp 0)), none, 0⟩, ⟨(some 4), (.eqNil false (.tmp 3)), none, 0⟩])
 (.cond (.tmp 4) (.seq (.reg 0 [⟨(some 2), (.mv (.val (.sl true 0 []))), none, 0⟩])
 .ret) .skip))
 (.seq (.reg 2 [⟨(some 5), (.bslice 2 0 [(.lit (.int .i64 0)), (.lit (.int .i64 0))] []), none, 0⟩, ⟨(some 6), (.mv (.tmp 0)), none, 1⟩, ⟨(some 7), (.app 2 16 (.tmp 5) (.tmp 6)), none, 1⟩, ⟨(some 2), (.mv (.tmp 7)), none, 2⟩])
 .ret)))
theorem e61 : envOf Try.prog muts 61 = some (8, c61, [(Go.Abs.ARes.tmp 2)]) := by kernel_rfl
def c72l0 : ACode :=
 (.seq (.reg 0 [⟨(some 9), (.bin .lss (.tmp 8) (.tmp 7)), none, 0⟩])
 (.seq (.cond (.tmp 9) .skip (.exit 0))
 (.seq (.block 1 (.seq (.reg 0 [⟨(some 10), (.mv (.tmp 8)), none, 0⟩, ⟨(some 5), (.mv (.tmp 10)), none, 0⟩])
 (.seq (.reg 0 [⟨(some 11), (.mv (.tmp 1)), none, 0⟩, ⟨(some 12), (.mv (.tmp 0)), none, 0⟩, ⟨(some 13), (.mv (.tmp 5)), none, 0⟩, ⟨(some 14), (.iaddrS 1 (.tmp 12) (.tmp 13)), none, 0⟩, ⟨(some 15), (.load 1 false (.tmp 14)), none, 0⟩, ⟨(some 16), (.call true (.tmp 11) [(.tmp 15)]), none, 0⟩])
 (.cond (.tmp 16) (.seq (.reg 0 [⟨(some 17), (.mv (.tmp 5)), none, 0⟩, ⟨(some 4), (.mv (.tmp 17)), none, 0⟩])
 .ret) .skip))))
 (.reg 0 [⟨(some 18), (.bin .add (.tmp 8) (.val (.lit (.int .i64 1)))), none, 0⟩, ⟨(some 8), (.mv (.tmp 18)), none, 0⟩]))))
def c72 : ACode :=
 (.seq (.reg 0 [⟨(some 4), (.mv (.val (.lit (.int .i64 0)))), none, 0⟩])
 (.seq (.seq (.reg 0 [⟨(some 6), (.mv (.tmp 0)), none, 0⟩, ⟨(some 7), (.len (.tmp 6)), none, 0⟩, ⟨(some 8), (.mv (.val (.lit (.int .i64 0)))), none, 0⟩])
 (.block 0 (.loop c72l0)))
 (.seq (.reg 0 [⟨(some 4), (.mv (.val (.lit (.int .i64 (-1))))), none, 0⟩])
 .ret)))
theorem e72 : envOf Try.prog muts 72 = some (19, c72, [(Go.Abs.ARes.tmp 4)]) := by kernel_rfl
end Go.Abs
