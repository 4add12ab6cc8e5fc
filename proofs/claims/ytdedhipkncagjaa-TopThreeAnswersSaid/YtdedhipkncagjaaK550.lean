import Derived.Test.YtdedhipkncagjaaPCmin
set_option linter.all false
set_option linter.unusedVariables false
set_option linter.unusedSimpArgs false
set_option linter.unusedSectionVars false
namespace Go.Abs
open Go.Proofs
/-! TopThreeAnswers: the law's code, cut -/
def c3r0 (t : ACode) : ACode :=
 (.seq (.reg 2 [⟨(some 2), (.box 3 (.tmp 0)), none, 0⟩, ⟨(some 3), (.box 2 (.tmp 1)), none, 1⟩, ⟨(some 4), (.mv (.val (.lit (.bool false)))), none, 2⟩])
 (.seq (.seq (.reg 0 [⟨(some 21), (.call false (.val (.lit (.func (.func 5) #[] #[]))) []), none, 0⟩, ⟨(some 22), (.not (.tmp 21)), none, 0⟩])
 (.cond (.tmp 22) (.seq (.reg 0 [⟨(some 4), (.mv (.val (.lit (.bool false)))), none, 0⟩])
 .ret) .skip))
 (.seq (.reg 0 [⟨(some 24), (.load 3 true (.tmp 2)), none, 0⟩, ⟨(some 25), (.call false (.val (.lit (.func (.func 6) #[] #[]))) [(.tmp 24), (.val (.lit (.int .i64 1)))]), none, 0⟩, ⟨(some 23), (.mv (.tmp 25)), none, 0⟩, ⟨(some 26), (.ext (.tmp 23) 0), none, 0⟩, ⟨(some 27), (.ext (.tmp 23) 1), none, 0⟩, ⟨(some 5), (.mv (.tmp 26)), none, 0⟩, ⟨(some 6), (.mv (.tmp 27)), none, 0⟩])
 (.seq (.seq (.reg 0 [⟨(some 28), (.mv (.tmp 6)), none, 0⟩, ⟨(some 29), (.not (.tmp 28)), none, 0⟩, ⟨(some 30), (.mv (.tmp 29)), none, 0⟩, ⟨(some 31), (.load 2 true (.tmp 3)), (some (30, false)), 0⟩, ⟨(some 32), (.call false (.val (.lit (.func (.func 7) #[] #[]))) [(.tmp 31)]), (some (30, false)), 0⟩, ⟨(some 33), (.bin .neq (.tmp 32) (.val (.lit (.int .i64 0)))), (some (30, false)), 0⟩, ⟨(some 34), (.pick (.tmp 30) (.val (.lit (.bool true))) (.tmp 33)), none, 0⟩])
 (.cond (.tmp 34) (.seq (.reg 0 [⟨(some 4), (.mv (.val (.lit (.bool true)))), none, 0⟩])
 .ret) .skip))
 (.seq (.reg 0 [⟨(some 35), (.faddr 0 (.tmp 2)), none, 0⟩, ⟨(some 36), (.load 1 false (.tmp 35)), none, 0⟩, ⟨(some 37), (.len (.tmp 36)), none, 0⟩, ⟨(some 7), (.mv (.tmp 37)), none, 0⟩])
 (.seq (.reg 0 [⟨(some 39), (.mv (.tmp 7)), none, 0⟩, ⟨(some 40), (.mv (.tmp 5)), none, 0⟩, ⟨(some 41), (.call false (.val (.lit (.func (.func 8) #[] #[]))) [(.tmp 39), (.tmp 40)]), none, 0⟩, ⟨(some 38), (.mv (.tmp 41)), none, 0⟩, ⟨(some 42), (.ext (.tmp 38) 0), none, 0⟩, ⟨(some 43), (.ext (.tmp 38) 1), none, 0⟩, ⟨(some 44), (.ext (.tmp 38) 2), none, 0⟩, ⟨(some 8), (.mv (.tmp 42)), none, 0⟩, ⟨(some 9), (.mv (.tmp 43)), none, 0⟩, ⟨(some 10), (.mv (.tmp 44)), none, 0⟩])
 (.seq (.seq (.reg 0 [⟨(some 45), (.mv (.tmp 10)), none, 0⟩, ⟨(some 46), (.bin .neq (.tmp 45) (.val (.lit (.int .i64 0)))), none, 0⟩, ⟨(some 47), (.mv (.tmp 46)), none, 0⟩, ⟨(some 48), (.mv (.tmp 8)), (some (47, false)), 0⟩, ⟨(some 49), (.call false (.val (.lit (.func (.func 9) #[] #[]))) [(.tmp 48)]), (some (47, false)), 0⟩, ⟨(some 50), (.bin .neq (.tmp 49) (.val (.lit (.int .i64 0)))), (some (47, false)), 0⟩, ⟨(some 51), (.pick (.tmp 47) (.val (.lit (.bool true))) (.tmp 50)), none, 0⟩])
 (.cond (.tmp 51) (.seq (.reg 0 [⟨(some 4), (.mv (.val (.lit (.bool true)))), none, 0⟩])
 .ret) .skip))
 (.seq (.seq (.reg 0 [⟨(some 52), (.mv (.tmp 8)), none, 0⟩, ⟨(some 53), (.len (.tmp 52)), none, 0⟩, ⟨(some 54), (.mv (.tmp 7)), none, 0⟩, ⟨(some 55), (.bin .neq (.tmp 53) (.tmp 54)), none, 0⟩])
 (.cond (.tmp 55) (.seq (.reg 0 [⟨(some 4), (.mv (.val (.lit (.bool false)))), none, 0⟩])
 .ret) .skip))
 t))))))))
def c3r1 (t : ACode) : ACode :=
 (.seq (.reg 0 [⟨(some 11), (.mv (.val (.sl true 0 []))), none, 0⟩])
 (.seq (.seq (.reg 0 [⟨(some 12), (.mv (.val (.lit (.int .i64 0)))), none, 0⟩])
 (.block 0 (.loop c3l0)))
 t))
def c3r2 (t : ACode) : ACode :=
 (.seq (.reg 1 [⟨(some 81), (.mv (.tmp 8)), none, 0⟩, ⟨(some 82), (.load 2 true (.tmp 3)), none, 0⟩, ⟨(some 83), (.call false (.val (.lit (.func (.func 11) #[] #[]))) [(.tmp 81), (.tmp 82)]), none, 0⟩, ⟨(some 80), (.mv (.tmp 83)), none, 0⟩, ⟨(some 84), (.ext (.tmp 80) 0), none, 0⟩, ⟨(some 85), (.ext (.tmp 80) 1), none, 0⟩, ⟨(some 86), (.ext (.tmp 80) 2), none, 0⟩, ⟨(some 14), (.alloc [(.lit (.int .i64 0)), (.lit (.int .i64 0))]), none, 0⟩, ⟨(some 13), (.mv (.tmp 84)), none, 1⟩, ⟨none, (.store 2 (.tmp 14) (.tmp 85)), none, 1⟩, ⟨(some 15), (.mv (.tmp 86)), none, 1⟩])
 (.seq (.dreg 1 [(0, ⟨(some 88), (.mv (.tmp 11)), none, 0⟩), (1, ⟨(some 89), (.call false (.val (.lit (.func (.func 13) #[] #[]))) [(.tmp 88)]), none, 0⟩), (2, ⟨(some 90), (.load 2 true (.tmp 3)), none, 0⟩), (3, ⟨(some 91), (.call false (.val (.lit (.func (.func 12) #[] #[]))) [(.tmp 89), (.tmp 90)]), none, 0⟩), (4, ⟨(some 87), (.mv (.tmp 91)), none, 0⟩), (5, ⟨(some 92), (.ext (.tmp 87) 0), none, 0⟩), (6, ⟨(some 93), (.ext (.tmp 87) 1), none, 0⟩), (7, ⟨(some 16), (.alloc [(.lit (.int .i64 0)), (.lit (.int .i64 0))]), none, 0⟩), (8, ⟨none, (.store 2 (.tmp 16) (.tmp 92)), none, 1⟩), (9, ⟨(some 17), (.mv (.tmp 93)), none, 1⟩)] [[], [0], [], [1, 2, 0], [3, 1, 2, 0], [4, 3, 1, 2, 0], [4, 3, 1, 2, 0], [], [7, 5, 3, 0, 1, 2, 4], [6, 8, 0, 1, 2, 3, 4, 5, 7]])
 (.seq (.seq (.reg 0 [⟨(some 94), (.mv (.tmp 15)), none, 0⟩, ⟨(some 95), (.bin .neq (.tmp 94) (.val (.lit (.int .i64 0)))), none, 0⟩, ⟨(some 96), (.mv (.tmp 95)), none, 0⟩, ⟨(some 97), (.mv (.tmp 17)), (some (96, false)), 0⟩, ⟨(some 98), (.bin .neq (.tmp 97) (.val (.lit (.int .i64 0)))), (some (96, false)), 0⟩, ⟨(some 99), (.mv (.tmp 98)), (some (96, false)), 0⟩, ⟨(some 100), (.mv (.tmp 17)), (some (99, true)), 0⟩, ⟨(some 101), (.bin .neq (.tmp 100) (.val (.lit (.int .i64 26)))), (some (99, true)), 0⟩, ⟨(some 102), (.pick (.tmp 99) (.tmp 101) (.val (.lit (.bool false)))), (some (96, false)), 0⟩, ⟨(some 103), (.pick (.tmp 96) (.val (.lit (.bool true))) (.tmp 102)), none, 0⟩])
 (.cond (.tmp 103) (.seq (.reg 0 [⟨(some 4), (.mv (.val (.lit (.bool false)))), none, 0⟩])
 .ret) .skip))
 (.seq (.seq (.reg 0 [⟨(some 104), (.mv (.tmp 13)), none, 0⟩, ⟨(some 105), (.bin .eql (.tmp 104) (.val (.lit (.int .i64 1)))), none, 0⟩, ⟨(some 106), (.mv (.tmp 105)), none, 0⟩, ⟨(some 107), (.mv (.tmp 17)), (some (106, true)), 0⟩, ⟨(some 108), (.bin .neq (.tmp 107) (.val (.lit (.int .i64 0)))), (some (106, true)), 0⟩, ⟨(some 109), (.pick (.tmp 106) (.tmp 108) (.val (.lit (.bool false)))), none, 0⟩, ⟨(some 110), (.mv (.tmp 109)), none, 0⟩, ⟨(some 111), (.mv (.tmp 13)), (some (110, false)), 0⟩, ⟨(some 112), (.bin .eql (.tmp 111) (.val (.lit (.int .i64 (-1))))), (some (110, false)), 0⟩, ⟨(some 113), (.mv (.tmp 112)), (some (110, false)), 0⟩, ⟨(some 114), (.mv (.tmp 17)), (some (113, true)), 0⟩, ⟨(some 115), (.bin .eql (.tmp 114) (.val (.lit (.int .i64 0)))), (some (113, true)), 0⟩, ⟨(some 116), (.pick (.tmp 113) (.tmp 115) (.val (.lit (.bool false)))), (some (110, false)), 0⟩, ⟨(some 117), (.pick (.tmp 110) (.val (.lit (.bool true))) (.tmp 116)), none, 0⟩])
 (.cond (.tmp 117) (.seq (.reg 0 [⟨(some 4), (.mv (.val (.lit (.bool false)))), none, 0⟩])
 .ret) .skip))
 t))))
def c3r3 (t : ACode) : ACode :=
 (.seq (.reg 0 [⟨(some 119), (.mv (.tmp 8)), none, 0⟩, ⟨(some 120), (.load 2 true (.tmp 3)), none, 0⟩, ⟨(some 121), (.call false (.val (.lit (.func (.func 14) #[] #[]))) [(.tmp 119), (.tmp 120)]), none, 0⟩, ⟨(some 118), (.mv (.tmp 121)), none, 0⟩, ⟨(some 122), (.ext (.tmp 118) 0), none, 0⟩, ⟨(some 123), (.ext (.tmp 118) 1), none, 0⟩, ⟨(some 18), (.mv (.tmp 122)), none, 0⟩, ⟨(some 19), (.mv (.tmp 123)), none, 0⟩])
 (.seq (.seq (.reg 0 [⟨(some 124), (.mv (.tmp 19)), none, 0⟩, ⟨(some 125), (.bin .neq (.tmp 124) (.val (.lit (.int .i64 0)))), none, 0⟩])
 (.cond (.tmp 125) (.seq (.reg 0 [⟨(some 126), (.mv (.tmp 13)), none, 0⟩, ⟨(some 127), (.bin .neq (.tmp 126) (.val (.lit (.int .i64 0)))), none, 0⟩, ⟨(some 128), (.mv (.tmp 127)), none, 0⟩, ⟨(some 129), (.mv (.tmp 19)), (some (128, false)), 0⟩, ⟨(some 130), (.bin .eql (.tmp 129) (.val (.lit (.int .i64 8)))), (some (128, false)), 0⟩, ⟨(some 131), (.pick (.tmp 128) (.val (.lit (.bool true))) (.tmp 130)), none, 0⟩, ⟨(some 132), (.mv (.tmp 131)), none, 0⟩, ⟨(some 133), (.mv (.tmp 19)), (some (132, false)), 0⟩, ⟨(some 134), (.bin .eql (.tmp 133) (.val (.lit (.int .i64 12)))), (some (132, false)), 0⟩, ⟨(some 135), (.pick (.tmp 132) (.val (.lit (.bool true))) (.tmp 134)), none, 0⟩, ⟨(some 4), (.mv (.tmp 135)), none, 0⟩])
 .ret) .skip))
 t))
def c3r4 : ACode :=
 (.seq (.seq (.reg 0 [⟨(some 136), (.mv (.tmp 18)), none, 0⟩, ⟨(some 137), (.mv (.tmp 7)), none, 0⟩, ⟨(some 138), (.bin .sub (.tmp 137) (.val (.lit (.int .i64 1)))), none, 0⟩, ⟨(some 139), (.call false (.val (.lit (.func (.func 10) #[] #[]))) [(.tmp 136), (.val (.lit (.int .i64 0))), (.tmp 138)]), none, 0⟩, ⟨(some 140), (.not (.tmp 139)), none, 0⟩])
 (.cond (.tmp 140) (.seq (.reg 0 [⟨(some 4), (.mv (.val (.lit (.bool false)))), none, 0⟩])
 .ret) .skip))
 (.seq (.reg 0 [⟨(some 141), (.mv (.tmp 8)), none, 0⟩, ⟨(some 142), (.call false (.val (.lit (.func (.func 15) #[] #[]))) [(.tmp 141)]), none, 0⟩, ⟨(some 20), (.mv (.tmp 142)), none, 0⟩])
 (.seq (.dreg 0 [(0, ⟨(some 143), (.mv (.tmp 20)), none, 0⟩), (1, ⟨(some 144), (.mv (.tmp 18)), none, 0⟩), (2, ⟨(some 145), (.mv (.tmp 11)), none, 0⟩), (3, ⟨(some 146), (.mv (.tmp 18)), none, 0⟩), (4, ⟨(some 147), (.iaddrS 1 (.tmp 145) (.tmp 146)), none, 0⟩), (5, ⟨(some 148), (.load 1 false (.tmp 147)), none, 0⟩), (6, ⟨(some 149), (.mv (.tmp 11)), none, 0⟩), (7, ⟨(some 150), (.mv (.tmp 18)), none, 0⟩), (8, ⟨(some 151), (.iaddrS 1 (.tmp 149) (.tmp 150)), none, 0⟩), (9, ⟨(some 152), (.load 1 false (.tmp 151)), none, 0⟩), (10, ⟨(some 153), (.build [(.lit (.int .i64 0)), (.lit (.int .i64 0))] [(0, (1, (.tmp 148))), (1, (1, (.tmp 152)))]), none, 0⟩), (11, ⟨(some 154), (.iaddrS 2 (.tmp 143) (.tmp 144)), none, 0⟩), (12, ⟨none, (.store 2 (.tmp 154) (.tmp 153)), none, 0⟩)] [[], [], [], [], [2, 3], [4, 2, 3], [], [], [6, 7], [8, 6, 7], [5, 9, 4, 2, 3, 8, 6, 7], [0, 1, 2, 3, 4, 5, 6, 7, 8, 9, 10], [11, 10, 0, 1, 2, 3, 4, 5, 6, 7, 8, 9]])
 (.seq (.reg 0 [⟨(some 156), (.mv (.tmp 20)), none, 0⟩, ⟨(some 157), (.load 2 true (.tmp 3)), none, 0⟩, ⟨(some 158), (.call false (.val (.lit (.func (.func 11) #[] #[]))) [(.tmp 156), (.tmp 157)]), none, 0⟩, ⟨(some 155), (.mv (.tmp 158)), none, 0⟩, ⟨(some 159), (.ext (.tmp 155) 0), none, 0⟩, ⟨(some 160), (.ext (.tmp 155) 1), none, 0⟩, ⟨(some 161), (.ext (.tmp 155) 2), none, 0⟩, ⟨(some 13), (.mv (.tmp 159)), none, 0⟩, ⟨(some 15), (.mv (.tmp 161)), none, 0⟩])
 (.seq (.reg 0 [⟨(some 162), (.mv (.tmp 15)), none, 0⟩, ⟨(some 163), (.bin .eql (.tmp 162) (.val (.lit (.int .i64 0)))), none, 0⟩, ⟨(some 164), (.mv (.tmp 163)), none, 0⟩, ⟨(some 165), (.mv (.tmp 13)), (some (164, true)), 0⟩, ⟨(some 166), (.bin .neq (.tmp 165) (.val (.lit (.int .i64 0)))), (some (164, true)), 0⟩, ⟨(some 167), (.pick (.tmp 164) (.tmp 166) (.val (.lit (.bool false)))), none, 0⟩, ⟨(some 168), (.mv (.tmp 167)), none, 0⟩, ⟨(some 169), (.mv (.tmp 13)), (some (168, true)), 0⟩, ⟨(some 170), (.bin .eql (.tmp 169) (.val (.lit (.int .i64 1)))), (some (168, true)), 0⟩, ⟨(some 171), (.mv (.tmp 17)), (some (168, true)), 0⟩, ⟨(some 172), (.bin .eql (.tmp 171) (.val (.lit (.int .i64 0)))), (some (168, true)), 0⟩, ⟨(some 173), (.eqBool false (.tmp 170) (.tmp 172)), (some (168, true)), 0⟩, ⟨(some 174), (.pick (.tmp 168) (.tmp 173) (.val (.lit (.bool false)))), none, 0⟩, ⟨(some 4), (.mv (.tmp 174)), none, 0⟩])
 .ret)))))
theorem c3_cut : c3 = c3r0 (c3r1 (c3r2 (c3r3 c3r4))) := rfl
end Go.Abs
