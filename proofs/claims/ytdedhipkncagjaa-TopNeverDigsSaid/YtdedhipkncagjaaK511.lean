import Derived.Test.YtdedhipkncagjaaPCmin
set_option linter.all false
set_option linter.unusedVariables false
set_option linter.unusedSimpArgs false
set_option linter.unusedSectionVars false
namespace Go.Abs
open Go.Proofs
/-! TopNeverDigs: the law's code, cut -/
def c4r0 (t : ACode) : ACode :=
 (.seq (.reg 1 [⟨(some 3), (.box 3 (.tmp 0)), none, 0⟩, ⟨(some 6), (.mv (.val (.lit (.bool false)))), none, 1⟩])
 (.seq (.seq (.reg 0 [⟨(some 24), (.call false (.val (.lit (.func (.func 5) #[] #[]))) []), none, 0⟩, ⟨(some 25), (.not (.tmp 24)), none, 0⟩])
 (.cond (.tmp 25) (.seq (.reg 0 [⟨(some 6), (.mv (.val (.lit (.bool false)))), none, 0⟩])
 .ret) .skip))
 (.seq (.seq (.reg 0 [⟨(some 26), (.faddr 0 (.tmp 3)), none, 0⟩, ⟨(some 27), (.load 1 false (.tmp 26)), none, 0⟩, ⟨(some 28), (.len (.tmp 27)), none, 0⟩, ⟨(some 29), (.bin .gtr (.tmp 28) (.val (.lit (.int .i64 4)))), none, 0⟩, ⟨(some 30), (.mv (.tmp 29)), none, 0⟩, ⟨(some 31), (.faddr 1 (.tmp 3)), (some (30, false)), 0⟩, ⟨(some 32), (.load 1 false (.tmp 31)), (some (30, false)), 0⟩, ⟨(some 33), (.len (.tmp 32)), (some (30, false)), 0⟩, ⟨(some 34), (.bin .gtr (.tmp 33) (.val (.lit (.int .i64 6)))), (some (30, false)), 0⟩, ⟨(some 35), (.pick (.tmp 30) (.val (.lit (.bool true))) (.tmp 34)), none, 0⟩, ⟨(some 36), (.mv (.tmp 35)), none, 0⟩, ⟨(some 37), (.mv (.tmp 1)), (some (36, false)), 0⟩, ⟨(some 38), (.len (.tmp 37)), (some (36, false)), 0⟩, ⟨(some 39), (.bin .gtr (.tmp 38) (.val (.lit (.int .i64 6)))), (some (36, false)), 0⟩, ⟨(some 40), (.pick (.tmp 36) (.val (.lit (.bool true))) (.tmp 39)), none, 0⟩, ⟨(some 41), (.mv (.tmp 40)), none, 0⟩, ⟨(some 42), (.mv (.tmp 2)), (some (41, false)), 0⟩, ⟨(some 43), (.len (.tmp 42)), (some (41, false)), 0⟩, ⟨(some 44), (.mv (.tmp 1)), (some (41, false)), 0⟩, ⟨(some 45), (.len (.tmp 44)), (some (41, false)), 0⟩, ⟨(some 46), (.bin .neq (.tmp 43) (.tmp 45)), (some (41, false)), 0⟩, ⟨(some 47), (.pick (.tmp 41) (.val (.lit (.bool true))) (.tmp 46)), none, 0⟩, ⟨(some 48), (.mv (.tmp 47)), none, 0⟩, ⟨(some 49), (.faddr 2 (.tmp 3)), (some (48, false)), 0⟩, ⟨(some 50), (.load 1 false (.tmp 49)), (some (48, false)), 0⟩, ⟨(some 51), (.lenS (.tmp 50)), (some (48, false)), 0⟩, ⟨(some 52), (.bin .gtr (.tmp 51) (.val (.lit (.int .i64 30)))), (some (48, false)), 0⟩, ⟨(some 53), (.pick (.tmp 48) (.val (.lit (.bool true))) (.tmp 52)), none, 0⟩, ⟨(some 54), (.mv (.tmp 53)), none, 0⟩, ⟨(some 55), (.mv (.tmp 1)), (some (54, false)), 0⟩, ⟨(some 56), (.mv (.tmp 2)), (some (54, false)), 0⟩, ⟨(some 57), (.call false (.val (.lit (.func (.func 16) #[] #[]))) [(.tmp 55), (.tmp 56)]), (some (54, false)), 0⟩, ⟨(some 58), (.bin .neq (.tmp 57) (.val (.lit (.int .i64 0)))), (some (54, false)), 0⟩, ⟨(some 59), (.pick (.tmp 54) (.val (.lit (.bool true))) (.tmp 58)), none, 0⟩])
 (.cond (.tmp 59) (.seq (.reg 0 [⟨(some 6), (.mv (.val (.lit (.bool true)))), none, 0⟩])
 .ret) .skip))
 (.seq (.seq (.reg 0 [⟨(some 7), (.mv (.val (.lit (.int .i64 0)))), none, 0⟩])
 (.block 0 (.loop c4l0)))
 t))))
def c4r1 (t : ACode) : ACode :=
 (.seq (.reg 1 [⟨(some 8), (.alloc [(.sl true 0 []), (.sl true 0 [])]), none, 0⟩])
 (.seq (.seq (.reg 0 [⟨(some 9), (.mv (.val (.lit (.int .i64 0)))), none, 0⟩])
 (.block 2 (.loop c4l1)))
 t))
def c4r2 (t : ACode) : ACode :=
 (.seq (.reg 0 [⟨(some 10), (.mv (.val (.sl true 0 []))), none, 0⟩])
 (.seq (.reg 0 [⟨(some 11), (.mv (.val (.sl true 0 []))), none, 0⟩])
 (.seq (.seq (.reg 0 [⟨(some 12), (.mv (.val (.lit (.int .i64 0)))), none, 0⟩])
 (.block 4 (.loop c4l2)))
 t)))
def c4r3 : ACode :=
 (.seq (.reg 0 [⟨(some 182), (.faddr 0 (.tmp 3)), none, 0⟩, ⟨(some 183), (.load 1 false (.tmp 182)), none, 0⟩, ⟨(some 184), (.mv (.tmp 10)), none, 0⟩, ⟨(some 185), (.faddr 2 (.tmp 3)), none, 0⟩, ⟨(some 186), (.load 1 false (.tmp 185)), none, 0⟩, ⟨(some 187), (.call false (.val (.lit (.func (.func 18) #[] #[]))) [(.tmp 183), (.tmp 184), (.tmp 186)]), none, 0⟩, ⟨(some 181), (.mv (.tmp 187)), none, 0⟩, ⟨(some 188), (.ext (.tmp 181) 0), none, 0⟩, ⟨(some 189), (.ext (.tmp 181) 1), none, 0⟩, ⟨(some 18), (.mv (.tmp 188)), none, 0⟩, ⟨(some 19), (.mv (.tmp 189)), none, 0⟩])
 (.seq (.seq (.reg 0 [⟨(some 190), (.mv (.tmp 19)), none, 0⟩, ⟨(some 191), (.bin .neq (.tmp 190) (.val (.lit (.int .i64 0)))), none, 0⟩])
 (.cond (.tmp 191) (.seq (.reg 0 [⟨(some 6), (.mv (.val (.lit (.bool true)))), none, 0⟩])
 .ret) .skip))
 (.seq (.reg 1 [⟨(some 193), (.mv (.tmp 1)), none, 0⟩, ⟨(some 194), (.call false (.val (.lit (.func (.func 13) #[] #[]))) [(.tmp 193)]), none, 0⟩, ⟨(some 195), (.mv (.tmp 2)), none, 0⟩, ⟨(some 196), (.call false (.val (.lit (.func (.func 13) #[] #[]))) [(.tmp 195)]), none, 0⟩, ⟨(some 197), (.mv (.tmp 18)), none, 0⟩, ⟨(some 198), (.bslice 1 1 [(.sl true 0 [])] [(0, (.tmp 197))]), none, 0⟩, ⟨(some 199), (.call false (.val (.lit (.func (.func 19) #[] #[]))) [(.tmp 194), (.tmp 196), (.tmp 198)]), none, 1⟩, ⟨(some 192), (.mv (.tmp 199)), none, 1⟩, ⟨(some 200), (.ext (.tmp 192) 0), none, 1⟩, ⟨(some 201), (.ext (.tmp 192) 1), none, 1⟩, ⟨(some 20), (.mv (.tmp 200)), none, 1⟩, ⟨(some 21), (.mv (.tmp 201)), none, 1⟩])
 (.seq (.reg 0 [⟨(some 203), (.mv (.tmp 1)), none, 0⟩, ⟨(some 204), (.call false (.val (.lit (.func (.func 13) #[] #[]))) [(.tmp 203)]), none, 0⟩, ⟨(some 205), (.mv (.tmp 2)), none, 0⟩, ⟨(some 206), (.call false (.val (.lit (.func (.func 13) #[] #[]))) [(.tmp 205)]), none, 0⟩, ⟨(some 207), (.mv (.tmp 11)), none, 0⟩, ⟨(some 208), (.call false (.val (.lit (.func (.func 19) #[] #[]))) [(.tmp 204), (.tmp 206), (.tmp 207)]), none, 0⟩, ⟨(some 202), (.mv (.tmp 208)), none, 0⟩, ⟨(some 209), (.ext (.tmp 202) 0), none, 0⟩, ⟨(some 210), (.ext (.tmp 202) 1), none, 0⟩, ⟨(some 22), (.mv (.tmp 209)), none, 0⟩, ⟨(some 23), (.mv (.tmp 210)), none, 0⟩])
 (.seq (.reg 0 [⟨(some 211), (.mv (.tmp 21)), none, 0⟩, ⟨(some 212), (.bin .eql (.tmp 211) (.val (.lit (.int .i64 0)))), none, 0⟩, ⟨(some 213), (.mv (.tmp 212)), none, 0⟩, ⟨(some 214), (.mv (.tmp 23)), (some (213, true)), 0⟩, ⟨(some 215), (.bin .eql (.tmp 214) (.val (.lit (.int .i64 0)))), (some (213, true)), 0⟩, ⟨(some 216), (.pick (.tmp 213) (.tmp 215) (.val (.lit (.bool false)))), none, 0⟩, ⟨(some 6), (.mv (.tmp 216)), none, 0⟩])
 .ret)))))
theorem c4_cut : c4 = c4r0 (c4r1 (c4r2 c4r3)) := rfl
def c4r4 (t : ACode) : ACode :=
 (.seq (.reg 1 [⟨(some 130), (.faddr 1 (.tmp 3)), none, 0⟩, ⟨(some 131), (.load 1 false (.tmp 130)), none, 0⟩, ⟨(some 132), (.mv (.tmp 12)), none, 0⟩, ⟨(some 133), (.iaddrS 3 (.tmp 131) (.tmp 132)), none, 0⟩, ⟨(some 134), (.load 3 true (.tmp 133)), none, 0⟩, ⟨(some 13), (.alloc [(.lit (.string ⟨#[]⟩)), (.lit (.string ⟨#[]⟩)), (.lit (.int .i64 0))]), none, 0⟩, ⟨none, (.store 3 (.tmp 13) (.tmp 134)), none, 1⟩])
 (.seq (.seq (.reg 0 [⟨(some 135), (.faddr 0 (.tmp 13)), none, 0⟩, ⟨(some 136), (.load 1 false (.tmp 135)), none, 0⟩, ⟨(some 137), (.lenS (.tmp 136)), none, 0⟩, ⟨(some 138), (.bin .gtr (.tmp 137) (.val (.lit (.int .i64 30)))), none, 0⟩, ⟨(some 139), (.mv (.tmp 138)), none, 0⟩, ⟨(some 140), (.faddr 1 (.tmp 13)), (some (139, false)), 0⟩, ⟨(some 141), (.load 1 false (.tmp 140)), (some (139, false)), 0⟩, ⟨(some 142), (.lenS (.tmp 141)), (some (139, false)), 0⟩, ⟨(some 143), (.bin .gtr (.tmp 142) (.val (.lit (.int .i64 30)))), (some (139, false)), 0⟩, ⟨(some 144), (.pick (.tmp 139) (.val (.lit (.bool true))) (.tmp 143)), none, 0⟩])
 (.cond (.tmp 144) (.seq (.reg 0 [⟨(some 6), (.mv (.val (.lit (.bool true)))), none, 0⟩])
 .ret) .skip))
 (.seq (.dreg 2 [(0, ⟨(some 146), (.faddr 0 (.tmp 3)), none, 0⟩), (1, ⟨(some 147), (.load 1 false (.tmp 146)), none, 0⟩), (2, ⟨(some 148), (.load 2 true (.tmp 8)), none, 0⟩), (3, ⟨(some 149), (.bslice 3 0 [(.lit (.string ⟨#[]⟩)), (.lit (.string ⟨#[]⟩)), (.lit (.int .i64 0))] []), none, 0⟩), (4, ⟨(some 150), (.mv (.tmp 10)), none, 1⟩), (5, ⟨(some 151), (.app 3 40 (.tmp 149) (.tmp 150)), none, 1⟩), (6, ⟨(some 152), (.load 3 true (.tmp 13)), none, 2⟩), (7, ⟨(some 153), (.call false (.val (.lit (.func (.func 17) #[] #[]))) [(.tmp 147), (.tmp 148), (.tmp 151), (.tmp 152)]), none, 2⟩), (8, ⟨(some 145), (.mv (.tmp 153)), none, 2⟩), (9, ⟨(some 154), (.ext (.tmp 145) 0), none, 2⟩), (10, ⟨(some 155), (.ext (.tmp 145) 1), none, 2⟩), (11, ⟨(some 14), (.mv (.tmp 154)), none, 2⟩), (12, ⟨(some 15), (.mv (.tmp 155)), none, 2⟩)] [[], [0], [], [], [], [3, 4], [], [1, 2, 5, 6, 0, 3, 4], [7, 1, 2, 5, 6, 0, 3, 4], [8, 7, 1, 2, 5, 6, 0, 3, 4], [8, 7, 1, 2, 5, 6, 0, 3, 4], [9, 7, 0, 1, 2, 3, 4, 5, 6, 8], [10, 11, 0, 1, 2, 3, 4, 5, 6, 7, 8, 9]])
 (.seq (.seq (.reg 0 [⟨(some 156), (.mv (.tmp 15)), none, 0⟩, ⟨(some 157), (.bin .neq (.tmp 156) (.val (.lit (.int .i64 0)))), none, 0⟩])
 (.cond (.tmp 157) (.exit 5) .skip))
 t))))
def c4r5 (t : ACode) : ACode :=
 (.seq (.seq (.reg 0 [⟨(some 158), (.mv (.tmp 14)), none, 0⟩, ⟨(some 159), (.len (.tmp 158)), none, 0⟩, ⟨(some 160), (.mv (.tmp 10)), none, 0⟩, ⟨(some 161), (.len (.tmp 160)), none, 0⟩, ⟨(some 162), (.bin .add (.tmp 161) (.val (.lit (.int .i64 1)))), none, 0⟩, ⟨(some 163), (.bin .neq (.tmp 159) (.tmp 162)), none, 0⟩])
 (.cond (.tmp 163) (.seq (.reg 0 [⟨(some 6), (.mv (.val (.lit (.bool false)))), none, 0⟩])
 .ret) .skip))
 t)
def c4r6 : ACode :=
 (.seq (.seq (.reg 1 [⟨(some 165), (.faddr 0 (.tmp 3)), none, 0⟩, ⟨(some 166), (.load 1 false (.tmp 165)), none, 0⟩, ⟨(some 167), (.load 3 true (.tmp 13)), none, 0⟩, ⟨(some 168), (.bslice 3 1 [(.lit (.string ⟨#[]⟩)), (.lit (.string ⟨#[]⟩)), (.lit (.int .i64 0))] [(0, (.tmp 167))]), none, 0⟩, ⟨(some 169), (.faddr 2 (.tmp 3)), none, 1⟩, ⟨(some 170), (.load 1 false (.tmp 169)), none, 1⟩, ⟨(some 171), (.call false (.val (.lit (.func (.func 18) #[] #[]))) [(.tmp 166), (.tmp 168), (.tmp 170)]), none, 1⟩, ⟨(some 164), (.mv (.tmp 171)), none, 1⟩, ⟨(some 172), (.ext (.tmp 164) 0), none, 1⟩, ⟨(some 173), (.ext (.tmp 164) 1), none, 1⟩, ⟨(some 16), (.mv (.tmp 172)), none, 1⟩, ⟨(some 17), (.mv (.tmp 173)), none, 1⟩])
 (.seq (.reg 0 [⟨(some 174), (.mv (.tmp 17)), none, 0⟩, ⟨(some 175), (.bin .eql (.tmp 174) (.val (.lit (.int .i64 0)))), none, 0⟩])
 (.cond (.tmp 175) (.reg 2 [⟨(some 176), (.mv (.tmp 16)), none, 0⟩, ⟨(some 177), (.bslice 1 1 [(.sl true 0 [])] [(0, (.tmp 176))]), none, 0⟩, ⟨(some 178), (.mv (.tmp 11)), none, 1⟩, ⟨(some 179), (.app 1 24 (.tmp 177) (.tmp 178)), none, 1⟩, ⟨(some 11), (.mv (.tmp 179)), none, 2⟩]) .skip)))
 (.reg 0 [⟨(some 180), (.mv (.tmp 14)), none, 0⟩, ⟨(some 10), (.mv (.tmp 180)), none, 0⟩]))
theorem c4l2_cut : c4l2 = (.seq (.seq (.reg 0 [⟨(some 123), (.mv (.tmp 12)), none, 0⟩, ⟨(some 124), (.faddr 1 (.tmp 3)), none, 0⟩, ⟨(some 125), (.load 1 false (.tmp 124)), none, 0⟩, ⟨(some 126), (.len (.tmp 125)), none, 0⟩, ⟨(some 127), (.bin .lss (.tmp 123) (.tmp 126)), none, 0⟩])
 (.cond (.tmp 127) .skip (.exit 4)))
 (.seq (.block 5 (c4r4 (c4r5 c4r6)))
 (.reg 0 [⟨(some 128), (.mv (.tmp 12)), none, 0⟩, ⟨(some 129), (.bin .add (.tmp 128) (.val (.lit (.int .i64 1)))), none, 0⟩, ⟨(some 12), (.mv (.tmp 129)), none, 0⟩]))) := rfl
end Go.Abs
