import Derived.Test.YtodheeifecoebaaAbs21
import Derived.KernelRfl
import Derived.Test.YtodheeifecoebaaProg
set_option linter.all false
set_option linter.unusedVariables false
set_option linter.unusedSimpArgs false
set_option linter.unusedSectionVars false
/- The code of the functions that are walked, as the machine of these texts has it. -/
namespace Go.Abs
open Go.Proofs
abbrev muts : List FuncId := [131]
def c40l0 : ACode :=
 (.seq (.seq (.reg 0 [⟨(some 16), (.mv (.tmp 6)), none, 0⟩, ⟨(some 17), (.faddr 0 (.tmp 1)), none, 0⟩, ⟨(some 18), (.load 1 false (.tmp 17)), none, 0⟩, ⟨(some 19), (.bin .lss (.tmp 16) (.tmp 18)), none, 0⟩])
 (.cond (.tmp 19) .skip (.exit 2)))
 (.seq (.block 3 (.seq (.dreg 0 [(0, ⟨(some 22), (.load 2 true (.tmp 1)), none, 0⟩), (1, ⟨(some 23), (.mv (.tmp 6)), none, 0⟩), (2, ⟨(some 24), (.mv (.tmp 5)), none, 0⟩), (3, ⟨(some 25), (.faddr 0 (.tmp 1)), none, 0⟩), (4, ⟨(some 26), (.load 1 false (.tmp 25)), none, 0⟩), (5, ⟨(some 27), (.mv (.tmp 3)), none, 0⟩), (6, ⟨(some 28), (.bin .quo (.tmp 26) (.tmp 27)), none, 0⟩), (7, ⟨(some 29), (.bin .mul (.tmp 24) (.tmp 28)), none, 0⟩), (8, ⟨(some 30), (.bin .sub (.tmp 23) (.tmp 29)), none, 0⟩), (9, ⟨(some 31), (.faddr 0 (.tmp 1)), none, 0⟩), (10, ⟨(some 32), (.load 1 false (.tmp 31)), none, 0⟩), (11, ⟨(some 33), (.call false (.val (.lit (.func (.func 24) #[] #[]))) [(.tmp 30), (.tmp 32)]), none, 0⟩), (12, ⟨(some 34), (.call false (.val (.lit (.func (.func 103) #[] #[]))) [(.tmp 22), (.tmp 33)]), none, 0⟩), (13, ⟨(some 7), (.mv (.tmp 34)), none, 0⟩)] [[], [], [], [], [3], [], [4, 5, 3], [2, 6, 4, 5, 3], [1, 7, 2, 6, 4, 5, 3], [], [9], [8, 10, 1, 7, 2, 6, 4, 5, 3, 9], [0, 11, 8, 10, 1, 7, 2, 6, 4, 5, 3, 9], [12, 0, 1, 2, 3, 4, 5, 6, 7, 8, 9, 10, 11]])
 (.dreg 0 [(0, ⟨(some 35), (.mv (.tmp 4)), none, 0⟩), (1, ⟨(some 36), (.mv (.tmp 3)), none, 0⟩), (2, ⟨(some 37), (.mv (.tmp 3)), none, 0⟩), (3, ⟨(some 38), (.bin .mul (.tmp 36) (.tmp 37)), none, 0⟩), (4, ⟨(some 39), (.faddr 1 (.tmp 1)), none, 0⟩), (5, ⟨(some 40), (.load 1 false (.tmp 39)), none, 0⟩), (6, ⟨(some 41), (.mv (.tmp 5)), none, 0⟩), (7, ⟨(some 42), (.iaddrS 1 (.tmp 40) (.tmp 41)), none, 0⟩), (8, ⟨(some 43), (.load 1 false (.tmp 42)), none, 0⟩), (9, ⟨(some 44), (.mv (.tmp 6)), none, 0⟩), (10, ⟨(some 45), (.iaddrS 1 (.tmp 43) (.tmp 44)), none, 0⟩), (11, ⟨(some 46), (.load 1 false (.tmp 45)), none, 0⟩), (12, ⟨(some 47), (.bin .mul (.tmp 38) (.tmp 46)), none, 0⟩), (13, ⟨(some 48), (.mv (.tmp 7)), none, 0⟩), (14, ⟨(some 49), (.bin .sub (.tmp 47) (.tmp 48)), none, 0⟩), (15, ⟨(some 50), (.mv (.tmp 3)), none, 0⟩), (16, ⟨(some 51), (.load 2 true (.tmp 1)), none, 0⟩), (17, ⟨(some 52), (.mv (.tmp 6)), none, 0⟩), (18, ⟨(some 53), (.call false (.val (.lit (.func (.func 104) #[] #[]))) [(.tmp 51), (.tmp 52)]), none, 0⟩), (19, ⟨(some 54), (.bin .mul (.tmp 50) (.tmp 53)), none, 0⟩), (20, ⟨(some 55), (.bin .sub (.tmp 49) (.tmp 54)), none, 0⟩), (21, ⟨(some 56), (.call false (.val (.lit (.func (.func 59) #[] #[]))) [(.tmp 55)]), none, 0⟩), (22, ⟨(some 57), (.minmax true [(.tmp 35), (.tmp 56)]), none, 0⟩), (23, ⟨(some 4), (.mv (.tmp 57)), none, 0⟩)] [[], [], [], [1, 2], [], [4], [], [5, 6, 4], [7, 5, 6, 4], [], [8, 9, 7, 5, 6, 4], [10, 8, 9, 7, 5, 6, 4], [3, 11, 1, 2, 10, 8, 9, 7, 5, 6, 4], [], [12, 13, 3, 11, 1, 2, 10, 8, 9, 7, 5, 6, 4], [], [], [], [16, 17], [15, 18, 16, 17], [14, 19, 12, 13, 3, 11, 1, 2, 10, 8, 9, 7, 5, 6, 4, 15, 18, 16, 17], [20, 18, 14, 19, 12, 13, 3, 11, 1, 2, 10, 8, 9, 7, 5, 6, 4, 15, 16, 17], [0, 21, 20, 18, 14, 19, 12, 13, 3, 11, 1, 2, 10, 8, 9, 7, 5, 6, 4, 15, 16, 17], [22, 21, 0, 1, 2, 3, 4, 5, 6, 7, 8, 9, 10, 11, 12, 13, 14, 15, 16, 17, 18, 19, 20]])))
 (.reg 0 [⟨(some 20), (.mv (.tmp 6)), none, 0⟩, ⟨(some 21), (.bin .add (.tmp 20) (.val (.lit (.int .i64 1)))), none, 0⟩, ⟨(some 6), (.mv (.tmp 21)), none, 0⟩])))
def c40l1 : ACode :=
 (.seq (.seq (.reg 0 [⟨(some 11), (.mv (.tmp 5)), none, 0⟩, ⟨(some 12), (.mv (.tmp 3)), none, 0⟩, ⟨(some 13), (.bin .lss (.tmp 11) (.tmp 12)), none, 0⟩])
 (.cond (.tmp 13) .skip (.exit 0)))
 (.seq (.block 1 (.seq (.reg 0 [⟨(some 6), (.mv (.val (.lit (.int .i64 0)))), none, 0⟩])
 (.block 2 (.loop c40l0))))
 (.reg 0 [⟨(some 14), (.mv (.tmp 5)), none, 0⟩, ⟨(some 15), (.bin .add (.tmp 14) (.val (.lit (.int .i64 1)))), none, 0⟩, ⟨(some 5), (.mv (.tmp 15)), none, 0⟩])))
def c40 : ACode :=
 (.seq (.reg 2 [⟨(some 1), (.box 2 (.tmp 0)), none, 0⟩, ⟨(some 2), (.alloc [(.lit (.int .i64 0)), (.lit (.int .i64 0))]), none, 1⟩])
 (.seq (.reg 0 [⟨(some 8), (.faddr 1 (.tmp 1)), none, 0⟩, ⟨(some 9), (.load 1 false (.tmp 8)), none, 0⟩, ⟨(some 10), (.len (.tmp 9)), none, 0⟩, ⟨(some 3), (.mv (.tmp 10)), none, 0⟩])
 (.seq (.reg 0 [⟨(some 4), (.mv (.val (.lit (.int .i64 0)))), none, 0⟩])
 (.seq (.seq (.reg 0 [⟨(some 5), (.mv (.val (.lit (.int .i64 0)))), none, 0⟩])
 (.block 0 (.loop c40l1)))
 (.seq (.reg 0 [⟨(some 58), (.mv (.tmp 4)), none, 0⟩, ⟨(some 59), (.mv (.tmp 3)), none, 0⟩, ⟨(some 60), (.mv (.tmp 3)), none, 0⟩, ⟨(some 61), (.bin .mul (.tmp 59) (.tmp 60)), none, 0⟩, ⟨(some 62), (.call false (.val (.lit (.func (.func 102) #[] #[]))) [(.tmp 58), (.tmp 61)]), none, 0⟩, ⟨none, (.store 2 (.tmp 2) (.tmp 62)), none, 0⟩])
 .ret)))))
theorem e40 : envOf Try.prog muts 40 = some (63, c40, [(Go.Abs.ARes.cell 2 true 2)]) := by kernel_rfl
def c78l0 : ACode :=
 (.seq (.seq (.reg 0 [⟨(some 5), (.mv (.tmp 4)), none, 0⟩, ⟨(some 6), (.mv (.tmp 0)), none, 0⟩, ⟨(some 7), (.len (.tmp 6)), none, 0⟩, ⟨(some 8), (.bin .lss (.tmp 5) (.tmp 7)), none, 0⟩])
 (.cond (.tmp 8) .skip (.exit 0)))
 (.seq (.block 1 (.reg 2 [⟨(some 11), (.mv (.tmp 3)), none, 0⟩, ⟨(some 12), (.mv (.tmp 0)), none, 0⟩, ⟨(some 13), (.mv (.tmp 4)), none, 0⟩, ⟨(some 14), (.iaddrS 1 (.tmp 12) (.tmp 13)), none, 0⟩, ⟨(some 15), (.load 1 false (.tmp 14)), none, 0⟩, ⟨(some 16), (.call false (.val (.lit (.func (.func 28) #[] #[]))) [(.tmp 15)]), none, 0⟩, ⟨(some 17), (.bslice 1 1 [(.sl true 0 [])] [(0, (.tmp 16))]), none, 0⟩, ⟨(some 18), (.app 1 24 (.tmp 11) (.tmp 17)), none, 1⟩, ⟨(some 3), (.mv (.tmp 18)), none, 2⟩]))
 (.reg 0 [⟨(some 9), (.mv (.tmp 4)), none, 0⟩, ⟨(some 10), (.bin .add (.tmp 9) (.val (.lit (.int .i64 1)))), none, 0⟩, ⟨(some 4), (.mv (.tmp 10)), none, 0⟩])))
def c78 : ACode :=
 (.seq (.reg 0 [⟨(some 2), (.mv (.val (.sl true 0 []))), none, 0⟩])
 (.seq (.reg 0 [⟨(some 3), (.mv (.val (.sl true 0 []))), none, 0⟩])
 (.seq (.seq (.reg 0 [⟨(some 4), (.mv (.val (.lit (.int .i64 0)))), none, 0⟩])
 (.block 0 (.loop c78l0)))
 (.seq (.reg 0 [⟨(some 19), (.mv (.tmp 3)), none, 0⟩, ⟨(some 2), (.mv (.tmp 19)), none, 0⟩])
 .ret))))
theorem e78 : envOf Try.prog muts 78 = some (20, c78, [(Go.Abs.ARes.tmp 2)]) := by kernel_rfl
def c88 : ACode :=
 (.seq (.reg 1 [⟨(some 4), (.alloc [(.lit (.int .i64 0)), (.lit (.int .i64 0))]), none, 0⟩])
 (.seq (.reg 0 [⟨(some 6), (.mv (.tmp 0)), none, 0⟩, ⟨(some 7), (.mv (.tmp 1)), none, 0⟩, ⟨(some 8), (.call false (.val (.lit (.func (.func 137) #[] #[]))) [(.tmp 6), (.tmp 7)]), none, 0⟩, ⟨(some 5), (.mv (.tmp 8)), none, 0⟩])
 (.seq (.dreg 0 [(0, ⟨(some 9), (.mv (.tmp 0)), none, 0⟩), (1, ⟨(some 10), (.mv (.tmp 5)), none, 0⟩), (2, ⟨(some 11), (.bin .quo (.tmp 9) (.tmp 10)), none, 0⟩), (3, ⟨(some 12), (.mv (.tmp 1)), none, 0⟩), (4, ⟨(some 13), (.mv (.tmp 5)), none, 0⟩), (5, ⟨(some 14), (.bin .quo (.tmp 12) (.tmp 13)), none, 0⟩), (6, ⟨(some 15), (.build [(.lit (.int .i64 0)), (.lit (.int .i64 0))] [(0, (1, (.tmp 11))), (1, (1, (.tmp 14)))]), none, 0⟩), (7, ⟨none, (.store 2 (.tmp 4) (.tmp 15)), none, 0⟩)] [[], [], [0, 1], [], [], [3, 4], [2, 5, 0, 1, 3, 4], [6, 0, 1, 2, 3, 4, 5]])
 .ret)))
theorem e88 : envOf Try.prog muts 88 = some (16, c88, [(Go.Abs.ARes.cell 2 true 4)]) := by kernel_rfl
def c90 : ACode :=
 (.seq (.reg 0 [⟨(some 4), (.mv (.val (.lit (.bool false)))), none, 0⟩])
 (.seq (.reg 0 [⟨(some 5), (.mv (.tmp 0)), none, 0⟩, ⟨(some 6), (.mv (.tmp 1)), none, 0⟩, ⟨(some 7), (.call true (.val (.lit (.func (.func 142) #[] #[]))) [(.tmp 5), (.tmp 6)]), none, 0⟩, ⟨(some 8), (.bin .geq (.tmp 7) (.val (.lit (.int .i64 0)))), none, 0⟩, ⟨(some 4), (.mv (.tmp 8)), none, 0⟩])
 .ret))
theorem e90 : envOf Try.prog muts 90 = some (9, c90, [(Go.Abs.ARes.tmp 4)]) := by kernel_rfl
def c146l0 : ACode :=
 (.seq (.reg 0 [⟨(some 20), (.bin .lss (.tmp 19) (.val (.lit (.int .i64 4)))), none, 0⟩])
 (.seq (.cond (.tmp 20) .skip (.exit 0))
 (.seq (.block 1 (.seq (.reg 0 [⟨(some 21), (.idxA 4 1 false (.tmp 18) (.tmp 19)), none, 0⟩, ⟨(some 5), (.mv (.tmp 21)), none, 0⟩])
 (.seq (.reg 0 [⟨(some 22), (.load 2 true (.tmp 2)), none, 0⟩, ⟨(some 23), (.mv (.tmp 5)), none, 0⟩, ⟨(some 24), (.call false (.val (.lit (.func (.func 105) #[] #[]))) [(.tmp 22), (.tmp 23)]), none, 0⟩, ⟨(some 25), (.mv (.tmp 24)), none, 0⟩, ⟨(some 26), (.load 2 true (.tmp 2)), (some (25, true)), 0⟩, ⟨(some 27), (.load 1 false (.tmp 1)), (some (25, true)), 0⟩, ⟨(some 28), (.mv (.tmp 5)), (some (25, true)), 0⟩, ⟨(some 29), (.call false (.val (.lit (.func (.func 112) #[] #[]))) [(.tmp 26), (.tmp 27), (.tmp 28)]), (some (25, true)), 0⟩, ⟨(some 30), (.pick (.tmp 25) (.tmp 29) (.val (.lit (.bool false)))), none, 0⟩, ⟨(some 31), (.mv (.tmp 30)), none, 0⟩, ⟨(some 32), (.mv (.tmp 0)), (some (31, true)), 0⟩, ⟨(some 33), (.mv (.tmp 5)), (some (31, true)), 0⟩, ⟨(some 34), (.call true (.tmp 32) [(.tmp 33)]), (some (31, true)), 0⟩, ⟨(some 35), (.not (.tmp 34)), (some (31, true)), 0⟩, ⟨(some 36), (.pick (.tmp 31) (.tmp 35) (.val (.lit (.bool false)))), none, 0⟩])
 (.cond (.tmp 36) .ret .skip))))
 (.reg 0 [⟨(some 37), (.bin .add (.tmp 19) (.val (.lit (.int .i64 1)))), none, 0⟩, ⟨(some 19), (.mv (.tmp 37)), none, 0⟩]))))
def c146 : ACode :=
 (.seq (.reg 0 [⟨(some 6), (.load 1 false (.tmp 1)), none, 0⟩, ⟨(some 7), (.faddr 0 (.tmp 2)), none, 0⟩, ⟨(some 8), (.load 1 false (.tmp 7)), none, 0⟩, ⟨(some 9), (.bin .sub (.tmp 6) (.tmp 8)), none, 0⟩, ⟨(some 10), (.load 1 false (.tmp 1)), none, 0⟩, ⟨(some 11), (.bin .sub (.tmp 10) (.val (.lit (.int .i64 1)))), none, 0⟩, ⟨(some 12), (.load 1 false (.tmp 1)), none, 0⟩, ⟨(some 13), (.bin .add (.tmp 12) (.val (.lit (.int .i64 1)))), none, 0⟩, ⟨(some 14), (.load 1 false (.tmp 1)), none, 0⟩, ⟨(some 15), (.faddr 0 (.tmp 2)), none, 0⟩, ⟨(some 16), (.load 1 false (.tmp 15)), none, 0⟩, ⟨(some 17), (.bin .add (.tmp 14) (.tmp 16)), none, 0⟩, ⟨(some 18), (.build [(.lit (.int .i64 0)), (.lit (.int .i64 0)), (.lit (.int .i64 0)), (.lit (.int .i64 0))] [(0, (1, (.tmp 9))), (1, (1, (.tmp 11))), (2, (1, (.tmp 13))), (3, (1, (.tmp 17)))]), none, 0⟩, ⟨(some 19), (.mv (.val (.lit (.int .i64 0)))), none, 0⟩])
 (.block 0 (.loop c146l0)))
theorem e146 : envOf Try.prog muts 146 = some (38, c146, []) := by kernel_rfl
def c4l0 : ACode :=
 (.seq (.seq (.reg 0 [⟨(some 72), (.mv (.tmp 14)), none, 0⟩, ⟨(some 73), (.mv (.tmp 0)), none, 0⟩, ⟨(some 74), (.bin .lss (.tmp 72) (.tmp 73)), none, 0⟩])
 (.cond (.tmp 74) .skip (.exit 0)))
 (.seq (.block 1 (.seq (.dreg 0 [(0, ⟨(some 77), (.mv (.tmp 2)), none, 0⟩), (1, ⟨(some 78), (.mv (.tmp 14)), none, 0⟩), (2, ⟨(some 79), (.iaddrS 1 (.tmp 77) (.tmp 78)), none, 0⟩), (3, ⟨(some 80), (.load 1 false (.tmp 79)), none, 0⟩), (4, ⟨(some 81), (.mv (.tmp 2)), none, 0⟩), (5, ⟨(some 82), (.iaddrS 1 (.tmp 81) (.val (.lit (.int .i64 0)))), none, 0⟩), (6, ⟨(some 83), (.load 1 false (.tmp 82)), none, 0⟩), (7, ⟨(some 84), (.bin .sub (.tmp 80) (.tmp 83)), none, 0⟩), (8, ⟨(some 85), (.mv (.tmp 11)), none, 0⟩), (9, ⟨(some 86), (.mv (.tmp 14)), none, 0⟩), (10, ⟨(some 87), (.iaddrS 2 (.tmp 85) (.tmp 86)), none, 0⟩), (11, ⟨(some 88), (.faddr 0 (.tmp 87)), none, 0⟩), (12, ⟨(some 89), (.load 1 false (.tmp 88)), none, 0⟩), (13, ⟨(some 90), (.mv (.tmp 11)), none, 0⟩), (14, ⟨(some 91), (.mv (.tmp 14)), none, 0⟩), (15, ⟨(some 92), (.iaddrS 2 (.tmp 90) (.tmp 91)), none, 0⟩), (16, ⟨(some 93), (.faddr 1 (.tmp 92)), none, 0⟩), (17, ⟨(some 94), (.load 1 false (.tmp 93)), none, 0⟩), (18, ⟨(some 95), (.call false (.val (.lit (.func (.func 32) #[] #[]))) [(.tmp 84), (.tmp 89), (.tmp 94)]), none, 0⟩), (19, ⟨(some 96), (.not (.tmp 95)), none, 0⟩)] [[], [], [0, 1], [2, 0, 1], [], [4], [5, 4], [3, 6, 2, 0, 1, 5, 4], [], [], [8, 9], [10, 8, 9], [11, 10, 8, 9], [], [], [13, 14], [15, 13, 14], [16, 15, 13, 14], [7, 12, 17, 3, 6, 2, 0, 1, 5, 4, 11, 10, 8, 9, 16, 15, 13, 14], [18, 7, 12, 17, 3, 6, 2, 0, 1, 5, 4, 11, 10, 8, 9, 16, 15, 13, 14]])
 (.cond (.tmp 96) (.seq (.reg 0 [⟨(some 6), (.mv (.val (.lit (.bool false)))), none, 0⟩])
 .ret) .skip)))
 (.reg 0 [⟨(some 75), (.mv (.tmp 14)), none, 0⟩, ⟨(some 76), (.bin .add (.tmp 75) (.val (.lit (.int .i64 1)))), none, 0⟩, ⟨(some 14), (.mv (.tmp 76)), none, 0⟩])))
def c4 : ACode :=
 (.seq (.reg 0 [⟨(some 6), (.mv (.val (.lit (.bool false)))), none, 0⟩])
 (.seq (.seq (.reg 0 [⟨(some 15), (.call false (.val (.lit (.func (.func 19) #[] #[]))) []), none, 0⟩, ⟨(some 16), (.not (.tmp 15)), none, 0⟩])
 (.cond (.tmp 16) (.seq (.reg 0 [⟨(some 6), (.mv (.val (.lit (.bool false)))), none, 0⟩])
 .ret) .skip))
 (.seq (.seq (.reg 0 [⟨(some 17), (.mv (.tmp 1)), none, 0⟩, ⟨(some 18), (.call false (.val (.lit (.func (.func 25) #[] #[]))) [(.tmp 17), (.val (.lit (.int .i64 12)))]), none, 0⟩, ⟨(some 19), (.not (.tmp 18)), none, 0⟩, ⟨(some 20), (.mv (.tmp 19)), none, 0⟩, ⟨(some 21), (.mv (.tmp 2)), (some (20, false)), 0⟩, ⟨(some 22), (.len (.tmp 21)), (some (20, false)), 0⟩, ⟨(some 23), (.bin .gtr (.tmp 22) (.val (.lit (.int .i64 45)))), (some (20, false)), 0⟩, ⟨(some 24), (.pick (.tmp 20) (.val (.lit (.bool true))) (.tmp 23)), none, 0⟩])
 (.cond (.tmp 24) (.seq (.reg 0 [⟨(some 6), (.mv (.val (.lit (.bool true)))), none, 0⟩])
 .ret) .skip))
 (.seq (.reg 0 [⟨(some 26), (.mv (.tmp 0)), none, 0⟩, ⟨(some 27), (.mv (.tmp 1)), none, 0⟩, ⟨(some 28), (.call false (.val (.lit (.func (.func 27) #[] #[]))) [(.tmp 27)]), none, 0⟩, ⟨(some 29), (.mv (.tmp 2)), none, 0⟩, ⟨(some 30), (.call false (.val (.lit (.func (.func 28) #[] #[]))) [(.tmp 29)]), none, 0⟩, ⟨(some 31), (.call false (.val (.lit (.func (.func 26) #[] #[]))) [(.tmp 26), (.tmp 28), (.tmp 30)]), none, 0⟩, ⟨(some 25), (.mv (.tmp 31)), none, 0⟩, ⟨(some 32), (.ext (.tmp 25) 0), none, 0⟩, ⟨(some 33), (.ext (.tmp 25) 1), none, 0⟩, ⟨(some 7), (.mv (.tmp 32)), none, 0⟩, ⟨(some 8), (.mv (.tmp 33)), none, 0⟩])
 (.seq (.reg 0 [⟨(some 34), (.mv (.tmp 0)), none, 0⟩, ⟨(some 35), (.mv (.tmp 1)), none, 0⟩, ⟨(some 36), (.call false (.val (.lit (.func (.func 29) #[] #[]))) [(.tmp 34), (.tmp 35)]), none, 0⟩, ⟨(some 9), (.mv (.tmp 36)), none, 0⟩])
 (.seq (.reg 0 [⟨(some 10), (.mv (.val (.lit (.int .i64 0)))), none, 0⟩])
 (.seq (.seq (.reg 0 [⟨(some 37), (.mv (.tmp 9)), none, 0⟩, ⟨(some 38), (.bin .eql (.tmp 37) (.val (.lit (.int .i64 0)))), none, 0⟩])
 (.cond (.tmp 38) (.reg 0 [⟨(some 40), (.mv (.tmp 0)), none, 0⟩, ⟨(some 41), (.mv (.tmp 1)), none, 0⟩, ⟨(some 42), (.mv (.tmp 2)), none, 0⟩, ⟨(some 43), (.call false (.val (.lit (.func (.func 30) #[] #[]))) [(.tmp 40), (.tmp 41), (.tmp 42)]), none, 0⟩, ⟨(some 39), (.mv (.tmp 43)), none, 0⟩, ⟨(some 44), (.ext (.tmp 39) 0), none, 0⟩, ⟨(some 45), (.ext (.tmp 39) 1), none, 0⟩, ⟨(some 10), (.mv (.tmp 44)), none, 0⟩, ⟨(some 9), (.mv (.tmp 45)), none, 0⟩]) .skip))
 (.seq (.seq (.reg 0 [⟨(some 46), (.mv (.tmp 8)), none, 0⟩, ⟨(some 47), (.mv (.tmp 9)), none, 0⟩, ⟨(some 48), (.bin .neq (.tmp 46) (.tmp 47)), none, 0⟩, ⟨(some 49), (.mv (.tmp 48)), none, 0⟩, ⟨(some 50), (.mv (.tmp 7)), (some (49, false)), 0⟩, ⟨(some 51), (.mv (.tmp 10)), (some (49, false)), 0⟩, ⟨(some 52), (.bin .neq (.tmp 50) (.tmp 51)), (some (49, false)), 0⟩, ⟨(some 53), (.pick (.tmp 49) (.val (.lit (.bool true))) (.tmp 52)), none, 0⟩])
 (.cond (.tmp 53) (.seq (.reg 0 [⟨(some 6), (.mv (.val (.lit (.bool false)))), none, 0⟩])
 .ret) .skip))
 (.seq (.seq (.reg 0 [⟨(some 54), (.mv (.tmp 9)), none, 0⟩, ⟨(some 55), (.bin .neq (.tmp 54) (.val (.lit (.int .i64 0)))), none, 0⟩])
 (.cond (.tmp 55) (.seq (.reg 0 [⟨(some 6), (.mv (.val (.lit (.bool true)))), none, 0⟩])
 .ret) .skip))
 (.seq (.reg 0 [⟨(some 57), (.mv (.tmp 0)), none, 0⟩, ⟨(some 58), (.mv (.tmp 1)), none, 0⟩, ⟨(some 59), (.call false (.val (.lit (.func (.func 27) #[] #[]))) [(.tmp 58)]), none, 0⟩, ⟨(some 60), (.call false (.val (.lit (.func (.func 31) #[] #[]))) [(.tmp 57), (.tmp 59)]), none, 0⟩, ⟨(some 56), (.mv (.tmp 60)), none, 0⟩, ⟨(some 61), (.ext (.tmp 56) 0), none, 0⟩, ⟨(some 62), (.ext (.tmp 56) 1), none, 0⟩, ⟨(some 63), (.ext (.tmp 56) 2), none, 0⟩, ⟨(some 11), (.mv (.tmp 61)), none, 0⟩, ⟨(some 12), (.mv (.tmp 62)), none, 0⟩, ⟨(some 13), (.mv (.tmp 63)), none, 0⟩])
 (.seq (.seq (.reg 0 [⟨(some 64), (.mv (.tmp 13)), none, 0⟩, ⟨(some 65), (.bin .neq (.tmp 64) (.val (.lit (.int .i64 0)))), none, 0⟩])
 (.cond (.tmp 65) (.seq (.reg 0 [⟨(some 66), (.mv (.tmp 13)), none, 0⟩, ⟨(some 67), (.bin .eql (.tmp 66) (.val (.lit (.int .i64 25)))), none, 0⟩, ⟨(some 6), (.mv (.tmp 67)), none, 0⟩])
 .ret) .skip))
 (.seq (.seq (.reg 0 [⟨(some 68), (.mv (.tmp 11)), none, 0⟩, ⟨(some 69), (.len (.tmp 68)), none, 0⟩, ⟨(some 70), (.mv (.tmp 0)), none, 0⟩, ⟨(some 71), (.bin .neq (.tmp 69) (.tmp 70)), none, 0⟩])
 (.cond (.tmp 71) (.seq (.reg 0 [⟨(some 6), (.mv (.val (.lit (.bool false)))), none, 0⟩])
 .ret) .skip))
 (.seq (.seq (.reg 0 [⟨(some 14), (.mv (.val (.lit (.int .i64 0)))), none, 0⟩])
 (.block 0 (.loop c4l0)))
 (.seq (.reg 0 [⟨(some 6), (.mv (.val (.lit (.bool true)))), none, 0⟩])
 .ret))))))))))))))
theorem e4 : envOf Try.prog muts 4 = some (97, c4, [(Go.Abs.ARes.tmp 6)]) := by kernel_rfl
def c6 : ACode :=
 (.seq (.reg 1 [⟨(some 1), (.box 2 (.tmp 0)), none, 0⟩, ⟨(some 2), (.mv (.val (.lit (.bool false)))), none, 1⟩])
 (.seq (.seq (.reg 0 [⟨(some 10), (.call false (.val (.lit (.func (.func 19) #[] #[]))) []), none, 0⟩, ⟨(some 11), (.not (.tmp 10)), none, 0⟩])
 (.cond (.tmp 11) (.seq (.reg 0 [⟨(some 2), (.mv (.val (.lit (.bool false)))), none, 0⟩])
 .ret) .skip))
 (.seq (.seq (.reg 0 [⟨(some 12), (.load 2 true (.tmp 1)), none, 0⟩, ⟨(some 13), (.call false (.val (.lit (.func (.func 33) #[] #[]))) [(.tmp 12)]), none, 0⟩, ⟨(some 14), (.not (.tmp 13)), none, 0⟩])
 (.cond (.tmp 14) (.seq (.reg 0 [⟨(some 2), (.mv (.val (.lit (.bool true)))), none, 0⟩])
 .ret) .skip))
 (.seq (.reg 0 [⟨(some 16), (.load 2 true (.tmp 1)), none, 0⟩, ⟨(some 17), (.call false (.val (.lit (.func (.func 34) #[] #[]))) [(.tmp 16)]), none, 0⟩, ⟨(some 18), (.call false (.val (.lit (.func (.func 21) #[] #[]))) [(.tmp 17)]), none, 0⟩, ⟨(some 15), (.mv (.tmp 18)), none, 0⟩, ⟨(some 19), (.ext (.tmp 15) 0), none, 0⟩, ⟨(some 20), (.ext (.tmp 15) 1), none, 0⟩, ⟨(some 3), (.mv (.tmp 19)), none, 0⟩, ⟨(some 4), (.mv (.tmp 20)), none, 0⟩])
 (.seq (.reg 0 [⟨(some 22), (.load 2 true (.tmp 1)), none, 0⟩, ⟨(some 23), (.call false (.val (.lit (.func (.func 34) #[] #[]))) [(.tmp 22)]), none, 0⟩, ⟨(some 24), (.call false (.val (.lit (.func (.func 35) #[] #[]))) [(.tmp 23)]), none, 0⟩, ⟨(some 21), (.mv (.tmp 24)), none, 0⟩, ⟨(some 25), (.ext (.tmp 21) 0), none, 0⟩, ⟨(some 26), (.ext (.tmp 21) 1), none, 0⟩, ⟨(some 5), (.mv (.tmp 25)), none, 0⟩, ⟨(some 6), (.mv (.tmp 26)), none, 0⟩])
 (.seq (.reg 1 [⟨(some 28), (.load 2 true (.tmp 1)), none, 0⟩, ⟨(some 29), (.call false (.val (.lit (.func (.func 34) #[] #[]))) [(.tmp 28)]), none, 0⟩, ⟨(some 30), (.call false (.val (.lit (.func (.func 22) #[] #[]))) [(.tmp 29)]), none, 0⟩, ⟨(some 27), (.mv (.tmp 30)), none, 0⟩, ⟨(some 31), (.ext (.tmp 27) 0), none, 0⟩, ⟨(some 32), (.ext (.tmp 27) 1), none, 0⟩, ⟨(some 7), (.alloc [(.lit (.int .i64 0)), (.lit (.int .i64 0))]), none, 0⟩, ⟨none, (.store 2 (.tmp 7) (.tmp 31)), none, 1⟩, ⟨(some 8), (.mv (.tmp 32)), none, 1⟩])
 (.seq (.reg 0 [⟨(some 33), (.load 2 true (.tmp 1)), none, 0⟩, ⟨(some 34), (.call false (.val (.lit (.func (.func 36) #[] #[]))) [(.tmp 33)]), none, 0⟩, ⟨(some 9), (.mv (.tmp 34)), none, 0⟩])
 (.seq (.seq (.reg 0 [⟨(some 35), (.load 2 true (.tmp 1)), none, 0⟩, ⟨(some 36), (.call false (.val (.lit (.func (.func 34) #[] #[]))) [(.tmp 35)]), none, 0⟩, ⟨(some 37), (.call false (.val (.lit (.func (.func 37) #[] #[]))) [(.tmp 36)]), none, 0⟩, ⟨(some 38), (.mv (.tmp 9)), none, 0⟩, ⟨(some 39), (.bin .neq (.tmp 37) (.tmp 38)), none, 0⟩])
 (.cond (.tmp 39) (.seq (.reg 0 [⟨(some 2), (.mv (.val (.lit (.bool false)))), none, 0⟩])
 .ret) .skip))
 (.seq (.seq (.reg 0 [⟨(some 40), (.mv (.tmp 9)), none, 0⟩, ⟨(some 41), (.bin .neq (.tmp 40) (.val (.lit (.int .i64 0)))), none, 0⟩])
 (.cond (.tmp 41) (.seq (.reg 0 [⟨(some 42), (.mv (.tmp 4)), none, 0⟩, ⟨(some 43), (.mv (.tmp 9)), none, 0⟩, ⟨(some 44), (.bin .eql (.tmp 42) (.tmp 43)), none, 0⟩, ⟨(some 45), (.mv (.tmp 44)), none, 0⟩, ⟨(some 46), (.mv (.tmp 6)), (some (45, true)), 0⟩, ⟨(some 47), (.mv (.tmp 9)), (some (45, true)), 0⟩, ⟨(some 48), (.bin .eql (.tmp 46) (.tmp 47)), (some (45, true)), 0⟩, ⟨(some 49), (.pick (.tmp 45) (.tmp 48) (.val (.lit (.bool false)))), none, 0⟩, ⟨(some 50), (.mv (.tmp 49)), none, 0⟩, ⟨(some 51), (.mv (.tmp 8)), (some (50, true)), 0⟩, ⟨(some 52), (.mv (.tmp 9)), (some (50, true)), 0⟩, ⟨(some 53), (.bin .eql (.tmp 51) (.tmp 52)), (some (50, true)), 0⟩, ⟨(some 54), (.pick (.tmp 50) (.tmp 53) (.val (.lit (.bool false)))), none, 0⟩, ⟨(some 55), (.mv (.tmp 54)), none, 0⟩, ⟨(some 56), (.mv (.tmp 3)), (some (55, true)), 0⟩, ⟨(some 57), (.len (.tmp 56)), (some (55, true)), 0⟩, ⟨(some 58), (.mv (.tmp 5)), (some (55, true)), 0⟩, ⟨(some 59), (.len (.tmp 58)), (some (55, true)), 0⟩, ⟨(some 60), (.bin .add (.tmp 57) (.tmp 59)), (some (55, true)), 0⟩, ⟨(some 61), (.bin .eql (.tmp 60) (.val (.lit (.int .i64 0)))), (some (55, true)), 0⟩, ⟨(some 62), (.pick (.tmp 55) (.tmp 61) (.val (.lit (.bool false)))), none, 0⟩, ⟨(some 63), (.mv (.tmp 62)), none, 0⟩, ⟨(some 64), (.load 2 true (.tmp 7)), (some (63, true)), 0⟩, ⟨(some 65), (.build [(.lit (.int .i64 0)), (.lit (.int .i64 0))] []), (some (63, true)), 0⟩, ⟨(some 66), (.eqAgg false [.ci, .ci] (.tmp 64) (.tmp 65)), (some (63, true)), 0⟩, ⟨(some 67), (.pick (.tmp 63) (.tmp 66) (.val (.lit (.bool false)))), none, 0⟩, ⟨(some 2), (.mv (.tmp 67)), none, 0⟩])
 .ret) .skip))
 (.seq (.dreg 0 [(0, ⟨(some 68), (.mv (.tmp 4)), none, 0⟩), (1, ⟨(some 69), (.bin .eql (.tmp 68) (.val (.lit (.int .i64 0)))), none, 0⟩), (2, ⟨(some 70), (.mv (.tmp 69)), none, 0⟩), (3, ⟨(some 71), (.mv (.tmp 6)), (some (70, true)), 0⟩), (4, ⟨(some 72), (.bin .eql (.tmp 71) (.val (.lit (.int .i64 0)))), (some (70, true)), 0⟩), (5, ⟨(some 73), (.pick (.tmp 70) (.tmp 72) (.val (.lit (.bool false)))), none, 0⟩), (6, ⟨(some 74), (.mv (.tmp 73)), none, 0⟩), (7, ⟨(some 75), (.mv (.tmp 8)), (some (74, true)), 0⟩), (8, ⟨(some 76), (.bin .eql (.tmp 75) (.val (.lit (.int .i64 0)))), (some (74, true)), 0⟩), (9, ⟨(some 77), (.pick (.tmp 74) (.tmp 76) (.val (.lit (.bool false)))), none, 0⟩), (10, ⟨(some 78), (.mv (.tmp 77)), none, 0⟩), (11, ⟨(some 79), (.mv (.tmp 3)), (some (78, true)), 0⟩), (12, ⟨(some 80), (.load 2 true (.tmp 1)), (some (78, true)), 0⟩), (13, ⟨(some 81), (.call false (.val (.lit (.func (.func 38) #[] #[]))) [(.tmp 80)]), (some (78, true)), 0⟩), (14, ⟨(some 82), (.call false (.val (.lit (.func (.func 23) #[] #[]))) [(.tmp 79), (.tmp 81)]), (some (78, true)), 0⟩), (15, ⟨(some 83), (.pick (.tmp 78) (.tmp 82) (.val (.lit (.bool false)))), none, 0⟩), (16, ⟨(some 84), (.mv (.tmp 83)), none, 0⟩), (17, ⟨(some 85), (.mv (.tmp 5)), (some (84, true)), 0⟩), (18, ⟨(some 86), (.load 2 true (.tmp 1)), (some (84, true)), 0⟩), (19, ⟨(some 87), (.call false (.val (.lit (.func (.func 39) #[] #[]))) [(.tmp 86)]), (some (84, true)), 0⟩), (20, ⟨(some 88), (.call false (.val (.lit (.func (.func 23) #[] #[]))) [(.tmp 85), (.tmp 87)]), (some (84, true)), 0⟩), (21, ⟨(some 89), (.pick (.tmp 84) (.tmp 88) (.val (.lit (.bool false)))), none, 0⟩), (22, ⟨(some 90), (.mv (.tmp 89)), none, 0⟩), (23, ⟨(some 91), (.load 2 true (.tmp 7)), (some (90, true)), 0⟩), (24, ⟨(some 92), (.load 2 true (.tmp 1)), (some (90, true)), 0⟩), (25, ⟨(some 93), (.call false (.val (.lit (.func (.func 40) #[] #[]))) [(.tmp 92)]), (some (90, true)), 0⟩), (26, ⟨(some 94), (.eqAgg false [.ci, .ci] (.tmp 91) (.tmp 93)), (some (90, true)), 0⟩), (27, ⟨(some 95), (.pick (.tmp 90) (.tmp 94) (.val (.lit (.bool false)))), none, 0⟩), (28, ⟨(some 2), (.mv (.tmp 95)), none, 0⟩)] [[], [0], [1, 0], [2, 1, 0], [3, 2, 1, 0], [2, 4, 1, 0, 3], [5, 2, 4, 1, 0, 3], [6, 5, 2, 4, 1, 0, 3], [7, 6, 5, 2, 4, 1, 0, 3], [6, 8, 5, 2, 4, 1, 0, 3, 7], [9, 6, 8, 5, 2, 4, 1, 0, 3, 7], [10, 9, 6, 8, 5, 2, 4, 1, 0, 3, 7], [10, 9, 6, 8, 5, 2, 4, 1, 0, 3, 7], [12, 10, 9, 6, 8, 5, 2, 4, 1, 0, 3, 7], [11, 13, 10, 9, 6, 8, 5, 2, 4, 1, 0, 3, 7, 12], [10, 14, 9, 6, 8, 5, 2, 4, 1, 0, 3, 7, 11, 13, 12], [15, 14, 10, 9, 6, 8, 5, 2, 4, 1, 0, 3, 7, 11, 13, 12], [16, 15, 14, 10, 9, 6, 8, 5, 2, 4, 1, 0, 3, 7, 11, 13, 12], [16, 15, 14, 10, 9, 6, 8, 5, 2, 4, 1, 0, 3, 7, 11, 13, 12], [18, 16, 15, 14, 10, 9, 6, 8, 5, 2, 4, 1, 0, 3, 7, 11, 13, 12], [17, 19, 16, 15, 14, 10, 9, 6, 8, 5, 2, 4, 1, 0, 3, 7, 11, 13, 12, 18], [16, 20, 15, 14, 10, 9, 6, 8, 5, 2, 4, 1, 0, 3, 7, 11, 13, 12, 17, 19, 18], [21, 20, 16, 15, 14, 10, 9, 6, 8, 5, 2, 4, 1, 0, 3, 7, 11, 13, 12, 17, 19, 18], [22, 21, 20, 16, 15, 14, 10, 9, 6, 8, 5, 2, 4, 1, 0, 3, 7, 11, 13, 12, 17, 19, 18], [22, 21, 20, 16, 15, 14, 10, 9, 6, 8, 5, 2, 4, 1, 0, 3, 7, 11, 13, 12, 17, 19, 18], [24, 22, 21, 20, 16, 15, 14, 10, 9, 6, 8, 5, 2, 4, 1, 0, 3, 7, 11, 13, 12, 17, 19, 18], [23, 25, 22, 21, 20, 16, 15, 14, 10, 9, 6, 8, 5, 2, 4, 1, 0, 3, 7, 11, 13, 12, 17, 19, 18, 24], [22, 26, 21, 20, 16, 15, 14, 10, 9, 6, 8, 5, 2, 4, 1, 0, 3, 7, 11, 13, 12, 17, 19, 18, 23, 25, 24], [27, 25, 0, 1, 2, 3, 4, 5, 6, 7, 8, 9, 10, 11, 12, 13, 14, 15, 16, 17, 18, 19, 20, 21, 22, 23, 24, 26]])
 .ret))))))))))
theorem e6 : envOf Try.prog muts 6 = some (96, c6, [(Go.Abs.ARes.tmp 2)]) := by kernel_rfl
def c22l0 : ACode :=
 (.seq (.reg 0 [⟨(some 42), (.bin .lss (.tmp 41) (.tmp 40)), none, 0⟩])
 (.seq (.cond (.tmp 42) .skip (.exit 2))
 (.seq (.block 3 (.seq (.reg 0 [⟨(some 43), (.mv (.tmp 41)), none, 0⟩, ⟨(some 44), (.iaddrS 1 (.tmp 39) (.tmp 41)), none, 0⟩, ⟨(some 45), (.load 1 false (.tmp 44)), none, 0⟩, ⟨(some 12), (.mv (.tmp 43)), none, 0⟩, ⟨(some 13), (.mv (.tmp 45)), none, 0⟩])
 (.seq (.dreg 0 [(0, ⟨(some 46), (.mv (.tmp 8)), none, 0⟩), (1, ⟨(some 47), (.mv (.tmp 8)), none, 0⟩), (2, ⟨(some 48), (.bin .mul (.tmp 46) (.tmp 47)), none, 0⟩), (3, ⟨(some 49), (.mv (.tmp 13)), none, 0⟩), (4, ⟨(some 50), (.bin .mul (.tmp 48) (.tmp 49)), none, 0⟩), (5, ⟨(some 51), (.mv (.tmp 6)), none, 0⟩), (6, ⟨(some 52), (.mv (.tmp 12)), none, 0⟩), (7, ⟨(some 53), (.mv (.tmp 7)), none, 0⟩), (8, ⟨(some 54), (.bin .add (.tmp 52) (.tmp 53)), none, 0⟩), (9, ⟨(some 55), (.mv (.tmp 10)), none, 0⟩), (10, ⟨(some 56), (.mv (.tmp 7)), none, 0⟩), (11, ⟨(some 57), (.mv (.tmp 8)), none, 0⟩), (12, ⟨(some 58), (.bin .quo (.tmp 56) (.tmp 57)), none, 0⟩), (13, ⟨(some 59), (.bin .mul (.tmp 55) (.tmp 58)), none, 0⟩), (14, ⟨(some 60), (.bin .sub (.tmp 54) (.tmp 59)), none, 0⟩), (15, ⟨(some 61), (.mv (.tmp 7)), none, 0⟩), (16, ⟨(some 62), (.bin .rem (.tmp 60) (.tmp 61)), none, 0⟩), (17, ⟨(some 63), (.iaddrS 1 (.tmp 51) (.tmp 62)), none, 0⟩), (18, ⟨(some 64), (.load 1 false (.tmp 63)), none, 0⟩), (19, ⟨(some 65), (.bin .sub (.tmp 50) (.tmp 64)), none, 0⟩), (20, ⟨(some 66), (.mv (.tmp 8)), none, 0⟩), (21, ⟨(some 67), (.mv (.tmp 5)), none, 0⟩), (22, ⟨(some 68), (.mv (.tmp 12)), none, 0⟩), (23, ⟨(some 69), (.iaddrS 1 (.tmp 67) (.tmp 68)), none, 0⟩), (24, ⟨(some 70), (.load 1 false (.tmp 69)), none, 0⟩), (25, ⟨(some 71), (.bin .mul (.tmp 66) (.tmp 70)), none, 0⟩), (26, ⟨(some 72), (.bin .sub (.tmp 65) (.tmp 71)), none, 0⟩), (27, ⟨(some 14), (.mv (.tmp 72)), none, 0⟩)] [[], [], [0, 1], [], [2, 3, 0, 1], [], [], [], [6, 7], [], [], [], [10, 11], [9, 12, 10, 11], [8, 13, 6, 7, 9, 12, 10, 11], [], [14, 15, 8, 13, 6, 7, 9, 12, 10, 11], [5, 16, 14, 15, 8, 13, 6, 7, 9, 12, 10, 11], [17, 5, 16, 14, 15, 8, 13, 6, 7, 9, 12, 10, 11], [4, 18, 2, 3, 0, 1, 17, 5, 16, 14, 15, 8, 13, 6, 7, 9, 12, 10, 11], [], [], [], [21, 22], [23, 21, 22], [20, 24, 23, 21, 22], [19, 25, 4, 18, 2, 3, 0, 1, 17, 5, 16, 14, 15, 8, 13, 6, 7, 9, 12, 10, 11, 20, 24, 23, 21, 22], [26, 0, 1, 2, 3, 4, 5, 6, 7, 8, 9, 10, 11, 12, 13, 14, 15, 16, 17, 18, 19, 20, 21, 22, 23, 24, 25]])
 (.reg 0 [⟨(some 73), (.mv (.tmp 9)), none, 0⟩, ⟨(some 74), (.mv (.tmp 14)), none, 0⟩, ⟨(some 75), (.mv (.tmp 14)), none, 0⟩, ⟨(some 76), (.neg (.tmp 75)), none, 0⟩, ⟨(some 77), (.minmax true [(.tmp 73), (.tmp 74), (.tmp 76)]), none, 0⟩, ⟨(some 9), (.mv (.tmp 77)), none, 0⟩]))))
 (.reg 0 [⟨(some 78), (.bin .add (.tmp 41) (.val (.lit (.int .i64 1)))), none, 0⟩, ⟨(some 41), (.mv (.tmp 78)), none, 0⟩]))))
def c22l1 : ACode :=
 (.seq (.reg 0 [⟨(some 35), (.bin .lss (.tmp 34) (.tmp 33)), none, 0⟩])
 (.seq (.cond (.tmp 35) .skip (.exit 0))
 (.seq (.block 1 (.seq (.reg 0 [⟨(some 36), (.mv (.tmp 34)), none, 0⟩, ⟨(some 37), (.iaddrS 1 (.tmp 32) (.tmp 34)), none, 0⟩, ⟨(some 38), (.load 1 false (.tmp 37)), none, 0⟩, ⟨(some 10), (.mv (.tmp 36)), none, 0⟩, ⟨(some 11), (.mv (.tmp 38)), none, 0⟩])
 (.seq (.reg 0 [⟨(some 39), (.mv (.tmp 11)), none, 0⟩, ⟨(some 40), (.len (.tmp 39)), none, 0⟩, ⟨(some 41), (.mv (.val (.lit (.int .i64 0)))), none, 0⟩])
 (.block 2 (.loop c22l0)))))
 (.reg 0 [⟨(some 79), (.bin .add (.tmp 34) (.val (.lit (.int .i64 1)))), none, 0⟩, ⟨(some 34), (.mv (.tmp 79)), none, 0⟩]))))
def c22 : ACode :=
 (.seq (.reg 2 [⟨(some 1), (.box 2 (.tmp 0)), none, 0⟩, ⟨(some 2), (.alloc [(.lit (.int .i64 0)), (.lit (.int .i64 0))]), none, 1⟩, ⟨(some 3), (.mv (.val (.lit (.int .i64 0)))), none, 2⟩])
 (.seq (.seq (.reg 0 [⟨(some 15), (.load 2 true (.tmp 1)), none, 0⟩, ⟨(some 16), (.call false (.val (.lit (.func (.func 37) #[] #[]))) [(.tmp 15)]), none, 0⟩, ⟨(some 4), (.mv (.tmp 16)), none, 0⟩])
 (.seq (.reg 0 [⟨(some 17), (.mv (.tmp 4)), none, 0⟩, ⟨(some 18), (.bin .neq (.tmp 17) (.val (.lit (.int .i64 0)))), none, 0⟩])
 (.cond (.tmp 18) (.seq (.reg 0 [⟨(some 19), (.build [(.lit (.int .i64 0)), (.lit (.int .i64 0))] []), none, 0⟩, ⟨(some 20), (.mv (.tmp 4)), none, 0⟩, ⟨none, (.store 2 (.tmp 2) (.tmp 19)), none, 0⟩, ⟨(some 3), (.mv (.tmp 20)), none, 0⟩])
 .ret) .skip)))
 (.seq (.reg 0 [⟨(some 22), (.load 2 true (.tmp 1)), none, 0⟩, ⟨(some 23), (.call false (.val (.lit (.func (.func 86) #[] #[]))) [(.tmp 22)]), none, 0⟩, ⟨(some 21), (.mv (.tmp 23)), none, 0⟩, ⟨(some 24), (.ext (.tmp 21) 0), none, 0⟩, ⟨(some 25), (.ext (.tmp 21) 1), none, 0⟩, ⟨(some 5), (.mv (.tmp 24)), none, 0⟩, ⟨(some 6), (.mv (.tmp 25)), none, 0⟩])
 (.seq (.dreg 0 [(0, ⟨(some 26), (.faddr 0 (.tmp 1)), none, 0⟩), (1, ⟨(some 27), (.load 1 false (.tmp 26)), none, 0⟩), (2, ⟨(some 28), (.faddr 1 (.tmp 1)), none, 0⟩), (3, ⟨(some 29), (.load 1 false (.tmp 28)), none, 0⟩), (4, ⟨(some 30), (.len (.tmp 29)), none, 0⟩), (5, ⟨(some 7), (.mv (.tmp 27)), none, 0⟩), (6, ⟨(some 8), (.mv (.tmp 30)), none, 0⟩)] [[], [0], [], [2], [3, 2], [1, 0], [4, 5, 0, 1, 2, 3]])
 (.seq (.reg 0 [⟨(some 9), (.mv (.val (.lit (.int .i64 0)))), none, 0⟩])
 (.seq (.seq (.reg 0 [⟨(some 31), (.faddr 1 (.tmp 1)), none, 0⟩, ⟨(some 32), (.load 1 false (.tmp 31)), none, 0⟩, ⟨(some 33), (.len (.tmp 32)), none, 0⟩, ⟨(some 34), (.mv (.val (.lit (.int .i64 0)))), none, 0⟩])
 (.block 0 (.loop c22l1)))
 (.seq (.reg 0 [⟨(some 80), (.mv (.tmp 9)), none, 0⟩, ⟨(some 81), (.mv (.tmp 8)), none, 0⟩, ⟨(some 82), (.mv (.tmp 8)), none, 0⟩, ⟨(some 83), (.bin .mul (.tmp 81) (.tmp 82)), none, 0⟩, ⟨(some 84), (.call false (.val (.lit (.func (.func 88) #[] #[]))) [(.tmp 80), (.tmp 83)]), none, 0⟩, ⟨none, (.store 2 (.tmp 2) (.tmp 84)), none, 0⟩, ⟨(some 3), (.mv (.val (.lit (.int .i64 0)))), none, 0⟩])
 .ret)))))))
theorem e22 : envOf Try.prog muts 22 = some (85, c22, [(Go.Abs.ARes.cell 2 true 2), (Go.Abs.ARes.tmp 3)]) := by kernel_rfl
def c23l0 : ACode :=
 (.seq (.seq (.reg 0 [⟨(some 11), (.mv (.tmp 5)), none, 0⟩, ⟨(some 12), (.mv (.tmp 0)), none, 0⟩, ⟨(some 13), (.len (.tmp 12)), none, 0⟩, ⟨(some 14), (.bin .lss (.tmp 11) (.tmp 13)), none, 0⟩])
 (.cond (.tmp 14) .skip (.exit 0)))
 (.seq (.block 1 (.seq (.dreg 0 [(0, ⟨(some 17), (.mv (.tmp 0)), none, 0⟩), (1, ⟨(some 18), (.mv (.tmp 5)), none, 0⟩), (2, ⟨(some 19), (.iaddrS 2 (.tmp 17) (.tmp 18)), none, 0⟩), (3, ⟨(some 20), (.load 2 true (.tmp 19)), none, 0⟩), (4, ⟨(some 21), (.mv (.tmp 1)), none, 0⟩), (5, ⟨(some 22), (.mv (.tmp 5)), none, 0⟩), (6, ⟨(some 23), (.iaddrS 2 (.tmp 21) (.tmp 22)), none, 0⟩), (7, ⟨(some 24), (.load 2 true (.tmp 23)), none, 0⟩), (8, ⟨(some 25), (.eqAgg true [.ci, .ci] (.tmp 20) (.tmp 24)), none, 0⟩)] [[], [], [0, 1], [2, 0, 1], [], [], [4, 5], [6, 4, 5], [3, 7, 2, 0, 1, 6, 4, 5]])
 (.cond (.tmp 25) (.seq (.reg 0 [⟨(some 4), (.mv (.val (.lit (.bool false)))), none, 0⟩])
 .ret) .skip)))
 (.reg 0 [⟨(some 15), (.mv (.tmp 5)), none, 0⟩, ⟨(some 16), (.bin .add (.tmp 15) (.val (.lit (.int .i64 1)))), none, 0⟩, ⟨(some 5), (.mv (.tmp 16)), none, 0⟩])))
def c23 : ACode :=
 (.seq (.reg 0 [⟨(some 4), (.mv (.val (.lit (.bool false)))), none, 0⟩])
 (.seq (.seq (.reg 0 [⟨(some 6), (.mv (.tmp 0)), none, 0⟩, ⟨(some 7), (.len (.tmp 6)), none, 0⟩, ⟨(some 8), (.mv (.tmp 1)), none, 0⟩, ⟨(some 9), (.len (.tmp 8)), none, 0⟩, ⟨(some 10), (.bin .neq (.tmp 7) (.tmp 9)), none, 0⟩])
 (.cond (.tmp 10) (.seq (.reg 0 [⟨(some 4), (.mv (.val (.lit (.bool false)))), none, 0⟩])
 .ret) .skip))
 (.seq (.seq (.reg 0 [⟨(some 5), (.mv (.val (.lit (.int .i64 0)))), none, 0⟩])
 (.block 0 (.loop c23l0)))
 (.seq (.reg 0 [⟨(some 4), (.mv (.val (.lit (.bool true)))), none, 0⟩])
 .ret))))
theorem e23 : envOf Try.prog muts 23 = some (26, c23, [(Go.Abs.ARes.tmp 4)]) := by kernel_rfl
def c24 : ACode :=
 (.seq (.reg 0 [⟨(some 4), (.mv (.val (.lit (.int .i64 0)))), none, 0⟩])
 (.seq (.reg 0 [⟨(some 5), (.mv (.tmp 0)), none, 0⟩, ⟨(some 6), (.mv (.tmp 1)), none, 0⟩, ⟨(some 7), (.bin .rem (.tmp 5) (.tmp 6)), none, 0⟩, ⟨(some 0), (.mv (.tmp 7)), none, 0⟩])
 (.seq (.seq (.reg 0 [⟨(some 8), (.mv (.tmp 0)), none, 0⟩, ⟨(some 9), (.bin .lss (.tmp 8) (.val (.lit (.int .i64 0)))), none, 0⟩])
 (.cond (.tmp 9) (.seq (.reg 0 [⟨(some 10), (.mv (.tmp 0)), none, 0⟩, ⟨(some 11), (.mv (.tmp 1)), none, 0⟩, ⟨(some 12), (.bin .add (.tmp 10) (.tmp 11)), none, 0⟩, ⟨(some 4), (.mv (.tmp 12)), none, 0⟩])
 .ret) .skip))
 (.seq (.reg 0 [⟨(some 13), (.mv (.tmp 0)), none, 0⟩, ⟨(some 4), (.mv (.tmp 13)), none, 0⟩])
 .ret))))
theorem e24 : envOf Try.prog muts 24 = some (14, c24, [(Go.Abs.ARes.tmp 4)]) := by kernel_rfl
def c32 : ACode :=
 (.seq (.reg 0 [⟨(some 6), (.mv (.val (.lit (.bool false)))), none, 0⟩])
 (.seq (.reg 0 [⟨(some 7), (.mv (.tmp 0)), none, 0⟩, ⟨(some 8), (.mv (.tmp 1)), none, 0⟩, ⟨(some 9), (.bin .geq (.tmp 7) (.tmp 8)), none, 0⟩, ⟨(some 10), (.mv (.tmp 9)), none, 0⟩, ⟨(some 11), (.mv (.tmp 0)), (some (10, true)), 0⟩, ⟨(some 12), (.mv (.tmp 2)), (some (10, true)), 0⟩, ⟨(some 13), (.bin .leq (.tmp 11) (.tmp 12)), (some (10, true)), 0⟩, ⟨(some 14), (.pick (.tmp 10) (.tmp 13) (.val (.lit (.bool false)))), none, 0⟩, ⟨(some 6), (.mv (.tmp 14)), none, 0⟩])
 .ret))
theorem e32 : envOf Try.prog muts 32 = some (15, c32, [(Go.Abs.ARes.tmp 6)]) := by kernel_rfl
def c35 : ACode :=
 (.seq (.reg 1 [⟨(some 1), (.box 2 (.tmp 0)), none, 0⟩, ⟨(some 2), (.mv (.val (.sl true 0 []))), none, 1⟩, ⟨(some 3), (.mv (.val (.lit (.int .i64 0)))), none, 1⟩])
 (.seq (.seq (.reg 0 [⟨(some 7), (.load 2 true (.tmp 1)), none, 0⟩, ⟨(some 8), (.call false (.val (.lit (.func (.func 37) #[] #[]))) [(.tmp 7)]), none, 0⟩, ⟨(some 4), (.mv (.tmp 8)), none, 0⟩])
 (.seq (.reg 0 [⟨(some 9), (.mv (.tmp 4)), none, 0⟩, ⟨(some 10), (.bin .neq (.tmp 9) (.val (.lit (.int .i64 0)))), none, 0⟩])
 (.cond (.tmp 10) (.seq (.reg 0 [⟨(some 11), (.mv (.tmp 4)), none, 0⟩, ⟨(some 2), (.mv (.val (.sl true 0 []))), none, 0⟩, ⟨(some 3), (.mv (.tmp 11)), none, 0⟩])
 .ret) .skip)))
 (.seq (.reg 0 [⟨(some 13), (.load 2 true (.tmp 1)), none, 0⟩, ⟨(some 14), (.call false (.val (.lit (.func (.func 86) #[] #[]))) [(.tmp 13)]), none, 0⟩, ⟨(some 12), (.mv (.tmp 14)), none, 0⟩, ⟨(some 15), (.ext (.tmp 12) 0), none, 0⟩, ⟨(some 16), (.ext (.tmp 12) 1), none, 0⟩, ⟨(some 5), (.mv (.tmp 15)), none, 0⟩, ⟨(some 6), (.mv (.tmp 16)), none, 0⟩])
 (.seq (.reg 0 [⟨(some 17), (.mv (.tmp 5)), none, 0⟩, ⟨(some 18), (.faddr 1 (.tmp 1)), none, 0⟩, ⟨(some 19), (.load 1 false (.tmp 18)), none, 0⟩, ⟨(some 20), (.len (.tmp 19)), none, 0⟩, ⟨(some 21), (.call false (.val (.lit (.func (.func 87) #[] #[]))) [(.tmp 17), (.tmp 20)]), none, 0⟩, ⟨(some 2), (.mv (.tmp 21)), none, 0⟩, ⟨(some 3), (.mv (.val (.lit (.int .i64 0)))), none, 0⟩])
 .ret))))
theorem e35 : envOf Try.prog muts 35 = some (22, c35, [(Go.Abs.ARes.tmp 2), (Go.Abs.ARes.tmp 3)]) := by kernel_rfl
def c100 : ACode :=
 (.seq (.reg 0 [⟨(some 3), (.mv (.val (.lit (.bool false)))), none, 0⟩])
 (.seq (.reg 0 [⟨(some 4), (.mv (.tmp 0)), none, 0⟩, ⟨(some 5), (.len (.tmp 4)), none, 0⟩, ⟨(some 6), (.faddr 0 (.tmp 1)), none, 0⟩, ⟨(some 7), (.load 1 false (.tmp 6)), none, 0⟩, ⟨(some 8), (.bin .neq (.tmp 5) (.tmp 7)), none, 0⟩, ⟨(some 3), (.mv (.tmp 8)), none, 0⟩])
 .ret))
theorem e100 : envOf Try.prog muts 100 = some (9, c100, [(Go.Abs.ARes.tmp 3)]) := by kernel_rfl
def c101 : ACode :=
 (.seq (.reg 0 [⟨(some 2), (.mv (.val (.lit (.bool false)))), none, 0⟩])
 (.seq (.reg 0 [⟨(some 3), (.mv (.tmp 0)), none, 0⟩, ⟨(some 4), (.call false (.val (.lit (.func (.func 92) #[] #[]))) [(.tmp 3), (.val (.lit (.int .i64 (-100000)))), (.val (.lit (.int .i64 100000)))]), none, 0⟩, ⟨(some 5), (.not (.tmp 4)), none, 0⟩, ⟨(some 2), (.mv (.tmp 5)), none, 0⟩])
 .ret))
theorem e101 : envOf Try.prog muts 101 = some (6, c101, [(Go.Abs.ARes.tmp 2)]) := by kernel_rfl
def c142l0 : ACode :=
 (.seq (.reg 0 [⟨(some 9), (.bin .lss (.tmp 8) (.tmp 7)), none, 0⟩])
 (.seq (.cond (.tmp 9) .skip (.exit 0))
 (.seq (.block 1 (.seq (.reg 0 [⟨(some 10), (.mv (.tmp 8)), none, 0⟩, ⟨(some 5), (.mv (.tmp 10)), none, 0⟩])
 (.seq (.reg 0 [⟨(some 11), (.mv (.tmp 1)), none, 0⟩, ⟨(some 12), (.mv (.tmp 0)), none, 0⟩, ⟨(some 13), (.mv (.tmp 5)), none, 0⟩, ⟨(some 14), (.iaddrS 1 (.tmp 12) (.tmp 13)), none, 0⟩, ⟨(some 15), (.load 1 false (.tmp 14)), none, 0⟩, ⟨(some 16), (.call true (.tmp 11) [(.tmp 15)]), none, 0⟩])
 (.cond (.tmp 16) (.seq (.reg 0 [⟨(some 17), (.mv (.tmp 5)), none, 0⟩, ⟨(some 4), (.mv (.tmp 17)), none, 0⟩])
 .ret) .skip))))
 (.reg 0 [⟨(some 18), (.bin .add (.tmp 8) (.val (.lit (.int .i64 1)))), none, 0⟩, ⟨(some 8), (.mv (.tmp 18)), none, 0⟩]))))
def c142 : ACode :=
 (.seq (.reg 0 [⟨(some 4), (.mv (.val (.lit (.int .i64 0)))), none, 0⟩])
 (.seq (.seq (.reg 0 [⟨(some 6), (.mv (.tmp 0)), none, 0⟩, ⟨(some 7), (.len (.tmp 6)), none, 0⟩, ⟨(some 8), (.mv (.val (.lit (.int .i64 0)))), none, 0⟩])
 (.block 0 (.loop c142l0)))
 (.seq (.reg 0 [⟨(some 4), (.mv (.val (.lit (.int .i64 (-1))))), none, 0⟩])
 .ret)))
theorem e142 : envOf Try.prog muts 142 = some (19, c142, [(Go.Abs.ARes.tmp 4)]) := by kernel_rfl
def c33l0 : ACode :=
 (.seq (.seq (.reg 0 [⟨(some 8), (.mv (.tmp 3)), none, 0⟩, ⟨(some 9), (.faddr 1 (.tmp 1)), none, 0⟩, ⟨(some 10), (.load 1 false (.tmp 9)), none, 0⟩, ⟨(some 11), (.len (.tmp 10)), none, 0⟩, ⟨(some 12), (.bin .lss (.tmp 8) (.tmp 11)), none, 0⟩])
 (.cond (.tmp 12) .skip (.exit 0)))
 (.seq (.block 1 (.seq (.reg 0 [⟨(some 15), (.faddr 1 (.tmp 1)), none, 0⟩, ⟨(some 16), (.load 1 false (.tmp 15)), none, 0⟩, ⟨(some 17), (.mv (.tmp 3)), none, 0⟩, ⟨(some 18), (.iaddrS 1 (.tmp 16) (.tmp 17)), none, 0⟩, ⟨(some 19), (.load 1 false (.tmp 18)), none, 0⟩, ⟨(some 20), (.len (.tmp 19)), none, 0⟩, ⟨(some 21), (.bin .gtr (.tmp 20) (.val (.lit (.int .i64 30)))), none, 0⟩])
 (.cond (.tmp 21) (.seq (.reg 0 [⟨(some 2), (.mv (.val (.lit (.bool false)))), none, 0⟩])
 .ret) .skip)))
 (.reg 0 [⟨(some 13), (.mv (.tmp 3)), none, 0⟩, ⟨(some 14), (.bin .add (.tmp 13) (.val (.lit (.int .i64 1)))), none, 0⟩, ⟨(some 3), (.mv (.tmp 14)), none, 0⟩])))
def c33 : ACode :=
 (.seq (.reg 1 [⟨(some 1), (.box 2 (.tmp 0)), none, 0⟩, ⟨(some 2), (.mv (.val (.lit (.bool false)))), none, 1⟩])
 (.seq (.seq (.reg 0 [⟨(some 4), (.faddr 1 (.tmp 1)), none, 0⟩, ⟨(some 5), (.load 1 false (.tmp 4)), none, 0⟩, ⟨(some 6), (.len (.tmp 5)), none, 0⟩, ⟨(some 7), (.bin .gtr (.tmp 6) (.val (.lit (.int .i64 15)))), none, 0⟩])
 (.cond (.tmp 7) (.seq (.reg 0 [⟨(some 2), (.mv (.val (.lit (.bool false)))), none, 0⟩])
 .ret) .skip))
 (.seq (.seq (.reg 0 [⟨(some 3), (.mv (.val (.lit (.int .i64 0)))), none, 0⟩])
 (.block 0 (.loop c33l0)))
 (.seq (.reg 0 [⟨(some 2), (.mv (.val (.lit (.bool true)))), none, 0⟩])
 .ret))))
theorem e33 : envOf Try.prog muts 33 = some (22, c33, [(Go.Abs.ARes.tmp 2)]) := by kernel_rfl
def c59 : ACode :=
 (.seq (.reg 0 [⟨(some 2), (.mv (.val (.lit (.int .i64 0)))), none, 0⟩])
 (.seq (.seq (.reg 0 [⟨(some 3), (.mv (.tmp 0)), none, 0⟩, ⟨(some 4), (.bin .lss (.tmp 3) (.val (.lit (.int .i64 0)))), none, 0⟩])
 (.cond (.tmp 4) (.seq (.reg 0 [⟨(some 5), (.mv (.tmp 0)), none, 0⟩, ⟨(some 6), (.neg (.tmp 5)), none, 0⟩, ⟨(some 2), (.mv (.tmp 6)), none, 0⟩])
 .ret) .skip))
 (.seq (.reg 0 [⟨(some 7), (.mv (.tmp 0)), none, 0⟩, ⟨(some 2), (.mv (.tmp 7)), none, 0⟩])
 .ret)))
theorem e59 : envOf Try.prog muts 59 = some (8, c59, [(Go.Abs.ARes.tmp 2)]) := by kernel_rfl
def c3l0 : ACode :=
 (.seq (.seq (.reg 0 [⟨(some 126), (.mv (.tmp 19)), none, 0⟩, ⟨(some 127), (.faddr 0 (.tmp 5)), none, 0⟩, ⟨(some 128), (.load 1 false (.tmp 127)), none, 0⟩, ⟨(some 129), (.bin .lss (.tmp 126) (.tmp 128)), none, 0⟩])
 (.cond (.tmp 129) .skip (.exit 0)))
 (.seq (.block 1 (.seq (.dreg 0 [(0, ⟨(some 132), (.mv (.tmp 16)), none, 0⟩), (1, ⟨(some 133), (.mv (.tmp 19)), none, 0⟩), (2, ⟨(some 134), (.iaddrS 2 (.tmp 132) (.tmp 133)), none, 0⟩), (3, ⟨(some 135), (.load 2 true (.tmp 134)), none, 0⟩), (4, ⟨(some 136), (.mv (.tmp 9)), none, 0⟩), (5, ⟨(some 137), (.mv (.tmp 19)), none, 0⟩), (6, ⟨(some 138), (.mv (.tmp 18)), none, 0⟩), (7, ⟨(some 139), (.bin .sub (.tmp 137) (.tmp 138)), none, 0⟩), (8, ⟨(some 140), (.faddr 0 (.tmp 5)), none, 0⟩), (9, ⟨(some 141), (.load 1 false (.tmp 140)), none, 0⟩), (10, ⟨(some 142), (.call false (.val (.lit (.func (.func 24) #[] #[]))) [(.tmp 139), (.tmp 141)]), none, 0⟩), (11, ⟨(some 143), (.iaddrS 2 (.tmp 136) (.tmp 142)), none, 0⟩), (12, ⟨(some 144), (.load 2 true (.tmp 143)), none, 0⟩), (13, ⟨(some 145), (.eqAgg true [.ci, .ci] (.tmp 135) (.tmp 144)), none, 0⟩)] [[], [], [0, 1], [2, 0, 1], [], [], [], [5, 6], [], [8], [7, 9, 5, 6, 8], [4, 10, 7, 9, 5, 6, 8], [11, 4, 10, 7, 9, 5, 6, 8], [3, 12, 2, 0, 1, 11, 4, 10, 7, 9, 5, 6, 8]])
 (.cond (.tmp 145) (.seq (.reg 0 [⟨(some 4), (.mv (.val (.lit (.bool false)))), none, 0⟩])
 .ret) .skip)))
 (.reg 0 [⟨(some 130), (.mv (.tmp 19)), none, 0⟩, ⟨(some 131), (.bin .add (.tmp 130) (.val (.lit (.int .i64 1)))), none, 0⟩, ⟨(some 19), (.mv (.tmp 131)), none, 0⟩])))
def c3 : ACode :=
 (.seq (.reg 1 [⟨(some 2), (.box 3 (.tmp 0)), none, 0⟩, ⟨(some 4), (.mv (.val (.lit (.bool false)))), none, 1⟩])
 (.seq (.seq (.reg 0 [⟨(some 20), (.call false (.val (.lit (.func (.func 19) #[] #[]))) []), none, 0⟩, ⟨(some 21), (.not (.tmp 20)), none, 0⟩])
 (.cond (.tmp 21) (.seq (.reg 0 [⟨(some 4), (.mv (.val (.lit (.bool false)))), none, 0⟩])
 .ret) .skip))
 (.seq (.reg 1 [⟨(some 23), (.load 3 true (.tmp 2)), none, 0⟩, ⟨(some 24), (.call false (.val (.lit (.func (.func 20) #[] #[]))) [(.tmp 23)]), none, 0⟩, ⟨(some 22), (.mv (.tmp 24)), none, 0⟩, ⟨(some 25), (.ext (.tmp 22) 0), none, 0⟩, ⟨(some 26), (.ext (.tmp 22) 1), none, 0⟩, ⟨(some 5), (.alloc [(.lit (.int .i64 0)), (.sl true 0 [])]), none, 0⟩, ⟨none, (.store 2 (.tmp 5) (.tmp 25)), none, 1⟩, ⟨(some 6), (.mv (.tmp 26)), none, 1⟩])
 (.seq (.seq (.reg 0 [⟨(some 27), (.mv (.tmp 6)), none, 0⟩, ⟨(some 28), (.not (.tmp 27)), none, 0⟩, ⟨(some 29), (.mv (.tmp 28)), none, 0⟩, ⟨(some 30), (.mv (.tmp 1)), (some (29, false)), 0⟩, ⟨(some 31), (.len (.tmp 30)), (some (29, false)), 0⟩, ⟨(some 32), (.faddr 0 (.tmp 2)), (some (29, false)), 0⟩, ⟨(some 33), (.load 1 false (.tmp 32)), (some (29, false)), 0⟩, ⟨(some 34), (.len (.tmp 33)), (some (29, false)), 0⟩, ⟨(some 35), (.bin .neq (.tmp 31) (.tmp 34)), (some (29, false)), 0⟩, ⟨(some 36), (.pick (.tmp 29) (.val (.lit (.bool true))) (.tmp 35)), none, 0⟩])
 (.cond (.tmp 36) (.seq (.reg 0 [⟨(some 4), (.mv (.val (.lit (.bool true)))), none, 0⟩])
 .ret) .skip))
 (.seq (.reg 1 [⟨(some 37), (.faddr 0 (.tmp 2)), none, 0⟩, ⟨(some 38), (.load 1 false (.tmp 37)), none, 0⟩, ⟨(some 39), (.mv (.tmp 1)), none, 0⟩, ⟨(some 40), (.faddr 2 (.tmp 2)), none, 0⟩, ⟨(some 41), (.load 1 false (.tmp 40)), none, 0⟩, ⟨(some 42), (.build [(.sl true 0 []), (.sl true 0 []), (.lit (.int .i64 0))] [(0, (1, (.tmp 38))), (1, (1, (.tmp 39))), (2, (1, (.tmp 41)))]), none, 0⟩, ⟨(some 7), (.alloc [(.sl true 0 []), (.sl true 0 []), (.lit (.int .i64 0))]), none, 0⟩, ⟨none, (.store 3 (.tmp 7) (.tmp 42)), none, 1⟩])
 (.seq (.reg 1 [⟨(some 44), (.load 3 true (.tmp 7)), none, 0⟩, ⟨(some 45), (.call false (.val (.lit (.func (.func 20) #[] #[]))) [(.tmp 44)]), none, 0⟩, ⟨(some 43), (.mv (.tmp 45)), none, 0⟩, ⟨(some 46), (.ext (.tmp 43) 0), none, 0⟩, ⟨(some 47), (.ext (.tmp 43) 1), none, 0⟩, ⟨(some 8), (.alloc [(.lit (.int .i64 0)), (.sl true 0 [])]), none, 0⟩, ⟨none, (.store 2 (.tmp 8) (.tmp 46)), none, 1⟩, ⟨(some 6), (.mv (.tmp 47)), none, 1⟩])
 (.seq (.seq (.reg 0 [⟨(some 48), (.mv (.tmp 6)), none, 0⟩, ⟨(some 49), (.not (.tmp 48)), none, 0⟩])
 (.cond (.tmp 49) (.seq (.reg 0 [⟨(some 4), (.mv (.val (.lit (.bool true)))), none, 0⟩])
 .ret) .skip))
 (.seq (.reg 0 [⟨(some 51), (.load 2 true (.tmp 5)), none, 0⟩, ⟨(some 52), (.call false (.val (.lit (.func (.func 21) #[] #[]))) [(.tmp 51)]), none, 0⟩, ⟨(some 50), (.mv (.tmp 52)), none, 0⟩, ⟨(some 53), (.ext (.tmp 50) 0), none, 0⟩, ⟨(some 54), (.ext (.tmp 50) 1), none, 0⟩, ⟨(some 9), (.mv (.tmp 53)), none, 0⟩, ⟨(some 10), (.mv (.tmp 54)), none, 0⟩])
 (.seq (.reg 0 [⟨(some 56), (.load 2 true (.tmp 8)), none, 0⟩, ⟨(some 57), (.call false (.val (.lit (.func (.func 21) #[] #[]))) [(.tmp 56)]), none, 0⟩, ⟨(some 55), (.mv (.tmp 57)), none, 0⟩, ⟨(some 58), (.ext (.tmp 55) 0), none, 0⟩, ⟨(some 59), (.ext (.tmp 55) 1), none, 0⟩, ⟨(some 11), (.mv (.tmp 58)), none, 0⟩, ⟨(some 12), (.mv (.tmp 59)), none, 0⟩])
 (.seq (.reg 1 [⟨(some 61), (.load 2 true (.tmp 5)), none, 0⟩, ⟨(some 62), (.call false (.val (.lit (.func (.func 22) #[] #[]))) [(.tmp 61)]), none, 0⟩, ⟨(some 60), (.mv (.tmp 62)), none, 0⟩, ⟨(some 63), (.ext (.tmp 60) 0), none, 0⟩, ⟨(some 64), (.ext (.tmp 60) 1), none, 0⟩, ⟨(some 13), (.alloc [(.lit (.int .i64 0)), (.lit (.int .i64 0))]), none, 0⟩, ⟨none, (.store 2 (.tmp 13) (.tmp 63)), none, 1⟩, ⟨(some 14), (.mv (.tmp 64)), none, 1⟩])
 (.seq (.seq (.reg 0 [⟨(some 65), (.mv (.tmp 10)), none, 0⟩, ⟨(some 66), (.bin .neq (.tmp 65) (.val (.lit (.int .i64 0)))), none, 0⟩, ⟨(some 67), (.mv (.tmp 66)), none, 0⟩, ⟨(some 68), (.mv (.tmp 12)), (some (67, false)), 0⟩, ⟨(some 69), (.bin .neq (.tmp 68) (.val (.lit (.int .i64 0)))), (some (67, false)), 0⟩, ⟨(some 70), (.pick (.tmp 67) (.val (.lit (.bool true))) (.tmp 69)), none, 0⟩, ⟨(some 71), (.mv (.tmp 70)), none, 0⟩, ⟨(some 72), (.mv (.tmp 14)), (some (71, false)), 0⟩, ⟨(some 73), (.bin .neq (.tmp 72) (.val (.lit (.int .i64 0)))), (some (71, false)), 0⟩, ⟨(some 74), (.pick (.tmp 71) (.val (.lit (.bool true))) (.tmp 73)), none, 0⟩, ⟨(some 75), (.mv (.tmp 74)), none, 0⟩, ⟨(some 76), (.mv (.tmp 9)), (some (75, false)), 0⟩, ⟨(some 77), (.len (.tmp 76)), (some (75, false)), 0⟩, ⟨(some 78), (.faddr 0 (.tmp 5)), (some (75, false)), 0⟩, ⟨(some 79), (.load 1 false (.tmp 78)), (some (75, false)), 0⟩, ⟨(some 80), (.bin .neq (.tmp 77) (.tmp 79)), (some (75, false)), 0⟩, ⟨(some 81), (.pick (.tmp 75) (.val (.lit (.bool true))) (.tmp 80)), none, 0⟩, ⟨(some 82), (.mv (.tmp 81)), none, 0⟩, ⟨(some 83), (.mv (.tmp 9)), (some (82, false)), 0⟩, ⟨(some 84), (.mv (.tmp 11)), (some (82, false)), 0⟩, ⟨(some 85), (.call false (.val (.lit (.func (.func 23) #[] #[]))) [(.tmp 83), (.tmp 84)]), (some (82, false)), 0⟩, ⟨(some 86), (.not (.tmp 85)), (some (82, false)), 0⟩, ⟨(some 87), (.pick (.tmp 82) (.val (.lit (.bool true))) (.tmp 86)), none, 0⟩, ⟨(some 88), (.mv (.tmp 87)), none, 0⟩, ⟨(some 89), (.load 2 true (.tmp 13)), (some (88, false)), 0⟩, ⟨(some 90), (.build [(.lit (.int .i64 0)), (.lit (.int .i64 0))] [(1, (1, (.val (.lit (.int .i64 1)))))]), (some (88, false)), 0⟩, ⟨(some 91), (.eqAgg true [.ci, .ci] (.tmp 89) (.tmp 90)), (some (88, false)), 0⟩, ⟨(some 92), (.pick (.tmp 88) (.val (.lit (.bool true))) (.tmp 91)), none, 0⟩])
 (.cond (.tmp 92) (.seq (.reg 0 [⟨(some 4), (.mv (.val (.lit (.bool false)))), none, 0⟩])
 .ret) .skip))
 (.seq (.dreg 5 [(0, ⟨(some 93), (.faddr 0 (.tmp 5)), none, 0⟩), (1, ⟨(some 94), (.load 1 false (.tmp 93)), none, 0⟩), (2, ⟨(some 95), (.bslice 1 0 [(.sl true 0 [])] []), none, 0⟩), (3, ⟨(some 96), (.faddr 1 (.tmp 5)), none, 1⟩), (4, ⟨(some 97), (.load 1 false (.tmp 96)), none, 1⟩), (5, ⟨(some 98), (.slc 1 (.tmp 97) (some (.val (.lit (.int .i64 1)))) none), none, 1⟩), (6, ⟨(some 99), (.app 1 24 (.tmp 95) (.tmp 98)), none, 1⟩), (7, ⟨(some 100), (.faddr 1 (.tmp 5)), none, 2⟩), (8, ⟨(some 101), (.load 1 false (.tmp 100)), none, 2⟩), (9, ⟨(some 102), (.iaddrS 1 (.tmp 101) (.val (.lit (.int .i64 0)))), none, 2⟩), (10, ⟨(some 103), (.load 1 false (.tmp 102)), none, 2⟩), (11, ⟨(some 104), (.bslice 1 1 [(.sl true 0 [])] [(0, (.tmp 103))]), none, 2⟩), (12, ⟨(some 105), (.app 1 24 (.tmp 99) (.tmp 104)), none, 3⟩), (13, ⟨(some 106), (.build [(.lit (.int .i64 0)), (.sl true 0 [])] [(0, (1, (.tmp 94))), (1, (1, (.tmp 105)))]), none, 4⟩), (14, ⟨(some 15), (.alloc [(.lit (.int .i64 0)), (.sl true 0 [])]), none, 4⟩), (15, ⟨none, (.store 2 (.tmp 15) (.tmp 106)), none, 5⟩)] [[], [0], [], [], [3], [4, 3], [2, 5, 4, 3], [], [7], [8, 7], [9, 8, 7], [10, 9, 8, 7], [6, 11, 2, 5, 4, 3, 10, 9, 8, 7], [1, 12, 0, 6, 11, 2, 5, 4, 3, 10, 9, 8, 7], [], [14, 13, 12, 0, 1, 2, 3, 4, 5, 6, 7, 8, 9, 10, 11]])
 (.seq (.reg 0 [⟨(some 108), (.load 2 true (.tmp 15)), none, 0⟩, ⟨(some 109), (.call false (.val (.lit (.func (.func 21) #[] #[]))) [(.tmp 108)]), none, 0⟩, ⟨(some 107), (.mv (.tmp 109)), none, 0⟩, ⟨(some 110), (.ext (.tmp 107) 0), none, 0⟩, ⟨(some 111), (.ext (.tmp 107) 1), none, 0⟩, ⟨(some 16), (.mv (.tmp 110)), none, 0⟩, ⟨(some 17), (.mv (.tmp 111)), none, 0⟩])
 (.seq (.seq (.reg 0 [⟨(some 112), (.mv (.tmp 17)), none, 0⟩, ⟨(some 113), (.bin .neq (.tmp 112) (.val (.lit (.int .i64 0)))), none, 0⟩, ⟨(some 114), (.mv (.tmp 113)), none, 0⟩, ⟨(some 115), (.mv (.tmp 16)), (some (114, false)), 0⟩, ⟨(some 116), (.len (.tmp 115)), (some (114, false)), 0⟩, ⟨(some 117), (.faddr 0 (.tmp 5)), (some (114, false)), 0⟩, ⟨(some 118), (.load 1 false (.tmp 117)), (some (114, false)), 0⟩, ⟨(some 119), (.bin .neq (.tmp 116) (.tmp 118)), (some (114, false)), 0⟩, ⟨(some 120), (.pick (.tmp 114) (.val (.lit (.bool true))) (.tmp 119)), none, 0⟩])
 (.cond (.tmp 120) (.seq (.reg 0 [⟨(some 4), (.mv (.val (.lit (.bool false)))), none, 0⟩])
 .ret) .skip))
 (.seq (.reg 0 [⟨(some 121), (.faddr 0 (.tmp 5)), none, 0⟩, ⟨(some 122), (.load 1 false (.tmp 121)), none, 0⟩, ⟨(some 123), (.faddr 2 (.tmp 2)), none, 0⟩, ⟨(some 124), (.load 1 false (.tmp 123)), none, 0⟩, ⟨(some 125), (.bin .quo (.tmp 122) (.tmp 124)), none, 0⟩, ⟨(some 18), (.mv (.tmp 125)), none, 0⟩])
 (.seq (.seq (.reg 0 [⟨(some 19), (.mv (.val (.lit (.int .i64 0)))), none, 0⟩])
 (.block 0 (.loop c3l0)))
 (.seq (.reg 0 [⟨(some 4), (.mv (.val (.lit (.bool true)))), none, 0⟩])
 .ret)))))))))))))))))
theorem e3 : envOf Try.prog muts 3 = some (146, c3, [(Go.Abs.ARes.tmp 4)]) := by kernel_rfl
def c21 : ACode :=
 (.seq (.reg 1 [⟨(some 1), (.box 2 (.tmp 0)), none, 0⟩, ⟨(some 2), (.mv (.val (.sl true 0 []))), none, 1⟩, ⟨(some 3), (.mv (.val (.lit (.int .i64 0)))), none, 1⟩])
 (.seq (.seq (.reg 0 [⟨(some 7), (.load 2 true (.tmp 1)), none, 0⟩, ⟨(some 8), (.call false (.val (.lit (.func (.func 37) #[] #[]))) [(.tmp 7)]), none, 0⟩, ⟨(some 4), (.mv (.tmp 8)), none, 0⟩])
 (.seq (.reg 0 [⟨(some 9), (.mv (.tmp 4)), none, 0⟩, ⟨(some 10), (.bin .neq (.tmp 9) (.val (.lit (.int .i64 0)))), none, 0⟩])
 (.cond (.tmp 10) (.seq (.reg 0 [⟨(some 11), (.mv (.tmp 4)), none, 0⟩, ⟨(some 2), (.mv (.val (.sl true 0 []))), none, 0⟩, ⟨(some 3), (.mv (.tmp 11)), none, 0⟩])
 .ret) .skip)))
 (.seq (.reg 0 [⟨(some 13), (.load 2 true (.tmp 1)), none, 0⟩, ⟨(some 14), (.call false (.val (.lit (.func (.func 86) #[] #[]))) [(.tmp 13)]), none, 0⟩, ⟨(some 12), (.mv (.tmp 14)), none, 0⟩, ⟨(some 15), (.ext (.tmp 12) 0), none, 0⟩, ⟨(some 16), (.ext (.tmp 12) 1), none, 0⟩, ⟨(some 5), (.mv (.tmp 15)), none, 0⟩, ⟨(some 6), (.mv (.tmp 16)), none, 0⟩])
 (.seq (.reg 0 [⟨(some 17), (.mv (.tmp 6)), none, 0⟩, ⟨(some 18), (.faddr 1 (.tmp 1)), none, 0⟩, ⟨(some 19), (.load 1 false (.tmp 18)), none, 0⟩, ⟨(some 20), (.len (.tmp 19)), none, 0⟩, ⟨(some 21), (.faddr 1 (.tmp 1)), none, 0⟩, ⟨(some 22), (.load 1 false (.tmp 21)), none, 0⟩, ⟨(some 23), (.len (.tmp 22)), none, 0⟩, ⟨(some 24), (.bin .mul (.tmp 20) (.tmp 23)), none, 0⟩, ⟨(some 25), (.call false (.val (.lit (.func (.func 87) #[] #[]))) [(.tmp 17), (.tmp 24)]), none, 0⟩, ⟨(some 2), (.mv (.tmp 25)), none, 0⟩, ⟨(some 3), (.mv (.val (.lit (.int .i64 0)))), none, 0⟩])
 .ret))))
theorem e21 : envOf Try.prog muts 21 = some (26, c21, [(Go.Abs.ARes.tmp 2), (Go.Abs.ARes.tmp 3)]) := by kernel_rfl
def c38l0 : ACode :=
 (.seq (.seq (.reg 0 [⟨(some 5), (.mv (.tmp 4)), none, 0⟩, ⟨(some 6), (.faddr 0 (.tmp 1)), none, 0⟩, ⟨(some 7), (.load 1 false (.tmp 6)), none, 0⟩, ⟨(some 8), (.bin .lss (.tmp 5) (.tmp 7)), none, 0⟩])
 (.cond (.tmp 8) .skip (.exit 0)))
 (.seq (.block 1 (.dreg 2 [(0, ⟨(some 11), (.mv (.tmp 3)), none, 0⟩), (1, ⟨(some 12), (.load 2 true (.tmp 1)), none, 0⟩), (2, ⟨(some 13), (.mv (.tmp 4)), none, 0⟩), (3, ⟨(some 14), (.call false (.val (.lit (.func (.func 103) #[] #[]))) [(.tmp 12), (.tmp 13)]), none, 0⟩), (4, ⟨(some 15), (.faddr 1 (.tmp 1)), none, 0⟩), (5, ⟨(some 16), (.load 1 false (.tmp 15)), none, 0⟩), (6, ⟨(some 17), (.len (.tmp 16)), none, 0⟩), (7, ⟨(some 18), (.faddr 1 (.tmp 1)), none, 0⟩), (8, ⟨(some 19), (.load 1 false (.tmp 18)), none, 0⟩), (9, ⟨(some 20), (.len (.tmp 19)), none, 0⟩), (10, ⟨(some 21), (.bin .mul (.tmp 17) (.tmp 20)), none, 0⟩), (11, ⟨(some 22), (.call false (.val (.lit (.func (.func 102) #[] #[]))) [(.tmp 14), (.tmp 21)]), none, 0⟩), (12, ⟨(some 23), (.bslice 2 1 [(.lit (.int .i64 0)), (.lit (.int .i64 0))] [(0, (.tmp 22))]), none, 0⟩), (13, ⟨(some 24), (.app 2 16 (.tmp 11) (.tmp 23)), none, 1⟩), (14, ⟨(some 3), (.mv (.tmp 24)), none, 2⟩)] [[], [], [], [1, 2], [], [4], [5, 4], [], [7], [8, 7], [6, 9, 5, 4, 8, 7], [3, 10, 1, 2, 6, 9, 5, 4, 8, 7], [11, 3, 10, 1, 2, 6, 9, 5, 4, 8, 7], [0, 12, 11, 3, 10, 1, 2, 6, 9, 5, 4, 8, 7], [13, 0, 1, 2, 3, 4, 5, 6, 7, 8, 9, 10, 11, 12]]))
 (.reg 0 [⟨(some 9), (.mv (.tmp 4)), none, 0⟩, ⟨(some 10), (.bin .add (.tmp 9) (.val (.lit (.int .i64 1)))), none, 0⟩, ⟨(some 4), (.mv (.tmp 10)), none, 0⟩])))
def c38 : ACode :=
 (.seq (.reg 1 [⟨(some 1), (.box 2 (.tmp 0)), none, 0⟩, ⟨(some 2), (.mv (.val (.sl true 0 []))), none, 1⟩])
 (.seq (.reg 0 [⟨(some 3), (.mv (.val (.sl true 0 []))), none, 0⟩])
 (.seq (.seq (.reg 0 [⟨(some 4), (.mv (.val (.lit (.int .i64 0)))), none, 0⟩])
 (.block 0 (.loop c38l0)))
 (.seq (.reg 0 [⟨(some 25), (.mv (.tmp 3)), none, 0⟩, ⟨(some 2), (.mv (.tmp 25)), none, 0⟩])
 .ret))))
theorem e38 : envOf Try.prog muts 38 = some (26, c38, [(Go.Abs.ARes.tmp 2)]) := by kernel_rfl
def c86l0 : ACode :=
 (.seq (.reg 0 [⟨(some 34), (.bin .lss (.tmp 33) (.tmp 32)), none, 0⟩])
 (.seq (.cond (.tmp 34) .skip (.exit 2))
 (.seq (.block 3 (.seq (.reg 0 [⟨(some 35), (.mv (.tmp 33)), none, 0⟩, ⟨(some 36), (.iaddrS 1 (.tmp 31) (.tmp 33)), none, 0⟩, ⟨(some 37), (.load 1 false (.tmp 36)), none, 0⟩, ⟨(some 8), (.mv (.tmp 35)), none, 0⟩, ⟨(some 9), (.mv (.tmp 37)), none, 0⟩])
 (.reg 0 [⟨(some 38), (.mv (.tmp 2)), none, 0⟩, ⟨(some 39), (.mv (.tmp 8)), none, 0⟩, ⟨(some 40), (.iaddrS 1 (.tmp 38) (.tmp 39)), none, 0⟩, ⟨(some 41), (.load 1 false (.tmp 40)), none, 0⟩, ⟨(some 42), (.mv (.tmp 9)), none, 0⟩, ⟨(some 43), (.bin .add (.tmp 41) (.tmp 42)), none, 0⟩, ⟨(some 44), (.iaddrS 1 (.tmp 38) (.tmp 39)), none, 0⟩, ⟨none, (.store 1 (.tmp 44) (.tmp 43)), none, 0⟩])))
 (.reg 0 [⟨(some 45), (.bin .add (.tmp 33) (.val (.lit (.int .i64 1)))), none, 0⟩, ⟨(some 33), (.mv (.tmp 45)), none, 0⟩]))))
def c86l1 : ACode :=
 (.seq (.reg 0 [⟨(some 28), (.bin .lss (.tmp 27) (.tmp 26)), none, 0⟩])
 (.seq (.cond (.tmp 28) .skip (.exit 0))
 (.seq (.block 1 (.seq (.reg 0 [⟨(some 29), (.iaddrS 1 (.tmp 25) (.tmp 27)), none, 0⟩, ⟨(some 30), (.load 1 false (.tmp 29)), none, 0⟩, ⟨(some 7), (.mv (.tmp 30)), none, 0⟩])
 (.seq (.reg 0 [⟨(some 31), (.mv (.tmp 7)), none, 0⟩, ⟨(some 32), (.len (.tmp 31)), none, 0⟩, ⟨(some 33), (.mv (.val (.lit (.int .i64 0)))), none, 0⟩])
 (.block 2 (.loop c86l0)))))
 (.reg 0 [⟨(some 46), (.bin .add (.tmp 27) (.val (.lit (.int .i64 1)))), none, 0⟩, ⟨(some 27), (.mv (.tmp 46)), none, 0⟩]))))
def c86l2 : ACode :=
 (.seq (.reg 0 [⟨(some 58), (.bin .lss (.tmp 57) (.tmp 56)), none, 0⟩])
 (.seq (.cond (.tmp 58) .skip (.exit 6))
 (.seq (.block 7 (.seq (.reg 0 [⟨(some 59), (.mv (.tmp 57)), none, 0⟩, ⟨(some 60), (.iaddrS 1 (.tmp 55) (.tmp 57)), none, 0⟩, ⟨(some 61), (.load 1 false (.tmp 60)), none, 0⟩, ⟨(some 12), (.mv (.tmp 59)), none, 0⟩, ⟨(some 13), (.mv (.tmp 61)), none, 0⟩])
 (.seq (.reg 0 [⟨(some 62), (.mv (.tmp 12)), none, 0⟩, ⟨(some 63), (.mv (.tmp 4)), none, 0⟩, ⟨(some 64), (.bin .add (.tmp 62) (.tmp 63)), none, 0⟩, ⟨(some 65), (.mv (.tmp 10)), none, 0⟩, ⟨(some 66), (.mv (.tmp 4)), none, 0⟩, ⟨(some 67), (.mv (.tmp 5)), none, 0⟩, ⟨(some 68), (.bin .quo (.tmp 66) (.tmp 67)), none, 0⟩, ⟨(some 69), (.bin .mul (.tmp 65) (.tmp 68)), none, 0⟩, ⟨(some 70), (.bin .sub (.tmp 64) (.tmp 69)), none, 0⟩, ⟨(some 71), (.mv (.tmp 4)), none, 0⟩, ⟨(some 72), (.bin .rem (.tmp 70) (.tmp 71)), none, 0⟩, ⟨(some 14), (.mv (.tmp 72)), none, 0⟩])
 (.dreg 0 [(0, ⟨(some 73), (.mv (.tmp 3)), none, 0⟩), (1, ⟨(some 74), (.mv (.tmp 14)), none, 0⟩), (2, ⟨(some 75), (.iaddrS 1 (.tmp 73) (.tmp 74)), none, 0⟩), (3, ⟨(some 76), (.load 1 false (.tmp 75)), none, 0⟩), (4, ⟨(some 77), (.mv (.tmp 5)), none, 0⟩), (5, ⟨(some 78), (.mv (.tmp 13)), none, 0⟩), (6, ⟨(some 79), (.bin .mul (.tmp 77) (.tmp 78)), none, 0⟩), (7, ⟨(some 80), (.mv (.tmp 2)), none, 0⟩), (8, ⟨(some 81), (.mv (.tmp 12)), none, 0⟩), (9, ⟨(some 82), (.iaddrS 1 (.tmp 80) (.tmp 81)), none, 0⟩), (10, ⟨(some 83), (.load 1 false (.tmp 82)), none, 0⟩), (11, ⟨(some 84), (.bin .sub (.tmp 79) (.tmp 83)), none, 0⟩), (12, ⟨(some 85), (.bin .add (.tmp 76) (.tmp 84)), none, 0⟩), (13, ⟨(some 86), (.iaddrS 1 (.tmp 73) (.tmp 74)), none, 0⟩), (14, ⟨none, (.store 1 (.tmp 86) (.tmp 85)), none, 0⟩)] [[], [], [0, 1], [2, 0, 1], [], [], [4, 5], [], [], [7, 8], [9, 7, 8], [6, 10, 4, 5, 9, 7, 8], [3, 11, 2, 0, 1, 6, 10, 4, 5, 9, 7, 8], [0, 1, 2, 3, 4, 5, 6, 7, 8, 9, 10, 11, 12], [13, 12, 0, 1, 2, 3, 4, 5, 6, 7, 8, 9, 10, 11]]))))
 (.reg 0 [⟨(some 87), (.bin .add (.tmp 57) (.val (.lit (.int .i64 1)))), none, 0⟩, ⟨(some 57), (.mv (.tmp 87)), none, 0⟩]))))
def c86l3 : ACode :=
 (.seq (.reg 0 [⟨(some 51), (.bin .lss (.tmp 50) (.tmp 49)), none, 0⟩])
 (.seq (.cond (.tmp 51) .skip (.exit 4))
 (.seq (.block 5 (.seq (.reg 0 [⟨(some 52), (.mv (.tmp 50)), none, 0⟩, ⟨(some 53), (.iaddrS 1 (.tmp 48) (.tmp 50)), none, 0⟩, ⟨(some 54), (.load 1 false (.tmp 53)), none, 0⟩, ⟨(some 10), (.mv (.tmp 52)), none, 0⟩, ⟨(some 11), (.mv (.tmp 54)), none, 0⟩])
 (.seq (.reg 0 [⟨(some 55), (.mv (.tmp 11)), none, 0⟩, ⟨(some 56), (.len (.tmp 55)), none, 0⟩, ⟨(some 57), (.mv (.val (.lit (.int .i64 0)))), none, 0⟩])
 (.block 6 (.loop c86l2)))))
 (.reg 0 [⟨(some 88), (.bin .add (.tmp 50) (.val (.lit (.int .i64 1)))), none, 0⟩, ⟨(some 50), (.mv (.tmp 88)), none, 0⟩]))))
def c86 : ACode :=
 (.seq (.reg 1 [⟨(some 1), (.box 2 (.tmp 0)), none, 0⟩, ⟨(some 2), (.mv (.val (.sl true 0 []))), none, 1⟩, ⟨(some 3), (.mv (.val (.sl true 0 []))), none, 1⟩])
 (.seq (.dreg 0 [(0, ⟨(some 15), (.faddr 0 (.tmp 1)), none, 0⟩), (1, ⟨(some 16), (.load 1 false (.tmp 15)), none, 0⟩), (2, ⟨(some 17), (.faddr 1 (.tmp 1)), none, 0⟩), (3, ⟨(some 18), (.load 1 false (.tmp 17)), none, 0⟩), (4, ⟨(some 19), (.len (.tmp 18)), none, 0⟩), (5, ⟨(some 4), (.mv (.tmp 16)), none, 0⟩), (6, ⟨(some 5), (.mv (.tmp 19)), none, 0⟩)] [[], [0], [], [2], [3, 2], [1, 0], [4, 5, 0, 1, 2, 3]])
 (.seq (.dreg 2 [(0, ⟨(some 20), (.mv (.tmp 4)), none, 0⟩), (1, ⟨(some 21), (.mks 1 8 [(.lit (.int .i64 0))] (.tmp 20) (.tmp 20)), none, 0⟩), (2, ⟨(some 22), (.mv (.tmp 4)), none, 1⟩), (3, ⟨(some 23), (.mks 1 8 [(.lit (.int .i64 0))] (.tmp 22) (.tmp 22)), none, 1⟩), (4, ⟨(some 2), (.mv (.tmp 21)), none, 2⟩), (5, ⟨(some 3), (.mv (.tmp 23)), none, 2⟩)] [[], [0], [], [2], [1, 0], [3, 4, 0, 1, 2]])
 (.seq (.seq (.reg 0 [⟨(some 24), (.faddr 1 (.tmp 1)), none, 0⟩, ⟨(some 25), (.load 1 false (.tmp 24)), none, 0⟩, ⟨(some 26), (.len (.tmp 25)), none, 0⟩, ⟨(some 27), (.mv (.val (.lit (.int .i64 0)))), none, 0⟩])
 (.block 0 (.loop c86l1)))
 (.seq (.seq (.reg 0 [⟨(some 47), (.faddr 1 (.tmp 1)), none, 0⟩, ⟨(some 48), (.load 1 false (.tmp 47)), none, 0⟩, ⟨(some 49), (.len (.tmp 48)), none, 0⟩, ⟨(some 50), (.mv (.val (.lit (.int .i64 0)))), none, 0⟩])
 (.block 4 (.loop c86l3)))
 (.seq (.reg 0 [⟨(some 89), (.mv (.tmp 2)), none, 0⟩, ⟨(some 90), (.mv (.tmp 3)), none, 0⟩, ⟨(some 2), (.mv (.tmp 89)), none, 0⟩, ⟨(some 3), (.mv (.tmp 90)), none, 0⟩])
 .ret))))))
theorem e86 : envOf Try.prog muts 86 = some (91, c86, [(Go.Abs.ARes.tmp 2), (Go.Abs.ARes.tmp 3)]) := by kernel_rfl
def c87l0 : ACode :=
 (.seq (.reg 0 [⟨(some 11), (.bin .lss (.tmp 10) (.tmp 9)), none, 0⟩])
 (.seq (.cond (.tmp 11) .skip (.exit 0))
 (.seq (.block 1 (.seq (.reg 0 [⟨(some 12), (.iaddrS 1 (.tmp 8) (.tmp 10)), none, 0⟩, ⟨(some 13), (.load 1 false (.tmp 12)), none, 0⟩, ⟨(some 7), (.mv (.tmp 13)), none, 0⟩])
 (.reg 2 [⟨(some 14), (.mv (.tmp 5)), none, 0⟩, ⟨(some 15), (.mv (.tmp 7)), none, 0⟩, ⟨(some 16), (.mv (.tmp 1)), none, 0⟩, ⟨(some 17), (.call false (.val (.lit (.func (.func 88) #[] #[]))) [(.tmp 15), (.tmp 16)]), none, 0⟩, ⟨(some 18), (.bslice 2 1 [(.lit (.int .i64 0)), (.lit (.int .i64 0))] [(0, (.tmp 17))]), none, 0⟩, ⟨(some 19), (.app 2 16 (.tmp 14) (.tmp 18)), none, 1⟩, ⟨(some 5), (.mv (.tmp 19)), none, 2⟩])))
 (.reg 0 [⟨(some 20), (.bin .add (.tmp 10) (.val (.lit (.int .i64 1)))), none, 0⟩, ⟨(some 10), (.mv (.tmp 20)), none, 0⟩]))))
def c87 : ACode :=
 (.seq (.reg 0 [⟨(some 4), (.mv (.val (.sl true 0 []))), none, 0⟩])
 (.seq (.reg 0 [⟨(some 5), (.mv (.val (.sl true 0 []))), none, 0⟩])
 (.seq (.seq (.reg 0 [⟨(some 8), (.mv (.tmp 0)), none, 0⟩, ⟨(some 9), (.len (.tmp 8)), none, 0⟩, ⟨(some 10), (.mv (.val (.lit (.int .i64 0)))), none, 0⟩])
 (.block 0 (.loop c87l0)))
 (.seq (.reg 0 [⟨(some 21), (.mv (.tmp 5)), none, 0⟩, ⟨(some 4), (.mv (.tmp 21)), none, 0⟩])
 .ret))))
theorem e87 : envOf Try.prog muts 87 = some (22, c87, [(Go.Abs.ARes.tmp 4)]) := by kernel_rfl
def c137l0 : ACode :=
 (.seq (.seq (.reg 0 [⟨(some 5), (.mv (.tmp 1)), none, 0⟩, ⟨(some 6), (.bin .neq (.tmp 5) (.val (.lit (.int .i64 0)))), none, 0⟩])
 (.cond (.tmp 6) .skip (.exit 0)))
 (.block 1 (.dreg 0 [(0, ⟨(some 7), (.mv (.tmp 1)), none, 0⟩), (1, ⟨(some 8), (.mv (.tmp 0)), none, 0⟩), (2, ⟨(some 9), (.mv (.tmp 1)), none, 0⟩), (3, ⟨(some 10), (.bin .rem (.tmp 8) (.tmp 9)), none, 0⟩), (4, ⟨(some 0), (.mv (.tmp 7)), none, 0⟩), (5, ⟨(some 1), (.mv (.tmp 10)), none, 0⟩)] [[], [], [], [1, 2], [0, 1], [3, 4, 0, 1, 2]])))
def c137 : ACode :=
 (.seq (.reg 0 [⟨(some 4), (.mv (.val (.lit (.int .i64 0)))), none, 0⟩])
 (.seq (.block 0 (.loop c137l0))
 (.seq (.reg 0 [⟨(some 11), (.mv (.tmp 0)), none, 0⟩, ⟨(some 12), (.mv (.tmp 0)), none, 0⟩, ⟨(some 13), (.neg (.tmp 12)), none, 0⟩, ⟨(some 14), (.minmax true [(.tmp 11), (.tmp 13)]), none, 0⟩, ⟨(some 4), (.mv (.tmp 14)), none, 0⟩])
 .ret)))
theorem e137 : envOf Try.prog muts 137 = some (15, c137, [(Go.Abs.ARes.tmp 4)]) := by kernel_rfl
def c139l0 : ACode :=
 (.seq (.seq (.reg 0 [⟨(some 5), (.mv (.tmp 1)), none, 0⟩, ⟨(some 6), (.bin .neq (.tmp 5) (.val (.lit (.int .i64 0)))), none, 0⟩])
 (.cond (.tmp 6) .skip (.exit 0)))
 (.block 1 (.dreg 0 [(0, ⟨(some 7), (.mv (.tmp 1)), none, 0⟩), (1, ⟨(some 8), (.mv (.tmp 0)), none, 0⟩), (2, ⟨(some 9), (.mv (.tmp 1)), none, 0⟩), (3, ⟨(some 10), (.bin .rem (.tmp 8) (.tmp 9)), none, 0⟩), (4, ⟨(some 0), (.mv (.tmp 7)), none, 0⟩), (5, ⟨(some 1), (.mv (.tmp 10)), none, 0⟩)] [[], [], [], [1, 2], [0, 1], [3, 4, 0, 1, 2]])))
def c139 : ACode :=
 (.seq (.reg 0 [⟨(some 4), (.mv (.val (.lit (.int .i64 0)))), none, 0⟩])
 (.seq (.block 0 (.loop c139l0))
 (.seq (.reg 0 [⟨(some 11), (.mv (.tmp 0)), none, 0⟩, ⟨(some 12), (.call false (.val (.lit (.func (.func 59) #[] #[]))) [(.tmp 11)]), none, 0⟩, ⟨(some 4), (.mv (.tmp 12)), none, 0⟩])
 .ret)))
theorem e139 : envOf Try.prog muts 139 = some (13, c139, [(Go.Abs.ARes.tmp 4)]) := by kernel_rfl
def c28 : ACode :=
 (.seq (.reg 0 [⟨(some 2), (.mv (.val (.sl true 0 []))), none, 0⟩])
 (.seq (.reg 2 [⟨(some 3), (.bslice 1 0 [(.lit (.int .i64 0))] []), none, 0⟩, ⟨(some 4), (.mv (.tmp 0)), none, 1⟩, ⟨(some 5), (.app 1 8 (.tmp 3) (.tmp 4)), none, 1⟩, ⟨(some 2), (.mv (.tmp 5)), none, 2⟩])
 .ret))
theorem e28 : envOf Try.prog muts 28 = some (6, c28, [(Go.Abs.ARes.tmp 2)]) := by kernel_rfl
def c37l0 : ACode :=
 (.seq (.reg 0 [⟨(some 33), (.bin .lss (.tmp 32) (.tmp 31)), none, 0⟩])
 (.seq (.cond (.tmp 33) .skip (.exit 0))
 (.seq (.block 1 (.seq (.reg 0 [⟨(some 34), (.iaddrS 1 (.tmp 30) (.tmp 32)), none, 0⟩, ⟨(some 35), (.load 1 false (.tmp 34)), none, 0⟩, ⟨(some 5), (.mv (.tmp 35)), none, 0⟩])
 (.seq (.reg 0 [⟨(some 36), (.mv (.tmp 5)), none, 0⟩, ⟨(some 37), (.call true (.val (.lit (.func (.func 90) #[] #[]))) [(.tmp 36), (.val (.lit (.func (.func 101) #[] #[])))]), none, 0⟩])
 (.cond (.tmp 37) (.seq (.reg 0 [⟨(some 2), (.mv (.val (.lit (.int .i64 2)))), none, 0⟩])
 .ret) .skip))))
 (.reg 0 [⟨(some 38), (.bin .add (.tmp 32) (.val (.lit (.int .i64 1)))), none, 0⟩, ⟨(some 32), (.mv (.tmp 38)), none, 0⟩]))))
def c37 : ACode :=
 (.seq (.reg 1 [⟨(some 1), (.box 2 (.tmp 0)), none, 0⟩, ⟨(some 2), (.mv (.val (.lit (.int .i64 0)))), none, 1⟩])
 (.seq (.seq (.reg 0 [⟨(some 6), (.faddr 0 (.tmp 1)), none, 0⟩, ⟨(some 7), (.load 1 false (.tmp 6)), none, 0⟩, ⟨(some 8), (.call false (.val (.lit (.func (.func 92) #[] #[]))) [(.tmp 7), (.val (.lit (.int .i64 1))), (.val (.lit (.int .i64 24)))]), none, 0⟩, ⟨(some 9), (.not (.tmp 8)), none, 0⟩])
 (.cond (.tmp 9) (.seq (.reg 0 [⟨(some 2), (.mv (.val (.lit (.int .i64 2)))), none, 0⟩])
 .ret) .skip))
 (.seq (.reg 0 [⟨(some 10), (.faddr 1 (.tmp 1)), none, 0⟩, ⟨(some 11), (.load 1 false (.tmp 10)), none, 0⟩, ⟨(some 12), (.len (.tmp 11)), none, 0⟩, ⟨(some 3), (.mv (.tmp 12)), none, 0⟩])
 (.seq (.seq (.reg 0 [⟨(some 13), (.mv (.tmp 3)), none, 0⟩, ⟨(some 14), (.call false (.val (.lit (.func (.func 92) #[] #[]))) [(.tmp 13), (.val (.lit (.int .i64 1))), (.val (.lit (.int .i64 12)))]), none, 0⟩, ⟨(some 15), (.not (.tmp 14)), none, 0⟩, ⟨(some 16), (.mv (.tmp 15)), none, 0⟩, ⟨(some 17), (.faddr 0 (.tmp 1)), (some (16, false)), 0⟩, ⟨(some 18), (.load 1 false (.tmp 17)), (some (16, false)), 0⟩, ⟨(some 19), (.mv (.tmp 3)), (some (16, false)), 0⟩, ⟨(some 20), (.bin .rem (.tmp 18) (.tmp 19)), (some (16, false)), 0⟩, ⟨(some 21), (.bin .neq (.tmp 20) (.val (.lit (.int .i64 0)))), (some (16, false)), 0⟩, ⟨(some 22), (.pick (.tmp 16) (.val (.lit (.bool true))) (.tmp 21)), none, 0⟩, ⟨(some 23), (.mv (.tmp 22)), none, 0⟩, ⟨(some 24), (.faddr 1 (.tmp 1)), (some (23, false)), 0⟩, ⟨(some 25), (.load 1 false (.tmp 24)), (some (23, false)), 0⟩, ⟨(some 26), (.mkf (.func 100) [] [(.tmp 1)]), (some (23, false)), 0⟩, ⟨(some 27), (.call true (.val (.lit (.func (.func 99) #[] #[]))) [(.tmp 25), (.tmp 26)]), (some (23, false)), 0⟩, ⟨(some 28), (.pick (.tmp 23) (.val (.lit (.bool true))) (.tmp 27)), none, 0⟩])
 (.cond (.tmp 28) (.seq (.reg 0 [⟨(some 2), (.mv (.val (.lit (.int .i64 10)))), none, 0⟩])
 .ret) .skip))
 (.seq (.seq (.reg 0 [⟨(some 29), (.faddr 1 (.tmp 1)), none, 0⟩, ⟨(some 30), (.load 1 false (.tmp 29)), none, 0⟩, ⟨(some 31), (.len (.tmp 30)), none, 0⟩, ⟨(some 32), (.mv (.val (.lit (.int .i64 0)))), none, 0⟩])
 (.block 0 (.loop c37l0)))
 (.seq (.reg 0 [⟨(some 2), (.mv (.val (.lit (.int .i64 0)))), none, 0⟩])
 .ret))))))
theorem e37 : envOf Try.prog muts 37 = some (39, c37, [(Go.Abs.ARes.tmp 2)]) := by kernel_rfl
def c39l0 : ACode :=
 (.seq (.seq (.reg 0 [⟨(some 5), (.mv (.tmp 4)), none, 0⟩, ⟨(some 6), (.faddr 0 (.tmp 1)), none, 0⟩, ⟨(some 7), (.load 1 false (.tmp 6)), none, 0⟩, ⟨(some 8), (.bin .lss (.tmp 5) (.tmp 7)), none, 0⟩])
 (.cond (.tmp 8) .skip (.exit 0)))
 (.seq (.block 1 (.dreg 2 [(0, ⟨(some 11), (.mv (.tmp 3)), none, 0⟩), (1, ⟨(some 12), (.load 2 true (.tmp 1)), none, 0⟩), (2, ⟨(some 13), (.mv (.tmp 4)), none, 0⟩), (3, ⟨(some 14), (.call false (.val (.lit (.func (.func 104) #[] #[]))) [(.tmp 12), (.tmp 13)]), none, 0⟩), (4, ⟨(some 15), (.faddr 1 (.tmp 1)), none, 0⟩), (5, ⟨(some 16), (.load 1 false (.tmp 15)), none, 0⟩), (6, ⟨(some 17), (.len (.tmp 16)), none, 0⟩), (7, ⟨(some 18), (.call false (.val (.lit (.func (.func 102) #[] #[]))) [(.tmp 14), (.tmp 17)]), none, 0⟩), (8, ⟨(some 19), (.bslice 2 1 [(.lit (.int .i64 0)), (.lit (.int .i64 0))] [(0, (.tmp 18))]), none, 0⟩), (9, ⟨(some 20), (.app 2 16 (.tmp 11) (.tmp 19)), none, 1⟩), (10, ⟨(some 3), (.mv (.tmp 20)), none, 2⟩)] [[], [], [], [1, 2], [], [4], [5, 4], [3, 6, 1, 2, 5, 4], [7, 3, 6, 1, 2, 5, 4], [0, 8, 7, 3, 6, 1, 2, 5, 4], [9, 0, 1, 2, 3, 4, 5, 6, 7, 8]]))
 (.reg 0 [⟨(some 9), (.mv (.tmp 4)), none, 0⟩, ⟨(some 10), (.bin .add (.tmp 9) (.val (.lit (.int .i64 1)))), none, 0⟩, ⟨(some 4), (.mv (.tmp 10)), none, 0⟩])))
def c39 : ACode :=
 (.seq (.reg 1 [⟨(some 1), (.box 2 (.tmp 0)), none, 0⟩, ⟨(some 2), (.mv (.val (.sl true 0 []))), none, 1⟩])
 (.seq (.reg 0 [⟨(some 3), (.mv (.val (.sl true 0 []))), none, 0⟩])
 (.seq (.seq (.reg 0 [⟨(some 4), (.mv (.val (.lit (.int .i64 0)))), none, 0⟩])
 (.block 0 (.loop c39l0)))
 (.seq (.reg 0 [⟨(some 21), (.mv (.tmp 3)), none, 0⟩, ⟨(some 2), (.mv (.tmp 21)), none, 0⟩])
 .ret))))
theorem e39 : envOf Try.prog muts 39 = some (22, c39, [(Go.Abs.ARes.tmp 2)]) := by kernel_rfl
def c92 : ACode :=
 (.seq (.reg 0 [⟨(some 6), (.mv (.val (.lit (.bool false)))), none, 0⟩])
 (.seq (.reg 0 [⟨(some 7), (.mv (.tmp 1)), none, 0⟩, ⟨(some 8), (.mv (.tmp 0)), none, 0⟩, ⟨(some 9), (.bin .leq (.tmp 7) (.tmp 8)), none, 0⟩, ⟨(some 10), (.mv (.tmp 9)), none, 0⟩, ⟨(some 11), (.mv (.tmp 0)), (some (10, true)), 0⟩, ⟨(some 12), (.mv (.tmp 2)), (some (10, true)), 0⟩, ⟨(some 13), (.bin .leq (.tmp 11) (.tmp 12)), (some (10, true)), 0⟩, ⟨(some 14), (.pick (.tmp 10) (.tmp 13) (.val (.lit (.bool false)))), none, 0⟩, ⟨(some 6), (.mv (.tmp 14)), none, 0⟩])
 .ret))
theorem e92 : envOf Try.prog muts 92 = some (15, c92, [(Go.Abs.ARes.tmp 6)]) := by kernel_rfl
def c99 : ACode :=
 (.seq (.reg 0 [⟨(some 4), (.mv (.val (.lit (.bool false)))), none, 0⟩])
 (.seq (.reg 0 [⟨(some 5), (.mv (.tmp 0)), none, 0⟩, ⟨(some 6), (.mv (.tmp 1)), none, 0⟩, ⟨(some 7), (.call true (.val (.lit (.func (.func 145) #[] #[]))) [(.tmp 5), (.tmp 6)]), none, 0⟩, ⟨(some 8), (.bin .geq (.tmp 7) (.val (.lit (.int .i64 0)))), none, 0⟩, ⟨(some 4), (.mv (.tmp 8)), none, 0⟩])
 .ret))
theorem e99 : envOf Try.prog muts 99 = some (9, c99, [(Go.Abs.ARes.tmp 4)]) := by kernel_rfl
def c105 : ACode :=
 (.seq (.reg 1 [⟨(some 2), (.box 2 (.tmp 0)), none, 0⟩, ⟨(some 4), (.mv (.val (.lit (.bool false)))), none, 1⟩])
 (.seq (.reg 0 [⟨(some 5), (.mv (.tmp 1)), none, 0⟩, ⟨(some 6), (.faddr 1 (.tmp 2)), none, 0⟩, ⟨(some 7), (.load 1 false (.tmp 6)), none, 0⟩, ⟨(some 8), (.len (.tmp 7)), none, 0⟩, ⟨(some 9), (.bin .sub (.tmp 8) (.val (.lit (.int .i64 1)))), none, 0⟩, ⟨(some 10), (.call false (.val (.lit (.func (.func 92) #[] #[]))) [(.tmp 5), (.val (.lit (.int .i64 0))), (.tmp 9)]), none, 0⟩, ⟨(some 11), (.mv (.tmp 10)), none, 0⟩, ⟨(some 12), (.faddr 1 (.tmp 2)), (some (11, true)), 0⟩, ⟨(some 13), (.load 1 false (.tmp 12)), (some (11, true)), 0⟩, ⟨(some 14), (.mv (.tmp 1)), (some (11, true)), 0⟩, ⟨(some 15), (.iaddrS 1 (.tmp 13) (.tmp 14)), (some (11, true)), 0⟩, ⟨(some 16), (.load 1 false (.tmp 15)), (some (11, true)), 0⟩, ⟨(some 17), (.bin .neq (.tmp 16) (.val (.lit (.int .i64 (-1))))), (some (11, true)), 0⟩, ⟨(some 18), (.pick (.tmp 11) (.tmp 17) (.val (.lit (.bool false)))), none, 0⟩, ⟨(some 4), (.mv (.tmp 18)), none, 0⟩])
 .ret))
theorem e105 : envOf Try.prog muts 105 = some (19, c105, [(Go.Abs.ARes.tmp 4)]) := by kernel_rfl
def c9 : ACode :=
 (.seq (.reg 0 [⟨(some 4), (.mv (.val (.lit (.bool false)))), none, 0⟩])
 (.seq (.seq (.reg 0 [⟨(some 14), (.call false (.val (.lit (.func (.func 19) #[] #[]))) []), none, 0⟩, ⟨(some 15), (.not (.tmp 14)), none, 0⟩])
 (.cond (.tmp 15) (.seq (.reg 0 [⟨(some 4), (.mv (.val (.lit (.bool false)))), none, 0⟩])
 .ret) .skip))
 (.seq (.seq (.reg 0 [⟨(some 16), (.mv (.tmp 1)), none, 0⟩, ⟨(some 17), (.call false (.val (.lit (.func (.func 25) #[] #[]))) [(.tmp 16), (.val (.lit (.int .i64 12)))]), none, 0⟩, ⟨(some 18), (.not (.tmp 17)), none, 0⟩])
 (.cond (.tmp 18) (.seq (.reg 0 [⟨(some 4), (.mv (.val (.lit (.bool true)))), none, 0⟩])
 .ret) .skip))
 (.seq (.reg 0 [⟨(some 20), (.mv (.tmp 0)), none, 0⟩, ⟨(some 21), (.mv (.tmp 1)), none, 0⟩, ⟨(some 22), (.call false (.val (.lit (.func (.func 27) #[] #[]))) [(.tmp 21)]), none, 0⟩, ⟨(some 23), (.call false (.val (.lit (.func (.func 31) #[] #[]))) [(.tmp 20), (.tmp 22)]), none, 0⟩, ⟨(some 19), (.mv (.tmp 23)), none, 0⟩, ⟨(some 24), (.ext (.tmp 19) 0), none, 0⟩, ⟨(some 25), (.ext (.tmp 19) 1), none, 0⟩, ⟨(some 26), (.ext (.tmp 19) 2), none, 0⟩, ⟨(some 5), (.mv (.tmp 24)), none, 0⟩, ⟨(some 6), (.mv (.tmp 25)), none, 0⟩, ⟨(some 7), (.mv (.tmp 26)), none, 0⟩])
 (.seq (.reg 0 [⟨(some 28), (.mv (.tmp 0)), none, 0⟩, ⟨(some 29), (.mv (.tmp 1)), none, 0⟩, ⟨(some 30), (.call false (.val (.lit (.func (.func 49) #[] #[]))) [(.tmp 28), (.tmp 29)]), none, 0⟩, ⟨(some 27), (.mv (.tmp 30)), none, 0⟩, ⟨(some 31), (.ext (.tmp 27) 0), none, 0⟩, ⟨(some 32), (.ext (.tmp 27) 1), none, 0⟩, ⟨(some 8), (.mv (.tmp 31)), none, 0⟩, ⟨(some 9), (.mv (.tmp 32)), none, 0⟩])
 (.seq (.seq (.reg 0 [⟨(some 33), (.mv (.tmp 9)), none, 0⟩, ⟨(some 34), (.bin .eql (.tmp 33) (.val (.lit (.int .i64 0)))), none, 0⟩])
 (.cond (.tmp 34) (.seq (.reg 0 [⟨(some 35), (.mv (.tmp 7)), none, 0⟩, ⟨(some 36), (.bin .eql (.tmp 35) (.val (.lit (.int .i64 0)))), none, 0⟩, ⟨(some 37), (.mv (.tmp 36)), none, 0⟩, ⟨(some 38), (.mv (.tmp 6)), (some (37, true)), 0⟩, ⟨(some 39), (.len (.tmp 38)), (some (37, true)), 0⟩, ⟨(some 40), (.bin .eql (.tmp 39) (.val (.lit (.int .i64 0)))), (some (37, true)), 0⟩, ⟨(some 41), (.pick (.tmp 37) (.tmp 40) (.val (.lit (.bool false)))), none, 0⟩, ⟨(some 42), (.mv (.tmp 41)), none, 0⟩, ⟨(some 43), (.mv (.tmp 5)), (some (42, true)), 0⟩, ⟨(some 44), (.mv (.tmp 8)), (some (42, true)), 0⟩, ⟨(some 45), (.call false (.val (.lit (.func (.func 51) #[] #[]))) [(.tmp 44)]), (some (42, true)), 0⟩, ⟨(some 46), (.call false (.val (.lit (.func (.func 50) #[] #[]))) [(.tmp 43), (.tmp 45)]), (some (42, true)), 0⟩, ⟨(some 47), (.pick (.tmp 42) (.tmp 46) (.val (.lit (.bool false)))), none, 0⟩, ⟨(some 4), (.mv (.tmp 47)), none, 0⟩])
 .ret) .skip))
 (.seq (.seq (.reg 0 [⟨(some 48), (.mv (.tmp 7)), none, 0⟩, ⟨(some 49), (.mv (.tmp 9)), none, 0⟩, ⟨(some 50), (.bin .neq (.tmp 48) (.tmp 49)), none, 0⟩, ⟨(some 51), (.mv (.tmp 50)), none, 0⟩, ⟨(some 52), (.mv (.tmp 5)), (some (51, false)), 0⟩, ⟨(some 53), (.len (.tmp 52)), (some (51, false)), 0⟩, ⟨(some 54), (.bin .neq (.tmp 53) (.val (.lit (.int .i64 0)))), (some (51, false)), 0⟩, ⟨(some 55), (.pick (.tmp 51) (.val (.lit (.bool true))) (.tmp 54)), none, 0⟩])
 (.cond (.tmp 55) (.seq (.reg 0 [⟨(some 4), (.mv (.val (.lit (.bool false)))), none, 0⟩])
 .ret) .skip))
 (.seq (.seq (.reg 0 [⟨(some 56), (.mv (.tmp 7)), none, 0⟩, ⟨(some 57), (.bin .neq (.tmp 56) (.val (.lit (.int .i64 13)))), none, 0⟩])
 (.cond (.tmp 57) (.seq (.reg 0 [⟨(some 58), (.mv (.tmp 6)), none, 0⟩, ⟨(some 59), (.len (.tmp 58)), none, 0⟩, ⟨(some 60), (.bin .eql (.tmp 59) (.val (.lit (.int .i64 0)))), none, 0⟩, ⟨(some 4), (.mv (.tmp 60)), none, 0⟩])
 .ret) .skip))
 (.seq (.reg 0 [⟨(some 62), (.mv (.tmp 1)), none, 0⟩, ⟨(some 63), (.mv (.tmp 6)), none, 0⟩, ⟨(some 64), (.call false (.val (.lit (.func (.func 52) #[] #[]))) [(.tmp 62), (.tmp 63)]), none, 0⟩, ⟨(some 61), (.mv (.tmp 64)), none, 0⟩, ⟨(some 65), (.ext (.tmp 61) 0), none, 0⟩, ⟨(some 66), (.ext (.tmp 61) 1), none, 0⟩, ⟨(some 10), (.mv (.tmp 65)), none, 0⟩, ⟨(some 11), (.mv (.tmp 66)), none, 0⟩])
 (.seq (.reg 0 [⟨(some 68), (.mv (.tmp 0)), none, 0⟩, ⟨(some 69), (.mv (.tmp 1)), none, 0⟩, ⟨(some 70), (.call false (.val (.lit (.func (.func 27) #[] #[]))) [(.tmp 69)]), none, 0⟩, ⟨(some 71), (.mv (.tmp 6)), none, 0⟩, ⟨(some 72), (.call false (.val (.lit (.func (.func 28) #[] #[]))) [(.tmp 71)]), none, 0⟩, ⟨(some 73), (.call false (.val (.lit (.func (.func 53) #[] #[]))) [(.tmp 68), (.tmp 70), (.tmp 72)]), none, 0⟩, ⟨(some 67), (.mv (.tmp 73)), none, 0⟩, ⟨(some 74), (.ext (.tmp 67) 0), none, 0⟩, ⟨(some 75), (.ext (.tmp 67) 1), none, 0⟩, ⟨(some 12), (.mv (.tmp 74)), none, 0⟩, ⟨(some 13), (.mv (.tmp 75)), none, 0⟩])
 (.seq (.reg 0 [⟨(some 76), (.mv (.tmp 6)), none, 0⟩, ⟨(some 77), (.len (.tmp 76)), none, 0⟩, ⟨(some 78), (.mv (.tmp 0)), none, 0⟩, ⟨(some 79), (.bin .leq (.tmp 77) (.tmp 78)), none, 0⟩, ⟨(some 80), (.mv (.tmp 79)), none, 0⟩, ⟨(some 81), (.mv (.tmp 11)), (some (80, true)), 0⟩, ⟨(some 82), (.bin .eql (.tmp 81) (.val (.lit (.int .i64 0)))), (some (80, true)), 0⟩, ⟨(some 83), (.pick (.tmp 80) (.tmp 82) (.val (.lit (.bool false)))), none, 0⟩, ⟨(some 84), (.mv (.tmp 83)), none, 0⟩, ⟨(some 85), (.mv (.tmp 13)), (some (84, true)), 0⟩, ⟨(some 86), (.bin .eql (.tmp 85) (.val (.lit (.int .i64 0)))), (some (84, true)), 0⟩, ⟨(some 87), (.pick (.tmp 84) (.tmp 86) (.val (.lit (.bool false)))), none, 0⟩, ⟨(some 4), (.mv (.tmp 87)), none, 0⟩])
 .ret)))))))))))
theorem e9 : envOf Try.prog muts 9 = some (88, c9, [(Go.Abs.ARes.tmp 4)]) := by kernel_rfl
def c34 : ACode :=
 (.seq (.reg 2 [⟨(some 1), (.box 2 (.tmp 0)), none, 0⟩, ⟨(some 2), (.alloc [(.lit (.int .i64 0)), (.sl true 0 [])]), none, 1⟩])
 (.seq (.dreg 0 [(0, ⟨(some 3), (.faddr 0 (.tmp 1)), none, 0⟩), (1, ⟨(some 4), (.load 1 false (.tmp 3)), none, 0⟩), (2, ⟨(some 5), (.faddr 1 (.tmp 1)), none, 0⟩), (3, ⟨(some 6), (.load 1 false (.tmp 5)), none, 0⟩), (4, ⟨(some 7), (.call false (.val (.lit (.func (.func 78) #[] #[]))) [(.tmp 6)]), none, 0⟩), (5, ⟨(some 8), (.build [(.lit (.int .i64 0)), (.sl true 0 [])] [(0, (1, (.tmp 4))), (1, (1, (.tmp 7)))]), none, 0⟩), (6, ⟨none, (.store 2 (.tmp 2) (.tmp 8)), none, 0⟩)] [[], [0], [], [2], [3, 2], [1, 4, 0, 3, 2], [5, 4, 0, 1, 2, 3]])
 .ret))
theorem e34 : envOf Try.prog muts 34 = some (9, c34, [(Go.Abs.ARes.cell 2 true 2)]) := by kernel_rfl
def c36l0 : ACode :=
 (.seq (.seq (.reg 0 [⟨(some 24), (.mv (.tmp 4)), none, 0⟩, ⟨(some 25), (.mv (.tmp 3)), none, 0⟩, ⟨(some 26), (.bin .lss (.tmp 24) (.tmp 25)), none, 0⟩])
 (.cond (.tmp 26) .skip (.exit 0)))
 (.seq (.block 1 (.seq (.dreg 0 [(0, ⟨(some 29), (.faddr 1 (.tmp 1)), none, 0⟩), (1, ⟨(some 30), (.load 1 false (.tmp 29)), none, 0⟩), (2, ⟨(some 31), (.mv (.tmp 4)), none, 0⟩), (3, ⟨(some 32), (.iaddrS 1 (.tmp 30) (.tmp 31)), none, 0⟩), (4, ⟨(some 33), (.load 1 false (.tmp 32)), none, 0⟩), (5, ⟨(some 34), (.len (.tmp 33)), none, 0⟩), (6, ⟨(some 35), (.faddr 0 (.tmp 1)), none, 0⟩), (7, ⟨(some 36), (.load 1 false (.tmp 35)), none, 0⟩), (8, ⟨(some 37), (.bin .neq (.tmp 34) (.tmp 36)), none, 0⟩)] [[], [0], [], [1, 2, 0], [3, 1, 2, 0], [4, 3, 1, 2, 0], [], [6], [5, 7, 4, 3, 1, 2, 0, 6]])
 (.cond (.tmp 37) (.seq (.reg 0 [⟨(some 2), (.mv (.val (.lit (.int .i64 10)))), none, 0⟩])
 .ret) .skip)))
 (.reg 0 [⟨(some 27), (.mv (.tmp 4)), none, 0⟩, ⟨(some 28), (.bin .add (.tmp 27) (.val (.lit (.int .i64 1)))), none, 0⟩, ⟨(some 4), (.mv (.tmp 28)), none, 0⟩])))
def c36l1 : ACode :=
 (.seq (.seq (.reg 0 [⟨(some 43), (.mv (.tmp 6)), none, 0⟩, ⟨(some 44), (.faddr 0 (.tmp 1)), none, 0⟩, ⟨(some 45), (.load 1 false (.tmp 44)), none, 0⟩, ⟨(some 46), (.bin .lss (.tmp 43) (.tmp 45)), none, 0⟩])
 (.cond (.tmp 46) .skip (.exit 4)))
 (.seq (.block 5 (.seq (.reg 0 [⟨(some 49), (.faddr 1 (.tmp 1)), none, 0⟩, ⟨(some 50), (.load 1 false (.tmp 49)), none, 0⟩, ⟨(some 51), (.mv (.tmp 5)), none, 0⟩, ⟨(some 52), (.iaddrS 1 (.tmp 50) (.tmp 51)), none, 0⟩, ⟨(some 53), (.load 1 false (.tmp 52)), none, 0⟩, ⟨(some 54), (.mv (.tmp 6)), none, 0⟩, ⟨(some 55), (.iaddrS 1 (.tmp 53) (.tmp 54)), none, 0⟩, ⟨(some 56), (.load 1 false (.tmp 55)), none, 0⟩, ⟨(some 57), (.call false (.val (.lit (.func (.func 32) #[] #[]))) [(.tmp 56), (.val (.lit (.int .i64 (-100000)))), (.val (.lit (.int .i64 100000)))]), none, 0⟩, ⟨(some 58), (.not (.tmp 57)), none, 0⟩])
 (.cond (.tmp 58) (.seq (.reg 0 [⟨(some 2), (.mv (.val (.lit (.int .i64 2)))), none, 0⟩])
 .ret) .skip)))
 (.reg 0 [⟨(some 47), (.mv (.tmp 6)), none, 0⟩, ⟨(some 48), (.bin .add (.tmp 47) (.val (.lit (.int .i64 1)))), none, 0⟩, ⟨(some 6), (.mv (.tmp 48)), none, 0⟩])))
def c36l2 : ACode :=
 (.seq (.seq (.reg 0 [⟨(some 38), (.mv (.tmp 5)), none, 0⟩, ⟨(some 39), (.mv (.tmp 3)), none, 0⟩, ⟨(some 40), (.bin .lss (.tmp 38) (.tmp 39)), none, 0⟩])
 (.cond (.tmp 40) .skip (.exit 2)))
 (.seq (.block 3 (.seq (.reg 0 [⟨(some 6), (.mv (.val (.lit (.int .i64 0)))), none, 0⟩])
 (.block 4 (.loop c36l1))))
 (.reg 0 [⟨(some 41), (.mv (.tmp 5)), none, 0⟩, ⟨(some 42), (.bin .add (.tmp 41) (.val (.lit (.int .i64 1)))), none, 0⟩, ⟨(some 5), (.mv (.tmp 42)), none, 0⟩])))
def c36 : ACode :=
 (.seq (.reg 1 [⟨(some 1), (.box 2 (.tmp 0)), none, 0⟩, ⟨(some 2), (.mv (.val (.lit (.int .i64 0)))), none, 1⟩])
 (.seq (.seq (.reg 0 [⟨(some 7), (.faddr 0 (.tmp 1)), none, 0⟩, ⟨(some 8), (.load 1 false (.tmp 7)), none, 0⟩, ⟨(some 9), (.call false (.val (.lit (.func (.func 32) #[] #[]))) [(.tmp 8), (.val (.lit (.int .i64 1))), (.val (.lit (.int .i64 24)))]), none, 0⟩, ⟨(some 10), (.not (.tmp 9)), none, 0⟩])
 (.cond (.tmp 10) (.seq (.reg 0 [⟨(some 2), (.mv (.val (.lit (.int .i64 2)))), none, 0⟩])
 .ret) .skip))
 (.seq (.reg 0 [⟨(some 11), (.faddr 1 (.tmp 1)), none, 0⟩, ⟨(some 12), (.load 1 false (.tmp 11)), none, 0⟩, ⟨(some 13), (.len (.tmp 12)), none, 0⟩, ⟨(some 3), (.mv (.tmp 13)), none, 0⟩])
 (.seq (.seq (.reg 0 [⟨(some 14), (.mv (.tmp 3)), none, 0⟩, ⟨(some 15), (.call false (.val (.lit (.func (.func 32) #[] #[]))) [(.tmp 14), (.val (.lit (.int .i64 1))), (.val (.lit (.int .i64 12)))]), none, 0⟩, ⟨(some 16), (.not (.tmp 15)), none, 0⟩, ⟨(some 17), (.mv (.tmp 16)), none, 0⟩, ⟨(some 18), (.faddr 0 (.tmp 1)), (some (17, false)), 0⟩, ⟨(some 19), (.load 1 false (.tmp 18)), (some (17, false)), 0⟩, ⟨(some 20), (.mv (.tmp 3)), (some (17, false)), 0⟩, ⟨(some 21), (.bin .rem (.tmp 19) (.tmp 20)), (some (17, false)), 0⟩, ⟨(some 22), (.bin .neq (.tmp 21) (.val (.lit (.int .i64 0)))), (some (17, false)), 0⟩, ⟨(some 23), (.pick (.tmp 17) (.val (.lit (.bool true))) (.tmp 22)), none, 0⟩])
 (.cond (.tmp 23) (.seq (.reg 0 [⟨(some 2), (.mv (.val (.lit (.int .i64 10)))), none, 0⟩])
 .ret) .skip))
 (.seq (.seq (.reg 0 [⟨(some 4), (.mv (.val (.lit (.int .i64 0)))), none, 0⟩])
 (.block 0 (.loop c36l0)))
 (.seq (.seq (.reg 0 [⟨(some 5), (.mv (.val (.lit (.int .i64 0)))), none, 0⟩])
 (.block 2 (.loop c36l2)))
 (.seq (.reg 0 [⟨(some 2), (.mv (.val (.lit (.int .i64 0)))), none, 0⟩])
 .ret)))))))
theorem e36 : envOf Try.prog muts 36 = some (59, c36, [(Go.Abs.ARes.tmp 2)]) := by kernel_rfl
def c102 : ACode :=
 (.seq (.reg 1 [⟨(some 4), (.alloc [(.lit (.int .i64 0)), (.lit (.int .i64 0))]), none, 0⟩])
 (.seq (.reg 0 [⟨(some 6), (.mv (.tmp 0)), none, 0⟩, ⟨(some 7), (.mv (.tmp 1)), none, 0⟩, ⟨(some 8), (.call false (.val (.lit (.func (.func 139) #[] #[]))) [(.tmp 6), (.tmp 7)]), none, 0⟩, ⟨(some 5), (.mv (.tmp 8)), none, 0⟩])
 (.seq (.seq (.reg 0 [⟨(some 9), (.mv (.tmp 1)), none, 0⟩, ⟨(some 10), (.bin .lss (.tmp 9) (.val (.lit (.int .i64 0)))), none, 0⟩])
 (.cond (.tmp 10) (.reg 0 [⟨(some 11), (.mv (.tmp 5)), none, 0⟩, ⟨(some 12), (.neg (.tmp 11)), none, 0⟩, ⟨(some 5), (.mv (.tmp 12)), none, 0⟩]) .skip))
 (.seq (.dreg 0 [(0, ⟨(some 13), (.mv (.tmp 0)), none, 0⟩), (1, ⟨(some 14), (.mv (.tmp 5)), none, 0⟩), (2, ⟨(some 15), (.bin .quo (.tmp 13) (.tmp 14)), none, 0⟩), (3, ⟨(some 16), (.mv (.tmp 1)), none, 0⟩), (4, ⟨(some 17), (.mv (.tmp 5)), none, 0⟩), (5, ⟨(some 18), (.bin .quo (.tmp 16) (.tmp 17)), none, 0⟩), (6, ⟨(some 19), (.build [(.lit (.int .i64 0)), (.lit (.int .i64 0))] [(0, (1, (.tmp 15))), (1, (1, (.tmp 18)))]), none, 0⟩), (7, ⟨none, (.store 2 (.tmp 4) (.tmp 19)), none, 0⟩)] [[], [], [0, 1], [], [], [3, 4], [2, 5, 0, 1, 3, 4], [6, 0, 1, 2, 3, 4, 5]])
 .ret))))
theorem e102 : envOf Try.prog muts 102 = some (20, c102, [(Go.Abs.ARes.cell 2 true 4)]) := by kernel_rfl
def c103l0 : ACode :=
 (.seq (.seq (.reg 0 [⟨(some 17), (.mv (.tmp 8)), none, 0⟩, ⟨(some 18), (.mv (.tmp 5)), none, 0⟩, ⟨(some 19), (.bin .lss (.tmp 17) (.tmp 18)), none, 0⟩])
 (.cond (.tmp 19) .skip (.exit 0)))
 (.seq (.block 1 (.seq (.reg 0 [⟨(some 22), (.mv (.tmp 1)), none, 0⟩, ⟨(some 23), (.mv (.tmp 8)), none, 0⟩, ⟨(some 24), (.mv (.tmp 6)), none, 0⟩, ⟨(some 25), (.bin .mul (.tmp 23) (.tmp 24)), none, 0⟩, ⟨(some 26), (.bin .add (.tmp 22) (.tmp 25)), none, 0⟩, ⟨(some 27), (.faddr 0 (.tmp 2)), none, 0⟩, ⟨(some 28), (.load 1 false (.tmp 27)), none, 0⟩, ⟨(some 29), (.bin .rem (.tmp 26) (.tmp 28)), none, 0⟩, ⟨(some 9), (.mv (.tmp 29)), none, 0⟩])
 (.dreg 0 [(0, ⟨(some 30), (.mv (.tmp 7)), none, 0⟩), (1, ⟨(some 31), (.mv (.tmp 5)), none, 0⟩), (2, ⟨(some 32), (.faddr 1 (.tmp 2)), none, 0⟩), (3, ⟨(some 33), (.load 1 false (.tmp 32)), none, 0⟩), (4, ⟨(some 34), (.mv (.tmp 8)), none, 0⟩), (5, ⟨(some 35), (.iaddrS 1 (.tmp 33) (.tmp 34)), none, 0⟩), (6, ⟨(some 36), (.load 1 false (.tmp 35)), none, 0⟩), (7, ⟨(some 37), (.mv (.tmp 9)), none, 0⟩), (8, ⟨(some 38), (.iaddrS 1 (.tmp 36) (.tmp 37)), none, 0⟩), (9, ⟨(some 39), (.load 1 false (.tmp 38)), none, 0⟩), (10, ⟨(some 40), (.bin .mul (.tmp 31) (.tmp 39)), none, 0⟩), (11, ⟨(some 41), (.bin .add (.tmp 30) (.tmp 40)), none, 0⟩), (12, ⟨(some 42), (.load 2 true (.tmp 2)), none, 0⟩), (13, ⟨(some 43), (.mv (.tmp 9)), none, 0⟩), (14, ⟨(some 44), (.call false (.val (.lit (.func (.func 104) #[] #[]))) [(.tmp 42), (.tmp 43)]), none, 0⟩), (15, ⟨(some 45), (.bin .sub (.tmp 41) (.tmp 44)), none, 0⟩), (16, ⟨(some 7), (.mv (.tmp 45)), none, 0⟩)] [[], [], [], [2], [], [3, 4, 2], [5, 3, 4, 2], [], [6, 7, 5, 3, 4, 2], [8, 6, 7, 5, 3, 4, 2], [1, 9, 8, 6, 7, 5, 3, 4, 2], [0, 10, 1, 9, 8, 6, 7, 5, 3, 4, 2], [], [], [12, 13], [11, 14, 0, 10, 1, 9, 8, 6, 7, 5, 3, 4, 2, 12, 13], [15, 14, 0, 1, 2, 3, 4, 5, 6, 7, 8, 9, 10, 11, 12, 13]])))
 (.reg 0 [⟨(some 20), (.mv (.tmp 8)), none, 0⟩, ⟨(some 21), (.bin .add (.tmp 20) (.val (.lit (.int .i64 1)))), none, 0⟩, ⟨(some 8), (.mv (.tmp 21)), none, 0⟩])))
def c103 : ACode :=
 (.seq (.reg 1 [⟨(some 2), (.box 2 (.tmp 0)), none, 0⟩, ⟨(some 4), (.mv (.val (.lit (.int .i64 0)))), none, 1⟩])
 (.seq (.reg 0 [⟨(some 10), (.faddr 1 (.tmp 2)), none, 0⟩, ⟨(some 11), (.load 1 false (.tmp 10)), none, 0⟩, ⟨(some 12), (.len (.tmp 11)), none, 0⟩, ⟨(some 5), (.mv (.tmp 12)), none, 0⟩])
 (.seq (.reg 0 [⟨(some 13), (.faddr 0 (.tmp 2)), none, 0⟩, ⟨(some 14), (.load 1 false (.tmp 13)), none, 0⟩, ⟨(some 15), (.mv (.tmp 5)), none, 0⟩, ⟨(some 16), (.bin .quo (.tmp 14) (.tmp 15)), none, 0⟩, ⟨(some 6), (.mv (.tmp 16)), none, 0⟩])
 (.seq (.reg 0 [⟨(some 7), (.mv (.val (.lit (.int .i64 0)))), none, 0⟩])
 (.seq (.seq (.reg 0 [⟨(some 8), (.mv (.val (.lit (.int .i64 0)))), none, 0⟩])
 (.block 0 (.loop c103l0)))
 (.seq (.reg 0 [⟨(some 46), (.mv (.tmp 7)), none, 0⟩, ⟨(some 4), (.mv (.tmp 46)), none, 0⟩])
 .ret))))))
theorem e103 : envOf Try.prog muts 103 = some (47, c103, [(Go.Abs.ARes.tmp 4)]) := by kernel_rfl
def c104l0 : ACode :=
 (.seq (.seq (.reg 0 [⟨(some 7), (.mv (.tmp 6)), none, 0⟩, ⟨(some 8), (.faddr 1 (.tmp 2)), none, 0⟩, ⟨(some 9), (.load 1 false (.tmp 8)), none, 0⟩, ⟨(some 10), (.len (.tmp 9)), none, 0⟩, ⟨(some 11), (.bin .lss (.tmp 7) (.tmp 10)), none, 0⟩])
 (.cond (.tmp 11) .skip (.exit 0)))
 (.seq (.block 1 (.reg 0 [⟨(some 14), (.mv (.tmp 5)), none, 0⟩, ⟨(some 15), (.faddr 1 (.tmp 2)), none, 0⟩, ⟨(some 16), (.load 1 false (.tmp 15)), none, 0⟩, ⟨(some 17), (.mv (.tmp 6)), none, 0⟩, ⟨(some 18), (.iaddrS 1 (.tmp 16) (.tmp 17)), none, 0⟩, ⟨(some 19), (.load 1 false (.tmp 18)), none, 0⟩, ⟨(some 20), (.mv (.tmp 1)), none, 0⟩, ⟨(some 21), (.iaddrS 1 (.tmp 19) (.tmp 20)), none, 0⟩, ⟨(some 22), (.load 1 false (.tmp 21)), none, 0⟩, ⟨(some 23), (.bin .add (.tmp 14) (.tmp 22)), none, 0⟩, ⟨(some 5), (.mv (.tmp 23)), none, 0⟩]))
 (.reg 0 [⟨(some 12), (.mv (.tmp 6)), none, 0⟩, ⟨(some 13), (.bin .add (.tmp 12) (.val (.lit (.int .i64 1)))), none, 0⟩, ⟨(some 6), (.mv (.tmp 13)), none, 0⟩])))
def c104 : ACode :=
 (.seq (.reg 1 [⟨(some 2), (.box 2 (.tmp 0)), none, 0⟩, ⟨(some 4), (.mv (.val (.lit (.int .i64 0)))), none, 1⟩])
 (.seq (.reg 0 [⟨(some 5), (.mv (.val (.lit (.int .i64 0)))), none, 0⟩])
 (.seq (.seq (.reg 0 [⟨(some 6), (.mv (.val (.lit (.int .i64 0)))), none, 0⟩])
 (.block 0 (.loop c104l0)))
 (.seq (.reg 0 [⟨(some 24), (.mv (.tmp 5)), none, 0⟩, ⟨(some 4), (.mv (.tmp 24)), none, 0⟩])
 .ret))))
theorem e104 : envOf Try.prog muts 104 = some (25, c104, [(Go.Abs.ARes.tmp 4)]) := by kernel_rfl
def c112 : ACode :=
 (.seq (.reg 1 [⟨(some 3), (.box 2 (.tmp 0)), none, 0⟩, ⟨(some 6), (.mv (.val (.lit (.bool false)))), none, 1⟩])
 (.seq (.reg 0 [⟨(some 7), (.mv (.tmp 1)), none, 0⟩, ⟨(some 8), (.mv (.tmp 2)), none, 0⟩, ⟨(some 9), (.minmax false [(.tmp 7), (.tmp 8)]), none, 0⟩, ⟨(some 10), (.mv (.tmp 1)), none, 0⟩, ⟨(some 11), (.mv (.tmp 2)), none, 0⟩, ⟨(some 12), (.minmax true [(.tmp 10), (.tmp 11)]), none, 0⟩, ⟨(some 1), (.mv (.tmp 9)), none, 0⟩, ⟨(some 2), (.mv (.tmp 12)), none, 0⟩])
 (.seq (.reg 0 [⟨(some 13), (.mv (.tmp 2)), none, 0⟩, ⟨(some 14), (.mv (.tmp 1)), none, 0⟩, ⟨(some 15), (.faddr 0 (.tmp 3)), none, 0⟩, ⟨(some 16), (.load 1 false (.tmp 15)), none, 0⟩, ⟨(some 17), (.bin .add (.tmp 14) (.tmp 16)), none, 0⟩, ⟨(some 18), (.bin .eql (.tmp 13) (.tmp 17)), none, 0⟩, ⟨(some 19), (.mv (.tmp 18)), none, 0⟩, ⟨(some 20), (.mv (.tmp 2)), (some (19, false)), 0⟩, ⟨(some 21), (.mv (.tmp 1)), (some (19, false)), 0⟩, ⟨(some 22), (.bin .add (.tmp 21) (.val (.lit (.int .i64 1)))), (some (19, false)), 0⟩, ⟨(some 23), (.bin .eql (.tmp 20) (.tmp 22)), (some (19, false)), 0⟩, ⟨(some 24), (.mv (.tmp 23)), (some (19, false)), 0⟩, ⟨(some 25), (.mv (.tmp 2)), (some (24, true)), 0⟩, ⟨(some 26), (.faddr 0 (.tmp 3)), (some (24, true)), 0⟩, ⟨(some 27), (.load 1 false (.tmp 26)), (some (24, true)), 0⟩, ⟨(some 28), (.bin .rem (.tmp 25) (.tmp 27)), (some (24, true)), 0⟩, ⟨(some 29), (.bin .neq (.tmp 28) (.val (.lit (.int .i64 0)))), (some (24, true)), 0⟩, ⟨(some 30), (.pick (.tmp 24) (.tmp 29) (.val (.lit (.bool false)))), (some (19, false)), 0⟩, ⟨(some 31), (.pick (.tmp 19) (.val (.lit (.bool true))) (.tmp 30)), none, 0⟩, ⟨(some 6), (.mv (.tmp 31)), none, 0⟩])
 .ret)))
theorem e112 : envOf Try.prog muts 112 = some (32, c112, [(Go.Abs.ARes.tmp 6)]) := by kernel_rfl
def c145l0 : ACode :=
 (.seq (.reg 0 [⟨(some 9), (.bin .lss (.tmp 8) (.tmp 7)), none, 0⟩])
 (.seq (.cond (.tmp 9) .skip (.exit 0))
 (.seq (.block 1 (.seq (.reg 0 [⟨(some 10), (.mv (.tmp 8)), none, 0⟩, ⟨(some 5), (.mv (.tmp 10)), none, 0⟩])
 (.seq (.reg 0 [⟨(some 11), (.mv (.tmp 1)), none, 0⟩, ⟨(some 12), (.mv (.tmp 0)), none, 0⟩, ⟨(some 13), (.mv (.tmp 5)), none, 0⟩, ⟨(some 14), (.iaddrS 1 (.tmp 12) (.tmp 13)), none, 0⟩, ⟨(some 15), (.load 1 false (.tmp 14)), none, 0⟩, ⟨(some 16), (.call true (.tmp 11) [(.tmp 15)]), none, 0⟩])
 (.cond (.tmp 16) (.seq (.reg 0 [⟨(some 17), (.mv (.tmp 5)), none, 0⟩, ⟨(some 4), (.mv (.tmp 17)), none, 0⟩])
 .ret) .skip))))
 (.reg 0 [⟨(some 18), (.bin .add (.tmp 8) (.val (.lit (.int .i64 1)))), none, 0⟩, ⟨(some 8), (.mv (.tmp 18)), none, 0⟩]))))
def c145 : ACode :=
 (.seq (.reg 0 [⟨(some 4), (.mv (.val (.lit (.int .i64 0)))), none, 0⟩])
 (.seq (.seq (.reg 0 [⟨(some 6), (.mv (.tmp 0)), none, 0⟩, ⟨(some 7), (.len (.tmp 6)), none, 0⟩, ⟨(some 8), (.mv (.val (.lit (.int .i64 0)))), none, 0⟩])
 (.block 0 (.loop c145l0)))
 (.seq (.reg 0 [⟨(some 4), (.mv (.val (.lit (.int .i64 (-1))))), none, 0⟩])
 .ret)))
theorem e145 : envOf Try.prog muts 145 = some (19, c145, [(Go.Abs.ARes.tmp 4)]) := by kernel_rfl
end Go.Abs
