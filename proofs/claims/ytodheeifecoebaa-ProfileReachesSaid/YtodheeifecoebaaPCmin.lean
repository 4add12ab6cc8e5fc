import Derived.Test.YtodheeifecoebaaAbs21
import Derived.KernelRfl
import Derived.Test.YtodheeifecoebaaProg
/- The code of the functions that are walked, as the machine of these texts has it. -/
namespace Go.Abs
open Go.Proofs
abbrev muts : List FuncId := [131]
def c26l0 : ACode :=
 (.seq (.reg 0 [⟨(some 26), (.bin .lss (.tmp 25) (.tmp 24)), none, 0⟩])
 (.seq (.cond (.tmp 26) .skip (.exit 0))
 (.seq (.block 1 (.seq (.reg 1 [⟨(some 27), (.mv (.tmp 25)), none, 0⟩, ⟨(some 28), (.iaddrS 4 (.tmp 23) (.tmp 25)), none, 0⟩, ⟨(some 29), (.load 4 true (.tmp 28)), none, 0⟩, ⟨(some 10), (.alloc [(.lit (.int .i64 0)), (.lit (.int .i64 0)), (.lit (.int .i64 0)), (.lit (.int .i64 0))]), none, 0⟩, ⟨(some 9), (.mv (.tmp 27)), none, 1⟩, ⟨none, (.store 4 (.tmp 10) (.tmp 29)), none, 1⟩])
 (.seq (.dreg 0 [(0, ⟨(some 30), (.mv (.tmp 2)), none, 0⟩), (1, ⟨(some 31), (.faddr 1 (.tmp 10)), none, 0⟩), (2, ⟨(some 32), (.load 1 false (.tmp 31)), none, 0⟩), (3, ⟨(some 33), (.iaddrS 1 (.tmp 30) (.tmp 32)), none, 0⟩), (4, ⟨(some 34), (.load 1 false (.tmp 33)), none, 0⟩), (5, ⟨(some 35), (.mv (.tmp 2)), none, 0⟩), (6, ⟨(some 36), (.faddr 0 (.tmp 10)), none, 0⟩), (7, ⟨(some 37), (.load 1 false (.tmp 36)), none, 0⟩), (8, ⟨(some 38), (.iaddrS 1 (.tmp 35) (.tmp 37)), none, 0⟩), (9, ⟨(some 39), (.load 1 false (.tmp 38)), none, 0⟩), (10, ⟨(some 40), (.bin .sub (.tmp 34) (.tmp 39)), none, 0⟩), (11, ⟨(some 41), (.faddr 2 (.tmp 10)), none, 0⟩), (12, ⟨(some 42), (.faddr 0 (.tmp 41)), none, 0⟩), (13, ⟨(some 43), (.load 1 false (.tmp 42)), none, 0⟩), (14, ⟨(some 44), (.faddr 2 (.tmp 10)), none, 0⟩), (15, ⟨(some 45), (.faddr 1 (.tmp 44)), none, 0⟩), (16, ⟨(some 46), (.load 1 false (.tmp 45)), none, 0⟩), (17, ⟨(some 47), (.call false (.val (.lit (.func (.func 92) #[] #[]))) [(.tmp 40), (.tmp 43), (.tmp 46)]), none, 0⟩), (18, ⟨(some 48), (.not (.tmp 47)), none, 0⟩)] [[], [], [1], [0, 2, 1], [3, 0, 2, 1], [], [], [6], [5, 7, 6], [8, 5, 7, 6], [4, 9, 3, 0, 2, 1, 8, 5, 7, 6], [], [11], [12, 11], [], [14], [15, 14], [10, 13, 16, 4, 9, 3, 0, 2, 1, 8, 5, 7, 6, 12, 11, 15, 14], [17, 10, 13, 16, 4, 9, 3, 0, 2, 1, 8, 5, 7, 6, 12, 11, 15, 14]])
 (.cond (.tmp 48) (.seq (.reg 0 [⟨(some 49), (.mv (.tmp 9)), none, 0⟩, ⟨(some 6), (.mv (.tmp 49)), none, 0⟩, ⟨(some 7), (.mv (.val (.lit (.int .i64 26)))), none, 0⟩])
 .ret) .skip))))
 (.reg 0 [⟨(some 50), (.bin .add (.tmp 25) (.val (.lit (.int .i64 1)))), none, 0⟩, ⟨(some 25), (.mv (.tmp 50)), none, 0⟩]))))
def c26 : ACode :=
 (.seq (.reg 0 [⟨(some 6), (.mv (.val (.lit (.int .i64 0)))), none, 0⟩, ⟨(some 7), (.mv (.val (.lit (.int .i64 0)))), none, 0⟩])
 (.seq (.seq (.reg 0 [⟨(some 11), (.mv (.tmp 0)), none, 0⟩, ⟨(some 12), (.mv (.tmp 1)), none, 0⟩, ⟨(some 13), (.call false (.val (.lit (.func (.func 89) #[] #[]))) [(.tmp 11), (.tmp 12)]), none, 0⟩, ⟨(some 8), (.mv (.tmp 13)), none, 0⟩])
 (.seq (.reg 0 [⟨(some 14), (.mv (.tmp 8)), none, 0⟩, ⟨(some 15), (.bin .neq (.tmp 14) (.val (.lit (.int .i64 0)))), none, 0⟩])
 (.cond (.tmp 15) (.seq (.reg 0 [⟨(some 16), (.mv (.tmp 8)), none, 0⟩, ⟨(some 6), (.mv (.val (.lit (.int .i64 0)))), none, 0⟩, ⟨(some 7), (.mv (.tmp 16)), none, 0⟩])
 .ret) .skip)))
 (.seq (.seq (.reg 0 [⟨(some 17), (.mv (.tmp 2)), none, 0⟩, ⟨(some 18), (.len (.tmp 17)), none, 0⟩, ⟨(some 19), (.mv (.tmp 0)), none, 0⟩, ⟨(some 20), (.bin .neq (.tmp 18) (.tmp 19)), none, 0⟩])
 (.cond (.tmp 20) (.seq (.reg 0 [⟨(some 6), (.mv (.val (.lit (.int .i64 0)))), none, 0⟩, ⟨(some 7), (.mv (.val (.lit (.int .i64 10)))), none, 0⟩])
 .ret) .skip))
 (.seq (.seq (.reg 0 [⟨(some 21), (.mv (.tmp 2)), none, 0⟩, ⟨(some 22), (.call true (.val (.lit (.func (.func 90) #[] #[]))) [(.tmp 21), (.val (.lit (.func (.func 91) #[] #[])))]), none, 0⟩])
 (.cond (.tmp 22) (.seq (.reg 0 [⟨(some 6), (.mv (.val (.lit (.int .i64 0)))), none, 0⟩, ⟨(some 7), (.mv (.val (.lit (.int .i64 2)))), none, 0⟩])
 .ret) .skip))
 (.seq (.seq (.reg 0 [⟨(some 23), (.mv (.tmp 1)), none, 0⟩, ⟨(some 24), (.len (.tmp 23)), none, 0⟩, ⟨(some 25), (.mv (.val (.lit (.int .i64 0)))), none, 0⟩])
 (.block 0 (.loop c26l0)))
 (.seq (.reg 0 [⟨(some 6), (.mv (.val (.lit (.int .i64 0)))), none, 0⟩, ⟨(some 7), (.mv (.val (.lit (.int .i64 0)))), none, 0⟩])
 .ret))))))
theorem e26 : envOf Try.prog muts 26 = some (51, c26, [(Go.Abs.ARes.tmp 6), (Go.Abs.ARes.tmp 7)]) := by kernel_rfl
def c90 : ACode :=
 (.seq (.reg 0 [⟨(some 4), (.mv (.val (.lit (.bool false)))), none, 0⟩])
 (.seq (.reg 0 [⟨(some 5), (.mv (.tmp 0)), none, 0⟩, ⟨(some 6), (.mv (.tmp 1)), none, 0⟩, ⟨(some 7), (.call true (.val (.lit (.func (.func 142) #[] #[]))) [(.tmp 5), (.tmp 6)]), none, 0⟩, ⟨(some 8), (.bin .geq (.tmp 7) (.val (.lit (.int .i64 0)))), none, 0⟩, ⟨(some 4), (.mv (.tmp 8)), none, 0⟩])
 .ret))
theorem e90 : envOf Try.prog muts 90 = some (9, c90, [(Go.Abs.ARes.tmp 4)]) := by kernel_rfl
def c93 : ACode :=
 (.seq (.reg 0 [⟨(some 2), (.mv (.val (.lit (.bool false)))), none, 0⟩])
 (.seq (.reg 0 [⟨(some 3), (.mv (.tmp 0)), none, 0⟩, ⟨(some 4), (.call false (.val (.lit (.func (.func 32) #[] #[]))) [(.tmp 3), (.val (.lit (.int .i64 (-1000000)))), (.val (.lit (.int .i64 1000000)))]), none, 0⟩, ⟨(some 2), (.mv (.tmp 4)), none, 0⟩])
 .ret))
theorem e93 : envOf Try.prog muts 93 = some (5, c93, [(Go.Abs.ARes.tmp 2)]) := by kernel_rfl
def c119 : ACode :=
 (.seq (.reg 0 [⟨(some 4), (.mv (.val (.sl true 0 []))), none, 0⟩, ⟨(some 5), (.mv (.val (.lit (.int .i64 0)))), none, 0⟩])
 (.seq (.seq (.reg 0 [⟨(some 7), (.mv (.tmp 0)), none, 0⟩, ⟨(some 8), (.mv (.tmp 1)), none, 0⟩, ⟨(some 9), (.call false (.val (.lit (.func (.func 89) #[] #[]))) [(.tmp 7), (.tmp 8)]), none, 0⟩, ⟨(some 6), (.mv (.tmp 9)), none, 0⟩])
 (.seq (.reg 0 [⟨(some 10), (.mv (.tmp 6)), none, 0⟩, ⟨(some 11), (.bin .neq (.tmp 10) (.val (.lit (.int .i64 0)))), none, 0⟩])
 (.cond (.tmp 11) (.seq (.reg 0 [⟨(some 12), (.mv (.tmp 6)), none, 0⟩, ⟨(some 4), (.mv (.val (.sl true 0 []))), none, 0⟩, ⟨(some 5), (.mv (.tmp 12)), none, 0⟩])
 .ret) .skip)))
 (.seq (.seq (.reg 0 [⟨(some 13), (.mv (.tmp 0)), none, 0⟩, ⟨(some 14), (.mv (.tmp 1)), none, 0⟩, ⟨(some 15), (.call false (.val (.lit (.func (.func 95) #[] #[]))) [(.tmp 13), (.tmp 14)]), none, 0⟩, ⟨(some 16), (.eqNil true (.tmp 15)), none, 0⟩])
 (.cond (.tmp 16) (.seq (.reg 0 [⟨(some 4), (.mv (.val (.sl true 0 []))), none, 0⟩, ⟨(some 5), (.mv (.val (.lit (.int .i64 13)))), none, 0⟩])
 .ret) .skip))
 (.seq (.reg 0 [⟨(some 17), (.mv (.tmp 0)), none, 0⟩, ⟨(some 18), (.mv (.tmp 1)), none, 0⟩, ⟨(some 19), (.call false (.val (.lit (.func (.func 96) #[] #[]))) [(.tmp 17), (.tmp 18)]), none, 0⟩, ⟨(some 4), (.mv (.tmp 19)), none, 0⟩, ⟨(some 5), (.mv (.val (.lit (.int .i64 0)))), none, 0⟩])
 .ret))))
theorem e119 : envOf Try.prog muts 119 = some (20, c119, [(Go.Abs.ARes.tmp 4), (Go.Abs.ARes.tmp 5)]) := by kernel_rfl
def c123 : ACode :=
 (.seq (.reg 0 [⟨(some 2), (.mv (.val (.lit (.bool false)))), none, 0⟩])
 (.seq (.reg 0 [⟨(some 3), (.mv (.tmp 0)), none, 0⟩, ⟨(some 4), (.call false (.val (.lit (.func (.func 92) #[] #[]))) [(.tmp 3), (.val (.lit (.int .i64 (-1)))), (.val (.lit (.int .i64 999)))]), none, 0⟩, ⟨(some 5), (.not (.tmp 4)), none, 0⟩, ⟨(some 2), (.mv (.tmp 5)), none, 0⟩])
 .ret))
theorem e123 : envOf Try.prog muts 123 = some (6, c123, [(Go.Abs.ARes.tmp 2)]) := by kernel_rfl
def c146l0 : ACode :=
 (.seq (.reg 0 [⟨(some 20), (.bin .lss (.tmp 19) (.val (.lit (.int .i64 4)))), none, 0⟩])
 (.seq (.cond (.tmp 20) .skip (.exit 0))
 (.seq (.block 1 (.seq (.reg 0 [⟨(some 21), (.idxA 4 1 false (.tmp 18) (.tmp 19)), none, 0⟩, ⟨(some 5), (.mv (.tmp 21)), none, 0⟩])
 (.seq (.reg 0 [⟨(some 22), (.load 2 true (.tmp 2)), none, 0⟩, ⟨(some 23), (.mv (.tmp 5)), none, 0⟩, ⟨(some 24), (.call false (.val (.lit (.func (.func 105) #[] #[]))) [(.tmp 22), (.tmp 23)]), none, 0⟩, ⟨(some 25), (.mv (.tmp 24)), none, 0⟩, ⟨(some 26), (.load 2 true (.tmp 2)), (some (25, true)), 0⟩, ⟨(some 27), (.load 1 false (.tmp 1)), (some (25, true)), 0⟩, ⟨(some 28), (.mv (.tmp 5)), (some (25, true)), 0⟩, ⟨(some 29), (.call false (.val (.lit (.func (.func 112) #[] #[]))) [(.tmp 26), (.tmp 27), (.tmp 28)]), (some (25, true)), 0⟩, ⟨(some 30), (.pick (.tmp 25) (.tmp 29) (.val (.lit (.bool false)))), none, 0⟩, ⟨(some 31), (.mv (.tmp 30)), none, 0⟩, ⟨(some 32), (.mv (.tmp 0)), (some (31, true)), 0⟩, ⟨(some 33), (.mv (.tmp 5)), (some (31, true)), 0⟩, ⟨(some 34), (.call true (.tmp 32) [(.tmp 33)]), (some (31, true)), 0⟩, ⟨(some 35), (.not (.tmp 34)), (some (31, true)), 0⟩, ⟨(some 36), (.pick (.tmp 31) (.tmp 35) (.val (.lit (.bool false)))), none, 0⟩])
 (.cond (.tmp 36) .ret .skip))))
 (.reg 0 [⟨(some 37), (.bin .add (.tmp 19) (.val (.lit (.int .i64 1)))), none, 0⟩, ⟨(some 19), (.mv (.tmp 37)), none, 0⟩]))))
def c146 : ACode :=
 (.seq (.reg 0 [⟨(some 6), (.load 1 false (.tmp 1)), none, 0⟩, ⟨(some 7), (.faddr 0 (.tmp 2)), none, 0⟩, ⟨(some 8), (.load 1 false (.tmp 7)), none, 0⟩, ⟨(some 9), (.bin .sub (.tmp 6) (.tmp 8)), none, 0⟩, ⟨(some 10), (.load 1 false (.tmp 1)), none, 0⟩, ⟨(some 11), (.bin .sub (.tmp 10) (.val (.lit (.int .i64 1)))), none, 0⟩, ⟨(some 12), (.load 1 false (.tmp 1)), none, 0⟩, ⟨(some 13), (.bin .add (.tmp 12) (.val (.lit (.int .i64 1)))), none, 0⟩, ⟨(some 14), (.load 1 false (.tmp 1)), none, 0⟩, ⟨(some 15), (.faddr 0 (.tmp 2)), none, 0⟩, ⟨(some 16), (.load 1 false (.tmp 15)), none, 0⟩, ⟨(some 17), (.bin .add (.tmp 14) (.tmp 16)), none, 0⟩, ⟨(some 18), (.build [(.lit (.int .i64 0)), (.lit (.int .i64 0)), (.lit (.int .i64 0)), (.lit (.int .i64 0))] [(0, (1, (.tmp 9))), (1, (1, (.tmp 11))), (2, (1, (.tmp 13))), (3, (1, (.tmp 17)))]), none, 0⟩, ⟨(some 19), (.mv (.val (.lit (.int .i64 0)))), none, 0⟩])
 (.block 0 (.loop c146l0)))
theorem e146 : envOf Try.prog muts 146 = some (38, c146, []) := by kernel_rfl
def c29l0 : ACode :=
 (.seq (.seq (.reg 0 [⟨(some 13), (.mv (.tmp 5)), none, 0⟩, ⟨(some 14), (.mv (.tmp 1)), none, 0⟩, ⟨(some 15), (.len (.tmp 14)), none, 0⟩, ⟨(some 16), (.bin .lss (.tmp 13) (.tmp 15)), none, 0⟩])
 (.cond (.tmp 16) .skip (.exit 0)))
 (.seq (.block 1 (.seq (.reg 1 [⟨(some 19), (.mv (.tmp 1)), none, 0⟩, ⟨(some 20), (.mv (.tmp 5)), none, 0⟩, ⟨(some 21), (.iaddrS 4 (.tmp 19) (.tmp 20)), none, 0⟩, ⟨(some 22), (.load 4 true (.tmp 21)), none, 0⟩, ⟨(some 6), (.alloc [(.lit (.int .i64 0)), (.lit (.int .i64 0)), (.lit (.int .i64 0)), (.lit (.int .i64 0))]), none, 0⟩, ⟨none, (.store 4 (.tmp 6) (.tmp 22)), none, 1⟩])
 (.seq (.seq (.reg 0 [⟨(some 23), (.faddr 0 (.tmp 6)), none, 0⟩, ⟨(some 24), (.load 1 false (.tmp 23)), none, 0⟩, ⟨(some 25), (.mv (.tmp 0)), none, 0⟩, ⟨(some 26), (.bin .sub (.tmp 25) (.val (.lit (.int .i64 1)))), none, 0⟩, ⟨(some 27), (.call false (.val (.lit (.func (.func 32) #[] #[]))) [(.tmp 24), (.val (.lit (.int .i64 0))), (.tmp 26)]), none, 0⟩, ⟨(some 28), (.not (.tmp 27)), none, 0⟩, ⟨(some 29), (.mv (.tmp 28)), none, 0⟩, ⟨(some 30), (.faddr 1 (.tmp 6)), (some (29, false)), 0⟩, ⟨(some 31), (.load 1 false (.tmp 30)), (some (29, false)), 0⟩, ⟨(some 32), (.mv (.tmp 0)), (some (29, false)), 0⟩, ⟨(some 33), (.bin .sub (.tmp 32) (.val (.lit (.int .i64 1)))), (some (29, false)), 0⟩, ⟨(some 34), (.call false (.val (.lit (.func (.func 32) #[] #[]))) [(.tmp 31), (.val (.lit (.int .i64 0))), (.tmp 33)]), (some (29, false)), 0⟩, ⟨(some 35), (.not (.tmp 34)), (some (29, false)), 0⟩, ⟨(some 36), (.pick (.tmp 29) (.val (.lit (.bool true))) (.tmp 35)), none, 0⟩])
 (.cond (.tmp 36) (.seq (.reg 0 [⟨(some 4), (.mv (.val (.lit (.int .i64 6)))), none, 0⟩])
 .ret) .skip))
 (.seq (.seq (.reg 0 [⟨(some 37), (.faddr 0 (.tmp 6)), none, 0⟩, ⟨(some 38), (.load 1 false (.tmp 37)), none, 0⟩, ⟨(some 39), (.faddr 1 (.tmp 6)), none, 0⟩, ⟨(some 40), (.load 1 false (.tmp 39)), none, 0⟩, ⟨(some 41), (.bin .eql (.tmp 38) (.tmp 40)), none, 0⟩])
 (.cond (.tmp 41) (.seq (.reg 0 [⟨(some 4), (.mv (.val (.lit (.int .i64 3)))), none, 0⟩])
 .ret) .skip))
 (.seq (.seq (.reg 0 [⟨(some 42), (.faddr 2 (.tmp 6)), none, 0⟩, ⟨(some 43), (.faddr 0 (.tmp 42)), none, 0⟩, ⟨(some 44), (.load 1 false (.tmp 43)), none, 0⟩, ⟨(some 45), (.call false (.val (.lit (.func (.func 93) #[] #[]))) [(.tmp 44)]), none, 0⟩, ⟨(some 46), (.not (.tmp 45)), none, 0⟩, ⟨(some 47), (.mv (.tmp 46)), none, 0⟩, ⟨(some 48), (.faddr 2 (.tmp 6)), (some (47, false)), 0⟩, ⟨(some 49), (.faddr 1 (.tmp 48)), (some (47, false)), 0⟩, ⟨(some 50), (.load 1 false (.tmp 49)), (some (47, false)), 0⟩, ⟨(some 51), (.call false (.val (.lit (.func (.func 93) #[] #[]))) [(.tmp 50)]), (some (47, false)), 0⟩, ⟨(some 52), (.not (.tmp 51)), (some (47, false)), 0⟩, ⟨(some 53), (.pick (.tmp 47) (.val (.lit (.bool true))) (.tmp 52)), none, 0⟩])
 (.cond (.tmp 53) (.seq (.reg 0 [⟨(some 4), (.mv (.val (.lit (.int .i64 2)))), none, 0⟩])
 .ret) .skip))
 (.seq (.reg 0 [⟨(some 54), (.faddr 2 (.tmp 6)), none, 0⟩, ⟨(some 55), (.faddr 0 (.tmp 54)), none, 0⟩, ⟨(some 56), (.load 1 false (.tmp 55)), none, 0⟩, ⟨(some 57), (.faddr 2 (.tmp 6)), none, 0⟩, ⟨(some 58), (.faddr 1 (.tmp 57)), none, 0⟩, ⟨(some 59), (.load 1 false (.tmp 58)), none, 0⟩, ⟨(some 60), (.bin .gtr (.tmp 56) (.tmp 59)), none, 0⟩])
 (.cond (.tmp 60) (.seq (.reg 0 [⟨(some 4), (.mv (.val (.lit (.int .i64 9)))), none, 0⟩])
 .ret) .skip)))))))
 (.reg 0 [⟨(some 17), (.mv (.tmp 5)), none, 0⟩, ⟨(some 18), (.bin .add (.tmp 17) (.val (.lit (.int .i64 1)))), none, 0⟩, ⟨(some 5), (.mv (.tmp 18)), none, 0⟩])))
def c29 : ACode :=
 (.seq (.reg 0 [⟨(some 4), (.mv (.val (.lit (.int .i64 0)))), none, 0⟩])
 (.seq (.seq (.reg 0 [⟨(some 7), (.mv (.tmp 0)), none, 0⟩, ⟨(some 8), (.call false (.val (.lit (.func (.func 32) #[] #[]))) [(.tmp 7), (.val (.lit (.int .i64 1))), (.val (.lit (.int .i64 40)))]), none, 0⟩, ⟨(some 9), (.not (.tmp 8)), none, 0⟩])
 (.cond (.tmp 9) (.seq (.reg 0 [⟨(some 4), (.mv (.val (.lit (.int .i64 2)))), none, 0⟩])
 .ret) .skip))
 (.seq (.seq (.reg 0 [⟨(some 10), (.mv (.tmp 1)), none, 0⟩, ⟨(some 11), (.len (.tmp 10)), none, 0⟩, ⟨(some 12), (.bin .gtr (.tmp 11) (.val (.lit (.int .i64 100)))), none, 0⟩])
 (.cond (.tmp 12) (.seq (.reg 0 [⟨(some 4), (.mv (.val (.lit (.int .i64 8)))), none, 0⟩])
 .ret) .skip))
 (.seq (.seq (.reg 0 [⟨(some 5), (.mv (.val (.lit (.int .i64 0)))), none, 0⟩])
 (.block 0 (.loop c29l0)))
 (.seq (.reg 0 [⟨(some 4), (.mv (.val (.lit (.int .i64 0)))), none, 0⟩])
 .ret)))))
theorem e29 : envOf Try.prog muts 29 = some (61, c29, [(Go.Abs.ARes.tmp 4)]) := by kernel_rfl
def c31l0 : ACode :=
 (.seq (.reg 0 [⟨(some 33), (.bin .lss (.tmp 32) (.tmp 31)), none, 0⟩])
 (.seq (.cond (.tmp 33) .skip (.exit 0))
 (.seq (.block 1 (.seq (.reg 0 [⟨(some 34), (.mv (.tmp 32)), none, 0⟩, ⟨(some 11), (.mv (.tmp 34)), none, 0⟩])
 (.reg 2 [⟨(some 35), (.mv (.tmp 10)), none, 0⟩, ⟨(some 36), (.mv (.tmp 9)), none, 0⟩, ⟨(some 37), (.mv (.tmp 11)), none, 0⟩, ⟨(some 38), (.call false (.val (.lit (.func (.func 98) #[] #[]))) [(.tmp 36), (.val (.lit (.int .i64 0))), (.tmp 37)]), none, 0⟩, ⟨(some 39), (.bslice 2 1 [(.lit (.int .i64 0)), (.lit (.int .i64 0))] [(0, (.tmp 38))]), none, 0⟩, ⟨(some 40), (.app 2 16 (.tmp 35) (.tmp 39)), none, 1⟩, ⟨(some 10), (.mv (.tmp 40)), none, 2⟩])))
 (.reg 0 [⟨(some 41), (.bin .add (.tmp 32) (.val (.lit (.int .i64 1)))), none, 0⟩, ⟨(some 32), (.mv (.tmp 41)), none, 0⟩]))))
def c31 : ACode :=
 (.seq (.reg 0 [⟨(some 4), (.mv (.val (.sl true 0 []))), none, 0⟩, ⟨(some 5), (.mv (.val (.sl true 0 []))), none, 0⟩, ⟨(some 6), (.mv (.val (.lit (.int .i64 0)))), none, 0⟩])
 (.seq (.seq (.reg 0 [⟨(some 12), (.mv (.tmp 0)), none, 0⟩, ⟨(some 13), (.mv (.tmp 1)), none, 0⟩, ⟨(some 14), (.call false (.val (.lit (.func (.func 89) #[] #[]))) [(.tmp 12), (.tmp 13)]), none, 0⟩, ⟨(some 7), (.mv (.tmp 14)), none, 0⟩])
 (.seq (.reg 0 [⟨(some 15), (.mv (.tmp 7)), none, 0⟩, ⟨(some 16), (.bin .neq (.tmp 15) (.val (.lit (.int .i64 0)))), none, 0⟩])
 (.cond (.tmp 16) (.seq (.reg 0 [⟨(some 17), (.mv (.tmp 7)), none, 0⟩, ⟨(some 4), (.mv (.val (.sl true 0 []))), none, 0⟩, ⟨(some 5), (.mv (.val (.sl true 0 []))), none, 0⟩, ⟨(some 6), (.mv (.tmp 17)), none, 0⟩])
 .ret) .skip)))
 (.seq (.seq (.reg 0 [⟨(some 18), (.mv (.tmp 0)), none, 0⟩, ⟨(some 19), (.mv (.tmp 1)), none, 0⟩, ⟨(some 20), (.call false (.val (.lit (.func (.func 95) #[] #[]))) [(.tmp 18), (.tmp 19)]), none, 0⟩, ⟨(some 8), (.mv (.tmp 20)), none, 0⟩])
 (.seq (.reg 0 [⟨(some 21), (.mv (.tmp 8)), none, 0⟩, ⟨(some 22), (.eqNil true (.tmp 21)), none, 0⟩])
 (.cond (.tmp 22) (.seq (.reg 0 [⟨(some 23), (.mv (.tmp 8)), none, 0⟩, ⟨(some 4), (.mv (.val (.sl true 0 []))), none, 0⟩, ⟨(some 5), (.mv (.tmp 23)), none, 0⟩, ⟨(some 6), (.mv (.val (.lit (.int .i64 13)))), none, 0⟩])
 .ret) .skip)))
 (.seq (.reg 0 [⟨(some 24), (.mv (.tmp 0)), none, 0⟩, ⟨(some 25), (.mv (.tmp 1)), none, 0⟩, ⟨(some 26), (.call false (.val (.lit (.func (.func 96) #[] #[]))) [(.tmp 24), (.tmp 25)]), none, 0⟩, ⟨(some 9), (.mv (.tmp 26)), none, 0⟩])
 (.seq (.seq (.reg 0 [⟨(some 27), (.mv (.tmp 9)), none, 0⟩, ⟨(some 28), (.call false (.val (.lit (.func (.func 97) #[] #[]))) [(.tmp 27)]), none, 0⟩, ⟨(some 29), (.not (.tmp 28)), none, 0⟩])
 (.cond (.tmp 29) (.seq (.reg 0 [⟨(some 4), (.mv (.val (.sl true 0 []))), none, 0⟩, ⟨(some 5), (.mv (.val (.sl true 0 []))), none, 0⟩, ⟨(some 6), (.mv (.val (.lit (.int .i64 25)))), none, 0⟩])
 .ret) .skip))
 (.seq (.reg 0 [⟨(some 10), (.mv (.val (.sl true 0 []))), none, 0⟩])
 (.seq (.seq (.reg 0 [⟨(some 30), (.mv (.tmp 9)), none, 0⟩, ⟨(some 31), (.len (.tmp 30)), none, 0⟩, ⟨(some 32), (.mv (.val (.lit (.int .i64 0)))), none, 0⟩])
 (.block 0 (.loop c31l0)))
 (.seq (.reg 0 [⟨(some 42), (.mv (.tmp 10)), none, 0⟩, ⟨(some 4), (.mv (.tmp 42)), none, 0⟩, ⟨(some 5), (.mv (.val (.sl true 0 []))), none, 0⟩, ⟨(some 6), (.mv (.val (.lit (.int .i64 0)))), none, 0⟩])
 .ret))))))))
theorem e31 : envOf Try.prog muts 31 = some (43, c31, [(Go.Abs.ARes.tmp 4), (Go.Abs.ARes.tmp 5), (Go.Abs.ARes.tmp 6)]) := by kernel_rfl
def c32 : ACode :=
 (.seq (.reg 0 [⟨(some 6), (.mv (.val (.lit (.bool false)))), none, 0⟩])
 (.seq (.reg 0 [⟨(some 7), (.mv (.tmp 0)), none, 0⟩, ⟨(some 8), (.mv (.tmp 1)), none, 0⟩, ⟨(some 9), (.bin .geq (.tmp 7) (.tmp 8)), none, 0⟩, ⟨(some 10), (.mv (.tmp 9)), none, 0⟩, ⟨(some 11), (.mv (.tmp 0)), (some (10, true)), 0⟩, ⟨(some 12), (.mv (.tmp 2)), (some (10, true)), 0⟩, ⟨(some 13), (.bin .leq (.tmp 11) (.tmp 12)), (some (10, true)), 0⟩, ⟨(some 14), (.pick (.tmp 10) (.tmp 13) (.val (.lit (.bool false)))), none, 0⟩, ⟨(some 6), (.mv (.tmp 14)), none, 0⟩])
 .ret))
theorem e32 : envOf Try.prog muts 32 = some (15, c32, [(Go.Abs.ARes.tmp 6)]) := by kernel_rfl
def c70l0 : ACode :=
 (.seq (.seq (.reg 0 [⟨(some 27), (.mv (.tmp 8)), none, 0⟩, ⟨(some 28), (.mv (.tmp 0)), none, 0⟩, ⟨(some 29), (.bin .lss (.tmp 27) (.tmp 28)), none, 0⟩])
 (.cond (.tmp 29) .skip (.exit 2)))
 (.seq (.block 3 (.reg 0 [⟨(some 32), (.mv (.tmp 6)), none, 0⟩, ⟨(some 33), (.mv (.tmp 7)), none, 0⟩, ⟨(some 34), (.iaddrS 1 (.tmp 32) (.tmp 33)), none, 0⟩, ⟨(some 35), (.load 1 false (.tmp 34)), none, 0⟩, ⟨(some 36), (.mv (.tmp 8)), none, 0⟩, ⟨(some 37), (.iaddrS 1 (.tmp 35) (.tmp 36)), none, 0⟩, ⟨none, (.store 1 (.tmp 37) (.val (.lit (.int .i64 1000000000000)))), none, 0⟩]))
 (.reg 0 [⟨(some 30), (.mv (.tmp 8)), none, 0⟩, ⟨(some 31), (.bin .add (.tmp 30) (.val (.lit (.int .i64 1)))), none, 0⟩, ⟨(some 8), (.mv (.tmp 31)), none, 0⟩])))
def c70l1 : ACode :=
 (.seq (.seq (.reg 0 [⟨(some 17), (.mv (.tmp 7)), none, 0⟩, ⟨(some 18), (.mv (.tmp 0)), none, 0⟩, ⟨(some 19), (.bin .lss (.tmp 17) (.tmp 18)), none, 0⟩])
 (.cond (.tmp 19) .skip (.exit 0)))
 (.seq (.block 1 (.seq (.reg 1 [⟨(some 22), (.mv (.tmp 6)), none, 0⟩, ⟨(some 23), (.mv (.tmp 7)), none, 0⟩, ⟨(some 24), (.mv (.tmp 0)), none, 0⟩, ⟨(some 25), (.mks 1 8 [(.lit (.int .i64 0))] (.tmp 24) (.tmp 24)), none, 0⟩, ⟨(some 26), (.iaddrS 1 (.tmp 22) (.tmp 23)), none, 1⟩, ⟨none, (.store 1 (.tmp 26) (.tmp 25)), none, 1⟩])
 (.seq (.seq (.reg 0 [⟨(some 8), (.mv (.val (.lit (.int .i64 0)))), none, 0⟩])
 (.block 2 (.loop c70l0)))
 (.reg 0 [⟨(some 38), (.mv (.tmp 6)), none, 0⟩, ⟨(some 39), (.mv (.tmp 7)), none, 0⟩, ⟨(some 40), (.iaddrS 1 (.tmp 38) (.tmp 39)), none, 0⟩, ⟨(some 41), (.load 1 false (.tmp 40)), none, 0⟩, ⟨(some 42), (.mv (.tmp 7)), none, 0⟩, ⟨(some 43), (.iaddrS 1 (.tmp 41) (.tmp 42)), none, 0⟩, ⟨none, (.store 1 (.tmp 43) (.val (.lit (.int .i64 0)))), none, 0⟩]))))
 (.reg 0 [⟨(some 20), (.mv (.tmp 7)), none, 0⟩, ⟨(some 21), (.bin .add (.tmp 20) (.val (.lit (.int .i64 1)))), none, 0⟩, ⟨(some 7), (.mv (.tmp 21)), none, 0⟩])))
def c70l2 : ACode :=
 (.seq (.seq (.reg 0 [⟨(some 44), (.mv (.tmp 9)), none, 0⟩, ⟨(some 45), (.mv (.tmp 1)), none, 0⟩, ⟨(some 46), (.len (.tmp 45)), none, 0⟩, ⟨(some 47), (.bin .lss (.tmp 44) (.tmp 46)), none, 0⟩])
 (.cond (.tmp 47) .skip (.exit 4)))
 (.seq (.block 5 (.seq (.reg 1 [⟨(some 50), (.mv (.tmp 1)), none, 0⟩, ⟨(some 51), (.mv (.tmp 9)), none, 0⟩, ⟨(some 52), (.iaddrS 4 (.tmp 50) (.tmp 51)), none, 0⟩, ⟨(some 53), (.load 4 true (.tmp 52)), none, 0⟩, ⟨(some 10), (.alloc [(.lit (.int .i64 0)), (.lit (.int .i64 0)), (.lit (.int .i64 0)), (.lit (.int .i64 0))]), none, 0⟩, ⟨none, (.store 4 (.tmp 10) (.tmp 53)), none, 1⟩])
 (.seq (.dreg 0 [(0, ⟨(some 54), (.mv (.tmp 6)), none, 0⟩), (1, ⟨(some 55), (.faddr 0 (.tmp 10)), none, 0⟩), (2, ⟨(some 56), (.load 1 false (.tmp 55)), none, 0⟩), (3, ⟨(some 57), (.iaddrS 1 (.tmp 54) (.tmp 56)), none, 0⟩), (4, ⟨(some 58), (.load 1 false (.tmp 57)), none, 0⟩), (5, ⟨(some 59), (.faddr 1 (.tmp 10)), none, 0⟩), (6, ⟨(some 60), (.load 1 false (.tmp 59)), none, 0⟩), (7, ⟨(some 61), (.mv (.tmp 6)), none, 0⟩), (8, ⟨(some 62), (.faddr 0 (.tmp 10)), none, 0⟩), (9, ⟨(some 63), (.load 1 false (.tmp 62)), none, 0⟩), (10, ⟨(some 64), (.iaddrS 1 (.tmp 61) (.tmp 63)), none, 0⟩), (11, ⟨(some 65), (.load 1 false (.tmp 64)), none, 0⟩), (12, ⟨(some 66), (.faddr 1 (.tmp 10)), none, 0⟩), (13, ⟨(some 67), (.load 1 false (.tmp 66)), none, 0⟩), (14, ⟨(some 68), (.iaddrS 1 (.tmp 65) (.tmp 67)), none, 0⟩), (15, ⟨(some 69), (.load 1 false (.tmp 68)), none, 0⟩), (16, ⟨(some 70), (.faddr 2 (.tmp 10)), none, 0⟩), (17, ⟨(some 71), (.faddr 1 (.tmp 70)), none, 0⟩), (18, ⟨(some 72), (.load 1 false (.tmp 71)), none, 0⟩), (19, ⟨(some 73), (.minmax false [(.tmp 69), (.tmp 72)]), none, 0⟩), (20, ⟨(some 74), (.iaddrS 1 (.tmp 58) (.tmp 60)), none, 0⟩), (21, ⟨none, (.store 1 (.tmp 74) (.tmp 73)), none, 0⟩)] [[], [], [1], [0, 2, 1], [3, 0, 2, 1], [], [5], [], [], [8], [7, 9, 8], [10, 7, 9, 8], [], [12], [11, 13, 10, 7, 9, 8, 12], [14, 11, 13, 10, 7, 9, 8, 12], [], [16], [17, 16], [15, 18, 14, 11, 13, 10, 7, 9, 8, 12, 17, 16], [4, 6, 0, 1, 2, 3, 5, 7, 8, 9, 10, 11, 12, 13, 14, 15, 16, 17, 18, 19], [20, 19, 0, 1, 2, 3, 4, 5, 6, 7, 8, 9, 10, 11, 12, 13, 14, 15, 16, 17, 18]])
 (.dreg 0 [(0, ⟨(some 75), (.mv (.tmp 6)), none, 0⟩), (1, ⟨(some 76), (.faddr 1 (.tmp 10)), none, 0⟩), (2, ⟨(some 77), (.load 1 false (.tmp 76)), none, 0⟩), (3, ⟨(some 78), (.iaddrS 1 (.tmp 75) (.tmp 77)), none, 0⟩), (4, ⟨(some 79), (.load 1 false (.tmp 78)), none, 0⟩), (5, ⟨(some 80), (.faddr 0 (.tmp 10)), none, 0⟩), (6, ⟨(some 81), (.load 1 false (.tmp 80)), none, 0⟩), (7, ⟨(some 82), (.mv (.tmp 6)), none, 0⟩), (8, ⟨(some 83), (.faddr 1 (.tmp 10)), none, 0⟩), (9, ⟨(some 84), (.load 1 false (.tmp 83)), none, 0⟩), (10, ⟨(some 85), (.iaddrS 1 (.tmp 82) (.tmp 84)), none, 0⟩), (11, ⟨(some 86), (.load 1 false (.tmp 85)), none, 0⟩), (12, ⟨(some 87), (.faddr 0 (.tmp 10)), none, 0⟩), (13, ⟨(some 88), (.load 1 false (.tmp 87)), none, 0⟩), (14, ⟨(some 89), (.iaddrS 1 (.tmp 86) (.tmp 88)), none, 0⟩), (15, ⟨(some 90), (.load 1 false (.tmp 89)), none, 0⟩), (16, ⟨(some 91), (.faddr 2 (.tmp 10)), none, 0⟩), (17, ⟨(some 92), (.faddr 0 (.tmp 91)), none, 0⟩), (18, ⟨(some 93), (.load 1 false (.tmp 92)), none, 0⟩), (19, ⟨(some 94), (.neg (.tmp 93)), none, 0⟩), (20, ⟨(some 95), (.minmax false [(.tmp 90), (.tmp 94)]), none, 0⟩), (21, ⟨(some 96), (.iaddrS 1 (.tmp 79) (.tmp 81)), none, 0⟩), (22, ⟨none, (.store 1 (.tmp 96) (.tmp 95)), none, 0⟩)] [[], [], [1], [0, 2, 1], [3, 0, 2, 1], [], [5], [], [], [8], [7, 9, 8], [10, 7, 9, 8], [], [12], [11, 13, 10, 7, 9, 8, 12], [14, 11, 13, 10, 7, 9, 8, 12], [], [16], [17, 16], [18, 17, 16], [15, 19, 14, 11, 13, 10, 7, 9, 8, 12, 18, 17, 16], [4, 6, 0, 1, 2, 3, 5, 7, 8, 9, 10, 11, 12, 13, 14, 15, 16, 17, 18, 19, 20], [21, 20, 0, 1, 2, 3, 4, 5, 6, 7, 8, 9, 10, 11, 12, 13, 14, 15, 16, 17, 18, 19]]))))
 (.reg 0 [⟨(some 48), (.mv (.tmp 9)), none, 0⟩, ⟨(some 49), (.bin .add (.tmp 48) (.val (.lit (.int .i64 1)))), none, 0⟩, ⟨(some 9), (.mv (.tmp 49)), none, 0⟩])))
def c70l3 : ACode :=
 (.seq (.seq (.reg 0 [⟨(some 107), (.mv (.tmp 13)), none, 0⟩, ⟨(some 108), (.mv (.tmp 0)), none, 0⟩, ⟨(some 109), (.bin .lss (.tmp 107) (.tmp 108)), none, 0⟩])
 (.cond (.tmp 109) .skip (.exit 10)))
 (.seq (.block 11 (.seq (.reg 0 [⟨(some 112), (.mv (.tmp 6)), none, 0⟩, ⟨(some 113), (.mv (.tmp 12)), none, 0⟩, ⟨(some 114), (.iaddrS 1 (.tmp 112) (.tmp 113)), none, 0⟩, ⟨(some 115), (.load 1 false (.tmp 114)), none, 0⟩, ⟨(some 116), (.mv (.tmp 11)), none, 0⟩, ⟨(some 117), (.iaddrS 1 (.tmp 115) (.tmp 116)), none, 0⟩, ⟨(some 118), (.load 1 false (.tmp 117)), none, 0⟩, ⟨(some 119), (.bin .lss (.tmp 118) (.val (.lit (.int .i64 1000000000000)))), none, 0⟩, ⟨(some 120), (.mv (.tmp 119)), none, 0⟩, ⟨(some 121), (.mv (.tmp 6)), (some (120, true)), 0⟩, ⟨(some 122), (.mv (.tmp 11)), (some (120, true)), 0⟩, ⟨(some 123), (.iaddrS 1 (.tmp 121) (.tmp 122)), (some (120, true)), 0⟩, ⟨(some 124), (.load 1 false (.tmp 123)), (some (120, true)), 0⟩, ⟨(some 125), (.mv (.tmp 13)), (some (120, true)), 0⟩, ⟨(some 126), (.iaddrS 1 (.tmp 124) (.tmp 125)), (some (120, true)), 0⟩, ⟨(some 127), (.load 1 false (.tmp 126)), (some (120, true)), 0⟩, ⟨(some 128), (.bin .lss (.tmp 127) (.val (.lit (.int .i64 1000000000000)))), (some (120, true)), 0⟩, ⟨(some 129), (.pick (.tmp 120) (.tmp 128) (.val (.lit (.bool false)))), none, 0⟩])
 (.cond (.tmp 129) (.dreg 0 [(0, ⟨(some 130), (.mv (.tmp 6)), none, 0⟩), (1, ⟨(some 131), (.mv (.tmp 12)), none, 0⟩), (2, ⟨(some 132), (.iaddrS 1 (.tmp 130) (.tmp 131)), none, 0⟩), (3, ⟨(some 133), (.load 1 false (.tmp 132)), none, 0⟩), (4, ⟨(some 134), (.mv (.tmp 13)), none, 0⟩), (5, ⟨(some 135), (.mv (.tmp 6)), none, 0⟩), (6, ⟨(some 136), (.mv (.tmp 12)), none, 0⟩), (7, ⟨(some 137), (.iaddrS 1 (.tmp 135) (.tmp 136)), none, 0⟩), (8, ⟨(some 138), (.load 1 false (.tmp 137)), none, 0⟩), (9, ⟨(some 139), (.mv (.tmp 13)), none, 0⟩), (10, ⟨(some 140), (.iaddrS 1 (.tmp 138) (.tmp 139)), none, 0⟩), (11, ⟨(some 141), (.load 1 false (.tmp 140)), none, 0⟩), (12, ⟨(some 142), (.mv (.tmp 6)), none, 0⟩), (13, ⟨(some 143), (.mv (.tmp 12)), none, 0⟩), (14, ⟨(some 144), (.iaddrS 1 (.tmp 142) (.tmp 143)), none, 0⟩), (15, ⟨(some 145), (.load 1 false (.tmp 144)), none, 0⟩), (16, ⟨(some 146), (.mv (.tmp 11)), none, 0⟩), (17, ⟨(some 147), (.iaddrS 1 (.tmp 145) (.tmp 146)), none, 0⟩), (18, ⟨(some 148), (.load 1 false (.tmp 147)), none, 0⟩), (19, ⟨(some 149), (.mv (.tmp 6)), none, 0⟩), (20, ⟨(some 150), (.mv (.tmp 11)), none, 0⟩), (21, ⟨(some 151), (.iaddrS 1 (.tmp 149) (.tmp 150)), none, 0⟩), (22, ⟨(some 152), (.load 1 false (.tmp 151)), none, 0⟩), (23, ⟨(some 153), (.mv (.tmp 13)), none, 0⟩), (24, ⟨(some 154), (.iaddrS 1 (.tmp 152) (.tmp 153)), none, 0⟩), (25, ⟨(some 155), (.load 1 false (.tmp 154)), none, 0⟩), (26, ⟨(some 156), (.bin .add (.tmp 148) (.tmp 155)), none, 0⟩), (27, ⟨(some 157), (.minmax false [(.tmp 141), (.tmp 156)]), none, 0⟩), (28, ⟨(some 158), (.minmax true [(.tmp 157), (.val (.lit (.int .i64 (-1000000000000))))]), none, 0⟩), (29, ⟨(some 159), (.iaddrS 1 (.tmp 133) (.tmp 134)), none, 0⟩), (30, ⟨none, (.store 1 (.tmp 159) (.tmp 158)), none, 0⟩)] [[], [], [0, 1], [2, 0, 1], [], [], [], [5, 6], [7, 5, 6], [], [8, 9, 7, 5, 6], [10, 8, 9, 7, 5, 6], [], [], [12, 13], [14, 12, 13], [], [15, 16, 14, 12, 13], [17, 15, 16, 14, 12, 13], [], [], [19, 20], [21, 19, 20], [], [22, 23, 21, 19, 20], [24, 22, 23, 21, 19, 20], [18, 25, 17, 15, 16, 14, 12, 13, 24, 22, 23, 21, 19, 20], [11, 26, 10, 8, 9, 7, 5, 6, 18, 25, 17, 15, 16, 14, 12, 13, 24, 22, 23, 21, 19, 20], [27, 11, 26, 10, 8, 9, 7, 5, 6, 18, 25, 17, 15, 16, 14, 12, 13, 24, 22, 23, 21, 19, 20], [3, 4, 0, 1, 2, 5, 6, 7, 8, 9, 10, 11, 12, 13, 14, 15, 16, 17, 18, 19, 20, 21, 22, 23, 24, 25, 26, 27, 28], [29, 28, 0, 1, 2, 3, 4, 5, 6, 7, 8, 9, 10, 11, 12, 13, 14, 15, 16, 17, 18, 19, 20, 21, 22, 23, 24, 25, 26, 27]]) .skip)))
 (.reg 0 [⟨(some 110), (.mv (.tmp 13)), none, 0⟩, ⟨(some 111), (.bin .add (.tmp 110) (.val (.lit (.int .i64 1)))), none, 0⟩, ⟨(some 13), (.mv (.tmp 111)), none, 0⟩])))
def c70l4 : ACode :=
 (.seq (.seq (.reg 0 [⟨(some 102), (.mv (.tmp 12)), none, 0⟩, ⟨(some 103), (.mv (.tmp 0)), none, 0⟩, ⟨(some 104), (.bin .lss (.tmp 102) (.tmp 103)), none, 0⟩])
 (.cond (.tmp 104) .skip (.exit 8)))
 (.seq (.block 9 (.seq (.reg 0 [⟨(some 13), (.mv (.val (.lit (.int .i64 0)))), none, 0⟩])
 (.block 10 (.loop c70l3))))
 (.reg 0 [⟨(some 105), (.mv (.tmp 12)), none, 0⟩, ⟨(some 106), (.bin .add (.tmp 105) (.val (.lit (.int .i64 1)))), none, 0⟩, ⟨(some 12), (.mv (.tmp 106)), none, 0⟩])))
def c70l5 : ACode :=
 (.seq (.seq (.reg 0 [⟨(some 160), (.mv (.tmp 14)), none, 0⟩, ⟨(some 161), (.mv (.tmp 0)), none, 0⟩, ⟨(some 162), (.bin .lss (.tmp 160) (.tmp 161)), none, 0⟩])
 (.cond (.tmp 162) .skip (.exit 12)))
 (.seq (.block 13 (.seq (.reg 0 [⟨(some 165), (.mv (.tmp 6)), none, 0⟩, ⟨(some 166), (.mv (.tmp 14)), none, 0⟩, ⟨(some 167), (.iaddrS 1 (.tmp 165) (.tmp 166)), none, 0⟩, ⟨(some 168), (.load 1 false (.tmp 167)), none, 0⟩, ⟨(some 169), (.mv (.tmp 14)), none, 0⟩, ⟨(some 170), (.iaddrS 1 (.tmp 168) (.tmp 169)), none, 0⟩, ⟨(some 171), (.load 1 false (.tmp 170)), none, 0⟩, ⟨(some 172), (.bin .lss (.tmp 171) (.val (.lit (.int .i64 0)))), none, 0⟩])
 (.cond (.tmp 172) (.seq (.reg 0 [⟨(some 4), (.mv (.val (.sl true 0 []))), none, 0⟩, ⟨(some 5), (.mv (.val (.lit (.bool false)))), none, 0⟩])
 .ret) .skip)))
 (.reg 0 [⟨(some 163), (.mv (.tmp 14)), none, 0⟩, ⟨(some 164), (.bin .add (.tmp 163) (.val (.lit (.int .i64 1)))), none, 0⟩, ⟨(some 14), (.mv (.tmp 164)), none, 0⟩])))
def c70l6 : ACode :=
 (.seq (.seq (.reg 0 [⟨(some 97), (.mv (.tmp 11)), none, 0⟩, ⟨(some 98), (.mv (.tmp 0)), none, 0⟩, ⟨(some 99), (.bin .lss (.tmp 97) (.tmp 98)), none, 0⟩])
 (.cond (.tmp 99) .skip (.exit 6)))
 (.seq (.block 7 (.seq (.seq (.reg 0 [⟨(some 12), (.mv (.val (.lit (.int .i64 0)))), none, 0⟩])
 (.block 8 (.loop c70l4)))
 (.seq (.reg 0 [⟨(some 14), (.mv (.val (.lit (.int .i64 0)))), none, 0⟩])
 (.block 12 (.loop c70l5)))))
 (.reg 0 [⟨(some 100), (.mv (.tmp 11)), none, 0⟩, ⟨(some 101), (.bin .add (.tmp 100) (.val (.lit (.int .i64 1)))), none, 0⟩, ⟨(some 11), (.mv (.tmp 101)), none, 0⟩])))
def c70 : ACode :=
 (.seq (.reg 0 [⟨(some 4), (.mv (.val (.sl true 0 []))), none, 0⟩, ⟨(some 5), (.mv (.val (.lit (.bool false)))), none, 0⟩])
 (.seq (.reg 1 [⟨(some 15), (.mv (.tmp 0)), none, 0⟩, ⟨(some 16), (.mks 1 24 [(.sl true 0 [])] (.tmp 15) (.tmp 15)), none, 0⟩, ⟨(some 6), (.mv (.tmp 16)), none, 1⟩])
 (.seq (.seq (.reg 0 [⟨(some 7), (.mv (.val (.lit (.int .i64 0)))), none, 0⟩])
 (.block 0 (.loop c70l1)))
 (.seq (.seq (.reg 0 [⟨(some 9), (.mv (.val (.lit (.int .i64 0)))), none, 0⟩])
 (.block 4 (.loop c70l2)))
 (.seq (.seq (.reg 0 [⟨(some 11), (.mv (.val (.lit (.int .i64 0)))), none, 0⟩])
 (.block 6 (.loop c70l6)))
 (.seq (.reg 0 [⟨(some 173), (.mv (.tmp 6)), none, 0⟩, ⟨(some 4), (.mv (.tmp 173)), none, 0⟩, ⟨(some 5), (.mv (.val (.lit (.bool true)))), none, 0⟩])
 .ret))))))
theorem e70 : envOf Try.prog muts 70 = some (174, c70, [(Go.Abs.ARes.tmp 4), (Go.Abs.ARes.tmp 5)]) := by kernel_rfl
def c84l0 : ACode :=
 (.seq (.seq (.reg 0 [⟨(some 7), (.mv (.tmp 6)), none, 0⟩, ⟨(some 8), (.mv (.tmp 0)), none, 0⟩, ⟨(some 9), (.len (.tmp 8)), none, 0⟩, ⟨(some 10), (.bin .lss (.tmp 7) (.tmp 9)), none, 0⟩])
 (.cond (.tmp 10) .skip (.exit 0)))
 (.seq (.block 1 (.dreg 2 [(0, ⟨(some 13), (.mv (.tmp 5)), none, 0⟩), (1, ⟨(some 14), (.mv (.tmp 0)), none, 0⟩), (2, ⟨(some 15), (.iaddrA 2 1 (.tmp 3) (.val (.lit (.int .i64 0)))), none, 0⟩), (3, ⟨(some 16), (.load 1 false (.tmp 15)), none, 0⟩), (4, ⟨(some 17), (.iaddrS 1 (.tmp 14) (.tmp 16)), none, 0⟩), (5, ⟨(some 18), (.load 1 false (.tmp 17)), none, 0⟩), (6, ⟨(some 19), (.mv (.tmp 6)), none, 0⟩), (7, ⟨(some 20), (.iaddrS 1 (.tmp 18) (.tmp 19)), none, 0⟩), (8, ⟨(some 21), (.load 1 false (.tmp 20)), none, 0⟩), (9, ⟨(some 22), (.mv (.tmp 0)), none, 0⟩), (10, ⟨(some 23), (.iaddrA 2 1 (.tmp 3) (.val (.lit (.int .i64 0)))), none, 0⟩), (11, ⟨(some 24), (.load 1 false (.tmp 23)), none, 0⟩), (12, ⟨(some 25), (.iaddrS 1 (.tmp 22) (.tmp 24)), none, 0⟩), (13, ⟨(some 26), (.load 1 false (.tmp 25)), none, 0⟩), (14, ⟨(some 27), (.iaddrS 1 (.tmp 26) (.val (.lit (.int .i64 0)))), none, 0⟩), (15, ⟨(some 28), (.load 1 false (.tmp 27)), none, 0⟩), (16, ⟨(some 29), (.bin .sub (.tmp 21) (.tmp 28)), none, 0⟩), (17, ⟨(some 30), (.bslice 1 1 [(.lit (.int .i64 0))] [(0, (.tmp 29))]), none, 0⟩), (18, ⟨(some 31), (.app 1 8 (.tmp 13) (.tmp 30)), none, 1⟩), (19, ⟨(some 5), (.mv (.tmp 31)), none, 2⟩)] [[], [], [], [2], [1, 3, 2], [4, 1, 3, 2], [], [5, 6, 4, 1, 3, 2], [7, 5, 6, 4, 1, 3, 2], [], [], [10], [9, 11, 10], [12, 9, 11, 10], [13, 12, 9, 11, 10], [14, 13, 12, 9, 11, 10], [8, 15, 7, 5, 6, 4, 1, 3, 2, 14, 13, 12, 9, 11, 10], [16, 8, 15, 7, 5, 6, 4, 1, 3, 2, 14, 13, 12, 9, 11, 10], [0, 17, 16, 8, 15, 7, 5, 6, 4, 1, 3, 2, 14, 13, 12, 9, 11, 10], [18, 0, 1, 2, 3, 4, 5, 6, 7, 8, 9, 10, 11, 12, 13, 14, 15, 16, 17]]))
 (.reg 0 [⟨(some 11), (.mv (.tmp 6)), none, 0⟩, ⟨(some 12), (.bin .add (.tmp 11) (.val (.lit (.int .i64 1)))), none, 0⟩, ⟨(some 6), (.mv (.tmp 12)), none, 0⟩])))
def c84 : ACode :=
 (.seq (.reg 1 [⟨(some 3), (.box 2 (.tmp 1)), none, 0⟩, ⟨(some 4), (.mv (.val (.sl true 0 []))), none, 1⟩])
 (.seq (.reg 0 [⟨(some 5), (.mv (.val (.sl true 0 []))), none, 0⟩])
 (.seq (.seq (.reg 0 [⟨(some 6), (.mv (.val (.lit (.int .i64 0)))), none, 0⟩])
 (.block 0 (.loop c84l0)))
 (.seq (.reg 0 [⟨(some 32), (.mv (.tmp 5)), none, 0⟩, ⟨(some 4), (.mv (.tmp 32)), none, 0⟩])
 .ret))))
theorem e84 : envOf Try.prog muts 84 = some (33, c84, [(Go.Abs.ARes.tmp 4)]) := by kernel_rfl
def c142l0 : ACode :=
 (.seq (.reg 0 [⟨(some 9), (.bin .lss (.tmp 8) (.tmp 7)), none, 0⟩])
 (.seq (.cond (.tmp 9) .skip (.exit 0))
 (.seq (.block 1 (.seq (.reg 0 [⟨(some 10), (.mv (.tmp 8)), none, 0⟩, ⟨(some 5), (.mv (.tmp 10)), none, 0⟩])
 (.seq (.reg 0 [⟨(some 11), (.mv (.tmp 1)), none, 0⟩, ⟨(some 12), (.mv (.tmp 0)), none, 0⟩, ⟨(some 13), (.mv (.tmp 5)), none, 0⟩, ⟨(some 14), (.iaddrS 1 (.tmp 12) (.tmp 13)), none, 0⟩, ⟨(some 15), (.load 1 false (.tmp 14)), none, 0⟩, ⟨(some 16), (.call true (.tmp 11) [(.tmp 15)]), none, 0⟩])
 (.cond (.tmp 16) (.seq (.reg 0 [⟨(some 17), (.mv (.tmp 5)), none, 0⟩, ⟨(some 4), (.mv (.tmp 17)), none, 0⟩])
 .ret) .skip))))
 (.reg 0 [⟨(some 18), (.bin .add (.tmp 8) (.val (.lit (.int .i64 1)))), none, 0⟩, ⟨(some 8), (.mv (.tmp 18)), none, 0⟩]))))
def c142 : ACode :=
 (.seq (.reg 0 [⟨(some 4), (.mv (.val (.lit (.int .i64 0)))), none, 0⟩])
 (.seq (.seq (.reg 0 [⟨(some 6), (.mv (.tmp 0)), none, 0⟩, ⟨(some 7), (.len (.tmp 6)), none, 0⟩, ⟨(some 8), (.mv (.val (.lit (.int .i64 0)))), none, 0⟩])
 (.block 0 (.loop c142l0)))
 (.seq (.reg 0 [⟨(some 4), (.mv (.val (.lit (.int .i64 (-1))))), none, 0⟩])
 .ret)))
theorem e142 : envOf Try.prog muts 142 = some (19, c142, [(Go.Abs.ARes.tmp 4)]) := by kernel_rfl
def c144 : ACode :=
 (.seq (.reg 0 [⟨(some 2), (.mv (.val (.lit (.bool false)))), none, 0⟩])
 (.seq (.reg 0 [⟨(some 3), (.mv (.tmp 0)), none, 0⟩, ⟨(some 4), (.bin .eql (.tmp 3) (.val (.lit (.int .i64 1099511627776)))), none, 0⟩, ⟨(some 2), (.mv (.tmp 4)), none, 0⟩])
 .ret))
theorem e144 : envOf Try.prog muts 144 = some (5, c144, [(Go.Abs.ARes.tmp 2)]) := by kernel_rfl
def c48l0 : ACode :=
 (.seq (.seq (.reg 0 [⟨(some 11), (.mv (.tmp 5)), none, 0⟩, ⟨(some 12), (.mv (.tmp 0)), none, 0⟩, ⟨(some 13), (.len (.tmp 12)), none, 0⟩, ⟨(some 14), (.bin .lss (.tmp 11) (.tmp 13)), none, 0⟩])
 (.cond (.tmp 14) .skip (.exit 0)))
 (.seq (.block 1 (.seq (.dreg 0 [(0, ⟨(some 17), (.mv (.tmp 0)), none, 0⟩), (1, ⟨(some 18), (.mv (.tmp 5)), none, 0⟩), (2, ⟨(some 19), (.iaddrS 1 (.tmp 17) (.tmp 18)), none, 0⟩), (3, ⟨(some 20), (.load 1 false (.tmp 19)), none, 0⟩), (4, ⟨(some 21), (.mv (.tmp 1)), none, 0⟩), (5, ⟨(some 22), (.mv (.tmp 5)), none, 0⟩), (6, ⟨(some 23), (.iaddrS 1 (.tmp 21) (.tmp 22)), none, 0⟩), (7, ⟨(some 24), (.load 1 false (.tmp 23)), none, 0⟩), (8, ⟨(some 25), (.bin .neq (.tmp 20) (.tmp 24)), none, 0⟩)] [[], [], [0, 1], [2, 0, 1], [], [], [4, 5], [6, 4, 5], [3, 7, 2, 0, 1, 6, 4, 5]])
 (.cond (.tmp 25) (.seq (.reg 0 [⟨(some 4), (.mv (.val (.lit (.bool false)))), none, 0⟩])
 .ret) .skip)))
 (.reg 0 [⟨(some 15), (.mv (.tmp 5)), none, 0⟩, ⟨(some 16), (.bin .add (.tmp 15) (.val (.lit (.int .i64 1)))), none, 0⟩, ⟨(some 5), (.mv (.tmp 16)), none, 0⟩])))
def c48 : ACode :=
 (.seq (.reg 0 [⟨(some 4), (.mv (.val (.lit (.bool false)))), none, 0⟩])
 (.seq (.seq (.reg 0 [⟨(some 6), (.mv (.tmp 0)), none, 0⟩, ⟨(some 7), (.len (.tmp 6)), none, 0⟩, ⟨(some 8), (.mv (.tmp 1)), none, 0⟩, ⟨(some 9), (.len (.tmp 8)), none, 0⟩, ⟨(some 10), (.bin .neq (.tmp 7) (.tmp 9)), none, 0⟩])
 (.cond (.tmp 10) (.seq (.reg 0 [⟨(some 4), (.mv (.val (.lit (.bool false)))), none, 0⟩])
 .ret) .skip))
 (.seq (.seq (.reg 0 [⟨(some 5), (.mv (.val (.lit (.int .i64 0)))), none, 0⟩])
 (.block 0 (.loop c48l0)))
 (.seq (.reg 0 [⟨(some 4), (.mv (.val (.lit (.bool true)))), none, 0⟩])
 .ret))))
theorem e48 : envOf Try.prog muts 48 = some (26, c48, [(Go.Abs.ARes.tmp 4)]) := by kernel_rfl
def c55 : ACode :=
 (.seq (.reg 1 [⟨(some 5), (.box 2 (.tmp 2)), none, 0⟩, ⟨(some 6), (.mv (.val (.lit (.int .i64 0)))), none, 1⟩])
 (.seq (.seq (.reg 0 [⟨(some 8), (.mv (.tmp 0)), none, 0⟩, ⟨(some 9), (.mv (.tmp 1)), none, 0⟩, ⟨(some 10), (.call false (.val (.lit (.func (.func 29) #[] #[]))) [(.tmp 8), (.tmp 9)]), none, 0⟩, ⟨(some 7), (.mv (.tmp 10)), none, 0⟩])
 (.seq (.reg 0 [⟨(some 11), (.mv (.tmp 7)), none, 0⟩, ⟨(some 12), (.bin .neq (.tmp 11) (.val (.lit (.int .i64 0)))), none, 0⟩])
 (.cond (.tmp 12) (.seq (.reg 0 [⟨(some 13), (.mv (.tmp 7)), none, 0⟩, ⟨(some 6), (.mv (.tmp 13)), none, 0⟩])
 .ret) .skip)))
 (.seq (.reg 0 [⟨(some 14), (.mv (.tmp 0)), none, 0⟩, ⟨(some 15), (.load 2 true (.tmp 5)), none, 0⟩, ⟨(some 16), (.call false (.val (.lit (.func (.func 121) #[] #[]))) [(.tmp 14), (.tmp 15)]), none, 0⟩, ⟨(some 6), (.mv (.tmp 16)), none, 0⟩])
 .ret)))
theorem e55 : envOf Try.prog muts 55 = some (17, c55, [(Go.Abs.ARes.tmp 6)]) := by kernel_rfl
def c67l0 : ACode :=
 (.seq (.reg 0 [⟨(some 13), (.bin .lss (.tmp 12) (.tmp 11)), none, 0⟩])
 (.seq (.cond (.tmp 13) .skip (.exit 0))
 (.seq (.block 1 (.seq (.reg 0 [⟨(some 14), (.iaddrS 1 (.tmp 10) (.tmp 12)), none, 0⟩, ⟨(some 15), (.load 1 false (.tmp 14)), none, 0⟩, ⟨(some 5), (.mv (.tmp 15)), none, 0⟩])
 (.seq (.block 2 (.seq (.reg 0 [⟨(some 17), (.mv (.tmp 5)), none, 0⟩, ⟨(some 18), (.call false (.val (.lit (.func (.func 92) #[] #[]))) [(.tmp 17), (.val (.lit (.int .i64 1))), (.val (.lit (.int .i64 1000000)))]), none, 0⟩, ⟨(some 19), (.not (.tmp 18)), none, 0⟩, ⟨(some 16), (.mv (.tmp 19)), none, 0⟩])
 (.cond (.tmp 16) (.seq (.reg 0 [⟨(some 2), (.mv (.val (.lit (.int .i64 2)))), none, 0⟩])
 .ret) (.seq (.reg 0 [⟨(some 21), (.mv (.tmp 5)), none, 0⟩, ⟨(some 22), (.mv (.tmp 3)), none, 0⟩, ⟨(some 23), (.bin .leq (.tmp 21) (.tmp 22)), none, 0⟩, ⟨(some 20), (.mv (.tmp 23)), none, 0⟩])
 (.cond (.tmp 20) (.seq (.reg 0 [⟨(some 2), (.mv (.val (.lit (.int .i64 9)))), none, 0⟩])
 .ret) .skip)))))
 (.reg 0 [⟨(some 24), (.mv (.tmp 5)), none, 0⟩, ⟨(some 3), (.mv (.tmp 24)), none, 0⟩]))))
 (.reg 0 [⟨(some 25), (.bin .add (.tmp 12) (.val (.lit (.int .i64 1)))), none, 0⟩, ⟨(some 12), (.mv (.tmp 25)), none, 0⟩]))))
def c67 : ACode :=
 (.seq (.reg 0 [⟨(some 2), (.mv (.val (.lit (.int .i64 0)))), none, 0⟩])
 (.seq (.seq (.reg 0 [⟨(some 6), (.mv (.tmp 0)), none, 0⟩, ⟨(some 7), (.len (.tmp 6)), none, 0⟩, ⟨(some 8), (.call false (.val (.lit (.func (.func 92) #[] #[]))) [(.tmp 7), (.val (.lit (.int .i64 1))), (.val (.lit (.int .i64 40)))]), none, 0⟩, ⟨(some 9), (.not (.tmp 8)), none, 0⟩])
 (.cond (.tmp 9) (.seq (.reg 0 [⟨(some 2), (.mv (.val (.lit (.int .i64 10)))), none, 0⟩])
 .ret) .skip))
 (.seq (.reg 0 [⟨(some 3), (.mv (.val (.lit (.int .i64 0)))), none, 0⟩])
 (.seq (.seq (.reg 0 [⟨(some 10), (.mv (.tmp 0)), none, 0⟩, ⟨(some 11), (.len (.tmp 10)), none, 0⟩, ⟨(some 12), (.mv (.val (.lit (.int .i64 0)))), none, 0⟩])
 (.block 0 (.loop c67l0)))
 (.seq (.reg 0 [⟨(some 2), (.mv (.val (.lit (.int .i64 0)))), none, 0⟩])
 .ret)))))
theorem e67 : envOf Try.prog muts 67 = some (26, c67, [(Go.Abs.ARes.tmp 2)]) := by kernel_rfl
def c83l0 : ACode :=
 (.seq (.reg 0 [⟨(some 38), (.bin .lss (.tmp 37) (.tmp 36)), none, 0⟩])
 (.seq (.cond (.tmp 38) .skip (.exit 0))
 (.seq (.block 1 (.seq (.reg 0 [⟨(some 39), (.mv (.tmp 37)), none, 0⟩, ⟨(some 12), (.mv (.tmp 39)), none, 0⟩])
 (.dreg 0 [(0, ⟨(some 40), (.mv (.tmp 11)), none, 0⟩), (1, ⟨(some 41), (.mv (.tmp 12)), none, 0⟩), (2, ⟨(some 42), (.iaddrS 1 (.tmp 40) (.tmp 41)), none, 0⟩), (3, ⟨(some 43), (.load 1 false (.tmp 42)), none, 0⟩), (4, ⟨(some 44), (.mv (.tmp 9)), none, 0⟩), (5, ⟨(some 45), (.iaddrA 2 1 (.tmp 5) (.val (.lit (.int .i64 0)))), none, 0⟩), (6, ⟨(some 46), (.load 1 false (.tmp 45)), none, 0⟩), (7, ⟨(some 47), (.iaddrS 1 (.tmp 44) (.tmp 46)), none, 0⟩), (8, ⟨(some 48), (.load 1 false (.tmp 47)), none, 0⟩), (9, ⟨(some 49), (.iaddrS 1 (.tmp 48) (.val (.lit (.int .i64 0)))), none, 0⟩), (10, ⟨(some 50), (.load 1 false (.tmp 49)), none, 0⟩), (11, ⟨(some 51), (.bin .sub (.tmp 43) (.tmp 50)), none, 0⟩), (12, ⟨(some 52), (.iaddrS 1 (.tmp 40) (.tmp 41)), none, 0⟩), (13, ⟨none, (.store 1 (.tmp 52) (.tmp 51)), none, 0⟩)] [[], [], [0, 1], [2, 0, 1], [], [], [5], [4, 6, 5], [7, 4, 6, 5], [8, 7, 4, 6, 5], [9, 8, 7, 4, 6, 5], [3, 10, 2, 0, 1, 9, 8, 7, 4, 6, 5], [0, 1, 2, 3, 4, 5, 6, 7, 8, 9, 10, 11], [12, 11, 0, 1, 2, 3, 4, 5, 6, 7, 8, 9, 10]])))
 (.reg 0 [⟨(some 53), (.bin .add (.tmp 37) (.val (.lit (.int .i64 1)))), none, 0⟩, ⟨(some 37), (.mv (.tmp 53)), none, 0⟩]))))
def c83 : ACode :=
 (.seq (.reg 1 [⟨(some 5), (.box 2 (.tmp 2)), none, 0⟩, ⟨(some 6), (.mv (.val (.sl true 0 []))), none, 1⟩, ⟨(some 7), (.mv (.val (.lit (.int .i64 0)))), none, 1⟩])
 (.seq (.seq (.reg 0 [⟨(some 13), (.mv (.tmp 0)), none, 0⟩, ⟨(some 14), (.mv (.tmp 1)), none, 0⟩, ⟨(some 15), (.load 2 true (.tmp 5)), none, 0⟩, ⟨(some 16), (.call false (.val (.lit (.func (.func 118) #[] #[]))) [(.tmp 13), (.tmp 14), (.tmp 15)]), none, 0⟩, ⟨(some 8), (.mv (.tmp 16)), none, 0⟩])
 (.seq (.reg 0 [⟨(some 17), (.mv (.tmp 8)), none, 0⟩, ⟨(some 18), (.bin .neq (.tmp 17) (.val (.lit (.int .i64 0)))), none, 0⟩])
 (.cond (.tmp 18) (.seq (.reg 0 [⟨(some 19), (.mv (.tmp 8)), none, 0⟩, ⟨(some 6), (.mv (.val (.sl true 0 []))), none, 0⟩, ⟨(some 7), (.mv (.tmp 19)), none, 0⟩])
 .ret) .skip)))
 (.seq (.reg 0 [⟨(some 21), (.mv (.tmp 0)), none, 0⟩, ⟨(some 22), (.mv (.tmp 1)), none, 0⟩, ⟨(some 23), (.call false (.val (.lit (.func (.func 132) #[] #[]))) [(.tmp 21), (.tmp 22)]), none, 0⟩, ⟨(some 20), (.mv (.tmp 23)), none, 0⟩, ⟨(some 24), (.ext (.tmp 20) 0), none, 0⟩, ⟨(some 25), (.ext (.tmp 20) 1), none, 0⟩, ⟨(some 9), (.mv (.tmp 24)), none, 0⟩, ⟨(some 10), (.mv (.tmp 25)), none, 0⟩])
 (.seq (.seq (.reg 0 [⟨(some 26), (.mv (.tmp 10)), none, 0⟩, ⟨(some 27), (.bin .neq (.tmp 26) (.val (.lit (.int .i64 0)))), none, 0⟩])
 (.cond (.tmp 27) (.seq (.reg 0 [⟨(some 28), (.mv (.tmp 10)), none, 0⟩, ⟨(some 6), (.mv (.val (.sl true 0 []))), none, 0⟩, ⟨(some 7), (.mv (.tmp 28)), none, 0⟩])
 .ret) .skip))
 (.seq (.reg 0 [⟨(some 29), (.mv (.tmp 9)), none, 0⟩, ⟨(some 30), (.iaddrA 2 1 (.tmp 5) (.val (.lit (.int .i64 0)))), none, 0⟩, ⟨(some 31), (.load 1 false (.tmp 30)), none, 0⟩, ⟨(some 32), (.iaddrS 1 (.tmp 29) (.tmp 31)), none, 0⟩, ⟨(some 33), (.load 1 false (.tmp 32)), none, 0⟩, ⟨(some 34), (.call false (.val (.lit (.func (.func 141) #[] #[]))) [(.tmp 33)]), none, 0⟩, ⟨(some 11), (.mv (.tmp 34)), none, 0⟩])
 (.seq (.seq (.reg 0 [⟨(some 35), (.mv (.tmp 11)), none, 0⟩, ⟨(some 36), (.len (.tmp 35)), none, 0⟩, ⟨(some 37), (.mv (.val (.lit (.int .i64 0)))), none, 0⟩])
 (.block 0 (.loop c83l0)))
 (.seq (.reg 0 [⟨(some 54), (.mv (.tmp 11)), none, 0⟩, ⟨(some 6), (.mv (.tmp 54)), none, 0⟩, ⟨(some 7), (.mv (.val (.lit (.int .i64 0)))), none, 0⟩])
 .ret)))))))
theorem e83 : envOf Try.prog muts 83 = some (55, c83, [(Go.Abs.ARes.tmp 6), (Go.Abs.ARes.tmp 7)]) := by kernel_rfl
def c89l0 : ACode :=
 (.seq (.reg 0 [⟨(some 18), (.bin .lss (.tmp 17) (.tmp 16)), none, 0⟩])
 (.seq (.cond (.tmp 18) .skip (.exit 1))
 (.seq (.block 2 (.seq (.reg 1 [⟨(some 19), (.iaddrS 4 (.tmp 15) (.tmp 17)), none, 0⟩, ⟨(some 20), (.load 4 true (.tmp 19)), none, 0⟩, ⟨(some 6), (.alloc [(.lit (.int .i64 0)), (.lit (.int .i64 0)), (.lit (.int .i64 0)), (.lit (.int .i64 0))]), none, 0⟩, ⟨none, (.store 4 (.tmp 6) (.tmp 20)), none, 1⟩])
 (.block 3 (.seq (.reg 0 [⟨(some 22), (.faddr 0 (.tmp 6)), none, 0⟩, ⟨(some 23), (.load 1 false (.tmp 22)), none, 0⟩, ⟨(some 24), (.mv (.tmp 0)), none, 0⟩, ⟨(some 25), (.bin .sub (.tmp 24) (.val (.lit (.int .i64 1)))), none, 0⟩, ⟨(some 26), (.call false (.val (.lit (.func (.func 92) #[] #[]))) [(.tmp 23), (.val (.lit (.int .i64 0))), (.tmp 25)]), none, 0⟩, ⟨(some 27), (.not (.tmp 26)), none, 0⟩, ⟨(some 28), (.mv (.tmp 27)), none, 0⟩, ⟨(some 29), (.faddr 1 (.tmp 6)), (some (28, false)), 0⟩, ⟨(some 30), (.load 1 false (.tmp 29)), (some (28, false)), 0⟩, ⟨(some 31), (.mv (.tmp 0)), (some (28, false)), 0⟩, ⟨(some 32), (.bin .sub (.tmp 31) (.val (.lit (.int .i64 1)))), (some (28, false)), 0⟩, ⟨(some 33), (.call false (.val (.lit (.func (.func 92) #[] #[]))) [(.tmp 30), (.val (.lit (.int .i64 0))), (.tmp 32)]), (some (28, false)), 0⟩, ⟨(some 34), (.not (.tmp 33)), (some (28, false)), 0⟩, ⟨(some 35), (.pick (.tmp 28) (.val (.lit (.bool true))) (.tmp 34)), none, 0⟩, ⟨(some 21), (.mv (.tmp 35)), none, 0⟩])
 (.cond (.tmp 21) (.seq (.reg 0 [⟨(some 4), (.mv (.val (.lit (.int .i64 6)))), none, 0⟩])
 .ret) (.seq (.reg 0 [⟨(some 37), (.faddr 0 (.tmp 6)), none, 0⟩, ⟨(some 38), (.load 1 false (.tmp 37)), none, 0⟩, ⟨(some 39), (.faddr 1 (.tmp 6)), none, 0⟩, ⟨(some 40), (.load 1 false (.tmp 39)), none, 0⟩, ⟨(some 41), (.bin .eql (.tmp 38) (.tmp 40)), none, 0⟩, ⟨(some 36), (.mv (.tmp 41)), none, 0⟩])
 (.cond (.tmp 36) (.seq (.reg 0 [⟨(some 4), (.mv (.val (.lit (.int .i64 3)))), none, 0⟩])
 .ret) (.seq (.reg 0 [⟨(some 43), (.faddr 2 (.tmp 6)), none, 0⟩, ⟨(some 44), (.faddr 0 (.tmp 43)), none, 0⟩, ⟨(some 45), (.load 1 false (.tmp 44)), none, 0⟩, ⟨(some 46), (.call false (.val (.lit (.func (.func 92) #[] #[]))) [(.tmp 45), (.val (.lit (.int .i64 (-1000000)))), (.val (.lit (.int .i64 1000000)))]), none, 0⟩, ⟨(some 47), (.not (.tmp 46)), none, 0⟩, ⟨(some 48), (.mv (.tmp 47)), none, 0⟩, ⟨(some 49), (.faddr 2 (.tmp 6)), (some (48, false)), 0⟩, ⟨(some 50), (.faddr 1 (.tmp 49)), (some (48, false)), 0⟩, ⟨(some 51), (.load 1 false (.tmp 50)), (some (48, false)), 0⟩, ⟨(some 52), (.call false (.val (.lit (.func (.func 92) #[] #[]))) [(.tmp 51), (.val (.lit (.int .i64 (-1000000)))), (.val (.lit (.int .i64 1000000)))]), (some (48, false)), 0⟩, ⟨(some 53), (.not (.tmp 52)), (some (48, false)), 0⟩, ⟨(some 54), (.pick (.tmp 48) (.val (.lit (.bool true))) (.tmp 53)), none, 0⟩, ⟨(some 42), (.mv (.tmp 54)), none, 0⟩])
 (.cond (.tmp 42) (.seq (.reg 0 [⟨(some 4), (.mv (.val (.lit (.int .i64 2)))), none, 0⟩])
 .ret) (.seq (.reg 0 [⟨(some 56), (.faddr 2 (.tmp 6)), none, 0⟩, ⟨(some 57), (.faddr 0 (.tmp 56)), none, 0⟩, ⟨(some 58), (.load 1 false (.tmp 57)), none, 0⟩, ⟨(some 59), (.faddr 2 (.tmp 6)), none, 0⟩, ⟨(some 60), (.faddr 1 (.tmp 59)), none, 0⟩, ⟨(some 61), (.load 1 false (.tmp 60)), none, 0⟩, ⟨(some 62), (.bin .gtr (.tmp 58) (.tmp 61)), none, 0⟩, ⟨(some 55), (.mv (.tmp 62)), none, 0⟩])
 (.cond (.tmp 55) (.seq (.reg 0 [⟨(some 4), (.mv (.val (.lit (.int .i64 9)))), none, 0⟩])
 .ret) .skip)))))))))))
 (.reg 0 [⟨(some 63), (.bin .add (.tmp 17) (.val (.lit (.int .i64 1)))), none, 0⟩, ⟨(some 17), (.mv (.tmp 63)), none, 0⟩]))))
def c89 : ACode :=
 (.seq (.reg 0 [⟨(some 4), (.mv (.val (.lit (.int .i64 0)))), none, 0⟩])
 (.seq (.block 0 (.seq (.reg 0 [⟨(some 8), (.mv (.tmp 0)), none, 0⟩, ⟨(some 9), (.call false (.val (.lit (.func (.func 92) #[] #[]))) [(.tmp 8), (.val (.lit (.int .i64 1))), (.val (.lit (.int .i64 40)))]), none, 0⟩, ⟨(some 10), (.not (.tmp 9)), none, 0⟩, ⟨(some 7), (.mv (.tmp 10)), none, 0⟩])
 (.cond (.tmp 7) (.seq (.reg 0 [⟨(some 4), (.mv (.val (.lit (.int .i64 2)))), none, 0⟩])
 .ret) (.seq (.reg 0 [⟨(some 12), (.mv (.tmp 1)), none, 0⟩, ⟨(some 13), (.len (.tmp 12)), none, 0⟩, ⟨(some 14), (.bin .gtr (.tmp 13) (.val (.lit (.int .i64 100)))), none, 0⟩, ⟨(some 11), (.mv (.tmp 14)), none, 0⟩])
 (.cond (.tmp 11) (.seq (.reg 0 [⟨(some 4), (.mv (.val (.lit (.int .i64 8)))), none, 0⟩])
 .ret) .skip)))))
 (.seq (.seq (.reg 0 [⟨(some 15), (.mv (.tmp 1)), none, 0⟩, ⟨(some 16), (.len (.tmp 15)), none, 0⟩, ⟨(some 17), (.mv (.val (.lit (.int .i64 0)))), none, 0⟩])
 (.block 1 (.loop c89l0)))
 (.seq (.reg 0 [⟨(some 4), (.mv (.val (.lit (.int .i64 0)))), none, 0⟩])
 .ret))))
theorem e89 : envOf Try.prog muts 89 = some (64, c89, [(Go.Abs.ARes.tmp 4)]) := by kernel_rfl
def c95l0 : ACode :=
 (.seq (.reg 0 [⟨(some 27), (.bin .lss (.tmp 26) (.tmp 25)), none, 0⟩])
 (.seq (.cond (.tmp 27) .skip (.exit 2))
 (.seq (.block 3 (.seq (.reg 1 [⟨(some 28), (.iaddrS 4 (.tmp 24) (.tmp 26)), none, 0⟩, ⟨(some 29), (.load 4 true (.tmp 28)), none, 0⟩, ⟨(some 10), (.alloc [(.lit (.int .i64 0)), (.lit (.int .i64 0)), (.lit (.int .i64 0)), (.lit (.int .i64 0))]), none, 0⟩, ⟨none, (.store 4 (.tmp 10) (.tmp 29)), none, 1⟩])
 (.seq (.dreg 0 [(0, ⟨(some 30), (.mv (.tmp 6)), none, 0⟩), (1, ⟨(some 31), (.faddr 0 (.tmp 10)), none, 0⟩), (2, ⟨(some 32), (.load 1 false (.tmp 31)), none, 0⟩), (3, ⟨(some 33), (.iaddrS 1 (.tmp 30) (.tmp 32)), none, 0⟩), (4, ⟨(some 34), (.load 1 false (.tmp 33)), none, 0⟩), (5, ⟨(some 35), (.faddr 2 (.tmp 10)), none, 0⟩), (6, ⟨(some 36), (.load 1 false (.tmp 35)), none, 0⟩), (7, ⟨(some 37), (.bin .add (.tmp 34) (.tmp 36)), none, 0⟩), (8, ⟨(some 11), (.mv (.tmp 37)), none, 0⟩)] [[], [], [1], [0, 2, 1], [3, 0, 2, 1], [], [5], [4, 6, 3, 0, 2, 1, 5], [7, 0, 1, 2, 3, 4, 5, 6]])
 (.seq (.reg 0 [⟨(some 38), (.mv (.tmp 11)), none, 0⟩, ⟨(some 39), (.mv (.tmp 6)), none, 0⟩, ⟨(some 40), (.faddr 1 (.tmp 10)), none, 0⟩, ⟨(some 41), (.load 1 false (.tmp 40)), none, 0⟩, ⟨(some 42), (.iaddrS 1 (.tmp 39) (.tmp 41)), none, 0⟩, ⟨(some 43), (.load 1 false (.tmp 42)), none, 0⟩, ⟨(some 44), (.bin .lss (.tmp 38) (.tmp 43)), none, 0⟩])
 (.cond (.tmp 44) (.dreg 0 [(0, ⟨(some 45), (.mv (.tmp 6)), none, 0⟩), (1, ⟨(some 46), (.faddr 1 (.tmp 10)), none, 0⟩), (2, ⟨(some 47), (.load 1 false (.tmp 46)), none, 0⟩), (3, ⟨(some 48), (.mv (.tmp 7)), none, 0⟩), (4, ⟨(some 49), (.faddr 1 (.tmp 10)), none, 0⟩), (5, ⟨(some 50), (.load 1 false (.tmp 49)), none, 0⟩), (6, ⟨(some 51), (.mv (.tmp 11)), none, 0⟩), (7, ⟨(some 52), (.load 4 true (.tmp 10)), none, 0⟩), (8, ⟨(some 53), (.faddr 1 (.tmp 10)), none, 0⟩), (9, ⟨(some 54), (.load 1 false (.tmp 53)), none, 0⟩), (10, ⟨(some 55), (.iaddrS 1 (.tmp 45) (.tmp 47)), none, 0⟩), (11, ⟨none, (.store 1 (.tmp 55) (.tmp 51)), none, 0⟩), (12, ⟨(some 56), (.iaddrS 4 (.tmp 48) (.tmp 50)), none, 0⟩), (13, ⟨none, (.store 4 (.tmp 56) (.tmp 52)), none, 0⟩), (14, ⟨(some 8), (.mv (.tmp 54)), none, 0⟩)] [[], [], [1], [], [], [4], [], [], [], [8], [0, 2, 1, 6], [10, 6, 0, 1, 2], [3, 5, 0, 1, 2, 4, 6, 7, 10, 11], [12, 7, 11, 0, 1, 2, 3, 4, 5, 6, 10], [9, 13, 0, 1, 2, 3, 4, 5, 6, 7, 8, 10, 11, 12]]) .skip)))))
 (.reg 0 [⟨(some 57), (.bin .add (.tmp 26) (.val (.lit (.int .i64 1)))), none, 0⟩, ⟨(some 26), (.mv (.tmp 57)), none, 0⟩]))))
def c95l1 : ACode :=
 (.seq (.reg 0 [⟨(some 23), (.bin .lss (.tmp 22) (.tmp 21)), none, 0⟩])
 (.seq (.cond (.tmp 23) .skip (.exit 0))
 (.seq (.block 1 (.seq (.reg 0 [⟨(some 8), (.mv (.val (.lit (.int .i64 (-1))))), none, 0⟩])
 (.seq (.seq (.reg 0 [⟨(some 24), (.mv (.tmp 5)), none, 0⟩, ⟨(some 25), (.len (.tmp 24)), none, 0⟩, ⟨(some 26), (.mv (.val (.lit (.int .i64 0)))), none, 0⟩])
 (.block 2 (.loop c95l0)))
 (.seq (.reg 0 [⟨(some 58), (.mv (.tmp 8)), none, 0⟩, ⟨(some 59), (.bin .lss (.tmp 58) (.val (.lit (.int .i64 0)))), none, 0⟩])
 (.cond (.tmp 59) (.seq (.reg 0 [⟨(some 4), (.mv (.val (.sl true 0 []))), none, 0⟩])
 .ret) .skip)))))
 (.reg 0 [⟨(some 60), (.bin .add (.tmp 22) (.val (.lit (.int .i64 1)))), none, 0⟩, ⟨(some 22), (.mv (.tmp 60)), none, 0⟩]))))
def c95l2 : ACode :=
 (.seq (.reg 0 [⟨(some 63), (.bin .lss (.tmp 62) (.tmp 61)), none, 0⟩])
 (.seq (.cond (.tmp 63) .skip (.exit 4))
 (.seq (.block 5 (.reg 0 [⟨(some 64), (.mv (.tmp 7)), none, 0⟩, ⟨(some 65), (.mv (.tmp 8)), none, 0⟩, ⟨(some 66), (.iaddrS 4 (.tmp 64) (.tmp 65)), none, 0⟩, ⟨(some 67), (.faddr 0 (.tmp 66)), none, 0⟩, ⟨(some 68), (.load 1 false (.tmp 67)), none, 0⟩, ⟨(some 8), (.mv (.tmp 68)), none, 0⟩]))
 (.reg 0 [⟨(some 69), (.bin .add (.tmp 62) (.val (.lit (.int .i64 1)))), none, 0⟩, ⟨(some 62), (.mv (.tmp 69)), none, 0⟩]))))
def c95l3 : ACode :=
 (.seq (.seq (.reg 0 [⟨(some 71), (.mv (.tmp 12)), none, 0⟩, ⟨(some 72), (.len (.tmp 71)), none, 0⟩, ⟨(some 73), (.bin .eql (.tmp 72) (.val (.lit (.int .i64 0)))), none, 0⟩, ⟨(some 74), (.mv (.tmp 73)), none, 0⟩, ⟨(some 75), (.mv (.tmp 13)), (some (74, false)), 0⟩, ⟨(some 76), (.mv (.tmp 8)), (some (74, false)), 0⟩, ⟨(some 77), (.bin .neq (.tmp 75) (.tmp 76)), (some (74, false)), 0⟩, ⟨(some 78), (.pick (.tmp 74) (.val (.lit (.bool true))) (.tmp 77)), none, 0⟩])
 (.cond (.tmp 78) .skip (.exit 6)))
 (.seq (.block 7 (.reg 2 [⟨(some 84), (.mv (.tmp 12)), none, 0⟩, ⟨(some 85), (.mv (.tmp 7)), none, 0⟩, ⟨(some 86), (.mv (.tmp 13)), none, 0⟩, ⟨(some 87), (.iaddrS 4 (.tmp 85) (.tmp 86)), none, 0⟩, ⟨(some 88), (.faddr 3 (.tmp 87)), none, 0⟩, ⟨(some 89), (.load 1 false (.tmp 88)), none, 0⟩, ⟨(some 90), (.bslice 1 1 [(.lit (.int .i64 0))] [(0, (.tmp 89))]), none, 0⟩, ⟨(some 91), (.app 1 8 (.tmp 84) (.tmp 90)), none, 1⟩, ⟨(some 12), (.mv (.tmp 91)), none, 2⟩]))
 (.reg 0 [⟨(some 79), (.mv (.tmp 7)), none, 0⟩, ⟨(some 80), (.mv (.tmp 13)), none, 0⟩, ⟨(some 81), (.iaddrS 4 (.tmp 79) (.tmp 80)), none, 0⟩, ⟨(some 82), (.faddr 0 (.tmp 81)), none, 0⟩, ⟨(some 83), (.load 1 false (.tmp 82)), none, 0⟩, ⟨(some 13), (.mv (.tmp 83)), none, 0⟩])))
def c95 : ACode :=
 (.seq (.reg 0 [⟨(some 4), (.mv (.val (.sl true 0 []))), none, 0⟩])
 (.seq (.reg 0 [⟨(some 14), (.mv (.tmp 1)), none, 0⟩, ⟨(some 15), (.call false (.val (.lit (.func (.func 116) #[] #[]))) [(.tmp 14)]), none, 0⟩, ⟨(some 5), (.mv (.tmp 15)), none, 0⟩])
 (.seq (.dreg 2 [(0, ⟨(some 16), (.mv (.tmp 0)), none, 0⟩), (1, ⟨(some 17), (.mks 1 8 [(.lit (.int .i64 0))] (.tmp 16) (.tmp 16)), none, 0⟩), (2, ⟨(some 18), (.mv (.tmp 0)), none, 1⟩), (3, ⟨(some 19), (.mks 4 32 [(.lit (.int .i64 0)), (.lit (.int .i64 0)), (.lit (.int .i64 0)), (.lit (.int .i64 0))] (.tmp 18) (.tmp 18)), none, 1⟩), (4, ⟨(some 6), (.mv (.tmp 17)), none, 2⟩), (5, ⟨(some 7), (.mv (.tmp 19)), none, 2⟩)] [[], [0], [], [2], [1, 0], [3, 4, 0, 1, 2]])
 (.seq (.reg 0 [⟨(some 8), (.mv (.val (.lit (.int .i64 (-1))))), none, 0⟩])
 (.seq (.seq (.reg 0 [⟨(some 20), (.mv (.tmp 0)), none, 0⟩, ⟨(some 21), (.bin .add (.tmp 20) (.val (.lit (.int .i64 1)))), none, 0⟩, ⟨(some 22), (.mv (.val (.lit (.int .i64 0)))), none, 0⟩])
 (.block 0 (.loop c95l1)))
 (.seq (.seq (.reg 0 [⟨(some 61), (.mv (.tmp 0)), none, 0⟩, ⟨(some 62), (.mv (.val (.lit (.int .i64 0)))), none, 0⟩])
 (.block 4 (.loop c95l2)))
 (.seq (.reg 0 [⟨(some 12), (.mv (.val (.sl true 0 []))), none, 0⟩])
 (.seq (.seq (.reg 0 [⟨(some 70), (.mv (.tmp 8)), none, 0⟩, ⟨(some 13), (.mv (.tmp 70)), none, 0⟩])
 (.block 6 (.loop c95l3)))
 (.seq (.reg 0 [⟨(some 92), (.mv (.tmp 12)), none, 0⟩, ⟨(some 93), (.call true (.val (.lit (.func (.func 131) #[] #[]))) [(.tmp 92)]), none, 0⟩])
 (.seq (.reg 0 [⟨(some 94), (.mv (.tmp 12)), none, 0⟩, ⟨(some 4), (.mv (.tmp 94)), none, 0⟩])
 .ret))))))))))
theorem e95 : envOf Try.prog muts 95 = some (95, c95, [(Go.Abs.ARes.tmp 4)]) := by kernel_rfl
def c98 : ACode :=
 (.seq (.reg 1 [⟨(some 6), (.alloc [(.lit (.int .i64 0)), (.lit (.int .i64 0))]), none, 0⟩])
 (.seq (.dreg 0 [(0, ⟨(some 7), (.mv (.tmp 0)), none, 0⟩), (1, ⟨(some 8), (.mv (.tmp 2)), none, 0⟩), (2, ⟨(some 9), (.iaddrS 1 (.tmp 7) (.tmp 8)), none, 0⟩), (3, ⟨(some 10), (.load 1 false (.tmp 9)), none, 0⟩), (4, ⟨(some 11), (.mv (.tmp 1)), none, 0⟩), (5, ⟨(some 12), (.iaddrS 1 (.tmp 10) (.tmp 11)), none, 0⟩), (6, ⟨(some 13), (.load 1 false (.tmp 12)), none, 0⟩), (7, ⟨(some 14), (.neg (.tmp 13)), none, 0⟩), (8, ⟨(some 15), (.mv (.tmp 0)), none, 0⟩), (9, ⟨(some 16), (.mv (.tmp 1)), none, 0⟩), (10, ⟨(some 17), (.iaddrS 1 (.tmp 15) (.tmp 16)), none, 0⟩), (11, ⟨(some 18), (.load 1 false (.tmp 17)), none, 0⟩), (12, ⟨(some 19), (.mv (.tmp 2)), none, 0⟩), (13, ⟨(some 20), (.iaddrS 1 (.tmp 18) (.tmp 19)), none, 0⟩), (14, ⟨(some 21), (.load 1 false (.tmp 20)), none, 0⟩), (15, ⟨(some 22), (.build [(.lit (.int .i64 0)), (.lit (.int .i64 0))] [(0, (1, (.tmp 14))), (1, (1, (.tmp 21)))]), none, 0⟩), (16, ⟨none, (.store 2 (.tmp 6) (.tmp 22)), none, 0⟩)] [[], [], [0, 1], [2, 0, 1], [], [3, 4, 2, 0, 1], [5, 3, 4, 2, 0, 1], [6, 5, 3, 4, 2, 0, 1], [], [], [8, 9], [10, 8, 9], [], [11, 12, 10, 8, 9], [13, 11, 12, 10, 8, 9], [7, 14, 6, 5, 3, 4, 2, 0, 1, 13, 11, 12, 10, 8, 9], [15, 0, 1, 2, 3, 4, 5, 6, 7, 8, 9, 10, 11, 12, 13, 14]])
 .ret))
theorem e98 : envOf Try.prog muts 98 = some (23, c98, [(Go.Abs.ARes.cell 2 true 6)]) := by kernel_rfl
def c116l0 : ACode :=
 (.seq (.reg 0 [⟨(some 9), (.bin .lss (.tmp 8) (.tmp 7)), none, 0⟩])
 (.seq (.cond (.tmp 9) .skip (.exit 0))
 (.seq (.block 1 (.seq (.reg 1 [⟨(some 10), (.mv (.tmp 8)), none, 0⟩, ⟨(some 11), (.iaddrS 4 (.tmp 6) (.tmp 8)), none, 0⟩, ⟨(some 12), (.load 4 true (.tmp 11)), none, 0⟩, ⟨(some 5), (.alloc [(.lit (.int .i64 0)), (.lit (.int .i64 0)), (.lit (.int .i64 0)), (.lit (.int .i64 0))]), none, 0⟩, ⟨(some 4), (.mv (.tmp 10)), none, 1⟩, ⟨none, (.store 4 (.tmp 5) (.tmp 12)), none, 1⟩])
 (.reg 2 [⟨(some 13), (.mv (.tmp 3)), none, 0⟩, ⟨(some 14), (.faddr 0 (.tmp 5)), none, 0⟩, ⟨(some 15), (.load 1 false (.tmp 14)), none, 0⟩, ⟨(some 16), (.faddr 1 (.tmp 5)), none, 0⟩, ⟨(some 17), (.load 1 false (.tmp 16)), none, 0⟩, ⟨(some 18), (.faddr 2 (.tmp 5)), none, 0⟩, ⟨(some 19), (.faddr 1 (.tmp 18)), none, 0⟩, ⟨(some 20), (.load 1 false (.tmp 19)), none, 0⟩, ⟨(some 21), (.mv (.tmp 4)), none, 0⟩, ⟨(some 22), (.bin .add (.tmp 21) (.val (.lit (.int .i64 1)))), none, 0⟩, ⟨(some 23), (.build [(.lit (.int .i64 0)), (.lit (.int .i64 0)), (.lit (.int .i64 0)), (.lit (.int .i64 0))] [(0, (1, (.tmp 15))), (1, (1, (.tmp 17))), (2, (1, (.tmp 20))), (3, (1, (.tmp 22)))]), none, 0⟩, ⟨(some 24), (.faddr 1 (.tmp 5)), none, 0⟩, ⟨(some 25), (.load 1 false (.tmp 24)), none, 0⟩, ⟨(some 26), (.faddr 0 (.tmp 5)), none, 0⟩, ⟨(some 27), (.load 1 false (.tmp 26)), none, 0⟩, ⟨(some 28), (.faddr 2 (.tmp 5)), none, 0⟩, ⟨(some 29), (.faddr 0 (.tmp 28)), none, 0⟩, ⟨(some 30), (.load 1 false (.tmp 29)), none, 0⟩, ⟨(some 31), (.neg (.tmp 30)), none, 0⟩, ⟨(some 32), (.mv (.tmp 4)), none, 0⟩, ⟨(some 33), (.neg (.tmp 32)), none, 0⟩, ⟨(some 34), (.bin .sub (.tmp 33) (.val (.lit (.int .i64 1)))), none, 0⟩, ⟨(some 35), (.build [(.lit (.int .i64 0)), (.lit (.int .i64 0)), (.lit (.int .i64 0)), (.lit (.int .i64 0))] [(0, (1, (.tmp 25))), (1, (1, (.tmp 27))), (2, (1, (.tmp 31))), (3, (1, (.tmp 34)))]), none, 0⟩, ⟨(some 36), (.bslice 4 2 [(.lit (.int .i64 0)), (.lit (.int .i64 0)), (.lit (.int .i64 0)), (.lit (.int .i64 0))] [(0, (.tmp 23)), (1, (.tmp 35))]), none, 0⟩, ⟨(some 37), (.app 4 32 (.tmp 13) (.tmp 36)), none, 1⟩, ⟨(some 3), (.mv (.tmp 37)), none, 2⟩])))
 (.reg 0 [⟨(some 38), (.bin .add (.tmp 8) (.val (.lit (.int .i64 1)))), none, 0⟩, ⟨(some 8), (.mv (.tmp 38)), none, 0⟩]))))
def c116 : ACode :=
 (.seq (.reg 0 [⟨(some 2), (.mv (.val (.sl true 0 []))), none, 0⟩])
 (.seq (.reg 0 [⟨(some 3), (.mv (.val (.sl true 0 []))), none, 0⟩])
 (.seq (.seq (.reg 0 [⟨(some 6), (.mv (.tmp 0)), none, 0⟩, ⟨(some 7), (.len (.tmp 6)), none, 0⟩, ⟨(some 8), (.mv (.val (.lit (.int .i64 0)))), none, 0⟩])
 (.block 0 (.loop c116l0)))
 (.seq (.reg 0 [⟨(some 39), (.mv (.tmp 3)), none, 0⟩, ⟨(some 2), (.mv (.tmp 39)), none, 0⟩])
 .ret))))
theorem e116 : envOf Try.prog muts 116 = some (40, c116, [(Go.Abs.ARes.tmp 2)]) := by kernel_rfl
def c131l0 : ACode :=
 (.seq (.seq (.reg 0 [⟨(some 7), (.mv (.tmp 2)), none, 0⟩, ⟨(some 8), (.mv (.tmp 3)), none, 0⟩, ⟨(some 9), (.bin .lss (.tmp 7) (.tmp 8)), none, 0⟩])
 (.cond (.tmp 9) .skip (.exit 0)))
 (.seq (.block 1 (.dreg 0 [(0, ⟨(some 14), (.mv (.tmp 0)), none, 0⟩), (1, ⟨(some 15), (.mv (.tmp 2)), none, 0⟩), (2, ⟨(some 16), (.mv (.tmp 0)), none, 0⟩), (3, ⟨(some 17), (.mv (.tmp 3)), none, 0⟩), (4, ⟨(some 18), (.mv (.tmp 0)), none, 0⟩), (5, ⟨(some 19), (.mv (.tmp 3)), none, 0⟩), (6, ⟨(some 20), (.iaddrS 1 (.tmp 18) (.tmp 19)), none, 0⟩), (7, ⟨(some 21), (.load 1 false (.tmp 20)), none, 0⟩), (8, ⟨(some 22), (.mv (.tmp 0)), none, 0⟩), (9, ⟨(some 23), (.mv (.tmp 2)), none, 0⟩), (10, ⟨(some 24), (.iaddrS 1 (.tmp 22) (.tmp 23)), none, 0⟩), (11, ⟨(some 25), (.load 1 false (.tmp 24)), none, 0⟩), (12, ⟨(some 26), (.iaddrS 1 (.tmp 14) (.tmp 15)), none, 0⟩), (13, ⟨none, (.store 1 (.tmp 26) (.tmp 21)), none, 0⟩), (14, ⟨(some 27), (.iaddrS 1 (.tmp 16) (.tmp 17)), none, 0⟩), (15, ⟨none, (.store 1 (.tmp 27) (.tmp 25)), none, 0⟩)] [[], [], [], [], [], [], [4, 5], [6, 4, 5], [], [], [8, 9], [10, 8, 9], [0, 1, 4, 5, 6, 7, 11, 10, 8, 9], [12, 7, 0, 1, 4, 5, 6, 11, 10, 8, 9], [2, 3, 0, 1, 4, 5, 6, 7, 8, 9, 10, 11, 12, 13], [14, 11, 13, 0, 1, 2, 3, 4, 5, 6, 7, 8, 9, 10, 12]]))
 (.reg 0 [⟨(some 10), (.mv (.tmp 2)), none, 0⟩, ⟨(some 11), (.bin .add (.tmp 10) (.val (.lit (.int .i64 1)))), none, 0⟩, ⟨(some 12), (.mv (.tmp 3)), none, 0⟩, ⟨(some 13), (.bin .sub (.tmp 12) (.val (.lit (.int .i64 1)))), none, 0⟩, ⟨(some 2), (.mv (.tmp 11)), none, 0⟩, ⟨(some 3), (.mv (.tmp 13)), none, 0⟩])))
def c131 : ACode :=
 (.seq (.reg 0 [⟨(some 4), (.mv (.tmp 0)), none, 0⟩, ⟨(some 5), (.len (.tmp 4)), none, 0⟩, ⟨(some 6), (.bin .sub (.tmp 5) (.val (.lit (.int .i64 1)))), none, 0⟩, ⟨(some 2), (.mv (.val (.lit (.int .i64 0)))), none, 0⟩, ⟨(some 3), (.mv (.tmp 6)), none, 0⟩])
 (.block 0 (.loop c131l0)))
theorem e131 : envOf Try.prog muts 131 = some (28, c131, []) := by kernel_rfl
def c141 : ACode :=
 (.seq (.reg 0 [⟨(some 2), (.mv (.val (.sl true 0 []))), none, 0⟩])
 (.seq (.seq (.reg 0 [⟨(some 3), (.mv (.tmp 0)), none, 0⟩, ⟨(some 4), (.eqNil false (.tmp 3)), none, 0⟩])
 (.cond (.tmp 4) (.seq (.reg 0 [⟨(some 2), (.mv (.val (.sl true 0 []))), none, 0⟩])
 .ret) .skip))
 (.seq (.reg 2 [⟨(some 5), (.bslice 1 0 [(.lit (.int .i64 0))] []), none, 0⟩, ⟨(some 6), (.mv (.tmp 0)), none, 1⟩, ⟨(some 7), (.app 1 8 (.tmp 5) (.tmp 6)), none, 1⟩, ⟨(some 2), (.mv (.tmp 7)), none, 2⟩])
 .ret)))
theorem e141 : envOf Try.prog muts 141 = some (8, c141, [(Go.Abs.ARes.tmp 2)]) := by kernel_rfl
def c30l0 : ACode :=
 (.seq (.seq (.reg 0 [⟨(some 14), (.mv (.tmp 8)), none, 0⟩, ⟨(some 15), (.mv (.tmp 0)), none, 0⟩, ⟨(some 16), (.bin .lss (.tmp 14) (.tmp 15)), none, 0⟩])
 (.cond (.tmp 16) .skip (.exit 0)))
 (.seq (.block 1 (.seq (.reg 0 [⟨(some 19), (.mv (.tmp 2)), none, 0⟩, ⟨(some 20), (.mv (.tmp 8)), none, 0⟩, ⟨(some 21), (.iaddrS 1 (.tmp 19) (.tmp 20)), none, 0⟩, ⟨(some 22), (.load 1 false (.tmp 21)), none, 0⟩, ⟨(some 23), (.call false (.val (.lit (.func (.func 32) #[] #[]))) [(.tmp 22), (.val (.lit (.int .i64 (-100000000)))), (.val (.lit (.int .i64 100000000)))]), none, 0⟩, ⟨(some 24), (.not (.tmp 23)), none, 0⟩])
 (.cond (.tmp 24) (.seq (.reg 0 [⟨(some 6), (.mv (.val (.lit (.int .i64 0)))), none, 0⟩, ⟨(some 7), (.mv (.val (.lit (.int .i64 2)))), none, 0⟩])
 .ret) .skip)))
 (.reg 0 [⟨(some 17), (.mv (.tmp 8)), none, 0⟩, ⟨(some 18), (.bin .add (.tmp 17) (.val (.lit (.int .i64 1)))), none, 0⟩, ⟨(some 8), (.mv (.tmp 18)), none, 0⟩])))
def c30l1 : ACode :=
 (.seq (.seq (.reg 0 [⟨(some 25), (.mv (.tmp 9)), none, 0⟩, ⟨(some 26), (.mv (.tmp 1)), none, 0⟩, ⟨(some 27), (.len (.tmp 26)), none, 0⟩, ⟨(some 28), (.bin .lss (.tmp 25) (.tmp 27)), none, 0⟩])
 (.cond (.tmp 28) .skip (.exit 2)))
 (.seq (.block 3 (.seq (.reg 0 [⟨(some 31), (.mv (.tmp 1)), none, 0⟩, ⟨(some 32), (.mv (.tmp 9)), none, 0⟩, ⟨(some 33), (.iaddrS 4 (.tmp 31) (.tmp 32)), none, 0⟩, ⟨(some 34), (.load 4 true (.tmp 33)), none, 0⟩, ⟨(some 35), (.mv (.tmp 2)), none, 0⟩, ⟨(some 36), (.call false (.val (.lit (.func (.func 94) #[] #[]))) [(.tmp 34), (.tmp 35)]), none, 0⟩, ⟨(some 37), (.not (.tmp 36)), none, 0⟩])
 (.cond (.tmp 37) (.seq (.reg 0 [⟨(some 38), (.mv (.tmp 9)), none, 0⟩, ⟨(some 6), (.mv (.tmp 38)), none, 0⟩, ⟨(some 7), (.mv (.val (.lit (.int .i64 26)))), none, 0⟩])
 .ret) .skip)))
 (.reg 0 [⟨(some 29), (.mv (.tmp 9)), none, 0⟩, ⟨(some 30), (.bin .add (.tmp 29) (.val (.lit (.int .i64 1)))), none, 0⟩, ⟨(some 9), (.mv (.tmp 30)), none, 0⟩])))
def c30 : ACode :=
 (.seq (.reg 0 [⟨(some 6), (.mv (.val (.lit (.int .i64 0)))), none, 0⟩, ⟨(some 7), (.mv (.val (.lit (.int .i64 0)))), none, 0⟩])
 (.seq (.seq (.reg 0 [⟨(some 10), (.mv (.tmp 2)), none, 0⟩, ⟨(some 11), (.len (.tmp 10)), none, 0⟩, ⟨(some 12), (.mv (.tmp 0)), none, 0⟩, ⟨(some 13), (.bin .neq (.tmp 11) (.tmp 12)), none, 0⟩])
 (.cond (.tmp 13) (.seq (.reg 0 [⟨(some 6), (.mv (.val (.lit (.int .i64 0)))), none, 0⟩, ⟨(some 7), (.mv (.val (.lit (.int .i64 10)))), none, 0⟩])
 .ret) .skip))
 (.seq (.seq (.reg 0 [⟨(some 8), (.mv (.val (.lit (.int .i64 0)))), none, 0⟩])
 (.block 0 (.loop c30l0)))
 (.seq (.seq (.reg 0 [⟨(some 9), (.mv (.val (.lit (.int .i64 0)))), none, 0⟩])
 (.block 2 (.loop c30l1)))
 (.seq (.reg 0 [⟨(some 6), (.mv (.val (.lit (.int .i64 0)))), none, 0⟩, ⟨(some 7), (.mv (.val (.lit (.int .i64 0)))), none, 0⟩])
 .ret)))))
theorem e30 : envOf Try.prog muts 30 = some (39, c30, [(Go.Abs.ARes.tmp 6), (Go.Abs.ARes.tmp 7)]) := by kernel_rfl
def c49l0 : ACode :=
 (.seq (.seq (.reg 0 [⟨(some 24), (.mv (.tmp 9)), none, 0⟩, ⟨(some 25), (.mv (.tmp 0)), none, 0⟩, ⟨(some 26), (.bin .lss (.tmp 24) (.tmp 25)), none, 0⟩])
 (.cond (.tmp 26) .skip (.exit 0)))
 (.seq (.block 1 (.seq (.reg 0 [⟨(some 29), (.mv (.tmp 7)), none, 0⟩, ⟨(some 30), (.iaddrS 1 (.tmp 29) (.val (.lit (.int .i64 0)))), none, 0⟩, ⟨(some 31), (.load 1 false (.tmp 30)), none, 0⟩, ⟨(some 32), (.mv (.tmp 9)), none, 0⟩, ⟨(some 33), (.iaddrS 1 (.tmp 31) (.tmp 32)), none, 0⟩, ⟨(some 34), (.load 1 false (.tmp 33)), none, 0⟩, ⟨(some 35), (.bin .geq (.tmp 34) (.val (.lit (.int .i64 1000000000000)))), none, 0⟩])
 (.cond (.tmp 35) (.seq (.reg 0 [⟨(some 4), (.mv (.val (.sl true 0 []))), none, 0⟩, ⟨(some 5), (.mv (.val (.lit (.int .i64 25)))), none, 0⟩])
 .ret) .skip)))
 (.reg 0 [⟨(some 27), (.mv (.tmp 9)), none, 0⟩, ⟨(some 28), (.bin .add (.tmp 27) (.val (.lit (.int .i64 1)))), none, 0⟩, ⟨(some 9), (.mv (.tmp 28)), none, 0⟩])))
def c49 : ACode :=
 (.seq (.reg 0 [⟨(some 4), (.mv (.val (.sl true 0 []))), none, 0⟩, ⟨(some 5), (.mv (.val (.lit (.int .i64 0)))), none, 0⟩])
 (.seq (.seq (.reg 0 [⟨(some 10), (.mv (.tmp 0)), none, 0⟩, ⟨(some 11), (.mv (.tmp 1)), none, 0⟩, ⟨(some 12), (.call false (.val (.lit (.func (.func 29) #[] #[]))) [(.tmp 10), (.tmp 11)]), none, 0⟩, ⟨(some 6), (.mv (.tmp 12)), none, 0⟩])
 (.seq (.reg 0 [⟨(some 13), (.mv (.tmp 6)), none, 0⟩, ⟨(some 14), (.bin .neq (.tmp 13) (.val (.lit (.int .i64 0)))), none, 0⟩])
 (.cond (.tmp 14) (.seq (.reg 0 [⟨(some 15), (.mv (.tmp 6)), none, 0⟩, ⟨(some 4), (.mv (.val (.sl true 0 []))), none, 0⟩, ⟨(some 5), (.mv (.tmp 15)), none, 0⟩])
 .ret) .skip)))
 (.seq (.reg 0 [⟨(some 17), (.mv (.tmp 0)), none, 0⟩, ⟨(some 18), (.mv (.tmp 1)), none, 0⟩, ⟨(some 19), (.call false (.val (.lit (.func (.func 70) #[] #[]))) [(.tmp 17), (.tmp 18)]), none, 0⟩, ⟨(some 16), (.mv (.tmp 19)), none, 0⟩, ⟨(some 20), (.ext (.tmp 16) 0), none, 0⟩, ⟨(some 21), (.ext (.tmp 16) 1), none, 0⟩, ⟨(some 7), (.mv (.tmp 20)), none, 0⟩, ⟨(some 8), (.mv (.tmp 21)), none, 0⟩])
 (.seq (.seq (.reg 0 [⟨(some 22), (.mv (.tmp 8)), none, 0⟩, ⟨(some 23), (.not (.tmp 22)), none, 0⟩])
 (.cond (.tmp 23) (.seq (.reg 0 [⟨(some 4), (.mv (.val (.sl true 0 []))), none, 0⟩, ⟨(some 5), (.mv (.val (.lit (.int .i64 13)))), none, 0⟩])
 .ret) .skip))
 (.seq (.seq (.reg 0 [⟨(some 9), (.mv (.val (.lit (.int .i64 0)))), none, 0⟩])
 (.block 0 (.loop c49l0)))
 (.seq (.reg 0 [⟨(some 36), (.mv (.tmp 7)), none, 0⟩, ⟨(some 4), (.mv (.tmp 36)), none, 0⟩, ⟨(some 5), (.mv (.val (.lit (.int .i64 0)))), none, 0⟩])
 .ret))))))
theorem e49 : envOf Try.prog muts 49 = some (37, c49, [(Go.Abs.ARes.tmp 4), (Go.Abs.ARes.tmp 5)]) := by kernel_rfl
def c54 : ACode :=
 (.seq (.reg 2 [⟨(some 5), (.box 2 (.tmp 2)), none, 0⟩, ⟨(some 6), (.alloc [(.lit (.int .i64 0)), (.lit (.int .i64 0))]), none, 1⟩, ⟨(some 7), (.mv (.val (.lit (.int .i64 0)))), none, 2⟩])
 (.seq (.seq (.reg 0 [⟨(some 11), (.mv (.tmp 0)), none, 0⟩, ⟨(some 12), (.mv (.tmp 1)), none, 0⟩, ⟨(some 13), (.load 2 true (.tmp 5)), none, 0⟩, ⟨(some 14), (.call false (.val (.lit (.func (.func 118) #[] #[]))) [(.tmp 11), (.tmp 12), (.tmp 13)]), none, 0⟩, ⟨(some 8), (.mv (.tmp 14)), none, 0⟩])
 (.seq (.reg 0 [⟨(some 15), (.mv (.tmp 8)), none, 0⟩, ⟨(some 16), (.bin .neq (.tmp 15) (.val (.lit (.int .i64 0)))), none, 0⟩])
 (.cond (.tmp 16) (.seq (.reg 0 [⟨(some 17), (.build [(.lit (.int .i64 0)), (.lit (.int .i64 0))] []), none, 0⟩, ⟨(some 18), (.mv (.tmp 8)), none, 0⟩, ⟨none, (.store 2 (.tmp 6) (.tmp 17)), none, 0⟩, ⟨(some 7), (.mv (.tmp 18)), none, 0⟩])
 .ret) .skip)))
 (.seq (.reg 0 [⟨(some 20), (.mv (.tmp 0)), none, 0⟩, ⟨(some 21), (.mv (.tmp 1)), none, 0⟩, ⟨(some 22), (.call false (.val (.lit (.func (.func 119) #[] #[]))) [(.tmp 20), (.tmp 21)]), none, 0⟩, ⟨(some 19), (.mv (.tmp 22)), none, 0⟩, ⟨(some 23), (.ext (.tmp 19) 0), none, 0⟩, ⟨(some 24), (.ext (.tmp 19) 1), none, 0⟩, ⟨(some 9), (.mv (.tmp 23)), none, 0⟩, ⟨(some 10), (.mv (.tmp 24)), none, 0⟩])
 (.seq (.block 0 (.seq (.reg 0 [⟨(some 26), (.mv (.tmp 10)), none, 0⟩, ⟨(some 27), (.bin .neq (.tmp 26) (.val (.lit (.int .i64 0)))), none, 0⟩, ⟨(some 25), (.mv (.tmp 27)), none, 0⟩])
 (.cond (.tmp 25) (.seq (.reg 0 [⟨(some 28), (.build [(.lit (.int .i64 0)), (.lit (.int .i64 0))] []), none, 0⟩, ⟨(some 29), (.mv (.tmp 10)), none, 0⟩, ⟨none, (.store 2 (.tmp 6) (.tmp 28)), none, 0⟩, ⟨(some 7), (.mv (.tmp 29)), none, 0⟩])
 .ret) (.seq (.reg 0 [⟨(some 31), (.mv (.tmp 9)), none, 0⟩, ⟨(some 32), (.iaddrA 2 1 (.tmp 5) (.val (.lit (.int .i64 0)))), none, 0⟩, ⟨(some 33), (.load 1 false (.tmp 32)), none, 0⟩, ⟨(some 34), (.iaddrA 2 1 (.tmp 5) (.val (.lit (.int .i64 1)))), none, 0⟩, ⟨(some 35), (.load 1 false (.tmp 34)), none, 0⟩, ⟨(some 36), (.call false (.val (.lit (.func (.func 120) #[] #[]))) [(.tmp 31), (.tmp 33), (.tmp 35)]), none, 0⟩, ⟨(some 37), (.not (.tmp 36)), none, 0⟩, ⟨(some 30), (.mv (.tmp 37)), none, 0⟩])
 (.cond (.tmp 30) (.seq (.reg 0 [⟨(some 38), (.build [(.lit (.int .i64 0)), (.lit (.int .i64 0))] []), none, 0⟩, ⟨none, (.store 2 (.tmp 6) (.tmp 38)), none, 0⟩, ⟨(some 7), (.mv (.val (.lit (.int .i64 25)))), none, 0⟩])
 .ret) .skip)))))
 (.seq (.reg 0 [⟨(some 39), (.mv (.tmp 9)), none, 0⟩, ⟨(some 40), (.iaddrA 2 1 (.tmp 5) (.val (.lit (.int .i64 0)))), none, 0⟩, ⟨(some 41), (.load 1 false (.tmp 40)), none, 0⟩, ⟨(some 42), (.iaddrA 2 1 (.tmp 5) (.val (.lit (.int .i64 1)))), none, 0⟩, ⟨(some 43), (.load 1 false (.tmp 42)), none, 0⟩, ⟨(some 44), (.call false (.val (.lit (.func (.func 98) #[] #[]))) [(.tmp 39), (.tmp 41), (.tmp 43)]), none, 0⟩, ⟨none, (.store 2 (.tmp 6) (.tmp 44)), none, 0⟩, ⟨(some 7), (.mv (.val (.lit (.int .i64 0)))), none, 0⟩])
 .ret)))))
theorem e54 : envOf Try.prog muts 54 = some (45, c54, [(Go.Abs.ARes.cell 2 true 6), (Go.Abs.ARes.tmp 7)]) := by kernel_rfl
def c91 : ACode :=
 (.seq (.reg 0 [⟨(some 2), (.mv (.val (.lit (.bool false)))), none, 0⟩])
 (.seq (.reg 0 [⟨(some 3), (.mv (.tmp 0)), none, 0⟩, ⟨(some 4), (.call false (.val (.lit (.func (.func 92) #[] #[]))) [(.tmp 3), (.val (.lit (.int .i64 (-100000000)))), (.val (.lit (.int .i64 100000000)))]), none, 0⟩, ⟨(some 5), (.not (.tmp 4)), none, 0⟩, ⟨(some 2), (.mv (.tmp 5)), none, 0⟩])
 .ret))
theorem e91 : envOf Try.prog muts 91 = some (6, c91, [(Go.Abs.ARes.tmp 2)]) := by kernel_rfl
def c94 : ACode :=
 (.seq (.reg 1 [⟨(some 2), (.box 4 (.tmp 0)), none, 0⟩, ⟨(some 4), (.mv (.val (.lit (.bool false)))), none, 1⟩])
 (.seq (.dreg 0 [(0, ⟨(some 5), (.mv (.tmp 1)), none, 0⟩), (1, ⟨(some 6), (.faddr 1 (.tmp 2)), none, 0⟩), (2, ⟨(some 7), (.load 1 false (.tmp 6)), none, 0⟩), (3, ⟨(some 8), (.iaddrS 1 (.tmp 5) (.tmp 7)), none, 0⟩), (4, ⟨(some 9), (.load 1 false (.tmp 8)), none, 0⟩), (5, ⟨(some 10), (.mv (.tmp 1)), none, 0⟩), (6, ⟨(some 11), (.faddr 0 (.tmp 2)), none, 0⟩), (7, ⟨(some 12), (.load 1 false (.tmp 11)), none, 0⟩), (8, ⟨(some 13), (.iaddrS 1 (.tmp 10) (.tmp 12)), none, 0⟩), (9, ⟨(some 14), (.load 1 false (.tmp 13)), none, 0⟩), (10, ⟨(some 15), (.bin .sub (.tmp 9) (.tmp 14)), none, 0⟩), (11, ⟨(some 16), (.faddr 2 (.tmp 2)), none, 0⟩), (12, ⟨(some 17), (.faddr 0 (.tmp 16)), none, 0⟩), (13, ⟨(some 18), (.load 1 false (.tmp 17)), none, 0⟩), (14, ⟨(some 19), (.faddr 2 (.tmp 2)), none, 0⟩), (15, ⟨(some 20), (.faddr 1 (.tmp 19)), none, 0⟩), (16, ⟨(some 21), (.load 1 false (.tmp 20)), none, 0⟩), (17, ⟨(some 22), (.call false (.val (.lit (.func (.func 32) #[] #[]))) [(.tmp 15), (.tmp 18), (.tmp 21)]), none, 0⟩), (18, ⟨(some 4), (.mv (.tmp 22)), none, 0⟩)] [[], [], [1], [0, 2, 1], [3, 0, 2, 1], [], [], [6], [5, 7, 6], [8, 5, 7, 6], [4, 9, 3, 0, 2, 1, 8, 5, 7, 6], [], [11], [12, 11], [], [14], [15, 14], [10, 13, 16, 4, 9, 3, 0, 2, 1, 8, 5, 7, 6, 12, 11, 15, 14], [17, 0, 1, 2, 3, 4, 5, 6, 7, 8, 9, 10, 11, 12, 13, 14, 15, 16]])
 .ret))
theorem e94 : envOf Try.prog muts 94 = some (23, c94, [(Go.Abs.ARes.tmp 4)]) := by kernel_rfl
def c96l0 : ACode :=
 (.seq (.reg 0 [⟨(some 17), (.bin .lss (.tmp 16) (.tmp 15)), none, 0⟩])
 (.seq (.cond (.tmp 17) .skip (.exit 0))
 (.seq (.block 1 (.seq (.reg 0 [⟨(some 18), (.mv (.tmp 16)), none, 0⟩, ⟨(some 6), (.mv (.tmp 18)), none, 0⟩])
 (.seq (.reg 1 [⟨(some 19), (.mv (.tmp 5)), none, 0⟩, ⟨(some 20), (.mv (.tmp 6)), none, 0⟩, ⟨(some 21), (.bslice 1 1 [(.lit (.int .i64 0))] [(0, (.val (.lit (.int .i64 1099511627776))))]), none, 0⟩, ⟨(some 22), (.mv (.tmp 0)), none, 1⟩, ⟨(some 23), (.call false (.val (.lit (.func (.func 143) #[] #[]))) [(.tmp 21), (.tmp 22)]), none, 1⟩, ⟨(some 24), (.iaddrS 1 (.tmp 19) (.tmp 20)), none, 1⟩, ⟨none, (.store 1 (.tmp 24) (.tmp 23)), none, 1⟩])
 (.reg 0 [⟨(some 25), (.mv (.tmp 5)), none, 0⟩, ⟨(some 26), (.mv (.tmp 6)), none, 0⟩, ⟨(some 27), (.iaddrS 1 (.tmp 25) (.tmp 26)), none, 0⟩, ⟨(some 28), (.load 1 false (.tmp 27)), none, 0⟩, ⟨(some 29), (.mv (.tmp 6)), none, 0⟩, ⟨(some 30), (.iaddrS 1 (.tmp 28) (.tmp 29)), none, 0⟩, ⟨none, (.store 1 (.tmp 30) (.val (.lit (.int .i64 0)))), none, 0⟩]))))
 (.reg 0 [⟨(some 31), (.bin .add (.tmp 16) (.val (.lit (.int .i64 1)))), none, 0⟩, ⟨(some 16), (.mv (.tmp 31)), none, 0⟩]))))
def c96l1 : ACode :=
 (.seq (.reg 0 [⟨(some 36), (.bin .lss (.tmp 35) (.tmp 34)), none, 0⟩])
 (.seq (.cond (.tmp 36) .skip (.exit 2))
 (.seq (.block 3 (.seq (.reg 1 [⟨(some 37), (.iaddrS 4 (.tmp 33) (.tmp 35)), none, 0⟩, ⟨(some 38), (.load 4 true (.tmp 37)), none, 0⟩, ⟨(some 8), (.alloc [(.lit (.int .i64 0)), (.lit (.int .i64 0)), (.lit (.int .i64 0)), (.lit (.int .i64 0))]), none, 0⟩, ⟨none, (.store 4 (.tmp 8) (.tmp 38)), none, 1⟩])
 (.dreg 0 [(0, ⟨(some 39), (.mv (.tmp 5)), none, 0⟩), (1, ⟨(some 40), (.faddr 0 (.tmp 8)), none, 0⟩), (2, ⟨(some 41), (.load 1 false (.tmp 40)), none, 0⟩), (3, ⟨(some 42), (.iaddrS 1 (.tmp 39) (.tmp 41)), none, 0⟩), (4, ⟨(some 43), (.load 1 false (.tmp 42)), none, 0⟩), (5, ⟨(some 44), (.faddr 1 (.tmp 8)), none, 0⟩), (6, ⟨(some 45), (.load 1 false (.tmp 44)), none, 0⟩), (7, ⟨(some 46), (.mv (.tmp 5)), none, 0⟩), (8, ⟨(some 47), (.faddr 0 (.tmp 8)), none, 0⟩), (9, ⟨(some 48), (.load 1 false (.tmp 47)), none, 0⟩), (10, ⟨(some 49), (.iaddrS 1 (.tmp 46) (.tmp 48)), none, 0⟩), (11, ⟨(some 50), (.load 1 false (.tmp 49)), none, 0⟩), (12, ⟨(some 51), (.faddr 1 (.tmp 8)), none, 0⟩), (13, ⟨(some 52), (.load 1 false (.tmp 51)), none, 0⟩), (14, ⟨(some 53), (.iaddrS 1 (.tmp 50) (.tmp 52)), none, 0⟩), (15, ⟨(some 54), (.load 1 false (.tmp 53)), none, 0⟩), (16, ⟨(some 55), (.faddr 2 (.tmp 8)), none, 0⟩), (17, ⟨(some 56), (.load 1 false (.tmp 55)), none, 0⟩), (18, ⟨(some 57), (.minmax false [(.tmp 54), (.tmp 56)]), none, 0⟩), (19, ⟨(some 58), (.iaddrS 1 (.tmp 43) (.tmp 45)), none, 0⟩), (20, ⟨none, (.store 1 (.tmp 58) (.tmp 57)), none, 0⟩)] [[], [], [1], [0, 2, 1], [3, 0, 2, 1], [], [5], [], [], [8], [7, 9, 8], [10, 7, 9, 8], [], [12], [11, 13, 10, 7, 9, 8, 12], [14, 11, 13, 10, 7, 9, 8, 12], [], [16], [15, 17, 14, 11, 13, 10, 7, 9, 8, 12, 16], [4, 6, 0, 1, 2, 3, 5, 7, 8, 9, 10, 11, 12, 13, 14, 15, 16, 17, 18], [19, 18, 0, 1, 2, 3, 4, 5, 6, 7, 8, 9, 10, 11, 12, 13, 14, 15, 16, 17]])))
 (.reg 0 [⟨(some 59), (.bin .add (.tmp 35) (.val (.lit (.int .i64 1)))), none, 0⟩, ⟨(some 35), (.mv (.tmp 59)), none, 0⟩]))))
def c96l2 : ACode :=
 (.seq (.reg 0 [⟨(some 73), (.bin .lss (.tmp 72) (.tmp 71)), none, 0⟩])
 (.seq (.cond (.tmp 73) .skip (.exit 8))
 (.seq (.block 9 (.seq (.reg 0 [⟨(some 74), (.mv (.tmp 72)), none, 0⟩, ⟨(some 11), (.mv (.tmp 74)), none, 0⟩])
 (.seq (.reg 0 [⟨(some 75), (.mv (.tmp 5)), none, 0⟩, ⟨(some 76), (.mv (.tmp 10)), none, 0⟩, ⟨(some 77), (.iaddrS 1 (.tmp 75) (.tmp 76)), none, 0⟩, ⟨(some 78), (.load 1 false (.tmp 77)), none, 0⟩, ⟨(some 79), (.mv (.tmp 9)), none, 0⟩, ⟨(some 80), (.iaddrS 1 (.tmp 78) (.tmp 79)), none, 0⟩, ⟨(some 81), (.load 1 false (.tmp 80)), none, 0⟩, ⟨(some 82), (.bin .lss (.tmp 81) (.val (.lit (.int .i64 1099511627776)))), none, 0⟩, ⟨(some 83), (.mv (.tmp 82)), none, 0⟩, ⟨(some 84), (.mv (.tmp 5)), (some (83, true)), 0⟩, ⟨(some 85), (.mv (.tmp 9)), (some (83, true)), 0⟩, ⟨(some 86), (.iaddrS 1 (.tmp 84) (.tmp 85)), (some (83, true)), 0⟩, ⟨(some 87), (.load 1 false (.tmp 86)), (some (83, true)), 0⟩, ⟨(some 88), (.mv (.tmp 11)), (some (83, true)), 0⟩, ⟨(some 89), (.iaddrS 1 (.tmp 87) (.tmp 88)), (some (83, true)), 0⟩, ⟨(some 90), (.load 1 false (.tmp 89)), (some (83, true)), 0⟩, ⟨(some 91), (.bin .lss (.tmp 90) (.val (.lit (.int .i64 1099511627776)))), (some (83, true)), 0⟩, ⟨(some 92), (.pick (.tmp 83) (.tmp 91) (.val (.lit (.bool false)))), none, 0⟩])
 (.cond (.tmp 92) (.dreg 0 [(0, ⟨(some 93), (.mv (.tmp 5)), none, 0⟩), (1, ⟨(some 94), (.mv (.tmp 10)), none, 0⟩), (2, ⟨(some 95), (.iaddrS 1 (.tmp 93) (.tmp 94)), none, 0⟩), (3, ⟨(some 96), (.load 1 false (.tmp 95)), none, 0⟩), (4, ⟨(some 97), (.mv (.tmp 11)), none, 0⟩), (5, ⟨(some 98), (.mv (.tmp 5)), none, 0⟩), (6, ⟨(some 99), (.mv (.tmp 10)), none, 0⟩), (7, ⟨(some 100), (.iaddrS 1 (.tmp 98) (.tmp 99)), none, 0⟩), (8, ⟨(some 101), (.load 1 false (.tmp 100)), none, 0⟩), (9, ⟨(some 102), (.mv (.tmp 11)), none, 0⟩), (10, ⟨(some 103), (.iaddrS 1 (.tmp 101) (.tmp 102)), none, 0⟩), (11, ⟨(some 104), (.load 1 false (.tmp 103)), none, 0⟩), (12, ⟨(some 105), (.mv (.tmp 5)), none, 0⟩), (13, ⟨(some 106), (.mv (.tmp 10)), none, 0⟩), (14, ⟨(some 107), (.iaddrS 1 (.tmp 105) (.tmp 106)), none, 0⟩), (15, ⟨(some 108), (.load 1 false (.tmp 107)), none, 0⟩), (16, ⟨(some 109), (.mv (.tmp 9)), none, 0⟩), (17, ⟨(some 110), (.iaddrS 1 (.tmp 108) (.tmp 109)), none, 0⟩), (18, ⟨(some 111), (.load 1 false (.tmp 110)), none, 0⟩), (19, ⟨(some 112), (.mv (.tmp 5)), none, 0⟩), (20, ⟨(some 113), (.mv (.tmp 9)), none, 0⟩), (21, ⟨(some 114), (.iaddrS 1 (.tmp 112) (.tmp 113)), none, 0⟩), (22, ⟨(some 115), (.load 1 false (.tmp 114)), none, 0⟩), (23, ⟨(some 116), (.mv (.tmp 11)), none, 0⟩), (24, ⟨(some 117), (.iaddrS 1 (.tmp 115) (.tmp 116)), none, 0⟩), (25, ⟨(some 118), (.load 1 false (.tmp 117)), none, 0⟩), (26, ⟨(some 119), (.bin .add (.tmp 111) (.tmp 118)), none, 0⟩), (27, ⟨(some 120), (.minmax false [(.tmp 104), (.tmp 119)]), none, 0⟩), (28, ⟨(some 121), (.iaddrS 1 (.tmp 96) (.tmp 97)), none, 0⟩), (29, ⟨none, (.store 1 (.tmp 121) (.tmp 120)), none, 0⟩)] [[], [], [0, 1], [2, 0, 1], [], [], [], [5, 6], [7, 5, 6], [], [8, 9, 7, 5, 6], [10, 8, 9, 7, 5, 6], [], [], [12, 13], [14, 12, 13], [], [15, 16, 14, 12, 13], [17, 15, 16, 14, 12, 13], [], [], [19, 20], [21, 19, 20], [], [22, 23, 21, 19, 20], [24, 22, 23, 21, 19, 20], [18, 25, 17, 15, 16, 14, 12, 13, 24, 22, 23, 21, 19, 20], [11, 26, 10, 8, 9, 7, 5, 6, 18, 25, 17, 15, 16, 14, 12, 13, 24, 22, 23, 21, 19, 20], [3, 4, 0, 1, 2, 5, 6, 7, 8, 9, 10, 11, 12, 13, 14, 15, 16, 17, 18, 19, 20, 21, 22, 23, 24, 25, 26, 27], [28, 27, 0, 1, 2, 3, 4, 5, 6, 7, 8, 9, 10, 11, 12, 13, 14, 15, 16, 17, 18, 19, 20, 21, 22, 23, 24, 25, 26]]) .skip))))
 (.reg 0 [⟨(some 122), (.bin .add (.tmp 72) (.val (.lit (.int .i64 1)))), none, 0⟩, ⟨(some 72), (.mv (.tmp 122)), none, 0⟩]))))
def c96l3 : ACode :=
 (.seq (.reg 0 [⟨(some 68), (.bin .lss (.tmp 67) (.tmp 66)), none, 0⟩])
 (.seq (.cond (.tmp 68) .skip (.exit 6))
 (.seq (.block 7 (.seq (.reg 0 [⟨(some 69), (.mv (.tmp 67)), none, 0⟩, ⟨(some 10), (.mv (.tmp 69)), none, 0⟩])
 (.seq (.reg 0 [⟨(some 70), (.mv (.tmp 5)), none, 0⟩, ⟨(some 71), (.len (.tmp 70)), none, 0⟩, ⟨(some 72), (.mv (.val (.lit (.int .i64 0)))), none, 0⟩])
 (.block 8 (.loop c96l2)))))
 (.reg 0 [⟨(some 123), (.bin .add (.tmp 67) (.val (.lit (.int .i64 1)))), none, 0⟩, ⟨(some 67), (.mv (.tmp 123)), none, 0⟩]))))
def c96l4 : ACode :=
 (.seq (.reg 0 [⟨(some 63), (.bin .lss (.tmp 62) (.tmp 61)), none, 0⟩])
 (.seq (.cond (.tmp 63) .skip (.exit 4))
 (.seq (.block 5 (.seq (.reg 0 [⟨(some 64), (.mv (.tmp 62)), none, 0⟩, ⟨(some 9), (.mv (.tmp 64)), none, 0⟩])
 (.seq (.reg 0 [⟨(some 65), (.mv (.tmp 5)), none, 0⟩, ⟨(some 66), (.len (.tmp 65)), none, 0⟩, ⟨(some 67), (.mv (.val (.lit (.int .i64 0)))), none, 0⟩])
 (.block 6 (.loop c96l3)))))
 (.reg 0 [⟨(some 124), (.bin .add (.tmp 62) (.val (.lit (.int .i64 1)))), none, 0⟩, ⟨(some 62), (.mv (.tmp 124)), none, 0⟩]))))
def c96 : ACode :=
 (.seq (.reg 0 [⟨(some 4), (.mv (.val (.sl true 0 []))), none, 0⟩])
 (.seq (.reg 1 [⟨(some 12), (.mv (.tmp 0)), none, 0⟩, ⟨(some 13), (.mks 1 24 [(.sl true 0 [])] (.tmp 12) (.tmp 12)), none, 0⟩, ⟨(some 5), (.mv (.tmp 13)), none, 1⟩])
 (.seq (.seq (.reg 0 [⟨(some 14), (.mv (.tmp 5)), none, 0⟩, ⟨(some 15), (.len (.tmp 14)), none, 0⟩, ⟨(some 16), (.mv (.val (.lit (.int .i64 0)))), none, 0⟩])
 (.block 0 (.loop c96l0)))
 (.seq (.seq (.reg 0 [⟨(some 32), (.mv (.tmp 1)), none, 0⟩, ⟨(some 33), (.call false (.val (.lit (.func (.func 116) #[] #[]))) [(.tmp 32)]), none, 0⟩, ⟨(some 34), (.len (.tmp 33)), none, 0⟩, ⟨(some 35), (.mv (.val (.lit (.int .i64 0)))), none, 0⟩])
 (.block 2 (.loop c96l1)))
 (.seq (.seq (.reg 0 [⟨(some 60), (.mv (.tmp 5)), none, 0⟩, ⟨(some 61), (.len (.tmp 60)), none, 0⟩, ⟨(some 62), (.mv (.val (.lit (.int .i64 0)))), none, 0⟩])
 (.block 4 (.loop c96l4)))
 (.seq (.reg 0 [⟨(some 125), (.mv (.tmp 5)), none, 0⟩, ⟨(some 4), (.mv (.tmp 125)), none, 0⟩])
 .ret))))))
theorem e96 : envOf Try.prog muts 96 = some (126, c96, [(Go.Abs.ARes.tmp 4)]) := by kernel_rfl
def c120 : ACode :=
 (.seq (.reg 0 [⟨(some 6), (.mv (.val (.lit (.bool false)))), none, 0⟩])
 (.seq (.reg 0 [⟨(some 7), (.mv (.tmp 0)), none, 0⟩, ⟨(some 8), (.mv (.tmp 1)), none, 0⟩, ⟨(some 9), (.iaddrS 1 (.tmp 7) (.tmp 8)), none, 0⟩, ⟨(some 10), (.load 1 false (.tmp 9)), none, 0⟩, ⟨(some 11), (.mv (.tmp 2)), none, 0⟩, ⟨(some 12), (.iaddrS 1 (.tmp 10) (.tmp 11)), none, 0⟩, ⟨(some 13), (.load 1 false (.tmp 12)), none, 0⟩, ⟨(some 14), (.bin .lss (.tmp 13) (.val (.lit (.int .i64 1099511627776)))), none, 0⟩, ⟨(some 6), (.mv (.tmp 14)), none, 0⟩])
 .ret))
theorem e120 : envOf Try.prog muts 120 = some (15, c120, [(Go.Abs.ARes.tmp 6)]) := by kernel_rfl
def c25 : ACode :=
 (.seq (.reg 0 [⟨(some 4), (.mv (.val (.lit (.bool false)))), none, 0⟩])
 (.seq (.reg 0 [⟨(some 5), (.mv (.tmp 0)), none, 0⟩, ⟨(some 6), (.len (.tmp 5)), none, 0⟩, ⟨(some 7), (.mv (.tmp 1)), none, 0⟩, ⟨(some 8), (.bin .leq (.tmp 6) (.tmp 7)), none, 0⟩, ⟨(some 9), (.mv (.tmp 8)), none, 0⟩, ⟨(some 10), (.mv (.tmp 0)), (some (9, false)), 0⟩, ⟨(some 11), (.len (.tmp 10)), (some (9, false)), 0⟩, ⟨(some 12), (.bin .gtr (.tmp 11) (.val (.lit (.int .i64 100)))), (some (9, false)), 0⟩, ⟨(some 13), (.mv (.tmp 12)), (some (9, false)), 0⟩, ⟨(some 14), (.mv (.tmp 0)), (some (13, true)), 0⟩, ⟨(some 15), (.len (.tmp 14)), (some (13, true)), 0⟩, ⟨(some 16), (.bin .leq (.tmp 15) (.val (.lit (.int .i64 103)))), (some (13, true)), 0⟩, ⟨(some 17), (.pick (.tmp 13) (.tmp 16) (.val (.lit (.bool false)))), (some (9, false)), 0⟩, ⟨(some 18), (.pick (.tmp 9) (.val (.lit (.bool true))) (.tmp 17)), none, 0⟩, ⟨(some 4), (.mv (.tmp 18)), none, 0⟩])
 .ret))
theorem e25 : envOf Try.prog muts 25 = some (19, c25, [(Go.Abs.ARes.tmp 4)]) := by kernel_rfl
def c28 : ACode :=
 (.seq (.reg 0 [⟨(some 2), (.mv (.val (.sl true 0 []))), none, 0⟩])
 (.seq (.reg 2 [⟨(some 3), (.bslice 1 0 [(.lit (.int .i64 0))] []), none, 0⟩, ⟨(some 4), (.mv (.tmp 0)), none, 1⟩, ⟨(some 5), (.app 1 8 (.tmp 3) (.tmp 4)), none, 1⟩, ⟨(some 2), (.mv (.tmp 5)), none, 2⟩])
 .ret))
theorem e28 : envOf Try.prog muts 28 = some (6, c28, [(Go.Abs.ARes.tmp 2)]) := by kernel_rfl
def c92 : ACode :=
 (.seq (.reg 0 [⟨(some 6), (.mv (.val (.lit (.bool false)))), none, 0⟩])
 (.seq (.reg 0 [⟨(some 7), (.mv (.tmp 1)), none, 0⟩, ⟨(some 8), (.mv (.tmp 0)), none, 0⟩, ⟨(some 9), (.bin .leq (.tmp 7) (.tmp 8)), none, 0⟩, ⟨(some 10), (.mv (.tmp 9)), none, 0⟩, ⟨(some 11), (.mv (.tmp 0)), (some (10, true)), 0⟩, ⟨(some 12), (.mv (.tmp 2)), (some (10, true)), 0⟩, ⟨(some 13), (.bin .leq (.tmp 11) (.tmp 12)), (some (10, true)), 0⟩, ⟨(some 14), (.pick (.tmp 10) (.tmp 13) (.val (.lit (.bool false)))), none, 0⟩, ⟨(some 6), (.mv (.tmp 14)), none, 0⟩])
 .ret))
theorem e92 : envOf Try.prog muts 92 = some (15, c92, [(Go.Abs.ARes.tmp 6)]) := by kernel_rfl
def c105 : ACode :=
 (.seq (.reg 1 [⟨(some 2), (.box 2 (.tmp 0)), none, 0⟩, ⟨(some 4), (.mv (.val (.lit (.bool false)))), none, 1⟩])
 (.seq (.reg 0 [⟨(some 5), (.mv (.tmp 1)), none, 0⟩, ⟨(some 6), (.faddr 1 (.tmp 2)), none, 0⟩, ⟨(some 7), (.load 1 false (.tmp 6)), none, 0⟩, ⟨(some 8), (.len (.tmp 7)), none, 0⟩, ⟨(some 9), (.bin .sub (.tmp 8) (.val (.lit (.int .i64 1)))), none, 0⟩, ⟨(some 10), (.call false (.val (.lit (.func (.func 92) #[] #[]))) [(.tmp 5), (.val (.lit (.int .i64 0))), (.tmp 9)]), none, 0⟩, ⟨(some 11), (.mv (.tmp 10)), none, 0⟩, ⟨(some 12), (.faddr 1 (.tmp 2)), (some (11, true)), 0⟩, ⟨(some 13), (.load 1 false (.tmp 12)), (some (11, true)), 0⟩, ⟨(some 14), (.mv (.tmp 1)), (some (11, true)), 0⟩, ⟨(some 15), (.iaddrS 1 (.tmp 13) (.tmp 14)), (some (11, true)), 0⟩, ⟨(some 16), (.load 1 false (.tmp 15)), (some (11, true)), 0⟩, ⟨(some 17), (.bin .neq (.tmp 16) (.val (.lit (.int .i64 (-1))))), (some (11, true)), 0⟩, ⟨(some 18), (.pick (.tmp 11) (.tmp 17) (.val (.lit (.bool false)))), none, 0⟩, ⟨(some 4), (.mv (.tmp 18)), none, 0⟩])
 .ret))
theorem e105 : envOf Try.prog muts 105 = some (19, c105, [(Go.Abs.ARes.tmp 4)]) := by kernel_rfl
def c121 : ACode :=
 (.seq (.reg 1 [⟨(some 3), (.box 2 (.tmp 1)), none, 0⟩, ⟨(some 4), (.mv (.val (.lit (.int .i64 0)))), none, 1⟩])
 (.seq (.seq (.reg 0 [⟨(some 5), (.iaddrA 2 1 (.tmp 3) (.val (.lit (.int .i64 0)))), none, 0⟩, ⟨(some 6), (.load 1 false (.tmp 5)), none, 0⟩, ⟨(some 7), (.mv (.tmp 0)), none, 0⟩, ⟨(some 8), (.bin .sub (.tmp 7) (.val (.lit (.int .i64 1)))), none, 0⟩, ⟨(some 9), (.call false (.val (.lit (.func (.func 32) #[] #[]))) [(.tmp 6), (.val (.lit (.int .i64 0))), (.tmp 8)]), none, 0⟩, ⟨(some 10), (.not (.tmp 9)), none, 0⟩, ⟨(some 11), (.mv (.tmp 10)), none, 0⟩, ⟨(some 12), (.iaddrA 2 1 (.tmp 3) (.val (.lit (.int .i64 1)))), (some (11, false)), 0⟩, ⟨(some 13), (.load 1 false (.tmp 12)), (some (11, false)), 0⟩, ⟨(some 14), (.mv (.tmp 0)), (some (11, false)), 0⟩, ⟨(some 15), (.bin .sub (.tmp 14) (.val (.lit (.int .i64 1)))), (some (11, false)), 0⟩, ⟨(some 16), (.call false (.val (.lit (.func (.func 32) #[] #[]))) [(.tmp 13), (.val (.lit (.int .i64 0))), (.tmp 15)]), (some (11, false)), 0⟩, ⟨(some 17), (.not (.tmp 16)), (some (11, false)), 0⟩, ⟨(some 18), (.pick (.tmp 11) (.val (.lit (.bool true))) (.tmp 17)), none, 0⟩])
 (.cond (.tmp 18) (.seq (.reg 0 [⟨(some 4), (.mv (.val (.lit (.int .i64 6)))), none, 0⟩])
 .ret) .skip))
 (.seq (.reg 0 [⟨(some 4), (.mv (.val (.lit (.int .i64 0)))), none, 0⟩])
 .ret)))
theorem e121 : envOf Try.prog muts 121 = some (19, c121, [(Go.Abs.ARes.tmp 4)]) := by kernel_rfl
def c127 : ACode :=
 (.seq (.reg 0 [⟨(some 4), (.mv (.val (.lit (.int .i64 0)))), none, 0⟩])
 (.seq (.reg 0 [⟨(some 6), (.mv (.tmp 0)), none, 0⟩, ⟨(some 7), (.mv (.tmp 1)), none, 0⟩, ⟨(some 8), (.bin .quo (.tmp 6) (.tmp 7)), none, 0⟩, ⟨(some 5), (.mv (.tmp 8)), none, 0⟩])
 (.seq (.seq (.reg 0 [⟨(some 9), (.mv (.tmp 0)), none, 0⟩, ⟨(some 10), (.mv (.tmp 1)), none, 0⟩, ⟨(some 11), (.bin .rem (.tmp 9) (.tmp 10)), none, 0⟩, ⟨(some 12), (.bin .lss (.tmp 11) (.val (.lit (.int .i64 0)))), none, 0⟩])
 (.cond (.tmp 12) (.reg 0 [⟨(some 13), (.mv (.tmp 5)), none, 0⟩, ⟨(some 14), (.bin .sub (.tmp 13) (.val (.lit (.int .i64 1)))), none, 0⟩, ⟨(some 5), (.mv (.tmp 14)), none, 0⟩]) .skip))
 (.seq (.reg 0 [⟨(some 15), (.mv (.tmp 5)), none, 0⟩, ⟨(some 4), (.mv (.tmp 15)), none, 0⟩])
 .ret))))
theorem e127 : envOf Try.prog muts 127 = some (16, c127, [(Go.Abs.ARes.tmp 4)]) := by kernel_rfl
def c128 : ACode :=
 (.seq (.reg 0 [⟨(some 4), (.mv (.val (.lit (.int .i64 0)))), none, 0⟩])
 (.seq (.reg 0 [⟨(some 5), (.mv (.tmp 0)), none, 0⟩, ⟨(some 6), (.neg (.tmp 5)), none, 0⟩, ⟨(some 7), (.mv (.tmp 1)), none, 0⟩, ⟨(some 8), (.call false (.val (.lit (.func (.func 127) #[] #[]))) [(.tmp 6), (.tmp 7)]), none, 0⟩, ⟨(some 9), (.neg (.tmp 8)), none, 0⟩, ⟨(some 4), (.mv (.tmp 9)), none, 0⟩])
 .ret))
theorem e128 : envOf Try.prog muts 128 = some (10, c128, [(Go.Abs.ARes.tmp 4)]) := by kernel_rfl
def c132 : ACode :=
 (.seq (.reg 0 [⟨(some 4), (.mv (.val (.sl true 0 []))), none, 0⟩, ⟨(some 5), (.mv (.val (.lit (.int .i64 0)))), none, 0⟩])
 (.seq (.reg 0 [⟨(some 9), (.mv (.tmp 0)), none, 0⟩, ⟨(some 10), (.mv (.tmp 1)), none, 0⟩, ⟨(some 11), (.call false (.val (.lit (.func (.func 119) #[] #[]))) [(.tmp 9), (.tmp 10)]), none, 0⟩, ⟨(some 8), (.mv (.tmp 11)), none, 0⟩, ⟨(some 12), (.ext (.tmp 8) 0), none, 0⟩, ⟨(some 13), (.ext (.tmp 8) 1), none, 0⟩, ⟨(some 6), (.mv (.tmp 12)), none, 0⟩, ⟨(some 7), (.mv (.tmp 13)), none, 0⟩])
 (.seq (.seq (.reg 0 [⟨(some 14), (.mv (.tmp 7)), none, 0⟩, ⟨(some 15), (.bin .eql (.tmp 14) (.val (.lit (.int .i64 0)))), none, 0⟩, ⟨(some 16), (.mv (.tmp 15)), none, 0⟩, ⟨(some 17), (.mv (.tmp 6)), (some (16, true)), 0⟩, ⟨(some 18), (.call false (.val (.lit (.func (.func 97) #[] #[]))) [(.tmp 17)]), (some (16, true)), 0⟩, ⟨(some 19), (.not (.tmp 18)), (some (16, true)), 0⟩, ⟨(some 20), (.pick (.tmp 16) (.tmp 19) (.val (.lit (.bool false)))), none, 0⟩])
 (.cond (.tmp 20) (.seq (.reg 0 [⟨(some 4), (.mv (.val (.sl true 0 []))), none, 0⟩, ⟨(some 5), (.mv (.val (.lit (.int .i64 25)))), none, 0⟩])
 .ret) .skip))
 (.seq (.reg 0 [⟨(some 21), (.mv (.tmp 6)), none, 0⟩, ⟨(some 22), (.mv (.tmp 7)), none, 0⟩, ⟨(some 4), (.mv (.tmp 21)), none, 0⟩, ⟨(some 5), (.mv (.tmp 22)), none, 0⟩])
 .ret))))
theorem e132 : envOf Try.prog muts 132 = some (23, c132, [(Go.Abs.ARes.tmp 4), (Go.Abs.ARes.tmp 5)]) := by kernel_rfl
def c18 : ACode :=
 (.seq (.reg 1 [⟨(some 5), (.box 2 (.tmp 2)), none, 0⟩, ⟨(some 6), (.mv (.val (.lit (.bool false)))), none, 1⟩])
 (.seq (.seq (.reg 0 [⟨(some 16), (.call false (.val (.lit (.func (.func 19) #[] #[]))) []), none, 0⟩, ⟨(some 17), (.not (.tmp 16)), none, 0⟩])
 (.cond (.tmp 17) (.seq (.reg 0 [⟨(some 6), (.mv (.val (.lit (.bool false)))), none, 0⟩])
 .ret) .skip))
 (.seq (.seq (.reg 0 [⟨(some 18), (.mv (.tmp 1)), none, 0⟩, ⟨(some 19), (.call false (.val (.lit (.func (.func 25) #[] #[]))) [(.tmp 18), (.val (.lit (.int .i64 12)))]), none, 0⟩, ⟨(some 20), (.not (.tmp 19)), none, 0⟩])
 (.cond (.tmp 20) (.seq (.reg 0 [⟨(some 6), (.mv (.val (.lit (.bool true)))), none, 0⟩])
 .ret) .skip))
 (.seq (.dreg 0 [(0, ⟨(some 22), (.mv (.tmp 0)), none, 0⟩), (1, ⟨(some 23), (.mv (.tmp 1)), none, 0⟩), (2, ⟨(some 24), (.call false (.val (.lit (.func (.func 27) #[] #[]))) [(.tmp 23)]), none, 0⟩), (3, ⟨(some 25), (.load 2 true (.tmp 5)), none, 0⟩), (4, ⟨(some 26), (.call false (.val (.lit (.func (.func 83) #[] #[]))) [(.tmp 22), (.tmp 24), (.tmp 25)]), none, 0⟩), (5, ⟨(some 21), (.mv (.tmp 26)), none, 0⟩), (6, ⟨(some 27), (.ext (.tmp 21) 0), none, 0⟩), (7, ⟨(some 28), (.ext (.tmp 21) 1), none, 0⟩), (8, ⟨(some 7), (.mv (.tmp 27)), none, 0⟩), (9, ⟨(some 8), (.mv (.tmp 28)), none, 0⟩)] [[], [], [1], [], [0, 2, 3, 1], [4, 0, 2, 3, 1], [5, 4, 0, 2, 3, 1], [5, 4, 0, 2, 3, 1], [6, 4, 0, 1, 2, 3, 5], [7, 8, 0, 1, 2, 3, 4, 5, 6]])
 (.seq (.reg 0 [⟨(some 29), (.mv (.tmp 0)), none, 0⟩, ⟨(some 30), (.mv (.tmp 1)), none, 0⟩, ⟨(some 31), (.load 2 true (.tmp 5)), none, 0⟩, ⟨(some 32), (.call false (.val (.lit (.func (.func 55) #[] #[]))) [(.tmp 29), (.tmp 30), (.tmp 31)]), none, 0⟩, ⟨(some 9), (.mv (.tmp 32)), none, 0⟩])
 (.seq (.seq (.reg 0 [⟨(some 33), (.mv (.tmp 9)), none, 0⟩, ⟨(some 34), (.bin .eql (.tmp 33) (.val (.lit (.int .i64 0)))), none, 0⟩])
 (.cond (.tmp 34) (.reg 0 [⟨(some 36), (.mv (.tmp 0)), none, 0⟩, ⟨(some 37), (.mv (.tmp 1)), none, 0⟩, ⟨(some 38), (.call false (.val (.lit (.func (.func 49) #[] #[]))) [(.tmp 36), (.tmp 37)]), none, 0⟩, ⟨(some 35), (.mv (.tmp 38)), none, 0⟩, ⟨(some 39), (.ext (.tmp 35) 0), none, 0⟩, ⟨(some 40), (.ext (.tmp 35) 1), none, 0⟩, ⟨(some 9), (.mv (.tmp 40)), none, 0⟩]) .skip))
 (.seq (.seq (.reg 0 [⟨(some 41), (.mv (.tmp 9)), none, 0⟩, ⟨(some 42), (.bin .neq (.tmp 41) (.val (.lit (.int .i64 0)))), none, 0⟩])
 (.cond (.tmp 42) (.seq (.reg 0 [⟨(some 43), (.mv (.tmp 8)), none, 0⟩, ⟨(some 44), (.mv (.tmp 9)), none, 0⟩, ⟨(some 45), (.bin .eql (.tmp 43) (.tmp 44)), none, 0⟩, ⟨(some 46), (.mv (.tmp 45)), none, 0⟩, ⟨(some 47), (.mv (.tmp 7)), (some (46, true)), 0⟩, ⟨(some 48), (.len (.tmp 47)), (some (46, true)), 0⟩, ⟨(some 49), (.bin .eql (.tmp 48) (.val (.lit (.int .i64 0)))), (some (46, true)), 0⟩, ⟨(some 50), (.pick (.tmp 46) (.tmp 49) (.val (.lit (.bool false)))), none, 0⟩, ⟨(some 6), (.mv (.tmp 50)), none, 0⟩])
 .ret) .skip))
 (.seq (.reg 0 [⟨(some 52), (.mv (.tmp 0)), none, 0⟩, ⟨(some 53), (.mv (.tmp 1)), none, 0⟩, ⟨(some 54), (.call false (.val (.lit (.func (.func 70) #[] #[]))) [(.tmp 52), (.tmp 53)]), none, 0⟩, ⟨(some 51), (.mv (.tmp 54)), none, 0⟩, ⟨(some 55), (.ext (.tmp 51) 0), none, 0⟩, ⟨(some 56), (.ext (.tmp 51) 1), none, 0⟩, ⟨(some 10), (.mv (.tmp 55)), none, 0⟩, ⟨(some 11), (.mv (.tmp 56)), none, 0⟩])
 (.seq (.seq (.reg 0 [⟨(some 57), (.mv (.tmp 8)), none, 0⟩, ⟨(some 58), (.bin .neq (.tmp 57) (.val (.lit (.int .i64 0)))), none, 0⟩, ⟨(some 59), (.mv (.tmp 58)), none, 0⟩, ⟨(some 60), (.mv (.tmp 7)), (some (59, false)), 0⟩, ⟨(some 61), (.mv (.tmp 10)), (some (59, false)), 0⟩, ⟨(some 62), (.load 2 true (.tmp 5)), (some (59, false)), 0⟩, ⟨(some 63), (.call false (.val (.lit (.func (.func 84) #[] #[]))) [(.tmp 61), (.tmp 62)]), (some (59, false)), 0⟩, ⟨(some 64), (.call false (.val (.lit (.func (.func 48) #[] #[]))) [(.tmp 60), (.tmp 63)]), (some (59, false)), 0⟩, ⟨(some 65), (.not (.tmp 64)), (some (59, false)), 0⟩, ⟨(some 66), (.pick (.tmp 59) (.val (.lit (.bool true))) (.tmp 65)), none, 0⟩])
 (.cond (.tmp 66) (.seq (.reg 0 [⟨(some 6), (.mv (.val (.lit (.bool false)))), none, 0⟩])
 .ret) .skip))
 (.seq (.reg 0 [⟨(some 68), (.mv (.tmp 0)), none, 0⟩, ⟨(some 69), (.mv (.tmp 1)), none, 0⟩, ⟨(some 70), (.call false (.val (.lit (.func (.func 27) #[] #[]))) [(.tmp 69)]), none, 0⟩, ⟨(some 71), (.mv (.tmp 7)), none, 0⟩, ⟨(some 72), (.call false (.val (.lit (.func (.func 28) #[] #[]))) [(.tmp 71)]), none, 0⟩, ⟨(some 73), (.call false (.val (.lit (.func (.func 26) #[] #[]))) [(.tmp 68), (.tmp 70), (.tmp 72)]), none, 0⟩, ⟨(some 67), (.mv (.tmp 73)), none, 0⟩, ⟨(some 74), (.ext (.tmp 67) 0), none, 0⟩, ⟨(some 75), (.ext (.tmp 67) 1), none, 0⟩, ⟨(some 12), (.mv (.tmp 74)), none, 0⟩, ⟨(some 13), (.mv (.tmp 75)), none, 0⟩])
 (.seq (.dreg 1 [(0, ⟨(some 77), (.mv (.tmp 0)), none, 0⟩), (1, ⟨(some 78), (.mv (.tmp 1)), none, 0⟩), (2, ⟨(some 79), (.call false (.val (.lit (.func (.func 27) #[] #[]))) [(.tmp 78)]), none, 0⟩), (3, ⟨(some 80), (.load 2 true (.tmp 5)), none, 0⟩), (4, ⟨(some 81), (.call false (.val (.lit (.func (.func 54) #[] #[]))) [(.tmp 77), (.tmp 79), (.tmp 80)]), none, 0⟩), (5, ⟨(some 76), (.mv (.tmp 81)), none, 0⟩), (6, ⟨(some 82), (.ext (.tmp 76) 0), none, 0⟩), (7, ⟨(some 83), (.ext (.tmp 76) 1), none, 0⟩), (8, ⟨(some 14), (.alloc [(.lit (.int .i64 0)), (.lit (.int .i64 0))]), none, 0⟩), (9, ⟨none, (.store 2 (.tmp 14) (.tmp 82)), none, 1⟩), (10, ⟨(some 15), (.mv (.tmp 83)), none, 1⟩)] [[], [], [1], [], [0, 2, 3, 1], [4, 0, 2, 3, 1], [5, 4, 0, 2, 3, 1], [5, 4, 0, 2, 3, 1], [], [8, 6, 4, 0, 1, 2, 3, 5], [7, 9, 0, 1, 2, 3, 4, 5, 6, 8]])
 (.seq (.dreg 0 [(0, ⟨(some 84), (.mv (.tmp 13)), none, 0⟩), (1, ⟨(some 85), (.bin .eql (.tmp 84) (.val (.lit (.int .i64 0)))), none, 0⟩), (2, ⟨(some 86), (.mv (.tmp 85)), none, 0⟩), (3, ⟨(some 87), (.mv (.tmp 15)), (some (86, true)), 0⟩), (4, ⟨(some 88), (.bin .eql (.tmp 87) (.val (.lit (.int .i64 0)))), (some (86, true)), 0⟩), (5, ⟨(some 89), (.pick (.tmp 86) (.tmp 88) (.val (.lit (.bool false)))), none, 0⟩), (6, ⟨(some 90), (.mv (.tmp 89)), none, 0⟩), (7, ⟨(some 91), (.mv (.tmp 7)), (some (90, true)), 0⟩), (8, ⟨(some 92), (.iaddrA 2 1 (.tmp 5) (.val (.lit (.int .i64 1)))), (some (90, true)), 0⟩), (9, ⟨(some 93), (.load 1 false (.tmp 92)), (some (90, true)), 0⟩), (10, ⟨(some 94), (.iaddrS 1 (.tmp 91) (.tmp 93)), (some (90, true)), 0⟩), (11, ⟨(some 95), (.load 1 false (.tmp 94)), (some (90, true)), 0⟩), (12, ⟨(some 96), (.mv (.tmp 7)), (some (90, true)), 0⟩), (13, ⟨(some 97), (.iaddrA 2 1 (.tmp 5) (.val (.lit (.int .i64 0)))), (some (90, true)), 0⟩), (14, ⟨(some 98), (.load 1 false (.tmp 97)), (some (90, true)), 0⟩), (15, ⟨(some 99), (.iaddrS 1 (.tmp 96) (.tmp 98)), (some (90, true)), 0⟩), (16, ⟨(some 100), (.load 1 false (.tmp 99)), (some (90, true)), 0⟩), (17, ⟨(some 101), (.bin .sub (.tmp 95) (.tmp 100)), (some (90, true)), 0⟩), (18, ⟨(some 102), (.faddr 1 (.tmp 14)), (some (90, true)), 0⟩), (19, ⟨(some 103), (.load 1 false (.tmp 102)), (some (90, true)), 0⟩), (20, ⟨(some 104), (.bin .eql (.tmp 101) (.tmp 103)), (some (90, true)), 0⟩), (21, ⟨(some 105), (.pick (.tmp 90) (.tmp 104) (.val (.lit (.bool false)))), none, 0⟩), (22, ⟨(some 6), (.mv (.tmp 105)), none, 0⟩)] [[], [0], [1, 0], [2, 1, 0], [3, 2, 1, 0], [2, 4, 1, 0, 3], [5, 2, 4, 1, 0, 3], [6, 5, 2, 4, 1, 0, 3], [6, 5, 2, 4, 1, 0, 3], [8, 6, 5, 2, 4, 1, 0, 3], [7, 9, 6, 5, 2, 4, 1, 0, 3, 8], [10, 6, 7, 9, 5, 2, 4, 1, 0, 3, 8], [6, 5, 2, 4, 1, 0, 3], [6, 5, 2, 4, 1, 0, 3], [13, 6, 5, 2, 4, 1, 0, 3], [12, 14, 6, 5, 2, 4, 1, 0, 3, 13], [15, 6, 12, 14, 5, 2, 4, 1, 0, 3, 13], [11, 16, 6, 10, 7, 9, 5, 2, 4, 1, 0, 3, 8, 15, 12, 14, 13], [6, 5, 2, 4, 1, 0, 3], [18, 6, 5, 2, 4, 1, 0, 3], [17, 19, 6, 11, 16, 10, 7, 9, 5, 2, 4, 1, 0, 3, 8, 15, 12, 14, 13, 18], [6, 20, 5, 2, 4, 1, 0, 3, 17, 19, 11, 16, 10, 7, 9, 8, 15, 12, 14, 13, 18], [21, 6, 0, 1, 2, 3, 4, 5, 7, 8, 9, 10, 11, 12, 13, 14, 15, 16, 17, 18, 19, 20]])
 .ret))))))))))))
theorem e18 : envOf Try.prog muts 18 = some (106, c18, [(Go.Abs.ARes.tmp 6)]) := by kernel_rfl
def c27 : ACode :=
 (.seq (.reg 0 [⟨(some 2), (.mv (.val (.sl true 0 []))), none, 0⟩])
 (.seq (.reg 2 [⟨(some 3), (.bslice 4 0 [(.lit (.int .i64 0)), (.lit (.int .i64 0)), (.lit (.int .i64 0)), (.lit (.int .i64 0))] []), none, 0⟩, ⟨(some 4), (.mv (.tmp 0)), none, 1⟩, ⟨(some 5), (.app 4 32 (.tmp 3) (.tmp 4)), none, 1⟩, ⟨(some 2), (.mv (.tmp 5)), none, 2⟩])
 .ret))
theorem e27 : envOf Try.prog muts 27 = some (6, c27, [(Go.Abs.ARes.tmp 2)]) := by kernel_rfl
def c97 : ACode :=
 (.seq (.reg 0 [⟨(some 2), (.mv (.val (.lit (.bool false)))), none, 0⟩])
 (.seq (.reg 0 [⟨(some 3), (.mv (.tmp 0)), none, 0⟩, ⟨(some 4), (.iaddrS 1 (.tmp 3) (.val (.lit (.int .i64 0)))), none, 0⟩, ⟨(some 5), (.load 1 false (.tmp 4)), none, 0⟩, ⟨(some 6), (.call true (.val (.lit (.func (.func 90) #[] #[]))) [(.tmp 5), (.val (.lit (.func (.func 144) #[] #[])))]), none, 0⟩, ⟨(some 7), (.not (.tmp 6)), none, 0⟩, ⟨(some 2), (.mv (.tmp 7)), none, 0⟩])
 .ret))
theorem e97 : envOf Try.prog muts 97 = some (8, c97, [(Go.Abs.ARes.tmp 2)]) := by kernel_rfl
def c112 : ACode :=
 (.seq (.reg 1 [⟨(some 3), (.box 2 (.tmp 0)), none, 0⟩, ⟨(some 6), (.mv (.val (.lit (.bool false)))), none, 1⟩])
 (.seq (.reg 0 [⟨(some 7), (.mv (.tmp 1)), none, 0⟩, ⟨(some 8), (.mv (.tmp 2)), none, 0⟩, ⟨(some 9), (.minmax false [(.tmp 7), (.tmp 8)]), none, 0⟩, ⟨(some 10), (.mv (.tmp 1)), none, 0⟩, ⟨(some 11), (.mv (.tmp 2)), none, 0⟩, ⟨(some 12), (.minmax true [(.tmp 10), (.tmp 11)]), none, 0⟩, ⟨(some 1), (.mv (.tmp 9)), none, 0⟩, ⟨(some 2), (.mv (.tmp 12)), none, 0⟩])
 (.seq (.reg 0 [⟨(some 13), (.mv (.tmp 2)), none, 0⟩, ⟨(some 14), (.mv (.tmp 1)), none, 0⟩, ⟨(some 15), (.faddr 0 (.tmp 3)), none, 0⟩, ⟨(some 16), (.load 1 false (.tmp 15)), none, 0⟩, ⟨(some 17), (.bin .add (.tmp 14) (.tmp 16)), none, 0⟩, ⟨(some 18), (.bin .eql (.tmp 13) (.tmp 17)), none, 0⟩, ⟨(some 19), (.mv (.tmp 18)), none, 0⟩, ⟨(some 20), (.mv (.tmp 2)), (some (19, false)), 0⟩, ⟨(some 21), (.mv (.tmp 1)), (some (19, false)), 0⟩, ⟨(some 22), (.bin .add (.tmp 21) (.val (.lit (.int .i64 1)))), (some (19, false)), 0⟩, ⟨(some 23), (.bin .eql (.tmp 20) (.tmp 22)), (some (19, false)), 0⟩, ⟨(some 24), (.mv (.tmp 23)), (some (19, false)), 0⟩, ⟨(some 25), (.mv (.tmp 2)), (some (24, true)), 0⟩, ⟨(some 26), (.faddr 0 (.tmp 3)), (some (24, true)), 0⟩, ⟨(some 27), (.load 1 false (.tmp 26)), (some (24, true)), 0⟩, ⟨(some 28), (.bin .rem (.tmp 25) (.tmp 27)), (some (24, true)), 0⟩, ⟨(some 29), (.bin .neq (.tmp 28) (.val (.lit (.int .i64 0)))), (some (24, true)), 0⟩, ⟨(some 30), (.pick (.tmp 24) (.tmp 29) (.val (.lit (.bool false)))), (some (19, false)), 0⟩, ⟨(some 31), (.pick (.tmp 19) (.val (.lit (.bool true))) (.tmp 30)), none, 0⟩, ⟨(some 6), (.mv (.tmp 31)), none, 0⟩])
 .ret)))
theorem e112 : envOf Try.prog muts 112 = some (32, c112, [(Go.Abs.ARes.tmp 6)]) := by kernel_rfl
def c118 : ACode :=
 (.seq (.reg 1 [⟨(some 5), (.box 2 (.tmp 2)), none, 0⟩, ⟨(some 6), (.mv (.val (.lit (.int .i64 0)))), none, 1⟩])
 (.seq (.seq (.reg 0 [⟨(some 8), (.mv (.tmp 0)), none, 0⟩, ⟨(some 9), (.mv (.tmp 1)), none, 0⟩, ⟨(some 10), (.call false (.val (.lit (.func (.func 89) #[] #[]))) [(.tmp 8), (.tmp 9)]), none, 0⟩, ⟨(some 7), (.mv (.tmp 10)), none, 0⟩])
 (.seq (.reg 0 [⟨(some 11), (.mv (.tmp 7)), none, 0⟩, ⟨(some 12), (.bin .neq (.tmp 11) (.val (.lit (.int .i64 0)))), none, 0⟩])
 (.cond (.tmp 12) (.seq (.reg 0 [⟨(some 13), (.mv (.tmp 7)), none, 0⟩, ⟨(some 6), (.mv (.tmp 13)), none, 0⟩])
 .ret) .skip)))
 (.seq (.seq (.reg 0 [⟨(some 14), (.iaddrA 2 1 (.tmp 5) (.val (.lit (.int .i64 0)))), none, 0⟩, ⟨(some 15), (.load 1 false (.tmp 14)), none, 0⟩, ⟨(some 16), (.mv (.tmp 0)), none, 0⟩, ⟨(some 17), (.bin .sub (.tmp 16) (.val (.lit (.int .i64 1)))), none, 0⟩, ⟨(some 18), (.call false (.val (.lit (.func (.func 92) #[] #[]))) [(.tmp 15), (.val (.lit (.int .i64 0))), (.tmp 17)]), none, 0⟩, ⟨(some 19), (.not (.tmp 18)), none, 0⟩, ⟨(some 20), (.mv (.tmp 19)), none, 0⟩, ⟨(some 21), (.iaddrA 2 1 (.tmp 5) (.val (.lit (.int .i64 1)))), (some (20, false)), 0⟩, ⟨(some 22), (.load 1 false (.tmp 21)), (some (20, false)), 0⟩, ⟨(some 23), (.mv (.tmp 0)), (some (20, false)), 0⟩, ⟨(some 24), (.bin .sub (.tmp 23) (.val (.lit (.int .i64 1)))), (some (20, false)), 0⟩, ⟨(some 25), (.call false (.val (.lit (.func (.func 92) #[] #[]))) [(.tmp 22), (.val (.lit (.int .i64 0))), (.tmp 24)]), (some (20, false)), 0⟩, ⟨(some 26), (.not (.tmp 25)), (some (20, false)), 0⟩, ⟨(some 27), (.pick (.tmp 20) (.val (.lit (.bool true))) (.tmp 26)), none, 0⟩])
 (.cond (.tmp 27) (.seq (.reg 0 [⟨(some 6), (.mv (.val (.lit (.int .i64 6)))), none, 0⟩])
 .ret) .skip))
 (.seq (.reg 0 [⟨(some 6), (.mv (.val (.lit (.int .i64 0)))), none, 0⟩])
 .ret))))
theorem e118 : envOf Try.prog muts 118 = some (28, c118, [(Go.Abs.ARes.tmp 6)]) := by kernel_rfl
def c126 : ACode :=
 (.seq (.reg 0 [⟨(some 4), (.mv (.val (.lit (.int .i64 0)))), none, 0⟩])
 (.seq (.reg 0 [⟨(some 6), (.mv (.tmp 0)), none, 0⟩, ⟨(some 7), (.mv (.tmp 1)), none, 0⟩, ⟨(some 8), (.bin .quo (.tmp 6) (.tmp 7)), none, 0⟩, ⟨(some 5), (.mv (.tmp 8)), none, 0⟩])
 (.seq (.seq (.reg 0 [⟨(some 9), (.mv (.tmp 0)), none, 0⟩, ⟨(some 10), (.mv (.tmp 1)), none, 0⟩, ⟨(some 11), (.bin .rem (.tmp 9) (.tmp 10)), none, 0⟩, ⟨(some 12), (.bin .neq (.tmp 11) (.val (.lit (.int .i64 0)))), none, 0⟩, ⟨(some 13), (.mv (.tmp 12)), none, 0⟩, ⟨(some 14), (.mv (.tmp 0)), (some (13, true)), 0⟩, ⟨(some 15), (.bin .lss (.tmp 14) (.val (.lit (.int .i64 0)))), (some (13, true)), 0⟩, ⟨(some 16), (.pick (.tmp 13) (.tmp 15) (.val (.lit (.bool false)))), none, 0⟩])
 (.cond (.tmp 16) (.reg 0 [⟨(some 17), (.mv (.tmp 5)), none, 0⟩, ⟨(some 18), (.bin .sub (.tmp 17) (.val (.lit (.int .i64 1)))), none, 0⟩, ⟨(some 5), (.mv (.tmp 18)), none, 0⟩]) .skip))
 (.seq (.reg 0 [⟨(some 19), (.mv (.tmp 5)), none, 0⟩, ⟨(some 4), (.mv (.tmp 19)), none, 0⟩])
 .ret))))
theorem e126 : envOf Try.prog muts 126 = some (20, c126, [(Go.Abs.ARes.tmp 4)]) := by kernel_rfl
end Go.Abs
