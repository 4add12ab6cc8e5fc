import Derived.Test.YtodheeifecoebaaPCmin
set_option linter.all false
set_option linter.unusedVariables false
set_option linter.unusedSimpArgs false
set_option linter.unusedSectionVars false
namespace Go.Abs
open Go.Proofs
/-! ProfileNeedless: the law's code, cut -/
def c15r0 (t : ACode) : ACode :=
 (.seq (.reg 0 [⟨(some 4), (.mv (.val (.lit (.bool false)))), none, 0⟩])
 (.seq (.seq (.reg 0 [⟨(some 18), (.call false (.val (.lit (.func (.func 19) #[] #[]))) []), none, 0⟩, ⟨(some 19), (.not (.tmp 18)), none, 0⟩])
 (.cond (.tmp 19) (.seq (.reg 0 [⟨(some 4), (.mv (.val (.lit (.bool false)))), none, 0⟩])
 .ret) .skip))
 (.seq (.seq (.reg 0 [⟨(some 20), (.mv (.tmp 1)), none, 0⟩, ⟨(some 21), (.call false (.val (.lit (.func (.func 25) #[] #[]))) [(.tmp 20), (.val (.lit (.int .i64 10)))]), none, 0⟩, ⟨(some 22), (.not (.tmp 21)), none, 0⟩])
 (.cond (.tmp 22) (.seq (.reg 0 [⟨(some 4), (.mv (.val (.lit (.bool true)))), none, 0⟩])
 .ret) .skip))
 (.seq (.reg 0 [⟨(some 24), (.mv (.tmp 0)), none, 0⟩, ⟨(some 25), (.mv (.tmp 1)), none, 0⟩, ⟨(some 26), (.call false (.val (.lit (.func (.func 27) #[] #[]))) [(.tmp 25)]), none, 0⟩, ⟨(some 27), (.call false (.val (.lit (.func (.func 69) #[] #[]))) [(.tmp 24), (.tmp 26)]), none, 0⟩, ⟨(some 23), (.mv (.tmp 27)), none, 0⟩, ⟨(some 28), (.ext (.tmp 23) 0), none, 0⟩, ⟨(some 29), (.ext (.tmp 23) 1), none, 0⟩, ⟨(some 5), (.mv (.tmp 28)), none, 0⟩, ⟨(some 6), (.mv (.tmp 29)), none, 0⟩])
 (.seq (.reg 0 [⟨(some 30), (.mv (.tmp 0)), none, 0⟩, ⟨(some 31), (.mv (.tmp 1)), none, 0⟩, ⟨(some 32), (.call false (.val (.lit (.func (.func 29) #[] #[]))) [(.tmp 30), (.tmp 31)]), none, 0⟩, ⟨(some 7), (.mv (.tmp 32)), none, 0⟩])
 (.seq (.seq (.reg 0 [⟨(some 33), (.mv (.tmp 7)), none, 0⟩, ⟨(some 34), (.bin .eql (.tmp 33) (.val (.lit (.int .i64 0)))), none, 0⟩])
 (.cond (.tmp 34) (.seq (.reg 0 [⟨(some 36), (.mv (.tmp 0)), none, 0⟩, ⟨(some 37), (.mv (.tmp 1)), none, 0⟩, ⟨(some 38), (.call false (.val (.lit (.func (.func 70) #[] #[]))) [(.tmp 36), (.tmp 37)]), none, 0⟩, ⟨(some 35), (.mv (.tmp 38)), none, 0⟩, ⟨(some 39), (.ext (.tmp 35) 0), none, 0⟩, ⟨(some 40), (.ext (.tmp 35) 1), none, 0⟩, ⟨(some 8), (.mv (.tmp 39)), none, 0⟩, ⟨(some 9), (.mv (.tmp 40)), none, 0⟩])
 (.seq (.reg 0 [⟨(some 41), (.mv (.tmp 9)), none, 0⟩, ⟨(some 42), (.not (.tmp 41)), none, 0⟩])
 (.cond (.tmp 42) (.reg 0 [⟨(some 7), (.mv (.val (.lit (.int .i64 13)))), none, 0⟩]) .skip))) .skip))
 t))))))
def c15r1 (t : ACode) : ACode :=
 (.seq (.seq (.reg 0 [⟨(some 43), (.mv (.tmp 7)), none, 0⟩, ⟨(some 44), (.bin .neq (.tmp 43) (.val (.lit (.int .i64 0)))), none, 0⟩])
 (.cond (.tmp 44) (.seq (.reg 0 [⟨(some 45), (.mv (.tmp 6)), none, 0⟩, ⟨(some 46), (.mv (.tmp 7)), none, 0⟩, ⟨(some 47), (.bin .eql (.tmp 45) (.tmp 46)), none, 0⟩, ⟨(some 48), (.mv (.tmp 47)), none, 0⟩, ⟨(some 49), (.mv (.tmp 5)), (some (48, true)), 0⟩, ⟨(some 50), (.len (.tmp 49)), (some (48, true)), 0⟩, ⟨(some 51), (.bin .eql (.tmp 50) (.val (.lit (.int .i64 0)))), (some (48, true)), 0⟩, ⟨(some 52), (.pick (.tmp 48) (.tmp 51) (.val (.lit (.bool false)))), none, 0⟩, ⟨(some 4), (.mv (.tmp 52)), none, 0⟩])
 .ret) .skip))
 (.seq (.seq (.reg 0 [⟨(some 53), (.mv (.tmp 6)), none, 0⟩, ⟨(some 54), (.bin .neq (.tmp 53) (.val (.lit (.int .i64 0)))), none, 0⟩, ⟨(some 55), (.mv (.tmp 54)), none, 0⟩, ⟨(some 56), (.mv (.tmp 5)), (some (55, false)), 0⟩, ⟨(some 57), (.mv (.tmp 0)), (some (55, false)), 0⟩, ⟨(some 58), (.mv (.tmp 1)), (some (55, false)), 0⟩, ⟨(some 59), (.call false (.val (.lit (.func (.func 71) #[] #[]))) [(.tmp 57), (.tmp 58)]), (some (55, false)), 0⟩, ⟨(some 60), (.call false (.val (.lit (.func (.func 48) #[] #[]))) [(.tmp 56), (.tmp 59)]), (some (55, false)), 0⟩, ⟨(some 61), (.not (.tmp 60)), (some (55, false)), 0⟩, ⟨(some 62), (.pick (.tmp 55) (.val (.lit (.bool true))) (.tmp 61)), none, 0⟩])
 (.cond (.tmp 62) (.seq (.reg 0 [⟨(some 4), (.mv (.val (.lit (.bool false)))), none, 0⟩])
 .ret) .skip))
 t))
def c15r2 (t : ACode) : ACode :=
 (.seq (.reg 0 [⟨(some 10), (.mv (.val (.sl true 0 []))), none, 0⟩])
 (.seq (.seq (.reg 0 [⟨(some 11), (.mv (.val (.lit (.int .i64 0)))), none, 0⟩])
 (.block 0 (.loop c15l0)))
 t))
def c15r3 : ACode :=
 (.seq (.reg 0 [⟨(some 81), (.mv (.tmp 0)), none, 0⟩, ⟨(some 82), (.mv (.tmp 1)), none, 0⟩, ⟨(some 83), (.call false (.val (.lit (.func (.func 27) #[] #[]))) [(.tmp 82)]), none, 0⟩, ⟨(some 84), (.call false (.val (.lit (.func (.func 31) #[] #[]))) [(.tmp 81), (.tmp 83)]), none, 0⟩, ⟨(some 80), (.mv (.tmp 84)), none, 0⟩, ⟨(some 85), (.ext (.tmp 80) 0), none, 0⟩, ⟨(some 86), (.ext (.tmp 80) 1), none, 0⟩, ⟨(some 87), (.ext (.tmp 80) 2), none, 0⟩, ⟨(some 12), (.mv (.tmp 85)), none, 0⟩, ⟨(some 13), (.mv (.tmp 86)), none, 0⟩, ⟨(some 14), (.mv (.tmp 87)), none, 0⟩])
 (.seq (.reg 0 [⟨(some 89), (.mv (.tmp 0)), none, 0⟩, ⟨(some 90), (.mv (.tmp 10)), none, 0⟩, ⟨(some 91), (.call false (.val (.lit (.func (.func 31) #[] #[]))) [(.tmp 89), (.tmp 90)]), none, 0⟩, ⟨(some 88), (.mv (.tmp 91)), none, 0⟩, ⟨(some 92), (.ext (.tmp 88) 0), none, 0⟩, ⟨(some 93), (.ext (.tmp 88) 1), none, 0⟩, ⟨(some 94), (.ext (.tmp 88) 2), none, 0⟩, ⟨(some 15), (.mv (.tmp 92)), none, 0⟩, ⟨(some 16), (.mv (.tmp 93)), none, 0⟩, ⟨(some 17), (.mv (.tmp 94)), none, 0⟩])
 (.seq (.reg 0 [⟨(some 95), (.mv (.tmp 14)), none, 0⟩, ⟨(some 96), (.mv (.tmp 17)), none, 0⟩, ⟨(some 97), (.bin .eql (.tmp 95) (.tmp 96)), none, 0⟩, ⟨(some 98), (.mv (.tmp 97)), none, 0⟩, ⟨(some 99), (.mv (.tmp 12)), (some (98, true)), 0⟩, ⟨(some 100), (.mv (.tmp 15)), (some (98, true)), 0⟩, ⟨(some 101), (.call false (.val (.lit (.func (.func 50) #[] #[]))) [(.tmp 99), (.tmp 100)]), (some (98, true)), 0⟩, ⟨(some 102), (.pick (.tmp 98) (.tmp 101) (.val (.lit (.bool false)))), none, 0⟩, ⟨(some 4), (.mv (.tmp 102)), none, 0⟩])
 .ret)))
theorem c15_cut : c15 = c15r0 (c15r1 (c15r2 c15r3)) := rfl
end Go.Abs
