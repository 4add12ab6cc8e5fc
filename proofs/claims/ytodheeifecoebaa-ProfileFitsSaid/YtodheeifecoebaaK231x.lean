import Derived.Test.YtodheeifecoebaaK230x
set_option linter.all false
set_option linter.unusedVariables false
set_option linter.unusedSimpArgs false
set_option linter.unusedSectionVars false
namespace Go.Abs
open Go.Proofs
def c77r1 : ACode :=
 (.seq (.seq (.reg 0 [⟨(some 78), (.mv (.tmp 9)), none, 0⟩, ⟨(some 79), (.bin .eql (.tmp 78) (.val (.lit (.int .i64 0)))), none, 0⟩])
 (.cond (.tmp 79) (.seq (.reg 0 [⟨(some 80), (.build [(.sl true 0 []), (.lit (.int .i64 0))] []), none, 0⟩, ⟨none, (.store 2 (.tmp 4) (.tmp 80)), none, 0⟩, ⟨(some 5), (.mv (.val (.lit (.int .i64 11)))), none, 0⟩])
 .ret) .skip))
 (.seq (.reg 0 [⟨(some 81), (.mv (.tmp 9)), none, 0⟩, ⟨(some 16), (.mv (.tmp 81)), none, 0⟩])
 (.seq (.seq (.reg 0 [⟨(some 82), (.mv (.tmp 8)), none, 0⟩, ⟨(some 83), (.len (.tmp 82)), none, 0⟩, ⟨(some 84), (.mv (.val (.lit (.int .i64 0)))), none, 0⟩])
 (.block 0 (.loop c77l0)))
 (.seq (.seq (.reg 0 [⟨(some 92), (.mv (.tmp 8)), none, 0⟩, ⟨(some 93), (.len (.tmp 92)), none, 0⟩, ⟨(some 94), (.mv (.val (.lit (.int .i64 0)))), none, 0⟩])
 (.block 2 (.loop c77l1)))
 (.seq (.reg 0 [⟨(some 105), (.mv (.tmp 8)), none, 0⟩, ⟨(some 106), (.mv (.tmp 9)), none, 0⟩, ⟨(some 107), (.mv (.tmp 16)), none, 0⟩, ⟨(some 108), (.bin .quo (.tmp 106) (.tmp 107)), none, 0⟩, ⟨(some 109), (.build [(.sl true 0 []), (.lit (.int .i64 0))] [(0, (1, (.tmp 105))), (1, (1, (.tmp 108)))]), none, 0⟩, ⟨none, (.store 2 (.tmp 4) (.tmp 109)), none, 0⟩, ⟨(some 5), (.mv (.val (.lit (.int .i64 0)))), none, 0⟩])
 .ret)))))
theorem c77_cut : c77 = (.seq (.reg 1 [⟨(some 4), (.alloc [(.sl true 0 []), (.lit (.int .i64 0))]), none, 0⟩, ⟨(some 5), (.mv (.val (.lit (.int .i64 0)))), none, 1⟩])
 (.seq (.seq (.reg 0 [⟨(some 20), (.mv (.tmp 0)), none, 0⟩, ⟨(some 21), (.mv (.tmp 1)), none, 0⟩, ⟨(some 22), (.call false (.val (.lit (.func (.func 135) #[] #[]))) [(.tmp 20), (.tmp 21)]), none, 0⟩, ⟨(some 6), (.mv (.tmp 22)), none, 0⟩])
 (.seq (.reg 0 [⟨(some 23), (.mv (.tmp 6)), none, 0⟩, ⟨(some 24), (.bin .neq (.tmp 23) (.val (.lit (.int .i64 0)))), none, 0⟩])
 (.cond (.tmp 24) (.seq (.reg 0 [⟨(some 25), (.build [(.sl true 0 []), (.lit (.int .i64 0))] []), none, 0⟩, ⟨(some 26), (.mv (.tmp 6)), none, 0⟩, ⟨none, (.store 2 (.tmp 4) (.tmp 25)), none, 0⟩, ⟨(some 5), (.mv (.tmp 26)), none, 0⟩])
 .ret) .skip)))
 (.seq (.reg 0 [⟨(some 27), (.mv (.tmp 0)), none, 0⟩, ⟨(some 28), (.iaddrS 1 (.tmp 27) (.val (.lit (.int .i64 0)))), none, 0⟩, ⟨(some 29), (.load 1 false (.tmp 28)), none, 0⟩, ⟨(some 7), (.mv (.tmp 29)), none, 0⟩])
 (.seq (.reg 1 [⟨(some 30), (.mv (.tmp 7)), none, 0⟩, ⟨(some 31), (.mv (.tmp 1)), none, 0⟩, ⟨(some 32), (.call false (.val (.lit (.func (.func 136) #[] #[]))) [(.tmp 30), (.tmp 31)]), none, 0⟩, ⟨(some 33), (.bslice 1 1 [(.lit (.int .i64 0))] [(0, (.tmp 32))]), none, 0⟩, ⟨(some 34), (.mv (.tmp 7)), none, 1⟩, ⟨(some 35), (.mv (.tmp 7)), none, 1⟩, ⟨(some 36), (.call false (.val (.lit (.func (.func 136) #[] #[]))) [(.tmp 34), (.tmp 35)]), none, 1⟩, ⟨(some 8), (.mv (.tmp 33)), none, 1⟩, ⟨(some 9), (.mv (.tmp 36)), none, 1⟩])
 (.seq (.seq (.reg 0 [⟨(some 37), (.mv (.tmp 0)), none, 0⟩, ⟨(some 38), (.len (.tmp 37)), none, 0⟩, ⟨(some 39), (.bin .eql (.tmp 38) (.val (.lit (.int .i64 2)))), none, 0⟩])
 (.cond (.tmp 39) (.seq (.reg 0 [⟨(some 40), (.mv (.tmp 0)), none, 0⟩, ⟨(some 41), (.iaddrS 1 (.tmp 40) (.val (.lit (.int .i64 1)))), none, 0⟩, ⟨(some 42), (.load 1 false (.tmp 41)), none, 0⟩, ⟨(some 10), (.mv (.tmp 42)), none, 0⟩])
 (.seq (.dreg 0 [(0, ⟨(some 43), (.mv (.tmp 9)), none, 0⟩), (1, ⟨(some 44), (.mv (.tmp 7)), none, 0⟩), (2, ⟨(some 45), (.mv (.tmp 10)), none, 0⟩), (3, ⟨(some 46), (.call false (.val (.lit (.func (.func 136) #[] #[]))) [(.tmp 44), (.tmp 45)]), none, 0⟩), (4, ⟨(some 47), (.mv (.tmp 10)), none, 0⟩), (5, ⟨(some 48), (.mv (.tmp 10)), none, 0⟩), (6, ⟨(some 49), (.call false (.val (.lit (.func (.func 136) #[] #[]))) [(.tmp 47), (.tmp 48)]), none, 0⟩), (7, ⟨(some 50), (.mv (.tmp 8)), none, 0⟩), (8, ⟨(some 51), (.iaddrS 1 (.tmp 50) (.val (.lit (.int .i64 0)))), none, 0⟩), (9, ⟨(some 52), (.load 1 false (.tmp 51)), none, 0⟩), (10, ⟨(some 53), (.mv (.tmp 10)), none, 0⟩), (11, ⟨(some 54), (.mv (.tmp 1)), none, 0⟩), (12, ⟨(some 55), (.call false (.val (.lit (.func (.func 136) #[] #[]))) [(.tmp 53), (.tmp 54)]), none, 0⟩), (13, ⟨(some 11), (.mv (.tmp 43)), none, 0⟩), (14, ⟨(some 12), (.mv (.tmp 46)), none, 0⟩), (15, ⟨(some 13), (.mv (.tmp 49)), none, 0⟩), (16, ⟨(some 14), (.mv (.tmp 52)), none, 0⟩), (17, ⟨(some 15), (.mv (.tmp 55)), none, 0⟩)] [[], [], [], [1, 2], [], [], [4, 5, 3, 1, 2], [], [7], [8, 7], [], [], [10, 11, 6, 4, 5, 3, 1, 2], [0, 12, 10, 11, 6, 4, 5, 3, 1, 2], [3, 13, 0, 1, 2, 12, 10, 11, 6, 4, 5], [6, 14, 0, 1, 2, 3, 4, 5, 13, 12, 10, 11], [9, 15, 0, 1, 2, 3, 4, 5, 6, 7, 8, 13, 14, 12, 10, 11], [12, 16, 0, 1, 2, 3, 4, 5, 6, 7, 8, 9, 10, 11, 13, 14, 15]])
 (.reg 1 [⟨(some 56), (.mv (.tmp 14)), none, 0⟩, ⟨(some 57), (.mv (.tmp 13)), none, 0⟩, ⟨(some 58), (.bin .mul (.tmp 56) (.tmp 57)), none, 0⟩, ⟨(some 59), (.mv (.tmp 15)), none, 0⟩, ⟨(some 60), (.mv (.tmp 12)), none, 0⟩, ⟨(some 61), (.bin .mul (.tmp 59) (.tmp 60)), none, 0⟩, ⟨(some 62), (.bin .sub (.tmp 58) (.tmp 61)), none, 0⟩, ⟨(some 63), (.mv (.tmp 15)), none, 0⟩, ⟨(some 64), (.mv (.tmp 11)), none, 0⟩, ⟨(some 65), (.bin .mul (.tmp 63) (.tmp 64)), none, 0⟩, ⟨(some 66), (.mv (.tmp 14)), none, 0⟩, ⟨(some 67), (.mv (.tmp 12)), none, 0⟩, ⟨(some 68), (.bin .mul (.tmp 66) (.tmp 67)), none, 0⟩, ⟨(some 69), (.bin .sub (.tmp 65) (.tmp 68)), none, 0⟩, ⟨(some 70), (.bslice 1 2 [(.lit (.int .i64 0))] [(0, (.tmp 62)), (1, (.tmp 69))]), none, 0⟩, ⟨(some 71), (.mv (.tmp 11)), none, 1⟩, ⟨(some 72), (.mv (.tmp 13)), none, 1⟩, ⟨(some 73), (.bin .mul (.tmp 71) (.tmp 72)), none, 1⟩, ⟨(some 74), (.mv (.tmp 12)), none, 1⟩, ⟨(some 75), (.mv (.tmp 12)), none, 1⟩, ⟨(some 76), (.bin .mul (.tmp 74) (.tmp 75)), none, 1⟩, ⟨(some 77), (.bin .sub (.tmp 73) (.tmp 76)), none, 1⟩, ⟨(some 8), (.mv (.tmp 70)), none, 1⟩, ⟨(some 9), (.mv (.tmp 77)), none, 1⟩]))) .skip))
 c77r1))))) := rfl
def c82r1 : ACode :=
 (.seq (.seq (.reg 0 [⟨(some 86), (.faddr 1 (.tmp 6)), none, 0⟩, ⟨(some 87), (.load 1 false (.tmp 86)), none, 0⟩, ⟨(some 88), (.bin .eql (.tmp 87) (.val (.lit (.int .i64 0)))), none, 0⟩])
 (.cond (.tmp 88) (.seq (.reg 0 [⟨(some 89), (.build [(.sl true 0 []), (.lit (.int .i64 0))] []), none, 0⟩, ⟨none, (.store 2 (.tmp 4) (.tmp 89)), none, 0⟩, ⟨(some 5), (.mv (.val (.lit (.bool false)))), none, 0⟩])
 .ret) .skip))
 (.seq (.reg 0 [⟨(some 90), (.faddr 1 (.tmp 6)), none, 0⟩, ⟨(some 91), (.load 1 false (.tmp 90)), none, 0⟩, ⟨(some 12), (.mv (.tmp 91)), none, 0⟩])
 (.seq (.seq (.reg 0 [⟨(some 13), (.mv (.val (.lit (.int .i64 0)))), none, 0⟩])
 (.block 0 (.loop c82l0)))
 (.seq (.reg 0 [⟨(some 106), (.faddr 1 (.tmp 6)), none, 0⟩, ⟨(some 107), (.load 1 false (.tmp 106)), none, 0⟩, ⟨(some 108), (.mv (.tmp 12)), none, 0⟩, ⟨(some 109), (.bin .quo (.tmp 107) (.tmp 108)), none, 0⟩, ⟨(some 110), (.faddr 1 (.tmp 6)), none, 0⟩, ⟨none, (.store 1 (.tmp 110) (.tmp 109)), none, 0⟩])
 (.seq (.seq (.reg 0 [⟨(some 14), (.mv (.val (.lit (.int .i64 0)))), none, 0⟩])
 (.block 2 (.loop c82l1)))
 (.seq (.reg 0 [⟨(some 129), (.load 2 true (.tmp 6)), none, 0⟩, ⟨none, (.store 2 (.tmp 4) (.tmp 129)), none, 0⟩, ⟨(some 5), (.mv (.val (.lit (.bool true)))), none, 0⟩])
 .ret))))))
theorem c82_cut : c82 = (.seq (.reg 1 [⟨(some 4), (.alloc [(.sl true 0 []), (.lit (.int .i64 0))]), none, 0⟩, ⟨(some 5), (.mv (.val (.lit (.bool false)))), none, 1⟩])
 (.seq (.dreg 2 [(0, ⟨(some 15), (.mv (.tmp 0)), none, 0⟩), (1, ⟨(some 16), (.iaddrS 1 (.tmp 15) (.val (.lit (.int .i64 0)))), none, 0⟩), (2, ⟨(some 17), (.load 1 false (.tmp 16)), none, 0⟩), (3, ⟨(some 18), (.mv (.tmp 1)), none, 0⟩), (4, ⟨(some 19), (.call false (.val (.lit (.func (.func 140) #[] #[]))) [(.tmp 17), (.tmp 18)]), none, 0⟩), (5, ⟨(some 20), (.bslice 1 1 [(.lit (.int .i64 0))] [(0, (.tmp 19))]), none, 0⟩), (6, ⟨(some 21), (.mv (.tmp 0)), none, 1⟩), (7, ⟨(some 22), (.iaddrS 1 (.tmp 21) (.val (.lit (.int .i64 0)))), none, 1⟩), (8, ⟨(some 23), (.load 1 false (.tmp 22)), none, 1⟩), (9, ⟨(some 24), (.mv (.tmp 0)), none, 1⟩), (10, ⟨(some 25), (.iaddrS 1 (.tmp 24) (.val (.lit (.int .i64 0)))), none, 1⟩), (11, ⟨(some 26), (.load 1 false (.tmp 25)), none, 1⟩), (12, ⟨(some 27), (.call false (.val (.lit (.func (.func 140) #[] #[]))) [(.tmp 23), (.tmp 26)]), none, 1⟩), (13, ⟨(some 28), (.build [(.sl true 0 []), (.lit (.int .i64 0))] [(0, (1, (.tmp 20))), (1, (1, (.tmp 27)))]), none, 1⟩), (14, ⟨(some 6), (.alloc [(.sl true 0 []), (.lit (.int .i64 0))]), none, 1⟩), (15, ⟨none, (.store 2 (.tmp 6) (.tmp 28)), none, 2⟩)] [[], [0], [1, 0], [], [2, 3, 1, 0], [4, 2, 3, 1, 0], [], [6], [7, 6], [], [9], [10, 9], [8, 11, 4, 7, 6, 10, 9, 2, 3, 1, 0], [5, 12, 4, 2, 3, 1, 0, 8, 11, 7, 6, 10, 9], [], [14, 13, 12, 0, 1, 2, 3, 4, 5, 6, 7, 8, 9, 10, 11]])
 (.seq (.seq (.reg 0 [⟨(some 29), (.mv (.tmp 0)), none, 0⟩, ⟨(some 30), (.len (.tmp 29)), none, 0⟩, ⟨(some 31), (.bin .eql (.tmp 30) (.val (.lit (.int .i64 2)))), none, 0⟩])
 (.cond (.tmp 31) (.seq (.dreg 0 [(0, ⟨(some 32), (.mv (.tmp 0)), none, 0⟩), (1, ⟨(some 33), (.iaddrS 1 (.tmp 32) (.val (.lit (.int .i64 0)))), none, 0⟩), (2, ⟨(some 34), (.load 1 false (.tmp 33)), none, 0⟩), (3, ⟨(some 35), (.mv (.tmp 0)), none, 0⟩), (4, ⟨(some 36), (.iaddrS 1 (.tmp 35) (.val (.lit (.int .i64 0)))), none, 0⟩), (5, ⟨(some 37), (.load 1 false (.tmp 36)), none, 0⟩), (6, ⟨(some 38), (.call false (.val (.lit (.func (.func 140) #[] #[]))) [(.tmp 34), (.tmp 37)]), none, 0⟩), (7, ⟨(some 39), (.mv (.tmp 0)), none, 0⟩), (8, ⟨(some 40), (.iaddrS 1 (.tmp 39) (.val (.lit (.int .i64 0)))), none, 0⟩), (9, ⟨(some 41), (.load 1 false (.tmp 40)), none, 0⟩), (10, ⟨(some 42), (.mv (.tmp 0)), none, 0⟩), (11, ⟨(some 43), (.iaddrS 1 (.tmp 42) (.val (.lit (.int .i64 1)))), none, 0⟩), (12, ⟨(some 44), (.load 1 false (.tmp 43)), none, 0⟩), (13, ⟨(some 45), (.call false (.val (.lit (.func (.func 140) #[] #[]))) [(.tmp 41), (.tmp 44)]), none, 0⟩), (14, ⟨(some 46), (.mv (.tmp 0)), none, 0⟩), (15, ⟨(some 47), (.iaddrS 1 (.tmp 46) (.val (.lit (.int .i64 1)))), none, 0⟩), (16, ⟨(some 48), (.load 1 false (.tmp 47)), none, 0⟩), (17, ⟨(some 49), (.mv (.tmp 0)), none, 0⟩), (18, ⟨(some 50), (.iaddrS 1 (.tmp 49) (.val (.lit (.int .i64 1)))), none, 0⟩), (19, ⟨(some 51), (.load 1 false (.tmp 50)), none, 0⟩), (20, ⟨(some 52), (.call false (.val (.lit (.func (.func 140) #[] #[]))) [(.tmp 48), (.tmp 51)]), none, 0⟩), (21, ⟨(some 7), (.mv (.tmp 38)), none, 0⟩), (22, ⟨(some 8), (.mv (.tmp 45)), none, 0⟩), (23, ⟨(some 9), (.mv (.tmp 52)), none, 0⟩)] [[], [0], [1, 0], [], [3], [4, 3], [2, 5, 1, 0, 4, 3], [], [7], [8, 7], [], [10], [11, 10], [9, 12, 6, 8, 7, 11, 10, 2, 5, 1, 0, 4, 3], [], [14], [15, 14], [], [17], [18, 17], [16, 19, 13, 15, 14, 18, 17, 9, 12, 6, 8, 7, 11, 10, 2, 5, 1, 0, 4, 3], [6, 20, 0, 1, 2, 3, 4, 5, 16, 19, 13, 15, 14, 18, 17, 9, 12, 8, 7, 11, 10], [13, 21, 0, 1, 2, 3, 4, 5, 6, 7, 8, 9, 10, 11, 12, 20, 16, 19, 15, 14, 18, 17], [20, 22, 0, 1, 2, 3, 4, 5, 6, 7, 8, 9, 10, 11, 12, 13, 14, 15, 16, 17, 18, 19, 21]])
 (.seq (.dreg 0 [(0, ⟨(some 53), (.mv (.tmp 0)), none, 0⟩), (1, ⟨(some 54), (.iaddrS 1 (.tmp 53) (.val (.lit (.int .i64 0)))), none, 0⟩), (2, ⟨(some 55), (.load 1 false (.tmp 54)), none, 0⟩), (3, ⟨(some 56), (.mv (.tmp 1)), none, 0⟩), (4, ⟨(some 57), (.call false (.val (.lit (.func (.func 140) #[] #[]))) [(.tmp 55), (.tmp 56)]), none, 0⟩), (5, ⟨(some 58), (.mv (.tmp 0)), none, 0⟩), (6, ⟨(some 59), (.iaddrS 1 (.tmp 58) (.val (.lit (.int .i64 1)))), none, 0⟩), (7, ⟨(some 60), (.load 1 false (.tmp 59)), none, 0⟩), (8, ⟨(some 61), (.mv (.tmp 1)), none, 0⟩), (9, ⟨(some 62), (.call false (.val (.lit (.func (.func 140) #[] #[]))) [(.tmp 60), (.tmp 61)]), none, 0⟩), (10, ⟨(some 10), (.mv (.tmp 57)), none, 0⟩), (11, ⟨(some 11), (.mv (.tmp 62)), none, 0⟩)] [[], [0], [1, 0], [], [2, 3, 1, 0], [], [5], [6, 5], [], [7, 8, 4, 6, 5, 2, 3, 1, 0], [4, 9, 0, 1, 2, 3, 7, 8, 6, 5], [9, 10, 0, 1, 2, 3, 4, 5, 6, 7, 8]])
 (.reg 1 [⟨(some 63), (.mv (.tmp 10)), none, 0⟩, ⟨(some 64), (.mv (.tmp 9)), none, 0⟩, ⟨(some 65), (.bin .mul (.tmp 63) (.tmp 64)), none, 0⟩, ⟨(some 66), (.mv (.tmp 11)), none, 0⟩, ⟨(some 67), (.mv (.tmp 8)), none, 0⟩, ⟨(some 68), (.bin .mul (.tmp 66) (.tmp 67)), none, 0⟩, ⟨(some 69), (.bin .sub (.tmp 65) (.tmp 68)), none, 0⟩, ⟨(some 70), (.mv (.tmp 11)), none, 0⟩, ⟨(some 71), (.mv (.tmp 7)), none, 0⟩, ⟨(some 72), (.bin .mul (.tmp 70) (.tmp 71)), none, 0⟩, ⟨(some 73), (.mv (.tmp 10)), none, 0⟩, ⟨(some 74), (.mv (.tmp 8)), none, 0⟩, ⟨(some 75), (.bin .mul (.tmp 73) (.tmp 74)), none, 0⟩, ⟨(some 76), (.bin .sub (.tmp 72) (.tmp 75)), none, 0⟩, ⟨(some 77), (.bslice 1 2 [(.lit (.int .i64 0))] [(0, (.tmp 69)), (1, (.tmp 76))]), none, 0⟩, ⟨(some 78), (.mv (.tmp 7)), none, 1⟩, ⟨(some 79), (.mv (.tmp 9)), none, 1⟩, ⟨(some 80), (.bin .mul (.tmp 78) (.tmp 79)), none, 1⟩, ⟨(some 81), (.mv (.tmp 8)), none, 1⟩, ⟨(some 82), (.mv (.tmp 8)), none, 1⟩, ⟨(some 83), (.bin .mul (.tmp 81) (.tmp 82)), none, 1⟩, ⟨(some 84), (.bin .sub (.tmp 80) (.tmp 83)), none, 1⟩, ⟨(some 85), (.build [(.sl true 0 []), (.lit (.int .i64 0))] [(0, (1, (.tmp 77))), (1, (1, (.tmp 84)))]), none, 1⟩, ⟨none, (.store 2 (.tmp 6) (.tmp 85)), none, 1⟩]))) .skip))
 c82r1))) := rfl

/-! the fit: numbers divided by what they have in common -/
def gfP (N : List Int) (D : Int) : Nat → Int
  | 0 => D
  | k + 1 => Int.gcd (N.getD k 0) (gfP N D k)
theorem gcd_le {x y : Int} (hy : y ≠ 0) : 1 ≤ (Int.gcd x y : Int) ∧ (Int.gcd x y : Int) ≤ (y.natAbs : Int) := by
  have h1 : 0 < Int.gcd x y := Int.gcd_pos_of_ne_zero_right _ hy
  have h2 : Int.gcd x y ∣ y.natAbs := Nat.gcd_dvd_right _ _
  have h3 := Nat.le_of_dvd (by omega) h2
  omega
theorem gfP_bd {N : List Int} {D : Int} (hD : D ≠ 0) : ∀ k, gfP N D k ≠ 0 ∧ (gfP N D k).natAbs ≤ D.natAbs
  | 0 => ⟨hD, Nat.le_refl _⟩
  | k + 1 => by
    have h := gfP_bd (N := N) hD k
    have h2 := gcd_le (x := N.getD k 0) h.1
    unfold gfP
    omega
def dvN (N : List Int) (g : Int) (k j : Nat) : Int := if j < k then (N.getD j 0).tdiv g else N.getD j 0
theorem dvN_zero (N : List Int) (g : Int) : mk N.length (dvN N g 0) = N := by
  conv => rhs; rw [← mk_self N]
  exact mk_congr fun j _ => by simp [dvN]
theorem dvN_at (N : List Int) (g : Int) (k : Nat) : dvN N g k k = N.getD k 0 := by simp [dvN]
theorem dvN_set (N : List Int) (g : Int) (k : Nat) : (mk N.length (dvN N g k)).set k ((N.getD k 0).tdiv g) = mk N.length (dvN N g (k + 1)) := by
  rw [mk_set]
  refine mk_congr fun j _ => ?_
  by_cases h : j = k
  · subst h; simp [dvN]
  · rw [if_neg h]; unfold dvN
    by_cases h2 : j < k
    · rw [if_pos h2, if_pos (by omega)]
    · rw [if_neg h2, if_neg (by omega)]
def dvL (N : List Int) (g : Int) : List Int := mk N.length (dvN N g N.length)
theorem dvL_len (N : List Int) (g : Int) : (dvL N g).length = N.length := mk_len _ _
theorem dvL_get {N : List Int} {g : Int} {k : Nat} (h : k < N.length) : (dvL N g).getD k 0 = (N.getD k 0).tdiv g := by
  unfold dvL; rw [mk_get h]; unfold dvN; rw [if_pos h]
theorem tdivI_bd {x g : Int} {B : Int} (h : -B ≤ x ∧ x ≤ B) : -B ≤ x.tdiv g ∧ x.tdiv g ≤ B := by
  have h1 : (x.tdiv g).natAbs ≤ x.natAbs := by rw [Int.natAbs_tdiv]; exact Nat.div_le_self _ _
  omega
section
variable {N : List Int} {D : Int}
set_option maxHeartbeats 8000000 in
theorem k77t (hm : 1 ≤ N.length ∧ N.length ≤ 2) (hN : ∀ k, k < N.length → -10000000000000 ≤ N.getD k 0 ∧ N.getD k 0 ≤ 10000000000000) (hDb : -100000000000 ≤ D ∧ D ≤ 100000000000) {ws : List AV}
    (hw : ws = if D = 0 then [.agg [.sl true 0 [], i64 0], i64 11] else [.agg [ints false (dvL N (gfP N D N.length)), i64 (D.tdiv (gfP N D N.length))], i64 0]) :
    T none Try.prog muts 110 0 c77r1 ⟨[(4, .loc 0 0 0), (8, .lsl 1 0 N.length), (9, i64 D)], [.cells true false 2 [[.sl true 0 [], i64 0]], iB N]⟩ (leaveG 2 [ARes.cell 2 true 4, ARes.tmp 5] ws) := by
  by_cases hD : D = 0
  · rw [if_pos hD] at hw
    subst hw hD
    unfold c77r1
    repeat' (first
      | ((with_reducible refine T_calm ?_ ?_); rfl)
      | with_reducible first
        | refine T_seq ?_
        | refine T_reg ?_
        | refine T_draw ?_
        | refine T_skip ?_
        | refine T_exit ?_
        | refine T_block ?_
        | refine T_cond_t rfl ?_
        | refine T_cond_f rfl ?_
        | refine wdW_cons rfl ?_
        | ((first | refine T_cond rfl (fun hc => ?_) (fun hc => ?_) | refine wguard_split (fun hc => ?_) (fun hc => ?_) | refine wguardX_split (fun hc => ?_) (fun hc => ?_)) <;> have hd := hc <;> (try simp (disch := omega) only [wrapI] at hd) <;> have hs := hd <;> (try simp only [Bool.not_eq_true', Bool.not_eq_false', Bool.and_eq_true, Bool.and_eq_false_iff, Bool.or_eq_true, Bool.or_eq_false_iff, decide_eq_true_eq, decide_eq_false_iff_not, beq_iff_eq, bne_iff_ne, beq_eq_false_iff_ne, bne_eq_false_iff_eq, Bool.not_true, Bool.not_false, gt_iff_lt, ge_iff_le, Int.not_lt, Int.not_le, ne_eq, Decidable.not_not] at hd) <;> (try simp at hs))
        | refine T_ret ?_
        | refine wif_intro ?_ (fun hc => ?_)
        | refine And.intro ?_ ?_
        | intro hc
      | simp (maxSteps := 4000000) only [wops_nil, wops_cons, wstep_none, wrun_mv, wrun_bin, wrun_build, wrun_store, wop, aop, ev, look, put_some, put_none, writes, ores_some, binV, thenK, hget, fillA, putCells, AV.parts, isOne, toLits, mkAgg, List.map_nil, List.length_cons, List.length_nil, List.getElem?_cons_zero, List.set_cons_zero, List.take_zero, List.drop_succ_cons, List.drop_nil, List.nil_append, List.append_nil, List.replicate_zero, List.getD_cons_zero, List.all_cons, List.all_nil, Option.getD_some, Option.map_some, if_true, if_false, Nat.reduceEqDiff, Nat.reduceAdd, Nat.reduceLT, Nat.zero_add, Nat.le_refl, reduceCtorEq, Bool.and_true, eq_self, and_self, beq_self_eq_true, List.all_cons, *]
      | simp (disch := omega) only [getD_ints, wrapI]
      | omega)
    all_goals first | exact leave_g (.inr rfl) [.agg [.sl true 0 [], i64 0], i64 11] rfl rfl rfl
  · rw [if_neg hD] at hw
    subst hw
    have hd1 : (D == 0) = false := by simp only [beq_eq_false_iff_ne]; exact hD
    have hg := fun k => gfP_bd (N := N) hD k
    replace hg := And.intro hg trivial
    replace hN := And.intro hN trivial
    unfold c77r1
    repeat' (first
      | ((with_reducible refine T_calm ?_ ?_); rfl)
      | with_reducible first
        | refine T_seq ?_
        | refine T_reg ?_
        | refine T_draw ?_
        | refine T_skip ?_
        | refine T_exit ?_
        | refine T_block ?_
        | refine T_cond_t rfl ?_
        | refine T_cond_f rfl ?_
        | refine wdW_cons rfl ?_
        | ((first | refine T_cond rfl (fun hc => ?_) (fun hc => ?_) | refine wguard_split (fun hc => ?_) (fun hc => ?_) | refine wguardX_split (fun hc => ?_) (fun hc => ?_)) <;> have hd := hc <;> (try simp (disch := omega) only [wrapI] at hd) <;> have hs := hd <;> (try simp only [Bool.not_eq_true', Bool.not_eq_false', Bool.and_eq_true, Bool.and_eq_false_iff, Bool.or_eq_true, Bool.or_eq_false_iff, decide_eq_true_eq, decide_eq_false_iff_not, beq_iff_eq, bne_iff_ne, beq_eq_false_iff_ne, bne_eq_false_iff_eq, Bool.not_true, Bool.not_false, gt_iff_lt, ge_iff_le, Int.not_lt, Int.not_le, ne_eq, Decidable.not_not] at hd) <;> (try simp at hs))
        | refine T_ret ?_
        | refine wif_intro ?_ (fun hc => ?_)
        | refine And.intro ?_ ?_
        | intro hc
      | simp (maxSteps := 4000000) only [wops_nil, wops_cons, wstep_none, wrun_mv, wrun_bin, wrun_len, wop, aop, ev, look, put_some, writes, ores_some, ores_map, ores_bind, binV, thenK, intV, lenOf, hget, List.length_cons, List.length_nil, List.getElem?_cons_zero, List.getElem?_cons_succ, List.append_nil, List.replicate_zero, Option.pure_def, Option.bind_eq_bind, Option.getD_some, Option.map_some, if_true, if_false, Nat.reduceEqDiff, Nat.reduceAdd, Nat.zero_add, reduceCtorEq, eq_self, *]
      | simp (disch := omega) only [getD_ints, wrapI]
      | omega)
    refine T_for [4, 8, 9, 16, 82, 83, 84] (fun k => ⟨[(4, .loc 0 0 0), (8, .lsl 1 0 N.length), (9, i64 D), (16, i64 (gfP N D k)), (82, .lsl 1 0 N.length), (83, i64 N.length), (84, i64 k)], [.cells true false 2 [[.sl true 0 [], i64 0]], iB N]⟩) N.length (fun _ => True) 0 ?_ trivial (Nat.zero_le _) ?_
    · simp [St.only, get_mk, look, gfP]
    intro k hk _
    by_cases hkn : k < N.length
    · have g1 : (N.map fun x => [i64 x]).getD k [] = [i64 (N.getD k 0)] := getD_ints hkn
      have b1 := hN.1 k hkn
      have b2 := hg.1 k
      have h137 := k137 (N.getD k 0) (gfP N D k) (by omega) (by omega)
      have e : gfP N D (k + 1) = Int.gcd (N.getD k 0) (gfP N D k) := rfl
      rw [e]
      clear hg hN e
      unfold c77l0
      repeat' (first
        | ((with_reducible refine T_calm ?_ ?_); rfl)
        | with_reducible first
          | refine T_seq ?_
          | refine T_reg ?_
          | refine T_draw ?_
          | refine T_skip ?_
          | refine T_exit ?_
          | refine T_block ?_
          | refine T_cond_t rfl ?_
          | refine T_cond_f rfl ?_
          | refine wdW_cons rfl ?_
          | (show wcall _ false (.lit (.func (.func 137) _ _)) _ _ _ _; refine wcall_fn (h137) rfl (by simp [plainL, plain]) ?_)
          | (show wcallX _ false (.lit (.func (.func 137) _ _)) _ _ _ _; refine wcallX_fn (h137) rfl (by simp [plainL, plain, plainR, Int.toNat_natCast]) ?_)
          | ((first | refine T_cond rfl (fun hc => ?_) (fun hc => ?_) | refine wguard_split (fun hc => ?_) (fun hc => ?_) | refine wguardX_split (fun hc => ?_) (fun hc => ?_)) <;> have hd := hc <;> (try simp (disch := omega) only [wrapI] at hd) <;> have hs := hd <;> (try simp only [decide_eq_true_eq, decide_eq_false_iff_not, Int.not_lt] at hd) <;> (try simp at hs))
          | refine T_ret ?_
          | refine leave_of (.inr rfl) _ rfl ?_
          | refine leave_of (.inl rfl) _ rfl ?_
          | refine leaveA_of (.inr rfl) _ rfl ?_
          | refine leaveA_of (.inl rfl) _ rfl ?_
          | refine wif_intro ?_ (fun hc => ?_)
          | refine And.intro ?_ ?_
          | intro hc
        | simp (maxSteps := 4000000) only [wops_nil, wops_cons, wstep_none, wrun_call, wrun_mv, wrun_bin, wrun_load, wrun_iaddrS, wrun_len, wop, aop, ev, look, put_some, writes, ores_some, ores_ite_none, ores_map, ores_bind, binV, thenK, blockK, intV, lenOf, value, cut, hget, mkAgg, List.map_cons, List.map_nil, List.length_cons, List.length_nil, List.getElem?_cons_zero, List.getElem?_cons_succ, List.take_succ_cons, List.take_nil, List.drop_zero, List.append_nil, List.replicate_zero, Option.pure_def, Option.bind_eq_bind, Option.getD_some, Option.map_some, if_true, if_false, Nat.reduceEqDiff, Nat.reduceAdd, Nat.zero_add, reduceCtorEq, Bool.false_eq_true, eq_self, true_and, and_true, and_self, decide_true, freeze, lidsL, lids, List.flatMap_cons, List.flatMap_nil, ren, Int.toNat_natCast, *]
        | simp (disch := omega) only [wrapI]
        | (with_reducible show wcall _ false (.lit (.func (.func 137) _ _)) _ _ _ _; refine wcall_fn (h137) ?_ ?_ ?_; (next => simp [rfyL, rfy, hget, ints, take_rfy, Int.toNat_natCast]); (next => simp [plainL, plain, plainR, Int.toNat_natCast]))
        | (with_reducible show wcallX _ false (.lit (.func (.func 137) _ _)) _ _ _ _; refine wcallX_fn (h137) ?_ ?_ ?_; (next => simp [rfyL, rfy, hget, ints, take_rfy, Int.toNat_natCast]); (next => simp [plainL, plain, plainR, Int.toNat_natCast]))
        | omega)
      all_goals first | (simp [St.only, get_mk, look]; done)
    · have hke : k = N.length := by omega
      subst hke
      have b2 := hg.1 N.length
      generalize gfP N D N.length = g at *
      clear hg
      have e0 := dvN_zero N g
      unfold c77l0
      repeat' (first
        | ((with_reducible refine T_calm ?_ ?_); rfl)
        | with_reducible first
          | refine T_seq ?_
          | refine T_reg ?_
          | refine T_draw ?_
          | refine T_skip ?_
          | refine T_exit ?_
          | refine T_block ?_
          | refine T_cond_t rfl ?_
          | refine T_cond_f rfl ?_
          | refine wdW_cons rfl ?_
          | ((first | refine T_cond rfl (fun hc => ?_) (fun hc => ?_) | refine wguard_split (fun hc => ?_) (fun hc => ?_) | refine wguardX_split (fun hc => ?_) (fun hc => ?_)) <;> have hd := hc <;> (try simp (disch := omega) only [wrapI] at hd) <;> have hs := hd <;> (try simp only [decide_eq_true_eq, decide_eq_false_iff_not, Int.not_lt] at hd) <;> (try simp at hs))
          | refine T_ret ?_
          | refine wif_intro ?_ (fun hc => ?_)
          | refine And.intro ?_ ?_
          | intro hc
        | simp (maxSteps := 4000000) only [wops_nil, wops_cons, wstep_none, wrun_mv, wrun_bin, wrun_len, wop, aop, ev, look, put_some, writes, ores_some, ores_map, ores_bind, binV, thenK, blockK, intV, lenOf, hget, List.length_cons, List.length_nil, List.getElem?_cons_zero, List.getElem?_cons_succ, List.append_nil, List.replicate_zero, Option.pure_def, Option.bind_eq_bind, Option.getD_some, Option.map_some, if_true, if_false, Nat.reduceEqDiff, Nat.reduceAdd, Nat.zero_add, reduceCtorEq, eq_self, and_true, false_and, Int.toNat_natCast, *]
        | simp (disch := omega) only [getD_ints, wrapI]
        | omega)
      refine T_for [4, 8, 9, 16, 93, 94] (fun k => ⟨[(4, .loc 0 0 0), (8, .lsl 1 0 N.length), (9, i64 D), (16, i64 g), (93, i64 N.length), (94, i64 k)], [.cells true false 2 [[.sl true 0 [], i64 0]], iB (mk N.length (dvN N g k))]⟩) N.length (fun _ => True) 0 ?_ trivial (Nat.zero_le _) ?_
      · simp [St.only, get_mk, look, e0]
      clear e0
      intro k hk _
      by_cases hkn : k < N.length
      · have g1 : ((mk N.length (dvN N g k)).map fun x => [i64 x]).getD k [] = [i64 (N.getD k 0)] := by rw [getD_ints (by rw [mk_len]; exact hkn), mk_get hkn, dvN_at]
        have b1 := hN.1 k hkn
        have est := dvN_set N g k
        have hl := mk_len N.length (dvN N g k)
        have b3 := tdivI_bd (g := g) b1
        have ew : IntKind.i64.wrap ((N.getD k 0).tdiv g) = (N.getD k 0).tdiv g := wrapI (by omega) (by omega)
        rw [← est]
        clear hN est
        generalize mk N.length (dvN N g k) = L at *
        unfold c77l1
        repeat' (first
          | ((with_reducible refine T_calm ?_ ?_); rfl)
          | with_reducible first
            | refine T_seq ?_
            | refine T_reg ?_
            | refine T_draw ?_
            | refine T_skip ?_
            | refine T_exit ?_
            | refine T_block ?_
            | refine T_cond_t rfl ?_
            | refine T_cond_f rfl ?_
            | refine wdW_cons rfl ?_
            | ((first | refine T_cond rfl (fun hc => ?_) (fun hc => ?_) | refine wguard_split (fun hc => ?_) (fun hc => ?_) | refine wguardX_split (fun hc => ?_) (fun hc => ?_)) <;> have hd := hc <;> (try simp (disch := omega) only [wrapI] at hd) <;> have hs := hd <;> (try simp only [decide_eq_true_eq, decide_eq_false_iff_not, Int.not_lt] at hd) <;> (try simp at hs))
            | refine T_ret ?_
            | refine leave_of (.inr rfl) _ rfl ?_
            | refine leave_of (.inl rfl) _ rfl ?_
            | refine leaveA_of (.inr rfl) _ rfl ?_
            | refine leaveA_of (.inl rfl) _ rfl ?_
            | refine wif_intro ?_ (fun hc => ?_)
            | refine And.intro ?_ ?_
            | intro hc
          | simp (maxSteps := 4000000) only [wops_nil, wops_cons, wstep_none, wrun_mv, wrun_bin, wrun_build, wrun_load, wrun_store, wrun_iaddrS, wop, aop, ev, look, put_some, put_none, writes, ores_some, ores_ite_none, ores_map, wif_true, binV, thenK, blockK, value, cut, hget, fillA, putCells, AV.parts, isOne, toLits, mkAgg, List.map_cons, List.map_nil, List.length_cons, List.length_nil, List.getElem?_cons_zero, List.getElem?_cons_succ, List.set_cons_zero, List.set_cons_succ, List.take_succ_cons, List.take_zero, List.take_nil, List.drop_succ_cons, List.drop_zero, List.drop_nil, List.cons_append, List.nil_append, List.append_nil, List.append_assoc, List.replicate_zero, List.getD_cons_zero, List.all_cons, List.all_nil, List.length_append, List.length_map, Option.getD_some, Option.map_some, if_true, if_false, Nat.reduceEqDiff, Nat.reduceAdd, Nat.reduceLeDiff, Nat.reduceLT, Nat.zero_add, Nat.le_refl, reduceCtorEq, Bool.and_true, Bool.false_eq_true, eq_self, true_and, and_true, and_self, decide_true, List.all_cons, Int.toNat_natCast, set_ints, *]
          | simp (disch := omega) only [wrapI]
          | omega)
        all_goals first | (simp [St.only, get_mk, look]; done)
      · have hke : k = N.length := by omega
        subst hke
        have e1 : mk N.length (dvN N g N.length) = dvL N g := rfl
        have hl := dvL_len N g
        have b3 := tdivI_bd (g := g) hDb
        have ew : IntKind.i64.wrap (D.tdiv g) = D.tdiv g := wrapI (by omega) (by omega)
        rw [e1]
        clear hN e1
        generalize dvL N g = L at *
        unfold c77l1
        repeat' (first
          | ((with_reducible refine T_calm ?_ ?_); rfl)
          | with_reducible first
            | refine T_seq ?_
            | refine T_reg ?_
            | refine T_draw ?_
            | refine T_skip ?_
            | refine T_exit ?_
            | refine T_block ?_
            | refine T_cond_t rfl ?_
            | refine T_cond_f rfl ?_
            | refine wdW_cons rfl ?_
            | ((first | refine T_cond rfl (fun hc => ?_) (fun hc => ?_) | refine wguard_split (fun hc => ?_) (fun hc => ?_) | refine wguardX_split (fun hc => ?_) (fun hc => ?_)) <;> have hd := hc <;> (try simp (disch := omega) only [wrapI] at hd) <;> have hs := hd <;> (try simp only [Bool.not_eq_true', Bool.not_eq_false', Bool.and_eq_true, Bool.and_eq_false_iff, Bool.or_eq_true, Bool.or_eq_false_iff, decide_eq_true_eq, decide_eq_false_iff_not, beq_iff_eq, bne_iff_ne, beq_eq_false_iff_ne, bne_eq_false_iff_eq, Bool.not_true, Bool.not_false, gt_iff_lt, ge_iff_le, Int.not_lt, Int.not_le, ne_eq, Decidable.not_not] at hd) <;> (try simp at hs))
            | refine T_ret ?_
            | refine wif_intro ?_ (fun hc => ?_)
            | refine And.intro ?_ ?_
            | intro hc
          | simp (maxSteps := 4000000) only [wops_nil, wops_cons, wstep_none, wrun_mv, wrun_bin, wrun_build, wrun_store, wop, aop, ev, look, put_some, put_none, writes, ores_some, ores_ite_none, ores_map, wif_true, binV, thenK, blockK, hget, fillA, putCells, AV.parts, isOne, toLits, mkAgg, List.map_cons, List.map_nil, List.length_cons, List.length_nil, List.getElem?_cons_zero, List.set_cons_zero, List.take_succ_cons, List.take_zero, List.drop_succ_cons, List.drop_zero, List.drop_nil, List.cons_append, List.nil_append, List.append_nil, List.append_assoc, List.replicate_zero, List.getD_cons_zero, List.all_cons, List.all_nil, List.length_append, Option.getD_some, Option.map_some, if_true, if_false, Nat.reduceEqDiff, Nat.reduceAdd, Nat.reduceLeDiff, Nat.reduceLT, Nat.zero_add, Nat.le_refl, reduceCtorEq, Bool.and_true, eq_self, true_and, and_true, and_self, false_and, List.all_cons, Int.toNat_natCast, *]
          | simp (disch := omega) only [getD_ints, wrapI]
          | omega)
        all_goals first | (exact leave_g (.inr rfl) [.agg [.lsl 1 0 N.length, i64 (D.tdiv g)], i64 0] rfl (by show [AV.agg [rfy _ 1 (.lsl 1 0 N.length), _], _] = _; rw [rfy_iB (d := 0) (own := true) (xs := L) rfl hl]; rfl) (by simp [plainL, plain]))
set_option maxHeartbeats 8000000 in
theorem k82t (hm : 1 ≤ N.length ∧ N.length ≤ 2) (hN : ∀ k, k < N.length → -10000000000000 ≤ N.getD k 0 ∧ N.getD k 0 ≤ 10000000000000) (hDb : -100000000000 ≤ D ∧ D ≤ 100000000000) {ws : List AV}
    (hw : ws = if D = 0 then [.agg [.sl true 0 [], i64 0], bl false] else [.agg [ints false (dvL N (gfP N D N.length)), i64 (D.tdiv (gfP N D N.length))], bl true]) :
    T none Try.prog muts 130 0 c82r1 ⟨[(4, .loc 0 0 0), (6, .loc 1 0 0)], [.cells true false 2 [[.sl true 0 [], i64 0]], .cells true false 2 [[.lsl 2 0 N.length, i64 D]], iB N]⟩ (leaveG 2 [ARes.cell 2 true 4, ARes.tmp 5] ws) := by
  by_cases hD : D = 0
  · rw [if_pos hD] at hw
    subst hw hD
    unfold c82r1
    repeat' (first
      | ((with_reducible refine T_calm ?_ ?_); rfl)
      | with_reducible first
        | refine T_seq ?_
        | refine T_reg ?_
        | refine T_draw ?_
        | refine T_skip ?_
        | refine T_exit ?_
        | refine T_block ?_
        | refine T_cond_t rfl ?_
        | refine T_cond_f rfl ?_
        | refine wdW_cons rfl ?_
        | ((first | refine T_cond rfl (fun hc => ?_) (fun hc => ?_) | refine wguard_split (fun hc => ?_) (fun hc => ?_) | refine wguardX_split (fun hc => ?_) (fun hc => ?_)) <;> have hd := hc <;> (try simp (disch := omega) only [wrapI] at hd) <;> have hs := hd <;> (try simp only [Bool.not_eq_true', Bool.not_eq_false', Bool.and_eq_true, Bool.and_eq_false_iff, Bool.or_eq_true, Bool.or_eq_false_iff, decide_eq_true_eq, decide_eq_false_iff_not, beq_iff_eq, bne_iff_ne, beq_eq_false_iff_ne, bne_eq_false_iff_eq, Bool.not_true, Bool.not_false, gt_iff_lt, ge_iff_le, Int.not_lt, Int.not_le, ne_eq, Decidable.not_not] at hd) <;> (try simp at hs))
        | refine T_ret ?_
        | refine wif_intro ?_ (fun hc => ?_)
        | refine And.intro ?_ ?_
        | intro hc
      | simp (maxSteps := 4000000) only [wops_nil, wops_cons, wstep_none, wrun_mv, wrun_bin, wrun_build, wrun_load, wrun_store, wrun_faddr, wop, aop, ev, look, put_some, put_none, writes, ores_some, binV, thenK, value, cut, hget, fillA, putCells, AV.parts, isOne, toLits, mkAgg, List.map_nil, List.length_cons, List.length_nil, List.getElem?_cons_zero, List.getElem?_cons_succ, List.set_cons_zero, List.take_succ_cons, List.take_zero, List.take_nil, List.drop_succ_cons, List.drop_zero, List.drop_nil, List.nil_append, List.append_nil, List.replicate_zero, List.getD_cons_zero, List.all_cons, List.all_nil, Option.getD_some, Option.map_some, if_true, if_false, Nat.reduceEqDiff, Nat.reduceAdd, Nat.reduceLT, Nat.zero_add, Nat.le_refl, reduceCtorEq, Bool.and_true, Bool.false_eq_true, eq_self, and_self, beq_self_eq_true, List.all_cons, *]
      | simp (disch := omega) only [getD_ints, wrapI]
      | omega)
    all_goals first | exact leave_g (.inr rfl) [.agg [.sl true 0 [], i64 0], bl false] rfl rfl rfl
  · rw [if_neg hD] at hw
    subst hw
    have hd1 : (D == 0) = false := by simp only [beq_eq_false_iff_ne]; exact hD
    have hg := fun k => gfP_bd (N := N) hD k
    replace hg := And.intro hg trivial
    replace hN := And.intro hN trivial
    unfold c82r1
    repeat' (first
      | ((with_reducible refine T_calm ?_ ?_); rfl)
      | with_reducible first
        | refine T_seq ?_
        | refine T_reg ?_
        | refine T_draw ?_
        | refine T_skip ?_
        | refine T_exit ?_
        | refine T_block ?_
        | refine T_cond_t rfl ?_
        | refine T_cond_f rfl ?_
        | refine wdW_cons rfl ?_
        | ((first | refine T_cond rfl (fun hc => ?_) (fun hc => ?_) | refine wguard_split (fun hc => ?_) (fun hc => ?_) | refine wguardX_split (fun hc => ?_) (fun hc => ?_)) <;> have hd := hc <;> (try simp (disch := omega) only [wrapI] at hd) <;> have hs := hd <;> (try simp only [Bool.not_eq_true', Bool.not_eq_false', Bool.and_eq_true, Bool.and_eq_false_iff, Bool.or_eq_true, Bool.or_eq_false_iff, decide_eq_true_eq, decide_eq_false_iff_not, beq_iff_eq, bne_iff_ne, beq_eq_false_iff_ne, bne_eq_false_iff_eq, Bool.not_true, Bool.not_false, gt_iff_lt, ge_iff_le, Int.not_lt, Int.not_le, ne_eq, Decidable.not_not] at hd) <;> (try simp at hs))
        | refine T_ret ?_
        | refine wif_intro ?_ (fun hc => ?_)
        | refine And.intro ?_ ?_
        | intro hc
      | simp (maxSteps := 4000000) only [wops_nil, wops_cons, wstep_none, wrun_mv, wrun_bin, wrun_load, wrun_faddr, wop, aop, ev, look, put_some, writes, ores_some, binV, thenK, value, cut, hget, mkAgg, List.length_cons, List.length_nil, List.getElem?_cons_zero, List.getElem?_cons_succ, List.take_succ_cons, List.take_nil, List.drop_succ_cons, List.drop_zero, List.append_nil, List.replicate_zero, List.getD_cons_zero, Option.getD_some, Option.map_some, if_true, if_false, Nat.reduceEqDiff, Nat.reduceAdd, Nat.zero_add, reduceCtorEq, Bool.false_eq_true, eq_self, *]
      | simp (disch := omega) only [getD_ints, wrapI]
      | omega)
    refine T_for [4, 6, 12, 13] (fun k => ⟨[(4, .loc 0 0 0), (6, .loc 1 0 0), (12, i64 (gfP N D k)), (13, i64 k)], [.cells true false 2 [[.sl true 0 [], i64 0]], .cells true false 2 [[.lsl 2 0 N.length, i64 D]], iB N]⟩) N.length (fun _ => True) 0 ?_ trivial (Nat.zero_le _) ?_
    · simp [St.only, get_mk, look, gfP]
    intro k hk _
    by_cases hkn : k < N.length
    · have g1 : (N.map fun x => [i64 x]).getD k [] = [i64 (N.getD k 0)] := getD_ints hkn
      have b1 := hN.1 k hkn
      have b2 := hg.1 k
      have h139 := k139 (gfP N D k) (N.getD k 0) (by omega) (by omega)
      rw [Int.gcd_comm] at h139
      have e : gfP N D (k + 1) = Int.gcd (N.getD k 0) (gfP N D k) := rfl
      rw [e]
      clear hg hN e
      unfold c82l0
      repeat' (first
        | ((with_reducible refine T_calm ?_ ?_); rfl)
        | with_reducible first
          | refine T_seq ?_
          | refine T_reg ?_
          | refine T_draw ?_
          | refine T_skip ?_
          | refine T_exit ?_
          | refine T_block ?_
          | refine T_cond_t rfl ?_
          | refine T_cond_f rfl ?_
          | refine wdW_cons rfl ?_
          | (show wcall _ false (.lit (.func (.func 139) _ _)) _ _ _ _; refine wcall_fn (h139) rfl (by simp [plainL, plain]) ?_)
          | (show wcallX _ false (.lit (.func (.func 139) _ _)) _ _ _ _; refine wcallX_fn (h139) rfl (by simp [plainL, plain, plainR, Int.toNat_natCast]) ?_)
          | ((first | refine T_cond rfl (fun hc => ?_) (fun hc => ?_) | refine wguard_split (fun hc => ?_) (fun hc => ?_) | refine wguardX_split (fun hc => ?_) (fun hc => ?_)) <;> have hd := hc <;> (try simp (disch := omega) only [wrapI] at hd) <;> have hs := hd <;> (try simp only [decide_eq_true_eq, decide_eq_false_iff_not, Int.not_lt] at hd) <;> (try simp at hs))
          | refine T_ret ?_
          | refine leave_of (.inr rfl) _ rfl ?_
          | refine leave_of (.inl rfl) _ rfl ?_
          | refine leaveA_of (.inr rfl) _ rfl ?_
          | refine leaveA_of (.inl rfl) _ rfl ?_
          | refine wif_intro ?_ (fun hc => ?_)
          | refine And.intro ?_ ?_
          | intro hc
        | simp (maxSteps := 4000000) only [wops_nil, wops_cons, wstep_none, wrun_call, wrun_mv, wrun_bin, wrun_load, wrun_store, wrun_faddr, wrun_iaddrS, wrun_len, wop, aop, ev, look, put_some, put_none, writes, ores_some, ores_ite_none, ores_map, ores_bind, binV, thenK, blockK, intV, lenOf, value, cut, hget, putCells, AV.parts, isOne, mkAgg, List.map_cons, List.map_nil, List.length_cons, List.length_nil, List.getElem?_cons_zero, List.getElem?_cons_succ, List.set_cons_zero, List.set_cons_succ, List.take_succ_cons, List.take_zero, List.take_nil, List.drop_succ_cons, List.drop_zero, List.drop_nil, List.cons_append, List.nil_append, List.append_nil, List.append_assoc, List.replicate_zero, List.getD_cons_zero, List.all_cons, List.all_nil, Option.pure_def, Option.bind_eq_bind, Option.getD_some, Option.map_some, if_true, if_false, Nat.reduceEqDiff, Nat.reduceAdd, Nat.reduceLT, Nat.add_zero, Nat.zero_add, Nat.le_refl, reduceCtorEq, Bool.and_true, Bool.false_eq_true, eq_self, true_and, and_true, and_self, decide_true, freeze, lidsL, lids, List.flatMap_cons, List.flatMap_nil, List.all_cons, ren, Int.toNat_natCast, *]
        | simp (disch := omega) only [wrapI]
        | (with_reducible show wcall _ false (.lit (.func (.func 139) _ _)) _ _ _ _; refine wcall_fn (h139) ?_ ?_ ?_; (next => simp [rfyL, rfy, hget, ints, take_rfy, Int.toNat_natCast]); (next => simp [plainL, plain, plainR, Int.toNat_natCast]))
        | (with_reducible show wcallX _ false (.lit (.func (.func 139) _ _)) _ _ _ _; refine wcallX_fn (h139) ?_ ?_ ?_; (next => simp [rfyL, rfy, hget, ints, take_rfy, Int.toNat_natCast]); (next => simp [plainL, plain, plainR, Int.toNat_natCast]))
        | omega)
      all_goals first | (simp [St.only, get_mk, look]; done)
    · have hke : k = N.length := by omega
      subst hke
      have b2 := hg.1 N.length
      generalize gfP N D N.length = g at *
      clear hg
      have e0 := dvN_zero N g
      have b3 := tdivI_bd (g := g) hDb
      have ew : IntKind.i64.wrap (D.tdiv g) = D.tdiv g := wrapI (by omega) (by omega)
      unfold c82l0
      repeat' (first
        | ((with_reducible refine T_calm ?_ ?_); rfl)
        | with_reducible first
          | refine T_seq ?_
          | refine T_reg ?_
          | refine T_draw ?_
          | refine T_skip ?_
          | refine T_exit ?_
          | refine T_block ?_
          | refine T_cond_t rfl ?_
          | refine T_cond_f rfl ?_
          | refine wdW_cons rfl ?_
          | ((first | refine T_cond rfl (fun hc => ?_) (fun hc => ?_) | refine wguard_split (fun hc => ?_) (fun hc => ?_) | refine wguardX_split (fun hc => ?_) (fun hc => ?_)) <;> have hd := hc <;> (try simp (disch := omega) only [wrapI] at hd) <;> have hs := hd <;> (try simp only [decide_eq_true_eq, decide_eq_false_iff_not, Int.not_lt] at hd) <;> (try simp at hs))
          | refine T_ret ?_
          | refine wif_intro ?_ (fun hc => ?_)
          | refine And.intro ?_ ?_
          | intro hc
        | simp (maxSteps := 4000000) only [wops_nil, wops_cons, wstep_none, wrun_mv, wrun_bin, wrun_load, wrun_store, wrun_faddr, wrun_len, wop, aop, ev, look, put_some, put_none, writes, ores_some, ores_map, ores_bind, binV, thenK, blockK, intV, lenOf, value, cut, hget, putCells, AV.parts, isOne, mkAgg, List.length_cons, List.length_nil, List.getElem?_cons_zero, List.getElem?_cons_succ, List.set_cons_zero, List.set_cons_succ, List.take_succ_cons, List.take_zero, List.take_nil, List.drop_succ_cons, List.drop_zero, List.drop_nil, List.cons_append, List.nil_append, List.append_nil, List.append_assoc, List.replicate_zero, List.getD_cons_zero, List.all_cons, List.all_nil, Option.pure_def, Option.bind_eq_bind, Option.getD_some, Option.map_some, if_true, if_false, Nat.reduceEqDiff, Nat.reduceAdd, Nat.reduceLT, Nat.add_zero, Nat.zero_add, Nat.le_refl, reduceCtorEq, Bool.and_true, Bool.false_eq_true, eq_self, true_and, and_true, and_self, false_and, List.all_cons, *]
        | simp (disch := omega) only [getD_ints, wrapI]
        | omega)
      refine T_for [4, 6, 12, 14] (fun k => ⟨[(4, .loc 0 0 0), (6, .loc 1 0 0), (12, i64 g), (14, i64 k)], [.cells true false 2 [[.sl true 0 [], i64 0]], .cells true false 2 [[.lsl 2 0 N.length, i64 (D.tdiv g)]], iB (mk N.length (dvN N g k))]⟩) N.length (fun _ => True) 0 ?_ trivial (Nat.zero_le _) ?_
      · simp [St.only, get_mk, look, e0]
      clear e0
      intro k hk _
      by_cases hkn : k < N.length
      · have g1 : ((mk N.length (dvN N g k)).map fun x => [i64 x]).getD k [] = [i64 (N.getD k 0)] := by rw [getD_ints (by rw [mk_len]; exact hkn), mk_get hkn, dvN_at]
        have b1 := hN.1 k hkn
        have est := dvN_set N g k
        have hl := mk_len N.length (dvN N g k)
        have b4 := tdivI_bd (g := g) b1
        have ew2 : IntKind.i64.wrap ((N.getD k 0).tdiv g) = (N.getD k 0).tdiv g := wrapI (by omega) (by omega)
        rw [← est]
        clear hN est
        generalize mk N.length (dvN N g k) = L at *
        unfold c82l1
        repeat' (first
          | ((with_reducible refine T_calm ?_ ?_); rfl)
          | with_reducible first
            | refine T_seq ?_
            | refine T_reg ?_
            | refine T_draw ?_
            | refine T_skip ?_
            | refine T_exit ?_
            | refine T_block ?_
            | refine T_cond_t rfl ?_
            | refine T_cond_f rfl ?_
            | refine wdW_cons rfl ?_
            | ((first | refine T_cond rfl (fun hc => ?_) (fun hc => ?_) | refine wguard_split (fun hc => ?_) (fun hc => ?_) | refine wguardX_split (fun hc => ?_) (fun hc => ?_)) <;> have hd := hc <;> (try simp (disch := omega) only [wrapI] at hd) <;> have hs := hd <;> (try simp only [decide_eq_true_eq, decide_eq_false_iff_not, Int.not_lt] at hd) <;> (try simp at hs))
            | refine T_ret ?_
            | refine leave_of (.inr rfl) _ rfl ?_
            | refine leave_of (.inl rfl) _ rfl ?_
            | refine leaveA_of (.inr rfl) _ rfl ?_
            | refine leaveA_of (.inl rfl) _ rfl ?_
            | refine wif_intro ?_ (fun hc => ?_)
            | refine And.intro ?_ ?_
            | intro hc
          | simp (maxSteps := 4000000) only [wops_nil, wops_cons, wstep_none, wrun_mv, wrun_bin, wrun_load, wrun_store, wrun_faddr, wrun_iaddrS, wrun_len, wrunX_mv, wrunX_bin, wrunX_load, wrunX_store, wrunX_faddr, wrunX_iaddrS, wdW_nil, wstepX_none, wop, aop, ev, look, put_some, put_none, writes, ores_some, ores_ite_none, ores_map, ores_bind, binV, thenK, blockK, intV, lenOf, value, cut, hget, putCells, AV.parts, isOne, toLits, mkAgg, List.length_cons, List.length_nil, List.getElem?_cons_zero, List.getElem?_cons_succ, List.set_cons_zero, List.set_cons_succ, List.take_succ_cons, List.take_zero, List.take_nil, List.drop_succ_cons, List.drop_zero, List.drop_nil, List.nil_append, List.append_nil, List.replicate_zero, List.getD_cons_zero, List.all_cons, List.all_nil, List.length_map, Option.pure_def, Option.bind_eq_bind, Option.getD_some, Option.map_some, if_true, if_false, Nat.reduceEqDiff, Nat.reduceAdd, Nat.reduceLT, Nat.add_zero, Nat.zero_add, Nat.le_refl, reduceCtorEq, Bool.and_true, Bool.false_eq_true, eq_self, true_and, and_true, and_self, decide_true, List.all_cons, Int.toNat_natCast, set_ints, *]
          | simp (disch := omega) only [wrapI]
          | omega)
        all_goals first | (simp [St.only, get_mk, look]; done)
      · have hke : k = N.length := by omega
        subst hke
        have e1 : mk N.length (dvN N g N.length) = dvL N g := rfl
        have hl := dvL_len N g
        rw [e1]
        clear hN e1
        generalize dvL N g = L at *
        unfold c82l1
        repeat' (first
          | ((with_reducible refine T_calm ?_ ?_); rfl)
          | with_reducible first
            | refine T_seq ?_
            | refine T_reg ?_
            | refine T_draw ?_
            | refine T_skip ?_
            | refine T_exit ?_
            | refine T_block ?_
            | refine T_cond_t rfl ?_
            | refine T_cond_f rfl ?_
            | refine wdW_cons rfl ?_
            | ((first | refine T_cond rfl (fun hc => ?_) (fun hc => ?_) | refine wguard_split (fun hc => ?_) (fun hc => ?_) | refine wguardX_split (fun hc => ?_) (fun hc => ?_)) <;> have hd := hc <;> (try simp (disch := omega) only [wrapI] at hd) <;> have hs := hd <;> (try simp only [Bool.not_eq_true', Bool.not_eq_false', Bool.and_eq_true, Bool.and_eq_false_iff, Bool.or_eq_true, Bool.or_eq_false_iff, decide_eq_true_eq, decide_eq_false_iff_not, beq_iff_eq, bne_iff_ne, beq_eq_false_iff_ne, bne_eq_false_iff_eq, Bool.not_true, Bool.not_false, gt_iff_lt, ge_iff_le, Int.not_lt, Int.not_le, ne_eq, Decidable.not_not] at hd) <;> (try simp at hs))
            | refine T_ret ?_
            | refine wif_intro ?_ (fun hc => ?_)
            | refine And.intro ?_ ?_
            | intro hc
          | simp (maxSteps := 4000000) only [wops_nil, wops_cons, wstep_none, wrun_mv, wrun_bin, wrun_load, wrun_store, wrun_faddr, wrun_len, wop, aop, ev, look, put_some, put_none, writes, ores_some, ores_map, ores_bind, binV, thenK, blockK, intV, lenOf, value, cut, hget, putCells, AV.parts, isOne, toLits, mkAgg, List.length_cons, List.length_nil, List.getElem?_cons_zero, List.getElem?_cons_succ, List.set_cons_zero, List.take_succ_cons, List.take_zero, List.take_nil, List.drop_succ_cons, List.drop_zero, List.drop_nil, List.nil_append, List.append_nil, List.replicate_zero, List.getD_cons_zero, List.all_cons, List.all_nil, Option.pure_def, Option.bind_eq_bind, Option.getD_some, Option.map_some, if_true, if_false, Nat.reduceEqDiff, Nat.reduceAdd, Nat.reduceLT, Nat.add_zero, Nat.zero_add, Nat.le_refl, reduceCtorEq, Bool.and_true, Bool.false_eq_true, eq_self, and_true, and_self, false_and, List.all_cons, *]
          | simp (disch := omega) only [getD_ints, wrapI]
          | omega)
        all_goals first | (exact leave_g (.inr rfl) [.agg [.lsl 2 0 N.length, i64 (D.tdiv g)], bl true] rfl (by show [AV.agg [rfy _ 1 (.lsl 2 0 N.length), _], _] = _; rw [rfy_iB (d := 0) (own := true) (xs := L) rfl hl]; rfl) (by simp [plainL, plain]))
end
end Go.Abs
