import Derived.Test.YtodheeifecoebaaK113x
import Derived.Test.YtodheeifecoebaaK123x
import Derived.Test.YtodheeifecoebaaK128x
import Derived.Test.YtodheeifecoebaaK107x
import Derived.Test.YtodheeifecoebaaK119x
import Derived.Test.YtodheeifecoebaaK120x
import Derived.Test.YtodheeifecoebaaK210
set_option linter.all false
set_option linter.unusedVariables false
set_option linter.unusedSimpArgs false
set_option linter.unusedSectionVars false
namespace Go.Abs
open Go.Proofs
def c16r2 : ACode :=
 (.seq (.reg 0 [⟨(some 87), (.mv (.tmp 0)), none, 0⟩, ⟨(some 88), (.mv (.tmp 1)), none, 0⟩, ⟨(some 89), (.load 4 true (.tmp 5)), none, 0⟩, ⟨(some 90), (.call false (.val (.lit (.func (.func 75) #[] #[]))) [(.tmp 87), (.tmp 88), (.tmp 89)]), none, 0⟩, ⟨(some 86), (.mv (.tmp 90)), none, 0⟩, ⟨(some 91), (.ext (.tmp 86) 0), none, 0⟩, ⟨(some 92), (.ext (.tmp 86) 1), none, 0⟩, ⟨(some 13), (.mv (.tmp 91)), none, 0⟩, ⟨(some 12), (.mv (.tmp 92)), none, 0⟩])
 (.seq (.seq (.reg 0 [⟨(some 93), (.mv (.tmp 12)), none, 0⟩, ⟨(some 94), (.bin .neq (.tmp 93) (.val (.lit (.int .i64 0)))), none, 0⟩])
 (.cond (.tmp 94) (.seq (.reg 0 [⟨(some 95), (.mv (.tmp 10)), none, 0⟩, ⟨(some 96), (.mv (.tmp 12)), none, 0⟩, ⟨(some 97), (.bin .eql (.tmp 95) (.tmp 96)), none, 0⟩, ⟨(some 98), (.mv (.tmp 97)), none, 0⟩, ⟨(some 99), (.mv (.tmp 9)), (some (98, true)), 0⟩, ⟨(some 100), (.bin .eql (.tmp 99) (.val (.lit (.int .i64 0)))), (some (98, true)), 0⟩, ⟨(some 101), (.pick (.tmp 98) (.tmp 100) (.val (.lit (.bool false)))), none, 0⟩, ⟨(some 6), (.mv (.tmp 101)), none, 0⟩])
 .ret) .skip))
 (.seq (.reg 0 [⟨(some 103), (.mv (.tmp 0)), none, 0⟩, ⟨(some 104), (.mv (.tmp 13)), none, 0⟩, ⟨(some 105), (.call false (.val (.lit (.func (.func 70) #[] #[]))) [(.tmp 103), (.tmp 104)]), none, 0⟩, ⟨(some 102), (.mv (.tmp 105)), none, 0⟩, ⟨(some 106), (.ext (.tmp 102) 0), none, 0⟩, ⟨(some 107), (.ext (.tmp 102) 1), none, 0⟩, ⟨(some 14), (.mv (.tmp 106)), none, 0⟩, ⟨(some 15), (.mv (.tmp 107)), none, 0⟩])
 (.seq (.reg 0 [⟨(some 108), (.mv (.tmp 10)), none, 0⟩, ⟨(some 109), (.bin .eql (.tmp 108) (.val (.lit (.int .i64 0)))), none, 0⟩, ⟨(some 110), (.mv (.tmp 109)), none, 0⟩, ⟨(some 111), (.mv (.tmp 9)), (some (110, true)), 0⟩, ⟨(some 112), (.mv (.tmp 11)), (some (110, true)), 0⟩, ⟨(some 113), (.call false (.val (.lit (.func (.func 51) #[] #[]))) [(.tmp 112)]), (some (110, true)), 0⟩, ⟨(some 114), (.call false (.val (.lit (.func (.func 76) #[] #[]))) [(.tmp 113)]), (some (110, true)), 0⟩, ⟨(some 115), (.mv (.tmp 14)), (some (110, true)), 0⟩, ⟨(some 116), (.call false (.val (.lit (.func (.func 51) #[] #[]))) [(.tmp 115)]), (some (110, true)), 0⟩, ⟨(some 117), (.call false (.val (.lit (.func (.func 76) #[] #[]))) [(.tmp 116)]), (some (110, true)), 0⟩, ⟨(some 118), (.bin .sub (.tmp 114) (.tmp 117)), (some (110, true)), 0⟩, ⟨(some 119), (.bin .eql (.tmp 111) (.tmp 118)), (some (110, true)), 0⟩, ⟨(some 120), (.pick (.tmp 110) (.tmp 119) (.val (.lit (.bool false)))), none, 0⟩, ⟨(some 121), (.mv (.tmp 120)), none, 0⟩, ⟨(some 122), (.mv (.tmp 9)), (some (121, true)), 0⟩, ⟨(some 123), (.bin .geq (.tmp 122) (.val (.lit (.int .i64 0)))), (some (121, true)), 0⟩, ⟨(some 124), (.pick (.tmp 121) (.tmp 123) (.val (.lit (.bool false)))), none, 0⟩, ⟨(some 6), (.mv (.tmp 124)), none, 0⟩])
 .ret))))
def c16r1 : ACode :=
 (.seq (.reg 0 [⟨(some 37), (.mv (.tmp 0)), none, 0⟩, ⟨(some 38), (.mv (.tmp 1)), none, 0⟩, ⟨(some 39), (.call false (.val (.lit (.func (.func 49) #[] #[]))) [(.tmp 37), (.tmp 38)]), none, 0⟩, ⟨(some 36), (.mv (.tmp 39)), none, 0⟩, ⟨(some 40), (.ext (.tmp 36) 0), none, 0⟩, ⟨(some 41), (.ext (.tmp 36) 1), none, 0⟩, ⟨(some 11), (.mv (.tmp 40)), none, 0⟩, ⟨(some 12), (.mv (.tmp 41)), none, 0⟩])
 (.seq (.seq (.reg 0 [⟨(some 42), (.mv (.tmp 12)), none, 0⟩, ⟨(some 43), (.bin .neq (.tmp 42) (.val (.lit (.int .i64 0)))), none, 0⟩])
 (.cond (.tmp 43) (.seq (.reg 0 [⟨(some 44), (.mv (.tmp 8)), none, 0⟩, ⟨(some 45), (.mv (.tmp 12)), none, 0⟩, ⟨(some 46), (.bin .eql (.tmp 44) (.tmp 45)), none, 0⟩, ⟨(some 47), (.mv (.tmp 46)), none, 0⟩, ⟨(some 48), (.mv (.tmp 10)), (some (47, true)), 0⟩, ⟨(some 49), (.mv (.tmp 12)), (some (47, true)), 0⟩, ⟨(some 50), (.bin .eql (.tmp 48) (.tmp 49)), (some (47, true)), 0⟩, ⟨(some 51), (.pick (.tmp 47) (.tmp 50) (.val (.lit (.bool false)))), none, 0⟩, ⟨(some 52), (.mv (.tmp 51)), none, 0⟩, ⟨(some 53), (.load 2 true (.tmp 7)), (some (52, true)), 0⟩, ⟨(some 54), (.build [(.lit (.int .i64 0)), (.lit (.int .i64 0))] []), (some (52, true)), 0⟩, ⟨(some 55), (.eqAgg false [.ci, .ci] (.tmp 53) (.tmp 54)), (some (52, true)), 0⟩, ⟨(some 56), (.pick (.tmp 52) (.tmp 55) (.val (.lit (.bool false)))), none, 0⟩, ⟨(some 57), (.mv (.tmp 56)), none, 0⟩, ⟨(some 58), (.mv (.tmp 9)), (some (57, true)), 0⟩, ⟨(some 59), (.bin .eql (.tmp 58) (.val (.lit (.int .i64 0)))), (some (57, true)), 0⟩, ⟨(some 60), (.pick (.tmp 57) (.tmp 59) (.val (.lit (.bool false)))), none, 0⟩, ⟨(some 6), (.mv (.tmp 60)), none, 0⟩])
 .ret) .skip))
 (.seq (.seq (.dreg 0 [(0, ⟨(some 61), (.mv (.tmp 0)), none, 0⟩), (1, ⟨(some 62), (.bin .eql (.tmp 61) (.val (.lit (.int .i64 1)))), none, 0⟩), (2, ⟨(some 63), (.mv (.tmp 62)), none, 0⟩), (3, ⟨(some 64), (.mv (.tmp 8)), (some (63, true)), 0⟩), (4, ⟨(some 65), (.bin .neq (.tmp 64) (.val (.lit (.int .i64 12)))), (some (63, true)), 0⟩), (5, ⟨(some 66), (.mv (.tmp 65)), (some (63, true)), 0⟩), (6, ⟨(some 67), (.load 2 true (.tmp 7)), (some (66, false)), 0⟩), (7, ⟨(some 68), (.build [(.lit (.int .i64 0)), (.lit (.int .i64 0))] []), (some (66, false)), 0⟩), (8, ⟨(some 69), (.eqAgg true [.ci, .ci] (.tmp 67) (.tmp 68)), (some (66, false)), 0⟩), (9, ⟨(some 70), (.pick (.tmp 66) (.val (.lit (.bool true))) (.tmp 69)), (some (63, true)), 0⟩), (10, ⟨(some 71), (.pick (.tmp 63) (.tmp 70) (.val (.lit (.bool false)))), none, 0⟩), (11, ⟨(some 72), (.mv (.tmp 71)), none, 0⟩), (12, ⟨(some 73), (.mv (.tmp 0)), (some (72, false)), 0⟩), (13, ⟨(some 74), (.bin .gtr (.tmp 73) (.val (.lit (.int .i64 1)))), (some (72, false)), 0⟩), (14, ⟨(some 75), (.mv (.tmp 74)), (some (72, false)), 0⟩), (15, ⟨(some 76), (.mv (.tmp 8)), (some (75, true)), 0⟩), (16, ⟨(some 77), (.bin .neq (.tmp 76) (.val (.lit (.int .i64 0)))), (some (75, true)), 0⟩), (17, ⟨(some 78), (.mv (.tmp 77)), (some (75, true)), 0⟩), (18, ⟨(some 79), (.load 2 true (.tmp 7)), (some (78, false)), 0⟩), (19, ⟨(some 80), (.mv (.tmp 11)), (some (78, false)), 0⟩), (20, ⟨(some 81), (.call false (.val (.lit (.func (.func 74) #[] #[]))) [(.tmp 80)]), (some (78, false)), 0⟩), (21, ⟨(some 82), (.eqAgg true [.ci, .ci] (.tmp 79) (.tmp 81)), (some (78, false)), 0⟩), (22, ⟨(some 83), (.pick (.tmp 78) (.val (.lit (.bool true))) (.tmp 82)), (some (75, true)), 0⟩), (23, ⟨(some 84), (.pick (.tmp 75) (.tmp 83) (.val (.lit (.bool false)))), (some (72, false)), 0⟩), (24, ⟨(some 85), (.pick (.tmp 72) (.val (.lit (.bool true))) (.tmp 84)), none, 0⟩)] [[], [0], [1, 0], [2, 1, 0], [3, 2, 1, 0], [4, 2, 3, 1, 0], [5, 4, 2, 3, 1, 0], [5, 4, 2, 3, 1, 0], [6, 7, 5, 4, 2, 3, 1, 0], [5, 8, 2, 4, 3, 1, 0, 6, 7], [2, 9, 1, 0, 5, 8, 4, 3, 6, 7], [10, 5, 2, 9, 1, 0, 8, 4, 3, 6, 7], [11, 10, 5, 2, 9, 1, 0, 8, 4, 3, 6, 7], [12, 11, 10, 5, 2, 9, 1, 0, 8, 4, 3, 6, 7], [13, 11, 12, 10, 5, 2, 9, 1, 0, 8, 4, 3, 6, 7], [14, 13, 11, 12, 10, 5, 2, 9, 1, 0, 8, 4, 3, 6, 7], [15, 14, 13, 11, 12, 10, 5, 2, 9, 1, 0, 8, 4, 3, 6, 7], [16, 14, 15, 13, 11, 12, 10, 5, 2, 9, 1, 0, 8, 4, 3, 6, 7], [17, 16, 14, 15, 13, 11, 12, 10, 5, 2, 9, 1, 0, 8, 4, 3, 6, 7], [17, 16, 14, 15, 13, 11, 12, 10, 5, 2, 9, 1, 0, 8, 4, 3, 6, 7], [19, 17, 16, 14, 15, 13, 11, 12, 10, 5, 2, 9, 1, 0, 8, 4, 3, 6, 7], [18, 20, 17, 16, 14, 15, 13, 11, 12, 10, 5, 2, 9, 1, 0, 8, 4, 3, 6, 7, 19], [17, 21, 14, 16, 15, 13, 11, 12, 10, 5, 2, 9, 1, 0, 8, 4, 3, 6, 7, 18, 20, 19], [14, 22, 11, 13, 12, 10, 5, 2, 9, 1, 0, 8, 4, 3, 6, 7, 17, 21, 16, 15, 18, 20, 19], [11, 23, 10, 5, 2, 9, 1, 0, 8, 4, 3, 6, 7, 14, 22, 13, 12, 17, 21, 16, 15, 18, 20, 19]])
 (.cond (.tmp 85) (.seq (.reg 0 [⟨(some 6), (.mv (.val (.lit (.bool false)))), none, 0⟩])
 .ret) .skip))
 c16r2)))
theorem c16_cut : c16 = (.seq (.reg 1 [⟨(some 5), (.box 4 (.tmp 2)), none, 0⟩, ⟨(some 6), (.mv (.val (.lit (.bool false)))), none, 1⟩])
 (.seq (.seq (.reg 0 [⟨(some 16), (.call false (.val (.lit (.func (.func 19) #[] #[]))) []), none, 0⟩, ⟨(some 17), (.not (.tmp 16)), none, 0⟩])
 (.cond (.tmp 17) (.seq (.reg 0 [⟨(some 6), (.mv (.val (.lit (.bool false)))), none, 0⟩])
 .ret) .skip))
 (.seq (.seq (.reg 0 [⟨(some 18), (.mv (.tmp 1)), none, 0⟩, ⟨(some 19), (.call false (.val (.lit (.func (.func 25) #[] #[]))) [(.tmp 18), (.val (.lit (.int .i64 10)))]), none, 0⟩, ⟨(some 20), (.not (.tmp 19)), none, 0⟩])
 (.cond (.tmp 20) (.seq (.reg 0 [⟨(some 6), (.mv (.val (.lit (.bool true)))), none, 0⟩])
 .ret) .skip))
 (.seq (.reg 1 [⟨(some 22), (.mv (.tmp 0)), none, 0⟩, ⟨(some 23), (.mv (.tmp 1)), none, 0⟩, ⟨(some 24), (.call false (.val (.lit (.func (.func 27) #[] #[]))) [(.tmp 23)]), none, 0⟩, ⟨(some 25), (.call false (.val (.lit (.func (.func 72) #[] #[]))) [(.tmp 22), (.tmp 24)]), none, 0⟩, ⟨(some 21), (.mv (.tmp 25)), none, 0⟩, ⟨(some 26), (.ext (.tmp 21) 0), none, 0⟩, ⟨(some 27), (.ext (.tmp 21) 1), none, 0⟩, ⟨(some 7), (.alloc [(.lit (.int .i64 0)), (.lit (.int .i64 0))]), none, 0⟩, ⟨none, (.store 2 (.tmp 7) (.tmp 26)), none, 1⟩, ⟨(some 8), (.mv (.tmp 27)), none, 1⟩])
 (.seq (.dreg 0 [(0, ⟨(some 29), (.mv (.tmp 0)), none, 0⟩), (1, ⟨(some 30), (.mv (.tmp 1)), none, 0⟩), (2, ⟨(some 31), (.call false (.val (.lit (.func (.func 27) #[] #[]))) [(.tmp 30)]), none, 0⟩), (3, ⟨(some 32), (.load 4 true (.tmp 5)), none, 0⟩), (4, ⟨(some 33), (.call false (.val (.lit (.func (.func 73) #[] #[]))) [(.tmp 29), (.tmp 31), (.tmp 32)]), none, 0⟩), (5, ⟨(some 28), (.mv (.tmp 33)), none, 0⟩), (6, ⟨(some 34), (.ext (.tmp 28) 0), none, 0⟩), (7, ⟨(some 35), (.ext (.tmp 28) 1), none, 0⟩), (8, ⟨(some 9), (.mv (.tmp 34)), none, 0⟩), (9, ⟨(some 10), (.mv (.tmp 35)), none, 0⟩)] [[], [], [1], [], [0, 2, 3, 1], [4, 0, 2, 3, 1], [5, 4, 0, 2, 3, 1], [5, 4, 0, 2, 3, 1], [6, 4, 0, 1, 2, 3, 5], [7, 8, 0, 1, 2, 3, 4, 5, 6]])
 c16r1))))) := rfl

theorem rL1 {d : Nat} {H : List Blk} {v w : AV} (h : Rds d H v w) (hd6 : d ≤ 6) : rfyL (hget H) [v] = [w] := by
  simp only [rfyL, List.map_cons, List.map_nil, h.six hd6]
theorem rL2 {d : Nat} {H : List Blk} {v w : AV} (h : Rds d H v w) (hd6 : d ≤ 6) (x : Value) : rfyL (hget H) [.lit x, v] = [.lit x, w] := by
  simp only [rfyL, List.map_cons, List.map_nil, h.six hd6, rfy]
theorem tbG {g : FuncId} {args : List AV} {z : Nat} {M : List (List Int)} {x : Value} (hM : Sq z M) (h : Fn Try.prog g args (.tup [.lsl 0 0 z, .lit x]) (tabB M z)) : Gv 6 Try.prog g args [tblV M, .lit x] :=
  Gv.of_fn 6 h [.lsl 0 0 z, .lit x] rfl (by show [rfy (hget (tabB M z)) 6 (.lsl 0 0 z), _] = _; rw [tab_rfy (tabB_is hM.hl) hM]; rfl) (by simp only [plainL, plain_tbl]; rfl)
theorem er_rfy {H : List Blk} {id n d : Nat} {own : Bool} {xs : List (Int × Int)} (h : H[id]? = some (.cells own false 2 (erD xs))) (hl : xs.length = n) : rfy (hget H) (d + 2) (.lsl id 0 n) = .sl false 2 (erD xs) := by
  unfold rfy
  rw [hget_some' h]
  have hp := erD_len xs
  dsimp only
  rw [if_pos (by omega), List.drop_zero, List.take_of_length_le (by omega)]
  refine congrArg (AV.sl false 2) ?_
  unfold erD
  rw [List.map_map]
  exact List.map_congr_left fun x _ => rfl
theorem plain_er (n : Bool) (xs : List (Int × Int)) : plain (.sl n 2 (erD xs)) = true := plainR_map _ (fun _ => rfl) xs
theorem rdgG {g : FuncId} {args : List AV} {n : Nat} {m : List Rd} {x : Value} (hm : m.length = n) (h : Fn Try.prog g args (.tup [.lsl 0 0 n, .lit x]) [.cells false false 4 (rows4 m)]) : Gv 6 Try.prog g args [rdgs false m, .lit x] :=
  Gv.of_fn 6 h [.lsl 0 0 n, .lit x] rfl (by
    have e := re_m (H := [.cells false false 4 (rows4 m)]) (i := 0) (n := n) rfl hm 0
    simp only [rfyL, List.map_cons, List.map_nil, List.cons.injEq, and_true] at e
    simp only [List.map_cons, List.map_nil, rfy] at e ⊢
    rw [e.2]) (by simp [plainL, plain])
theorem encD_get (D : List (List Int)) : ∀ n i, i < n → (encD D n).getD i (0, 0) = (-(mget D i 0), mget D 0 i) := fun n => by
  induction n with
  | zero => intro i hi; omega
  | succ n ih =>
    intro i hi
    have hl := encD_len D n
    unfold encD
    by_cases h : i < n
    · rw [List.getD_eq_getElem?_getD, List.getElem?_append_left (by omega), ← List.getD_eq_getElem?_getD, ih i h]
    · have : i = n := by omega
      subst this
      rw [List.getD_eq_getElem?_getD, List.getElem?_append_right (by omega), hl, Nat.sub_self]; rfl
theorem gsum_eq {z : Nat} (M M' : List (List Int)) : ∀ k, k ≤ z → gsum M M' k = wsum (encD M z) k - wsum (encD M' z) k
  | 0, _ => rfl
  | k + 1, hk => by
    unfold gsum wsum
    rw [gsum_eq (z := z) M M' k (by omega), encD_get M z k (by omega), encD_get M' z k (by omega)]
    dsimp only
    omega
theorem toR_id {z : Nat} {M : List (List Int)} (hM : Sq z M) (hf : ∀ i j, i < z → j < z → mget M i j < far) : toR M = M := by
  refine List.ext_getElem (by simp [toR]) fun i h1 h2 => ?_
  have hi : i < z := by rw [← hM.hl]; exact h2
  have hr := hM.hr i hi
  have e : M.getD i [] = M[i] := by simp [List.getD, h2]
  simp only [toR, List.getElem_map]
  refine List.ext_getElem (by simp) fun j h3 h4 => ?_
  have hj : j < z := by rw [← hr, e]; exact h4
  have := hf i j hi hj
  unfold mget at this
  rw [e, List.getD_eq_getElem?_getD, List.getElem?_eq_getElem h4] at this
  simp only [List.getElem_map]
  unfold rv
  rw [if_pos (by simpa using this)]
end Go.Abs
