import Derived.Test.YtodheeifecoebaaK25x
import Derived.Test.YtodheeifecoebaaK301
set_option linter.all false
set_option linter.unusedVariables false
set_option linter.unusedSimpArgs false
set_option linter.unusedSectionVars false
namespace Go.Abs
open Go.Proofs
/-! law 12: the phases -/
def c12r1 : ACode :=
 (.dreg 2 [(0, ⟨(some 64), (.faddr 1 (.tmp 4)), none, 0⟩), (1, ⟨(some 65), (.load 1 false (.tmp 64)), none, 0⟩), (2, ⟨(some 66), (.faddr 1 (.tmp 1)), none, 0⟩), (3, ⟨(some 67), (.load 1 false (.tmp 66)), none, 0⟩), (4, ⟨(some 68), (.mv (.tmp 5)), none, 0⟩), (5, ⟨(some 69), (.iaddrS 1 (.tmp 67) (.tmp 68)), none, 0⟩), (6, ⟨(some 70), (.load 1 false (.tmp 69)), none, 0⟩), (7, ⟨(some 71), (.call false (.val (.lit (.func (.func 24) #[] #[]))) [(.tmp 70), (.val (.lit (.int .i64 1000)))]), none, 0⟩), (8, ⟨(some 72), (.bslice 1 1 [(.lit (.int .i64 0))] [(0, (.tmp 71))]), none, 0⟩), (9, ⟨(some 73), (.app 1 8 (.tmp 65) (.tmp 72)), none, 1⟩), (10, ⟨(some 74), (.faddr 1 (.tmp 4)), none, 2⟩), (11, ⟨none, (.store 1 (.tmp 74) (.tmp 73)), none, 2⟩)] [[], [0], [], [2], [], [3, 4, 2], [5, 3, 4, 2], [6, 5, 3, 4, 2], [7, 6, 5, 3, 4, 2], [1, 8, 7, 0, 6, 5, 3, 4, 2], [0, 1, 2, 3, 4, 5, 6, 7, 8, 9], [10, 9, 0, 1, 2, 3, 4, 5, 6, 7, 8]])
theorem c12l0_cut : c12l0 =  (.seq (.seq (.reg 0 [⟨(some 52), (.mv (.tmp 5)), none, 0⟩, ⟨(some 53), (.mv (.tmp 3)), none, 0⟩, ⟨(some 54), (.bin .lss (.tmp 52) (.tmp 53)), none, 0⟩])
 (.cond (.tmp 54) .skip (.exit 0)))
 (.seq (.block 1 (.seq (.seq (.reg 0 [⟨(some 57), (.faddr 1 (.tmp 1)), none, 0⟩, ⟨(some 58), (.load 1 false (.tmp 57)), none, 0⟩, ⟨(some 59), (.mv (.tmp 5)), none, 0⟩, ⟨(some 60), (.iaddrS 1 (.tmp 58) (.tmp 59)), none, 0⟩, ⟨(some 61), (.load 1 false (.tmp 60)), none, 0⟩, ⟨(some 62), (.call false (.val (.lit (.func (.func 32) #[] #[]))) [(.tmp 61), (.val (.lit (.int .i64 (-1000000)))), (.val (.lit (.int .i64 1000000)))]), none, 0⟩, ⟨(some 63), (.not (.tmp 62)), none, 0⟩])
 (.cond (.tmp 63) (.seq (.reg 0 [⟨(some 2), (.mv (.val (.lit (.bool true)))), none, 0⟩])
 .ret) .skip))
 (.seq c12r1
 (.seq (.reg 0 [⟨(some 75), (.faddr 2 (.tmp 1)), none, 0⟩, ⟨(some 76), (.load 1 false (.tmp 75)), none, 0⟩, ⟨(some 77), (.mv (.tmp 5)), none, 0⟩, ⟨(some 78), (.call false (.val (.lit (.func (.func 58) #[] #[]))) [(.tmp 76), (.tmp 77)]), none, 0⟩])
 (.cond (.tmp 78) (.reg 0 [⟨(some 79), (.faddr 1 (.tmp 4)), none, 0⟩, ⟨(some 80), (.load 1 false (.tmp 79)), none, 0⟩, ⟨(some 81), (.mv (.tmp 5)), none, 0⟩, ⟨(some 82), (.iaddrS 1 (.tmp 80) (.tmp 81)), none, 0⟩, ⟨none, (.store 1 (.tmp 82) (.val (.lit (.int .i64 (-1))))), none, 0⟩]) .skip)))))
 (.reg 0 [⟨(some 55), (.mv (.tmp 5)), none, 0⟩, ⟨(some 56), (.bin .add (.tmp 55) (.val (.lit (.int .i64 1)))), none, 0⟩, ⟨(some 5), (.mv (.tmp 56)), none, 0⟩]))) := rfl
theorem phL_snoc (zs msk : List Int) (k : Nat) : phL zs msk (k + 1) = phL zs msk k ++ [phs zs msk k] := mk_snoc k _
/-- the phases in memory, as far as they are made -/
structure J12 (w : Int) (n1 n2 : Bool) (zs msk : List Int) (i : Nat) (H : List Blk) : Prop where
  b : H[0]? = some (.cells true false 3 [[i64 w, ints n1 zs, ints n2 msk]])
  z : i = 0 → H[1]? = some (.cells true false 2 [[i64 w, .sl true 0 []]])
  s : i ≠ 0 → ∃ q, 1 < q ∧ H[1]? = some (.cells true false 2 [[i64 w, .lsl q 0 i]]) ∧ H[q]? = some (.cells true false 1 ((phL zs msk i).map fun x => [i64 x]))
abbrev SL12 (n i : Nat) : List (Nat × AV) := [(1, .loc 0 0 0), (3, i64 n), (4, .loc 1 0 0), (5, i64 i)]
section
variable {w : Int} {n1 n2 : Bool} {zs msk : List Int} {i : Nat} {H : List Blk}
set_option maxHeartbeats 8000000 in
theorem k12d (hl : zs.length ≤ 1000) (hi : i < zs.length) (hb : -1000000 ≤ zs.getD i 0 ∧ zs.getD i 0 ≤ 1000000) (hJ : J12 w n1 n2 zs msk i H) (K : Exit → St → Prop)
    (hK : ∀ q (τ : St), τ.only [1, 3, 4, 5] = ⟨SL12 zs.length i, τ.heap⟩ → τ.heap[0]? = some (.cells true false 3 [[i64 w, ints n1 zs, ints n2 msk]]) → 1 < q → τ.heap[1]? = some (.cells true false 2 [[i64 w, .lsl q 0 (i + 1)]]) →
      τ.heap[q]? = some (.cells true false 1 ((phL zs msk i ++ [zs.getD i 0 % 1000]).map fun x => [i64 x])) → K .normal τ) :
    T none Try.prog muts 264 0 c12r1 ⟨SL12 zs.length i, H⟩ K := by
  have h24 := k24 (zs.getD i 0) 1000 (by omega) (by omega) (by omega) (by omega)
  have g1 : (zs.map fun x => [i64 x]).getD i [] = [i64 (zs.getD i 0)] := getD_ints hi
  obtain ⟨jb, jz, js⟩ := hJ
  have lb := (List.getElem?_eq_some_iff.1 jb).1
  have a0 := at_in jb
  obtain ⟨u1, u2, u3, u4⟩ := cells_sub (X := []) (H := H) rfl
  have hpl := phL_len zs msk i
  generalize zs.getD i 0 % 1000 = m at *
  by_cases hi0 : i = 0
  · subst hi0
    have j1 := jz rfl
    have l1 := (List.getElem?_eq_some_iff.1 j1).1
    have a1 := at_in j1
    have a2 : ∀ Y v, (H ++ Y).set 1 v = H.set 1 v ++ Y := fun Y v => List.set_append_left _ _ l1
    have f1 : ∀ Bk, (H.set 1 (.cells true false 2 [[i64 w, .lsl (H.length + 1) 0 1]]) ++ [Bk, .cells true false 1 [[i64 m]]])[0]? = some (.cells true false 3 [[i64 w, ints n1 zs, ints n2 msk]]) := fun Bk => at_in (by rw [List.getElem?_set_ne (by omega)]; exact jb) _
    have f2 : ∀ Bk, (H.set 1 (.cells true false 2 [[i64 w, .lsl (H.length + 1) 0 1]]) ++ [Bk, .cells true false 1 [[i64 m]]])[1]? = some (.cells true false 2 [[i64 w, .lsl (H.length + 1) 0 1]]) := fun Bk => at_in (List.getElem?_set_self l1) _
    have f3 : ∀ Bk, (H.set 1 (.cells true false 2 [[i64 w, .lsl (H.length + 1) 0 1]]) ++ [Bk, .cells true false 1 [[i64 m]]])[H.length + 1]? = some (.cells true false 1 ((phL zs msk 0 ++ [m]).map fun x => [i64 x])) := fun Bk => by
      rw [List.getElem?_append_right (by simp), List.length_set, show H.length + 1 - H.length = 1 by omega]; rfl
    have hfin : ∀ sl Bk, St.only ⟨sl, H.set 1 (.cells true false 2 [[i64 w, .lsl (H.length + 1) 0 1]]) ++ [Bk, .cells true false 1 [[i64 m]]]⟩ [1, 3, 4, 5] = ⟨SL12 zs.length 0, H.set 1 (.cells true false 2 [[i64 w, .lsl (H.length + 1) 0 1]]) ++ [Bk, .cells true false 1 [[i64 m]]]⟩ →
        K .normal ⟨sl, H.set 1 (.cells true false 2 [[i64 w, .lsl (H.length + 1) 0 1]]) ++ [Bk, .cells true false 1 [[i64 m]]]⟩ := fun sl Bk hsl => hK (H.length + 1) _ hsl (f1 Bk) (by omega) (f2 Bk) (f3 Bk)
    have l3 : 0 < H.length + 2 := by omega
    have l4 : 1 < H.length + 2 := by omega
    have n3 : H.length ≠ 1 := by omega
    have n4 := Ne.symm n3
    replace hfin := PLift.up hfin
    clear hK jb jz js j1 f1 f2 f3
    unfold c12r1
    repeat' (first
      | ((with_reducible refine T_calm ?_ ?_); rfl)
      | with_reducible first
        | refine T_seq ?_
        | refine T_reg ?_
        | refine T_draw ?_
        | refine T_skip ?_
        | refine T_exit ?_
        | refine T_block ?_
        | refine T_cond_t rfl ?_
        | refine T_cond_f rfl ?_
        | refine wdW_cons rfl ?_
        | (show wcall _ false (.lit (.func (.func 24) _ _)) _ _ _ _; refine wcall_fn (h24) rfl (by simp [plainL, plain, plainR, Int.toNat_natCast, l3, l4, n3, n4]) ?_)
        | (show wcallX _ false (.lit (.func (.func 24) _ _)) _ _ _ _; refine wcallX_fn (h24) rfl (by simp [plainL, plain]) ?_)
        | ((first | refine T_cond rfl (fun hc => ?_) (fun hc => ?_) | refine wguard_split (fun hc => ?_) (fun hc => ?_) | refine wguardX_split (fun hc => ?_) (fun hc => ?_)) <;> have hd := hc <;> (try simp (disch := omega) only [wrapI] at hd) <;> have hs := hd <;> (try simp only [Bool.not_eq_true', Bool.not_eq_false', Bool.and_eq_true, Bool.and_eq_false_iff, Bool.or_eq_true, Bool.or_eq_false_iff, decide_eq_true_eq, decide_eq_false_iff_not, beq_iff_eq, bne_iff_ne, beq_eq_false_iff_ne, bne_eq_false_iff_eq, Bool.not_true, Bool.not_false, gt_iff_lt, ge_iff_le, Int.not_lt, Int.not_le, ne_eq, Decidable.not_not] at hd) <;> (try simp at hs))
        | refine T_ret ?_
        | refine wif_intro ?_ (fun hc => ?_)
        | refine And.intro ?_ ?_
        | intro hc
      | simp (maxSteps := 4000000) only [wrun_mv, wrun_load, wrun_store, wrun_faddr, wrun_iaddrS, wrun_bslice, wrun_app, wrunX_mv, wrunX_load, wrunX_store, wrunX_faddr, wrunX_iaddrS, wrunX_bslice, wrunX_app, wdW_nil, wstepX_none, wrunX_call, wop, aop, ev, look, put_some, put_none, writes, ores_some, ores_ite_none, elsOf, szOk, value, cut, hget, fillA, putCells, AV.parts, isOne, toLits, mkAgg, List.flatten_cons, List.flatten_nil, rowsOf, List.map_cons, List.map_nil, List.length_cons, List.length_nil, List.getElem?_cons_zero, List.getElem?_cons_succ, List.set_cons_zero, List.set_cons_succ, List.take_succ_cons, List.take_zero, List.take_nil, List.drop_succ_cons, List.drop_zero, List.drop_nil, List.cons_append, List.nil_append, List.append_nil, List.replicate_zero, List.replicate_succ, List.getD_cons_zero, List.all_cons, List.all_nil, List.isEmpty_cons, List.length_append, List.length_map, Option.getD_some, Option.map_some, if_true, if_false, Nat.reduceEqDiff, Nat.reduceAdd, Nat.reduceMul, Nat.reduceLeDiff, Nat.reduceLT, Nat.add_zero, Nat.zero_add, Nat.sub_zero, Nat.mul_one, Nat.le_refl, Bool.and_true, Bool.or_true, Bool.false_eq_true, eq_self, true_and, and_true, and_self, beq_self_eq_true, freeze, lidsL, lids, List.flatMap_cons, List.flatMap_nil, List.all_cons, ren, Int.toNat_natCast, *]
      | simp (disch := omega) only [getD_ints, wrapI]
      | (with_reducible show wcall _ false (.lit (.func (.func 24) _ _)) _ _ _ _; refine wcall_fn (h24) ?_ ?_ ?_; (next => simp [rfyL, rfy, hget, ints, take_rfy, Int.toNat_natCast, l3, l4, n3, n4]); (next => simp [plainL, plain, plainR, Int.toNat_natCast, l3, l4, n3, n4]))
      | (with_reducible show wcallX _ false (.lit (.func (.func 24) _ _)) _ _ _ _; refine wcallX_fn (h24) ?_ ?_ ?_; (next => simp [rfyL, rfy, hget, ints, take_rfy, Int.toNat_natCast, l3, l4, n3, n4]); (next => simp [plainL, plain, plainR, Int.toNat_natCast, l3, l4, n3, n4]))
      | (with_reducible refine wdW_cons ?_ ?_; (next => simp [chk, foot, compatB, argsOf, St.get, target, ev, look, lidsL, kind, wids, tops, opds, topId, l3, l4, n3]; done))
      | omega)
    all_goals first | exact hfin.down _ _ (by simp [St.only, get_mk, look])
  · obtain ⟨q, hq1, j1, jq⟩ := js hi0
    have l1 := (List.getElem?_eq_some_iff.1 j1).1
    have lq := (List.getElem?_eq_some_iff.1 jq).1
    have a1 := at_in j1
    have aq := at_in jq
    have a2 : ∀ Y v, (H ++ Y).set q v = H.set q v ++ Y := fun Y v => List.set_append_left _ _ lq
    obtain ⟨G, hG⟩ : ∃ G : List Blk, G = H.set q .dead := ⟨_, rfl⟩
    have gl : G.length = H.length := by rw [hG]; simp
    have gb : G[0]? = some (.cells true false 3 [[i64 w, ints n1 zs, ints n2 msk]]) := by rw [hG, List.getElem?_set_ne (by omega)]; exact jb
    have g1' : G[1]? = some (.cells true false 2 [[i64 w, .lsl q 0 i]]) := by rw [hG, List.getElem?_set_ne (by omega)]; exact j1
    have b1 := at_in g1'
    obtain ⟨v1, v2, v3, v4⟩ := cells_sub (X := []) (H := G) (N := H.length) gl
    have b2 : ∀ Y v, (G ++ Y).set 1 v = G.set 1 v ++ Y := fun Y v => List.set_append_left _ _ (by omega)
    have f1 : ∀ Bk, (G.set 1 (.cells true false 2 [[i64 w, .lsl (H.length + 1) 0 (i + 1)]]) ++ [Bk, .cells true false 1 ((phL zs msk i).map (fun x => [i64 x]) ++ [[i64 m]])])[0]? = some (.cells true false 3 [[i64 w, ints n1 zs, ints n2 msk]]) := fun Bk => at_in (by rw [List.getElem?_set_ne (by omega)]; exact gb) _
    have f2 : ∀ Bk, (G.set 1 (.cells true false 2 [[i64 w, .lsl (H.length + 1) 0 (i + 1)]]) ++ [Bk, .cells true false 1 ((phL zs msk i).map (fun x => [i64 x]) ++ [[i64 m]])])[1]? = some (.cells true false 2 [[i64 w, .lsl (H.length + 1) 0 (i + 1)]]) := fun Bk => at_in (List.getElem?_set_self (by omega)) _
    have f3 : ∀ Bk, (G.set 1 (.cells true false 2 [[i64 w, .lsl (H.length + 1) 0 (i + 1)]]) ++ [Bk, .cells true false 1 ((phL zs msk i).map (fun x => [i64 x]) ++ [[i64 m]])])[H.length + 1]? = some (.cells true false 1 ((phL zs msk i ++ [m]).map fun x => [i64 x])) := fun Bk => by
      rw [List.getElem?_append_right (by simp; omega), List.length_set, gl, show H.length + 1 - H.length = 1 by omega, List.map_append]; rfl
    have hfin : ∀ sl Bk, St.only ⟨sl, G.set 1 (.cells true false 2 [[i64 w, .lsl (H.length + 1) 0 (i + 1)]]) ++ [Bk, .cells true false 1 ((phL zs msk i).map (fun x => [i64 x]) ++ [[i64 m]])]⟩ [1, 3, 4, 5] = ⟨SL12 zs.length i, G.set 1 (.cells true false 2 [[i64 w, .lsl (H.length + 1) 0 (i + 1)]]) ++ [Bk, .cells true false 1 ((phL zs msk i).map (fun x => [i64 x]) ++ [[i64 m]])]⟩ →
        K .normal ⟨sl, G.set 1 (.cells true false 2 [[i64 w, .lsl (H.length + 1) 0 (i + 1)]]) ++ [Bk, .cells true false 1 ((phL zs msk i).map (fun x => [i64 x]) ++ [[i64 m]])]⟩ := fun sl Bk hsl => hK (H.length + 1) _ hsl (f1 Bk) (by omega) (f2 Bk) (f3 Bk)
    have l3 : 0 < H.length + 2 := by omega
    have l4 : 1 < H.length + 2 := by omega
    have n3 : H.length ≠ 1 := by omega
    have n4 := Ne.symm n3
    have hG' := hG.symm
    have hi1 : i ≤ 1000 := by omega
    have t1 : ((phL zs msk i).map fun x => [i64 x]).take i = (phL zs msk i).map fun x => [i64 x] := List.take_of_length_le (by simp [hpl])
    replace hfin := PLift.up hfin
    clear hK jb jz js j1 jq f1 f2 f3 hG g1' gb
    generalize (phL zs msk i) = L at *
    unfold c12r1
    repeat' (first
      | ((with_reducible refine T_calm ?_ ?_); rfl)
      | with_reducible first
        | refine T_seq ?_
        | refine T_reg ?_
        | refine T_draw ?_
        | refine T_skip ?_
        | refine T_exit ?_
        | refine T_block ?_
        | refine T_cond_t rfl ?_
        | refine T_cond_f rfl ?_
        | refine wdW_cons rfl ?_
        | (show wcall _ false (.lit (.func (.func 24) _ _)) _ _ _ _; refine wcall_fn (h24) rfl (by simp [plainL, plain, plainR, Int.toNat_natCast, l3, l4, n3, n4]) ?_)
        | (show wcallX _ false (.lit (.func (.func 24) _ _)) _ _ _ _; refine wcallX_fn (h24) rfl (by simp [plainL, plain]) ?_)
        | ((first | refine T_cond rfl (fun hc => ?_) (fun hc => ?_) | refine wguard_split (fun hc => ?_) (fun hc => ?_) | refine wguardX_split (fun hc => ?_) (fun hc => ?_)) <;> have hd := hc <;> (try simp (disch := omega) only [wrapI] at hd) <;> have hs := hd <;> (try simp only [Bool.not_eq_true', Bool.not_eq_false', Bool.and_eq_true, Bool.and_eq_false_iff, Bool.or_eq_true, Bool.or_eq_false_iff, decide_eq_true_eq, decide_eq_false_iff_not, beq_iff_eq, bne_iff_ne, beq_eq_false_iff_ne, bne_eq_false_iff_eq, Bool.not_true, Bool.not_false, gt_iff_lt, ge_iff_le, Int.not_lt, Int.not_le, ne_eq, Decidable.not_not] at hd) <;> (try simp at hs))
        | refine T_ret ?_
        | refine wif_intro ?_ (fun hc => ?_)
        | refine And.intro ?_ ?_
        | intro hc
      | simp (maxSteps := 4000000) only [wrun_mv, wrun_load, wrun_store, wrun_faddr, wrun_iaddrS, wrun_bslice, wrun_app, wrunX_mv, wrunX_load, wrunX_store, wrunX_faddr, wrunX_iaddrS, wrunX_bslice, wrunX_app, wdW_nil, wstepX_none, wrunX_call, wop, aop, ev, look, put_some, put_none, writes, ores_some, ores_ite_none, elsOf, szOk, value, cut, hget, fillA, putCells, AV.parts, isOne, toLits, mkAgg, List.flatten_cons, List.flatten_nil, rowsOf, List.map_cons, List.map_nil, List.length_cons, List.length_nil, List.getElem?_cons_zero, List.getElem?_cons_succ, List.set_cons_zero, List.set_cons_succ, List.take_succ_cons, List.take_zero, List.take_nil, List.drop_succ_cons, List.drop_zero, List.drop_nil, List.cons_append, List.nil_append, List.append_nil, List.replicate_zero, List.replicate_succ, List.getD_cons_zero, List.all_cons, List.all_nil, List.isEmpty_cons, List.length_append, List.length_map, Option.getD_some, Option.map_some, if_true, if_false, Nat.reduceEqDiff, Nat.reduceAdd, Nat.reduceLT, Nat.add_zero, Nat.zero_add, Nat.sub_zero, Nat.mul_one, Nat.le_refl, Bool.and_true, Bool.and_false, Bool.or_true, Bool.false_eq_true, eq_self, true_and, and_true, and_self, beq_self_eq_true, freeze, lidsL, lids, List.flatMap_cons, List.flatMap_nil, List.all_cons, ren, Int.toNat_natCast, *]
      | simp (disch := omega) only [getD_ints, wrapI]
      | (with_reducible show wcall _ false (.lit (.func (.func 24) _ _)) _ _ _ _; refine wcall_fn (h24) ?_ ?_ ?_; (next => simp [rfyL, rfy, hget, ints, take_rfy, Int.toNat_natCast, l3, l4, n3, n4]); (next => simp [plainL, plain, plainR, Int.toNat_natCast, l3, l4, n3, n4]))
      | (with_reducible show wcallX _ false (.lit (.func (.func 24) _ _)) _ _ _ _; refine wcallX_fn (h24) ?_ ?_ ?_; (next => simp [rfyL, rfy, hget, ints, take_rfy, Int.toNat_natCast, l3, l4, n3, n4]); (next => simp [plainL, plain, plainR, Int.toNat_natCast, l3, l4, n3, n4]))
      | (with_reducible refine wdW_cons ?_ ?_; (next => simp [chk, foot, compatB, argsOf, St.get, target, ev, look, lidsL, kind, wids, tops, opds, topId, l3, l4, n3]; done))
      | omega)
    all_goals first | exact hfin.down _ _ (by simp [St.only, get_mk, look])
end
end Go.Abs
