import Derived.Test.YtodheeifecoebaaK259
import Derived.Test.YtodheeifecoebaaK25x
import Derived.Test.YtodheeifecoebaaK262x
import Derived.Test.YtodheeifecoebaaK273x
import Derived.Test.YtodheeifecoebaaK280
set_option linter.all false
set_option linter.unusedVariables false
set_option linter.unusedSimpArgs false
set_option linter.unusedSectionVars false
namespace Go.Abs
open Go.Proofs
/-! spread: a cell that is new -/
def c106r8 : ACode :=
 (.dreg 0 [(0, ⟨(some 58), (.load 1 false (.tmp 2)), none, 0⟩), (1, ⟨(some 59), (.nilck (.tmp 58)), none, 0⟩), (2, ⟨(some 60), (.faddr 4 (.tmp 59)), none, 0⟩), (3, ⟨(some 61), (.load 1 false (.tmp 60)), none, 0⟩), (4, ⟨(some 62), (.mv (.tmp 6)), none, 0⟩), (5, ⟨(some 63), (.load 1 false (.tmp 2)), none, 0⟩), (6, ⟨(some 64), (.nilck (.tmp 63)), none, 0⟩), (7, ⟨(some 65), (.faddr 3 (.tmp 64)), none, 0⟩), (8, ⟨(some 66), (.load 1 false (.tmp 65)), none, 0⟩), (9, ⟨(some 67), (.mv (.tmp 6)), none, 0⟩), (10, ⟨(some 68), (.load 1 false (.tmp 2)), none, 0⟩), (11, ⟨(some 69), (.nilck (.tmp 68)), none, 0⟩), (12, ⟨(some 70), (.faddr 2 (.tmp 69)), none, 0⟩), (13, ⟨(some 71), (.load 1 false (.tmp 70)), none, 0⟩), (14, ⟨(some 72), (.mv (.tmp 6)), none, 0⟩), (15, ⟨(some 73), (.load 1 false (.tmp 5)), none, 0⟩), (16, ⟨(some 74), (.load 1 false (.tmp 2)), none, 0⟩), (17, ⟨(some 75), (.nilck (.tmp 74)), none, 0⟩), (18, ⟨(some 76), (.faddr 2 (.tmp 75)), none, 0⟩), (19, ⟨(some 77), (.load 1 false (.tmp 76)), none, 0⟩), (20, ⟨(some 78), (.load 1 false (.tmp 5)), none, 0⟩), (21, ⟨(some 79), (.iaddrS 1 (.tmp 77) (.tmp 78)), none, 0⟩), (22, ⟨(some 80), (.load 1 false (.tmp 79)), none, 0⟩), (23, ⟨(some 81), (.load 1 false (.tmp 2)), none, 0⟩), (24, ⟨(some 82), (.nilck (.tmp 81)), none, 0⟩), (25, ⟨(some 83), (.faddr 0 (.tmp 82)), none, 0⟩), (26, ⟨(some 84), (.load 2 true (.tmp 83)), none, 0⟩), (27, ⟨(some 85), (.load 1 false (.tmp 5)), none, 0⟩), (28, ⟨(some 86), (.mv (.tmp 6)), none, 0⟩), (29, ⟨(some 87), (.call false (.val (.lit (.func (.func 108) #[] #[]))) [(.tmp 84), (.tmp 85), (.tmp 86)]), none, 0⟩), (30, ⟨(some 88), (.bin .add (.tmp 80) (.tmp 87)), none, 0⟩), (31, ⟨(some 89), (.iaddrS 1 (.tmp 61) (.tmp 62)), none, 0⟩), (32, ⟨none, (.store 1 (.tmp 89) (.val (.lit (.bool true)))), none, 0⟩), (33, ⟨(some 90), (.iaddrS 1 (.tmp 66) (.tmp 67)), none, 0⟩), (34, ⟨none, (.store 1 (.tmp 90) (.tmp 73)), none, 0⟩), (35, ⟨(some 91), (.iaddrS 1 (.tmp 71) (.tmp 72)), none, 0⟩), (36, ⟨none, (.store 1 (.tmp 91) (.tmp 88)), none, 0⟩)] [[], [0], [1, 0], [2, 1, 0], [], [], [5], [6, 5], [7, 6, 5], [], [], [10], [11, 10], [12, 11, 10], [], [], [], [16], [17, 16], [18, 17, 16], [], [19, 20, 18, 17, 16], [21, 19, 20, 18, 17, 16], [], [23], [24, 23], [25, 24, 23], [], [], [26, 27, 28, 25, 24, 23], [22, 29, 21, 19, 20, 18, 17, 16, 26, 27, 28, 25, 24, 23], [3, 4, 0, 1, 2, 8, 13, 19, 22, 26, 29, 7, 6, 5, 12, 11, 10, 18, 17, 16, 21, 20, 25, 24, 23, 27, 28], [31, 29, 0, 1, 2, 3, 4, 8, 13, 19, 22, 26, 7, 6, 5, 12, 11, 10, 18, 17, 16, 21, 20, 25, 24, 23, 27, 28], [8, 9, 0, 1, 2, 3, 4, 5, 6, 7, 13, 15, 19, 22, 26, 29, 31, 32, 12, 11, 10, 18, 17, 16, 21, 20, 25, 24, 23, 27, 28], [33, 15, 32, 0, 1, 2, 3, 4, 5, 6, 7, 8, 9, 13, 19, 22, 26, 29, 31, 12, 11, 10, 18, 17, 16, 21, 20, 25, 24, 23, 27, 28], [13, 14, 0, 1, 2, 3, 4, 5, 6, 7, 8, 9, 10, 11, 12, 15, 16, 17, 18, 19, 20, 21, 22, 23, 24, 25, 26, 27, 28, 29, 30, 31, 32, 33, 34], [35, 30, 34, 0, 1, 2, 3, 4, 5, 6, 7, 8, 9, 10, 11, 12, 13, 14, 15, 16, 17, 18, 19, 20, 21, 22, 23, 24, 25, 26, 27, 28, 29, 31, 32, 33]])
def c106r9 : ACode :=
 (.reg 2 [⟨(some 92), (.load 1 false (.tmp 4)), none, 0⟩, ⟨(some 93), (.mv (.tmp 6)), none, 0⟩, ⟨(some 94), (.bslice 1 1 [(.lit (.int .i64 0))] [(0, (.tmp 93))]), none, 0⟩, ⟨(some 95), (.app 1 8 (.tmp 92) (.tmp 94)), none, 1⟩, ⟨none, (.store 1 (.tmp 4) (.tmp 95)), none, 2⟩])
theorem c106r0_cut : c106r0 =  (.block 3 (.seq (.reg 0 [⟨(some 50), (.load 1 false (.tmp 2)), none, 0⟩, ⟨(some 51), (.nilck (.tmp 50)), none, 0⟩, ⟨(some 52), (.faddr 4 (.tmp 51)), none, 0⟩, ⟨(some 53), (.load 1 false (.tmp 52)), none, 0⟩, ⟨(some 54), (.mv (.tmp 6)), none, 0⟩, ⟨(some 55), (.iaddrS 1 (.tmp 53) (.tmp 54)), none, 0⟩, ⟨(some 56), (.load 1 false (.tmp 55)), none, 0⟩, ⟨(some 57), (.not (.tmp 56)), none, 0⟩])
 (.cond (.tmp 57) (.seq c106r8 c106r9) .skip))) := rfl
abbrev FoB (ot : Bool) (w : Int) (nl : Bool) (ph : List Int) (ih ifr ir : Nat) : Blk := .cells ot false 5 [[i64 w, ints nl ph, .lsl ih 0 ph.length, .lsl ifr 0 ph.length, .lsl ir 0 ph.length]]
abbrev nB (n : Nat) (f : Nat → Int) : Blk := .cells true false 1 ((mk n f).map fun x => [i64 x])
abbrev bB (n : Nat) (o : List Nat) : Blk := .cells true false 1 (kn n o)
abbrev SL106 (N0 ic : Nat) (x : Int) : List (Nat × AV) := [(2, .loc N0 0 0), (4, .loc (N0 + 2) 0 0), (5, .loc ic 0 0), (6, i64 x)]
set_option maxHeartbeats 8000000 in
theorem k106d {ot nl : Bool} {w : Int} {ph : List Int} (hl : ph.length < 1000000) (hp : okPh ph) {it ih ifr ir N0 ic : Nat} {o : List Nat} {h fr : Nat → Int} {cell b : Nat} {H : List Blk} (hc : cell < ph.length) (hb : b < ph.length) (hB : -1000000000 ≤ h cell ∧ h cell ≤ 1000000000)
    (hT : H[it]? = some (FoB ot w nl ph ih ifr ir)) (hH : H[ih]? = some (nB ph.length h)) (hF : H[ifr]? = some (nB ph.length fr)) (hR : H[ir]? = some (bB ph.length o)) (h1 : ih ≠ ifr) (h2 : ih ≠ ir) (h3 : ifr ≠ ir)
    (hV : H[N0]? = some (.cells true false 1 [[.loc it 0 0]])) (hC : H[ic]? = some (.cells true false 1 [[i64 cell]])) (hci : ic ≠ ir) {md : Option Nat} {b0 : Nat} (K : Exit → St → Prop)
    (hK : ∀ τ : St, τ.only [2, 4, 5, 6] = ⟨SL106 N0 ic b, ((H.set ir (bB ph.length (o ++ [b]))).set ifr (nB ph.length (upd fr b cell))).set ih (nB ph.length (upd h b (h cell + stN ph cell b)))⟩ → K .normal τ) :
    T md Try.prog muts 96 b0 c106r8 ⟨SL106 N0 ic b, H⟩ K := by
  have h108 := k108 w nl ph cell b (by omega) hp (by omega) (by omega)
  have hst := stepI_r ph cell b
  have g1 : ((mk ph.length h).map fun x => [i64 x]).getD cell [] = [i64 (h cell)] := by rw [getD_ints (by rw [mk_len]; exact hc), mk_get hc]
  have g2 : ((mk ph.length h).map fun x => [i64 x]).length = ph.length := by rw [List.length_map, mk_len]
  have t1 : (((mk ph.length h).map fun x => [i64 x])[b]?.getD []).tail = [] := by rw [← List.getD_eq_getElem?_getD, getD_ints (by rw [mk_len]; exact hb)]; rfl
  have t2 : ((kn ph.length o)[b]?.getD []).tail = [] := by rw [← List.getD_eq_getElem?_getD, kn_get hb]; rfl
  have g3 := mk_len ph.length fr
  have g4 := kn_len ph.length o
  have lr := (List.getElem?_eq_some_iff.1 hR).1
  have lf := (List.getElem?_eq_some_iff.1 hF).1
  have lh := (List.getElem?_eq_some_iff.1 hH).1
  have lt := (List.getElem?_eq_some_iff.1 hT).1
  have hci' := Ne.symm hci
  have lv := (List.getElem?_eq_some_iff.1 hV).1
  have lc := (List.getElem?_eq_some_iff.1 hC).1
  have f1 : ∀ v, (H.set ir v)[ifr]? = some (nB ph.length fr) := fun v => by rw [List.getElem?_set_ne (Ne.symm h3)]; exact hF
  have f2 : ∀ v v', ((H.set ir v).set ifr v')[ih]? = some (nB ph.length h) := fun v v' => by rw [List.getElem?_set_ne (Ne.symm h1), List.getElem?_set_ne (Ne.symm h2)]; exact hH
  have ew : IntKind.i64.wrap (h cell + stepI ph cell b) = h cell + stepI ph cell b := wrapI (by omega) (by omega)
  have es1 : ∀ (f : Nat → Int) (v : Int), ((mk ph.length f).map fun x => [i64 x]).set b [i64 v] = (mk ph.length (upd f b v)).map fun x => [i64 x] := fun f v => by rw [← mk_upd, List.map_set]
  have es2 : (kn ph.length o).set b [bl true] = kn ph.length (o ++ [b]) := kn_set
  have hst0 : stN ph cell b = stepI ph cell b := rfl
  rw [hst0] at hK
  have k1 := es1 h (h cell + stepI ph cell b)
  have k2 := es1 fr cell
  unfold nB bB at hK
  unfold nB at hH hF f1 f2
  unfold bB at hR
  rw [← k1, ← k2, ← es2] at hK
  clear es1 es2 k1 k2 hst0 hp h1 h2 h3
  replace hK := PLift.up hK
  unfold FoB at hT
  generalize (mk ph.length h).map (fun x => [i64 x]) = LH at *
  unfold c106r8
  repeat' (first
    | ((with_reducible refine T_calm ?_ ?_); rfl)
    | with_reducible first
      | refine T_seq ?_
      | refine T_reg ?_
      | refine T_draw ?_
      | refine T_skip ?_
      | refine T_exit ?_
      | refine T_block ?_
      | refine T_cond_t rfl ?_
      | refine T_cond_f rfl ?_
      | refine wdW_cons rfl ?_
      | (show wcall _ false (.lit (.func (.func 108) _ _)) _ _ _ _; refine wcall_fn (h108) rfl (by simp [plainL, plain, plainR, Int.toNat_natCast, lt, lv, lc, lr, lf, lh, hci, hci']) ?_)
      | (show wcallX _ false (.lit (.func (.func 108) _ _)) _ _ _ _; refine wcallX_fn (h108) rfl (by simp [plainL, plain]) ?_)
      | ((first | refine T_cond rfl (fun hc => ?_) (fun hc => ?_) | refine wguard_split (fun hc => ?_) (fun hc => ?_) | refine wguardX_split (fun hc => ?_) (fun hc => ?_)) <;> have hd := hc <;> (try simp (disch := omega) only [wrapI] at hd) <;> have hs := hd <;> (try simp only [Bool.not_eq_true', Bool.not_eq_false', Bool.and_eq_true, Bool.and_eq_false_iff, Bool.or_eq_true, Bool.or_eq_false_iff, decide_eq_true_eq, decide_eq_false_iff_not, beq_iff_eq, bne_iff_ne, beq_eq_false_iff_ne, bne_eq_false_iff_eq, Bool.not_true, Bool.not_false, gt_iff_lt, ge_iff_le, Int.not_lt, Int.not_le, ne_eq, Decidable.not_not] at hd) <;> (try simp at hs))
      | refine T_ret ?_
      | refine wif_intro ?_ (fun hc => ?_)
      | refine And.intro ?_ ?_
      | intro hc
    | simp (maxSteps := 4000000) only [wrun_mv, wrun_bin, wrun_load, wrun_store, wrun_faddr, wrun_iaddrS, wrun_nilck, wrunX_mv, wrunX_bin, wrunX_load, wrunX_store, wrunX_faddr, wrunX_iaddrS, wrunX_nilck, wdW_nil, wstepX_none, wrunX_call, wop, aop, ev, look, put_some, put_none, writes, ores_some, ores_ite_none, binV, value, cut, hget, putCells, AV.parts, isOne, toLits, mkAgg, List.map_cons, List.map_nil, List.length_cons, List.length_nil, List.take_succ_cons, List.take_zero, List.take_nil, List.drop_succ_cons, List.drop_zero, List.drop_nil, List.cons_append, List.nil_append, List.append_nil, List.replicate_zero, List.getD_cons_zero, List.all_cons, List.all_nil, List.length_map, Option.getD_some, Option.map_some, Option.map_none, if_true, if_false, Nat.reduceEqDiff, Nat.reduceAdd, Nat.add_zero, Nat.zero_add, Nat.le_refl, reduceCtorEq, Bool.and_true, Bool.false_eq_true, eq_self, and_true, and_self, freeze, lidsL, lids, List.flatMap_cons, List.flatMap_nil, List.all_cons, ren, Int.toNat_natCast, *]
    | simp (disch := omega) only [getD_ints]
    | (with_reducible show wcall _ false (.lit (.func (.func 108) _ _)) _ _ _ _; refine wcall_fn (h108) ?_ ?_ ?_; (next => simp [rfyL, rfy, hget, ints, take_rfy, Int.toNat_natCast, lt, lv, lc, lr, lf, lh, hci, hci']); (next => simp [plainL, plain, plainR, Int.toNat_natCast, lt, lv, lc, lr, lf, lh, hci, hci']))
    | (with_reducible show wcallX _ false (.lit (.func (.func 108) _ _)) _ _ _ _; refine wcallX_fn (h108) ?_ ?_ ?_; (next => simp [rfyL, rfy, hget, ints, take_rfy, Int.toNat_natCast, lt, lv, lc, lr, lf, lh, hci, hci']); (next => simp [plainL, plain, plainR, Int.toNat_natCast, lt, lv, lc, lr, lf, lh, hci, hci']))
    | (with_reducible refine wdW_cons ?_ ?_; (next => simp [chk, foot, compatB, argsOf, St.get, target, ev, look, lidsL, kind, wids, tops, opds, topId, lt, lv, lc, lr, lh, hci']; done))
    | omega)
  all_goals first | exact hK.down _ (by simp [St.only, get_mk, look, t1, t2])
set_option maxHeartbeats 8000000 in
theorem k106e {N0 ic : Nat} {b : Nat} {G : List Blk} {iq i m : Nat} {els : List (List AV)} (hi : i + m ≤ els.length) (hm : m < 1000000) (hne : iq ≠ N0 + 2)
    (hQ : G[N0 + 2]? = some (.cells true false 1 [[.lsl iq i m]])) (hE : G[iq]? = some (.cells true false 1 els)) {md : Option Nat} {b0 : Nat} (K : Exit → St → Prop)
    (hK : ∀ τ : St, (∃ B : Blk, τ.heap = (G.set iq .dead).set (N0 + 2) (.cells true false 1 [[.lsl (G.length + 1) 0 (m + 1)]]) ++ [B, .cells true false 1 ((els.drop i).take m ++ [[i64 b]])]) → K .normal τ) :
    T md Try.prog muts 96 b0 c106r9 ⟨SL106 N0 ic b, G⟩ K := by
  have lq := (List.getElem?_eq_some_iff.1 hQ).1
  have le := (List.getElem?_eq_some_iff.1 hE).1
  have a1 := at_in hQ
  have a2 := at_in hE
  have a3 : ∀ Y v, (G ++ Y).set iq v = G.set iq v ++ Y := fun Y v => List.set_append_left _ _ le
  obtain ⟨u1, u2, u3, u4⟩ := cells_sub (X := []) (H := G) rfl
  have dq : (G.set iq .dead)[N0 + 2]? = some (.cells true false 1 [[.lsl iq i m]]) := by rw [List.getElem?_set_ne hne]; exact hQ
  obtain ⟨v1, v2, v3, v4⟩ := cells_sub (X := []) (H := G.set iq .dead) (N := G.length) (by simp)
  have a4 := at_in dq
  have a5 : ∀ Y v, (G.set iq .dead ++ Y).set (N0 + 2) v = (G.set iq .dead).set (N0 + 2) v ++ Y := fun Y v => List.set_append_left _ _ (by simp; exact lq)
  have hm2 : m ≤ els.length - i := by omega
  have hm3 : (m + 1) * 8 ≤ 140737488355328 := by omega
  unfold SL106
  generalize N0 + 2 = Nq at *
  clear hQ hE lq le dq hne hi
  replace hK := PLift.up hK
  generalize hgl : G.length = gl at *
  unfold c106r9
  repeat' (first
    | ((with_reducible refine T_calm ?_ ?_); rfl)
    | with_reducible first
      | refine T_seq ?_
      | refine T_reg ?_
      | refine T_draw ?_
      | refine T_skip ?_
      | refine T_exit ?_
      | refine T_block ?_
      | refine T_cond_t rfl ?_
      | refine T_cond_f rfl ?_
      | refine wdW_cons rfl ?_
      | ((first | refine T_cond rfl (fun hc => ?_) (fun hc => ?_) | refine wguard_split (fun hc => ?_) (fun hc => ?_) | refine wguardX_split (fun hc => ?_) (fun hc => ?_)) <;> have hd := hc <;> (try simp (disch := omega) only [wrapI] at hd) <;> have hs := hd <;> (try simp only [Bool.not_eq_true', Bool.not_eq_false', Bool.and_eq_true, Bool.and_eq_false_iff, Bool.or_eq_true, Bool.or_eq_false_iff, decide_eq_true_eq, decide_eq_false_iff_not, beq_iff_eq, bne_iff_ne, beq_eq_false_iff_ne, bne_eq_false_iff_eq, Bool.not_true, Bool.not_false, gt_iff_lt, ge_iff_le, Int.not_lt, Int.not_le, ne_eq, Decidable.not_not] at hd) <;> (try simp at hs))
      | refine T_ret ?_
      | refine wif_intro ?_ (fun hc => ?_)
      | refine And.intro ?_ ?_
      | intro hc
    | simp (maxSteps := 4000000) only [wops_nil, wops_cons, wstep_none, wrun_mv, wrun_load, wrun_store, wrun_bslice, wrun_app, wop, aop, ev, look, put_some, put_none, writes, ores_some, elsOf, szOk, value, cut, hget, fillA, putCells, AV.parts, isOne, toLits, mkAgg, List.flatten_cons, List.flatten_nil, rowsOf, List.map_cons, List.map_nil, List.length_cons, List.length_nil, List.getElem?_cons_zero, List.getElem?_cons_succ, List.set_cons_zero, List.set_cons_succ, List.take_succ_cons, List.take_zero, List.take_nil, List.drop_succ_cons, List.drop_zero, List.drop_nil, List.nil_append, List.append_nil, List.replicate_zero, List.replicate_succ, List.getD_cons_zero, List.all_cons, List.all_nil, List.isEmpty_cons, Option.getD_some, Option.map_some, if_true, if_false, Nat.reduceEqDiff, Nat.reduceLT, Nat.add_zero, Nat.zero_add, Nat.sub_zero, Nat.mul_one, Nat.le_refl, Bool.and_true, Bool.and_false, Bool.or_true, Bool.false_eq_true, eq_self, true_and, and_self, beq_self_eq_true, List.all_cons, *]
    | simp (disch := omega) only [getD_ints, wrapI]
    | omega)
  all_goals first | exact hK.down _ ⟨_, rfl⟩
end Go.Abs
