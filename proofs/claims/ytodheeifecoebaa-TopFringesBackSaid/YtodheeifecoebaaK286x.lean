import Derived.Test.YtodheeifecoebaaK29x
import Derived.Test.YtodheeifecoebaaK266x
import Derived.Test.YtodheeifecoebaaK285x
set_option linter.all false
set_option linter.unusedVariables false
set_option linter.unusedSimpArgs false
set_option linter.unusedSectionVars false
namespace Go.Abs
open Go.Proofs
/-! profile.Unwrap: a step that does not agree -/
structure Bad42 (w : Int) (ph : List Int) (H : List Blk) : Prop where
  a : H[1]? = some (.cells true false 1 [[.sl true 0 []]])
  b : ∃ (id : Nat) (L : List Nat), H[2]? = some (.cells true false 1 [[.lsl id 0 L.length]]) ∧ H[id]? = some (.cells true false 1 ((czN L).map fun x => [i64 x])) ∧ L.length ≤ ph.length ∧ (chkLp w ph (czN L)).2 = 0
  c : H[3]? = some (.cells true false 1 [[i64 25]])
def okN (ph : List Int) (h : Nat → Int) (a b : Nat) : Prop := h b - h a = stN ph a b
abbrev SLr42 (ic : Nat) (x : Int) : List (Nat × AV) := [(2, .loc 1 0 0), (3, .loc 2 0 0), (4, .loc 3 0 0), (7, .loc 8 0 0), (9, .loc ic 0 0), (10, i64 x)]
set_option maxHeartbeats 8000000 in
theorem k42r {w : Int} {nil : Bool} {ph : List Int} (hl : ph.length ≤ 144) (hp : okPh ph) {o : List Nat} {h fr : Nat → Int} {H : List Blk} {ic cell b : Nat} (hs : PcF w ph ph.length o h fr) (hm : M42 w nil ph o h fr H) (hic : 9 ≤ ic)
    (hC : H[ic]? = some (.cells true false 1 [[i64 cell]])) (he : edN w ph cell b = true) {md : Option Nat} {b0 : Nat} (K : Exit → St → Prop)
    (hK1 : okN ph h cell b → ∀ τ : St, τ.heap = H → K .normal τ)
    (hK2 : ∀ τ : St, Bad42 w ph τ.heap → (∀ id, 9 ≤ id → id < H.length → τ.heap[id]? = H[id]?) → K .ret τ) :
    T md Try.prog muts 106 b0 c42r1 ⟨SLr42 ic b, H⟩ K := by
  obtain ⟨hm, hH⟩ := hm
  obtain ⟨mt, mh, mf, mr, mo⟩ := id hm
  have hg := grid_gr w ph
  have hcn := hg.inn cell b he
  have hbn := hg.inn b cell (by rw [hg.sym]; exact he)
  have g0 : ∀ {id : Nat} {B : Blk}, id < 9 → id ≠ 4 → id ≠ 5 → id ≠ 6 → (B42 w nil ph)[id]? = some B → H[id]? = some B := fun {id B} h1 h2 h3 h4 h5 => (mo id h1 h2 h3 h4).trans h5
  have g8 : H[8]? = some (.cells true false 1 [[.loc 7 0 0]]) := g0 (by omega) (by omega) (by omega) (by omega) rfl
  have g1 : H[1]? = some (.cells true false 1 [[.sl true 0 []]]) := g0 (by omega) (by omega) (by omega) (by omega) rfl
  have g2 : H[2]? = some (.cells true false 1 [[.sl true 0 []]]) := g0 (by omega) (by omega) (by omega) (by omega) rfl
  have g3 : H[3]? = some (.cells true false 1 [[i64 0]]) := g0 (by omega) (by omega) (by omega) (by omega) rfl
  have h108 := k108 w nil ph cell b (by omega) hp (by omega) (by omega)
  have hst := stepI_r ph cell b
  have hBc := hs.bd cell
  have hBb := hs.bd b
  have hol := hs.fo.len
  have hm1 : ((mk ph.length h).map fun x => [i64 x]).getD cell [] = [i64 (h cell)] := by rw [getD_ints (by rw [mk_len]; exact hcn.1), mk_get hcn.1]
  have hm2 : ((mk ph.length h).map fun x => [i64 x]).getD b [] = [i64 (h b)] := by rw [getD_ints (by rw [mk_len]; exact hbn.1), mk_get hbn.1]
  have hml := mk_len ph.length h
  have ew : IntKind.i64.wrap (h b - h cell) = h b - h cell := wrapI (by omega) (by omega)
  have hst0 : stN ph cell b = stepI ph cell b := rfl
  have l7 : 7 < H.length := by omega
  have l8 : 8 < H.length := by omega
  have l4 : 4 < H.length := by omega
  have lc := (List.getElem?_eq_some_iff.1 hC).1
  by_cases hd0 : h b - h cell = stepI ph cell b
  · have f := PLift.up (hK1 (hd0.trans hst0.symm))
    have hd1 : (h b - h cell != stepI ph cell b) = false := by simp only [bne_eq_false_iff_eq]; exact hd0
    clear hK1 hK2 hd0 hst0 hs hm mo g0 hp hg he
    generalize stepI ph cell b = s at *
    unfold nB at mh
    unfold FoB at mt
    generalize mk ph.length h = L at *
    generalize h cell = u at *
    generalize h b = v at *
    unfold c42r1
    repeat' (first
      | ((with_reducible refine T_calm ?_ ?_); rfl)
      | with_reducible first
        | refine T_seq ?_
        | refine T_reg ?_
        | refine T_draw ?_
        | refine T_skip ?_
        | refine T_exit ?_
        | refine T_block ?_
        | refine T_cond_t rfl ?_
        | refine T_cond_f rfl ?_
        | refine wdW_cons rfl ?_
        | (show wcall _ false (.lit (.func (.func 108) _ _)) _ _ _ _; refine wcall_fn (h108) rfl (by simp [plainL, plain, plainR, Int.toNat_natCast, l7, l8, l4, lc]) ?_)
        | (show wcallX _ false (.lit (.func (.func 108) _ _)) _ _ _ _; refine wcallX_fn (h108) rfl (by simp [plainL, plain]) ?_)
        | ((first | refine T_cond rfl (fun hc => ?_) (fun hc => ?_) | refine wguard_split (fun hc => ?_) (fun hc => ?_) | refine wguardX_split (fun hc => ?_) (fun hc => ?_)) <;> have hd := hc <;> (try simp (disch := omega) only [wrapI] at hd) <;> have hs := hd <;> (try simp only [Bool.not_eq_true', Bool.not_eq_false', Bool.and_eq_true, Bool.and_eq_false_iff, Bool.or_eq_true, Bool.or_eq_false_iff, decide_eq_true_eq, decide_eq_false_iff_not, beq_iff_eq, bne_iff_ne, beq_eq_false_iff_ne, bne_eq_false_iff_eq, Bool.not_true, Bool.not_false, gt_iff_lt, ge_iff_le, Int.not_lt, Int.not_le, ne_eq, Decidable.not_not] at hd) <;> (try simp at hs))
        | refine T_ret ?_
        | refine wif_intro ?_ (fun hc => ?_)
        | refine And.intro ?_ ?_
        | intro hc
      | simp (maxSteps := 4000000) only [wrun_mv, wrun_bin, wrun_load, wrun_faddr, wrun_iaddrS, wrun_nilck, wrunX_mv, wrunX_bin, wrunX_load, wrunX_faddr, wrunX_iaddrS, wrunX_nilck, wdW_nil, wstepX_none, wrunX_call, wop, aop, ev, look, put_some, writes, ores_some, ores_ite_none, binV, thenK, blockK, value, cut, hget, toLits, mkAgg, List.map_cons, List.map_nil, List.length_cons, List.length_nil, List.take_succ_cons, List.take_zero, List.take_nil, List.drop_succ_cons, List.drop_zero, List.append_nil, List.replicate_zero, List.getD_cons_zero, Option.getD_some, Option.map_some, Option.map_none, if_true, if_false, Nat.reduceEqDiff, Nat.reduceAdd, Nat.add_zero, Nat.zero_add, reduceCtorEq, Bool.false_eq_true, eq_self, and_true, freeze, lidsL, lids, List.flatMap_cons, List.flatMap_nil, ren, Int.toNat_natCast, *]
      | simp (disch := omega) only [getD_ints, wrapI]
      | (with_reducible show wcall _ false (.lit (.func (.func 108) _ _)) _ _ _ _; refine wcall_fn (h108) ?_ ?_ ?_; (next => simp [rfyL, rfy, hget, ints, take_rfy, Int.toNat_natCast, l7, l8, l4, lc]); (next => simp [plainL, plain, plainR, Int.toNat_natCast, l7, l8, l4, lc]))
      | (with_reducible show wcallX _ false (.lit (.func (.func 108) _ _)) _ _ _ _; refine wcallX_fn (h108) ?_ ?_ ?_; (next => simp [rfyL, rfy, hget, ints, take_rfy, Int.toNat_natCast, l7, l8, l4, lc]); (next => simp [plainL, plain, plainR, Int.toNat_natCast, l7, l8, l4, lc]))
      | (with_reducible refine wdW_cons ?_ ?_; (next => simp [chk, foot, compatB, argsOf, St.get, target, ev, look, lidsL, kind, wids, tops, opds, topId, l7, l8, l4, lc]; done))
      | omega)
    all_goals first | exact f.down _ rfl
  · have hd1 : (h b - h cell != stepI ph cell b) = true := by simp only [bne_iff_ne]; exact hd0
    obtain ⟨X, hX, hX0, hXl⟩ := hs.fo.chain (hs.al cell hcn.1 hcn.2)
    obtain ⟨Y, hY, hY0, hYl⟩ := hs.fo.chain (hs.al b hbn.1 hbn.2)
    have heX : edN w ph (X.getD 0 0) (Y.getD 0 0) = true := by rw [hX0, hY0]; exact he
    have hone := Ch.one hg.sym hX hY heX
    have hcall := k109 hX hY hone (n := ph.length) (fun k hk => (hs.fo.inn _ (hX.on k hk)).1) (fun k hk => (hs.fo.inn _ (hY.on k hk)).1) (by omega) (by omega) (by omega) mt mf hX0 hY0
    have hfin : ∀ (r : AV) (H1 : List Blk), LoopOk H X Y r H1 → ∃ id n, r = .lsl id 0 n ∧ H1[1]? = some (.cells true false 1 [[.sl true 0 []]]) ∧ (∀ v, (H1.set 1 v)[2]? = some (.cells true false 1 [[.sl true 0 []]])) ∧ (∀ v v', ((H1.set 1 v).set 2 v')[3]? = some (.cells true false 1 [[i64 0]])) ∧
        ∀ sl, K .ret ⟨sl, ((H1.set 1 (.cells true false 1 [[.sl true 0 []]])).set 2 (.cells true false 1 [[.lsl id 0 n]])).set 3 (.cells true false 1 [[i64 25]])⟩ := fun r H1 hL => by
      obtain ⟨⟨t, id, ⟨s1, s2, s3⟩, hend, hr, hid⟩, hsame⟩ := hL
      have hch := loop_chk hl hs.fo hX hY s1 s2 s3 hend heX (by rw [hX0, hY0, hst0]; exact hd0)
      have hok := loop_ok hg hs.fo hX hY s1 s2 s3 hend heX (by rw [hX0, hY0, hst0]; exact hd0)
      have hlen := hok.1.1
      generalize lpL X Y t = L at *
      have e1 := (hsame 1 (by omega)).trans g1
      have e2 := (hsame 2 (by omega)).trans g2
      have e3 := (hsame 3 (by omega)).trans g3
      have hll : ((cz L).map fun x => [i64 x]).length = L.length := by rw [List.length_map, cz_len]
      have hne : ∀ {j : Nat} {x : List AV}, H1[j]? = some (.cells true false 1 [x]) → j ≠ id := fun {j x} hj e => by
        subst e
        rw [hid] at hj
        simp only [Option.some.injEq, Blk.cells.injEq, true_and] at hj
        rw [hj] at hll
        simp at hll
        omega
      have n1 := hne e1
      have n2 := hne e2
      have n3 := hne e3
      have l1 := (List.getElem?_eq_some_iff.1 e1).1
      have l2 := (List.getElem?_eq_some_iff.1 e2).1
      have l3 := (List.getElem?_eq_some_iff.1 e3).1
      refine ⟨id, L.length, hr, e1, fun v => by rw [List.getElem?_set_ne (by omega)]; exact e2, fun v v' => by rw [List.getElem?_set_ne (by omega), List.getElem?_set_ne (by omega)]; exact e3, fun sl => hK2 _ ⟨?_, ⟨id, L, ?_, ?_, hch.1, hch.2⟩, ?_⟩ fun j hj1 hj2 => ?_⟩
      · rw [List.getElem?_set_ne (by omega), List.getElem?_set_ne (by omega)]; exact List.getElem?_set_self l1
      · rw [List.getElem?_set_ne (by omega)]; exact List.getElem?_set_self (by simpa using l2)
      · rw [List.getElem?_set_ne n3, List.getElem?_set_ne n2, List.getElem?_set_ne n1]; exact hid
      · exact List.getElem?_set_self (by simpa using l3)
      · rw [List.getElem?_set_ne (by omega), List.getElem?_set_ne (by omega), List.getElem?_set_ne (by omega)]; exact hsame j hj2
    replace hcall := PLift.up hcall
    replace hfin := PLift.up hfin
    clear hK1 hK2 hd0 hst0 hs hm mo g0 hp hg he hX hY hone heX hX0 hY0
    generalize stepI ph cell b = s at *
    unfold nB at mh
    unfold FoB at mt
    generalize mk ph.length h = L at *
    generalize h cell = u at *
    generalize h b = v at *
    unfold c42r1
    repeat' (first
      | ((with_reducible refine T_calm ?_ ?_); rfl)
      | with_reducible first
        | refine T_seq ?_
        | refine T_reg ?_
        | refine T_draw ?_
        | refine T_skip ?_
        | refine T_exit ?_
        | refine T_block ?_
        | refine T_cond_t rfl ?_
        | refine T_cond_f rfl ?_
        | refine wdW_cons rfl ?_
        | (show wcall _ false (.lit (.func (.func 108) _ _)) _ _ _ _; refine wcall_fn (h108) rfl (by simp [plainL, plain, plainR, Int.toNat_natCast, l7, l8, l4, lc]) ?_)
        | (show wcallX _ false (.lit (.func (.func 108) _ _)) _ _ _ _; refine wcallX_fn (h108) rfl (by simp [plainL, plain]) ?_)
        | ((first | refine T_cond rfl (fun hc => ?_) (fun hc => ?_) | refine wguard_split (fun hc => ?_) (fun hc => ?_) | refine wguardX_split (fun hc => ?_) (fun hc => ?_)) <;> have hd := hc <;> (try simp (disch := omega) only [wrapI] at hd) <;> have hs := hd <;> (try simp only [Bool.not_eq_true', Bool.not_eq_false', Bool.and_eq_true, Bool.and_eq_false_iff, Bool.or_eq_true, Bool.or_eq_false_iff, decide_eq_true_eq, decide_eq_false_iff_not, beq_iff_eq, bne_iff_ne, beq_eq_false_iff_ne, bne_eq_false_iff_eq, Bool.not_true, Bool.not_false, gt_iff_lt, ge_iff_le, Int.not_lt, Int.not_le, ne_eq, Decidable.not_not] at hd) <;> (try simp at hs))
        | refine T_ret ?_
        | refine wif_intro ?_ (fun hc => ?_)
        | refine And.intro ?_ ?_
        | intro hc
      | simp (maxSteps := 4000000) only [wops_cons, wstep_none, wrun_call, wrun_mv, wrun_bin, wrun_load, wrun_faddr, wrun_iaddrS, wrun_nilck, wrunX_mv, wrunX_bin, wrunX_load, wrunX_faddr, wrunX_iaddrS, wrunX_nilck, wdW_nil, wstepX_none, wrunX_call, wop, aop, ev, look, put_some, writes, ores_some, ores_ite_none, binV, thenK, value, cut, hget, toLits, mkAgg, List.map_cons, List.map_nil, List.length_cons, List.length_nil, List.take_succ_cons, List.take_zero, List.take_nil, List.drop_succ_cons, List.drop_zero, List.append_nil, List.replicate_zero, List.getD_cons_zero, Option.getD_some, Option.map_some, Option.map_none, if_true, if_false, Nat.reduceEqDiff, Nat.reduceAdd, Nat.add_zero, Nat.zero_add, reduceCtorEq, Bool.false_eq_true, eq_self, and_true, freeze, lidsL, lids, List.flatMap_cons, List.flatMap_nil, ren, Int.toNat_natCast, *]
      | simp (disch := omega) only [getD_ints, wrapI]
      | (with_reducible show wcall _ false (.lit (.func (.func 108) _ _)) _ _ _ _; refine wcall_fn (h108) ?_ ?_ ?_; (next => simp [rfyL, rfy, hget, ints, take_rfy, Int.toNat_natCast, l7, l8, l4, lc]); (next => simp [plainL, plain, plainR, Int.toNat_natCast, l7, l8, l4, lc]))
      | (with_reducible show wcallX _ false (.lit (.func (.func 108) _ _)) _ _ _ _; refine wcallX_fn (h108) ?_ ?_ ?_; (next => simp [rfyL, rfy, hget, ints, take_rfy, Int.toNat_natCast, l7, l8, l4, lc]); (next => simp [plainL, plain, plainR, Int.toNat_natCast, l7, l8, l4, lc]))
      | (with_reducible refine wdW_cons ?_ ?_; (next => simp [chk, foot, compatB, argsOf, St.get, target, ev, look, lidsL, kind, wids, tops, opds, topId, l7, l8, l4, lc]; done))
      | omega)
    refine wcall_raw (hcall.down.mono fun r H1 hL => ?_)
    obtain ⟨id1, n1, rfl, e1, e2, e3, hk⟩ := hfin.down r H1 hL
    replace hk := PLift.up hk
    clear hfin hcall hL mt mh mf mr g8 g1 g2 g3 h108
    repeat' (first
      | ((with_reducible refine T_calm ?_ ?_); rfl)
      | with_reducible first
        | refine T_seq ?_
        | refine T_reg ?_
        | refine T_draw ?_
        | refine T_skip ?_
        | refine T_exit ?_
        | refine T_block ?_
        | refine T_cond_t rfl ?_
        | refine T_cond_f rfl ?_
        | refine wdW_cons rfl ?_
        | ((first | refine T_cond rfl (fun hc => ?_) (fun hc => ?_) | refine wguard_split (fun hc => ?_) (fun hc => ?_) | refine wguardX_split (fun hc => ?_) (fun hc => ?_)) <;> have hd := hc <;> (try simp (disch := omega) only [wrapI] at hd) <;> have hs := hd <;> (try simp only [Bool.not_eq_true', Bool.not_eq_false', Bool.and_eq_true, Bool.and_eq_false_iff, Bool.or_eq_true, Bool.or_eq_false_iff, decide_eq_true_eq, decide_eq_false_iff_not, beq_iff_eq, bne_iff_ne, beq_eq_false_iff_ne, bne_eq_false_iff_eq, Bool.not_true, Bool.not_false, gt_iff_lt, ge_iff_le, Int.not_lt, Int.not_le, ne_eq, Decidable.not_not] at hd) <;> (try simp at hs))
        | refine T_ret ?_
        | refine wif_intro ?_ (fun hc => ?_)
        | refine And.intro ?_ ?_
        | intro hc
      | simp (maxSteps := 4000000) only [wops_nil, wops_cons, wstep_none, wrun_store, wop, aop, ev, look, put_some, put_none, writes, ores_some, thenK, blockK, hget, putCells, AV.parts, isOne, List.length_cons, List.length_nil, List.set_cons_zero, List.take_zero, List.drop_succ_cons, List.drop_nil, List.cons_append, List.nil_append, List.append_nil, List.getD_cons_zero, List.all_cons, List.all_nil, Option.getD_some, if_true, if_false, Nat.reduceEqDiff, Nat.reduceLT, Nat.zero_add, Nat.le_refl, Bool.and_true, eq_self, true_and, and_self, List.all_cons, *]
      | simp (disch := omega) only [getD_ints, wrapI]
      | omega)
    all_goals first | exact hk.down _
end Go.Abs
