import Derived.Test.YtdedhipkncagjaaK552x
set_option linter.all false
set_option linter.unusedVariables false
set_option linter.unusedSimpArgs false
set_option linter.unusedSectionVars false
namespace Go.Abs
open Go.Proofs
/-! TopThreeAnswers: the heights -/
def hK (xs : List Int) : Nat → List Int
  | 0 => []
  | k + 1 => hK xs k ++ [xs.getD k 0 - xs.getD 0 0]
theorem hK_len (xs : List Int) : ∀ k, (hK xs k).length = k
  | 0 => rfl
  | k + 1 => by unfold hK; simp [hK_len xs k]
def iR (l : List Int) : List (List AV) := l.map fun x => [i64 x]
theorem iR_len (l : List Int) : (iR l).length = l.length := by simp [iR]
theorem iR_app (a b : List Int) : iR (a ++ b) = iR a ++ iR b := by simp [iR]
theorem renR_iR (ρ : Nat → Option Nat) (l : List Int) : renR ρ (iR l) = iR l := renR_plain ρ _ (plainR_map _ (fun _ => rfl) l)
def hV (l : List Int) : AV := if l = [] then .sl true 0 [] else .lsl 3 0 l.length
def hBk (l : List Int) : List Blk := if l = [] then [] else [.cells true false 1 (iR l)]
abbrev S3h (hn pn en : Bool) (xs : List Int) (ps es : List (Int × Int)) (pk sl : Int) (B : List (Int × Int)) (k : Nat) (l : List Int) : St := ⟨[(2, .loc 0 0 0), (3, .loc 1 0 0), (7, i64 xs.length), (8, .lsl 2 0 B.length), (11, hV l), (12, i64 k)], [mB true hn pn en xs ps es, tB pk sl, .cells false false 2 (rgR B)] ++ hBk l⟩
theorem iR_get {l : List Int} {k : Nat} (h : k < l.length) : (iR l).getD k [] = [i64 (l.getD k 0)] := getD_ints h
set_option maxHeartbeats 8000000 in
theorem k3h {hn pn en : Bool} {xs : List Int} {ps es B : List (Int × Int)} {pk sl : Int} {k : Nat} {l : List Int} {Bo : Bool} (hxl : 1 ≤ xs.length ∧ xs.length ≤ 8) (hg : ∀ k, gH (xs.getD k 0)) (hk : k < xs.length) (hl : l.length = k)
    (h10 : Fn Try.prog 10 [i64 (xs.getD k 0 - xs.getD 0 0), i64 (-100000), i64 100000] (bl Bo) []) (K : Exit → St → Prop)
    (hX : Bo = false → ∀ τ : St, τ.get 4 = bl true → K .ret τ) (hN : Bo = true → ∀ τ : St, 4 ≤ τ.heap.length → (∃ ids : List Nat, (∀ id ∈ ids, 0 ≤ id ∧ id < τ.heap.length) ∧ ids.Nodup ∧ τ.keep 0 [2, 3, 7, 8, 11, 12] ids = S3h hn pn en xs ps es pk sl B (k + 1) (l ++ [xs.getD k 0 - xs.getD 0 0])) → K .normal τ) : T none Try.prog muts 175 0 c3l0 (S3h hn pn en xs ps es pk sl B k l) K := by
  have ha := hg k
  have hb := hg 0
  unfold gH at ha hb
  have g1 : (xs.map fun x => [i64 x]).getD k [] = [i64 (xs.getD k 0)] := getD_ints hk
  have g2 : (xs.map fun x => [i64 x]).getD 0 [] = [i64 (xs.getD 0 0)] := getD_ints (by omega)
  have hlh := (by simp : (xs.map fun x => [i64 x]).length = xs.length)
  have hkn : (k : Int) < (xs.length : Int) := by omega
  have h0n : (0 : Int) < (xs.length : Int) := by omega
  obtain ⟨D, hD, ew1⟩ : ∃ D, xs.getD k 0 - xs.getD 0 0 = D ∧ IntKind.i64.wrap (xs.getD k 0 - xs.getD 0 0) = D := ⟨_, rfl, wrapI (by omega) (by omega)⟩
  rw [hD] at h10 hN
  have tz : Int.toNat 0 = 0 := rfl
  have hil := iR_len l
  have hbl := rgR_len B
  have eapp : iR (l ++ [D]) = iR l ++ [[i64 D]] := by rw [iR_app]; rfl
  have htk : List.take k (iR l) = iR l := List.take_of_length_le (by omega)
  have hgl : (iR l ++ [[i64 D]]).getD k [] = [i64 D] := by rw [← eapp, iR_get (by simp; omega)]; simp [List.getD_eq_getElem?_getD, ← hl]
  have hlen2 : (iR l ++ [[i64 D]]).length = k + 1 := by simp [hil, hl]
  have hne : l ++ [D] ≠ [] := by simp
  have hln : (l ++ [D]).length = k + 1 := by simp [hl]
  have e1 : hV (l ++ [D]) = .lsl 3 0 (k + 1) := by unfold hV; rw [if_neg hne, hln]
  have e2 : hBk (l ++ [D]) = [.cells true false 1 (iR l ++ [[i64 D]])] := by unfold hBk; rw [if_neg hne, eapp]
  simp only [S3h, e1, e2] at hN ⊢
  replace hX := PLift.up hX
  replace hN := PLift.up hN
  clear hg ha hb hD e1 e2 hne hln
  by_cases hx : l = []
  · subst hx
    have hk0 : k = 0 := by simpa using hl.symm
    subst hk0
    have e0 : iR [] = [] := rfl
    rw [e0] at hgl hlen2 htk
    simp only [List.nil_append] at hgl hlen2
    clear hil eapp htk hl
    generalize xs.getD 0 0 = x0 at *
    simp only [hV, hBk, if_true]
    cases Bo with
    | true =>
      replace hN := PLift.up (hN.down rfl)
      clear hX
      unfold c3l0
      repeat' (first | ((with_reducible refine T_calm ?_ ?_); rfl) | (with_reducible first | refine T_seq ?_ | refine T_reg ?_ | refine T_draw ?_ | refine T_skip ?_ | refine T_exit ?_ | refine T_block ?_ | refine T_cond_t rfl ?_ | refine T_cond_f rfl ?_ | refine wdW_cons rfl ?_ | (show wcall _ false (.lit (.func (.func 10) _ _)) _ _ _ _; refine wcall_fn (h10) rfl (by simp [plainL, plain]) ?_) | (show wcallX _ false (.lit (.func (.func 10) _ _)) _ _ _ _; refine wcallX_fn (h10) rfl (by simp [plainL, plain, plainR, Int.toNat_natCast]) ?_) | refine T_ret ?_ | refine wif_intro ?_ (fun hc => ?_) | refine And.intro ?_ ?_ | intro hc) | simp (maxSteps := 4000000) only [wops_nil, wops_cons, wstep_none, wrun_call, wrun_mv, wrun_bin, wrun_not, wrun_load, wrun_faddr, wrun_iaddrS, wrun_bslice, wrun_app, wrunX_mv, wrunX_bin, wrunX_load, wrunX_faddr, wrunX_iaddrS, wrunX_bslice, wrunX_app, wdW_nil, wstepX_none, wop, aop, ev, look, put_some, writes, ores_some, ores_ite_none, binV, thenK, blockK, boolV, elsOf, szOk, value, cut, hget, fillA, putCells, AV.parts, isOne, toLits, mkAgg, List.flatten_cons, List.flatten_nil, rowsOf, List.map_cons, List.map_nil, List.length_cons, List.length_nil, List.getElem?_cons_zero, List.getElem?_cons_succ, List.set_cons_zero, List.set_cons_succ, List.take_succ_cons, List.take_zero, List.take_nil, List.drop_succ_cons, List.drop_zero, List.drop_nil, List.cons_append, List.nil_append, List.append_nil, List.replicate_zero, List.replicate_succ, List.getD_cons_zero, List.all_cons, List.all_nil, List.isEmpty_cons, Option.getD_some, Option.map_some, if_true, if_false, Nat.reduceEqDiff, Nat.reduceAdd, Nat.reduceMul, Nat.reduceLeDiff, Nat.add_zero, Nat.zero_add, Nat.sub_zero, Nat.mul_one, Nat.le_refl, reduceCtorEq, Bool.not_true, Bool.and_true, Bool.or_true, Bool.false_eq_true, eq_self, true_and, and_true, and_self, decide_true, beq_self_eq_true, Int.reduceNeg, freeze, lidsL, lids, List.flatMap_cons, List.flatMap_nil, List.all_cons, ren, Int.toNat_natCast, *] | simp (disch := omega) only [wrapI] | (with_reducible show wcall _ false (.lit (.func (.func 10) _ _)) _ _ _ _; refine wcall_fn (h10) ?_ ?_ ?_; (next => simp [rfyL, rfy, hget, ints, take_rfy, Int.toNat_natCast]); (next => simp [plainL, plain, plainR, Int.toNat_natCast])) | (with_reducible show wcallX _ false (.lit (.func (.func 10) _ _)) _ _ _ _; refine wcallX_fn (h10) ?_ ?_ ?_; (next => simp [rfyL, rfy, hget, ints, take_rfy, Int.toNat_natCast]); (next => simp [plainL, plain, plainR, Int.toNat_natCast])) | (with_reducible refine wdW_cons ?_ ?_; (next => simp [chk, foot, compatB, argsOf, St.get, target, ev, look, lidsL, hget, kind, AOp.isRaw, wids, wtops, tops, opds, topId, Int.toNat_natCast]; done)) | omega)
      refine hN.down _ (by simp) ⟨[0, 1, 2, 4], by simp, by simp, ?_⟩
      simp [St.keep, get_mk, look, ren, renL, renR, renB, renO, keepρ, pos, hget, renR_ints, renR_rgL, e0]
    | false =>
      replace hX := PLift.up (hX.down rfl)
      clear hN
      unfold c3l0
      repeat' (first | ((with_reducible refine T_calm ?_ ?_); rfl) | (with_reducible first | refine T_seq ?_ | refine T_reg ?_ | refine T_draw ?_ | refine T_skip ?_ | refine T_exit ?_ | refine T_block ?_ | refine T_cond_t rfl ?_ | refine T_cond_f rfl ?_ | refine wdW_cons rfl ?_ | (show wcall _ false (.lit (.func (.func 10) _ _)) _ _ _ _; refine wcall_fn (h10) rfl (by simp [plainL, plain]) ?_) | (show wcallX _ false (.lit (.func (.func 10) _ _)) _ _ _ _; refine wcallX_fn (h10) rfl (by simp [plainL, plain, plainR, Int.toNat_natCast]) ?_) | refine T_ret ?_ | refine wif_intro ?_ (fun hc => ?_) | refine And.intro ?_ ?_ | intro hc) | simp (maxSteps := 4000000) only [wops_nil, wops_cons, wstep_none, wrun_call, wrun_mv, wrun_bin, wrun_not, wrun_load, wrun_faddr, wrun_iaddrS, wrun_bslice, wrun_app, wrunX_mv, wrunX_bin, wrunX_load, wrunX_faddr, wrunX_iaddrS, wrunX_bslice, wrunX_app, wdW_nil, wstepX_none, wop, aop, ev, look, put_some, writes, ores_some, ores_ite_none, binV, thenK, blockK, boolV, elsOf, szOk, value, cut, hget, fillA, putCells, AV.parts, isOne, toLits, mkAgg, List.flatten_cons, List.flatten_nil, rowsOf, List.map_cons, List.map_nil, List.length_cons, List.length_nil, List.getElem?_cons_zero, List.getElem?_cons_succ, List.set_cons_zero, List.set_cons_succ, List.take_succ_cons, List.take_zero, List.take_nil, List.drop_succ_cons, List.drop_zero, List.drop_nil, List.cons_append, List.nil_append, List.append_nil, List.replicate_zero, List.replicate_succ, List.getD_cons_zero, List.all_cons, List.all_nil, List.isEmpty_cons, Option.getD_some, Option.map_some, if_true, if_false, Nat.reduceEqDiff, Nat.reduceAdd, Nat.reduceMul, Nat.reduceLeDiff, Nat.add_zero, Nat.zero_add, Nat.sub_zero, Nat.mul_one, Nat.le_refl, reduceCtorEq, Bool.not_false, Bool.and_true, Bool.or_true, Bool.false_eq_true, eq_self, true_and, and_true, and_self, decide_true, beq_self_eq_true, Int.reduceNeg, freeze, lidsL, lids, List.flatMap_cons, List.flatMap_nil, List.all_cons, ren, Int.toNat_natCast, *] | simp (disch := omega) only [getD_ints, wrapI] | (with_reducible show wcall _ false (.lit (.func (.func 10) _ _)) _ _ _ _; refine wcall_fn (h10) ?_ ?_ ?_; (next => simp [rfyL, rfy, hget, ints, take_rfy, Int.toNat_natCast]); (next => simp [plainL, plain, plainR, Int.toNat_natCast])) | (with_reducible show wcallX _ false (.lit (.func (.func 10) _ _)) _ _ _ _; refine wcallX_fn (h10) ?_ ?_ ?_; (next => simp [rfyL, rfy, hget, ints, take_rfy, Int.toNat_natCast]); (next => simp [plainL, plain, plainR, Int.toNat_natCast])) | (with_reducible refine wdW_cons ?_ ?_; (next => simp [chk, foot, compatB, argsOf, St.get, target, ev, look, lidsL, hget, kind, AOp.isRaw, wids, wtops, tops, opds, topId, Int.toNat_natCast]; done)) | omega)
      all_goals first | exact hX.down _ rfl
  · simp only [hV, hBk, if_neg hx]
    rw [hl]
    generalize xs.getD k 0 = xk at *
    generalize xs.getD 0 0 = x0 at *
    cases Bo with
    | true =>
      replace hN := PLift.up (hN.down rfl)
      clear hX
      unfold c3l0
      repeat' (first | ((with_reducible refine T_calm ?_ ?_); rfl) | (with_reducible first | refine T_seq ?_ | refine T_reg ?_ | refine T_draw ?_ | refine T_skip ?_ | refine T_exit ?_ | refine T_block ?_ | refine T_cond_t rfl ?_ | refine T_cond_f rfl ?_ | refine wdW_cons rfl ?_ | (show wcall _ false (.lit (.func (.func 10) _ _)) _ _ _ _; refine wcall_fn (h10) rfl (by simp [plainL, plain]) ?_) | (show wcallX _ false (.lit (.func (.func 10) _ _)) _ _ _ _; refine wcallX_fn (h10) rfl (by simp [plainL, plain, plainR, Int.toNat_natCast]) ?_) | refine T_ret ?_ | refine wif_intro ?_ (fun hc => ?_) | refine And.intro ?_ ?_ | intro hc) | simp (maxSteps := 4000000) only [wops_nil, wops_cons, wstep_none, wrun_call, wrun_mv, wrun_bin, wrun_not, wrun_load, wrun_faddr, wrun_iaddrS, wrun_bslice, wrun_app, wrunX_mv, wrunX_bin, wrunX_load, wrunX_faddr, wrunX_iaddrS, wrunX_bslice, wrunX_app, wdW_nil, wstepX_none, wop, aop, ev, look, put_some, writes, ores_some, ores_ite_none, binV, thenK, blockK, boolV, elsOf, szOk, value, cut, hget, fillA, putCells, AV.parts, isOne, toLits, mkAgg, List.flatten_cons, List.flatten_nil, rowsOf, List.map_cons, List.map_nil, List.length_cons, List.length_nil, List.getElem?_cons_zero, List.getElem?_cons_succ, List.set_cons_zero, List.set_cons_succ, List.take_succ_cons, List.take_zero, List.take_nil, List.drop_succ_cons, List.drop_zero, List.drop_nil, List.cons_append, List.nil_append, List.append_nil, List.replicate_zero, List.replicate_succ, List.getD_cons_zero, List.all_cons, List.all_nil, List.isEmpty_cons, Option.getD_some, Option.map_some, if_true, if_false, Nat.reduceEqDiff, Nat.reduceAdd, Nat.add_zero, Nat.zero_add, Nat.sub_zero, Nat.mul_one, Nat.le_refl, reduceCtorEq, Bool.not_true, Bool.and_true, Bool.and_false, Bool.or_true, Bool.false_eq_true, eq_self, true_and, and_true, and_self, decide_true, beq_self_eq_true, Int.reduceNeg, freeze, lidsL, lids, List.flatMap_cons, List.flatMap_nil, List.all_cons, ren, Int.toNat_natCast, *] | simp (disch := omega) only [wrapI] | (with_reducible show wcall _ false (.lit (.func (.func 10) _ _)) _ _ _ _; refine wcall_fn (h10) ?_ ?_ ?_; (next => simp [rfyL, rfy, hget, ints, take_rfy, Int.toNat_natCast]); (next => simp [plainL, plain, plainR, Int.toNat_natCast])) | (with_reducible show wcallX _ false (.lit (.func (.func 10) _ _)) _ _ _ _; refine wcallX_fn (h10) ?_ ?_ ?_; (next => simp [rfyL, rfy, hget, ints, take_rfy, Int.toNat_natCast]); (next => simp [plainL, plain, plainR, Int.toNat_natCast])) | (with_reducible refine wdW_cons ?_ ?_; (next => simp [chk, foot, compatB, argsOf, St.get, target, ev, look, lidsL, hget, kind, AOp.isRaw, wids, wtops, tops, opds, topId, Int.toNat_natCast]; done)) | omega)
      refine hN.down _ (by simp) ⟨[0, 1, 2, 5], by simp, by simp, ?_⟩
      simp [St.keep, get_mk, look, ren, renL, renR, renB, renO, keepρ, pos, hget, renR_ints, renR_rgL, renR_iR, renR_app4]
    | false =>
      replace hX := PLift.up (hX.down rfl)
      clear hN
      unfold c3l0
      repeat' (first | ((with_reducible refine T_calm ?_ ?_); rfl) | (with_reducible first | refine T_seq ?_ | refine T_reg ?_ | refine T_draw ?_ | refine T_skip ?_ | refine T_exit ?_ | refine T_block ?_ | refine T_cond_t rfl ?_ | refine T_cond_f rfl ?_ | refine wdW_cons rfl ?_ | (show wcall _ false (.lit (.func (.func 10) _ _)) _ _ _ _; refine wcall_fn (h10) rfl (by simp [plainL, plain]) ?_) | (show wcallX _ false (.lit (.func (.func 10) _ _)) _ _ _ _; refine wcallX_fn (h10) rfl (by simp [plainL, plain, plainR, Int.toNat_natCast]) ?_) | refine T_ret ?_ | refine wif_intro ?_ (fun hc => ?_) | refine And.intro ?_ ?_ | intro hc) | simp (maxSteps := 4000000) only [wops_nil, wops_cons, wstep_none, wrun_call, wrun_mv, wrun_bin, wrun_not, wrun_load, wrun_faddr, wrun_iaddrS, wrun_bslice, wrun_app, wrunX_mv, wrunX_bin, wrunX_load, wrunX_faddr, wrunX_iaddrS, wrunX_bslice, wrunX_app, wdW_nil, wstepX_none, wop, aop, ev, look, put_some, writes, ores_some, ores_ite_none, binV, thenK, blockK, boolV, elsOf, szOk, value, cut, hget, fillA, putCells, AV.parts, isOne, toLits, mkAgg, List.flatten_cons, List.flatten_nil, rowsOf, List.map_cons, List.map_nil, List.length_cons, List.length_nil, List.getElem?_cons_zero, List.getElem?_cons_succ, List.set_cons_zero, List.set_cons_succ, List.take_succ_cons, List.take_zero, List.take_nil, List.drop_succ_cons, List.drop_zero, List.drop_nil, List.cons_append, List.nil_append, List.append_nil, List.replicate_zero, List.replicate_succ, List.getD_cons_zero, List.all_cons, List.all_nil, List.isEmpty_cons, Option.getD_some, Option.map_some, if_true, if_false, Nat.reduceEqDiff, Nat.reduceAdd, Nat.add_zero, Nat.zero_add, Nat.sub_zero, Nat.mul_one, Nat.le_refl, reduceCtorEq, Bool.not_false, Bool.and_true, Bool.and_false, Bool.or_true, Bool.false_eq_true, eq_self, true_and, and_true, and_self, decide_true, beq_self_eq_true, Int.reduceNeg, freeze, lidsL, lids, List.flatMap_cons, List.flatMap_nil, List.all_cons, ren, Int.toNat_natCast, *] | simp (disch := omega) only [getD_ints, wrapI] | (with_reducible show wcall _ false (.lit (.func (.func 10) _ _)) _ _ _ _; refine wcall_fn (h10) ?_ ?_ ?_; (next => simp [rfyL, rfy, hget, ints, take_rfy, Int.toNat_natCast]); (next => simp [plainL, plain, plainR, Int.toNat_natCast])) | (with_reducible show wcallX _ false (.lit (.func (.func 10) _ _)) _ _ _ _; refine wcallX_fn (h10) ?_ ?_ ?_; (next => simp [rfyL, rfy, hget, ints, take_rfy, Int.toNat_natCast]); (next => simp [plainL, plain, plainR, Int.toNat_natCast])) | (with_reducible refine wdW_cons ?_ ?_; (next => simp [chk, foot, compatB, argsOf, St.get, target, ev, look, lidsL, hget, kind, AOp.isRaw, wids, wtops, tops, opds, topId, Int.toNat_natCast]; done)) | omega)
      all_goals first | exact hX.down _ rfl
end Go.Abs
