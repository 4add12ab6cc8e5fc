import Derived.Test.YtdedhipkncagjaaK541x
set_option linter.all false
set_option linter.unusedVariables false
set_option linter.unusedSimpArgs false
set_option linter.unusedSectionVars false
namespace Go.Abs
open Go.Proofs
/-! judge upon a list of ours -/
abbrev H27r (B0 B2 : Blk) (o : Bool) (L : List (Int × Int)) (pk sl r a i k : Int) (t : List Blk) : List Blk := B0 :: .cells o false 2 (rgR L) :: B2 :: .cells true false 2 [[i64 pk, i64 sl]] :: .cells true false 1 [[.lsl 1 0 L.length]] :: .cells true false 1 [[i64 r]] :: .cells true false 2 [[i64 i, i64 k]] :: .cells true false 1 [[i64 a]] :: .cells true false 1 [[i64 L.length]] :: t
set_option maxHeartbeats 8000000 in
theorem k27rb {B0 B2 : Blk} {o : Bool} {L : List (Int × Int)} {pk sl a : Int} {i k : Nat} {l bb : Nat} {sl0 : List (Nat × AV)} (hi : i < L.length) (hk : k < L.length) (hn : L.length ≤ 1000) (hL : ∀ j, j < L.length → (-100000 ≤ (L.getD j (0, 0)).1 ∧ (L.getD j (0, 0)).1 ≤ 100000) ∧ (-100000 ≤ (L.getD j (0, 0)).2 ∧ (L.getD j (0, 0)).2 ≤ 100000)) (hsl : 0 ≤ sl ∧ sl ≤ 200000) (K : Exit → St → Prop)
    (hX : (L.getD i (0, 0)).1 - (L.getD k (0, 0)).2 > bdI pk sl i k → ∀ τ : St, τ.heap = H27r B0 B2 o L pk sl (-1) a i k [.obj .lpx] → K .ret τ)
    (hN : ¬(L.getD i (0, 0)).1 - (L.getD k (0, 0)).2 > bdI pk sl i k → ∀ τ : St, τ.heap = H27r B0 B2 o L pk sl 0 (if (L.getD i (0, 0)).2 - (L.getD k (0, 0)).1 > bdI pk sl i k then 0 else a) 0 0 [.obj .lpx] → K .normal τ) :
    T (some l) Try.prog muts 50 bb c27r0 ⟨[(8, i64 k), (7, i64 i), (2, .loc 3 0 0), (3, .loc 4 0 0), (4, .loc 5 0 0), (5, .loc 6 0 0), (6, .loc 7 0 0)], H27r B0 B2 o L pk sl 0 a 0 0 [.obj .lpx]⟩ K := by
  have h32 := k32 pk sl i k hsl (by omega) (by omega)
  have gi := rgR_get hi
  have gk := rgR_get hk
  have hll := rgR_len L
  have hLi := hL i hi
  have hLk := hL k hk
  have ew1 : IntKind.i64.wrap ((L.getD i (0, 0)).1 - (L.getD k (0, 0)).2) = (L.getD i (0, 0)).1 - (L.getD k (0, 0)).2 := wrapI (by omega) (by omega)
  have ew2 : IntKind.i64.wrap ((L.getD i (0, 0)).2 - (L.getD k (0, 0)).1) = (L.getD i (0, 0)).2 - (L.getD k (0, 0)).1 := wrapI (by omega) (by omega)
  have ei : (i : Int) < (L.length : Int) := by omega
  have ek : (k : Int) < (L.length : Int) := by omega
  clear hL hLi hLk hsl
  generalize bdI pk sl i k = B at *
  generalize (L.getD i (0, 0)).1 = li at *
  generalize (L.getD i (0, 0)).2 = ui at *
  generalize (L.getD k (0, 0)).1 = lk at *
  generalize (L.getD k (0, 0)).2 = uk at *
  by_cases h1 : li - uk > B
  · have f := PLift.up (hX h1)
    have d1 : decide (li - uk > B) = true := decide_eq_true h1
    clear hX hN h1
    unfold c27r0
    repeat' (first | ((with_reducible refine T_calm ?_ ?_); rfl) | (with_reducible first | refine T_seq ?_ | refine T_reg ?_ | refine T_draw ?_ | refine T_skip ?_ | refine T_exit ?_ | refine T_block ?_ | refine T_cond_t rfl ?_ | refine T_cond_f rfl ?_ | refine wdW_cons rfl ?_ | (show wcall _ false (.lit (.func (.func 32) _ _)) _ _ _ _; refine wcall_fn (h32) rfl (by simp [plainL, plain]) ?_) | (show wcallX _ false (.lit (.func (.func 32) _ _)) _ _ _ _; refine wcallX_fn (h32) rfl (by simp [plainL, plain, plainR, Int.toNat_natCast, plainR_rg]) ?_) | refine T_ret ?_ | refine wif_intro ?_ (fun hc => ?_) | refine And.intro ?_ ?_ | intro hc) | simp (maxSteps := 4000000) only [wops_nil, wops_cons, wstep_none, wrun_call, wrun_mv, wrun_bin, wrun_build, wrun_load, wrun_store, wrun_faddr, wrun_iaddrS, wop, aop, ev, look, put_some, put_none, writes, ores_some, ores_ite_none, ores_map, wif_true, binV, thenK, blockK, value, cut, hget, fillA, putCells, AV.parts, isOne, toLits, mkAgg, ofValue_int, List.map_cons, List.map_nil, List.length_cons, List.length_nil, List.getElem?_cons_zero, List.getElem?_cons_succ, List.set_cons_zero, List.set_cons_succ, List.take_succ_cons, List.take_zero, List.take_nil, List.drop_succ_cons, List.drop_zero, List.drop_nil, List.cons_append, List.nil_append, List.append_nil, List.append_assoc, List.replicate_zero, List.getD_cons_zero, List.all_cons, List.all_nil, List.length_append, Option.getD_some, Option.map_some, if_true, if_false, Nat.reduceEqDiff, Nat.reduceAdd, Nat.reduceLeDiff, Nat.reduceLT, Nat.add_zero, Nat.zero_add, Nat.le_refl, reduceCtorEq, Bool.and_true, Bool.false_eq_true, eq_self, true_and, and_true, and_self, Int.reduceNeg, freeze, lidsL, lids, List.flatMap_cons, List.flatMap_nil, List.all_cons, ren, Int.toNat_natCast, *] | simp (disch := omega) only [getD_ints, wrapI] | (with_reducible show wcall _ false (.lit (.func (.func 32) _ _)) _ _ _ _; refine wcall_fn (h32) ?_ ?_ ?_; (next => simp [rfyL, rfy, hget, ints, take_rfy, Int.toNat_natCast, plainR_rg]); (next => simp [plainL, plain, plainR, Int.toNat_natCast, plainR_rg])) | (with_reducible show wcallX _ false (.lit (.func (.func 32) _ _)) _ _ _ _; refine wcallX_fn (h32) ?_ ?_ ?_; (next => simp [rfyL, rfy, hget, ints, take_rfy, Int.toNat_natCast, plainR_rg]); (next => simp [plainL, plain, plainR, Int.toNat_natCast, plainR_rg])) | omega)
    all_goals first | exact f.down _ rfl
  · have f := hN h1
    have d1 : decide (li - uk > B) = false := decide_eq_false h1
    clear hX hN
    by_cases h2 : ui - lk > B
    · rw [if_pos h2] at f
      have d2 : decide (ui - lk > B) = true := decide_eq_true h2
      replace f := PLift.up f
      clear h1 h2
      unfold c27r0
      repeat' (first | ((with_reducible refine T_calm ?_ ?_); rfl) | (with_reducible first | refine T_seq ?_ | refine T_reg ?_ | refine T_draw ?_ | refine T_skip ?_ | refine T_exit ?_ | refine T_block ?_ | refine T_cond_t rfl ?_ | refine T_cond_f rfl ?_ | refine wdW_cons rfl ?_ | (show wcall _ false (.lit (.func (.func 32) _ _)) _ _ _ _; refine wcall_fn (h32) rfl (by simp [plainL, plain]) ?_) | (show wcallX _ false (.lit (.func (.func 32) _ _)) _ _ _ _; refine wcallX_fn (h32) rfl (by simp [plainL, plain, plainR, Int.toNat_natCast, plainR_rg]) ?_) | refine T_ret ?_ | refine wif_intro ?_ (fun hc => ?_) | refine And.intro ?_ ?_ | intro hc) | simp (maxSteps := 4000000) only [wops_nil, wops_cons, wstep_none, wrun_call, wrun_mv, wrun_bin, wrun_load, wrun_store, wrun_faddr, wrun_iaddrS, wop, aop, ev, look, put_some, put_none, writes, ores_some, ores_ite_none, binV, thenK, blockK, value, cut, hget, putCells, AV.parts, isOne, toLits, mkAgg, List.map_cons, List.map_nil, List.length_cons, List.length_nil, List.getElem?_cons_zero, List.getElem?_cons_succ, List.set_cons_zero, List.set_cons_succ, List.take_succ_cons, List.take_zero, List.take_nil, List.drop_succ_cons, List.drop_zero, List.drop_nil, List.nil_append, List.append_nil, List.replicate_zero, List.getD_cons_zero, List.all_cons, List.all_nil, Option.getD_some, Option.map_some, if_true, if_false, Nat.reduceEqDiff, Nat.reduceAdd, Nat.reduceLT, Nat.add_zero, Nat.zero_add, Nat.le_refl, reduceCtorEq, Bool.and_true, Bool.false_eq_true, eq_self, true_and, and_true, and_self, Int.reduceNeg, freeze, lidsL, lids, List.flatMap_cons, List.flatMap_nil, List.all_cons, ren, Int.toNat_natCast, *] | simp (disch := omega) only [getD_ints, wrapI] | (with_reducible show wcall _ false (.lit (.func (.func 32) _ _)) _ _ _ _; refine wcall_fn (h32) ?_ ?_ ?_; (next => simp [rfyL, rfy, hget, ints, take_rfy, Int.toNat_natCast, plainR_rg]); (next => simp [plainL, plain, plainR, Int.toNat_natCast, plainR_rg])) | (with_reducible show wcallX _ false (.lit (.func (.func 32) _ _)) _ _ _ _; refine wcallX_fn (h32) ?_ ?_ ?_; (next => simp [rfyL, rfy, hget, ints, take_rfy, Int.toNat_natCast, plainR_rg]); (next => simp [plainL, plain, plainR, Int.toNat_natCast, plainR_rg])) | omega)
      all_goals first | exact f.down _ rfl
    · rw [if_neg h2] at f
      have d2 : decide (ui - lk > B) = false := decide_eq_false h2
      replace f := PLift.up f
      clear h1 h2
      unfold c27r0
      repeat' (first | ((with_reducible refine T_calm ?_ ?_); rfl) | (with_reducible first | refine T_seq ?_ | refine T_reg ?_ | refine T_draw ?_ | refine T_skip ?_ | refine T_exit ?_ | refine T_block ?_ | refine T_cond_t rfl ?_ | refine T_cond_f rfl ?_ | refine wdW_cons rfl ?_ | (show wcall _ false (.lit (.func (.func 32) _ _)) _ _ _ _; refine wcall_fn (h32) rfl (by simp [plainL, plain]) ?_) | (show wcallX _ false (.lit (.func (.func 32) _ _)) _ _ _ _; refine wcallX_fn (h32) rfl (by simp [plainL, plain, plainR, Int.toNat_natCast, plainR_rg]) ?_) | refine T_ret ?_ | refine wif_intro ?_ (fun hc => ?_) | refine And.intro ?_ ?_ | intro hc) | simp (maxSteps := 4000000) only [wops_nil, wops_cons, wstep_none, wrun_call, wrun_mv, wrun_bin, wrun_load, wrun_faddr, wrun_iaddrS, wop, aop, ev, look, put_some, writes, ores_some, ores_ite_none, binV, thenK, blockK, value, cut, hget, toLits, mkAgg, List.map_cons, List.map_nil, List.length_cons, List.length_nil, List.getElem?_cons_zero, List.getElem?_cons_succ, List.take_succ_cons, List.take_zero, List.take_nil, List.drop_succ_cons, List.drop_zero, List.append_nil, List.replicate_zero, List.getD_cons_zero, Option.getD_some, Option.map_some, if_true, if_false, Nat.reduceEqDiff, Nat.reduceAdd, Nat.add_zero, Nat.zero_add, reduceCtorEq, Bool.false_eq_true, eq_self, true_and, and_true, and_self, Int.reduceNeg, freeze, lidsL, lids, List.flatMap_cons, List.flatMap_nil, ren, Int.toNat_natCast, *] | simp (disch := omega) only [getD_ints, wrapI] | (with_reducible show wcall _ false (.lit (.func (.func 32) _ _)) _ _ _ _; refine wcall_fn (h32) ?_ ?_ ?_; (next => simp [rfyL, rfy, hget, ints, take_rfy, Int.toNat_natCast, plainR_rg]); (next => simp [plainL, plain, plainR, Int.toNat_natCast, plainR_rg])) | (with_reducible show wcallX _ false (.lit (.func (.func 32) _ _)) _ _ _ _; refine wcallX_fn (h32) ?_ ?_ ?_; (next => simp [rfyL, rfy, hget, ints, take_rfy, Int.toNat_natCast, plainR_rg]); (next => simp [plainL, plain, plainR, Int.toNat_natCast, plainR_rg])) | omega)
      all_goals first | exact f.down _ rfl
set_option maxHeartbeats 8000000 in
theorem k27r {B0 B2 : Blk} {o : Bool} {L : List (Int × Int)} {pk sl A I J : Int} (hR : ROk L) (hsl : 0 ≤ sl ∧ sl ≤ 200000) (hj : jdg L pk sl (prs L.length) 1 = (A, I, J)) : ACall Try.prog 27 [tlV pk sl, .lsl 1 0 L.length] [B0, .cells o false 2 (rgR L), B2] fun r H' => r = .tup [i64 A, .lit (.agg #[.int .i64 I, .int .i64 J])] ∧ ∃ x2 x3 x4 x5 x6 x7 x8, H' = [B0, .cells o false 2 (rgR L), B2, x2, x3, x4, x5, x6, x7, x8] := by
  refine envOf_all e27 ?_
  have hll := rgR_len L
  have hn := hR.n
  have h30 := k30 (L.length : Int)
  have hit := PLift.up (i59 8 L.length (by omega))
  have hbody := PLift.up (fun (i k : Nat) (a : Int) hi hk sl0 bb K hX hN => k27rb (B0 := B0) (B2 := B2) (o := o) (L := L) (pk := pk) (sl := sl) (a := a) (i := i) (k := k) (l := sl0) (bb := bb) (sl0 := []) hi hk (by omega) hR.r hsl K hX hN)
  clear hR hsl
  unfold c27
  repeat' (first | ((with_reducible refine T_calm ?_ ?_); rfl) | (with_reducible first | refine T_seq ?_ | refine T_reg ?_ | refine T_draw ?_ | refine T_skip ?_ | refine T_exit ?_ | refine T_block ?_ | refine T_cond_t rfl ?_ | refine T_cond_f rfl ?_ | refine wdW_cons rfl ?_ | (show wcall _ false (.lit (.func (.func 30) _ _)) _ _ _ _; refine wcall_fn (h30) rfl (by simp [plainL, plain]) ?_) | (show wcallX _ false (.lit (.func (.func 30) _ _)) _ _ _ _; refine wcallX_fn (h30) rfl (by simp [plainL, plain, plainR, plainR_rg, Int.toNat_natCast]) ?_) | refine T_ret ?_ | refine wif_intro ?_ (fun hc => ?_) | refine And.intro ?_ ?_ | intro hc) | simp (maxSteps := 4000000) only [wops_nil, wops_cons, wstep_none, wrun_call, wrun_load, wrun_store, wrun_len, wrun_alloc, wrun_box, wop, aop, ev, look, put_some, put_none, writes, ores_some, ores_map, ores_bind, thenK, intV, lenOf, value, cut, hget, putCells, AV.parts, isOne, toLits, mkAgg, ofValue_int, List.map_cons, List.map_nil, List.length_cons, List.length_nil, List.getElem?_cons_zero, List.getElem?_cons_succ, List.set_cons_zero, List.set_cons_succ, List.take_succ_cons, List.take_zero, List.take_nil, List.drop_succ_cons, List.drop_zero, List.drop_nil, List.cons_append, List.nil_append, List.append_nil, List.append_assoc, List.replicate_zero, List.replicate_succ, List.getD_cons_zero, List.zipIdx_cons, List.zipIdx_nil, List.all_cons, List.all_nil, Option.pure_def, Option.bind_eq_bind, Option.getD_some, Option.map_some, if_true, if_false, Nat.reduceEqDiff, Nat.reduceAdd, Nat.reduceLT, Nat.add_zero, Nat.zero_add, Nat.le_refl, Nat.zero_ne_one, reduceCtorEq, Bool.and_true, Bool.false_eq_true, eq_self, true_and, and_self, freeze, lidsL, lids, List.flatMap_cons, List.flatMap_nil, List.all_cons, ren, renL, renR, renB, shiftρ, *] | simp (disch := omega) only [getD_ints, wrapI] | (with_reducible show wcall _ false (.lit (.func (.func 30) _ _)) _ _ _ _; refine wcall_fn (h30) ?_ ?_ ?_; (next => simp [rfyL, rfy, hget, ints, take_rfy, plainR_rg, Int.toNat_natCast]); (next => simp [plainL, plain, plainR, plainR_rg, Int.toNat_natCast])) | (with_reducible show wcallX _ false (.lit (.func (.func 30) _ _)) _ _ _ _; refine wcallX_fn (h30) ?_ ?_ ?_; (next => simp [rfyL, rfy, hget, ints, take_rfy, plainR_rg, Int.toNat_natCast]); (next => simp [plainL, plain, plainR, plainR_rg, Int.toNat_natCast])) | omega)
  refine T_range (gf := 59) (first := []) (cap := [.loc 8 0 0]) (n := (prs L.length).length) (E := EP L.length) (Bc := BP 8 L.length)
    (fun k H => ∃ a, jdg L pk sl ((prs L.length).drop k) a = (A, I, J) ∧ H = H27r B0 B2 o L pk sl 0 a 0 0 [.obj .lpx])
    (fun e H => e = .ret ∧ ∃ a, H = H27r B0 B2 o L pk sl A a I J [.obj .lpx]) rfl hit.down ?_ ?_ ?_ ?_ ?_ ?_ ?_
  · rintro k H ⟨a, _, rfl⟩
    exact ⟨_, _, rfl⟩
  · rintro H r s ⟨o, nn, h⟩ hh
    refine ⟨o, nn, ?_⟩
    rwa [List.getElem?_set_ne (by simp)] at h
  · rintro k H r s args h _
    exact h
  · exact ⟨1, hj, rfl⟩
  · rintro k H args hk ⟨a, ha, rfl⟩ hlp ⟨p, hp, rfl⟩
    obtain ⟨h1, h2⟩ := prs_lt (List.mem_of_getElem? hp)
    refine ⟨rfl, _, rfl, fun l => ?_⟩
    have hd : (prs L.length).drop k = p :: (prs L.length).drop (k + 1) := by
      rw [List.drop_eq_getElem_cons hk]
      rw [List.getElem?_eq_getElem hk] at hp
      rw [Option.some.inj hp]
    rw [hd] at ha
    refine T_onlyU (S := ⟨[(8, i64 p.2), (7, i64 p.1), (2, .loc 3 0 0), (3, .loc 4 0 0), (4, .loc 5 0 0), (5, .loc 6 0 0), (6, .loc 7 0 0)], H27r B0 B2 o L pk sl 0 a 0 0 [.obj .lpx]⟩) [8, 7, 2, 3, 4, 5, 6] ?_ (hbody.down p.1 p.2 a h1 h2 l _ _ ?_ ?_)
    · simp [St.only, get_mk, look]
    · intro hx τ ht
      unfold jdg at ha
      rw [if_pos hx] at ha
      simp only [Prod.mk.injEq] at ha
      obtain ⟨rfl, rfl, rfl⟩ := ha
      refine ⟨by rw [ht]; rfl, rfl, a, ht⟩
    · intro hx τ ht
      unfold jdg at ha
      rw [if_neg hx] at ha
      exact ⟨by rw [ht]; rfl, _, ha, ht⟩
  · rintro H ⟨a, ha, rfl⟩
    rw [List.drop_length] at ha
    unfold jdg at ha
    simp only [Prod.mk.injEq] at ha
    obtain ⟨rfl, rfl, rfl⟩ := ha
    clear hit hbody h30
    repeat' (first | ((with_reducible refine T_calm ?_ ?_); rfl) | (with_reducible first | refine T_seq ?_ | refine T_reg ?_ | refine T_draw ?_ | refine T_skip ?_ | refine T_exit ?_ | refine T_block ?_ | refine T_cond_t rfl ?_ | refine T_cond_f rfl ?_ | refine wdW_cons rfl ?_ | refine T_ret ?_ | refine wif_intro ?_ (fun hc => ?_) | refine And.intro ?_ ?_ | intro hc) | simp (maxSteps := 4000000) only [wops_nil, wops_cons, wstep_none, wrun_build, wrun_load, wrun_store, wop, aop, ev, look, put_some, put_none, writes, ores_some, thenK, blockK, value, cut, hget, fillA, putCells, AV.parts, isOne, toLits, mkAgg, ofValue_int, List.map_cons, List.map_nil, List.length_cons, List.length_nil, List.getElem?_cons_zero, List.getElem?_cons_succ, List.set_cons_zero, List.set_cons_succ, List.take_succ_cons, List.take_zero, List.take_nil, List.drop_succ_cons, List.drop_zero, List.drop_nil, List.cons_append, List.nil_append, List.append_nil, List.replicate_zero, List.getD_cons_zero, List.all_cons, List.all_nil, Option.getD_some, Option.map_some, if_true, if_false, Nat.reduceEqDiff, Nat.reduceAdd, Nat.reduceLT, Nat.zero_add, Nat.le_refl, reduceCtorEq, Bool.and_true, Bool.false_eq_true, eq_self, true_and, and_self, List.all_cons, *] | simp (disch := omega) only [getD_ints, wrapI] | omega)
    exact leaveA_of (.inr rfl) [i64 a, .lit (.agg #[.int .i64 0, .int .i64 0])] (by simp [resL, resAV, aop, ev, get_mk, look, hget, cut, value, mkAgg, toLits]) ⟨rfl, _, _, _, _, _, _, _, rfl⟩
  · rintro e H ⟨rfl, a, rfl⟩
    simp only [blockK, thenK]
    exact leaveA_of (.inr rfl) [i64 A, .lit (.agg #[.int .i64 I, .int .i64 J])] (by simp [resL, resAV, aop, ev, get_mk, look, hget, cut, value, mkAgg, toLits]) ⟨rfl, _, _, _, _, _, _, _, rfl⟩
end Go.Abs
