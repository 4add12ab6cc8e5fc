import Derived.Test.YtdedhipkncagjaaK504x
set_option linter.all false
set_option linter.unusedVariables false
set_option linter.unusedSimpArgs false
set_option linter.unusedSectionVars false
namespace Go.Abs
open Go.Proofs
/-! judge, whole; Judge; the example -/
structure ROk (L : List (Int × Int)) : Prop where
  n : 1 ≤ L.length ∧ L.length ≤ 40
  r : ∀ j, j < L.length → (-100000 ≤ (L.getD j (0, 0)).1 ∧ (L.getD j (0, 0)).1 ≤ 100000) ∧ (-100000 ≤ (L.getD j (0, 0)).2 ∧ (L.getD j (0, 0)).2 ≤ 100000)
  le : ∀ j, j < L.length → (L.getD j (0, 0)).1 ≤ (L.getD j (0, 0)).2
set_option maxHeartbeats 8000000 in
theorem k27 {nb : Bool} {L : List (Int × Int)} {pk sl A I J : Int} (hR : ROk L) (hsl : 0 ≤ sl ∧ sl ≤ 200000) (hj : jdg L pk sl (prs L.length) 1 = (A, I, J)) : Fn Try.prog 27 [tlV pk sl, .sl nb 2 (rgR L)] (.tup [i64 A, .lit (.agg #[.int .i64 I, .int .i64 J])]) [] := by
  refine fn_of e27 ?_
  have hll := rgR_len L
  have hn := hR.n
  have h30 := k30 (L.length : Int)
  have hit := PLift.up (i59 5 L.length (by omega))
  have hbody := PLift.up (fun (i k : Nat) (a : Int) hi hk sl0 K hX hN => k27b (nb := nb) (L := L) (pk := pk) (sl := sl) (a := a) (i := i) (k := k) (l := sl0) (sl0 := []) hi hk (by omega) hR.r hsl K hX hN)
  clear hR hsl
  unfold c27
  repeat' (first | ((with_reducible refine T_calm ?_ ?_); rfl) | (with_reducible first | refine T_seq ?_ | refine T_reg ?_ | refine T_draw ?_ | refine T_skip ?_ | refine T_exit ?_ | refine T_block ?_ | refine T_cond_t rfl ?_ | refine T_cond_f rfl ?_ | refine wdW_cons rfl ?_ | (show wcall _ false (.lit (.func (.func 30) _ _)) _ _ _ _; refine wcall_fn (h30) rfl (by simp [plainL, plain]) ?_) | (show wcallX _ false (.lit (.func (.func 30) _ _)) _ _ _ _; refine wcallX_fn (h30) rfl (by simp [plainL, plain, plainR, plainR_rg, Int.toNat_natCast]) ?_) | refine T_ret ?_ | refine wif_intro ?_ (fun hc => ?_) | refine And.intro ?_ ?_ | intro hc) | simp (maxSteps := 4000000) only [wops_nil, wops_cons, wstep_none, wrun_call, wrun_load, wrun_store, wrun_len, wrun_alloc, wrun_box, wop, aop, ev, look, put_some, put_none, writes, ores_some, ores_map, ores_bind, thenK, intV, lenOf, value, cut, hget, putCells, AV.parts, isOne, toLits, mkAgg, ofValue_int, List.map_cons, List.map_nil, List.length_cons, List.length_nil, List.getElem?_cons_zero, List.getElem?_cons_succ, List.set_cons_zero, List.set_cons_succ, List.take_succ_cons, List.take_zero, List.take_nil, List.drop_succ_cons, List.drop_zero, List.drop_nil, List.cons_append, List.nil_append, List.append_nil, List.append_assoc, List.replicate_zero, List.replicate_succ, List.getD_cons_zero, List.zipIdx_cons, List.zipIdx_nil, List.all_cons, List.all_nil, Option.pure_def, Option.bind_eq_bind, Option.getD_some, Option.map_some, if_true, if_false, Nat.reduceEqDiff, Nat.reduceAdd, Nat.reduceLT, Nat.add_zero, Nat.zero_add, Nat.le_refl, Nat.zero_ne_one, reduceCtorEq, Bool.and_true, Bool.false_eq_true, eq_self, true_and, and_self, freeze, lidsL, lids, List.flatMap_cons, List.flatMap_nil, List.all_cons, ren, renL, renR, renB, shiftρ, *] | simp (disch := omega) only [getD_ints, wrapI] | (with_reducible show wcall _ false (.lit (.func (.func 30) _ _)) _ _ _ _; refine wcall_fn (h30) ?_ ?_ ?_; (next => simp [rfyL, rfy, hget, ints, take_rfy, plainR_rg, Int.toNat_natCast]); (next => simp [plainL, plain, plainR, plainR_rg, Int.toNat_natCast])) | (with_reducible show wcallX _ false (.lit (.func (.func 30) _ _)) _ _ _ _; refine wcallX_fn (h30) ?_ ?_ ?_; (next => simp [rfyL, rfy, hget, ints, take_rfy, plainR_rg, Int.toNat_natCast]); (next => simp [plainL, plain, plainR, plainR_rg, Int.toNat_natCast])) | omega)
  refine T_range (gf := 59) (first := []) (cap := [.loc 5 0 0]) (n := (prs L.length).length) (E := EP L.length) (Bc := BP 5 L.length)
    (fun k H => ∃ a, jdg L pk sl ((prs L.length).drop k) a = (A, I, J) ∧ H = H27 nb L pk sl 0 a 0 0 [.obj .lpx])
    (fun e H => e = .ret ∧ ∃ a, H = H27 nb L pk sl A a I J [.obj .lpx]) rfl hit.down ?_ ?_ ?_ ?_ ?_ ?_ ?_
  · rintro k H ⟨a, _, rfl⟩
    exact ⟨_, _, rfl⟩
  · rintro H r s ⟨o, nn, h⟩ hh
    refine ⟨o, nn, ?_⟩
    rwa [List.getElem?_set_ne (by simp)] at h
  · rintro k H r s args h _
    exact h
  · exact ⟨1, hj, rfl⟩
  · rintro k H args hk ⟨a, ha, rfl⟩ hlp ⟨p, hp, rfl⟩
    obtain ⟨h1, h2⟩ := prs_lt (List.mem_of_getElem? hp)
    refine ⟨rfl, _, rfl, fun l => ?_⟩
    have hd : (prs L.length).drop k = p :: (prs L.length).drop (k + 1) := by
      rw [List.drop_eq_getElem_cons hk]
      rw [List.getElem?_eq_getElem hk] at hp
      rw [Option.some.inj hp]
    rw [hd] at ha
    refine T_onlyU (S := ⟨[(8, i64 p.2), (7, i64 p.1), (2, .loc 0 0 0), (3, .loc 1 0 0), (4, .loc 2 0 0), (5, .loc 3 0 0), (6, .loc 4 0 0)], H27 nb L pk sl 0 a 0 0 [.obj .lpx]⟩) [8, 7, 2, 3, 4, 5, 6] ?_ (hbody.down p.1 p.2 a h1 h2 l _ ?_ ?_)
    · simp [St.only, get_mk, look]
    · intro hx τ ht
      unfold jdg at ha
      rw [if_pos hx] at ha
      simp only [Prod.mk.injEq] at ha
      obtain ⟨rfl, rfl, rfl⟩ := ha
      refine ⟨by rw [ht]; rfl, rfl, a, ht⟩
    · intro hx τ ht
      unfold jdg at ha
      rw [if_neg hx] at ha
      exact ⟨by rw [ht]; rfl, _, ha, ht⟩
  · rintro H ⟨a, ha, rfl⟩
    rw [List.drop_length] at ha
    unfold jdg at ha
    simp only [Prod.mk.injEq] at ha
    obtain ⟨rfl, rfl, rfl⟩ := ha
    clear hit hbody h30
    repeat' (first | ((with_reducible refine T_calm ?_ ?_); rfl) | (with_reducible first | refine T_seq ?_ | refine T_reg ?_ | refine T_draw ?_ | refine T_skip ?_ | refine T_exit ?_ | refine T_block ?_ | refine T_cond_t rfl ?_ | refine T_cond_f rfl ?_ | refine wdW_cons rfl ?_ | refine T_ret ?_ | refine wif_intro ?_ (fun hc => ?_) | refine And.intro ?_ ?_ | intro hc) | simp (maxSteps := 4000000) only [wops_nil, wops_cons, wstep_none, wrun_build, wrun_load, wrun_store, wop, aop, ev, look, put_some, put_none, writes, ores_some, thenK, blockK, value, cut, hget, fillA, putCells, AV.parts, isOne, toLits, mkAgg, ofValue_int, List.map_cons, List.map_nil, List.length_cons, List.length_nil, List.getElem?_cons_zero, List.getElem?_cons_succ, List.set_cons_zero, List.set_cons_succ, List.take_succ_cons, List.take_zero, List.take_nil, List.drop_succ_cons, List.drop_zero, List.drop_nil, List.cons_append, List.nil_append, List.append_nil, List.replicate_zero, List.getD_cons_zero, List.all_cons, List.all_nil, Option.getD_some, Option.map_some, if_true, if_false, Nat.reduceEqDiff, Nat.reduceAdd, Nat.reduceLT, Nat.zero_add, Nat.le_refl, reduceCtorEq, Bool.and_true, Bool.false_eq_true, eq_self, true_and, and_self, List.all_cons, *] | simp (disch := omega) only [getD_ints, wrapI] | omega)
    exact leave_of (.inr rfl) [i64 a, .lit (.agg #[.int .i64 0, .int .i64 0])] (by simp [resL, resAV, aop, ev, get_mk, look, hget, cut, value, mkAgg, toLits]) ⟨rfl, rfl⟩
  · rintro e H ⟨rfl, a, rfl⟩
    simp only [blockK, thenK]
    exact leave_of (.inr rfl) [i64 A, .lit (.agg #[.int .i64 I, .int .i64 J])] (by simp [resL, resAV, aop, ev, get_mk, look, hget, cut, value, mkAgg, toLits]) ⟨rfl, rfl⟩
end Go.Abs
