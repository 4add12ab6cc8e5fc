import Derived.Test.YtodheeifecoebaaK1x
import Derived.Test.YtodheeifecoebaaK282x
import Derived.Test.YtodheeifecoebaaK302x
set_option linter.all false
set_option linter.unusedVariables false
set_option linter.unusedSimpArgs false
set_option linter.unusedSectionVars false
namespace Go.Abs
open Go.Proofs
/-! law 12: a round of the first loop -/
section
variable {w : Int} {n1 n2 : Bool} {zs msk : List Int} {i : Nat} {H : List Blk}
set_option maxHeartbeats 8000000 in
theorem k12l0 (hl : zs.length ≤ 1000) (hml : msk.length < 1000000) (hi : i < zs.length) (hJ : J12 w n1 n2 zs msk i H) (K : Exit → St → Prop) (hT : ∀ τ : St, τ.get 2 = bl true → K .ret τ) :
    T none Try.prog muts 264 0 c12l0 ⟨SL12 zs.length i, H⟩ (thenK (fun s' => (-1000000 ≤ zs.getD i 0 ∧ zs.getD i 0 ≤ 1000000) ∧ J12 w n1 n2 zs msk (i + 1) s'.heap ∧ (s'.only [1, 3, 4, 5]).slots = SL12 zs.length (i + 1)) K) := by
  have h32 := k32 (zs.getD i 0) (-1000000) 1000000
  have g1 : (zs.map fun x => [i64 x]).getD i [] = [i64 (zs.getD i 0)] := getD_ints hi
  have jb := hJ.b
  by_cases hb : -1000000 ≤ zs.getD i 0 ∧ zs.getD i 0 ≤ 1000000
  · rw [show (decide ((-1000000 : Int) ≤ zs.getD i 0) && decide (zs.getD i 0 ≤ 1000000)) = true by rw [decide_eq_true hb.1, decide_eq_true hb.2]; rfl] at h32
    have hdd := fun K hK => k12d (n1 := n1) (n2 := n2) (w := w) (msk := msk) (H := H) hl hi hb hJ K hK
    have hrest : ∀ q (τ : St), τ.only [1, 3, 4, 5] = ⟨SL12 zs.length i, τ.heap⟩ → τ.heap[0]? = some (.cells true false 3 [[i64 w, ints n1 zs, ints n2 msk]]) → 1 < q → τ.heap[1]? = some (.cells true false 2 [[i64 w, .lsl q 0 (i + 1)]]) →
      τ.heap[q]? = some (.cells true false 1 ((phL zs msk i ++ [zs.getD i 0 % 1000]).map fun x => [i64 x])) → ∃ H', H' = τ.heap ∧ H'[0]? = some (.cells true false 3 [[i64 w, ints n1 zs, ints n2 msk]]) ∧ H'[1]? = some (.cells true false 2 [[i64 w, .lsl q 0 (i + 1)]]) ∧
        H'[q]? = some (.cells true false 1 ((phL zs msk i).map (fun x => [i64 x]) ++ [[i64 (zs.getD i 0 % 1000)]])) ∧
        (hasB msk i = false → J12 w n1 n2 zs msk (i + 1) H') ∧ (hasB msk i = true → J12 w n1 n2 zs msk (i + 1) (H'.set q (.cells true false 1 ((phL zs msk i).map (fun x => [i64 x]) ++ [[i64 (-1)]])))) := fun q τ _ h0 hq h1 h2 => by
      have lq := (List.getElem?_eq_some_iff.1 h2).1
      refine ⟨τ.heap, rfl, h0, h1, ?_, fun hf => ⟨h0, fun h => by omega, fun _ => ⟨q, hq, h1, ?_⟩⟩, fun ht => ⟨?_, fun h => by omega, fun _ => ⟨q, hq, ?_, ?_⟩⟩⟩
      · rw [h2, List.map_append]; rfl
      · rw [h2, phL_snoc]; unfold phs; rw [hf]; rfl
      · rw [List.getElem?_set_ne (by omega)]; exact h0
      · rw [List.getElem?_set_ne (by omega)]; exact h1
      · rw [List.getElem?_set_self lq, phL_snoc]; unfold phs; rw [ht, List.map_append]; rfl
    have h58 := k58 n2 msk i hml
    have hLl : ((phL zs msk i).map fun x => [i64 x]).length = i := by rw [List.length_map, phL_len]
    replace hb := PLift.up hb
    replace hdd := PLift.up hdd
    replace hrest := PLift.up hrest
    clear hT hJ
    rw [c12l0_cut]
    repeat' (first
      | ((with_reducible refine T_calm ?_ ?_); rfl)
      | with_reducible first
        | refine T_seq ?_
        | refine T_reg ?_
        | refine T_draw ?_
        | refine T_skip ?_
        | refine T_exit ?_
        | refine T_block ?_
        | refine T_cond_t rfl ?_
        | refine T_cond_f rfl ?_
        | refine wdW_cons rfl ?_
        | (show wcall _ false (.lit (.func (.func 32) _ _)) _ _ _ _; refine wcall_fn (h32) rfl (by simp [plainL, plain]) ?_)
        | (show wcallX _ false (.lit (.func (.func 32) _ _)) _ _ _ _; refine wcallX_fn (h32) rfl (by simp [plainL, plain, plainR, Int.toNat_natCast]) ?_)
        | ((first | refine T_cond rfl (fun hc => ?_) (fun hc => ?_) | refine wguard_split (fun hc => ?_) (fun hc => ?_) | refine wguardX_split (fun hc => ?_) (fun hc => ?_)) <;> have hd := hc <;> (try simp (disch := omega) only [wrapI] at hd) <;> have hs := hd <;> (try simp only [decide_eq_true_eq, decide_eq_false_iff_not, Int.not_lt] at hd) <;> (try simp at hs))
        | refine T_ret ?_
        | refine wif_intro ?_ (fun hc => ?_)
        | refine And.intro ?_ ?_
        | intro hc
      | simp (maxSteps := 4000000) only [wops_nil, wops_cons, wstep_none, wrun_call, wrun_mv, wrun_bin, wrun_not, wrun_load, wrun_faddr, wrun_iaddrS, wop, aop, ev, look, put_some, writes, ores_some, ores_ite_none, binV, thenK, boolV, value, cut, hget, mkAgg, List.map_cons, List.map_nil, List.length_cons, List.length_nil, List.take_succ_cons, List.take_zero, List.take_nil, List.drop_succ_cons, List.drop_zero, List.append_nil, List.replicate_zero, List.getD_cons_zero, List.length_map, Option.getD_some, Option.map_some, if_true, if_false, Nat.reduceEqDiff, Nat.zero_add, reduceCtorEq, Bool.not_true, Bool.false_eq_true, eq_self, and_true, and_self, decide_true, Int.reduceNeg, freeze, lidsL, lids, List.flatMap_cons, List.flatMap_nil, ren, Int.toNat_natCast, *]
      | simp (disch := omega) only [getD_ints, wrapI]
      | (with_reducible show wcall _ false (.lit (.func (.func 32) _ _)) _ _ _ _; refine wcall_fn (h32) ?_ ?_ ?_; (next => simp [rfyL, rfy, hget, ints, take_rfy, Int.toNat_natCast]); (next => simp [plainL, plain, plainR, Int.toNat_natCast]))
      | (with_reducible show wcallX _ false (.lit (.func (.func 32) _ _)) _ _ _ _; refine wcallX_fn (h32) ?_ ?_ ?_; (next => simp [rfyL, rfy, hget, ints, take_rfy, Int.toNat_natCast]); (next => simp [plainL, plain, plainR, Int.toNat_natCast]))
      | omega)
    refine T_onlyW (S := ⟨SL12 zs.length i, H⟩) [1, 3, 4, 5] (by simp [St.only, get_mk, look]) (hdd.down _ fun q τ hτ h0 hq h1 h2 => ?_)
    obtain ⟨H', hH', e0, e1, e2, eF, eT⟩ := hrest.down q τ hτ h0 hq h1 h2
    refine T_onlyW (S := ⟨SL12 zs.length i, H'⟩) [1, 3, 4, 5] (by rw [hH']; exact hτ) ?_
    clear hdd hrest hτ h0 h1 h2 hH' jb h32 g1
    replace hq := PLift.up hq
    generalize (phL zs msk i).map (fun x => [i64 x]) = L at *
    cases hbm : hasB msk i with
    | false =>
      rw [hbm] at h58
      have eJ := PLift.up (eF hbm)
      clear eF eT
      repeat' (first
        | ((with_reducible refine T_calm ?_ ?_); rfl)
        | with_reducible first
          | refine T_seq ?_
          | refine T_reg ?_
          | refine T_draw ?_
          | refine T_skip ?_
          | refine T_exit ?_
          | refine T_block ?_
          | refine T_cond_t rfl ?_
          | refine T_cond_f rfl ?_
          | refine wdW_cons rfl ?_
          | (show wcall _ false (.lit (.func (.func 58) _ _)) _ _ _ _; refine wcall_fn (h58) rfl (by simp [plainL, plain]) ?_)
          | (show wcallX _ false (.lit (.func (.func 58) _ _)) _ _ _ _; refine wcallX_fn (h58) rfl (by simp [plainL, plain, plainR, Int.toNat_natCast]) ?_)
          | ((first | refine T_cond rfl (fun hc => ?_) (fun hc => ?_) | refine wguard_split (fun hc => ?_) (fun hc => ?_) | refine wguardX_split (fun hc => ?_) (fun hc => ?_)) <;> have hd := hc <;> (try simp (disch := omega) only [wrapI] at hd) <;> have hs := hd <;> (try simp only [Bool.not_eq_true', Bool.not_eq_false', Bool.and_eq_true, Bool.and_eq_false_iff, Bool.or_eq_true, Bool.or_eq_false_iff, decide_eq_true_eq, decide_eq_false_iff_not, beq_iff_eq, bne_iff_ne, beq_eq_false_iff_ne, bne_eq_false_iff_eq, Bool.not_true, Bool.not_false, gt_iff_lt, ge_iff_le, Int.not_lt, Int.not_le, ne_eq, Decidable.not_not] at hd) <;> (try simp at hs))
          | refine T_ret ?_
          | refine wif_intro ?_ (fun hc => ?_)
          | refine And.intro ?_ ?_
          | intro hc
        | simp (maxSteps := 4000000) only [wops_nil, wops_cons, wstep_none, wrun_call, wrun_mv, wrun_bin, wrun_load, wrun_faddr, wop, aop, ev, look, put_some, writes, ores_some, binV, thenK, blockK, value, cut, hget, mkAgg, List.map_cons, List.map_nil, List.length_cons, List.length_nil, List.take_succ_cons, List.take_nil, List.drop_succ_cons, List.drop_zero, List.append_nil, List.replicate_zero, List.getD_cons_zero, Option.getD_some, Option.map_some, if_true, if_false, Nat.reduceEqDiff, Nat.zero_add, reduceCtorEq, Bool.false_eq_true, eq_self, Int.reduceNeg, freeze, lidsL, lids, List.flatMap_cons, List.flatMap_nil, ren, *]
        | simp (disch := omega) only [wrapI]
        | (with_reducible show wcall _ false (.lit (.func (.func 58) _ _)) _ _ _ _; refine wcall_fn (h58) ?_ ?_ ?_; (next => simp [rfyL, rfy, hget, ints, take_rfy, Int.toNat_natCast]); (next => simp [plainL, plain, plainR, Int.toNat_natCast]))
        | (with_reducible show wcallX _ false (.lit (.func (.func 58) _ _)) _ _ _ _; refine wcallX_fn (h58) ?_ ?_ ?_; (next => simp [rfyL, rfy, hget, ints, take_rfy, Int.toNat_natCast]); (next => simp [plainL, plain, plainR, Int.toNat_natCast]))
        | omega)
      all_goals first | exact hb.down.1 | exact hb.down.2 | exact eJ.down | (simp [St.only, get_mk, look]; done)
    | true =>
      rw [hbm] at h58
      have s1 : (L ++ [[i64 (zs.getD i 0 % 1000)]]).set i [i64 (-1)] = L ++ [[i64 (-1)]] := by
        rw [List.set_append_right _ _ (by omega), hLl, Nat.sub_self]; rfl
      have s2 : (L ++ [[i64 (zs.getD i 0 % 1000)]]).getD i [] = [i64 (zs.getD i 0 % 1000)] := by
        rw [List.getD_eq_getElem?_getD, List.getElem?_append_right (by omega), hLl, Nat.sub_self]; rfl
      have eJ := eT hbm
      rw [← s1] at eJ
      replace eJ := PLift.up eJ
      clear eF eT s1
      repeat' (first
        | ((with_reducible refine T_calm ?_ ?_); rfl)
        | with_reducible first
          | refine T_seq ?_
          | refine T_reg ?_
          | refine T_draw ?_
          | refine T_skip ?_
          | refine T_exit ?_
          | refine T_block ?_
          | refine T_cond_t rfl ?_
          | refine T_cond_f rfl ?_
          | refine wdW_cons rfl ?_
          | (show wcall _ false (.lit (.func (.func 58) _ _)) _ _ _ _; refine wcall_fn (h58) rfl (by simp [plainL, plain]) ?_)
          | (show wcallX _ false (.lit (.func (.func 58) _ _)) _ _ _ _; refine wcallX_fn (h58) rfl (by simp [plainL, plain, plainR, Int.toNat_natCast]) ?_)
          | ((first | refine T_cond rfl (fun hc => ?_) (fun hc => ?_) | refine wguard_split (fun hc => ?_) (fun hc => ?_) | refine wguardX_split (fun hc => ?_) (fun hc => ?_)) <;> have hd := hc <;> (try simp (disch := omega) only [wrapI] at hd) <;> have hs := hd <;> (try simp only [Bool.not_eq_true', Bool.not_eq_false', Bool.and_eq_true, Bool.and_eq_false_iff, Bool.or_eq_true, Bool.or_eq_false_iff, decide_eq_true_eq, decide_eq_false_iff_not, beq_iff_eq, bne_iff_ne, beq_eq_false_iff_ne, bne_eq_false_iff_eq, Bool.not_true, Bool.not_false, gt_iff_lt, ge_iff_le, Int.not_lt, Int.not_le, ne_eq, Decidable.not_not] at hd) <;> (try simp at hs))
          | refine T_ret ?_
          | refine wif_intro ?_ (fun hc => ?_)
          | refine And.intro ?_ ?_
          | intro hc
        | simp (maxSteps := 4000000) only [wops_nil, wops_cons, wstep_none, wrun_call, wrun_mv, wrun_bin, wrun_load, wrun_store, wrun_faddr, wrun_iaddrS, wop, aop, ev, look, put_some, put_none, writes, ores_some, ores_ite_none, binV, thenK, blockK, value, cut, hget, putCells, AV.parts, isOne, mkAgg, List.map_cons, List.map_nil, List.length_cons, List.length_nil, List.take_succ_cons, List.take_zero, List.take_nil, List.drop_succ_cons, List.drop_zero, List.drop_nil, List.cons_append, List.nil_append, List.append_nil, List.append_assoc, List.replicate_zero, List.getD_cons_zero, List.all_cons, List.all_nil, List.length_append, Option.getD_some, Option.map_some, if_true, if_false, Nat.reduceEqDiff, Nat.zero_add, Nat.le_refl, reduceCtorEq, Bool.and_true, Bool.false_eq_true, eq_self, true_and, and_true, Int.reduceNeg, freeze, lidsL, lids, List.flatMap_cons, List.flatMap_nil, List.all_cons, ren, Int.toNat_natCast, *]
        | simp (disch := omega) only [wrapI]
        | (with_reducible show wcall _ false (.lit (.func (.func 58) _ _)) _ _ _ _; refine wcall_fn (h58) ?_ ?_ ?_; (next => simp [rfyL, rfy, hget, ints, take_rfy, Int.toNat_natCast]); (next => simp [plainL, plain, plainR, Int.toNat_natCast]))
        | (with_reducible show wcallX _ false (.lit (.func (.func 58) _ _)) _ _ _ _; refine wcallX_fn (h58) ?_ ?_ ?_; (next => simp [rfyL, rfy, hget, ints, take_rfy, Int.toNat_natCast]); (next => simp [plainL, plain, plainR, Int.toNat_natCast]))
        | omega)
      all_goals first | exact hb.down.1 | exact hb.down.2 | exact eJ.down | (simp [St.only, get_mk, look]; done)
  · rw [show (decide ((-1000000 : Int) ≤ zs.getD i 0) && decide (zs.getD i 0 ≤ 1000000)) = false by rw [← Bool.decide_and]; exact decide_eq_false hb] at h32
    replace hT := PLift.up hT
    clear hb hJ
    rw [c12l0_cut]
    repeat' (first
      | ((with_reducible refine T_calm ?_ ?_); rfl)
      | with_reducible first
        | refine T_seq ?_
        | refine T_reg ?_
        | refine T_draw ?_
        | refine T_skip ?_
        | refine T_exit ?_
        | refine T_block ?_
        | refine T_cond_t rfl ?_
        | refine T_cond_f rfl ?_
        | refine wdW_cons rfl ?_
        | (show wcall _ false (.lit (.func (.func 32) _ _)) _ _ _ _; refine wcall_fn (h32) rfl (by simp [plainL, plain]) ?_)
        | (show wcallX _ false (.lit (.func (.func 32) _ _)) _ _ _ _; refine wcallX_fn (h32) rfl (by simp [plainL, plain, plainR, Int.toNat_natCast]) ?_)
        | ((first | refine T_cond rfl (fun hc => ?_) (fun hc => ?_) | refine wguard_split (fun hc => ?_) (fun hc => ?_) | refine wguardX_split (fun hc => ?_) (fun hc => ?_)) <;> have hd := hc <;> (try simp (disch := omega) only [wrapI] at hd) <;> have hs := hd <;> (try simp only [decide_eq_true_eq, decide_eq_false_iff_not, Int.not_lt] at hd) <;> (try simp at hs))
        | refine T_ret ?_
        | refine wif_intro ?_ (fun hc => ?_)
        | refine And.intro ?_ ?_
        | intro hc
      | simp (maxSteps := 4000000) only [wops_nil, wops_cons, wstep_none, wrun_call, wrun_mv, wrun_bin, wrun_not, wrun_load, wrun_faddr, wrun_iaddrS, wop, aop, ev, look, put_some, writes, ores_some, ores_ite_none, binV, thenK, blockK, boolV, value, cut, hget, mkAgg, List.map_cons, List.map_nil, List.length_cons, List.length_nil, List.take_succ_cons, List.take_zero, List.take_nil, List.drop_succ_cons, List.drop_zero, List.append_nil, List.replicate_zero, List.getD_cons_zero, List.length_map, Option.getD_some, Option.map_some, if_true, if_false, Nat.reduceEqDiff, Nat.zero_add, reduceCtorEq, Bool.not_false, Bool.false_eq_true, eq_self, and_true, and_self, decide_true, Int.reduceNeg, freeze, lidsL, lids, List.flatMap_cons, List.flatMap_nil, ren, Int.toNat_natCast, *]
      | simp (disch := omega) only [getD_ints, wrapI]
      | (with_reducible show wcall _ false (.lit (.func (.func 32) _ _)) _ _ _ _; refine wcall_fn (h32) ?_ ?_ ?_; (next => simp [rfyL, rfy, hget, ints, take_rfy, Int.toNat_natCast]); (next => simp [plainL, plain, plainR, Int.toNat_natCast]))
      | (with_reducible show wcallX _ false (.lit (.func (.func 32) _ _)) _ _ _ _; refine wcallX_fn (h32) ?_ ?_ ?_; (next => simp [rfyL, rfy, hget, ints, take_rfy, Int.toNat_natCast]); (next => simp [plainL, plain, plainR, Int.toNat_natCast]))
      | omega)
    all_goals first | exact hT.down _ rfl
end
end Go.Abs
