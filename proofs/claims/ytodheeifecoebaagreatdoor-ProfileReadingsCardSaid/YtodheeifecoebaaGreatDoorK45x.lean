import Derived.Test.YtodheeifecoebaaGreatDoorPCmin
import Derived.Test.YtodheeifecoebaaGreatDoorK44x
set_option linter.all false
set_option linter.unusedVariables false
set_option linter.unusedSimpArgs false
set_option linter.unusedSectionVars false
namespace Go.Abs
open Go.Proofs
/-! slices.Reverse upon a block -/
/-- k swaps done -/
def revP (xs : List Int) (k : Nat) : List Int := (List.range xs.length).map fun i => if i < k ∨ xs.length - 1 - i < k then xs.getD (xs.length - 1 - i) 0 else xs.getD i 0
theorem revP_len (xs : List Int) (k : Nat) : (revP xs k).length = xs.length := by simp [revP]
theorem revP_get {xs : List Int} {k i : Nat} (h : i < xs.length) : (revP xs k).getD i 0 = if i < k ∨ xs.length - 1 - i < k then xs.getD (xs.length - 1 - i) 0 else xs.getD i 0 := by
  simp [revP, List.getD, h]
theorem revP_zero (xs : List Int) : revP xs 0 = xs := by
  refine List.ext_getElem (by simp [revP]) fun i h1 h2 => ?_
  simp [revP, List.getD, h2]
theorem getD_ext {a b : List Int} (hl : a.length = b.length) (h : ∀ i, i < a.length → a.getD i 0 = b.getD i 0) : a = b := by
  refine List.ext_getElem hl fun i h1 h2 => ?_
  have := h i h1
  simpa [List.getD, h1, h2] using this
theorem revP_succ {xs : List Int} {k : Nat} (h : k < xs.length - 1 - k) : ((revP xs k).set k (xs.getD (xs.length - 1 - k) 0)).set (xs.length - 1 - k) (xs.getD k 0) = revP xs (k + 1) := by
  refine getD_ext (by simp [revP]) fun i hi => ?_
  simp only [List.length_set, revP_len] at hi
  rw [getD_set_int, getD_set_int, List.length_set, revP_len, revP_get hi, revP_get hi]
  by_cases h1 : xs.length - 1 - k = i
  · subst h1
    rw [if_pos (by omega), if_pos (by omega), show xs.length - 1 - (xs.length - 1 - k) = k by omega]
  · rw [if_neg (by omega)]
    by_cases h2 : k = i
    · subst h2
      rw [if_pos (by omega), if_pos (by omega)]
    · rw [if_neg (by omega)]
      by_cases h200 : i < k ∨ xs.length - 1 - i < k
      · rw [if_pos h200, if_pos (by omega)]
      · rw [if_neg h200, if_neg (by omega)]
theorem revP_done {xs : List Int} {k : Nat} (h : ¬ k < xs.length - 1 - k) : revP xs k = xs.reverse := by
  refine getD_ext (by simp [revP]) fun i hi => ?_
  rw [revP_len] at hi
  rw [revP_get hi]
  have e : xs.reverse.getD i 0 = xs.getD (xs.length - 1 - i) 0 := by
    simp [List.getD, List.getElem?_reverse hi]
  rw [e]
  by_cases h200 : i < k ∨ xs.length - 1 - i < k
  · rw [if_pos h200]
  · rw [if_neg h200, show xs.length - 1 - i = i by omega]
set_option maxHeartbeats 8000000 in
theorem k65 {H : List Blk} {ib : Nat} (xs : List Int) (hl : xs.length < 1000000) (h1 : 1 ≤ xs.length) (hs0 : H[ib]? = some (.cells true false 1 (xs.map fun x => [i64 x]))) :
    ACall Tryz.prog 65 [.lsl ib 0 xs.length] H fun _ H' => H' = H.set ib (.cells true false 1 (xs.reverse.map fun x => [i64 x])) := by
  refine envOf_all e65 ?_
  unfold c65
  have hib : ib < H.length := (List.getElem?_eq_some_iff.1 hs0).1
  have hH : H = H.set ib (.cells true false 1 ((revP xs 0).map fun x => [i64 x])) := by
    rw [revP_zero]
    refine List.ext_getElem? fun i => ?_
    by_cases hi : ib = i
    · subst hi; rw [List.getElem?_set_self hib, hs0]
    · rw [List.getElem?_set_ne hi]
  replace hH : id (H = H.set ib (.cells true false 1 ((revP xs 0).map fun x => [i64 x]))) := hH
  repeat' (first | ((with_reducible refine T_calm ?_ ?_); rfl) | (with_reducible first | refine T_seq ?_ | refine T_reg ?_ | refine T_draw ?_ | refine T_skip ?_ | refine T_exit ?_ | refine T_block ?_ | refine T_cond_t rfl ?_ | refine T_cond_f rfl ?_ | refine wdW_cons rfl ?_ | refine T_ret ?_ | refine leave_of (.inr rfl) _ rfl ?_ | refine leave_of (.inl rfl) _ rfl ?_ | refine leaveA_of (.inr rfl) _ rfl ?_ | refine leaveA_of (.inl rfl) _ rfl ?_ | refine wif_intro ?_ (fun hc => ?_) | refine And.intro ?_ ?_ | intro hc) | simp (maxSteps := 4000000) only [wops_nil, wops_cons, wstep_none, wrun_mv, wrun_bin, wrun_len, wop, aop, ev, look, put_some, writes, ores_some, ores_map, ores_bind, binV, thenK, intV, lenOf, hget, List.map_cons, List.map_nil, List.append_nil, List.replicate_zero, List.zipIdx_cons, List.zipIdx_nil, Option.pure_def, Option.bind_eq_bind, Option.getD_some, Option.map_some, if_true, if_false, Nat.reduceEqDiff, Nat.zero_add, reduceCtorEq, eq_self, *] | simp (disch := omega) only [wrapI] | omega)
  refine T_for [0, 2, 3] (fun k => ⟨[(0, .lsl ib 0 xs.length), (2, i64 k), (3, i64 ((xs.length : Int) - 1 - k))], H.set ib (.cells true false 1 ((revP xs k).map fun x => [i64 x]))⟩) xs.length (fun k => True) 0 ?_ trivial (Nat.zero_le _) ?_
  · have : H.set ib (.cells true false 1 ((revP xs 0).map fun x => [i64 x])) = H := hH.symm
    rw [this]
    simp [St.only, get_mk, look]
  intro k hk _
  unfold c65l0
  have hg : ∀ b : Blk, (H.set ib b)[ib]? = some b := fun b => List.getElem?_set_self hib
  have hrl := revP_len xs k
  by_cases hkn : k < xs.length - 1 - k
  · have e1 : ((xs.length : Int) - 1 - k).toNat = xs.length - 1 - k := by omega
    have hg2 : ((revP xs k).map fun x => [i64 x]).getD k [] = [i64 (xs.getD k 0)] := by
      rw [getD_ints (by omega), revP_get (by omega), if_neg (by omega)]
    have hg3 : ((revP xs k).map fun x => [i64 x]).getD (xs.length - 1 - k) [] = [i64 (xs.getD (xs.length - 1 - k) 0)] := by
      rw [getD_ints (by omega), revP_get (by omega), if_neg (by omega)]
    have hsc := revP_succ hkn
    have hg5 : ∀ v, (((revP xs k).set k v).map fun x => [i64 x]).getD (xs.length - 1 - k) [] = [i64 (((revP xs k).set k v).getD (xs.length - 1 - k) 0)] := fun v => getD_ints (by simp [hrl]; omega)
    repeat' (first | ((with_reducible refine T_calm ?_ ?_); rfl) | (with_reducible first | refine T_seq ?_ | refine T_reg ?_ | refine T_draw ?_ | refine T_skip ?_ | refine T_exit ?_ | refine T_block ?_ | refine T_cond_t rfl ?_ | refine T_cond_f rfl ?_ | refine wdW_cons rfl ?_ | ((first | refine T_cond rfl (fun hc => ?_) (fun hc => ?_) | refine wguard_split (fun hc => ?_) (fun hc => ?_) | refine wguardX_split (fun hc => ?_) (fun hc => ?_)) <;> have hd := hc <;> (try simp (disch := omega) only [wrapI] at hd) <;> have hs := hd <;> (try simp only [decide_eq_true_eq, decide_eq_false_iff_not, Int.not_lt] at hd) <;> (try simp at hs)) | refine T_ret ?_ | refine leave_of (.inr rfl) _ rfl ?_ | refine leave_of (.inl rfl) _ rfl ?_ | refine leaveA_of (.inr rfl) _ rfl ?_ | refine leaveA_of (.inl rfl) _ rfl ?_ | refine wif_intro ?_ (fun hc => ?_) | refine And.intro ?_ ?_ | intro hc) | simp (maxSteps := 4000000) only [wops_nil, wops_cons, wstep_none, wrun_mv, wrun_bin, wrun_load, wrun_store, wrun_iaddrS, wrunX_mv, wrunX_load, wrunX_store, wrunX_iaddrS, wdW_nil, wstepX_none, wop, aop, ev, look, put_some, put_none, writes, ores_some, ores_ite_none, binV, thenK, blockK, value, cut, hget, putCells, AV.parts, isOne, toLits, mkAgg, List.length_cons, List.length_nil, List.take_succ_cons, List.take_zero, List.take_nil, List.drop_succ_cons, List.drop_zero, List.drop_nil, List.nil_append, List.append_nil, List.replicate_zero, List.all_cons, List.all_nil, List.length_map, Option.getD_some, Option.map_some, if_true, if_false, Nat.reduceEqDiff, Nat.zero_add, Nat.le_refl, reduceCtorEq, Bool.and_true, Bool.false_eq_true, eq_self, true_and, and_true, and_self, decide_true, List.all_cons, set_ints, List.set_set, Int.toNat_natCast, List.length_set, *] | simp (disch := omega) only [wrapI] | omega)
    have e206 : (xs.length : Int) - 1 - k - 1 = xs.length - 1 - ((k + 1 : Nat) : Int) := by omega
    rw [e206]
    simp [St.only, get_mk, look]
  · have hdn := revP_done hkn
    repeat' (first | ((with_reducible refine T_calm ?_ ?_); rfl) | (with_reducible first | refine T_seq ?_ | refine T_reg ?_ | refine T_draw ?_ | refine T_skip ?_ | refine T_exit ?_ | refine T_block ?_ | refine T_cond_t rfl ?_ | refine T_cond_f rfl ?_ | refine wdW_cons rfl ?_ | ((first | refine T_cond rfl (fun hc => ?_) (fun hc => ?_) | refine wguard_split (fun hc => ?_) (fun hc => ?_) | refine wguardX_split (fun hc => ?_) (fun hc => ?_)) <;> have hd := hc <;> (try simp (disch := omega) only [wrapI] at hd) <;> have hs := hd <;> (try simp only [decide_eq_true_eq, decide_eq_false_iff_not, Int.not_lt] at hd) <;> (try simp at hs)) | refine T_ret ?_ | refine leave_of (.inr rfl) _ rfl ?_ | refine leave_of (.inl rfl) _ rfl ?_ | refine leaveA_of (.inr rfl) _ rfl ?_ | refine leaveA_of (.inl rfl) _ rfl ?_ | refine wif_intro ?_ (fun hc => ?_) | refine And.intro ?_ ?_ | intro hc) | simp (maxSteps := 4000000) only [wops_nil, wops_cons, wstep_none, wrun_mv, wrun_bin, wrun_load, wrun_iaddrS, wrunX_mv, wrunX_load, wrunX_iaddrS, wstepX_none, wop, aop, ev, look, put_some, writes, ores_some, ores_none, ores_ite_none, ores_map, binV, thenK, blockK, value, cut, hget, mkAgg, List.length_cons, List.length_nil, List.take_succ_cons, List.take_nil, List.drop_zero, List.append_nil, List.replicate_zero, Option.getD_some, Option.map_some, if_true, if_false, Nat.reduceEqDiff, Nat.zero_add, reduceCtorEq, Bool.false_eq_true, eq_self, and_true, decide_true, *] | simp (disch := omega) only [getD_ints] | omega)
end Go.Abs
