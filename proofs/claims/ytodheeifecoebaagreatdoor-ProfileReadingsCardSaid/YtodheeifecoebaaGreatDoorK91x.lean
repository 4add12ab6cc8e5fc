import Derived.Test.YtodheeifecoebaaGreatDoorPCmin
import Derived.Test.YtodheeifecoebaaGreatDoorK50x
import Derived.Test.YtodheeifecoebaaGreatDoorK90
set_option linter.all false
set_option linter.unusedVariables false
set_option linter.unusedSimpArgs false
set_option linter.unusedSectionVars false
namespace Go.Abs
open Go.Proofs
structure IsQ (z : Nat) (M : List (List Int)) (H : List Blk) : Prop where
  t : H[0]? = some (.cells true false 1 ((List.range z).map fun i => [AV.lsl (1 + i) 0 z]))
  r : ∀ i, i < z → H[1 + i]? = some (.cells true false 1 ((M.getD i []).map fun x => [i64 x]))
theorem qRows_get {z i : Nat} (h : i < z) : ((List.range z).map fun i => [AV.lsl (1 + i) 0 z]).getD i [] = [AV.lsl (1 + i) 0 z] := by simp [List.getD, h]
theorem IsQ.mset {z : Nat} {M : List (List Int)} {H : List Blk} (h : IsQ z M H) (hs : Sq z M) {i : Nat} (hi : i < z) (j : Nat) (v : Int) : IsQ z (mset M i j v) (H.set (1 + i) (.cells true false 1 (((M.getD i []).set j v).map fun x => [i64 x]))) := by
  refine ⟨?_, fun a ha => ?_⟩
  · rw [List.getElem?_set_ne (by omega)]; exact h.t
  · unfold Abs.mset
    rw [getD_set_row, hs.hl]
    by_cases hia : i = a
    · subst hia
      rw [if_pos ⟨rfl, hi⟩, List.getElem?_set_self ((List.getElem?_eq_some_iff.1 (h.r i hi)).1)]
    · rw [if_neg (fun x => hia x.1), List.getElem?_set_ne (by omega)]; exact h.r a ha
theorem IsQ.app {z : Nat} {M : List (List Int)} {H : List Blk} (h : IsQ z M H) (X : List Blk) : IsQ z M (H ++ X) := by
  refine ⟨at_app h.t X, fun i hi => at_app (h.r i hi) X⟩
abbrev QL3 (z k i j : Nat) : List (Nat × AV) := [(0, i64 z), (6, .lsl 0 0 z), (11, i64 k), (12, i64 i), (13, i64 j)]
set_option maxHeartbeats 8000000 in
theorem k29l3 {z k i : Nat} {D : List (List Int)} (hz : z ≤ 40) (hk : k < z) (hi : i < z) (hs : Sq z D) (hb : ∀ a b, a < z → b < z → -1000000000000 ≤ mget D a b ∧ mget D a b ≤ 1000000000000) (K : Exit → St → Prop) (j : Nat) (hj : j < z) (H : List Blk) (hH : IsQ z D H) :
    T none Tryz.prog muts 174 0 c29l3 ⟨QL3 z k i j, H⟩ (thenK (fun s' => j < z ∧ IsQ z (rfC D k i j) s'.heap ∧ (s'.only [0, 6, 11, 12, 13]).slots = QL3 z k i (j + 1)) K) := by
  have hmset := fun v => hH.mset hs hi j v
  have hH0 : id (IsQ z D H) := hH
  obtain ⟨ht, hr⟩ := hH
  have hri := hr i hi
  have hrk := hr k hk
  have hti := qRows_get hi
  have htk := qRows_get hk
  have hsi := hs.hr i hi
  have hsk := hs.hr k hk
  have b1 := hb i k hi hk
  have b2 := hb k j hk hj
  have b3 := hb i j hi hj
  have hF : FAR = 1000000000000 := rfl
  have g1 : ((D.getD i []).map fun x => [i64 x]).getD k [] = [i64 (mget D i k)] := getD_ints (by omega)
  have g2 : ((D.getD k []).map fun x => [i64 x]).getD j [] = [i64 (mget D k j)] := getD_ints (by omega)
  have g3 : ((D.getD i []).map fun x => [i64 x]).getD j [] = [i64 (mget D i j)] := getD_ints (by omega)
  have hgi : ((D.getD i []).map fun x => [i64 x]).length = z := by rw [List.length_map]; exact hsi
  clear hr hb hs
  unfold c29l3
  by_cases hc1 : mget D i k < FAR
  · by_cases hc2 : mget D k j < FAR
    · have ef : rfC D k i j = mset D i j (max (min (mget D i j) (mget D i k + mget D k j)) (-FAR)) := if_pos ⟨hc1, hc2⟩
      rw [ef]
      have hm2 := hmset (max (min (mget D i j) (mget D i k + mget D k j)) (-FAR))
      clear hmset
      generalize Abs.mset D i j (max (min (mget D i j) (mget D i k + mget D k j)) (-FAR)) = M2 at *
      have ew : IntKind.i64.wrap (mget D i k + mget D k j) = mget D i k + mget D k j := wrapI (by omega) (by omega)
      have em : (if mget D i k + mget D k j < mget D i j then mget D i k + mget D k j else mget D i j) = min (mget D i j) (mget D i k + mget D k j) := by rw [Int.min_def]; split <;> split <;> omega
      have em2 : ∀ x : Int, (if (-1000000000000 : Int) > x then -1000000000000 else x) = max x (-FAR) := fun x => by rw [Int.max_def]; split <;> split <;> omega
      repeat' (first | ((with_reducible refine T_calm ?_ ?_); rfl) | (with_reducible first | refine T_seq ?_ | refine T_reg ?_ | refine T_draw ?_ | refine T_skip ?_ | refine T_exit ?_ | refine T_block ?_ | refine T_cond_t rfl ?_ | refine T_cond_f rfl ?_ | refine wdW_cons rfl ?_ | ((first | refine T_cond rfl (fun hc => ?_) (fun hc => ?_) | refine wguard_split (fun hc => ?_) (fun hc => ?_) | refine wguardX_split (fun hc => ?_) (fun hc => ?_)) <;> have hd := hc <;> (try simp (disch := omega) only [wrapI] at hd) <;> have hs := hd <;> (try simp only [decide_eq_true_eq, decide_eq_false_iff_not, Int.not_lt] at hd) <;> (try simp at hs)) | refine T_ret ?_ | refine leave_of (.inr rfl) _ rfl ?_ | refine leave_of (.inl rfl) _ rfl ?_ | refine wif_intro ?_ (fun hc => ?_) | refine And.intro ?_ ?_ | intro hc) | simp (maxSteps := 4000000) only [wops_nil, wops_cons, wstep_none, wstep_some, wguard_true, wrun_mv, wrun_pick, wrun_bin, wrun_load, wrun_store, wrun_iaddrS, wrun_minmax, wrunX_mv, wrunX_bin, wrunX_load, wrunX_store, wrunX_iaddrS, wrunX_minmax, wdW_nil, wstepX_none, wop, aop, ev, look, put_some, put_none, writes, ores_some, ores_ite_none, binV, thenK, blockK, value, cut, hget, putCells, AV.parts, isOne, toLits, mkAgg, List.map_cons, List.map_nil, List.length_cons, List.length_nil, List.take_succ_cons, List.take_zero, List.take_nil, List.drop_succ_cons, List.drop_zero, List.drop_nil, List.nil_append, List.append_nil, List.replicate_zero, List.all_cons, List.all_nil, Option.getD_some, Option.map_some, if_true, if_false, Nat.reduceEqDiff, Nat.zero_add, Nat.le_refl, reduceCtorEq, Bool.and_true, Bool.false_eq_true, eq_self, true_and, and_true, and_self, decide_true, Int.reduceNeg, List.all_cons, Int.toNat_natCast, set_ints, *] | simp (disch := omega) only [wrapI] | omega)
      simp [St.only, get_mk, look]
    · have ef : rfC D k i j = D := if_neg (fun x => hc2 x.2)
      rw [ef]
      clear hmset
      repeat' (first | ((with_reducible refine T_calm ?_ ?_); rfl) | (with_reducible first | refine T_seq ?_ | refine T_reg ?_ | refine T_draw ?_ | refine T_skip ?_ | refine T_exit ?_ | refine T_block ?_ | refine T_cond_t rfl ?_ | refine T_cond_f rfl ?_ | refine wdW_cons rfl ?_ | ((first | refine T_cond rfl (fun hc => ?_) (fun hc => ?_) | refine wguard_split (fun hc => ?_) (fun hc => ?_) | refine wguardX_split (fun hc => ?_) (fun hc => ?_)) <;> have hd := hc <;> (try simp (disch := omega) only [wrapI] at hd) <;> have hs := hd <;> (try simp only [decide_eq_true_eq, decide_eq_false_iff_not, Int.not_lt] at hd) <;> (try simp at hs)) | refine T_ret ?_ | refine leave_of (.inr rfl) _ rfl ?_ | refine leave_of (.inl rfl) _ rfl ?_ | refine wif_intro ?_ (fun hc => ?_) | refine And.intro ?_ ?_ | intro hc) | simp (maxSteps := 4000000) only [wops_nil, wops_cons, wstep_none, wstep_some, wguard_true, wrun_mv, wrun_pick, wrun_bin, wrun_load, wrun_iaddrS, wop, aop, ev, look, put_some, writes, ores_some, ores_ite_none, binV, thenK, blockK, value, cut, hget, mkAgg, List.length_cons, List.length_nil, List.take_succ_cons, List.take_nil, List.drop_zero, List.append_nil, List.replicate_zero, Option.getD_some, Option.map_some, if_true, if_false, Nat.reduceEqDiff, Nat.zero_add, reduceCtorEq, Bool.false_eq_true, eq_self, true_and, and_true, and_self, decide_true, decide_false, Int.reduceNeg, Int.toNat_natCast, *] | simp (disch := omega) only [wrapI] | omega)
      · exact hH0
      · simp [St.only, get_mk, look]
  · have ef : rfC D k i j = D := if_neg (fun x => hc1 x.1)
    rw [ef]
    clear hmset
    repeat' (first | ((with_reducible refine T_calm ?_ ?_); rfl) | (with_reducible first | refine T_seq ?_ | refine T_reg ?_ | refine T_draw ?_ | refine T_skip ?_ | refine T_exit ?_ | refine T_block ?_ | refine T_cond_t rfl ?_ | refine T_cond_f rfl ?_ | refine wdW_cons rfl ?_ | ((first | refine T_cond rfl (fun hc => ?_) (fun hc => ?_) | refine wguard_split (fun hc => ?_) (fun hc => ?_) | refine wguardX_split (fun hc => ?_) (fun hc => ?_)) <;> have hd := hc <;> (try simp (disch := omega) only [wrapI] at hd) <;> have hs := hd <;> (try simp only [decide_eq_true_eq, decide_eq_false_iff_not, Int.not_lt] at hd) <;> (try simp at hs)) | refine T_ret ?_ | refine leave_of (.inr rfl) _ rfl ?_ | refine leave_of (.inl rfl) _ rfl ?_ | refine wif_intro ?_ (fun hc => ?_) | refine And.intro ?_ ?_ | intro hc) | simp (maxSteps := 4000000) only [wops_nil, wops_cons, wstep_none, wstep_some, wguard_ft, wrun_mv, wrun_pick, wrun_bin, wrun_load, wrun_iaddrS, wop, aop, ev, look, put_some, writes, ores_some, ores_ite_none, binV, thenK, blockK, value, cut, hget, mkAgg, List.length_cons, List.length_nil, List.take_succ_cons, List.take_nil, List.drop_zero, List.append_nil, List.replicate_zero, Option.getD_some, Option.map_some, if_true, if_false, Nat.reduceEqDiff, Nat.zero_add, reduceCtorEq, Bool.false_eq_true, eq_self, true_and, and_true, decide_true, decide_false, Int.reduceNeg, Int.toNat_natCast, *] | simp (disch := omega) only [wrapI] | omega)
    · exact hH0
    · simp [St.only, get_mk, look]
end Go.Abs
